/-
  Contracts: NatD, NatE, NatF, NatG, NatH.
-/
import Derived.Test.YtfgmmghmmfmdgaaGreatO4
import Derived.Laws.Bits64b
import Derived.Test.YtfgmmghmmfmdgaaGreatO0
set_option linter.all false
set_option maxRecDepth 100000
set_option maxHeartbeats 3200000
namespace Go.Proofs.YtfgmmghmmfmdgaaGreat
open Go.RowKit
open Go.Lib (hid)
variable {P:Prop} {w w':World} {g d k j a b r c off p:Nat} {l lv:List Nat}
theorem Eb(h:P:=by
 go_wp2;go_roundw
 case rel=>exact⟨q-1,r+dig lv (n-1),by rw[EQ1.out],by rw[ER1.out],by have:=HE.out;omega,Xy,G2.out,G3.out,HWn.out _⟩
 case measure=>have:=G1.out;simp[intOf];omega
):P:=h
theorem Ec(h:P:=by simp[Zbp,List.map_const']):P:=h
theorem EO(h:P:=by rw[IntKind.wrap_u64,IntKind.wrap_u64];split<;>omega):P:=h
theorem EY(h:P:=by rw[BitVec.ofInt_natCast,BitVec.toNat_ofNat];exact ZaL Ya):P:=h
theorem Ig(h:P:=by rw[Zm h1,h1];unfold zdU;rw[Zm Ya,ZaO,zaM hlt]):P:=h
theorem Iq(h:P:=by rw[show((q:Int)*(dig lv (n-2):Int))=((q*dig lv (n-2):Nat):Int)from Yc,IntKind.wrap_u64];omega):P:=h
theorem Blk.of_own{base E n:Nat}{f:Nat->Nat}(h:w.ownsRow base E 1 (.slice (some ⟨g,0,none⟩) n n) n ((List.range n).map fun x=>Value.int .u32 (f x:Int))):Blk w g n f E:=by
 rcases h.2 with⟨h0,_⟩|⟨g',cap,cur,he,hb,hg,hnc,hcm,hcs,htake⟩
 ·cases h0
 ·cases he;have hc:cur=zmH n f:=by
   unfold zmH;rw[<- htake,ZM Yi]
  unfold Blk;rw[hg,hc]
theorem zdW(a b:Nat)(ha:a<4294967296)(hb:b<4294967296):bits .or .u32 (a:Int) (b:Int)=((a ||| b:Nat):Int):=by
 have hx:a ||| b<2^32:=Nat.or_lt_two_pow Ya Ya
 have h1:(BitVec.ofInt 32 (a:Int)).toNat=a:=EY;have h2:(BitVec.ofInt 32 (b:Int)).toNat=b:=EY;show IntKind.u32.wrap ((BitVec.ofInt 32 (a:Int) ||| BitVec.ofInt 32 (b:Int)).toNat:Int)=_
 rw[BitVec.toNat_or,h1,h2,IntKind.wrap_u32];omega
theorem ziP(hd:d<4294967296)(hk:k<32):IntKind.u64.wrap ((d:Int)*2^k)=((d*2^k:Nat):Int):=by
 have e:((d:Int)*2^k)=((d*2^k:Nat):Int):=Yc;have h1:2^k<=2^31:=Zt Ya Ya;have h2:d*2^k<=4294967295*2147483648:=ZY Ya h1;rw[e,IntKind.wrap_u64];omega
theorem zp0{f:Nat->Nat}(hf:∀i,f i<4294967296)(hk:k<32):bits .or .u32 (zjS f k j:Int) (IntKind.u64.wrap ((f j:Int)*2^k)%4294967296)=((znz f k j:Nat):Int):=by
 have h1:=ziG (k:=k) hf j;have h2:2^k<=2^31:=Zt Ya Ya;rw[ziP (hf j) hk,show((f j*2^k:Nat):Int)%4294967296=((f j*2^k%4294967296:Nat):Int)from Ya,zdW _ _ Ya Ya]
 congr 1
 unfold znz;rw[zgD h1 (by rw[zqH hk];exact Nat.mul_mod_left _ _),Zbt]
theorem znT{f:Nat->Nat}(hf:∀i,f i<4294967296)(hk:k<32):IntKind.u64.wrap ((f j:Int)*2^k)/4294967296%4294967296=((zjS f k (j+1):Nat):Int):=by
 have h1:=ziG (k:=k) hf (j+1);have h2:2^k<=2^31:=Zt Ya Ya;rw[ziP (hf j) hk];simp only[zjS]at *;omega
def zep(f:Nat->Nat)(k i:Nat):Nat->Nat:=fun j=>if j<i then znz f k j else if j=i then zjS f k i else 0
theorem zmq(f:Nat->Nat)(k:Nat):zep f k 0=fun _=>0:=by
 funext j;unfold zep;rw[Zg Ya];split<;>rfl
theorem zlI(f:Nat->Nat)(k i:Nat):zep f k (i+1)=fun j=>if j=i+1 then zjS f k (i+1)else if j=i then znz f k i else zep f k i j:=by
 funext j;unfold zep
 by_cases h1:j=i+1
 ·subst h1;rw[Zg Ya,Zm rfl,Zm rfl]
 ·rw[Zg h1,Zg h1]
  by_cases h2:j=i
  ·subst h2;rw[Zm Ya,Zm rfl]
  ·rw[Zg h2]
   by_cases h3:j<i
   ·rw[Zm Ya,Zm h3]
   ·rw[Zg Ya,Zg h3,Zg h2]
theorem znx(hl:Lim l)(hk:k<32):∀j,j<l.length+1->zep (dig l) k l.length j=zaw (zo l*2^k) j:=by
 have hv:zA (zep (dig l) k l.length) (l.length+1)=zo l*2^k:=by
  simp only[zA];rw[zaj (n:=l.length) (f:=zep (dig l) k l.length) (g:=znz (dig l) k) (fun j hj=>by unfold zep;rw[Zm hj])];have:zep (dig l) k l.length l.length=zjS (dig l) k l.length:=KS;rw[this];exact zul (dig l) k l.length
 intro j hj;rw[<- hv,zdC ?_ hj];intro i;unfold zep
 split
 ·exact zqS (fun j=>zJ hl j) hk i
 ·split
  ·have:=ziG (f:=dig l) (k:=k) (fun j=>zJ hl j) l.length;have h2:2^k<=2^32:=Zt Ya Ya;omega
  ·omega
theorem zr0{a:Option Addr}(c k:Nat)(hk:k<32)(h:zw w a l)(hr:l.length<=17592186044416):
  Calls Tryz.prog 171 #[.slice a l.length c,.int .i64 (k:Int)] w fun e w'=>e=.returned (.slice (some ⟨w.heap.size,0,none⟩) (l.length+1) (l.length+1))/\Blk w' w.heap.size (l.length+1) (zaw (zo l*2^k)) 109/\Below w.heap.size w w':=by
 obtain⟨i0,hi,hz0,hz1,hz2⟩:=info_parts Tryz.infoU32;obtain⟨HU,HL⟩:=hd2 h h.lim;clear h
 go_enter Tryz.func171,Tryz.ntmps171
 go_wp2_with (at_make;refine wpList_make_full _ rfl _ _ 49 rfl w.heap.size 109 i0 (.int .u32 0) 1 Tryz.underlying49 hi hz0 hz1 _ _ _ _ (l.length+1) rfl rfl Ya Ya ?b2 ?b3 (Za _) ?_)
 case b2=>rw[hz2];omega
 case b3=>unfold maxLen;omega
 intro w0 hown0 hgrow0;have HB0:Hid (Blk w0 w.heap.size (l.length+1) (zep (dig l) k 0) 109):=by
  refine Blk.of_own (base:=w.heap.size) ?_
  have e:(madeCells #[Value.int IntKind.u32 0] (l.length+1)).toList=(List.range (l.length+1)).map fun x=>Value.int .u32 (zep (dig l) k 0 x:Int):=by
   rw[zmq];simp[Zbp,List.map_const']
  rw[<- e];exact hown0
 have hb0:Below w.heap.size w w0:=(Ze _ _).grown hgrow0 (Za _) (fun k h=>YP);clear hown0 hgrow0 hz0 hz1 hz2 hi;go_wp2
 go_loopw [15] (fun i wr=>∃j:Nat,j<=l.length/\i=.int .i64 j/\Hid (Blk wr w.heap.size (l.length+1) (zep (dig l) k j) 109)/\Below w.heap.size w wr) (fun i _=>l.length-(intOf i).toNat)
 case atStart=>exact⟨0,Zs _,rfl,HB0,hb0⟩
 case round=>
  clear HB0 hb0;obtain⟨j,hj,rfl,HB,hb⟩:=hrel
  by_cases hlt:j<l.length
  ·obtain⟨p1,o1,rfl,hp1,q1⟩:=(HU.out.below hb).pick hlt;have d0:=HB.out.cell (x:=j) Ya;have d1:=HB.out.cell (x:=j+1) Ya;rw[show zep (dig l) k j j=zjS (dig l) k j from KS]at d0;have f0:=HB.out.free j;have f1:=HB.out.free (j+1);have hdl:=zJ HL.out j;have hdg:∀i,dig l i<4294967296:=fun i=>zJ HL.out i
   obtain⟨E0,E1⟩:=hd2 (zp0 (j:=j) hdg hk) (znT (j:=j) hdg hk);clear hdg;go_wp2;go_roundw
   case rel=>
    refine⟨j+1,hlt,Yg,?_,(hb.setCell (Za _) _).setCell (Za _) _⟩
    rw[E0.out,E1.out];unfold Hid;rw[zlI];exact(HB.out.set j (znz (dig l) k j)).set (j+1) (zjS (dig l) k (j+1))
   case measure=>simp[intOf];omega
  ·obtain rfl:j=l.length:=Ya;go_wp2;go_ret;exact⟨rfl,HB.out.congr (znx HL.out hk),hb⟩
def zew(l:List Nat)(d k:Nat):Nat->Nat:=fun j=>if k<=j then(zfU l (j+1)%d*4294967296+dig l j)/d else 0
theorem zki(l:List Nat)(d k:Nat):zew l d k=fun j=>if j=k then(zfU l (k+1)%d*4294967296+dig l k)/d else zew l d (k+1) j:=by
 funext j;unfold zew
 by_cases h:j=k
 ·subst h;rw[Zm (Za _),Zm rfl]
 ·rw[Zg h]
  by_cases h2:k<=j
  ·rw[Zm h2,Zm Ya]
  ·rw[Zg h2,Zg Ya]
theorem zgq{R:Nat}(hR:R<4294967296)(hd:d<4294967296):bits .or .u64 ((R:Int)*4294967296) (d:Int)=((R*4294967296+d:Nat):Int):=by
 rw[show((R:Int)*4294967296)=((R*4294967296:Nat):Int)from Ya,bits_or_u64_nat _ _ Ya Ya]
 congr 1
 exact zqC (k:=32) Ya Ya
theorem ze9(a b:Nat):(a:Int).tmod (b:Int)=((a%b:Nat):Int):=by rw[Int.tmod_eq_emod_of_nonneg Ya];simp
theorem zgC(a b:Nat):(a:Int).tdiv (b:Int)=((a/b:Nat):Int):=by rw[Int.tdiv_eq_ediv_of_nonneg Ya];simp
theorem zsQ{w:World}{a:Option Addr}{l:List Nat}(c d:Nat)(hd0:0<d)(hd:d<4294967296)(h:zw w a l)(hr:l.length<=17592186044416):
  Calls Tryz.prog 169 #[.slice a l.length c,.int .u32 (d:Int)] w fun e w'=>∃a1 c1 a2 c2,e=.returned (.tuple #[.slice a1 (za (zo l/d)).length c1,.slice a2 (za (zo l%d)).length c2])/\
   (za (zo l/d)).length<=c1/\(za (zo l%d)).length<=c2/\zw w' a1 (za (zo l/d))/\zw w' a2 (za (zo l%d))/\Below w.heap.size w w':=by
 obtain⟨i0,hi,hz0,hz1,hz2⟩:=info_parts Tryz.infoU32;obtain⟨HU,HL⟩:=hd2 h h.lim;clear h
 go_enter Tryz.func169,Tryz.ntmps169
 go_wp2_with (at_make;refine wpList_make_full _ rfl _ _ 49 rfl w.heap.size 109 i0 (.int .u32 0) 1 Tryz.underlying49 hi hz0 hz1 _ _ _ _ l.length rfl rfl Ya Ya ?b2 ?b3 (Za _) ?_)
 case b2=>rw[hz2];omega
 case b3=>unfold maxLen;omega
 intro w0 hown0 hgrow0;have HB0:Hid (Blk w0 w.heap.size l.length (zew l d l.length) 109):=by
  refine Blk.congr (f:=fun _=>0) (Blk.of_own (base:=w.heap.size) ?_) (fun i hi=>by unfold zew;rw[Zg Ya])
  have e:(madeCells #[Value.int IntKind.u32 0] l.length).toList=(List.range l.length).map fun _=>Value.int .u32 ((0:Nat):Int):=Ec
  rw[<- e];exact hown0
 have hb0:Below w.heap.size w w0:=(Ze _ _).grown hgrow0 (Za _) (fun k h=>YP);clear hown0 hgrow0 hz0 hz1 hz2 hi;go_wp2
 go_loopw [7,8] (fun r i wr=>∃k R:Nat,∃I:Int,k<=l.length/\I+1=(k:Int)/\i=.int .i64 I/\r=.int .u64 (R:Int)/\R<d/\Hid (R=zfU l k%d)/\Hid (Blk wr w.heap.size l.length (zew l d k) 109)/\Below w.heap.size w wr) (fun _ i _=>(intOf i+1).toNat)
 case atStart=>exact⟨l.length,0,_,Za _,Ya,rfl,rfl,hd0,by unfold Hid;rw[zil (Za _),Nat.zero_mod],HB0,hb0⟩
 case round=>
  clear HB0 hb0;obtain⟨k,R,I,hk,hI,rfl,rfl,hR,HR,HB,hb⟩:=hrel
  cases k with
  | zero=>
   obtain rfl:I= -1:=Ya;have hll:((List.range l.length).map (zew l d 0)).length=l.length:=Yc;have hU:=HB.out.u32s (fun i _=>by unfold zew;rw[Zm (Zs _)];exact zkS HL.out hd0) Ya;have hv:zo ((List.range l.length).map (zew l d 0))=zo l/d:=by
    rw[zbL,<- znb hd0 (l:=l)];exact zaj (fun i _=>by unfold zew;rw[Zm (Zs _)])
   have hT:=zY l.length Ya hU hv;rw[hll]at hT;have HT:=hid hT;have HR2:Hid (R=zo l%d):=by have:=HR.out;rwa [zje]at this
   clear hll hU hv hT
   go_wp2_with fail
   refine HT.out.mono ?_
   rintro e w' ⟨⟨a1,c1,rfl,h1,h2⟩,rfl⟩;obtain⟨HH,HO⟩:=hd2 h2 (nOf R Ya wr);clear h2
   go_wp2_with fail
   refine HO.out.mono ?_
   rintro e w' ⟨a2,c2,rfl,h3,h4,h5⟩;have hz:R=zo l%d:=HR2.out;have HZ:=hid hz;clear hz;go_wp2
   go_ret2
   rw[HZ.out]at h3 h4;exact⟨a1,c1,a2,c2,by rw[HZ.out];rfl,h1,h3,HH.out.below h5,h4,hb.trans (h5.mono hb.size)⟩
  | succ m=>
   obtain rfl:I=(m:Int):=Ya;obtain⟨p1,o1,rfl,hp1,q1⟩:=(HU.out.below hb).pick (show m<l.length from Ya);have hm:m<l.length:=Ya;have hdm:=zJ HL.out m;have d0:=HB.out.cell (x:=m) hm;have f0:=HB.out.free m;have E:=zgq (R:=R) (d:=dig l m) Ya hdm;have hs:=zh7 hd0 hm;rw[<- HR.out]at hs;have hq:=zkS (i:=m) HL.out hd0;rw[<- HR.out]at hq;have T1:=hid (show(bits .or .u64 ((R:Int)*4294967296) (dig l m:Int)).tmod (d:Int)=(((R*4294967296+dig l m)%d:Nat):Int) by rw[E,ze9]);have T2:=hid (show IntKind.u64.wrap ((bits .or .u64 ((R:Int)*4294967296) (dig l m:Int)).tdiv (d:Int))%4294967296=(((R*4294967296+dig l m)/d:Nat):Int) by
    rw[E,zgC,IntKind.wrap_u64];generalize(R*4294967296+dig l m)/d=Q at hq⊢;omega)
   have HS:=hid hs;clear E hs hq;go_wp2;go_roundw
   case rel=>
    refine⟨m,(R*4294967296+dig l m)%d,_,Ya,Ya,rfl,by rw[T1.out],Z7 _ hd0,HS.out.2.symm,?_,hb.setCell (Za _) _⟩
    rw[T2.out];unfold Hid;rw[zki,<- HR.out];exact HB.out.set m _
   case measure=>simp[intOf]
theorem znF(hl:Lim l)(i:Nat):zo (l.drop i)=zo l/4294967296^i:=by
 rcases ZaC i l.length with h|h
 ·obtain⟨m,hm⟩:∃m,l.length=i+m:=⟨l.length-i,Ya⟩
  have e:zo l=zA (dig l) i+zA (fun j=>dig l (i+j)) m*4294967296^i:=by
   unfold zo;rw[hm,zbh]
  rw[e,Nat.add_mul_div_right _ _ (zbO i),ZaM (zbA (fun j _=>zJ hl j)),ZR];unfold zo;rw[Za6,hm,ZaO];exact zaj (fun j _=>by unfold dig;simp[Zd])
 ·rw[List.drop_of_length_le h,zcy,ZaM (Zb (zct hl) (Zt Ya h))]
theorem znC(v k:Nat):v/2^k=v/4294967296^(k/32)/2^(k%32):=by
 rw[Zbd,show(4294967296:Nat)=2^32 from Yd,<- Nat.pow_mul,<- Z9,ZaU]
def zoM(f:Nat->Nat)(j:Nat):Nat->Nat:=fun i=>if i<j then f i else 0
theorem zjx(f:Nat->Nat)(j:Nat):zoM f (j+1)=fun i=>if i=j then f j else zoM f j i:=by
 funext i;unfold zoM
 by_cases h:i=j
 ·subst h;rw[Zm Ya,Zm rfl]
 ·rw[Zg h]
  by_cases h2:i<j
  ·rw[Zm h2,Zm Ya]
  ·rw[Zg h2,Zg Ya]
def zqA(l:List Nat)(k:Nat):Nat->Nat:=fun i=>(dig l i+dig l (i+1)*4294967296)/2^k%4294967296
theorem zsG(ha:a<4294967296)(hb:b<4294967296):bits .or .u64 (a:Int) ((b:Int)*4294967296)/2^r%4294967296=(((a+b*4294967296)/2^r%4294967296:Nat):Int):=by
 have e:bits .or .u64 (a:Int) ((b:Int)*4294967296)=((a+b*4294967296:Nat):Int):=by
  rw[show((b:Int)*4294967296)=((b*4294967296:Nat):Int)from Ya,bits_or_u64_nat _ _ Ya Ya]
  congr 1
  exact zgD (k:=32) Ya Ya
 rw[e];generalize a+b*4294967296=X;simp
theorem zrS:((a:Int)/2^r%4294967296)=(((a+0*4294967296)/2^r%4294967296:Nat):Int):=Yc
theorem zuf{a:Option Addr}{v:Nat}(c k:Nat)(hk:k<=1048576)(hc:l.length<=c)(h:zw w a l)(hv:zo l=v)(hr:l.length<=17592186044416):
  Calls Tryz.prog 174 #[.slice a l.length c,.int .i64 (k:Int)] w fun e w'=>∃a1 c1,e=.returned (.tuple #[.slice a1 (za (v/2^k)).length c1,.int .i64 0])/\(za (v/2^k)).length<=c1/\zw w' a1 (za (v/2^k))/\Below w.heap.size w w':=by
 have HT:=hid (zY c hc h hv);have hle:(za v).length<=l.length:=by rw[<- hv];exact zG h.lim
 clear h hv hc
 go_enter Tryz.func174,Tryz.ntmps174
 go_wp2_with fail
 refine HT.out.mono ?_
 rintro e w' ⟨⟨a1,c1,rfl,hc1,hU⟩,rfl⟩;clear HT;have HSp:=hid (znC v k)
 by_cases hq:(za v).length<=k/32
 ·have hz:v/2^k=0:=by
   rw[HSp.out,ZaM (Zb (zaT v) (Zt Ya hq)),Nat.zero_div]
  have HZ:=hid hz;clear hz;go_wp2
  go_ret2
  exact⟨none,0,by rw[HZ.out,zy];rfl,by rw[HZ.out,zy];simp,by rw[HZ.out,zy];exact zw.nil _ _,Ze _ _⟩
 ·obtain⟨p1,o1,rfl,hp1,_⟩:=hU.pick (show 0<(za v).length from Ya);have hne:¬ c1=k/32:=Ya;have hUd:=hU.drop (k/32);have hLv:zo ((za v).drop (k/32))=v/4294967296^(k/32):=by rw[znF (zv v),zg]
  have hlen:(za v).length-k/32=((za v).drop (k/32)).length:=Yc;generalize(za v).drop (k/32)=LD at *;have hLD:LD.length<=17592186044416:=Ya;obtain⟨HL,HLv,HU⟩:=hd3 hUd.lim hLv hUd;obtain⟨i0,hi,hz0,hz1,hz2⟩:=info_parts Tryz.infoU32;clear hU hUd hLv
  go_wp2_with (at_make;refine wpList_make_full _ rfl _ _ 49 rfl w.heap.size 109 i0 (.int .u32 0) 1 Tryz.underlying49 hi hz0 hz1 _ _ _ _ LD.length rfl rfl Ya Ya ?b2 ?b3 (Za _) ?_)
  case b2=>rw[hz2];omega
  case b3=>unfold maxLen;omega
  intro w0 hown0 hgrow0;have HB0:Hid (Blk w0 w.heap.size LD.length (zoM (zqA LD (k%32)) 0) 109):=by
   refine Blk.congr (f:=fun _=>0) (Blk.of_own (base:=w.heap.size) ?_) (fun i hi=>by unfold zoM;rw[Zg Ya])
   have e:(madeCells #[Value.int IntKind.u32 0] LD.length).toList=(List.range LD.length).map fun _=>Value.int .u32 ((0:Nat):Int):=Ec
   rw[<- e];exact hown0
  have hb0:Below w.heap.size w w0:=(Ze _ _).grown hgrow0 (Za _) (fun k h=>YP);clear hown0 hgrow0 hz0 hz1 hz2 hi;go_wp2
  go_loopw [32] (fun i wr=>∃j:Nat,j<=LD.length/\i=.int .i64 j/\Hid (Blk wr w.heap.size LD.length (zoM (zqA LD (k%32)) j) 109)/\Below w.heap.size w wr) (fun i _=>LD.length-(intOf i).toNat)
  case atStart=>exact⟨0,Zs _,rfl,HB0,hb0⟩
  case round=>
   clear HB0 hb0;obtain⟨j,hj,rfl,HB,hb⟩:=hrel
   by_cases hlt:j<LD.length
   ·obtain⟨p2,o2,he,hp2,q1⟩:=(HU.out.below hb).pick hlt;obtain⟨rfl,rfl⟩:p1=p2/\o1+k/32=o2:=by cases he;exact⟨rfl,rfl⟩
    have d0:=HB.out.cell (x:=j) hlt;have f0:=HB.out.free j;have hdl:=zJ HL.out j;clear he
    by_cases hlt2:j+1<LD.length
    ·obtain⟨p2,o2,he,_,q2⟩:=(HU.out.below hb).pick hlt2;obtain⟨rfl,rfl⟩:p1=p2/\o1+k/32=o2:=by cases he;exact⟨rfl,rfl⟩
     have hdl2:=zJ HL.out (j+1);clear he;have HE:=hid (zsG (r:=k%32) hdl hdl2);go_wp2;go_roundw
     case rel=>
      refine⟨j+1,hlt,Yg,?_,hb.setCell (Za _) _⟩
      rw[HE.out];unfold Hid;rw[zjx];exact HB.out.set j _
     case measure=>simp[intOf];omega
    ·have hz:=zcS (l:=LD) (i:=j+1) Ya;obtain⟨HE,HZ⟩:=hd2 (zrS (a:=dig LD j) (r:=k%32)) hz;clear hz;go_wp2;go_roundw
     case rel=>
      refine⟨j+1,hlt,Yg,?_,hb.setCell (Za _) _⟩
      rw[HE.out];unfold Hid;rw[zjx];have e:zqA LD (k%32) j=(dig LD j+0*4294967296)/2^(k%32)%4294967296:=by unfold zqA;rw[HZ.out]
      rw[e];exact HB.out.set j _
     case measure=>simp[intOf];omega
   ·obtain rfl:j=LD.length:=Ya;have hll:((List.range LD.length).map (zoM (zqA LD (k%32)) LD.length)).length=LD.length:=Yc;have hU2:=HB.out.u32s (fun i hi=>by unfold zoM zqA;rw[Zm hi];exact Z7 _ Ya) Ya;have hv2:zo ((List.range LD.length).map (zoM (zqA LD (k%32)) LD.length))=v/2^k:=by
     rw[zbL,HSp.out,<- HLv.out,<- zrv HL.out (show k%32<32 from Ya)];exact zaj (fun i hi=>by unfold zoM zqA;rw[Zm hi])
    have hT:=zY LD.length Ya hU2 hv2;rw[hll]at hT;have HT:=hid hT;clear hll hU2 hv2 hT
    go_wp2_with fail
    refine HT.out.mono ?_
    rintro e w' ⟨⟨a2,c2,rfl,h1,h2⟩,rfl⟩;have HH:=hid h2;clear h2;go_wp2
    go_ret2
    exact⟨a2,c2,rfl,h1,HH.out,hb⟩
theorem Below.drewN_refl(w:World)(n:Nat):Below w.heap.size w (w.drewN n):=⟨rfl,rfl,rfl,Za _,fun _ _=>rfl⟩
theorem zoJ{a b:Option Addr}{lu:List Nat}(c d n:Nat)(hn:lv.length=n)(hm:lu.length=n+1)(hs:n<=17592186044416)(hu:zw w a lu)(hv:zw w b lv)(hK:zdD (dig lu) (dig lv) n):
  Calls Tryz.prog 173 #[.slice a (n+1) c,.slice b n d] w fun e w'=>(∃q:Nat,e=.returned (.int .u64 (q:Int))/\zA (dig lu) (n+1)/zA (dig lv) n<=q/\q<=zA (dig lu) (n+1)/zA (dig lv) n+1/\q<=4294967296)/\Below w.heap.size w w':=by
 have hn2:=hK.n2;obtain⟨pu,ou,rfl,hpu,cu⟩:=hu.open (by intro h;rw[h]at hm;simp at hm);obtain⟨pv,ov,rfl,hpv,cv⟩:=hv.open JT;have u0:=cu n Ya;have u1:=cu (n-1) Ya;have u2:=cu (n-2) Ya;have v1:=cv (n-1) Ya;have v2:=cv (n-2) Ya;have b0:=hK.ul n;have b1:=hK.ul (n-1);have b2:=hK.ul (n-2);have b3:=hK.vl (n-1);have b4:=hK.vl (n-2);have b5:=hK.norm;have HK:=hid hK;have E0:bits .or .u64 ((dig lu n:Int)*4294967296) (dig lu (n-1):Int)=((ziv (dig lu) n:Nat):Int):=zgq b0 b1;have hT:ziv (dig lu) n<18446744073709551616:=by unfold ziv;omega
 have z1:((dig lv (n-1):Int)==0)=false:=bn0 Ya;have z2:¬ dig lv (n-1)=0:=Ya;have D1:=zgC (ziv (dig lu) n) (dig lv (n-1));have D2:=ze9 (ziv (dig lu) n) (dig lv (n-1));have HS:=hid hK.start;clear hK hu hv cu cv hn hm;generalize hQd:zA (dig lu) (n+1)/zA (dig lv) n=Q at *;have HQd:=hid hQd;clear hQd;generalize hT':ziv (dig lu) n=tp at *;have HT:=hid hT';clear hT';generalize hq0:tp/dig lv (n-1)=q0 at *;generalize hr0:tp%dig lv (n-1)=r0 at *;obtain⟨HQ0,HR0⟩:=hd2 hq0 hr0;clear hq0 hr0;have hst2:q0<=4294967297:=HS.out.2;have hr1:r0<4294967296:=by have:=Z7 tp (show 0<dig lv (n-1)from Ya);have:=HR0.out;omega
 have HST:Hid (Q<=q0):=HS.out.1;have HEQ:Hid (q0*dig lv (n-1)+r0=tp):=by
  have:=ZaU tp (dig lv (n-1));rw[HQ0.out,HR0.out,ZD]at this;exact this
 have HWq:IntKind.u64.wrap (q0:Int)=(q0:Int):=by rw[IntKind.wrap_u64];omega
 go_enter Tryz.func173,Tryz.ntmps173
 go_wp2
 go_quiet (fail)
 go_wp2
 go_quiet (fail)
 go_wp2
 go_loopw [7,8] (fun a b wr=>∃q r:Nat,a=.int .u64 (q:Int)/\b=.int .u64 (r:Int)/\r<4294967296/\q<=4294967297/\Hid (q*dig lv (n-1)+r=tp)/\Hid (Q<=q)/\Hid (∃n,wr=w.drewN n)) (fun a _ _=>(intOf a).toNat)
 case atStart=>exact⟨q0,r0,rfl,rfl,hr1,hst2,HEQ,HST,zjY _ _ _⟩
 case round=>
  clear HWq;obtain⟨q,r,rfl,rfl,hr,hq,Heq,Hge,HWr⟩:=hrel;clear hT hst2 HST HEQ HQ0 HR0 HS D1 D2 E0 z1 z2 hr1;have HQ:=hid hq;clear hq;have HWn:Hid (∀k,∃n,wr.drewN k=w.drewN n):=fun k=>by obtain⟨n,hn⟩:=HWr.out;rw[hn];exact zjY w n k
  have HBl:Hid (∀k,Below w.heap.size w (wr.drewN k)):=fun k=>by obtain⟨n,hn⟩:=HWn.out k;rw[hn];exact Below.drewN_refl w n
  obtain⟨n',hn'⟩:=HWr.out;have U2:wr.cell? ⟨pu,ou+(n-2),none⟩=some (.int .u32 (dig lu (n-2):Int)):=by rw[hn'];exact u2
  have V1:wr.cell? ⟨pv,ov+(n-1),none⟩=some (.int .u32 (dig lv (n-1):Int)):=by rw[hn'];exact v1
  have V2:wr.cell? ⟨pv,ov+(n-2),none⟩=some (.int .u32 (dig lv (n-2):Int)):=by rw[hn'];exact v2
  clear hn' u0 u1 u2 v1 v2
  -- what the round does where the test says yes
  have hround:Hid (∀(hgo:Q<q),1<=q/\(q-1)*dig lv (n-1)+(r+dig lv (n-1))=tp/\Q<=q-1):=by
   intro hgo
   refine⟨Ya,?_,Ya⟩
   have h1:=Heq.out;obtain⟨p,rfl⟩:∃p,q=p+1:=⟨q-1,Ya⟩
   rw[ZaA];rw[ZK,Zao]at h1;omega
  have hgo:Hid (4294967296<=q∨r*4294967296+dig lu (n-2)<q*dig lv (n-2)->Q<q):=by
   intro h
   rcases h with h|h
   ·have:=HK.out.quo_lt;rw[HQd.out]at this;omega
   ·have:=HK.out.too_great (by rw[HT.out];exact Heq.out) h;rwa [HQd.out]at this
  by_cases hyes:4294967296<=q∨r*4294967296+dig lu (n-2)<q*dig lv (n-2)
  ·obtain⟨g1,g2,g3⟩:=hround.out (hgo.out hyes);have hq1:(1:Int)<=(q:Int):=Ya;have hq2:(q:Int)<=4294967297:=Xy;have eq1:(q:Int)-1=((q-1:Nat):Int):=Ya;have er1:(r:Int)+(dig lv (n-1):Int)=((r+dig lv (n-1):Nat):Int):=Ya;obtain⟨EQ1,ER1,G1,G2,G3⟩:=hd5 eq1 er1 g1 g2 g3;clear eq1 er1 g1 g2 g3 hround hgo;have HN:=hid b5;clear b5
   -- the test of the round's end
   have hbreak:4294967296<=r+dig lv (n-1)->Hid (q-1<=Q+1):=by
    intro h;rw[<- HQd.out]
    refine HK.out.good (q:=q-1) (r:=r+dig lv (n-1)) (by rw[HT.out];exact G2.out) ?_ Xy
    have h2:(q-1)*dig lv (n-2)<=4294967296*dig lv (n-2):=Zl _ Xy;have h3:4294967296*dig lv (n-2)<=4294967296*4294967296:=ZQ _ Ya;have h4:4294967296*4294967296<=(r+dig lv (n-1))*4294967296:=Zl _ h;omega
   have HBr:=hid hbreak;clear hbreak
   by_cases hbig:4294967296<=q
   ·have t1:decide ((4294967296:Int)<=(q:Int))=true:=YU;clear hbig hyes
    by_cases hend:4294967296<=r+dig lv (n-1)
    ·have t2:decide ((4294967296:Int)<=(r:Int)+(dig lv (n-1):Int))=true:=YU;have HB:=HBr.out hend;clear hend;go_wp2
     go_quiet (fail)
     clear t1;go_wp2;go_ret;exact⟨⟨q-1,zaD EQ1.out,G3.out,HB.out,Xy⟩,HBl.out _⟩
    ·have t2:decide ((4294967296:Int)<=(r:Int)+(dig lv (n-1):Int))=false:=YD;have HE:=hid hend;clear hend;go_wp2
     go_quiet (fail)
     clear t1;exact Eb
   ·have t1:decide ((4294967296:Int)<=(q:Int))=false:=YD;have hgt:r*4294967296+dig lu (n-2)<q*dig lv (n-2):=hyes.resolve_left hbig;have E1:bits .or .u64 ((r:Int)*4294967296) (dig lu (n-2):Int)=((r*4294967296+dig lu (n-2):Nat):Int):=zgq hr b2;have hbd:q*dig lv (n-2)<18446744073709551616:=Ki;have E2:IntKind.u64.wrap ((q:Int)*(dig lv (n-2):Int))=((q*dig lv (n-2):Nat):Int):=Iq;generalize q*dig lv (n-2)=A at *;generalize r*4294967296+dig lu (n-2)=B at *;have t3:decide (B<A)=true:=by rw[ZC];exact hgt
    have t4:decide ((B:Int)<(A:Int))=true:=YU;clear hbig hyes hbd
    by_cases hend:4294967296<=r+dig lv (n-1)
    ·have t2:decide ((4294967296:Int)<=(r:Int)+(dig lv (n-1):Int))=true:=YU;have HB:=HBr.out hend;clear hend;go_wp2
     go_quiet (fail)
     clear t1 t3 t4 E1 E2;go_wp2;go_ret;exact⟨⟨q-1,zaD EQ1.out,G3.out,HB.out,Xy⟩,HBl.out _⟩
    ·have t2:decide ((4294967296:Int)<=(r:Int)+(dig lv (n-1):Int))=false:=YD;have HE:=hid hend;clear hend;go_wp2
     go_quiet (fail)
     clear t1 t3 t4 E1 E2;exact Eb
  ·have hq3:q<4294967296:=Ya;have hle:q*dig lv (n-2)<=r*4294967296+dig lu (n-2):=Ya;have t1:decide ((4294967296:Int)<=(q:Int))=false:=YD;have hgood:=HK.out.good (by rw[HT.out];exact Heq.out) hle Ya;rw[HQd.out]at hgood;have HG:=hid hgood;have E1:bits .or .u64 ((r:Int)*4294967296) (dig lu (n-2):Int)=((r*4294967296+dig lu (n-2):Nat):Int):=zgq hr b2;have hbd:q*dig lv (n-2)<18446744073709551616:=Ki;have E2:IntKind.u64.wrap ((q:Int)*(dig lv (n-2):Int))=((q*dig lv (n-2):Nat):Int):=Iq;clear hyes hgo hround hgood;generalize q*dig lv (n-2)=A at *;generalize r*4294967296+dig lu (n-2)=B at *;have t3:decide (B<A)=false:=YD;have t4:decide ((B:Int)<(A:Int))=false:=YD;have HQ3:=hid hq3;clear hbd hle hq3 b5;go_wp2
   go_quiet (fail)
   clear t1 t3 t4 E1 E2;go_wp2;go_ret;exact⟨⟨q,rfl,Hge.out,HG.out,by have:=HQ3.out;omega⟩,HBl.out _⟩
structure zf8 (g:Nat) (w w':World):Prop where
 os:w'.os=w.os
 tape:w'.tape=w.tape
 output:w'.output=w.output
 size:w'.heap.size=w.heap.size
 block:∀k,k≠g->w'.heap[k]? =w.heap[k]?
theorem zf8.refl(g:Nat)(w:World):zf8 g w w:=⟨rfl,rfl,rfl,rfl,fun _ _=>rfl⟩
theorem zf8.trans{a b c:World}(h:zf8 g a b)(k:zf8 g b c):zf8 g a c:=
 ⟨k.os.trans h.os,k.tape.trans h.tape,k.output.trans h.output,k.size.trans h.size,fun i hi=>(k.block i hi).trans (h.block i hi)⟩
theorem zf8.setCell{a:World}(h:zf8 g a w)(o:Nat)(u:Value):zf8 g a (w.setCell ⟨g,o,none⟩ u):=
 h.trans ⟨rfl,rfl,rfl,by simp[World.setCell],fun k hk=>Zbv _ _ _ _ hk⟩
theorem zf8.cell(h:zf8 g w w'){p:Addr}(hp:p.block≠g):w'.cell? p=w.cell? p:=ZS (w:=w) (h.block p.block hp)
theorem zf8.u32s(h:zf8 g w w')(hb:b≠g)(hu:zw w (some ⟨b,off,none⟩) l):zw w' (some ⟨b,off,none⟩) l:=by
 refine⟨hu.lim,hu.len,hu.row.imp id ?_⟩
 rintro⟨b',off',he,hs,hc⟩;cases he;exact⟨b,off,rfl,by rw[h.size];exact hs,fun j d hj=>(h.cell (p:=⟨b,off+j,none⟩) hb).trans (hc j d hj)⟩
theorem zf8.below{B:Nat}(h:zf8 g w w')(hB:B<=g):Below B w w':=⟨h.os,h.tape,h.output,ZbA h.size.symm,fun k hk=>h.block k Ya⟩
def zdU(F:Nat->Nat)(off:Nat)(f:Nat->Nat)(k:Nat):Nat->Nat:=fun x=>if off<=x/\x<off+k then f (x-off)else F x
theorem zd5(F:Nat->Nat)(off:Nat)(f:Nat->Nat):zdU F off f 0=F:=by
 funext x;unfold zdU;rw[Zg Ya]
theorem zdl(F:Nat->Nat)(off:Nat)(f:Nat->Nat)(k:Nat):zdU F off f (k+1)=fun x=>if x=off+k then f k else zdU F off f k x:=by
 funext x;unfold zdU
 by_cases h:x=off+k
 ·subst h;rw[Zm Ya,Zm rfl,ZaO]
 ·rw[Zg h]
  by_cases h2:off<=x/\x<off+k
  ·rw[Zm Ya,Zm h2]
  ·rw[Zg Ya,Zg h2]
theorem zeB(F:Nat->Nat)(off:Nat)(f:Nat->Nat)(k:Nat):zdU F off f k (off+k)=F (off+k):=by unfold zdU;rw[Zg Ya]
theorem zrD(ha:a<4294967296)(hp:p<4294967296)(hb:b<=1):
  IntKind.u64.wrap (IntKind.u64.wrap ((a:Int)-(p:Int))-(b:Int))%4294967296=((a+4294967296*(if a<b+p then 1 else 0)-(b+p):Nat):Int):=EO
theorem zpF(ha:a<4294967296)(hp:p<4294967296)(hb:b<=1):
  IntKind.u64.wrap (IntKind.u64.wrap ((a:Int)-(p:Int))-(b:Int))/9223372036854775808=((if a<b+p then 1 else 0:Nat):Int):=EO
theorem zpT(ha:a<4294967296)(hc:c<4294967296)(hb:b<=1)(h:a<b+c):IntKind.u64.wrap (IntKind.u64.wrap ((a:Int)-(c:Int))-(b:Int))%4294967296=(((a+4294967296-(b+c))%4294967296:Nat):Int):=by
 rw[IntKind.wrap_u64,IntKind.wrap_u64];omega
theorem zou(ha:a<4294967296)(hc:c<4294967296)(hb:b<=1)(h:a<b+c):(IntKind.u64.wrap (IntKind.u64.wrap ((a:Int)-(c:Int))-(b:Int))/9223372036854775808==0)=false:=by
 rw[Zaf,IntKind.wrap_u64,IntKind.wrap_u64];omega
theorem znY{C q:Nat}(hC:C<4294967296)(hq:q<=4294967296)(hd:d<4294967296):IntKind.u64.wrap ((C:Int)+IntKind.u64.wrap ((q:Int)*(d:Int)))=((C+q*d:Nat):Int):=by
 have h1:q*d<=4294967296*4294967295:=ZY hq Ya;rw[show((q:Int)*(d:Int))=((q*d:Nat):Int)from Yc,IntKind.wrap_u64,IntKind.wrap_u64];generalize q*d=A at h1⊢;omega
theorem zq2{N T bv ov:Nat}{F u:Nat->Nat}(c d n q:Nat)(hB:Blk w g N F T)(hF:∀j,F j<4294967296)(hn:lv.length=n)(hN:off+n+1<=N)(hN2:N<=17592186044416)(hne:bv≠g)(hv:zw w (some ⟨bv,ov,none⟩) lv)
 (hu:∀j,u j=F (off+j))(hK:zdD u (dig lv) n)(hq:zA u (n+1)/zA (dig lv) n<=q)(hq1:q<=zA u (n+1)/zA (dig lv) n+1)(hqB:q<=4294967296):
  Calls Tryz.prog 172 #[.slice (some ⟨g,off,none⟩) (n+1) c,.slice (some ⟨bv,ov,none⟩) n d,.int .u64 (q:Int)] w fun e w'=>e=.returned (.int .u32 ((zA u (n+1)/zA (dig lv) n:Nat):Int))/\
   Blk w' g N (zdU F off (zaw (zA u (n+1)%zA (dig lv) n)) (n+1)) T/\zf8 g w w':=by
 have hn2:=hK.n2;obtain⟨HU,HV,HB0,HK,HFl,HQa⟩:=hd6 hu hv hB hK hF hq;have HQb:=hid hq1;obtain⟨_,_,he,_,HC⟩:=hv.open JT;cases he;rw[hn]at HC;have HCv:=hid HC;clear hv hB hF hK hq hq1 HC hu
 go_enter Tryz.func172,Tryz.ntmps172
 go_wp2
 go_loopw [7,8,17] (fun cv bv i wr=>∃k C B:Nat,k<=n/\i=.int .i64 (k:Int)/\cv=.int .u64 (C:Int)/\bv=.int .u64 (B:Int)/\Hid (C=zbz q (dig lv) k)/\Hid (B=zf2 u (dig lv) q k)/\
  Hid (Blk wr g N (zdU F off (zf6 u (dig lv) q) k) T)/\zf8 g w wr) (fun _ _ i _=>n-(intOf i).toNat)
 case atStart=>exact⟨0,0,0,Zs _,rfl,rfl,rfl,rfl,rfl,by unfold Hid;rw[zd5];exact HB0.out,zf8.refl _ _⟩
 case round=>
  clear HB0;obtain⟨k,C,B,hk,rfl,rfl,rfl,HCe,HBe,HB,hO⟩:=hrel
  by_cases hlt:k<n
  ·have c1:=HCv.out k hlt;rw[<- hO.cell (p:=⟨bv,ov+k,none⟩) hne]at c1;have c2:=HB.out.cell (x:=off+k) Ya;rw[zeB,<- HU.out]at c2;have f2:=HB.out.free (off+k);have hC:C<4294967296:=Js;have hBb:B<=1:=V9;have hd:=HK.out.vl k;have hu:=HK.out.ul k;obtain⟨HO,E0⟩:=hd2 hO (znY hC hqB hd);have hX:(C+q*dig lv k)%4294967296=zga q (dig lv) k:=by rw[zpN,HCe.out]
   have hX2:(C+q*dig lv k)/4294967296=zbz q (dig lv) (k+1):=by rw[zhD,HCe.out]
   have hpd:=ziD q (dig lv) k;have L:=zrD (a:=u k) (p:=zga q (dig lv) k) (b:=B) hu hpd hBb;have H:=zpF (a:=u k) (p:=zga q (dig lv) k) (b:=B) hu hpd hBb;rw[show(u k+4294967296*(if u k<B+zga q (dig lv) k then 1 else 0)-(B+zga q (dig lv) k))=zf6 u (dig lv) q k by rw[HBe.out];rfl]at L;rw[show(if u k<B+zga q (dig lv) k then 1 else 0)=zf2 u (dig lv) q (k+1) by rw[HBe.out];rfl]at H;obtain⟨HX,HX2,HL,HH⟩:=hd4 hX hX2 L H;clear hO hX hX2 hpd L H;go_wp2;go_roundw
   case rel=>
    have e1:(((C+q*dig lv k:Nat):Int)%4294967296)=((zga q (dig lv) k:Nat):Int):=by rw[<- HX.out];omega
    have e2:(((C+q*dig lv k:Nat):Int)/4294967296)=((zbz q (dig lv) (k+1):Nat):Int):=by rw[<- HX2.out];omega
    refine⟨k+1,zbz q (dig lv) (k+1),zf2 u (dig lv) q (k+1),hlt,Yg,?_,?_,rfl,rfl,?_,HO.out.setCell _ _⟩
    ·rw[E0.out,e2]
    ·rw[E0.out,e1,HH.out]
    ·rw[E0.out,e1,HL.out];unfold Hid;rw[zdl];exact HB.out.set (off+k) _
   case measure=>simp[intOf];omega
  ·obtain rfl:k=n:=Ya;have c2:=HB.out.cell (x:=off+k) Ya;rw[zeB,<- HU.out]at c2;have f2:=HB.out.free (off+k);have hC:C<4294967296:=Js;have hBb:B<=1:=V9;have hu:=HK.out.ul k;have HO:=hid hO
   by_cases hs:B+C<=u k
   ·have hex:=HK.out.exact HQa.out HQb.out (by rw[<- HBe.out,<- HCe.out];exact hs);have hQ:=HK.out.quo_lt;obtain⟨HQl,HX⟩:=hd2 hQ hex;clear hO hex hQ;go_wp2;go_ret;obtain⟨x1,x2,x3⟩:=HX.out
    refine⟨zaD ?_,?_,HO.out.setCell _ _⟩
    ·have:=HQl.out;rw[<- x1]at this⊢;omega
    ·rw[<- HBe.out,<- HCe.out]at x3;have hb:=HB.out.set (off+k) 0;rw[show(u k:Int)-C-B=((0:Nat):Int)from Ya]
     refine hb.congr (fun x hx=>?_)
     have hlt:zA u (k+1)%zA (dig lv) k<4294967296^k:=Nat.lt_trans (Z7 _ HK.out.pos) (zbA (fun i _=>HK.out.vl i))
     by_cases h1:x=off+k
     ·exact Ig
     ·rw[Zg h1];unfold zdU
      by_cases h2:off<=x/\x<off+k
      ·rw[Zm h2,Zm Ya,<- x2,zdC (ziy HK.out.ul) Ya]
      ·rw[Zg h2,Zg Ya]
   ·have hs':u k<B+C:=Ya;have hag:=HK.out.again HQa.out HQb.out hqB (by rw[<- HBe.out,<- HCe.out];exact hs');have hQ:=HK.out.quo_lt;obtain⟨HQl,HX,E1⟩:=hd3 hQ hag (zpT hu hC hBb hs');have E2:=zou hu hC hBb hs';clear hO hag hQ hs;obtain⟨G,hG⟩:∃G:Nat->Nat,G=(fun x=>if x=off+k then(u k+4294967296-(B+C))%4294967296 else zdU F off (zf6 u (dig lv) q) k x):=⟨_,rfl⟩
    have HG:=hid hG;have hG1:Hid (∀m,m<k->G (off+m)=zf6 u (dig lv) q m):=fun m hm=>by
     rw[HG.out];show(if off+m=off+k then _ else _)=_
     rw[Zg Ya];unfold zdU;rw[Zm Ya,ZaO]
    have hG2:Hid (G (off+k)=(u k+4294967296-(B+C))%4294967296):=by rw[HG.out];exact Zm rfl
    have hG3:Hid (∀x,¬ (off<=x/\x<=off+k)->G x=F x):=fun x hx=>by
     rw[HG.out];show(if x=off+k then _ else _)=_
     rw[Zg Ya];unfold zdU;rw[Zg Ya]
    clear hG;go_wp2
    go_loopw [7,72] (fun cv i wr=>∃m C':Nat,m<=k/\i=.int .i64 (m:Int)/\cv=.int .u64 (C':Int)/\Hid (C'=zV (zf6 u (dig lv) q) (dig lv) m)/\
     Hid (Blk wr g N (zdU G off (zf3 (zf6 u (dig lv) q) (dig lv)) m) T)/\zf8 g w wr) (fun _ i _=>k-(intOf i).toNat)
    case atStart=>
     refine⟨0,0,Zs _,rfl,rfl,rfl,?_,HO.out.setCell _ _⟩
     rw[E1.out];unfold Hid;rw[zd5,HG.out];exact HB.out.set (off+k) _
    case round=>
     clear HB HO E1 E2 c2 f2;obtain⟨m,C',hm,rfl,rfl,HC',HB,hO⟩:=hrel;have hC1:C'<=1:=by rw[HC'.out];exact ze2 (ziy HK.out.ul) HK.out.vl
     by_cases hlt:m<k
     ·have c1:=HCv.out m hlt;rw[<- hO.cell (p:=⟨bv,ov+m,none⟩) hne]at c1;have c2:=HB.out.cell (x:=off+m) Ya;rw[zeB,hG1.out m hlt]at c2;have f2:=HB.out.free (off+m);have hd:=HK.out.vl m;have hr:=ziy (v:=dig lv) (q:=q) HK.out.ul m;have HO:=hid hO;clear hO;go_wp2;go_roundw
      case rel=>
       have e1:((C':Int)+((zf6 u (dig lv) q m:Int)+(dig lv m:Int)))%4294967296=((zf3 (zf6 u (dig lv) q) (dig lv) m:Nat):Int):=by
        unfold zf3;rw[<- HC'.out];omega
       have e2:((C':Int)+((zf6 u (dig lv) q m:Int)+(dig lv m:Int)))/4294967296=((zV (zf6 u (dig lv) q) (dig lv) (m+1):Nat):Int):=by
        simp only[zV];rw[<- HC'.out];omega
       refine⟨m+1,zV (zf6 u (dig lv) q) (dig lv) (m+1),hlt,Yg,by rw[e2],rfl,?_,HO.out.setCell _ _⟩
       rw[e1];unfold Hid;rw[zdl];exact HB.out.set (off+m) _
      case measure=>simp[intOf];omega
     ·obtain rfl:m=k:=Ya;have c2:=HB.out.cell (x:=off+m) Ya;rw[zeB,hG2.out]at c2;have f2:=HB.out.free (off+m);have HO:=hid hO;obtain⟨x1,x2,x3⟩:=HX.out;rw[<- HBe.out,<- HCe.out,<- HC'.out]at x3;obtain⟨X1,X2,X3⟩:=hd3 x1 x2 x3;have hq0:(1:Int)<=(q:Int):=by
       have:1<=q:=by rw[x1];exact Zbw _ _
       omega
      generalize hW:(u m+4294967296-(B+C))%4294967296=W at *;have HW:=hid hW;have hWl:W<4294967296:=Ya;clear hO x1 x2 x3 hW;go_wp2;go_ret
      refine⟨zaD ?_,?_,HO.out.setCell _ _⟩
      ·have h1:=HQl.out;have h2:=X1.out;generalize zA u (m+1)/zA (dig lv) m=Q at h1 h2⊢;omega
      ·have e:((W:Int)+(C':Int))%4294967296=((0:Nat):Int):=by have:=X3.out;have:=HW.out;omega
       rw[e];have hlt:zA u (m+1)%zA (dig lv) m<4294967296^m:=Nat.lt_trans (Z7 _ HK.out.pos) (zbA (fun i _=>HK.out.vl i))
       refine(HB.out.set (off+m) 0).congr (fun x hx=>?_)
       by_cases h1:x=off+m
       ·exact Ig
       ·rw[Zg h1];unfold zdU
        by_cases h2:off<=x/\x<off+m
        ·rw[Zm h2,Zm Ya,<- X2.out,zdC (ziz _ _) Ya]
        ·rw[Zg h2,Zg Ya];exact hG3.out x Ya
