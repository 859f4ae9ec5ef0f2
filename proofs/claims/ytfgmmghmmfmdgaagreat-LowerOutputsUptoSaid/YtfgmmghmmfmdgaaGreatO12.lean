/-
  Contracts: RefE, RefF, RefG.
-/
import Derived.Test.YtfgmmghmmfmdgaaGreatO11
import Derived.Test.YtfgmmghmmfmdgaaGreatO6
import Derived.Test.YtfgmmghmmfmdgaaGreatO0
set_option linter.all false
set_option maxRecDepth 100000
set_option maxHeartbeats 3200000
namespace Go.Proofs.YtfgmmghmmfmdgaaGreat
open Go.RowKit
open Go.Lib (hid)
variable {v q i x:Nat} {w:World} {a:Option Addr} {l m:List Nat}
theorem EK{P:Prop}(h:P:=by have e:=zg v;unfold zo at e;rw[h]at e;simp[zA]at e;omega):P:=h
theorem zmr(h:(za v).length=2):v=dig (za v) 0+dig (za v) 1*4294967296:=EK
theorem zh1(h:(za v).length=1):v=dig (za v) 0:=EK
theorem zlF(h:(za v).length=0):v=0:=EK
def zce(v:Nat):Bool:=decide ((za v).length<=2)
theorem zkO(c:Nat)(hc:l.length<=c)(h:zw w a l)(hx:zo l=v)(hr:l.length*4<=140737488355328):
  Calls Tryz.prog 141 #[.slice a l.length c] w fun e w'=>e=.returned (.tuple #[.int .u64 (if(za v).length<=2 then(v:Int)else 0),.bool (zce v)])/\Below w.heap.size w w':=by
 have hcall:=zdL c hc h hr;rw[hx]at hcall;have HC:=hid hcall;clear hcall h hx hc hr
 go_enter Tryz.func141,Tryz.ntmps141
 go_wp2_with fail
 refine HC.out.mono ?_
 rintro e w' ⟨a1,c1,rfl,hc1,ha1,hb1,_⟩;obtain⟨HU,HB⟩:=hd2 ha1 hb1;have hll:=ha1.len;clear ha1 hb1 hc1 HC;obtain⟨n,hn⟩:∃n,n=(za v).length:=⟨_,rfl⟩
 by_cases h0:(za v).length=0
 ·have HV:Hid ((v:Int)=0):=by unfold Hid;rw[zlF h0];rfl
  have HO:Hid (zce v=true):=by unfold Hid zce;rw[h0];rfl
  rw[h0];go_wp2
  go_ret2
  exact⟨by rw[HO.out];simp[HV.out],HB.out⟩
 by_cases h1:(za v).length=1
 ·obtain⟨p1,o1,rfl,_,q1⟩:=HU.out.pick (k:=0) Ya;have HV:Hid (v=dig (za v) 0):=zh1 h1;have HO:Hid (zce v=true):=by unfold Hid zce;rw[h1];rfl
  have hd:=zJ (zv v) 0;rw[ZU]at q1;rw[h1];clear hn hll h0;generalize dig (za v) 0=x at *;go_wp2
  go_ret2
  exact⟨by rw[HO.out];simp[HV.out],HB.out⟩
 by_cases h2:(za v).length=2
 ·obtain⟨p1,o1,rfl,_,q1⟩:=HU.out.pick (k:=0) Ya;obtain⟨p2,o2,he,_,q2⟩:=HU.out.pick (k:=1) Ya;cases he;have HV:Hid (v=dig (za v) 0+dig (za v) 1*4294967296):=zmr h2;have HO:Hid (zce v=true):=by unfold Hid zce;rw[h2];rfl
  have hd:=zJ (zv v) 0;have hd1:=zJ (zv v) 1;rw[ZU]at q1;rw[h2];clear hn hll h0 h1;generalize dig (za v) 0=x at *;generalize dig (za v) 1=y at *;have E:bits .or .u64 (x:Int) ((y:Int)*4294967296)=((x+y*4294967296:Nat):Int):=by
   rw[show((y:Int)*4294967296)=((y*4294967296:Nat):Int)from Ya,bits_or_u64_nat _ _ Ya Ya]
   congr 1
   exact zgD (k:=32) Ya Ya
  go_wp2
  go_quiet (fail)
  go_wp2
  go_ret2
  exact⟨by rw[HO.out,HV.out];simp,HB.out.trans ⟨rfl,rfl,rfl,Za _,fun _ _=>rfl⟩⟩
 ·have HO:Hid (zce v=false):=by unfold Hid zce;exact Zj Ya
  have HI:Hid ((if(za v).length<=2 then(v:Int)else 0)=0):=Zg Ya;have d0:(((za v).length:Int)==0)=false:=bn0 Ya;have d1:(((za v).length:Int)==1)=false:=bn0 Ya;have d2:(((za v).length:Int)==2)=false:=bn0 Ya;go_wp2
  go_ret2
  exact⟨by rw[HO.out];first|rfl|(rw[HI.out];rfl),HB.out⟩
theorem Calls.quiet_of_eq{P:Program}{f:FuncId}{args:Array Value}{n:Nat}{v:Value}
 (h:Calls P f args (w.drewN n) fun e w'=>e=.returned v/\w.drewN n=w'):Calls P f args (w.drewN n) fun e w''=>e=.returned v/\∃m,w''=w.drewN m:=
 h.mono fun _ _ ⟨he,hm⟩=>⟨he,n,hm.symm⟩
structure zrG (l m:List Nat) (q i:Nat) (f:Nat->Nat):Prop where
 val:zA f (i+q)=zA (dig l) i*zo m
 zero:∀j,i+q<=j->f j=0
 lim:∀j,f j<4294967296
theorem zrG.start(l m:List Nat)(q:Nat):zrG l m q 0 (fun _=>0):=⟨JB,fun _ _=>rfl,fun _=>Ya⟩
theorem zrG.step{f:Nat->Nat}(h:zrG l m q i f)(hl:Lim l)(hm:Lim m)(hq:q=m.length):zrG l m q (i+1) (zbQ f (dig l i) (dig m) i q):=by
 refine⟨?_,fun j hj=>?_,fun j=>zji h.lim (zJ hl i) (fun j=>zJ hm j) i q j⟩
 ·rw[show i+1+q=i+q+1 from Ya,zhW,h.val,hq,show zA (dig m) m.length=zo m from rfl];simp only[zA];rw[ZK,Zbi]
 ·unfold zbQ;rw[Zg Ya,Zg Ya,Zg Ya];exact h.zero j Ya
theorem zmR{f:Nat->Nat}{y:Nat->Nat}(hf:∀j,f j<4294967296)(hx:x<4294967296)(hy:∀j,y j<4294967296)(h0:f (i+q)=0)(hy0:y q=0)(z:Nat):
  zdU f i (zi2 x y (fun k=>f (i+k))) (q+1) z=zbQ f x y i q z:=by
 rw[zdl,<- zgM];show(if z=i+q then _ else _)=_
 by_cases h:z=i+q
 ·rw[Zm h,Zm h];unfold zi2;rw[hy0];show(_+_+f (i+q))%_=_
  rw[h0];simp only[Nat.mul_zero,ZU];exact ZaL (ziQ hx hy (fun k=>hf _) q)
 ·rw[Zg h,Zg h]
theorem zkG{b:Option Addr}{y:Nat}(c d:Nat)(h:zw w a l)(g:zw w b m)(hx:zo l=x)(hy:zo m=y)(hr:l.length+m.length<=8388608):
  Calls Tryz.prog 108 #[.slice a l.length c,.slice b m.length d] w (zrm w (x*y)):=by
 obtain⟨HL,HM,HX,HY,HXv,HYv⟩:=hd6 h.lim g.lim h g hx hy;obtain⟨i0,hi,hz3,hz4,hz5⟩:=info_parts Tryz.infoU32;clear h g hx hy;obtain⟨p,hp⟩:∃p,p=l.length:=⟨_,rfl⟩
 obtain⟨q,hq⟩:∃q,q=m.length:=⟨_,rfl⟩
 obtain⟨HP,HQ⟩:=hd2 hp hq;have hlb:=fun wv (hu:zw wv b m) k hk=>zgF (w:=wv) d k hk hu
 rw[<- hq]at hlb;have HLb:=hid hlb;rw[<- hp,<- hq]at hr⊢;clear hp hq hlb
 go_enter Tryz.func108,Tryz.ntmps108
 go_wp2_with (at_make;refine wpList_make_full _ rfl _ _ 48 rfl w.heap.size 109 i0 (.int .u32 0) 1 Tryz.underlying48 hi hz3 hz4 _ _ _ _ (p+q+1) rfl rfl Ya Ya ?b2 ?b3 (Za _) ?_)
 case b2=>rw[hz5];omega
 case b3=>unfold maxLen;omega
 intro w1 hown hgrow;have HB0:Hid (Blk w1 w.heap.size (p+q+1) (fun _=>0) 109):=by
  refine Blk.of_own (base:=w.heap.size) ?_
  have e:(madeCells #[Value.int IntKind.u32 0] (p+q+1)).toList=(List.range (p+q+1)).map fun _=>Value.int .u32 ((0:Nat):Int):=Ec
  rw[<- e];exact hown
 have hb1:Below w.heap.size w w1:=(Ze _ _).grown hgrow (Za _) (fun k h=>YP);clear hown hgrow hz3 hz4 hz5 hi;go_wp2
 go_loopw [6] (fun i wr=>∃j:Nat,∃f:Nat->Nat,j<=p/\i=.int .i64 (j:Int)/\Hid (zrG l m q j f)/\Hid (Blk wr w.heap.size (p+q+1) f 109)/\Below w.heap.size w wr) (fun i _=>p-(intOf i).toNat)
 case atStart=>exact⟨0,fun _=>0,Zs _,rfl,zrG.start _ _ _,HB0,hb1⟩
 case round=>
  clear HB0 hb1;obtain⟨j,f,hj,rfl,HI,HBl,hb⟩:=hrel
  by_cases hlt:j<p
  ·obtain⟨p1,o1,rfl,hp1,q1⟩:=(HX.out.below hb).pick (k:=j) Xc;have hdx:=zJ HL.out j;go_wp2
   go_loopw [7,8] (fun cv i wr=>∃k C:Nat,k<=q+1/\i=.int .i64 (k:Int)/\cv=.int .u64 (C:Int)/\Hid (C=zf9 (dig l j) (dig m) (fun k=>f (j+k)) k)/\
    Hid (Blk wr w.heap.size (p+q+1) (zdU f j (zi2 (dig l j) (dig m) (fun k=>f (j+k))) k) 109)/\Below w.heap.size w wr) (fun _ i _=>q+1-(intOf i).toNat)
   case atStart=>exact⟨0,0,Zs _,rfl,rfl,rfl,JU,hb⟩
   case round=>
    clear HBl hb q1;obtain⟨k,C,hk,rfl,rfl,HC,HBl,hb⟩:=hrel;have hC:C<4294967296:=by rw[HC.out];exact ziQ hdx (fun i=>zJ HM.out i) (fun i=>HI.out.lim _) k
    by_cases hlt2:k<q+1
    ·obtain⟨p1,o1,he,hp1,q1⟩:=(HX.out.below hb).pick (k:=j) Xc;cases he;have c2:=HBl.out.cell (x:=j+k) Ya;rw[zeB]at c2;have f2:=HBl.out.free (j+k);have hdy:=zJ HM.out k;have hfo:=HI.out.lim (j+k);have HE:=zh4 hC hdx hdy hfo;obtain⟨HYr,hB⟩:=hd2 (fun nq=>HLb.out _ ((HY.out.below hb).drewN nq) k Ya) hb;have s1:IntKind.i64.wrap ((j:Int)+(k:Int))=(j:Int)+(k:Int):=IntWalk.i64_in _ Ya;have s2:0<=(j:Int)+(k:Int):=Ya;have s3:((j:Int)+(k:Int)).toNat=j+k:=Ya;have s4:(j:Int)+(k:Int)<((p+q+1:Nat):Int):=Ya;clear hb;go_wp2
     go_quiet ((go_at_call 147;exact Calls.quiet_of_eq (HYr.out _)))
     clear s1 s2 s3 s4;go_wp2;go_roundw
     case rel=>
      have e1:(((C+dig l j*dig m k+f (j+k):Nat):Int)%4294967296)=((zi2 (dig l j) (dig m) (fun k=>f (j+k)) k:Nat):Int):=by
       unfold zi2;rw[<- HC.out];generalize C+dig l j*dig m k+f (j+k)=A;omega
      have e2:(((C+dig l j*dig m k+f (j+k):Nat):Int)/4294967296)=((zf9 (dig l j) (dig m) (fun k=>f (j+k)) (k+1):Nat):Int):=by
       simp only[zf9];rw[<- HC.out];generalize C+dig l j*dig m k+f (j+k)=A;omega
      simp only[Int.natCast_add,Zbb]at e1 e2
      refine⟨k+1,_,hlt2,Yg,by rw[e2],rfl,?_,(below_drewN hB.out _).setCell (Za _) _⟩
      rw[e1];unfold Hid;rw[zdl];exact(HBl.out.drewN _).set (j+k) _
     case measure=>simp[intOf];omega
    ·obtain rfl:k=q+1:=Ya;have hB:=hid hb;clear hb;go_wp2;go_roundw
     case rel=>
      refine⟨j+1,zbQ f (dig l j) (dig m) j q,hlt,Yg,HI.out.step HL.out HM.out HQ.out,?_,hB.out⟩
      exact HBl.out.congr (fun z hz=>zmR HI.out.lim hdx (zJ HM.out) (HI.out.zero _ (Za _)) (zcS (by rw[HQ.out];exact Za _)) z)
     case measure=>simp[intOf];omega
  ·obtain rfl:j=p:=Ya;have hU:=HBl.out.u32s (fun i _=>HI.out.lim i) Ya;have hv:zo ((List.range (j+q+1)).map f)=x*y:=by
    have hd:=HI.out.val;rw[zbL];show zA f (j+q)+f (j+q)*_=_
    rw[hd,HI.out.zero _ (Za _),Zbe,ZU,HP.out,show zA (dig l) l.length=zo l from rfl,HXv.out,HYv.out]
   have HT:=zdL (j+q+1) Yc hU Yi;rw[hv]at HT;simp only[Zv,Zav]at HT;have HT':=hid HT;clear HT hU hv
   go_wp2_with fail
   refine HT'.out.mono ?_
   rintro e w' ⟨a6,c6,rfl,h8,h9,h10,h11⟩;obtain⟨HB2,HF2⟩:=hd2 (hb.trans (h10.mono hb.size)) (h11.mono hb.size);clear h10 h11;go_wp2;go_ret;exact⟨a6,c6,rfl,h8,h9,HB2.out,HF2.out⟩
theorem zlf(a b:List Nat):zo (a++b)=zo a+4294967296^a.length*zo b:=by
 induction a with
 | nil=>simp[zcy]
 | cons d a ih=>rw[List.cons_append,zbs,zbs,ih,ZH,Zas,Za9,Zat,ZD (4294967296^a.length) 4294967296,ZL]
theorem zo5(z:Nat):zo (List.replicate z 0)=0:=by
 induction z with
 | zero=>rfl
 | succ z ih=>rw[List.replicate_succ,zbs,ih]
theorem zkK(d:Nat):zo [d]=d:=by rw[zbs,zcy];omega
def zhy(l:List Nat)(z s j:Nat):List Nat:=List.replicate z 0++(List.range j).map (zi2 (2^s) (dig l) fun _=>0)
theorem zoe(l:List Nat)(z s j:Nat):zhy l z s (j+1)=zhy l z s j++[zi2 (2^s) (dig l) (fun _=>0) j]:=by
 unfold zhy;rw[Zab,Zay,ZW];rfl
theorem zpS(l:List Nat)(z s j:Nat):(zhy l z s j).length=z+j:=by simp[zhy]
theorem zp6(l:List Nat)(z s j:Nat):Lim (zhy l z s j):=by
 intro d hd;unfold zhy at hd
 rcases Zar.1 hd with h|h
 ·have:=(List.mem_replicate.1 h).2;omega
 ·obtain⟨i,_,rfl⟩:=ZP.1 h;exact zmJ _ _ _ _
theorem zrd(l:List Nat)(z s:Nat):zo (zhy l z s l.length++[zf9 (2^s) (dig l) (fun _=>0) l.length])=zo l*2^(32*z+s):=by
 unfold zhy;rw[ZW,zlf,zo5,Zbj,ZR,zlf,zbL,zkK,Zv,Zav];have h:=zth (2^s) (dig l) (fun _=>0) l.length;rw[zeT (f:=fun _=>0) (fun _ _=>rfl),ZU,show zA (dig l) l.length=zo l from rfl]at h;rw[ZD (4294967296^l.length),h,Z9,<- zic,ZD (2^s),ZD,ZL,ZD (2^s)]
theorem zl6{x:Nat}{y:Nat->Nat}(hx:0<x)(hy:∀i,y i<4294967296)(n:Nat):zf9 x y (fun _=>0) n<x:=by
 induction n with
 | zero=>exact hx
 | succ n ih=>
  simp only[zf9,ZU]
  refine Nat.div_lt_of_lt_mul ?_
  have h:=ZQ x (show y n<=4294967295 from by have:=hy n;omega);omega
theorem zsI{C s:Nat}(hC:C<2^s)(hx:x<4294967296)(hs:s<32):bits .or .u64 (C:Int) (IntKind.u64.wrap ((x:Int)*2^s))=((C+2^s*x:Nat):Int):=by
 have h2:2^s<=2^31:=Zt Ya Ya;have h3:=ZY (show x<=4294967295 from Ya) h2;rw[ziP hx hs,bits_or_u64_nat _ _ Ya Ya,ZD (2^s)]
 congr 1
 exact zgD hC (Nat.mul_mod_left _ _)
theorem ztp(c z s k:Nat)(hk:k=32*z+s)(hs:s<32)(hz:z<=1048576)(h:zw w a l)(hx:zo l=v)(hr:l.length<=4194304):
  Calls Tryz.prog 143 #[.slice a l.length c,.int .i64 (k:Int)] w (zrm w (v*2^k)):=by
 obtain⟨HL,HX,HXv,HV⟩:=hd4 h.lim h hx (zrd l z s);rw[<- hk,hx]at HV;have hkz:(k:Int)/32=(z:Int):=Ya;have hks:(k:Int)%32=(s:Int):=Ya;have hkn:k%32=s:=Ya;obtain⟨i0,hi,hz3,hz4,hz5⟩:=info_parts Tryz.infoU32;clear h hx hk
 go_enter Tryz.func143,Tryz.ntmps143
 go_wp2_with (at_make;refine wpList_make_full _ rfl _ _ 48 rfl w.heap.size 109 i0 (.int .u32 0) 1 Tryz.underlying48 hi hz3 hz4 _ _ _ _ z rfl rfl Ya Ya ?b2 ?b3 (Za _) ?_)
 case b2=>rw[hz5];omega
 case b3=>unfold maxLen;omega
 intro w1 hown hgrow;have HO:Hid (w1.ownsRow w.heap.size 109 1 (.slice (some ⟨w.heap.size,0,none⟩) z z) (z+0) ((zhy l z s 0).map ziZ)):=by
  have e:(madeCells #[Value.int IntKind.u32 0] z).toList=(zhy l z s 0).map ziZ:=by
   simp[Zbp,zhy,ziZ]
  rw[<- e];exact hown
 have hb1:Below w.heap.size w w1:=(Ze _ _).grown hgrow (Za _) (fun k h=>YP);clear hown hgrow hz3 hz4 hz5 hi;go_wp2;clear hkz
 go_loopw [5,6,7] (fun o cy i wr=>∃j C:Nat,j<=l.length/\i=.int .i64 (j:Int)/\cy=.int .u64 (C:Int)/\Hid (C=zf9 (2^s) (dig l) (fun _=>0) j)/\Hid (wr.ownsRow w.heap.size 109 1 o (z+j) ((zhy l z s j).map ziZ))/\Hid (Below w.heap.size w wr)) (fun _ _ i _=>l.length-(intOf i).toNat)
 case atStart=>exact⟨0,0,Zs _,rfl,rfl,rfl,HO,hb1⟩
 case round=>
  clear HO hb1;obtain⟨j,C,hj,rfl,rfl,HC,hO,hBw⟩:=hrel;obtain⟨HKS,HKN⟩:=hd2 hks hkn;clear hks hkn;have hC:C<2^s:=by rw[HC.out];exact zl6 (Za0 s) (zJ HL.out) j
  have hC1:=Zb hC (Zt (show 0<2 from Ya) (Zan hs))
  by_cases hlt:j<l.length
  ·obtain⟨p1,o1,rfl,hp1,q1⟩:=(HX.out.below hBw.out).pick hlt;have hd:=zJ HL.out j;have E:=zsI hC hd hs;have HSc:Hid ((zhy l z s (j+1)).map ziZ=(zhy l z s j).map ziZ++[.int .u32 (((C+2^s*dig l j)%4294967296:Nat):Int)]):=by
    unfold Hid;rw[zoe,Zay,HC.out];rfl
   have HCn:Hid ((C+2^s*dig l j)/4294967296=zf9 (2^s) (dig l) (fun _=>0) (j+1)):=by unfold Hid;rw[HC.out];rfl
   have hT:C+2^s*dig l j<18446744073709551616:=by
    have h2:2^s<=2^31:=Zt Ya Ya;have h3:=ZY h2 (show dig l j<=4294967295 from Ya);omega
   generalize dig l j=x at *;generalize C+2^s*x=T at *;clear hC;have hks:=HKS.out;have hkn:=HKN.out
   go_wp2_with (at_builtin;refine zao rfl (.tmp 27) (.tmp 30) 48 rfl w.heap.size 109 (.int .u32 0) 4 Tryz.underlying48 Tryz.infoU32 rfl _ (z+j) _ rfl hO.out _ rfl rfl Ya Yf hBw.out.size ?_;intro v' w' hown hg hn)
   go_roundw
   case rel=>
    refine⟨j+1,T/4294967296,hlt,Yg,Yg,HCn.out,?_,hBw.out.grown hg hBw.out.size (fun k hk=>(hO.out.lt k hk).1)⟩
    unfold Hid;rw[HSc.out];exact hown
   case measure=>simp[intOf];omega
  ·obtain rfl:j=l.length:=Ya;have HV2:=hid HV.out;rw[<- HC.out]at HV2;have hLim:Hid (Lim (zhy l z s l.length++[C])):=by
    intro dd hd
    rcases Zar.1 hd with h|h
    ·exact zp6 _ _ _ _ dd h
    ·have:=List.mem_singleton.1 h;omega
   have HLn:Hid ((zhy l z s l.length++[C]).length=z+l.length+1):=by unfold Hid;simp[zpS]
   have HMp:Hid ((zhy l z s l.length++[C]).map ziZ=(zhy l z s l.length).map ziZ++[.int .u32 (C:Int)]):=V4;generalize zhy l z s l.length++[C]=R at *;have hcm:((C:Int))%4294967296=(C:Int):=Ya
   go_wp2_with (at_builtin;refine zao rfl (.tmp 34) (.tmp 37) 48 rfl w.heap.size 109 (.int .u32 0) 4 Tryz.underlying48 Tryz.infoU32 rfl _ (z+l.length) _ rfl hO.out _ rfl rfl Ya Yf hBw.out.size ?_;intro v' w' hown hg hn)
   have hown':w'.ownsRow w.heap.size 109 1 v' R.length (R.map fun d:Nat=>Value.int .u32 (d:Int)):=by
    rw[HLn.out];have h:(R.map fun d:Nat=>Value.int .u32 (d:Int))=(zhy l z s l.length).map ziZ++[.int .u32 (C:Int)]:=HMp.out;rw[h];exact hown
   obtain⟨a',c',rfl,h1,h2⟩:=zw.own hown' hLim.out JD;have HBl:=hid (hBw.out.grown hg hBw.out.size (fun k hk=>(hO.out.lt k hk).1));have hcall:=zdL c' h1 h2 JD;rw[HV2.out]at hcall;have HC:=hid hcall;clear hown hown' hg hn hcall h1 h2 hcm hO hBw
   go_wp2_with fail
   refine HC.out.mono ?_
   rintro e w3 ⟨a3,c3,rfl,h1,h2,h3,h4⟩;have HB3:=htr HBl h3;have HF3:=hid (h4.mono HBl.out.size);clear h3 h4;go_wp2;go_ret;exact⟨a3,c3,rfl,h1,h2,HB3.out,HF3.out⟩
def zgw(v n:Nat):Prop:=v<2^n/\(n=0∨2^(n-1)<=v)
theorem zgw.top{t:Nat}(hp:0<(za v).length)(h:zgw (dig (za v) ((za v).length-1)) t)(h0:dig (za v) ((za v).length-1)≠0):zgw v (32*((za v).length-1)+t):=by
 obtain⟨lo,h1,h2⟩:=zeX v hp;generalize dig (za v) ((za v).length-1)=d at *;rw[zic]at h1 h2;generalize 32*((za v).length-1)=m at *;obtain⟨h3,h4⟩:=h;subst h2;have ht:t≠0:=by rintro rfl;simp at h3;exact h0 h3
 refine⟨?_,.inr ?_⟩
 ·rw[Z9];have:=Zl (2^m) (show d+1<=2^t from Ya);rw[ZK,Zao]at this;rw[ZD (2^m)];omega
 ·rw[show m+t-1=(t-1)+m from Ya,Z9];have:=Zl (2^m) (h4.resolve_left ht);omega
def zrP(w:World)(v:Nat)(e:Ending)(w':World):Prop:=∃n:Nat,e=.returned (.int .i64 (n:Int))/\zgw v n/\n<=32*(za v).length/\Below w.heap.size w w'
theorem zsp(c:Nat)(hc:l.length<=c)(h:zw w a l)(hx:zo l=v)(hr:l.length<=17592186044416):
  Calls Tryz.prog 142 #[.slice a l.length c] w (zrP w v):=by
 have hM:=zdL c hc h Ya;have hle:(za v).length<=l.length:=Ym;rw[hx]at hM;have HM:=hid hM;clear hM h hx hc
 go_enter Tryz.func142,Tryz.ntmps142
 go_wp2_with fail
 refine HM.out.mono ?_
 rintro e w1 ⟨a1,c1,rfl,hc1,ha1,hb1,_⟩;have HB:=hid hb1;clear HM hb1
 by_cases hv:v=0
 ·subst hv;rw[zy]at *;go_wp2;go_ret;exact⟨0,rfl,⟨Ya,.inl rfl⟩,Ya,HB.out⟩
 ·have hp:0<(za v).length:=ZJ.2 (fun e=>Ko);obtain⟨p1,o1,rfl,hp1,q1⟩:=ha1.pick (show(za v).length-1<(za v).length from Ya);have hz1:(((za v).length:Int)==0)=false:=bn0 Ya;have hd:=zJ (zv v) ((za v).length-1);have h0:dig (za v) ((za v).length-1)≠0:=(zb2 v).resolve_left (ZJ.1 hp);have HT:=hid (fun t (h:zgw (dig (za v) ((za v).length-1)) t)=>zgw.top hp h h0);clear ha1 h0 hv;generalize dig (za v) ((za v).length-1)=d at *;generalize hn:(za v).length=n at *;have HN:=hid hn;clear hn;go_wp2
  go_loopw [3,4] (fun k x wr=>∃j X:Nat,k=.int .i64 ((32*(n-1)+j:Nat):Int)/\x=.int .u32 (X:Int)/\Hid (X=d/2^j)/\Hid (j=0∨2^(j-1)<=d)/\j<=32/\wr=w1) (fun _ x _=>(intOf x).toNat)
  case atStart=>exact⟨0,d,Yi,rfl,Xq,.inl rfl,Ya,rfl⟩
  case round=>
   obtain⟨j,X,rfl,rfl,HX,HJ,hj,rfl⟩:=hrel
   by_cases hX:X=0
   ·subst hX;have hlt:Hid (zgw d j):=by
     refine⟨?_,HJ.out⟩
     have:=HX.out.symm
     rcases ZaC d (2^j)with h|h
     ·exact h
     ·exact absurd (Nat.div_pos h (Za0 j)) Ya
    go_wp2;go_ret;exact⟨_,rfl,HT.out j hlt.out,by rw[HN.out];omega,HB.out⟩
   ·have hX1:X<=d:=by rw[HX.out];exact Za1 _ _
    have hge:2^j<=d:=by
     rcases ZaC d (2^j)with h|h
     ·exact absurd (HX.out.trans (ZaM h)) hX
     ·exact h
    have hj2:j<32:=by
     rcases ZaC j 32 with h|h
     ·exact h
     ·have:=Zt (show 0<2 from Ya) h;omega
    have HX2:Hid (X/2=d/2^(j+1)):=by unfold Hid;rw[HX.out,Zas,Zbd]
    have hXd:decide ((0:Int)<(X:Int))=true:=YU;have HG:=hid hge;clear hge;go_wp2;go_roundw
    case rel=>exact⟨j+1,X/2,Yg,Yg,HX2,.inr (by rw[ZaA];exact HG.out),Ya,by first|rfl|trivial⟩
    case measure=>simp[intOf];omega
