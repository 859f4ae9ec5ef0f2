/-
  Contracts: NBase, NatA, NatB, NatC, Ext, TenSpec, TenA, WinSpec, TenD, RefA, Draw, Slots, SlotsB, SlotsC, SlotsE, TenE, TenB, TenF, TenG, TenI, TenH, TenC, TenL, TenM, WinLaw, SlotsF, SlotsG.
-/
import Derived.Test.YtfgmmghmmfmdgaaGreatO1
import Derived.Test.YtfgmmghmmfmdgaaGreatO3
import Derived.Test.YtfgmmghmmfmdgaaGreatO0
set_option linter.all false
set_option maxRecDepth 100000
set_option maxHeartbeats 3200000
namespace Go.Proofs.YtfgmmghmmfmdgaaGreat
open Go.RowKit
open Go.Lib (hid)
theorem Oi{P:Prop}(h:P:=by
 by_cases hij:j=i
 ·subst hij;unfold upd;rw[Zm rfl];exact hG2
 ·unfold upd;rw[Zg hij]
  refine hG _ _ _ _ (hall j hjl ?_) hS2
  rw[getD_set_ne _ (Ne.symm hij)]at hj;exact hj
):P:=h
theorem Oj{P:Prop}(h:P:=by unfold Hid;rw[Zag];rintro rfl;exact he rfl):P:=h
theorem Ol{P:Prop}(h:P:=by have h1:=HT.out;rw[Zae,HE.out,Zae]at h1;unfold Hid;simp[h1]):P:=h
theorem Om{P:Prop}(h:P:=by
 have hA:=zfE XH (hup i hil hlt) hc hi;have hin:i=n:=TI;subst hin;have hs1:=hlast l.toArray g w' hR (zcC.of _ fun j hj=>hall j hj (hA j hj));exact UD
):P:=h
theorem On{P:Prop}(h:P:=by
 subst hxy;go_wp2
 go_quiet (fail)
 go_wp2;go_roundw
 case rel=>exact⟨j+1,hlt,Yg,Kg,_,rfl⟩
 case measure=>simp[intOf];omega
):P:=h
theorem Oo{P:Prop}(h:P:=by have:=zd0 (g:=g) (v:=v) (l.take n) 0 i a hap VN;rw[ZR]at this;rw[<- this];simp only[ho',Option.bind_some]):P:=h
theorem O5{P:Prop}(h:P:=by clear hv hbad;exact Uu):P:=h
theorem O8{P:Prop}(h:P:=by intro i o _ hi;rw[hrep]at hi;cases hi):P:=h
theorem Us{P:Prop}(h:P:=by go_enter Tryz.func131,Tryz.ntmps131;go_wp2_with (first|(go_at_call 53;refine HV.out.mono ?_;rintro e w' ⟨rfl,rfl⟩)|(go_at_call 157;refine(zsA _ _).mono ?_;rintro e w' ⟨rfl,rfl⟩));refine Zp (zcZ rfl _ _ _) rfl ?_;exact zeQ HS.out (Ze _ _)):P:=h
theorem Uu{P:Prop}(h:P:=by go_enter Tryz.func64,Tryz.ntmps64;go_wp2_with (go_at_call 50;refine HV.out.mono ?_;rintro e w' ⟨rfl,rfl⟩);refine Zp (zcZ rfl _ _ _) rfl ?_;exact zeQ HS.out (Ze _ _)):P:=h
theorem Uw{P:Prop}(h:P:=by
 have hmi:m<=i:=by
  rcases ZaC i m with h|h
  ·have h5:=h3 i h;rw[ZV]at h5 hu
   cases hx:listed[i]? with
   | none=>rw[hx]at h5;cases h5
   | some b=>rw[hx]at h5 hu;simp at h5 hu;rw[h5]at hu;cases hu
  ·exact h
 have hA:=zfE XH (hup i Ya hlt) hc hi;have him:i=m:=by
  rcases ZaC m i with h|h
  ·have:=hA m h;rw[h4 m (Za _)]at this;cases this
  ·omega
 subst him;have ho':l[i]? =some o:=Y8;have hd:l.drop i=o::l.drop (i+1):=by
  have hx:l[i]=o:=by rw[Zh hlt]at ho';exact Option.some.inj ho'
  rw[ZaR hlt,hx]
 rw[hd]at hq
 refine wpOp_mono ?_ (zfX ho hq)
 intro a2 w2 hq
 refine⟨XP,hclo,.inr ⟨i+1,Ya,Ya,fun j hj=>?_,fun j hj=>?_,hq⟩⟩
 ·by_cases hij:i=j
  ·subst hij;exact hset
  ·rw[getD_set_ne _ hij];exact h3 j Ya
 ·rw[getD_set_ne _ Ya];exact h4 j Ya
):P:=h
theorem Uz{P:Prop}(h:P:=by
 by_cases he:l.length=m.length
 ·have HE:=hid he;have hlb:decide (¬ (l.length:Int)=(m.length:Int))=false:=Yi;have hlc:((l.length:Int)==(m.length:Int))=true:=Yi;have hge1:l.length<=m.length:=Ya;have hge2:m.length<=l.length:=Ya;go_wp2
  go_loopw [5] (fun i wr=>∃j:Nat,j<=l.length/\i=.int .i64 (j:Int)/\Hid (l.take j=m.take j)/\Hid (∃n,wr=w.drewN n)) (fun i _=>l.length-(intOf i).toNat)
  case atStart=>exact⟨0,Zs _,rfl,Xq,0,rfl⟩
  case round=>
   obtain⟨j,hj,rfl,HT,HN⟩:=hrel;obtain⟨nd,rfl⟩:=HN.out
   by_cases hlt:j<l.length
   ·have hltm:j<m.length:=Ya;obtain⟨p1,o1,rfl,_,cA⟩:=HA.out.pick hlt;obtain⟨p2,o2,rfl,_,cB⟩:=HB.out.pick hltm;obtain⟨TA,TB,GA,GB⟩:=hd4 (zeY (zef hlt)) (zeY (zef hltm)) (zef hlt) (zef hltm);generalize dig l j=x at *;generalize dig m j=y at *
    by_cases hxy:x=y
    ·exact On
    ·have hne:Hid (decide (l=m)=false):=by
      unfold Hid;rw[Zag];rintro rfl;have h1:=GA.out.symm.trans GB.out;cases h1;exact hxy rfl
     have hxb:((x:Int)==(y:Int))=false:=bn0 Ya;go_wp2
     go_quiet (fail)
     go_wp2;go_ret;exact⟨Kt,zjY _ _ _⟩
   ·obtain rfl:j=l.length:=Ya;have he2:Hid (decide (l=m)=true):=Ol;go_wp2;go_ret;exact⟨by rw[he2.out];rfl,_,rfl⟩
 ·have hne:Hid (decide (l=m)=false):=Oj;go_wp2;go_ret;exact⟨Kt,0,rfl⟩
):P:=h
theorem U5{P:Prop}(h:P:=by
 have hupl:∀j,listed.getD j false=true->(listed.setIfInBounds i true).getD j false=true:=by
  intro j hj
  by_cases hij:i=j
  ·subst hij;exact hset
  ·rw[getD_set_ne _ hij];exact hj
 intro k o' ho' hk e he hb
 by_cases hik:i=k
 ·subst hik;rw[ho]at ho';cases ho';exact hupl _ (hdep e he hb)
 ·rw[getD_set_ne _ hik]at hk;exact hupl _ (hc k o' ho' hk e he hb)
):P:=h
theorem UD{P:Prop}(h:P:=by
 have ho':l[i]? =some o:=Y8;have hd:l.drop i=o::l.drop (i+1):=by
  have hx:l[i]=o:=by rw[Zh hlt]at ho';exact Option.some.inj ho'
  rw[ZaR hlt,hx]
 rw[hd]at hs1
 refine wpOp_mono ?_ (zfX ho hs1)
 intro a2 w2 hq
 refine⟨XP,hclo,.inr ⟨i+1,Ya,Ya,fun j hj=>?_,fun j hj=>?_,hq⟩⟩
 ·by_cases hij:i=j
  ·subst hij;exact hset
  ·rw[getD_set_ne _ hij];exact hA j Ya
 ·rw[getD_set_ne _ Ya];exact hl j Ya
):P:=h
theorem UE{P:Prop}(h:P:=by
 have HX:=hid hX;clear hX hin
 go_wp2_with (first
  | (go_at_call 98;refine(znZ ca 3 hI2 hI3 HX.out).mono ?_;rintro e wI ⟨rfl,hbI⟩;have hown2:=zib (HV.out.alloc _) hbI)
  | (at_builtin;refine zao rfl (.tmp 173) (.tmp 175) 22 rfl wc.heap.size 3 (.int .i64 0) 8 Tryz.underlying22 Tryz.info3 rfl _ T.length _ rfl hown2 _ rfl rfl Ya Yf Kv ?_;intro v' w' hown hg hn))
 go_roundw
 case rel=>
  have hbA:Below wc.heap.size wc wI:=hBc.trans (((Ze _ wr).alloc hBc.size _).trans (hbI.mono (by have:=hBc.size;simp;omega)))
  refine⟨k+1,T++[q.at r c ch i k],Ya,Yg,?_,Yi,?_,hbA.grown hg hbA.size (fun k hk=>(HV.out.lt k hk).1)⟩
  ·unfold Hid;rw[ziH,HT.out]
  ·unfold Hid;rw[HA.out];simpa using hown
 case measure=>simp[intOf];omega
):P:=h
theorem UI{P:Prop}(h:P:=by
 rintro listed a' w' ⟨hs,hc,⟨hl,_⟩|⟨m,h1,h2,_,h4,hq⟩⟩ hr
 ·have:=zeh Kd hbk hr n VU;rw[hl n (Za _)]at this;cases this
 ·have hml:m=l.length:=by
   rcases ZaC m l.length with h|h
   ·have:=zeh Kd hbk hr m VW;rw[h4 m (Za _)]at this;cases this
   ·omega
  rw[hml,Zbr]at hq;exact hq
):P:=h
theorem UT{P:Prop}(h:P:=by
 obtain⟨k,n,hk,hn1,hn2,rfl,rfl,hrel⟩:=hrel
 by_cases hlt:k<l.length
 ·obtain⟨b,off,d,rfl,hc,_,hd,hw1,hw2⟩:=h.pick hlt;have HD:=hid hd;clear hd h
  by_cases c1:d<1
  ·go_wp2;go_ret;exact⟨zi KM,rfl⟩
  by_cases c2:16384<d
  ·go_wp2;go_ret;exact⟨zi Kb,rfl⟩
  have hb:=zfk hn1 hn2 (by omega:1<=d) Ya
  by_cases c3:16384<n*d
  ·go_wp2;go_ret;exact⟨zi Kc,rfl⟩
  go_wp2;go_round
  case rel=>exact⟨k+1,n*d,Ya,Ya,Ya,Yg,rfl,Ks⟩
  case measure=>simp[intOf];omega
 ·go_wp2;go_ret;exact⟨zi YM,rfl⟩
):P:=h
theorem UU{P:Prop}(h:P:=by
 rw[ZR]at hs1
 refine wpOp_mono ?_ (zca ho hs1)
 rintro a2 w2 ⟨v,rfl,hR2,hS2,hG2⟩
 refine⟨XP,hclo,.inl ⟨fun j hj=>X8,upd g i v,?_,hR2,fun j hjl hj=>?_⟩⟩
 ·exact Oo
 ·exact Oi
):P:=h
theorem Tb{P:Prop}(h:P:=by
 obtain⟨k,n,hk,hn1,hn2,rfl,rfl,hv,hrel⟩:=hrel
 by_cases hlt:k<l.length
 ·obtain⟨b,off,d,rfl,hc,_,hd,hw1,hw2⟩:=h.pick hlt;obtain⟨d1,d2,d3,d4,d5⟩:=zbo hd hn1 hv.out;obtain⟨HD,H5⟩:=hd2 hd d5;clear hd h d5;go_wp2;go_round
  case rel=>exact⟨k+1,n*d,Ya,Ya,Ya,Yg,rfl,H5,by rw[<- hrel.out,HD.out];rfl⟩
  case measure=>simp[intOf];omega
 ·go_wp2;go_ret;exact⟨zaD YM,rfl⟩
):P:=h
theorem Td{P:Prop}(h:P:=by
 go_roundw
 case rel=>
  refine⟨c+1,M++[q.one r c],xs++[.slice aw P.length cw],Ya,Yg,?_,?_,Yi,(hB.trans (hBc.mono hB.size)).grown hg Xk (fun k hk=>(HO'.own.lt k hk).1)⟩
  ·unfold Hid;rw[ziH,HM.out]
  ·unfold Hid;have HPe:q.one r c=P:=HP.out.symm;rw[HPe];exact HO'.app hIw hcapw (fun b hb=>⟨JY,fun e=>Kh⟩) hown hg hn
 case measure=>simp[intOf];omega
):P:=h
theorem Tl{P:Prop}(h:P:=by
 obtain rfl:i=q.kh:=Ya;go_wp2;go_roundw
 case rel=>exact⟨ch+1,S,Ya,Yg,by
  unfold Hid;have:=zhg [] (q.chan r c) ch;simp only[ZaV]at this;rw[this,<- HP.out];exact HSl.out,by omega,HV,hBc⟩
 case measure=>simp[intOf];omega
):P:=h
theorem Tm{P:Prop}(h:P:=by
 have hrep:∀i,(Array.replicate l.toArray.size false).getD i false=false:=by
  intro i;simp only[ZV,Array.getElem?_replicate]
  split<;>rfl
 refine⟨Yc,?_,.inl ⟨fun i _=>hrep i,zeN (l.take n) a,(zcx _ _ _ (fun i _=>Jd)).symm,h0,?_⟩⟩
 ·exact O8
 ·intro i _ hi;rw[hrep]at hi;cases hi
):P:=h
theorem Ts{P:Prop}(h:P:=by intro i;simp only[ZV,Array.getElem?_replicate];split<;>rfl):P:=h
theorem Tw{P:Prop}(h:P:=by
 obtain rfl:c=q.Q:=Ya;go_wp2;go_roundw
 case rel=>exact⟨r+1,M,xs,Ya,Yg,by
  unfold Hid;have:=zhg [] q.rowOf r;simp only[ZaV]at this;rw[this,<- HL.out];exact HM.out,HO,by omega,hB⟩
 case measure=>simp[intOf];omega
):P:=h
theorem T7{P:Prop}(h:P:=by
 have e:(fun j=>(listed.setIfInBounds i true).getD j false)=zdj (fun j=>listed.getD j false) i:=by
  funext j
  unfold zdj
  by_cases hij:j=i
  ·subst hij;rw[Zm rfl];exact hset
  ·rw[Zg hij,getD_set_ne _ (Ne.symm hij)]
 rw[e];exact hJ2
):P:=h
theorem TC{P:Prop}(h:P:=by
 obtain rfl:r=q.R:=Ya;go_wp2
 refine Zp (zcZ rfl _ _ _) rfl ?_
 obtain⟨a',c',hv',hI⟩:=HO.out.intss Ya;have hLq:L=q.all:=HL.out
 refine⟨a',c',?_,?_,hB⟩
 ·rw[HS.out,<- hLq,<- hv'];rfl
 ·rw[HS.out,<- hLq];exact hI
):P:=h
theorem TI{P:Prop}(h:P:=by
 rcases ZaC n i with h|h
 ·have:=hA n h;rw[hl n (Za _)]at this;cases this
 ·omega
):P:=h
theorem TJ{P:Prop}(h:P:=by
 intro l
 induction l with
 | nil=>intro k _ i o h;simp at h
 | cons p l ih=>
  intro k h i o ho
  cases i with
  | zero=>simp at ho;subst ho;exact h.1
  | succ i=>
   have:=ih (k+1) h.2 i o Y8;rw[show k+(i+1)=k+1+i from Ya];exact this
):P:=h
theorem TK{P:Prop}(h:P:=by
 refine⟨?_,Yc,.inr ⟨w.heap.size,0,rfl,Yc,fun j d hj=>?_⟩⟩
 ·intro d hd;simp at hd;omega
 ·rw[World.cell?_alloc_at _ _ _ _ rfl]
  match j,hj with
  | 0,hj=>simp at hj;subst hj;simp
  | 1,hj=>simp at hj;subst hj;simp
):P:=h
theorem TM{P:Prop}(h:P:=by intro t h1 h2;have:=Zau.1 hus (t-n) (Z5.2 Ya);rw[show n+(t-n)=t from Ya]at this;exact this):P:=h
theorem TR{P:Prop}(h:P:=by go_wp2;refine Zp (zcZ rfl _ _ _) rfl ?_;refine zeQ (zdy hno hno2 ?_) (below_drewN (Ze _ _) _);rw[hwin];have:((q.total:Nat):Int)=(q.R:Int)*q.Q*q.C*q.kh*q.kw:=VL;omega):P:=h
theorem TV{P:Prop}(h:P:=by
 refine⟨k+1,T++[q.at r c ch i k],Ya,Yg,?_,Yi,?_,hBc.grown hg hBc.size (fun k hk=>(HV.out.lt k hk).1)⟩
 ·unfold Hid;rw[ziH,HT.out]
 ·unfold Hid;rw[HA.out];simpa using hown
):P:=h
theorem Ek{P:Prop}(h:P:=by
 obtain rfl:k=q.kw:=Ya;go_wp2;go_roundw
 case rel=>exact⟨i+1,T,Ya,Yg,Ku,Ya,HV,hBc⟩
 case measure=>simp[intOf];omega
):P:=h
theorem Et{P:Prop}(h:P:=by clear hv hV;go_enter Tryz.func98,Tryz.ntmps98;go_wp2_with (go_at_call 50;refine HV.out.mono ?_;rintro e w' ⟨rfl,rfl⟩);go_ret2;exact⟨zlc HS.out.symm,0,rfl⟩):P:=h
theorem E6{P:Prop}(h:P:=by
 intro es
 induction es with
 | nil=>intro _;trivial
 | cons e es ih=>intro h;exact⟨h e Zal,ih (fun x hx=>h x (ZaP _ hx))⟩
):P:=h
theorem EE{P:Prop}(h:P:=by
 unfold Hid;rw[zeH hno hno2 (by
  rw[hwin];have:((q.total:Nat):Int)=(q.R:Int)*q.Q*q.C*q.kh*q.kw:=VL;omega),hwin]
):P:=h
theorem EJ{P:Prop}(h:P:=by
 rw[ZV]at hu⊢
 cases hx:listed[i]? with
 | none=>rfl
 | some b=>rw[hx]at hu;simpa using hu
):P:=h
theorem Ia{P:Prop}(h:P:=by exact⟨zi HS.out.symm,rfl⟩):P:=h
theorem Ih{P:Prop}(h:P:=by unfold zaZ at hbad;rw[HG1.out,HG2.out]at hbad;simp only[HL.out]at hbad;simp at hbad;omega):P:=h
theorem Ii{P:Prop}(h:P:=by
 ·rw[show(fun i=>(Array.replicate l.toArray.size false).getD i false)=fun _=>false from funext hrep];exact h0 _
):P:=h
theorem Is{P:Prop}(h:P:=by exact⟨zi HV.out.symm,rfl⟩):P:=h
theorem I9{P:Prop}(h:P:=by rw[List.getElem?_take,Zm hil'];simpa using ho):P:=h
theorem IL{P:Prop}(h:P:=by exact Zi (Zl _ this) (Nat.div_mul_le_self _ _)):P:=h
theorem Yg{P:Prop}(h:P:=by go_num):P:=h
structure zw (w:World) (a:Option Addr) (l:List Nat):Prop where
 lim:Lim l
 len:l.length<=9223372036854775807
 row:l=[] ∨ ∃b off,a=some ⟨b,off,none⟩/\b<w.heap.size/\∀(j d:Nat),l[j]? =some d->w.cell? ⟨b,off+j,none⟩=some (.int .u32 (d:Int))
theorem zw.nil(w:World)(a:Option Addr):zw w a []:=⟨by intro d hd;simp at hd,Yc,.inl rfl⟩
theorem zw.below{w w':World}{a:Option Addr}{l:List Nat}(h:zw w a l)(hb:Below w.heap.size w w'):zw w' a l:=by
 refine⟨h.lim,h.len,h.row.imp id ?_⟩
 rintro⟨b,off,rfl,hs,hc⟩;exact⟨b,off,rfl,Zb hs hb.size,fun j d hj=>(hb.cell (p:=⟨b,off+j,none⟩) hs).trans (hc j d hj)⟩
theorem zw.drewN{w:World}{a:Option Addr}{l:List Nat}(h:zw w a l)(n:Nat):zw (w.drewN n) a l:=⟨h.lim,h.len,h.row⟩
theorem zw.pick{w:World}{a:Option Addr}{l:List Nat}(h:zw w a l){k:Nat}(hk:k<l.length):
  ∃b off,a=some ⟨b,off,none⟩/\b<w.heap.size/\w.cell? ⟨b,off+k,none⟩=some (.int .u32 (dig l k:Int)):=by
 rcases h.row with rfl|⟨b,off,rfl,hb,hc⟩
 ·simp at hk
 ·exact⟨b,off,rfl,hb,hc k _ (zef hk)⟩
theorem zw.open{w:World}{a:Option Addr}{l:List Nat}(h:zw w a l)(hl:l≠[]):
  ∃b off,a=some ⟨b,off,none⟩/\b<w.heap.size/\∀j,j<l.length->w.cell? ⟨b,off+j,none⟩=some (.int .u32 (dig l j:Int)):=by
 rcases h.row with rfl|⟨b,off,rfl,hb,hc⟩
 ·exact absurd rfl hl
 ·exact⟨b,off,rfl,hb,fun j hj=>hc j _ (zef hj)⟩
theorem zw.take{w:World}{a:Option Addr}{l:List Nat}(h:zw w a l)(n:Nat):zw w a (l.take n):=by
 refine⟨fun d hd=>h.lim d (ZT hd),by have:=h.len;simp;omega,?_⟩
 rcases h.row with rfl|⟨b,off,rfl,hb,hc⟩
 ·left;simp
 ·right
  refine⟨b,off,rfl,hb,fun j d hj=>hc j d ?_⟩
  rw[List.getElem?_take]at hj
  split at hj
  ·exact hj
  ·cases hj
theorem zw.drop{w:World}{b off:Nat}{l:List Nat}(h:zw w (some ⟨b,off,none⟩) l)(n:Nat):zw w (some ⟨b,off+n,none⟩) (l.drop n):=by
 refine⟨fun d hd=>h.lim d (ZX hd),by have:=h.len;simp;omega,?_⟩
 rcases h.row with rfl|⟨b',off',he,hb,hc⟩
 ·left;simp
 ·cases he
  right
  refine⟨b,off+n,rfl,hb,fun j d hj=>?_⟩
  rw[List.getElem?_drop]at hj;have:=hc (n+j) d hj
  rwa [<- Zat]at this
def zmH(n:Nat)(f:Nat->Nat):Array Value:=((List.range n).map fun x=>Value.int .u32 (f x:Int)).toArray
def Blk(w:World)(g n:Nat)(f:Nat->Nat)(T:Nat):Prop:=w.heap[g]? =some (.cells (zmH n f) T (0,0))
theorem zpP(f:Nat->Nat){n x:Nat}(hx:x<n):(zmH n f)[x]? =some (.int .u32 (f x:Int)):=by simp[zmH,hx]
theorem zpu(f:Nat->Nat)(n x v:Nat):(zmH n f).setIfInBounds x (.int .u32 (v:Int))=zmH n (fun y=>if y=x then v else f y):=by
 unfold zmH;rw[List.setIfInBounds_toArray]
 congr 1
 apply List.ext_getElem
 ·simp
 ·intro i h1 h2;rw[List.getElem_set]
  by_cases h:x=i
  ·subst h;simp
  ·simp[h,Ne.symm h]
theorem zmz{f g:Nat->Nat}{n:Nat}(h:∀i,i<n->f i=g i):zmH n f=zmH n g:=by
 unfold zmH
 congr 1
 exact ZaJ (fun i hi=>by rw[h i (Z5.1 hi)])
theorem Blk.lt{w:World}{g n:Nat}{f:Nat->Nat}{T:Nat}(h:Blk w g n f T):g<w.heap.size:=(ZF.1 h).1
theorem Blk.cell{w:World}{g n:Nat}{f:Nat->Nat}{T:Nat}(h:Blk w g n f T){x:Nat}(hx:x<n):w.cell? ⟨g,x,none⟩=some (.int .u32 (f x:Int)):=by
 unfold Blk at h;simp[World.cell?,h,zpP f hx]
theorem Blk.free{w:World}{g n:Nat}{f:Nat->Nat}{T:Nat}(h:Blk w g n f T)(x:Nat):w.frozen? ⟨g,x,none⟩=false:=by
 unfold Blk at h;simp[World.frozen?,h]
theorem Blk.set{w:World}{g n:Nat}{f:Nat->Nat}{T:Nat}(h:Blk w g n f T)(x v:Nat):Blk (w.setCell ⟨g,x,none⟩ (.int .u32 (v:Int))) g n (fun y=>if y=x then v else f y) T:=by
 unfold Blk at *;rw[<- zpu f n x v];simp[World.setCell,Zbl,h]
theorem Blk.congr{w:World}{g n:Nat}{f f':Nat->Nat}{T:Nat}(h:Blk w g n f T)(hf:∀i,i<n->f i=f' i):Blk w g n f' T:=by
 unfold Blk at *;rw[<- zmz hf];exact h
theorem Blk.below{w w':World}{g n:Nat}{f:Nat->Nat}{T:Nat}(h:Blk w g n f T)(hb:Below w.heap.size w w'):Blk w' g n f T:=by
 unfold Blk at *;exact(hb.block g (ZF.1 h).1).trans h
theorem Blk.drewN{w:World}{g n:Nat}{f:Nat->Nat}{T:Nat}(h:Blk w g n f T)(k:Nat):Blk (w.drewN k) g n f T:=h
theorem Blk.u32s{w:World}{g n:Nat}{f:Nat->Nat}{T:Nat}(h:Blk w g n f T)(hf:∀i,i<n->f i<4294967296)(hn:n<=9223372036854775807):zw w (some ⟨g,0,none⟩) ((List.range n).map f):=by
 refine⟨?_,by simpa using hn,?_⟩
 ·intro d hd;simp only[ZP,Z5]at hd;obtain⟨i,hi,rfl⟩:=hd;exact hf i hi
 ·right
  refine⟨g,0,rfl,h.lt,fun j d hj=>?_⟩
  rw[ZN]at hj
  rcases ZaC j n with hlt|hge
  ·rw[Zam hlt]at hj;simp at hj;subst hj;rw[ZR];exact h.cell hlt
  ·rw[ZaW (by simpa using hge)]at hj;cases hj
def zoN(w:World)(v:Nat)(e:Ending)(w':World):Prop:=∃a c,e=.returned (.slice a (za v).length c)/\(za v).length<=c/\zw w' a (za v)/\Below w.heap.size w w'
theorem zlh{w:World}{a:Option Addr}{l:List Nat}(c:Nat)(hc:l.length<=c)(h:zw w a l):
  Calls Tryz.prog 151 #[.slice a l.length c] w fun e w'=>(∃a' c',e=.returned (.slice a' (za (zo l)).length c')/\(za (zo l)).length<=c'/\zw w a' (za (zo l))/\(a'=a∨za (zo l)=[]))/\w=w':=by
 have hlen:=h.len;obtain⟨HU,HL⟩:=hd2 h h.lim;clear h
 go_enter Tryz.func151,Tryz.ntmps151
 go_wp2
 go_loop [3] (fun i=>∃n:Nat,n<=l.length/\i=.int .i64 n/\Hid (∀i,n<=i->i<l.length->dig l i=0)) (fun i=>(intOf i).toNat)
 case atStart=>exact⟨l.length,Za _,rfl,fun i h1 h2=>Ya⟩
 case round=>
  obtain⟨n,hn,rfl,hz⟩:=hrel
  cases n with
  | zero=>
   have hT:=zfq HL.out hn hz.out (.inl rfl);rw[Zw]at hT;have HT:=hid hT;clear hT;go_wp2;go_ret
   refine⟨⟨none,0,by rw[<- HT.out];rfl,by rw[<- HT.out];simp,by rw[<- HT.out];exact zw.nil _ _,.inr HT.out.symm⟩,rfl⟩
  | succ m=>
   obtain⟨b,off,rfl,hb,hcell⟩:=HU.out.pick (show m<l.length from Ya);have e1:((m+1:Nat):Int)-1=(m:Int):=Ya
   by_cases hd:dig l m=0
   ·rw[hd]at hcell;go_wp2;go_round
    case rel=>exact⟨m,Ya,Yg,fun i h1 h2=>by
     by_cases hi:i=m
     ·rw[hi];exact hd
     ·exact hz.out i Ya h2⟩
    case measure=>simp[intOf]
   ·have hT:=zfq HL.out hn hz.out (.inr hd);have HT:=hid hT;have hne:((dig l m:Int)==0)=false:=bn0 Ya;clear hT;go_wp2;go_ret;have hle:(za (zo l)).length=m+1:=by rw[<- HT.out];simp;omega
    refine⟨⟨some ⟨b,off,none⟩,c,by rw[hle];rfl,Ya,by rw[<- HT.out];exact HU.out.take _,.inl rfl⟩,rfl⟩
theorem zrY{w:World}{a:Option Addr}{l:List Nat}(c:Nat)(hc:l.length<=c)(h:zw w a l):
  Calls Tryz.prog 151 #[.slice a l.length c] w fun e w'=>(∃a' c',e=.returned (.slice a' (za (zo l)).length c')/\(za (zo l)).length<=c'/\zw w a' (za (zo l)))/\w=w':=
 (zlh c hc h).mono fun _ _ ⟨⟨a',c',h1,h2,h3,_⟩,h4⟩=>⟨⟨a',c',h1,h2,h3⟩,h4⟩
theorem zY{w:World}{a:Option Addr}{l:List Nat}{v:Nat}(c:Nat)(hc:l.length<=c)(h:zw w a l)(hv:zo l=v):
  Calls Tryz.prog 151 #[.slice a l.length c] w fun e w'=>(∃a' c',e=.returned (.slice a' (za v).length c')/\(za v).length<=c'/\zw w a' (za v))/\w=w':=by
 subst hv;exact zrY c hc h
theorem zsm{w:World}{a:Option Addr}{l:List Nat}(c:Nat)(h:zw w a l):
  Calls Tryz.prog 120 #[.slice a l.length c] w fun e w'=>e=.returned (.bool (decide (zf4 l)))/\w=w':=by
 have hlen:=h.len
 by_cases h0:l=[]
 ·subst h0
  go_enter Tryz.func120,Tryz.ntmps120
  go_wp2;go_ret;exact⟨rfl,rfl⟩
 ·have hp:0<l.length:=ZJ.2 h0;obtain⟨b,off,rfl,hb,hcell⟩:=h.pick (show l.length-1<l.length from Ya);obtain⟨m,hm⟩:∃m,l.length=m+1:=⟨l.length-1,Ya⟩
  have hC:zf4 l ↔ dig l m≠0:=by
   unfold zf4;rw[hm,ZaA];exact⟨fun h=>h.resolve_left h0,.inr⟩
  rw[hm,ZaA]at hcell;rw[hm]at hlen⊢;have HC:=hid hC;clear hC h hm hp h0
  by_cases hd:dig l m=0
  ·rw[hd]at hcell
   go_enter Tryz.func120,Tryz.ntmps120
   go_wp2;go_ret;have e0:((m:Int)+1==0)=false:=bn0 Ya;have e1:decide (zf4 l)=false:=by rw[Zag,HC.out];simp[hd]
   exact⟨zi (by rw[e0,e1]),rfl⟩
  ·have hne:((dig l m:Int) != 0)=true:=Xi
   go_enter Tryz.func120,Tryz.ntmps120
   go_wp2;go_ret;exact⟨zi (by rw[eq_comm,ZC,HC.out];exact hd),rfl⟩
theorem nOf(x:Nat)(hx:x<18446744073709551616)(w:World):Calls Tryz.prog 130 #[.int .u64 (x:Int)] w (zoN w x):=by
 go_enter Tryz.func130,Tryz.ntmps130
 go_wp2_with fail
 have hU:zw (w.alloc (.cells #[.int .u32 ((x:Int)%4294967296),.int .u32 ((x:Int)/4294967296)] 109)) (some ⟨w.heap.size,0,none⟩) [x%4294967296,x/4294967296]:=TK;have hv:zo [x%4294967296,x/4294967296]=x:=JS
 refine(zY (l:=[x%4294967296,x/4294967296]) 2 (Za _) hU hv).mono ?_
 rintro e w' ⟨⟨a',c',rfl,h1,h2⟩,rfl⟩;clear hU hv;go_wp2;go_ret;exact⟨a',c',rfl,h1,h2,(Ze _ _).alloc (Za _) _⟩
theorem zfG{x y:Nat}(h:x<y):zdR x y= -1:=by simp[zdR,h]
theorem zkr{x y:Nat}(h:y<x):zdR x y=1:=by simp[zdR,h];omega
theorem zoK(x:Nat):zdR x x=0:=by simp[zdR]
theorem zfY{x y:Nat}(h:(za x).length<(za y).length):x<y:=by
 have:=zkz (zv x) (zb2 y) h
 rwa [zg,zg]at this
theorem zgT{x y m:Nat}(hl:(za x).length=(za y).length)(hm:m<(za x).length)(hs:∀j,m+1<=j->j<(za x).length->dig (za x) j=dig (za y) j)(h:dig (za x) m<dig (za y) m):x<y:=by
 have:=zhY (f:=dig (za x)) (g:=dig (za y)) (n:=(za x).length) (i:=m) (fun j _=>zJ (zv x) j) hm (fun j h1 h2=>hs j h1 h2) h;have e1:zA (dig (za x)) (za x).length=x:=zg x;have e2:zA (dig (za y)) (za x).length=y:=by rw[hl];exact zg y
 rwa [e1,e2]at this
theorem zjm{x y:Nat}(hl:(za x).length=(za y).length)(hs:∀j,0<=j->j<(za x).length->dig (za x) j=dig (za y) j):x=y:=by
 have e1:zA (dig (za x)) (za x).length=x:=zg x;have e2:zA (dig (za y)) (za x).length=y:=by rw[hl];exact zg y
 rw[<- e1,<- e2];exact zaj (fun j hj=>hs j (Zs _) hj)
theorem zrH{w:World}{a b:Option Addr}{l m:List Nat}{x y:Nat}(c d:Nat)(hc:l.length<=c)(hd:m.length<=d)(h:zw w a l)(g:zw w b m)(hx:zo l=x)(hy:zo m=y):
  Calls Tryz.prog 122 #[.slice a l.length c,.slice b m.length d] w fun e w'=>e=.returned (.int .i64 (zdR x y))/\∃n,w'=w.drewN n:=by
 obtain⟨HA,HB⟩:=hd2 (zY c hc h hx) (zY d hd g hy);have hll:=h.len;have hlm:=g.len;clear h g hx hy hc hd
 go_enter Tryz.func122,Tryz.ntmps122
 go_wp2_with fail
 refine HA.out.mono ?_
 rintro e w' ⟨⟨a1,c1,rfl,hc1,ha1⟩,rfl⟩
 go_wp2_with fail
 refine HB.out.mono ?_
 rintro e w' ⟨⟨b1,d1,rfl,hd1,hb1⟩,rfl⟩;have hl1:=ha1.len;have hl2:=hb1.len;clear HA HB hc1 hd1
 rcases Zbo (za x).length (za y).length with hlt|heq|hgt
 ·have hR:=hid (zfG (zfY hlt));go_wp2;go_ret;exact⟨zaD hR.out.symm,0,rfl⟩
 ·have hEq:=hid heq;have hneq:((za x).length != (za y).length)=false:=by rw[heq];simp
  have hge1:(za x).length<=(za y).length:=Ya;have hge2:(za y).length<=(za x).length:=Ya;clear heq;obtain⟨HX,HY⟩:=hd2 ha1 hb1;clear ha1 hb1;go_wp2
  go_loopw [5] (fun i wr=>∃k:Nat,∃I:Int,k<=(za x).length/\I+1=(k:Int)/\i=.int .i64 I/\Hid (∀j,k<=j->j<(za x).length->dig (za x) j=dig (za y) j)/\Hid (∃n,wr=w.drewN n)) (fun i _=>(intOf i+1).toNat)
  case atStart=>exact⟨(za x).length,_,Za _,Ya,rfl,fun j h1 h2=>Ya,⟨0,rfl⟩⟩
  case round=>
   obtain⟨k,I,hk,hI,rfl,hs,HWr⟩:=hrel
   cases k with
   | zero=>
    obtain rfl:I= -1:=Ya;have hxy:=zjm hEq.out hs.out;have HR:=hid (show zdR x y=0 by rw[hxy];exact zoK y);clear hxy;go_wp2;go_ret;exact⟨zaD HR.out.symm,HWr.out⟩
   | succ m=>
    obtain rfl:I=(m:Int):=Ya;have hm1:m<(za x).length:=Ya;have hm2:m<(za y).length:=Ya;have HXr:Hid (zw wr a1 (za x)):=by obtain⟨n,hn⟩:=HWr.out;rw[hn];exact HX.out.drewN n
    have HYr:Hid (zw wr b1 (za y)):=by obtain⟨n,hn⟩:=HWr.out;rw[hn];exact HY.out.drewN n
    obtain⟨p1,o1,rfl,_,q1⟩:=HXr.out.pick hm1;obtain⟨p2,o2,rfl,_,q2⟩:=HYr.out.pick hm2;have HWn:Hid (∀k,∃n,wr.drewN k=w.drewN n):=fun k=>by obtain⟨n,hn⟩:=HWr.out;rw[hn];exact zjY w n k
    have HWnn:Hid (∀k j,∃n,(wr.drewN k).drewN j=w.drewN n):=fun k j=>by obtain⟨n,hn⟩:=HWr.out;rw[hn];exact⟨n+k+j,by simp[Zat]⟩
    rcases Zbo (dig (za x) m) (dig (za y) m)with h1|h1|h1
    ·have HR:=hid (zfG (zgT hEq.out Ya hs.out h1));have hne:((dig (za x) m:Int) != (dig (za y) m:Int))=true:=Xi;go_wp2
     go_quiet (fail)
     clear hne;go_wp2
     go_quiet (fail)
     go_wp2;go_ret;exact⟨zaD HR.out.symm,Jc⟩
    ·rw[<- h1]at q2;have hs':=hs.out;clear hs;go_wp2
     go_quiet (fail)
     go_wp2;go_roundw
     case rel=>exact⟨m,(m:Int)-1,Ya,Ya,rfl,fun j g1 g2=>by
      by_cases hj:j=m
      ·rw[hj];exact h1
      ·exact hs' j Ya g2,HWn.out _⟩
     case measure=>simp[intOf]
    ·have HR:=hid (zkr (zgT hEq.out.symm Ya (fun j g1 g2=>(hs.out j g1 Ya).symm) h1));have hne:((dig (za x) m:Int) != (dig (za y) m:Int))=true:=Xi;have hnl:decide (dig (za x) m<dig (za y) m)=false:=Yi;go_wp2
     go_quiet (fail)
     clear hne;go_wp2
     go_quiet (fail)
     go_wp2;go_ret;exact⟨zaD HR.out.symm,Jc⟩
 ·have hR:=hid (zkr (zfY hgt));go_wp2;go_ret;exact⟨zaD hR.out.symm,0,rfl⟩
theorem Tryz.infoU32:(Tryz.prog.info? 109).map (fun i=>(i.zero,i.size,i.bytes))=some (some (.int .u32 0),1,4):=Yb
theorem zw.own{w:World}{base E:Nat}{v:Value}{l:List Nat}(h:w.ownsRow base E 1 v l.length (l.map fun d:Nat=>Value.int .u32 (d:Int)))(hl:Lim l)(hn:l.length<=9223372036854775807):
  ∃a c,v=.slice a l.length c/\l.length<=c/\zw w a l:=by
 rcases h.2 with⟨rfl,hz⟩|⟨g,cap,cur,rfl,hb,hg,hnc,hcm,hcs,htake⟩
 ·rw[hz];exact⟨none,0,rfl,Za _,by rw[Zy hz];exact zw.nil _ _⟩
 ·refine⟨_,cap,rfl,hnc,hl,hn,.inr ⟨g,0,rfl,(ZF.1 hg).1,?_⟩⟩
  intro j d hj;have:=h.cells (g:=g) rfl j (.int .u32 (d:Int)) (by simp[hj])
  simpa [Zaq]using this
theorem zsd{w:World}{a:Option Addr}{l:List Nat}(c:Nat)(h:zw w a l)(hr:l.length*4<=140737488355328):
  Calls Tryz.prog 167 #[.slice a l.length c] w fun e w'=>∃a' c',e=.returned (.slice a' l.length c')/\l.length<=c'/\zw w' a' l/\Below w.heap.size w w':=by
 have q:∀(w:World) (a:Option Addr) (n c n' c':Nat),(binOp .eql 49 (.slice a n c) (.slice none n' c')).run Tryz.prog w=.ok (.bool a.isNone) w:=fun w a n c n' c'=>Lib.run_eql_slice_nil w _ _ a n c n' c' Tryz.underlying49
 have hlen:=h.len
 cases a with
 | none=>
  have hl:l=[]:=by
   rcases h.row with hl|⟨_,_,h0,_⟩
   ·exact hl
   ·cases h0
  subst hl
  go_enter Tryz.func167,Tryz.ntmps167
  go_wp2;go_ret;exact⟨none,0,rfl,Za _,zw.nil _ _,Ze _ _⟩
 | some p=>
  obtain⟨i0,hi,hz0,hz1,hz2⟩:=info_parts Tryz.infoU32;have HU:=hid h;have HN:Hid (∀(o:Obj) (j:Nat) (u:Value),(l.map fun d:Nat=>Value.int .u32 (d:Int))[j]? =some u->(w.alloc o).cell? (p.add j)=some u):=by
   intro o j u hj;rw[ZN]at hj
   cases hd:l[j]? with
   | none=>rw[hd]at hj;cases hj
   | some d=>
    rw[hd]at hj;cases hj
    rcases h.row with rfl|⟨b,off,he,hb,hc⟩
    ·simp at hd
    ·cases he;rw[Zaq];have hbl:Below w.heap.size w (w.alloc o):=(Ze _ w).alloc (Za _) _;exact(hbl.cell (p:=⟨b,off+j,none⟩) hb).trans (hc j d hd)
  clear h
  go_enter Tryz.func167,Tryz.ntmps167
  go_wp2_with (at_builtin;refine wpList_append_own _ rfl _ _ 49 rfl w.heap.size 109 i0 (.int .u32 0) 1 4 Tryz.underlying49 hi hz0 hz1 hz2 rfl Yd _ _ _ rfl (World.ownsRow_made w #[] 0 (Za _) (Zs _) rfl) p l.length c (l.map fun d:Nat=>Value.int .u32 (d:Int)) rfl ?qc1 ?qc2 ?qc3 ?qc4 ?qc5 ?qc6 ?_)
  case qc1=>simp
  case qc2=>exact HN.out _
  case qc3=>intro u hu;obtain⟨x,_,rfl⟩:=ZP.1 hu;rfl
  case qc4=>unfold maxLen;omega
  case qc5=>omega
  case qc6=>simp
  intro v' w1 hown hgrow hnil;have hown':w1.ownsRow w.heap.size 109 1 v' l.length (l.map fun d:Nat=>Value.int .u32 (d:Int)):=VK;obtain⟨a',c',rfl,h1,h2⟩:=zw.own hown' HU.out.lim hlen;clear hown hown';clear hnil;go_wp2;go_ret;exact⟨a',c',rfl,h1,h2,((Ze _ w).alloc (Za _) _).grown hgrow Yc Xt⟩
theorem zlO{w:World}{a:Option Addr}{l:List Nat}(c:Nat)(hc:l.length<=c)(h:zw w a l)(hr:l.length*4<=140737488355328):
  Calls Tryz.prog 153 #[.slice a l.length c] w (zoN w (zo l)):=by
 have HT:=hid (zrY c hc h);have hle:=zG h.lim;clear h
 go_enter Tryz.func153,Tryz.ntmps153
 go_wp2_with fail
 refine HT.out.mono ?_
 rintro e w' ⟨⟨a1,c1,rfl,h1,h2⟩,rfl⟩;have HC:=hid (zsd c1 h2 Ya);clear h2 h1
 go_wp2_with fail
 refine HC.out.mono ?_
 rintro e w' ⟨a2,c2,rfl,h3,h4,h5⟩;go_wp2;go_ret;exact⟨a2,c2,rfl,h3,h4,h5⟩
structure zs1 where
 news:Array Obj
 count:Nat
instance:Inhabited zs1:=⟨⟨#[],0⟩⟩
def ext(W:World)(e:zs1):World:={ W with heap:=W.heap++e.news,drawn:=e.count }
theorem zF(W:World)(e:zs1):Below W.heap.size W (ext W e):=
 ⟨rfl,rfl,rfl,by simp[ext],fun k hk=>by show(W.heap++e.news)[k]? =_;rw[Array.getElem?_append_left hk]⟩
theorem zmQ{W w':World}(h:Below W.heap.size W w'):∃e,w'=ext W e:=by
 refine⟨⟨w'.heap.extract W.heap.size w'.heap.size,w'.drawn⟩,?_⟩
 obtain⟨h1,t1,d1,o1,p1⟩:=w';obtain⟨h2,t2,d2,o2,p2⟩:=W;obtain⟨e1,e2,e3,e4,e5⟩:=h;simp only at e1 e2 e3 e4 e5;subst e1 e2 e3;unfold ext
 congr 1
 apply Array.ext_getElem?
 intro i
 rcases ZaC i h2.size with hlt|hge
 ·rw[Array.getElem?_append_left hlt];exact e5 i hlt
 ·rw[Array.getElem?_append_right hge,Array.getElem?_extract];simp only[Nat.min_self]
  by_cases hi:i<h1.size
  ·rw[Zm Ya,Nat.add_sub_cancel' hge]
  ·rw[Zg Ya,Array.getElem?_eq_none Ya]
theorem zz{W:World}{g o:Nat}{v:Value}(h:W.cell? ⟨g,o,none⟩=some v)(hg:g<W.heap.size):∀e,(ext W e).cell? ⟨g,o,none⟩=some v:=fun e=>((zF W e).cell hg).trans h
theorem zx{P:Program}{id:Nat}{Q:Exit->Act->World->Prop}{a:Act}{w:World}{l:List Oper}(hm:P.follows .mixedOrders=true)(hB:Region.lexB .any l.toArray=true)
 (h:wpQuiet P l.toArray (fun w'=>∃e,w'=ext w e) (fun a'=>∀w',(∃e,w'=ext w e)->Q .normal a' w') l a):(Code.region id l.toArray true).wp P Q a w:=
 wp_region_quiet (C:=fun w'=>∃e,w'=ext w e) hm hB ⟨⟨#[],w.drawn+1⟩,by simp[ext]⟩ VQ
theorem Calls.ext_of{P:Program}{f:FuncId}{args:Array Value}{W:World}{e:zs1}{v:Value}
 (h:Calls P f args (ext W e) fun x w'=>x=.returned v/\Below (ext W e).heap.size (ext W e) w'):Calls P f args (ext W e) fun x w''=>x=.returned v/\∃m,w''=ext W m:=
 h.mono fun _ _ ⟨he,hb⟩=>⟨he,zmQ ((zF W e).trans (hb.mono (zF W e).size))⟩
def z9:List Int->Int->Bool
 | [],_=>true
 | d::r,s=>if d<1∨16384<d∨16384<s*d then false else z9 r (s*d)
def zk(l:List Int):Bool:=1<=l.length && l.length<=4 && z9 l 1
def za7:List Int->Int->Int
 | [],s=>s
 | d::r,s=>za7 r (s*d)
def zt(l:List Int):Int:=if zk l then za7 l 1 else 0
theorem ze7{l:List Int}(h1:1<=l.length)(h4:l.length<=4):z9 (l.drop 0) 1=zk l:=by simp[zk,h1,h4]
theorem zgZ{l:List Int}(h:l.length<1):zk l=false:=by
 have:¬ 1<=l.length:=Ya;simp[zk,this]
theorem zgK{l:List Int}(h:4<l.length):zk l=false:=by
 have:¬ l.length<=4:=Ya;simp[zk,this]
theorem zd7{d s:Int}{r:List Int}(h:d<1∨16384<d∨16384<s*d):z9 (d::r) s=false:=by simp[z9,h]
theorem ziV{d s:Int}{r:List Int}(h1:¬ d<1)(h2:¬ 16384<d)(h3:¬ 16384<s*d):z9 (d::r) s=z9 r (s*d):=by simp[z9,h1,h2,h3]
theorem zfk{s d:Int}(hs1:1<=s)(hs2:s<=16384)(hd1:1<=d)(hd2_:d<=16384):1<=s*d/\s*d<=268435456:=by
 have h1:1*1<=s*d:=ZaN hs1 hd1 Ya Ya;have h2:s*d<=16384*16384:=ZaN hs2 hd2_ Ya Ya;omega
theorem zbo{l:List Int}{k:Nat}{d s:Int}(hd:l.drop k=d::l.drop (k+1))(h1:1<=s)(h:z9 (l.drop k) s=true):
  1<=d/\d<=16384/\s*d<=16384/\1<=s*d/\z9 (l.drop (k+1)) (s*d)=true:=by
 rw[hd]at h;simp only[z9]at h
 split at h
 ·simp at h
 ·rename_i hc
  have h2:1*1<=s*d:=ZaN h1 Ya Ya Ya;exact⟨Ya,Ya,Ya,Ya,h⟩
def zb9(l m:List Int):Bool:=decide (l=m)
theorem zjO{l m:List Int}(h:l.length≠m.length):zb9 l m=false:=by
 unfold zb9;simp;intro e;exact h Ul
theorem zpb{l m:List Int}{k:Nat}{c d:Int}(h1:l[k]? =some c)(h2:m[k]? =some d)(h:c≠d):zb9 l m=false:=by
 unfold zb9;simp;intro e;rw[e,h2]at h1;exact h (by simpa using h1.symm)
theorem znN{l m:List Int}{k:Nat}{c:Int}(h:l.take k=m.take k)(h1:l[k]? =some c)(h2:m[k]? =some c):l.take (k+1)=m.take (k+1):=by
 rw[Zap,Zap,h,h1,h2]
theorem zmg{l m:List Int}{k:Nat}(hk:¬ k<l.length)(hl:l.length=m.length)(h:l.take k=m.take k):zb9 l m=true:=by
 unfold zb9;rw[ZM Ya,ZM Ya]at h;simp[h]
def zbn:List Int->List Int->Int->Int×Int
 | d::r,c::q,s=>if c<0∨d<=c then(0,2)else zbn r q (s*d+c)
 | _,_,s=>(s,0)
def zdJ(l m:List Int):Int×Int:=if zk l=true/\m.length=l.length then zbn l m 0 else(0,1)
theorem zdu{l:List Int}(h:zk l=true):z9 (l.drop 0) 1=true:=by simp[zk]at h;exact h.2
theorem zb0{l:List Int}(h:zk l=true):1<=l.length/\l.length<=4:=by simp[zk]at h;exact h.1
theorem zsD{i n d c:Int}(hi:0<=i)(hin:i<n)(hd:1<=d)(hc:0<=c)(hcd:c<d):0<=i*d/\0<=i*d+c/\i*d+c<n*d:=by
 have h1:0*0<=i*d:=ZaN hi Ya Ya hi;have h2:(i+1)*d<=n*d:=Int.mul_le_mul_of_nonneg_right Ya Ya;rw[Int.add_mul]at h2;omega
theorem ziw{l:List Int}{s:Int}(h:z9 l s=true):∀d∈l,1<=d/\d<=16384:=by
 induction l generalizing s with
 | nil=>simp
 | cons d r ih=>
  simp only[z9]at h
  split at h
  ·simp at h
  ·intro x hx
   rcases Za7.1 hx with rfl|hx
   ·omega
   ·exact ih h x hx
theorem zdh{l:List Int}(h:zk l=true):∀d∈l,1<=d/\d<=16384:=ziw (zdu h)
theorem zgR{w:World}{F:Nat->Prop}{a:Option Addr}{l:List Int}(cap:Nat)(h:zah w F a l):
  Calls Tryz.prog 53 #[.slice a l.length cap] w fun e w'=>e=.returned (.bool (zk l))/\w=w':=by
 have hlen:=h.len
 by_cases h1:l.length<1
 ·have HV:=hid (zgZ h1)
  go_enter Tryz.func53,Tryz.ntmps53
  go_wp2;go_ret;exact Is
 by_cases h4:4<l.length
 ·have HV:=hid (zgK h4)
  go_enter Tryz.func53,Tryz.ntmps53
  go_wp2;go_ret;exact Is
 have HV:=hid (ze7 (l:=l) Ya Ya)
 go_enter Tryz.func53,Tryz.ntmps53
 go_wp2
 go_loop [3,16] (fun z i=>∃k:Nat,∃n:Int,k<=l.length/\1<=n/\n<=16384/\i=.int .i64 k/\z=.int .i64 n/\Hid (z9 (l.drop k) n=zk l))
  (fun _ i=>l.length-(intOf i).toNat)
 case atStart=>exact⟨0,1,Ya,Ya,Ya,rfl,rfl,HV.out⟩
 case round=>
  exact UT
theorem zbu{w:World}{F:Nat->Prop}{a:Option Addr}{l:List Int}(cap:Nat)(h:zah w F a l):
  Calls Tryz.prog 50 #[.slice a l.length cap] w fun e w'=>e=.returned (.bool (zk l))/\w=w':=by
 have hlen:=h.len
 by_cases h1:l.length<1
 ·have HV:=hid (zgZ h1)
  go_enter Tryz.func50,Tryz.ntmps50
  go_wp2;go_ret;exact Is
 by_cases h4:4<l.length
 ·have HV:=hid (zgK h4)
  go_enter Tryz.func50,Tryz.ntmps50
  go_wp2;go_ret;exact Is
 have HV:=hid (ze7 (l:=l) Ya Ya)
 go_enter Tryz.func50,Tryz.ntmps50
 go_wp2
 go_loop [3,4] (fun z i=>∃k:Nat,∃n:Int,k<=l.length/\1<=n/\n<=16384/\i=.int .i64 k/\z=.int .i64 n/\Hid (z9 (l.drop k) n=zk l))
  (fun _ i=>l.length-(intOf i).toNat)
 case atStart=>exact⟨0,1,Ya,Ya,Ya,rfl,rfl,HV.out⟩
 case round=>
  exact UT
theorem znR{w:World}{F:Nat->Prop}{a:Option Addr}{l:List Int}(cap:Nat)(h:zah w F a l):
  Calls Tryz.prog 31 #[.slice a l.length cap] w fun e w'=>e=.returned (.int .i64 (zt l))/\w=w':=by
 have hlen:=h.len;have hV:=zgR cap h;cases hv:zk l
 ·rw[hv]at hV;obtain⟨HS,HV⟩:=hd2 (show zt l=0 from VR) hV;clear hv hV
  go_enter Tryz.func31,Tryz.ntmps31
  go_wp2_with (go_at_call 53;refine HV.out.mono ?_;rintro e w' ⟨rfl,rfl⟩)
  go_ret;exact⟨zaD HS.out.symm,rfl⟩
 ·rw[hv]at hV;obtain⟨HS,HV,HF⟩:=hd3 (show zt l=za7 (l.drop 0) 1 from VR) hV (show z9 (l.drop 0) 1=true by simp[zk]at hv;exact hv.2);clear hv hV
  go_enter Tryz.func31,Tryz.ntmps31
  go_wp2_with (go_at_call 53;refine HV.out.mono ?_;rintro e w' ⟨rfl,rfl⟩)
  go_loop [3,11] (fun z i=>∃k:Nat,∃n:Int,k<=l.length/\1<=n/\n<=16384/\i=.int .i64 k/\z=.int .i64 n/\Hid (z9 (l.drop k) n=true)/\Hid (za7 (l.drop k) n=zt l))
   (fun _ i=>l.length-(intOf i).toNat)
  case atStart=>exact⟨0,1,Ya,Ya,Ya,rfl,rfl,HF,HS.out.symm⟩
  case round=>
   exact Tb
theorem zmj{w:World}{F:Nat->Prop}{a:Option Addr}{l:List Int}(cap:Nat)(h:zah w F a l):
  Calls Tryz.prog 29 #[.slice a l.length cap] w fun e w'=>e=.returned (.int .i64 (zt l))/\w=w':=by
 have hlen:=h.len;have hV:=zbu cap h;cases hv:zk l
 ·rw[hv]at hV;obtain⟨HS,HV⟩:=hd2 (show zt l=0 from VR) hV;clear hv hV
  go_enter Tryz.func29,Tryz.ntmps29
  go_wp2_with (go_at_call 50;refine HV.out.mono ?_;rintro e w' ⟨rfl,rfl⟩)
  go_ret;exact⟨zaD HS.out.symm,rfl⟩
 ·rw[hv]at hV;obtain⟨HS,HV,HF⟩:=hd3 (show zt l=za7 (l.drop 0) 1 from VR) hV (show z9 (l.drop 0) 1=true by simp[zk]at hv;exact hv.2);clear hv hV
  go_enter Tryz.func29,Tryz.ntmps29
  go_wp2_with (go_at_call 50;refine HV.out.mono ?_;rintro e w' ⟨rfl,rfl⟩)
  go_loop [3,4] (fun z i=>∃k:Nat,∃n:Int,k<=l.length/\1<=n/\n<=16384/\i=.int .i64 k/\z=.int .i64 n/\Hid (z9 (l.drop k) n=true)/\Hid (za7 (l.drop k) n=zt l))
   (fun _ i=>l.length-(intOf i).toNat)
  case atStart=>exact⟨0,1,Ya,Ya,Ya,rfl,rfl,HF,HS.out.symm⟩
  case round=>
   exact Tb
theorem ztE{w:World}{F G:Nat->Prop}{a b:Option Addr}{l m:List Int}(ca cb:Nat)(h:zah w F a l)(g:zah w G b m):
  Calls Tryz.prog 97 #[.slice a l.length ca,.slice b m.length cb] w fun e w'=>e=.returned (.bool (zb9 l m))/\∃n,w'=w.drewN n:=by
 have hl1:=h.len;have hl2:=g.len
 by_cases hl:l.length=m.length
 ·have HL:=hid hl
  go_enter Tryz.func97,Tryz.ntmps97
  go_wp2;clear hl
  go_loopw [5] (fun i wr=>∃k n:Nat,k<=l.length/\i=.int .i64 k/\wr=w.drewN n/\Hid (l.take k=m.take k)) (fun i _=>l.length-(intOf i).toNat)
  case atStart=>exact⟨0,0,Ya,rfl,rfl,rfl⟩
  case round=>
   obtain⟨k,n,hk,rfl,rfl,hrel⟩:=hrel
   by_cases hlt:k<l.length
   ·obtain⟨b1,o1,c,rfl,hc,hc1,_,_,_⟩:=h.pick hlt;obtain⟨b2,o2,d,rfl,hd,hd1,_,_,_⟩:=g.pick (show k<m.length from HL.out ▸ hlt);obtain⟨HC,HD⟩:=hd2 hc1 hd1;have hlt2:k<m.length:=HL.out ▸ hlt;clear hc1 hd1 h g
    by_cases hcd:c=d
    ·subst hcd;go_wp2
     go_quiet (fail)
     go_wp2;go_roundw
     case rel=>exact⟨k+1,_,Ya,Yg,rfl,znN hrel.out HC.out HD.out⟩
     case measure=>simp[intOf];omega
    ·have hne:(c != d)=true:=by simp[hcd]
     go_wp2
     go_quiet (fail)
     go_wp2;go_ret;exact⟨zi (zpb HC.out HD.out hcd).symm,zjY _ _ _⟩
   ·go_wp2;go_ret;exact⟨zi (zmg hlt HL.out hrel.out).symm,n,rfl⟩
 ·have HS:=hid (zjO hl)
  go_enter Tryz.func97,Tryz.ntmps97
  go_wp2;go_ret;exact⟨zi HS.out.symm,0,rfl⟩
def znw(H W:Int)(ch y x:Int):Int:=if 0<=y/\y<H/\0<=x/\x<W then(ch*H+y)*W+x else -1
structure Win where
 C:Nat
 H:Nat
 W:Nat
 kh:Nat
 kw:Nat
 s:Nat
 p:Nat
def Win.R(q:Win):Nat:=(q.H+2*q.p-q.kh)/q.s+1
def Win.Q(q:Win):Nat:=(q.W+2*q.p-q.kw)/q.s+1
def Win.at(q:Win)(r c ch i k:Nat):Int:=znw q.H q.W ch ((r:Int)*q.s+i-q.p) ((c:Int)*q.s+k-q.p)
def Win.line(q:Win)(r c ch i:Nat):List Int:=(List.range q.kw).map (q.at r c ch i)
def Win.chan(q:Win)(r c ch:Nat):List Int:=(List.range q.kh).flatMap (q.line r c ch)
def Win.one(q:Win)(r c:Nat):List Int:=(List.range q.C).flatMap (q.chan r c)
def Win.rowOf(q:Win)(r:Nat):List (List Int):=(List.range q.Q).map (q.one r)
def Win.all(q:Win):List (List Int):=(List.range q.R).flatMap q.rowOf
def Win.total(q:Win):Nat:=q.R*q.Q*q.C*q.kh*q.kw
structure Win.Ok (q:Win):Prop where
 c1:1<=q.C
 h1:1<=q.H
 w1:1<=q.W
 chw:q.C*q.H*q.W<=16384
 kh1:1<=q.kh
 kh2:q.kh<=64
 kw1:1<=q.kw
 kw2:q.kw<=64
 s1:1<=q.s
 s2:q.s<=64
 ph:q.p<q.kh
 pw:q.p<q.kw
 fh:q.kh<=q.H+2*q.p
 fw:q.kw<=q.W+2*q.p
theorem zhg{α:Type}(P:List α)(f:Nat->List α)(i:Nat):P++(List.range (i+1)).flatMap f=(P++(List.range i).flatMap f)++f i:=by
 rw[Zab];simp
theorem ziH{α:Type}(P:List α)(f:Nat->α)(i:Nat):P++(List.range (i+1)).map f=(P++(List.range i).map f)++[f i]:=by
 rw[Zab];simp
theorem zcL{a b c:Nat}(hb:1<=b)(h:a*b<=c):a<=c:=Zi (ZaE a hb) h
theorem Win.Ok.c2{q:Win}(h:q.Ok):q.C<=16384:=zcL h.h1 (zcL h.w1 h.chw)
theorem Win.Ok.h2{q:Win}(h:q.Ok):q.H<=16384:=by
 have:=zcL h.w1 h.chw;rw[ZD]at this;exact zcL h.c1 this
theorem Win.Ok.w2{q:Win}(h:q.Ok):q.W<=16384:=by
 have:=h.chw;rw[ZD]at this;exact zcL (ZY h.c1 h.h1) this
theorem Win.Ok.r2{q:Win}(h:q.Ok):1<=q.R/\q.R<=16600:=by
 have:=h.h2;have:=h.ph;have:=h.kh2;have h3:=Za1 (q.H+2*q.p-q.kh) q.s;unfold Win.R;generalize(q.H+2*q.p-q.kh)/q.s=z at *;omega
theorem Win.Ok.q2{q:Win}(h:q.Ok):1<=q.Q/\q.Q<=16600:=by
 have:=h.w2;have:=h.pw;have:=h.kw2;have h3:=Za1 (q.W+2*q.p-q.kw) q.s;unfold Win.Q;generalize(q.W+2*q.p-q.kw)/q.s=z at *;omega
theorem Win.Ok.rInt{q:Win}(h:q.Ok):((q.H:Int)+2*(q.p:Int)-(q.kh:Int))/(q.s:Int)+1=(q.R:Int):=by
 have:=h.fh;unfold Win.R;rw[Int.natCast_add,Int.natCast_ediv,Int.ofNat_sub Ya];simp
theorem Win.Ok.qInt{q:Win}(h:q.Ok):((q.W:Int)+2*(q.p:Int)-(q.kw:Int))/(q.s:Int)+1=(q.Q:Int):=by
 have:=h.fw;unfold Win.Q;rw[Int.natCast_add,Int.natCast_ediv,Int.ofNat_sub Ya];simp
theorem zbm{a b A B:Int}(a0:0<=a)(a1:a<=A)(b0:0<=b)(b1:b<=B):0<=a*b/\a*b<=A*B:=
 ⟨Int.mul_nonneg a0 b0,ZaN a1 b1 b0 Ya⟩
theorem Win.Ok.prods{q:Win}(h:q.Ok):
  (0<=(q.R:Int)*q.Q/\(q.R:Int)*q.Q<=275560000)/\(0<=(q.R:Int)*q.Q*q.C/\(q.R:Int)*q.Q*q.C<=4514775040000)/\
  (0<=(q.R:Int)*q.Q*q.C*q.kh/\(q.R:Int)*q.Q*q.C*q.kh<=288945602560000)/\(0<=(q.R:Int)*q.Q*q.C*q.kh*q.kw/\(q.R:Int)*q.Q*q.C*q.kh*q.kw<=18492518563840000):=by
 have hr:=h.r2.2;have hq:=h.q2.2;have hc:=h.c2;have h1:=h.kh2;have h2:=h.kw2;have a1:=zbm (a:=q.R) (b:=q.Q) (A:=16600) (B:=16600) Ya Ya Ya Ya;have a2:=zbm (b:=q.C) (B:=16384) a1.1 a1.2 Ya Ya;have a3:=zbm (b:=q.kh) (B:=64) a2.1 a2.2 Ya Ya;have a4:=zbm (b:=q.kw) (B:=64) a3.1 a3.2 Ya Ya
 refine⟨⟨a1.1,Ya⟩,⟨a2.1,Ya⟩,⟨a3.1,Ya⟩,⟨a4.1,Ya⟩⟩
theorem Win.Ok.pos{q:Win}(h:q.Ok){r c:Nat}(hr:r<q.R)(hc:c<q.Q):(0<=(r:Int)*q.s/\(r:Int)*q.s<=1062400)/\(0<=(c:Int)*q.s/\(c:Int)*q.s<=1062400):=by
 have:=h.r2;have:=h.q2;have:=h.s2;have a1:=zbm (a:=r) (b:=q.s) (A:=16600) (B:=64) Ya Ya Ya Ya;have a2:=zbm (a:=c) (b:=q.s) (A:=16600) (B:=64) Ya Ya Ya Ya;exact⟨⟨a1.1,Ya⟩,⟨a2.1,Ya⟩⟩
theorem Win.Ok.idx{q:Win}(h:q.Ok){ch:Nat}(hch:ch<q.C){y x:Int}(y0:0<=y)(y1:y<q.H)(x0:0<=x)(x1:x<q.W):
  (0<=(ch:Int)*q.H/\(ch:Int)*q.H<=268435456)/\(0<=((ch:Int)*q.H+y)*q.W/\((ch:Int)*q.H+y)*q.W<=8796093022208)/\0<=((ch:Int)*q.H+y)*q.W+x/\((ch:Int)*q.H+y)*q.W+x<q.C*q.H*q.W:=by
 have:=h.c2;have:=h.h2;have:=h.w2;have a1:=zbm (a:=ch) (b:=q.H) (A:=16384) (B:=16384) Ya Ya Ya Ya;have a2:=zbm (a:=(ch:Int)*q.H+y) (b:=q.W) (A:=268451840) (B:=16384) Ya Ya Ya Ya
 refine⟨⟨a1.1,Ya⟩,⟨a2.1,Ya⟩,Ya,?_⟩
 have b1:((ch:Int)+1)*q.H<=q.C*q.H:=Int.mul_le_mul_of_nonneg_right Ya Ya;rw[Int.add_mul]at b1;have b2:((ch:Int)*q.H+y+1)*q.W<=(q.C*q.H)*q.W:=Int.mul_le_mul_of_nonneg_right Ya Ya;rw[Int.add_mul]at b2;omega
theorem Win.Ok.at_bd{q:Win}(h:q.Ok){r c ch i k:Nat}(hch:ch<q.C): -1<=q.at r c ch i k/\q.at r c ch i k<q.C*q.H*q.W:=by
 unfold Win.at znw
 split
 ·rename_i hin
  have:=h.idx hch hin.1 hin.2.1 hin.2.2.1 hin.2.2.2;omega
 ·have h1:=zbm (a:=q.C) (b:=q.H) (A:=q.C) (B:=q.H) Ya Ya Ya Ya;have h2:=zbm (b:=q.W) (B:=q.W) h1.1 h1.2 Ya Ya;omega
theorem Win.Ok.one_bd{q:Win}(h:q.Ok)(r c:Nat):∀x∈q.one r c,-1<=x/\x<16384:=by
 intro x hx;simp only[Win.one,Win.chan,Win.line,Za3,ZP,Z5]at hx;obtain⟨ch,hch,i,_,k,_,rfl⟩:=hx;have:=h.at_bd (r:=r) (c:=c) (i:=i) (k:=k) hch;have h2:((q.C*q.H*q.W:Nat):Int)<=16384:=by have:=h.chw;omega
 simp only[Zbb]at h2;omega
theorem zid{α:Type}(f:Nat->List α)(n m:Nat)(h:∀i,i<n->(f i).length=m):((List.range n).flatMap f).length=n*m:=by
 induction n with
 | zero=>simp
 | succ n ih=>
  rw[Zab,List.flatMap_append,ZE,ih (fun i hi=>h i Ya)];simp[h n Ya,ZK]
theorem Win.line_len(q:Win)(r c ch i:Nat):(q.line r c ch i).length=q.kw:=by simp[Win.line]
theorem Win.chan_len(q:Win)(r c ch:Nat):(q.chan r c ch).length=q.kh*q.kw:=zid _ _ _ (fun i _=>q.line_len r c ch i)
theorem Win.one_len(q:Win)(r c:Nat):(q.one r c).length=q.C*(q.kh*q.kw):=zid _ _ _ (fun ch _=>q.chan_len r c ch)
theorem Win.rowOf_len(q:Win)(r:Nat):(q.rowOf r).length=q.Q:=by simp[Win.rowOf]
theorem Win.all_len(q:Win):q.all.length=q.R*q.Q:=zid _ _ _ (fun r _=>q.rowOf_len r)
theorem zcZ{fn:Func}{t u v x:Tmp}(h:fn.results=#[.tmp t,.tmp u,.tmp v,.tmp x])(tmps:Array Value)(P:Program)(w:World):
  (results fn tmps).run P w=.ok (.tuple #[tmps.getD t undef,tmps.getD u undef,tmps.getD v undef,tmps.getD x undef]) w:=by
 simp[results,h]
def zcW(n:Int):Bool:=decide (1<=n/\n<=64)
theorem zsA(n:Int)(w:World):Calls Tryz.prog 157 #[.int .i64 n] w fun e w'=>e=.returned (.bool (zcW n))/\w=w':=by
 by_cases h1:1<=n
 ·by_cases h2:n<=64
  ·have HS:=hid (show zcW n=true by simp[zcW,h1,h2])
   go_enter Tryz.func157,Tryz.ntmps157
   go_wp2;go_ret;exact Ia
  ·have HS:=hid (show zcW n=false by simp[zcW,h2])
   go_enter Tryz.func157,Tryz.ntmps157
   go_wp2;go_ret;exact Ia
 ·have HS:=hid (show zcW n=false by simp[zcW,h1])
  go_enter Tryz.func157,Tryz.ntmps157
  go_wp2;go_ret;exact Ia
def zbt(l:List Int)(kh kw s p:Int):Bool:= !zk l || !zcW kh || !zcW kw || !zcW s || decide (p<0) || decide (kh<=p) || decide (kw<=p)
def zaZ(l:List Int)(kh kw p:Int):Bool:=decide (l.length≠3) || decide (l.getD 1 0+2*p<kh) || decide (l.getD 2 0+2*p<kw)
def zeO(l:List Int)(kh kw s p:Int):Win:=⟨(l.getD 0 0).toNat,(l.getD 1 0).toNat,(l.getD 2 0).toNat,kh.toNat,kw.toNat,s.toNat,p.toNat⟩
def zB(l:List Int)(kh kw s p:Int):List (List Int)×Int×Int×Int:=
 if zbt l kh kw s p then([],0,0,1)else if zaZ l kh kw p then([],0,0,7)
 else if 262144<(zeO l kh kw s p).total then([],0,0,8)else((zeO l kh kw s p).all,(zeO l kh kw s p).R,(zeO l kh kw s p).Q,0)
theorem zc0{l:List Int}{kh kw s p:Int}(h:zbt l kh kw s p=true):zB l kh kw s p=([],0,0,1):=by simp[zB,h]
theorem zb8{l:List Int}{kh kw s p:Int}(h:zbt l kh kw s p=false)(h2:zaZ l kh kw p=true):zB l kh kw s p=([],0,0,7):=by simp[zB,h,h2]
theorem zdy{l:List Int}{kh kw s p:Int}(h:zbt l kh kw s p=false)(h2:zaZ l kh kw p=false)(h3:262144<(zeO l kh kw s p).total):zB l kh kw s p=([],0,0,8):=by simp[zB,h,h2,h3]
theorem zeH{l:List Int}{kh kw s p:Int}(h:zbt l kh kw s p=false)(h2:zaZ l kh kw p=false)(h3:¬ 262144<(zeO l kh kw s p).total):
  zB l kh kw s p=((zeO l kh kw s p).all,((zeO l kh kw s p).R:Int),((zeO l kh kw s p).Q:Int),0):=by simp[zB,h,h2,h3]
def zcq(w:World)(l:List Int)(kh kw s p:Int)(e:Ending)(w':World):Prop:=
 ∃a c,e=.returned (.tuple #[.slice a (zB l kh kw s p).1.length c,.int .i64 (zB l kh kw s p).2.1,.int .i64 (zB l kh kw s p).2.2.1,.int .i64 (zB l kh kw s p).2.2.2])/\
  zbd w' (fun b=>w.heap.size<=b) a (zB l kh kw s p).1/\Below w.heap.size w w'
theorem zeQ{w w':World}{l:List Int}{kh kw s p e:Int}(h:zB l kh kw s p=([],0,0,e))(hb:Below w.heap.size w w'):
  zcq w l kh kw s p (.returned (.tuple #[.slice none 0 0,.int .i64 0,.int .i64 0,.int .i64 e])) w':=by
 unfold zcq;rw[h];exact⟨none,0,rfl,zbd.nil _ _ _,hb⟩
theorem zgg{l:List Int}{kh kw s p:Int}(h:zbt l kh kw s p=false)(h2:zaZ l kh kw p=false):
  ∃q:Win,q.Ok/\zeO l kh kw s p=q/\l=[(q.C:Int),(q.H:Int),(q.W:Int)]/\kh=q.kh/\kw=q.kw/\s=q.s/\p=q.p:=by
 simp only[zbt,Bool.or_eq_false_iff,Bool.not_eq_false',Zag,zcW,ZC]at h;simp only[zaZ,Bool.or_eq_false_iff,Zag,Decidable.not_not]at h2;obtain⟨⟨⟨⟨⟨⟨hv,h3⟩,h4⟩,h5⟩,h6⟩,h7⟩,h8⟩:=h;obtain⟨⟨hl,h9⟩,h10⟩:=h2
 match l,hl with
 | [c,a,b],_=>
  simp at h9 h10;have hm:=zdh hv;have hc:=hm c Yc;have ha:=hm a Yc;have hb:=hm b Yc;have hf:=zdu hv;obtain⟨_,_,e1,e2,hf⟩:=zbo (l:=[c,a,b]) (k:=0) rfl Ya hf;obtain⟨_,_,e3,e4,hf⟩:=zbo (l:=[c,a,b]) (k:=1) rfl e2 hf;obtain⟨_,_,e5,_,_⟩:=zbo (l:=[c,a,b]) (k:=2) rfl e4 hf
  refine⟨zeO [c,a,b] kh kw s p,?_,rfl,?_,?_,?_,?_,?_⟩
  ·constructor<;>simp only[zeO,List.getD_cons_zero,List.getD_cons_succ]
   case chw=>
    have:((c.toNat*a.toNat*b.toNat:Nat):Int)<=16384:=by
     simp only[Zbb];rw[Int.toNat_of_nonneg Ya,Int.toNat_of_nonneg Ya,Int.toNat_of_nonneg Ya]
     simpa using e5
    omega
   all_goals omega
  all_goals simp[zeO]
  all_goals omega
theorem zp9{w:World}{F:Nat->Prop}{a:Option Addr}{l:List Int}(ca:Nat)(kh kw s p:Int)(h:zah w F a l)(hbad:zbt l kh kw s p=true):
  Calls Tryz.prog 131 #[.slice a l.length ca,.int .i64 kh,.int .i64 kw,.int .i64 s,.int .i64 p] w (zcq w l kh kw s p):=by
 have HS:=hid (zc0 hbad);have hV:=zgR ca h;clear h;cases hv:zk l
 ·rw[hv]at hV;have HV:=hid hV;clear hv hV hbad;exact Us
 rw[hv]at hV;have HV:=hid hV;clear hV;cases h1:zcW kh
 ·clear hv hbad;exact Us
 cases h2:zcW kw
 ·clear hv hbad;exact Us
 cases h3:zcW s
 ·clear hv hbad;exact Us
 by_cases h4:p<0
 ·clear hv hbad;exact Us
 by_cases h5:kh<=p
 ·clear hv hbad;exact Us
 by_cases h6:kw<=p
 ·clear hv hbad;exact Us
 simp[zbt,hv,h1,h2,h3,h4,h5,h6]at hbad
theorem ze8{l:List Int}{kh kw s p:Int}(h:zbt l kh kw s p=false):
  zk l=true/\zcW kh=true/\zcW kw=true/\zcW s=true/\(1<=kh/\kh<=64)/\(1<=kw/\kw<=64)/\(1<=s/\s<=64)/\0<=p/\p<kh/\p<kw:=by
 simp only[zbt,Bool.or_eq_false_iff,Bool.not_eq_false',Zag]at h;obtain⟨⟨⟨⟨⟨⟨hv,h3⟩,h4⟩,h5⟩,h6⟩,h7⟩,h8⟩:=h
 refine⟨hv,h3,h4,h5,?_,?_,?_,Ya,Ya,Ya⟩
 ·simpa [zcW]using h3
 ·simpa [zcW]using h4
 ·simpa [zcW]using h5
theorem zlH{w:World}{F:Nat->Prop}{a:Option Addr}{l:List Int}(ca:Nat)(kh kw s p:Int)(h:zah w F a l)(hno:zbt l kh kw s p=false)(hbad:zaZ l kh kw p=true):
  Calls Tryz.prog 131 #[.slice a l.length ca,.int .i64 kh,.int .i64 kw,.int .i64 s,.int .i64 p] w (zcq w l kh kw s p):=by
 have HS:=hid (zb8 hno hbad);have hV:=zgR ca h;have hlen:=h.len;obtain⟨hv,s1,s2,s3,b1,b2,b3,b4,b5,b6⟩:=ze8 hno;have hm:=zdh hv;rw[hv]at hV;have HV:=hid hV;clear hV hv
 by_cases hl:l.length=3
 ·obtain⟨bb,off,c,x,y,rfl,_,hx,hy,e0,e1,e2⟩:=h.three hl;have hx1:=hm x (Zq e1);have hy1:=hm y (Zq e2);have h3:3<=l.length:=Ya;have hne:((l.length:Int) != 3)=false:=Yi;have hg1:l.getD 1 0=x:=by simp[List.getD,e1]
  have hg2:l.getD 2 0=y:=by simp[List.getD,e2]
  obtain⟨HG1,HG2,HL⟩:=hd3 hg1 hg2 hl;clear hm h hno hl e0 e1 e2 hg1 hg2
  by_cases h1:x+2*p<kh
  ·clear hbad;exact Us
  by_cases h2:y+2*p<kw
  ·clear hbad;exact Us
  exact Ih
 ·have hne:((l.length:Int) != 3)=true:=Xi;clear hm hno hbad hl h;exact Us
theorem zeY{l:List Nat}{k x:Nat}(hx:l[k]? =some x):l.take (k+1)=l.take k++[x]:=by
 rw[Zap,hx];rfl
theorem zgF{w:World}{a:Option Addr}{l:List Nat}(c i:Nat)(hi:i<=9223372036854775807)(h:zw w a l):
  Calls Tryz.prog 147 #[.slice a l.length c,.int .i64 (i:Int)] w fun e w'=>e=.returned (.int .u32 (dig l i:Int))/\w=w':=by
 have hl:=h.len
 by_cases hlt:i<l.length
 ·obtain⟨b,off,rfl,_,hc⟩:=h.pick hlt;clear h
  go_enter Tryz.func147,Tryz.ntmps147
  go_wp2;go_ret;exact⟨rfl,rfl⟩
 ·have hd:=hid (zcS (l:=l) (i:=i) Ya);clear h
  go_enter Tryz.func147,Tryz.ntmps147
  go_wp2;go_ret;exact⟨by rw[hd.out];rfl,rfl⟩
theorem zdH{l:List Nat}{N:Nat}(h:l.length<=N):zA (dig l) N=zo l:=ze1 h (fun i h1 _=>zcS h1)
theorem zhZ{l m:List Nat}{N k:Nat}(hl:Lim l)(hN1:l.length<=N)(hN2:m.length<=N)(hk:k<N)(hs:∀j,k+1<=j->j<N->dig l j=dig m j)(h:dig l k<dig m k):zo l<zo m:=by
 have:=zhY (f:=dig l) (g:=dig m) (n:=N) (i:=k) (fun j _=>zJ hl j) hk (fun j h1 h2=>hs j h1 h2) h
 rwa [zdH hN1,zdH hN2]at this
theorem zsg{w:World}{a b:Option Addr}{l m:List Nat}(c d:Nat)(h:zw w a l)(g:zw w b m):
  Calls Tryz.prog 145 #[.slice a l.length c,.slice b m.length d] w fun e w'=>e=.returned (.int .i64 (zdR (zo l) (zo m)))/\w=w':=by
 have hl:=h.len;have hm:=g.len;obtain⟨HL,HM,HC1,HC2⟩:=hd4 h.lim g.lim (fun i hi=>zgF c i hi h) (fun i hi=>zgF d i hi g);clear h g;obtain⟨N,hN⟩:∃N:Nat,N=max l.length m.length:=⟨_,rfl⟩
 have hN1:l.length<=N:=Ya;have hN2:m.length<=N:=Ya;have hN3:N<=9223372036854775807:=Ya;have hmx:max (l.length:Int) (m.length:Int)=(N:Int):=Ya;clear hN
 go_enter Tryz.func145,Tryz.ntmps145
 go_wp2
 all_goals
  go_loop [5] (fun i=>∃k:Nat,∃I:Int,k<=N/\I+1=(k:Int)/\i=.int .i64 I/\Hid (∀j,k<=j->j<N->dig l j=dig m j)) (fun i=>(intOf i+1).toNat)
  case atStart=>exact⟨N,_,Za _,Ya,rfl,fun j h1 h2=>Ya⟩
  case round=>
   obtain⟨k,I,hk,hI,rfl,hs⟩:=hrel
   try clear hmx
   cases k with
   | zero=>
    obtain rfl:I= -1:=Ya;have HR:Hid (zdR (zo l) (zo m)=0):=by
     unfold Hid;rw[<- zdH hN1,<- zdH hN2,zaj (fun j hj=>hs.out j (Zs _) hj)];exact zoK _
    go_wp2;go_ret;exact⟨zaD HR.out.symm,rfl⟩
   | succ q=>
    obtain rfl:I=(q:Int):=Ya;have b1:=zJ HL.out q;have b2:=zJ HM.out q
    rcases Zbo (dig l q) (dig m q)with h1|h1|h1
    ·obtain⟨HR,C1,C2⟩:=hd3 (zfG (zhZ HL.out hN1 hN2 Ya hs.out h1)) (HC1.out q Ya) (HC2.out q Ya);clear HC1 HC2 hs;generalize dig l q=x at *;generalize dig m q=y at *;have d1:decide (x<y)=true:=Zk h1
     go_wp2_with (go_at_call 147;first|((with_reducible refine C1.out.mono ?_);rintro e w' ⟨rfl,rfl⟩)|((with_reducible refine C2.out.mono ?_);rintro e w' ⟨rfl,rfl⟩))
     go_ret;exact⟨zaD HR.out.symm,rfl⟩
    ·have HS2:Hid (∀j,q<=j->j<N->dig l j=dig m j):=fun j g1 g2=>by
      by_cases hj:j=q
      ·rw[hj];exact h1
      ·exact hs.out j Ya g2
     obtain⟨C1,C2⟩:=hd2 (HC1.out q Ya) (HC2.out q Ya);rw[<- h1]at C2;clear hs h1 b2;generalize dig l q=x at *
     go_wp2_with (go_at_call 147;first|((with_reducible refine C1.out.mono ?_);rintro e w' ⟨rfl,rfl⟩)|((with_reducible refine C2.out.mono ?_);rintro e w' ⟨rfl,rfl⟩))
     go_round
     case rel=>exact⟨q,(q:Int)-1,Ya,Ya,rfl,HS2.out⟩
     case measure=>simp[intOf]
    ·obtain⟨HR,C1,C2⟩:=hd3 (zkr (zhZ HM.out hN2 hN1 Ya (fun j g1 g2=>(hs.out j g1 g2).symm) h1)) (HC1.out q Ya) (HC2.out q Ya);clear HC1 HC2 hs;generalize dig l q=x at *;generalize dig m q=y at *;have d1:decide (x<y)=false:=Zj Ya;have d2:decide (y<x)=true:=Zk h1
     go_wp2_with (go_at_call 147;first|((with_reducible refine C1.out.mono ?_);rintro e w' ⟨rfl,rfl⟩)|((with_reducible refine C2.out.mono ?_);rintro e w' ⟨rfl,rfl⟩))
     go_ret;exact⟨zaD HR.out.symm,rfl⟩
theorem zqt{w:World}{a b:Option Addr}{l m:List Nat}(c d:Nat)(h:zw w a l)(g:zw w b m):
  Calls Tryz.prog 46 #[.slice a l.length c,.slice b m.length d] w fun e w'=>e=.returned (.bool (decide (l=m)))/\∃n,w'=w.drewN n:=by
 have hl:=h.len;have hm:=g.len;obtain⟨HA,HB⟩:=hd2 h g;clear h g
 go_enter Tryz.func46,Tryz.ntmps46
 exact Uz
section
variable {P:Program} {ops:Array Oper} {Q:Exit->Act->World->Prop} {md:Region.Mode}
theorem zeu{listed:Array Bool}{i:Nat}(h:i∈Region.ready md ops listed):listed.getD i true=false:=by
 unfold Region.ready at h;have:=(List.mem_filter.1 h).2;simp only[Zu,Bool.not_eq_true']at this;exact this.1
theorem zhE{listed:Array Bool}{i:Nat}(h:listed.getD i true=false):(listed.setIfInBounds i true).toList.count false+1=listed.toList.count false:=by
 have hi:i<listed.size:=by
  rcases ZaC i listed.size with h1|h1
  ·exact h1
  ·simp[h1]at h
 have hv:listed.toList[i]' JA=false:=by simpa [hi]using h
 rw[Array.toList_setIfInBounds,List.count_set JA,hv];have hp:0<listed.toList.count false:=by
  rw[List.count_pos_iff,<- hv];exact Z1 _
 rw[Zm (by rfl),Zg Yd];omega
theorem zng(Inv:Array Bool->Act->World->Prop)(hdone:∀listed a w,Inv listed a w->Region.ready md ops listed=[]->Q .normal a w)
 (hstep:∀listed a w i,Inv listed a w->i∈Region.ready md ops listed->wpOp P ops Q i (fun a' w'=>Inv (listed.setIfInBounds i true) a' w') a w):
  ∀(fuel:Nat) (listed:Array Bool) (a:Act) (w:World),Inv listed a w->listed.toList.count false<=fuel->wpAny P md ops Q fuel listed a w:=by
 intro fuel
 induction fuel with
 | zero=>
  intro listed a w hI hc;have hr:Region.ready md ops listed=[]:=by
   rw[List.eq_nil_iff_forall_not_mem];intro i hi;have:=zhE (zeu hi);omega
  exact⟨hr,hdone _ _ _ hI hr⟩
 | succ fuel ih=>
  intro listed a w hI hc
  refine⟨fun hr=>hdone _ _ _ hI hr,fun i hi=>?_⟩
  have h1:=zhE (zeu hi);exact wpOp_mono (fun a' w' h=>ih _ a' w' h Ya) (hstep _ _ _ i hI hi)
theorem zbS{id:Nat}{a:Act}{w:World}(hm:P.follows .mixedOrders=true)(Inv:Array Bool->Act->World->Prop)(h0:Inv (Array.replicate ops.size false) a w.drew)
 (hdone:∀listed a w,Inv listed a w->Region.ready .any ops listed=[]->Q .normal a w)
 (hstep:∀listed a w i,Inv listed a w->i∈Region.ready .any ops listed->wpOp P ops Q i (fun a' w'=>Inv (listed.setIfInBounds i true) a' w') a w):
  (Code.region id ops true).wp P Q a w:=
 wp_region_any hm (zng Inv hdone hstep _ _ _ _ h0 Yc)
end
def ze:List Oper->Nat->(Nat->Value)->Act->Act
 | [],_,_,a=>a
 | o::l,k,g,a=>ze l (k+1) g (a.put o.dst (g k))
def zd3:List Oper->Bool
 | []=>true
 | o::l=>(match o.dst with|none=>true|some d=>l.all fun p=> !(p.dst==some d)) && zd3 l
def zhu:List Oper->Nat->Bool
 | [],_=>true
 | o::l,k=>o.after.all (fun e=> !Region.binds .any e || decide (e.on<k)) && zhu l (k+1)
def upd(g:Nat->Value)(i:Nat)(v:Value):Nat->Value:=fun j=>if j=i then v else g j
section
theorem zq6(a:Act)(x:Option Tmp)(v u:Value):(a.put x v).put x u=a.put x u:=by
 cases x with
 | none=>rfl
 | some d=>simp[Act.put,Array.setIfInBounds_setIfInBounds]
theorem zhv{g g':Nat->Value}:∀(l:List Oper) (k:Nat) (a:Act),(∀j,k<=j->g j=g' j)->ze l k g a=ze l k g' a:=by
 intro l
 induction l with
 | nil=>intro _ _ _;rfl
 | cons o l ih=>
  intro k a h;simp only[ze];rw[h k (Za _)];exact ih _ _ (fun j hj=>h j Ya)
theorem zi4{x:Option Tmp}{v:Value}{g:Nat->Value}:∀(l:List Oper) (k:Nat) (a:Act),(∀d,x=some d->∀p∈l,p.dst≠some d)->(ze l k g a).put x v=ze l k g (a.put x v):=by
 intro l
 induction l with
 | nil=>intro _ _ _;rfl
 | cons o l ih=>
  intro k a h;simp only[ze];rw[ih _ _ (fun d hd p hp=>h d hd p (ZaP _ hp)),Act.put_comm a v (g k) (fun d hd=>h d hd o Zal)]
theorem zkh{o:Oper}{l:List Oper}(h:zd3 (o::l)=true):(∀d,o.dst=some d->∀p∈l,p.dst≠some d)/\zd3 l=true:=by
 unfold zd3 at h;rw[Zu]at h
 refine⟨fun d hd p hp e=>?_,h.2⟩
 have h1:=h.1;rw[hd]at h1;have h2:=Zau.1 h1 p hp;rw[e]at h2;simp at h2
theorem zd0{g:Nat->Value}{v:Value}:∀(l:List Oper) (k i:Nat) (a:Act),zd3 l=true->i<l.length->(ze l k g a).put ((l[i]?).bind (·.dst)) v=ze l k (upd g (k+i) v) a:=by
 intro l
 induction l with
 | nil=>intro k i a _ hi;simp at hi
 | cons o l ih=>
  intro k i a ha hi;obtain⟨h1,h2⟩:=zkh ha
  cases i with
  | zero=>
   simp only[ze,Zf,Option.bind_some,ZU];rw[zi4 l _ _ h1,zq6,zhv (g':=upd g k v) l (k+1) _ (fun j hj=>by unfold upd;rw[Zg Ya])];unfold upd;rw[Zm rfl]
  | succ i=>
   simp only[ze,Zc];rw[ih (k+1) i _ h2 JA];have e:k+1+i=k+(i+1):=Ya;rw[e]
   congr 2
   unfold upd;rw[Zg Ya]
theorem zoW(a:Act)(x:Option Tmp):a.put x (match x with|some d=>a.tmps.getD d undef|none=>undef)=a:=by
 cases x with
 | none=>rfl
 | some d=>
  obtain⟨t,df⟩:=a;unfold Act.put;simp only
  congr 1
  apply Array.ext_getElem?
  intro i;rw[ZaF]
  split
  ·subst_vars
   split
   ·simp[ZV, *]
   ·simp[*]
  ·rfl
def zeN(ops:List Oper)(a:Act):Nat->Value:=fun i=>match (ops[i]?).bind (·.dst)with|some d=>a.tmps.getD d undef|none=>undef
theorem zcx{a:Act}:∀(l:List Oper) (k:Nat) (g:Nat->Value),(∀i,i<l.length->g (k+i)=zeN l a i)->ze l k g a=a:=by
 intro l
 induction l with
 | nil=>intro _ _ _;rfl
 | cons o l ih=>
  intro k g h;simp only[ze];have h0:=h 0 Yc;rw[ZU]at h0;have e:a.put o.dst (g k)=a:=by
   rw[h0];unfold zeN;simp only[Zf,Option.bind_some];exact zoW a o.dst
  rw[e];exact ih _ _ (fun i hi=>by
   have h1:=h (i+1) JA;rw[show k+1+i=k+(i+1)from Ya,h1];unfold zeN;simp)
variable {P:Program} {Q:Exit->Act->World->Prop}
def zdt(G:Nat->Value->World->Prop)(g:Nat->Value)(w:World):List Edge->Prop
 | []=>True
 | e::es=>(Region.binds .any e=true->G e.on (g e.on) w)/\zdt G g w es
theorem zdt.of{G:Nat->Value->World->Prop}{g:Nat->Value}{w:World}:∀(es:List Edge),(∀e∈es,Region.binds .any e=true->G e.on (g e.on) w)->zdt G g w es:=E6
def zbR(P:Program)(ops:Array Oper)(Q:Exit->Act->World->Prop)(a0:Act)(fl:List Oper)(R:World->Prop)(S:World->World->Prop)(G:Nat->Value->World->Prop):List Oper->Nat->Prop
 | [],_=>True
 | o::l,i=>(∀g w,R w->zdt G g w o.after.toList->wpList P ops (Exit.then (fun a' w'=>∃v,a'=(ze fl 0 g a0).put o.dst v/\R w'/\S w w'/\G i v w') Q) [o] (ze fl 0 g a0) w)/\zbR P ops Q a0 fl R S G l (i+1)
theorem zbR.at{ops:Array Oper}{a0:Act}{fl:List Oper}{R:World->Prop}{S:World->World->Prop}{G:Nat->Value->World->Prop}:∀(l:List Oper) (k:Nat),zbR P ops Q a0 fl R S G l k->∀i o,l[i]? =some o->
  ∀g w,R w->zdt G g w o.after.toList->wpList P ops (Exit.then (fun a' w'=>∃v,a'=(ze fl 0 g a0).put o.dst v/\R w'/\S w w'/\G (k+i) v w') Q) [o] (ze fl 0 g a0) w:=TJ
theorem zoi{o:Oper}{a:Act}{K:Act->World->Prop}{r:Result Go.Next}{K':Act->World->Prop}(hK:∀a w,K' a w->K a w)(h:o.upon P a K' (Exit.then K Q) r):o.upon P a K Q r:=by
 cases r with
 | ok n w=>
  cases n<;>simp only[Oper.upon]at h⊢ <;> first
   | exact hK _ _ h
   | exact Calls.mono h (fun e w'' he=>by
     cases e
     ·exact hK _ _ he
     ·exact he
     ·exact he)
   | exact Rows.mono h (fun _ _ he=>hK _ _ he)
 | halt x w=>cases x<;>simp only[Oper.upon]at h⊢ <;> exact h
theorem zj3{ops:Array Oper}{o:Oper}{a:Act}{w:World}(h:wpList P ops Q [o] a w):wpList P ops (Exit.then (Q .normal) Q) [o] a w:=by
 have e:Exit.then (Q .normal) Q=Q:=by funext e a w;cases e<;>rfl
 rw[e];exact h
theorem zca{ops:Array Oper}{K:Act->World->Prop}{i:Nat}{o:Oper}(ho:ops[i]? =some o){a:Act}{w:World}(h:wpList P ops (Exit.then K Q) [o] a w):wpOp P ops Q i K a w:=by
 unfold wpOp;rw[ho];simp only;unfold wpList at h
 split
 ·rename_i hw
  rw[Zm hw]at h
  rcases h with h|⟨h1,h2⟩
  ·exact .inl (zoi (fun _ _ h=>h) h)
  ·exact .inr ⟨h1,h2⟩
 ·rename_i hw
  rw[Zg hw]at h;exact h
theorem zgr:∀(l:List Oper) (k:Nat),zhu l k=true->∀i o,l[i]? =some o->∀e∈o.after,Region.binds .any e=true->e.on<k+i:=by
 intro l
 induction l with
 | nil=>intro k _ i o h;simp at h
 | cons p l ih=>
  intro k h i o ho e he hb;unfold zhu at h;rw[Zu]at h
  cases i with
  | zero=>
   simp at ho;subst ho;have h1:=Array.all_eq_true_iff_forall_mem.1 h.1 e he;rw[hb]at h1
   simpa using h1
  | succ i=>
   have:=ih (k+1) h.2 i o Y8 e he hb;omega
theorem zeh{ops:Array Oper}{listed:Array Bool}(hs:listed.size=ops.size)(hbk:zhu ops.toList 0=true)(hr:Region.ready .any ops listed=[]):∀i,i<ops.size->listed.getD i false=true:=by
 intro i
 induction i using Nat.strongRecOn with
 | _ i ih=>
  intro hi
  cases hc:listed.getD i false with
  | true=>rfl
  | false=>
   exfalso
   have hc2:listed.getD i true=false:=by
    have hl:i<listed.size:=Ya
    simpa [hl]using hc
   have:i∈Region.ready .any ops listed:=mem_ready.2 ⟨hc2,ops[i],Zbm hi,fun e he hb=>by
    have hlt:=zgr _ _ hbk i ops[i] (by simp[hi]) e he hb;rw[ZR]at hlt;exact ih _ hlt Ya⟩
   rw[hr]at this;simp at this
def zsr(ops:Array Oper)(n i:Nat):Bool:=(List.range n).any fun k=>decide (i<k) && (ops.getD k default).after.toList.any fun e=>Region.binds .any e && e.on==i
def zim(ops:Array Oper):Bool:=(List.range (ops.size-1)).all fun i=>zsr ops ops.size i
theorem zmd{ops:Array Oper}(h:zim ops=true){i:Nat}(hi:i+1<ops.size):∃(k:Nat) (o:Oper),i<k/\ops[k]? =some o/\∃e∈o.after,Region.binds .any e=true/\e.on=i:=by
 have h1:=Zau.1 h i (Z5.2 Ya);obtain⟨k,hk,h2⟩:=List.any_eq_true.1 h1;rw[Z5]at hk;rw[Zu,ZC]at h2;obtain⟨e,he,h3⟩:=List.any_eq_true.1 h2.2;rw[Zu,ZaS]at h3;have e1:ops.getD k default=ops[k]:=JR;rw[e1,Array.mem_toList_iff]at he;exact⟨k,ops[k],h2.1,Zbm hk,e,he,h3.1,h3.2⟩
theorem zlN{ops:Array Oper}{listed:Array Bool}(hu:zim ops=true)(hc:∀i o,ops[i]? =some o->listed.getD i false=true->∀e∈o.after,Region.binds .any e=true->listed.getD e.on false=true)
 (hr:ops.size-1∈Region.ready .any ops listed):∀i,i+1<ops.size->listed.getD i false=true:=by
 have key:∀m i,ops.size-1-i=m->i+1<ops.size->listed.getD i false=true:=by
  intro m
  induction m using Nat.strongRecOn with
  | _ m ih=>
   intro i hm hi;obtain⟨k,o,hik,ho,e,he,hb,rfl⟩:=zmd hu hi;have hk:=(ZF.1 ho).1
   by_cases hl:k+1<ops.size
   ·exact hc k o ho (ih (ops.size-1-k) Ya k rfl hl) e he hb
   ·obtain rfl:k=ops.size-1:=Ya;obtain⟨_,o',ho',hd⟩:=mem_ready.1 hr;rw[ho]at ho';cases ho';exact hd e he hb
 exact fun i hi=>key _ i rfl hi
def zcC(G:Nat->Value->World->Prop)(g:Nat->Value)(w:World):Nat->Prop
 | 0=>True
 | n+1=>zcC G g w n/\G n (g n) w
theorem zcC.of{G:Nat->Value->World->Prop}{g:Nat->Value}{w:World}:∀(n:Nat),(∀i,i<n->G i (g i) w)->zcC G g w n:=by
 intro n
 induction n with
 | zero=>intro _;trivial
 | succ n ih=>intro h;exact⟨ih (fun i hi=>h i Ya),h n Ya⟩
theorem zgJ{init:List Oper}{last:Oper}{id:Nat}{a:Act}{w:World}(hm:P.follows .mixedOrders=true)(hap:zd3 init=true)(hbk:zhu (init++[last]) 0=true)(hus:zim (init++[last]).toArray=true)(R:World->Prop)(S:World->World->Prop)(G:Nat->Value->World->Prop)
 (hG:∀i v w w',G i v w->S w w'->G i v w')(h0:R w.drew)(hshow:zbR P (init++[last]).toArray Q a init R S G init 0)
 (hlast:∀(g:Nat->Value) (w':World),R w'->zcC G g w' init.length->wpList P (init++[last]).toArray Q [last] (ze init 0 g a) w'):(Code.region id (init++[last]).toArray true).wp P Q a w:=by
 have hsz:(init++[last]).toArray.size=init.length+1:=Yc
 refine zbS hm (fun listed a' w'=>listed.size=init.length+1/\(∀i o,(init++[last]).toArray[i]? =some o->listed.getD i false=true->∀e∈o.after,Region.binds .any e=true->listed.getD e.on false=true)/\
  ((listed.getD init.length false=false/\∃g,a'=ze init 0 g a/\R w'/\∀i,i<init.length->listed.getD i false=true->G i (g i) w')∨((∀i,i<init.length+1->listed.getD i false=true)/\Q .normal a' w'))) ?_ ?_ ?_
 ·have hrep:∀i,(Array.replicate (init++[last]).toArray.size false).getD i false=false:=Ts
  refine⟨Yc,?_,.inl ⟨hrep _,zeN init a,(zcx _ _ _ (fun i _=>Jd)).symm,h0,?_⟩⟩
  ·exact O8
  ·intro i _ hi;rw[hrep]at hi;cases hi
 ·rintro listed a' w' ⟨hs,hc,⟨hl,_⟩|⟨_,hq⟩⟩ hr
  ·have:=zeh Kd hbk hr init.length (by rw[hsz];omega);rw[this]at hl;cases hl
  ·exact hq
 ·rintro listed a' w' i ⟨hs,hc,hI⟩ hi;obtain⟨hu,o,ho,hdep⟩:=mem_ready.1 hi;have hlt:i<init.length+1:=by have:=(ZF.1 ho).1;rw[hsz]at this;exact this
  have hclo:∀k o',(init++[last]).toArray[k]? =some o'->(listed.setIfInBounds i true).getD k false=true->∀e∈o'.after,Region.binds .any e=true->(listed.setIfInBounds i true).getD e.on false=true:=by
   have hup:∀j,listed.getD j false=true->(listed.setIfInBounds i true).getD j false=true:=by
    intro j hj
    by_cases hij:i=j
    ·subst hij;simp[ZV,ZaF,hs,hlt]
    ·rw[getD_set_ne _ hij];exact hj
   intro k o' ho' hk e he hb
   by_cases hik:i=k
   ·subst hik;rw[ho]at ho';cases ho';exact hup _ (hdep e he hb)
   ·rw[getD_set_ne _ hik]at hk;exact hup _ (hc k o' ho' hk e he hb)
  rcases hI with⟨hl,g,rfl,hR,hall⟩|⟨hall,_⟩
  ·by_cases hil:i=init.length
   ·subst hil;have e0:o=last:=by simp at ho;exact ho.symm
    subst e0;have hA:∀j,j<init.length->listed.getD j false=true:=fun j hj=>zlN hus hc (by rw[hsz];exact hi) j (by rw[hsz];omega)
    have hs1:=hlast g w' hR (zcC.of _ fun j hj=>hall j hj (hA j hj))
    refine wpOp_mono ?_ (zca ho (K:=Q .normal) (zj3 hs1))
    intro a2 w2 hq
    refine⟨XP,hclo,.inr ⟨fun j hj=>?_,hq⟩⟩
    by_cases hij:init.length=j
    ·subst hij;simp[ZV,ZaF,hs]
    ·rw[getD_set_ne _ hij];exact hA j Ya
   ·have hil':i<init.length:=Ya;have ho':init[i]? =some o:=by
     rw[List.getElem?_toArray,Zz hil']at ho;exact ho
    have hL:zdt G g w' o.after.toList:=zdt.of _ fun e he hb=>hall _ (by
     have:=zgr _ _ hbk i o Y8 e Xz hb;omega) (hdep e Xz hb)
    have hs1:=hshow.at _ _ i o ho' g w' hR hL;rw[ZR]at hs1
    refine wpOp_mono ?_ (zca ho hs1)
    rintro a2 w2 ⟨v,rfl,hR2,hS2,hG2⟩
    refine⟨XP,hclo,.inl ⟨by rw[getD_set_ne _ hil];exact hl,upd g i v,?_,hR2,fun j hjl hj=>?_⟩⟩
    ·have:=zd0 (g:=g) (v:=v) init 0 i a hap hil';rw[ZR]at this;rw[<- this];simp[ho']
    ·exact Oi
  ·exfalso
   have h1:=hall i hlt;rw[ZV]at h1 hu
   cases hx:listed[i]? with
   | none=>rw[hx]at h1;cases h1
   | some b=>rw[hx]at h1 hu;simp at h1 hu;rw[h1]at hu;cases hu
theorem zcR{l:List Oper}{id:Nat}{a:Act}{w:World}(hm:P.follows .mixedOrders=true)(hl:l=l.dropLast++[l.getLastD default])(hap:zd3 l.dropLast=true)(hbk:zhu l 0=true)(hus:zim l.toArray=true)(R:World->Prop)(S:World->World->Prop)(G:Nat->Value->World->Prop)
 (hG:∀i v w w',G i v w->S w w'->G i v w')(h0:R w.drew)(hshow:∀ops,zbR P ops Q a l.dropLast R S G l.dropLast 0)
 (hlast:∀ops (g:Nat->Value) (w':World),R w'->zcC G g w' l.dropLast.length->wpList P ops Q [l.getLastD default] (ze l.dropLast 0 g a) w'):(Code.region id l.toArray true).wp P Q a w:=by
 have h1:=zgJ (P:=P) (Q:=Q) (init:=l.dropLast) (last:=l.getLastD default) (id:=id) (a:=a) (w:=w) hm hap (by rw[<- hl];exact hbk) (by rw[<- hl];exact hus) R S G hG h0 (hshow _) (hlast _);rw[<- hl]at h1;exact h1
end
section
variable {P:Program} {Q:Exit->Act->World->Prop}
def zcX(ops:Array Oper)(t:Nat):Bool:=(List.range t).all fun i=>(List.range (t+1)).any fun k=>decide (i<k) && (ops.getD k default).after.toList.any fun e=>Region.binds .any e && e.on==i
theorem zkn{ops:Array Oper}{t:Nat}(ht:t<ops.size)(h:zcX ops t=true){i:Nat}(hi:i<t):∃(k:Nat) (o:Oper),i<k/\k<=t/\ops[k]? =some o/\∃e∈o.after,Region.binds .any e=true/\e.on=i:=by
 have h1:=Zau.1 h i (Z5.2 hi);obtain⟨k,hk,h2⟩:=List.any_eq_true.1 h1;rw[Z5]at hk;rw[Zu,ZC]at h2;obtain⟨e,he,h3⟩:=List.any_eq_true.1 h2.2;rw[Zu,ZaS]at h3;have hks:k<ops.size:=Ya;have e1:ops.getD k default=ops[k]:=by simp[hks]
 rw[e1,Array.mem_toList_iff]at he;exact⟨k,ops[k],h2.1,Ya,Zbm hks,e,he,h3.1,h3.2⟩
theorem zfE{ops:Array Oper}{listed:Array Bool}{t:Nat}(ht:t<ops.size)(hu:zcX ops t=true)(hc:∀i o,ops[i]? =some o->listed.getD i false=true->∀e∈o.after,Region.binds .any e=true->listed.getD e.on false=true)
 (hr:t∈Region.ready .any ops listed):∀i,i<t->listed.getD i false=true:=by
 have key:∀m i,t-i=m->i<t->listed.getD i false=true:=by
  intro m
  induction m using Nat.strongRecOn with
  | _ m ih=>
   intro i hm hi;obtain⟨k,o,hik,hkt,ho,e,he,hb,rfl⟩:=zkn ht hu hi
   by_cases hl:k<t
   ·exact hc k o ho (ih (t-k) Ya k rfl hl) e he hb
   ·obtain rfl:k=t:=Ya;obtain⟨_,o',ho',hd⟩:=mem_ready.1 hr;rw[ho]at ho';cases ho';exact hd e he hb
 exact fun i hi=>key _ i rfl hi
theorem zfX{ops:Array Oper}{i:Nat}{o:Oper}{rest:List Oper}(ho:ops[i]? =some o){a:Act}{w:World}(h:wpList P ops Q (o::rest) a w):wpOp P ops Q i (wpList P ops Q rest) a w:=by
 unfold wpOp;rw[ho];simp only;unfold wpList at h;exact h
theorem zj{l:List Oper}(n:Nat){id:Nat}{a:Act}{w:World}(hm:P.follows .mixedOrders=true)(hap:zd3 (l.take n)=true)(hbk:zhu l 0=true)(hus:((List.range (l.length-n)).all fun j=>zcX l.toArray (n+j))=true)(hn:n<l.length)(R:World->Prop)(S:World->World->Prop)(G:Nat->Value->World->Prop)
 (hG:∀i v w w',G i v w->S w w'->G i v w')(h0:R w.drew)(hshow:∀ops,zbR P ops Q a (l.take n) R S G (l.take n) 0)
 (hlast:∀ops (g:Nat->Value) (w':World),R w'->zcC G g w' n->wpList P ops Q (l.drop n) (ze (l.take n) 0 g a) w'):(Code.region id l.toArray true).wp P Q a w:=by
 have hsz:l.toArray.size=l.length:=Yc;have htl:(l.take n).length=n:=Yy;have hup:∀t,n<=t->t<l.length->zcX l.toArray t=true:=TM
 refine zbS hm (fun listed a' w'=>listed.size=l.length/\(∀i o,l.toArray[i]? =some o->listed.getD i false=true->∀e∈o.after,Region.binds .any e=true->listed.getD e.on false=true)/\
  (((∀i,n<=i->listed.getD i false=false)/\∃g,a'=ze (l.take n) 0 g a/\R w'/\∀i,i<n->listed.getD i false=true->G i (g i) w') ∨
   (∃m,n<m/\m<=l.length/\(∀i,i<m->listed.getD i false=true)/\(∀i,m<=i->listed.getD i false=false)/\wpList P l.toArray Q (l.drop m) a' w'))) ?_ ?_ ?_
 ·exact Tm
 ·exact UI
 ·rintro listed a' w' i ⟨hs,hc,hI⟩ hi;obtain⟨hu,o,ho,hdep⟩:=mem_ready.1 hi;have hlt:i<l.length:=by have:=(ZF.1 ho).1;rw[hsz]at this;exact this
  have hset:(listed.setIfInBounds i true).getD i false=true:=by simp[ZV,ZaF,hs,hlt]
  have hclo:∀k o',l.toArray[k]? =some o'->(listed.setIfInBounds i true).getD k false=true->∀e∈o'.after,Region.binds .any e=true->(listed.setIfInBounds i true).getD e.on false=true:=U5
  rcases hI with⟨hl,g,rfl,hR,hall⟩|⟨m,h1,h2,h3,h4,hq⟩
  ·by_cases hil:n<=i
   ·exact Om
   ·have hil':i<n:=Ya;have ho':(l.take n)[i]? =some o:=I9;have hL:zdt G g w' o.after.toList:=zdt.of _ fun e he hb=>hall _ (by
     have:=zgr _ _ hbk i o Y8 e Xz hb;omega) (hdep e Xz hb)
    have hs1:=(hshow l.toArray).at _ _ i o ho' g w' hR hL;exact UU
  ·exact Uw
end
section
variable {P:Program} {Q:Exit->Act->World->Prop}
def zdj(d:Nat->Bool)(i:Nat):Nat->Bool:=fun j=>if j=i then true else d j
def zaE(d:Nat->Bool):List Edge->Prop
 | []=>True
 | e::es=>(Region.binds .any e=true->d e.on=true)/\zaE d es
theorem zaE.of{d:Nat->Bool}:∀(es:List Edge),(∀e∈es,Region.binds .any e=true->d e.on=true)->zaE d es:=E6
def zc1(P:Program)(ops:Array Oper)(Q:Exit->Act->World->Prop)(a0:Act)(fl:List Oper)(J:(Nat->Bool)->(Nat->Value)->World->Prop):List Oper->Nat->Prop
 | [],_=>True
 | o::l,i=>(∀d g w,J d g w->d i=false->zaE d o.after.toList->wpList P ops (Exit.then (fun a' w'=>∃v,a'=(ze fl 0 g a0).put o.dst v/\J (zdj d i) (upd g i v) w') Q) [o] (ze fl 0 g a0) w)/\zc1 P ops Q a0 fl J l (i+1)
theorem zc1.at{ops:Array Oper}{a0:Act}{fl:List Oper}{J:(Nat->Bool)->(Nat->Value)->World->Prop}:∀(l:List Oper) (k:Nat),zc1 P ops Q a0 fl J l k->∀i o,l[i]? =some o->
  ∀d g w,J d g w->d (k+i)=false->zaE d o.after.toList->wpList P ops (Exit.then (fun a' w'=>∃v,a'=(ze fl 0 g a0).put o.dst v/\J (zdj d (k+i)) (upd g (k+i) v) w') Q) [o] (ze fl 0 g a0) w:=TJ
theorem zal{l:List Oper}(n:Nat){id:Nat}{a:Act}{w:World}(hm:P.follows .mixedOrders=true)(hap:zd3 (l.take n)=true)(hbk:zhu l 0=true)(hus:((List.range (l.length-n)).all fun j=>zcX l.toArray (n+j))=true)(hn:n<l.length)(J:(Nat->Bool)->(Nat->Value)->World->Prop)
 (h0:∀g,J (fun _=>false) g w.drew)(hshow:∀ops,zc1 P ops Q a (l.take n) J (l.take n) 0)
 (hlast:∀ops (d:Nat->Bool) (g:Nat->Value) (w':World),(∀i,i<n->d i=true)->J d g w'->wpList P ops Q (l.drop n) (ze (l.take n) 0 g a) w'):(Code.region id l.toArray true).wp P Q a w:=by
 have hsz:l.toArray.size=l.length:=Yc;have htl:(l.take n).length=n:=Yy;have hup:∀t,n<=t->t<l.length->zcX l.toArray t=true:=TM
 refine zbS hm (fun listed a' w'=>listed.size=l.length/\(∀i o,l.toArray[i]? =some o->listed.getD i false=true->∀e∈o.after,Region.binds .any e=true->listed.getD e.on false=true)/\
  (((∀i,n<=i->listed.getD i false=false)/\∃g,a'=ze (l.take n) 0 g a/\J (fun i=>listed.getD i false) g w') ∨
   (∃m,n<m/\m<=l.length/\(∀i,i<m->listed.getD i false=true)/\(∀i,m<=i->listed.getD i false=false)/\wpList P l.toArray Q (l.drop m) a' w'))) ?_ ?_ ?_
 ·have hrep:∀i,(Array.replicate l.toArray.size false).getD i false=false:=Ts
  refine⟨Yc,?_,.inl ⟨fun i _=>hrep i,zeN (l.take n) a,(zcx _ _ _ (fun i _=>Jd)).symm,?_⟩⟩
  ·exact O8
  exact Ii
 ·exact UI
 ·rintro listed a' w' i ⟨hs,hc,hI⟩ hi;obtain⟨hu,o,ho,hdep⟩:=mem_ready.1 hi;have hlt:i<l.length:=by have:=(ZF.1 ho).1;rw[hsz]at this;exact this
  have hset:(listed.setIfInBounds i true).getD i false=true:=by simp[ZV,ZaF,hs,hlt]
  have hclo:∀k o',l.toArray[k]? =some o'->(listed.setIfInBounds i true).getD k false=true->∀e∈o'.after,Region.binds .any e=true->(listed.setIfInBounds i true).getD e.on false=true:=U5
  rcases hI with⟨hl,g,rfl,hJ⟩|⟨m,h1,h2,h3,h4,hq⟩
  ·by_cases hil:n<=i
   ·have hA:=zfE XH (hup i hil hlt) hc hi;have hin:i=n:=TI;subst hin;have hs1:=hlast l.toArray _ g w' hA hJ;exact UD
   ·have hil':i<n:=Ya;have ho':(l.take n)[i]? =some o:=I9;have hu0:listed.getD i false=false:=EJ;have hs1:=(hshow l.toArray).at _ _ i o ho' _ g w' hJ (by rw[ZR];exact hu0) (zaE.of _ fun e he hb=>hdep e Xz hb);rw[ZR]at hs1
    refine wpOp_mono ?_ (zca ho hs1)
    rintro a2 w2 ⟨v,rfl,hJ2⟩
    refine⟨XP,hclo,.inl ⟨fun j hj=>X8,upd g i v,?_,?_⟩⟩
    ·exact Oo
    ·exact T7
  ·exact Uw
end
section
variable {P:Program} {Q:Exit->Act->World->Prop}
theorem zcN{l:List Oper}{id:Nat}{a:Act}{w:World}(hm:P.follows .mixedOrders=true)(hap:zd3 l=true)(hbk:zhu l 0=true)(J:(Nat->Bool)->(Nat->Value)->World->Prop)
 (h0:∀g,J (fun _=>false) g w.drew)(hshow:∀ops,zc1 P ops Q a l J l 0)
 (hlast:∀(d:Nat->Bool) (g:Nat->Value) (w':World),(∀i,i<l.length->d i=true)->J d g w'->Q .normal (ze l 0 g a) w'):(Code.region id l.toArray true).wp P Q a w:=by
 have hsz:l.toArray.size=l.length:=Yc
 refine zbS hm (fun listed a' w'=>listed.size=l.length/\(∀i o,l.toArray[i]? =some o->listed.getD i false=true->∀e∈o.after,Region.binds .any e=true->listed.getD e.on false=true)/\
  ∃g,a'=ze l 0 g a/\J (fun i=>listed.getD i false) g w') ?_ ?_ ?_
 ·have hrep:∀i,(Array.replicate l.toArray.size false).getD i false=false:=Ts
  refine⟨Yc,?_,zeN l a,(zcx _ _ _ (fun i _=>Jd)).symm,?_⟩
  ·exact O8
  exact Ii
 ·rintro listed a' w' ⟨hs,hc,g,rfl,hJ⟩ hr;exact hlast _ g w' (fun i hi=>zeh Kd hbk hr i (by rw[hsz];exact hi)) hJ
 ·rintro listed a' w' i ⟨hs,hc,g,rfl,hJ⟩ hi;obtain⟨hu,o,ho,hdep⟩:=mem_ready.1 hi;have hlt:i<l.length:=by have:=(ZF.1 ho).1;rw[hsz]at this;exact this
  have hset:(listed.setIfInBounds i true).getD i false=true:=by simp[ZV,ZaF,hs,hlt]
  have hclo:∀k o',l.toArray[k]? =some o'->(listed.setIfInBounds i true).getD k false=true->∀e∈o'.after,Region.binds .any e=true->(listed.setIfInBounds i true).getD e.on false=true:=U5;have ho':l[i]? =some o:=Y8;have hu0:listed.getD i false=false:=EJ;have hs1:=(hshow l.toArray).at _ _ i o ho' _ g w' hJ (by rw[ZR];exact hu0) (zaE.of _ fun e he hb=>hdep e Xz hb);rw[ZR]at hs1
  refine wpOp_mono ?_ (zca ho hs1)
  rintro a2 w2 ⟨v,rfl,hJ2⟩
  refine⟨XP,hclo,upd g i v,?_,?_⟩
  ·have:=zd0 (g:=g) (v:=v) l 0 i a hap hlt;rw[ZR]at this;rw[<- this];simp only[ho',Option.bind_some]
  ·exact T7
end
theorem zq0{w:World}{F:Nat->Prop}{a:Option Addr}{l:List Int}(ca:Nat)(kh kw s p:Int)(h:zah w F a l)(hno:zbt l kh kw s p=false)(hno2:zaZ l kh kw p=false):
  Calls Tryz.prog 131 #[.slice a l.length ca,.int .i64 kh,.int .i64 kw,.int .i64 s,.int .i64 p] w (zcq w l kh kw s p):=by
 have hV:=zgR ca h;have hlen:=h.len;obtain⟨hv,s1,s2,s3,_⟩:=ze8 hno;obtain⟨q,hq,hwin,rfl',rfl,rfl,rfl,rfl⟩:=zgg hno hno2;have hl:l.length=3:=by rw[rfl'];rfl
 have hq1:=hq.c1;have hq2:=hq.h1;have hq3:=hq.w1;have hq4:=hq.kh1;have hq5:=hq.kh2;have hq6:=hq.kw1;have hq7:=hq.kw2;have hq8:=hq.s1;have hq9:=hq.s2;have hqa:=hq.ph;have hqb:=hq.pw;have hqc:=hq.fh;have hqd:=hq.fw;have hqe:=hq.c2;have hqf:=hq.h2;have hqg:=hq.w2;have hqh:=hq.r2;have hqi:=hq.q2;obtain⟨bb,off,c,x,y,rfl,hc,hx,hy,e0,e1,e2⟩:=h.three hl;obtain rfl:c=q.C:=Vv;obtain rfl:x=q.H:=Vw;obtain rfl:y=q.W:=Vx;rw[hv]at hV;have HV:=hid hV;have h3:3<=l.length:=Ya;have hne:((l.length:Int) != 3)=false:=Yi;have HLL:=hid rfl';clear hV hv hl e0 e1 e2 rfl' h
 go_enter Tryz.func131,Tryz.ntmps131
 go_wp2_with (first|(go_at_call 53;refine HV.out.mono ?_;rintro e w' ⟨rfl,rfl⟩)|(go_at_call 157;refine(zsA _ _).mono ?_;rintro e w' ⟨rfl,rfl⟩))
 go_quiet (fail)
 go_wp2
 go_quiet (fail)
 rw[hq.rInt,hq.qInt,IntWalk.wrap64_in (q.R:Int) ⟨Ya,Ya⟩,IntWalk.wrap64_in (q.Q:Int) ⟨Ya,Ya⟩];obtain⟨⟨p1,p2⟩,⟨p3,p4⟩,⟨p5,p6⟩,⟨p7,p8⟩⟩:=hq.prods
 by_cases hmany:262144<(q.R:Int)*q.Q*q.C*q.kh*q.kw
 ·exact TR
 have HS:Hid (zB l q.kh q.kw q.s q.p=(q.all,(q.R:Int),(q.Q:Int),0)):=EE;have HW:=hid hwin;clear hno hno2 hwin HLL HV;go_wp2;clear p1 p2 p3 p4 p5 p6 p7 p8 hmany hc hx hy hne
 go_loopw [19,122] (fun v j wr=>∃(r:Nat) (L:List (List Int)) (xs:List Value),r<=q.R/\j=.int .i64 r/\Hid (L=(List.range r).flatMap q.rowOf)/\Hid (zcU wr w.heap.size 22 v xs L)/\L.length<=r*16600/\Below w.heap.size w wr)
  (fun _ j _=>q.R-(intOf j).toNat)
 case atStart=>exact⟨0,[],[],Ya,rfl,rfl,zcU.nil _ _ _,Yc,below_drewN (Ze _ _) _⟩
 case round=>
  obtain⟨r,L,xs,hr,rfl,HL,HO,hLl,hB⟩:=hrel;obtain⟨wo,rfl⟩:∃wo:World,wo=wr:=⟨_,rfl⟩
  by_cases hlt:r<q.R
  ·go_wp2
   go_loopw [19,126] (fun v j wr=>∃(c:Nat) (M:List (List Int)) (xs:List Value),c<=q.Q/\j=.int .i64 c/\Hid (M=L++(List.range c).map (q.one r))/\Hid (zcU wr w.heap.size 22 v xs M)/\M.length<=r*16600+c/\Below w.heap.size w wr)
    (fun _ j _=>q.Q-(intOf j).toNat)
   case atStart=>exact⟨0,L,xs,Ya,rfl,Xq,HO,Ya,hB⟩
   case round=>
    clear hB HO;obtain⟨c,M,xs,hc,rfl,HM,HO,hMl,hB⟩:=hrel;obtain⟨wc,rfl⟩:∃wc:World,wc=wr:=⟨_,rfl⟩
    by_cases hltc:c<q.Q
    ·obtain⟨⟨g1,g2⟩,g3,g4⟩:=hq.pos hlt hltc;go_wp2
     go_loopw [22,130] (fun v j wr=>∃(ch:Nat) (P:List Int),ch<=q.C/\j=.int .i64 ch/\Hid (P=(List.range ch).flatMap (q.chan r c))/\P.length<=ch*4096/\Hid (wr.ownsRow wc.heap.size 3 1 v P.length (P.map (Value.int .i64)))/\Below wc.heap.size wc wr)
      (fun _ j _=>q.C-(intOf j).toNat)
     case atStart=>exact⟨0,[],Ya,rfl,rfl,Yc,Zaw _ _ _ _,Ze _ _⟩
     case round=>
      obtain⟨ch,P,hch,rfl,HP,hPl,HV,hBc⟩:=hrel
      by_cases hltch:ch<q.C
      ·go_wp2
       go_loopw [22,134] (fun v j wr=>∃(i:Nat) (S:List Int),i<=q.kh/\j=.int .i64 i/\Hid (S=P++(List.range i).flatMap (q.line r c ch))/\S.length<=ch*4096+i*64/\Hid (wr.ownsRow wc.heap.size 3 1 v S.length (S.map (Value.int .i64)))/\Below wc.heap.size wc wr)
        (fun _ j _=>q.kh-(intOf j).toNat)
       case atStart=>exact⟨0,P,Ya,rfl,Xq,Ya,HV,hBc⟩
       case round=>
        clear hBc HV;obtain⟨i,S,hi,rfl,HSl,hSl,HV,hBc⟩:=hrel
        by_cases hlti:i<q.kh
        ·go_wp2
         go_loopw [22,138] (fun v j wr=>∃(k:Nat) (T:List Int),k<=q.kw/\j=.int .i64 k/\Hid (T=S++(List.range k).map (q.at r c ch i))/\T.length<=ch*4096+i*64+k/\Hid (wr.ownsRow wc.heap.size 3 1 v T.length (T.map (Value.int .i64)))/\Below wc.heap.size wc wr)
          (fun _ j _=>q.kw-(intOf j).toNat)
         case atStart=>exact⟨0,S,Ya,rfl,Xq,Ya,HV,hBc⟩
         case round=>
          clear hBc HV;obtain⟨k,T,hk,rfl,HT,hTl,HV,hBc⟩:=hrel
          by_cases hltk:k<q.kw
          ·clear HS HW HL HM HP HSl HO hB hLl hMl hPl hSl
           by_cases hin:0<=(r:Int)*q.s+i-q.p/\(r:Int)*q.s+i-q.p<q.H/\0<=(c:Int)*q.s+k-q.p/\(c:Int)*q.s+k-q.p<q.W
           ·have HA:q.at r c ch i k=((ch:Int)*q.H+((r:Int)*q.s+i-q.p))*q.W+((c:Int)*q.s+k-q.p):=Vy;have HA:=hid HA;obtain⟨i1,i2,i3,i4⟩:=hin;obtain⟨⟨j1,j2⟩,⟨j3,j4⟩,j5,j6⟩:=hq.idx hltch i1 i2 i3 i4;clear j6
            go_wp2_with (at_builtin;refine zao rfl (.tmp 180) (.tmp 182) 22 rfl wc.heap.size 3 (.int .i64 0) 8 Tryz.underlying22 Tryz.info3 rfl _ T.length _ rfl HV.out _ rfl rfl Ya Yf hBc.size ?_;intro v' w' hown hg hn)
            go_roundw
            case rel=>
             exact TV
            case measure=>simp[intOf];omega
           ·have HA:q.at r c ch i k= -1:=Vz;have HA:=hid HA
            go_wp2_with (at_builtin;refine zao rfl (.tmp 180) (.tmp 182) 22 rfl wc.heap.size 3 (.int .i64 0) 8 Tryz.underlying22 Tryz.info3 rfl _ T.length _ rfl HV.out _ rfl rfl Ya Yf hBc.size ?_;intro v' w' hown hg hn)
            all_goals
             go_roundw
             case rel=>
              exact TV
             case measure=>simp[intOf];omega
          ·exact Ek
        ·exact Tl
      ·obtain rfl:ch=q.C:=Ya;have hown:=HV.out;obtain⟨aw,cw,hvw,hIw⟩:=zah.own (l:=P) hown Ke Ya;have hcapw:=zah.own_cap hown hvw;have HO':=HO.out.frame hBc;have hob:=hown.lt;subst hvw;clear hown HV
       go_wp2_with (at_builtin;refine zao rfl (.tmp 187) (.tmp 189) 65 rfl w.heap.size 22 (.slice none 0 0) 24 Tryz.underlying65 Tryz.info22 rfl _ M.length xs rfl HO'.own _ rfl rfl Ya Yf Xk ?_;intro v' w' hown hg hn)
       exact Td
    ·exact Tw
  ·exact TC
theorem zuc{w:World}{F:Nat->Prop}{a:Option Addr}{l:List Int}(ca:Nat)(kh kw s p:Int)(h:zah w F a l):
  Calls Tryz.prog 131 #[.slice a l.length ca,.int .i64 kh,.int .i64 kw,.int .i64 s,.int .i64 p] w (zcq w l kh kw s p):=by
 cases h1:zbt l kh kw s p
 ·cases h2:zaZ l kh kw p
  ·exact zq0 ca kh kw s p h h1 h2
  ·exact zlH ca kh kw s p h h1 h2
 ·exact zp9 ca kh kw s p h h1
theorem zfT{d c s:Int}{r q:List Int}(h:c<0∨d<=c):zbn (d::r) (c::q) s=(0,2):=by simp[zbn,h]
theorem ziR{d c s:Int}{r q:List Int}(h1:¬ c<0)(h2:¬ d<=c):zbn (d::r) (c::q) s=zbn r q (s*d+c):=by simp[zbn,h1,h2]
theorem zme{l m:List Int}(h:zk l=false):zdJ l m=(0,1):=by simp[zdJ,h]
theorem zmu{l m:List Int}(h:m.length≠l.length):zdJ l m=(0,1):=by simp[zdJ,h]
theorem zof{l m:List Int}(h:zk l=true)(hl:m.length=l.length):zbn (l.drop 0) (m.drop 0) 0=zdJ l m:=by simp[zdJ,h,hl]
theorem zr2{w:World}{F G:Nat->Prop}{a b:Option Addr}{l m:List Int}(ca cb:Nat)(h:zah w F a l)(g:zah w G b m):
  Calls Tryz.prog 98 #[.slice a l.length ca,.slice b m.length cb] w fun e w'=>e=.returned (.tuple #[.int .i64 (zdJ l m).1,.int .i64 (zdJ l m).2])/\∃n,w'=w.drewN n:=by
 have hl1:=h.len;have hl2:=g.len;have hV:=zbu ca h;cases hv:zk l
 ·rw[hv]at hV;obtain⟨HS,HV⟩:=hd2 (zme (m:=m) hv) hV;exact Et
 rw[hv]at hV
 by_cases hl:m.length=l.length
 ·have hne:((m.length:Int) != (l.length:Int))=false:=by simp[hl]
  obtain⟨HS,HV,HF,HL⟩:=hd4 (zof hv hl) hV (zdu hv) hl;clear hv hV hl
  go_enter Tryz.func98,Tryz.ntmps98
  go_wp2_with (go_at_call 50;refine HV.out.mono ?_;rintro e w' ⟨rfl,rfl⟩)
  go_loopw [6,7] (fun z i wr=>∃k q:Nat,∃n s:Int,k<=l.length/\1<=n/\n<=16384/\0<=s/\s<n/\i=.int .i64 k/\z=.int .i64 s/\wr=w.drewN q/\Hid (z9 (l.drop k) n=true)/\Hid (zbn (l.drop k) (m.drop k) s=zdJ l m))
   (fun _ i _=>l.length-(intOf i).toNat)
  case atStart=>exact⟨0,0,1,0,Ya,Ya,Ya,Ya,Ya,rfl,rfl,rfl,HF,HS⟩
  case round=>
   obtain⟨k,q,n,s,hk,hn1,hn2,hs1,hs2,rfl,rfl,rfl,hv,hrel⟩:=hrel
   by_cases hlt:k<l.length
   ·obtain⟨b1,o1,d,rfl,hd,_,hld,_,_⟩:=h.pick hlt;obtain⟨b2,o2,c,rfl,hc,_,hlc,_,_⟩:=g.pick (show k<m.length from HL.out ▸ hlt);have hlt2:k<m.length:=HL.out ▸ hlt;obtain⟨d1,d2,d3,d4,d5⟩:=zbo hld hn1 hv.out;obtain⟨HD,HC,H5⟩:=hd3 hld hlc d5;clear hld hlc h g d5
    by_cases c1:c<0
    ·go_wp2
     go_quiet (fail)
     go_wp2
     go_ret2
     exact⟨zlc (by rw[<- hrel.out,HD.out,HC.out,zfT (.inl c1)]),zjY _ _ _⟩
    have c1':decide (c<0)=false:=by simpa using c1
    by_cases c2:d<=c
    ·go_wp2
     go_quiet (fail)
     go_wp2
     go_ret2
     exact⟨zlc (by rw[<- hrel.out,HD.out,HC.out,zfT (.inr c2)]),zjY _ _ _⟩
    have hb:=zsD hs1 hs2 d1 (by omega:0<=c) Ya;go_wp2
    go_quiet (fail)
    go_wp2
    go_quiet (fail)
    go_wp2;go_roundw
    case rel=>exact⟨k+1,_,n*d,s*d+c,Ya,Ya,Ya,Ya,Ya,Yg,rfl,rfl,H5,by rw[<- hrel.out,HD.out,HC.out,ziR Ya Ya];rfl⟩
    case measure=>simp[intOf];omega
   ·go_wp2
    go_ret2
    exact⟨zlc YM,q,rfl⟩
 ·have hne:((m.length:Int) != (l.length:Int))=true:=Yi;obtain⟨HS,HV⟩:=hd2 (zmu hl) hV;exact Et
theorem zhi{n:Int}(h1:¬ n<1)(h2:¬ 64<n):zcW n=true:=by unfold zcW;simp;omega
theorem zpl{w:World}{F:Nat->Prop}{a:Option Addr}{l:List Int}(ca:Nat)(kh kw s p:Int)(h:zah w F a l)(hbad:zbt l kh kw s p=true):
  Calls Tryz.prog 64 #[.slice a l.length ca,.int .i64 kh,.int .i64 kw,.int .i64 s,.int .i64 p] w (zcq w l kh kw s p):=by
 have HS:=hid (zc0 hbad);have hV:=zbu ca h;clear h;cases hv:zk l
 ·rw[hv]at hV;have HV:=hid hV;clear hv hV hbad;exact Uu
 rw[hv]at hV;have HV:=hid hV;clear hV
 by_cases h1:kh<1
 ·exact O5
 by_cases h2:64<kh
 ·exact O5
 by_cases h3:kw<1
 ·exact O5
 by_cases h4:64<kw
 ·exact O5
 by_cases h5:s<1
 ·exact O5
 by_cases h6:64<s
 ·exact O5
 by_cases h7:p<0
 ·exact O5
 by_cases h8:kh<=p
 ·exact O5
 by_cases h9:kw<=p
 ·exact O5
 simp[zbt,hv,zhi h1 h2,zhi h3 h4,zhi h5 h6,h7,h8,h9]at hbad
theorem zlV{w:World}{F:Nat->Prop}{a:Option Addr}{l:List Int}(ca:Nat)(kh kw s p:Int)(h:zah w F a l)(hno:zbt l kh kw s p=false)(hbad:zaZ l kh kw p=true):
  Calls Tryz.prog 64 #[.slice a l.length ca,.int .i64 kh,.int .i64 kw,.int .i64 s,.int .i64 p] w (zcq w l kh kw s p):=by
 have HS:=hid (zb8 hno hbad);have hV:=zbu ca h;have hlen:=h.len;obtain⟨hv,s1,s2,s3,⟨b1,b1'⟩,⟨b2,b2'⟩,⟨b3,b3'⟩,b4,b5,b6⟩:=ze8 hno;have hm:=zdh hv;rw[hv]at hV;have HV:=hid hV;clear hV hv s1 s2 s3
 by_cases hl:l.length=3
 ·obtain⟨bb,off,c,x,y,rfl,_,hx,hy,e0,e1,e2⟩:=h.three hl;have hx1:=hm x (Zq e1);have hy1:=hm y (Zq e2);have h3:3<=l.length:=Ya;have hne:((l.length:Int) != 3)=false:=Yi;have hg1:l.getD 1 0=x:=by simp[List.getD,e1]
  have hg2:l.getD 2 0=y:=by simp[List.getD,e2]
  obtain⟨HG1,HG2,HL⟩:=hd3 hg1 hg2 hl;clear hm h hno hl e0 e1 e2 hg1 hg2
  by_cases h1:x+2*p<kh
  ·clear hbad;exact Uu
  by_cases h2:y+2*p<kw
  ·clear hbad;exact Uu
  exact Ih
 ·have hne:((l.length:Int) != 3)=true:=Xi;clear hm hno hbad hl h;exact Uu
theorem zib{w w':World}{base:Nat}{e:TypeId}{size:Nat}{v:Value}{n:Nat}{xs:List Value}(h:w.ownsRow base e size v n xs)(hb:Below w.heap.size w w'):w'.ownsRow base e size v n xs:=
 h.kept (row:=none) ⟨hb.os,hb.tape,hb.output,hb.size,fun k hk _=>hb.block k hk⟩ Xh
theorem znZ{w:World}{F G:Nat->Prop}{a b:Option Addr}{l m:List Int}(ca cb:Nat)(h:zah w F a l)(g:zah w G b m){p:Int×Int}(hp:zdJ l m=p):
  Calls Tryz.prog 98 #[.slice a l.length ca,.slice b m.length cb] w fun e w'=>e=.returned (.tuple #[.int .i64 p.1,.int .i64 p.2])/\Below w.heap.size w w':=by
 subst hp
 refine(zr2 ca cb h g).mono ?_
 rintro e w' ⟨rfl,n,rfl⟩;exact⟨rfl,below_drewN (Ze _ _) _⟩
theorem zl4{q:Win}{l:List Int}(hv:zk l=true)(hl:l=[(q.C:Int),(q.H:Int),(q.W:Int)]){ch:Nat}(hch:ch<q.C)(y x:Int):
  zdJ l [(ch:Int),y,x]=if 0<=y/\y<q.H/\0<=x/\x<q.W then(((ch:Int)*q.H+y)*q.W+x,0)else(0,2):=by
 subst hl;have h1:¬ ((ch:Int)<0∨(q.C:Int)<=ch):=Ya;simp only[zdJ,hv,ZH,Zax,and_self,if_true,zbn,Zg h1,Int.zero_mul,Int.zero_add]
 by_cases hy:y<0∨(q.H:Int)<=y
 ·rw[Zm hy,Zg Ya]
 ·rw[Zg hy]
  by_cases hx:x<0∨(q.W:Int)<=x
  ·rw[Zm hx,Zg Ya]
  ·rw[Zg hx,Zm Ya]
theorem zah.made3{w:World}{E:Nat}(x y z:Int)(hx: -9223372036854775808<=x/\x<=9223372036854775807)(hy: -9223372036854775808<=y/\y<=9223372036854775807)(hz: -9223372036854775808<=z/\z<=9223372036854775807):
  zah (w.alloc (.cells #[.int .i64 x,.int .i64 y,.int .i64 z] E)) Any (some ⟨w.heap.size,0,none⟩) [x,y,z]:=by
 refine⟨Yi,Yc,.inr ⟨w.heap.size,0,rfl,trivial,Yc,fun j d hj=>?_⟩⟩
 match j,hj with
 | 0,hj=>simp at hj;subst hj;simp
 | 1,hj=>simp at hj;subst hj;simp
 | 2,hj=>simp at hj;subst hj;simp
theorem zrn{w:World}{F:Nat->Prop}{a:Option Addr}{l:List Int}(ca:Nat)(kh kw s p:Int)(h:zah w F a l)(hno:zbt l kh kw s p=false)(hno2:zaZ l kh kw p=false):
  Calls Tryz.prog 64 #[.slice a l.length ca,.int .i64 kh,.int .i64 kw,.int .i64 s,.int .i64 p] w (zcq w l kh kw s p):=by
 have hV:=zbu ca h;have hlen:=h.len;obtain⟨hv,s1,s2,s3,_⟩:=ze8 hno;obtain⟨q,hq,hwin,rfl',rfl,rfl,rfl,rfl⟩:=zgg hno hno2;have hl:l.length=3:=by rw[rfl'];rfl
 have hq1:=hq.c1;have hq2:=hq.h1;have hq3:=hq.w1;have hq4:=hq.kh1;have hq5:=hq.kh2;have hq6:=hq.kw1;have hq7:=hq.kw2;have hq8:=hq.s1;have hq9:=hq.s2;have hqa:=hq.ph;have hqb:=hq.pw;have hqc:=hq.fh;have hqd:=hq.fw;have hqe:=hq.c2;have hqf:=hq.h2;have hqg:=hq.w2;have hqh:=hq.r2;have hqi:=hq.q2;obtain⟨bb,off,c,x,y,rfl,hc,hx,hy,e0,e1,e2⟩:=h.three hl;obtain rfl:c=q.C:=Vv;obtain rfl:x=q.H:=Vw;obtain rfl:y=q.W:=Vx;rw[hv]at hV;have HV:=hid hV;have h3:3<=l.length:=Ya;have hne:((l.length:Int) != 3)=false:=Yi;have HLL:=hid rfl';have hbb:=Zbs w _ hc;obtain⟨HI,HVL,HC⟩:=hd3 h hv hc;clear hV hl e0 e1 e2 rfl' h hv
 go_enter Tryz.func64,Tryz.ntmps64
 go_wp2_with (go_at_call 50;refine HV.out.mono ?_;rintro e w' ⟨rfl,rfl⟩)
 go_quiet (fail)
 rw[hq.rInt,hq.qInt,IntWalk.wrap64_in (q.R:Int) ⟨Ya,Ya⟩,IntWalk.wrap64_in (q.Q:Int) ⟨Ya,Ya⟩];obtain⟨⟨p1,p2⟩,⟨p3,p4⟩,⟨p5,p6⟩,⟨p7,p8⟩⟩:=hq.prods
 by_cases hmany:262144<(q.R:Int)*q.Q*q.C*q.kh*q.kw
 ·exact TR
 have HS:Hid (zB l q.kh q.kw q.s q.p=(q.all,(q.R:Int),(q.Q:Int),0)):=EE;have HW:=hid hwin;clear hno hno2 hwin HV;go_wp2;clear p1 p2 p3 p4 p5 p6 p7 p8 hmany hc hx hy hne
 go_loopw [16,17] (fun v j wr=>∃(r:Nat) (L:List (List Int)) (xs:List Value),r<=q.R/\j=.int .i64 r/\Hid (L=(List.range r).flatMap q.rowOf)/\Hid (zcU wr w.heap.size 22 v xs L)/\L.length<=r*16600/\Below w.heap.size w wr)
  (fun _ j _=>q.R-(intOf j).toNat)
 case atStart=>exact⟨0,[],[],Ya,rfl,rfl,zcU.nil _ _ _,Yc,below_drewN (Ze _ _) _⟩
 case round=>
  obtain⟨r,L,xs,hr,rfl,HL,HO,hLl,hB⟩:=hrel;obtain⟨wo,rfl⟩:∃wo:World,wo=wr:=⟨_,rfl⟩
  by_cases hlt:r<q.R
  ·go_wp2
   go_loopw [16,18] (fun v j wr=>∃(c:Nat) (M:List (List Int)) (xs:List Value),c<=q.Q/\j=.int .i64 c/\Hid (M=L++(List.range c).map (q.one r))/\Hid (zcU wr w.heap.size 22 v xs M)/\M.length<=r*16600+c/\Below w.heap.size w wr)
    (fun _ j _=>q.Q-(intOf j).toNat)
   case atStart=>exact⟨0,L,xs,Ya,rfl,Xq,HO,Ya,hB⟩
   case round=>
    clear hB HO;obtain⟨c,M,xs,hc,rfl,HM,HO,hMl,hB⟩:=hrel;obtain⟨wc,rfl⟩:∃wc:World,wc=wr:=⟨_,rfl⟩
    by_cases hltc:c<q.Q
    ·obtain⟨⟨g1,g2⟩,g3,g4⟩:=hq.pos hlt hltc;go_wp2
     go_loopw [19,20] (fun v j wr=>∃(ch:Nat) (P:List Int),ch<=q.C/\j=.int .i64 ch/\Hid (P=(List.range ch).flatMap (q.chan r c))/\P.length<=ch*4096/\Hid (wr.ownsRow wc.heap.size 3 1 v P.length (P.map (Value.int .i64)))/\Below wc.heap.size wc wr)
      (fun _ j _=>q.C-(intOf j).toNat)
     case atStart=>exact⟨0,[],Ya,rfl,rfl,Yc,Zaw _ _ _ _,Ze _ _⟩
     case round=>
      obtain⟨ch,P,hch,rfl,HP,hPl,HV,hBc⟩:=hrel;have hcw:wr.cell? ⟨bb,off,none⟩=some (.int .i64 q.C):=((hB.trans (hBc.mono hB.size)).cell (p:=⟨bb,off,none⟩) hbb).trans HC.out
      by_cases hltch:ch<q.C
      ·go_wp2
       go_loopw [19,21] (fun v j wr=>∃(i:Nat) (S:List Int),i<=q.kh/\j=.int .i64 i/\Hid (S=P++(List.range i).flatMap (q.line r c ch))/\S.length<=ch*4096+i*64/\Hid (wr.ownsRow wc.heap.size 3 1 v S.length (S.map (Value.int .i64)))/\Below wc.heap.size wc wr)
        (fun _ j _=>q.kh-(intOf j).toNat)
       case atStart=>exact⟨0,P,Ya,rfl,Xq,Ya,HV,hBc⟩
       case round=>
        clear hBc HV;obtain⟨i,S,hi,rfl,HSl,hSl,HV,hBc⟩:=hrel
        by_cases hlti:i<q.kh
        ·go_wp2
         go_loopw [19,22] (fun v j wr=>∃(k:Nat) (T:List Int),k<=q.kw/\j=.int .i64 k/\Hid (T=S++(List.range k).map (q.at r c ch i))/\T.length<=ch*4096+i*64+k/\Hid (wr.ownsRow wc.heap.size 3 1 v T.length (T.map (Value.int .i64)))/\Below wc.heap.size wc wr)
          (fun _ j _=>q.kw-(intOf j).toNat)
         case atStart=>exact⟨0,S,Ya,rfl,Xq,Ya,HV,hBc⟩
         case round=>
          clear hBc HV;obtain⟨k,T,hk,rfl,HT,hTl,HV,hBc⟩:=hrel
          by_cases hltk:k<q.kw
          ·have hI2:=(HI.out.below ((hB.trans (hBc.mono hB.size)))).below ((Ze _ wr).alloc (Za _) (.cells #[.int .i64 ch,.int .i64 ((r:Int)*q.s+i-q.p),.int .i64 ((c:Int)*q.s+k-q.p)] 3));have hI3:=zah.made3 (w:=wr) (E:=3) (ch:Int) ((r:Int)*q.s+i-q.p) ((c:Int)*q.s+k-q.p) ⟨Ya,Ya⟩ ⟨Ya,Ya⟩ ⟨Ya,Ya⟩;have hX:=zl4 HVL.out HLL.out hltch ((r:Int)*q.s+i-q.p) ((c:Int)*q.s+k-q.p);clear HS HW HL HM HP HSl HO hB hLl hMl hPl hSl
           by_cases hin:0<=(r:Int)*q.s+i-q.p/\(r:Int)*q.s+i-q.p<q.H/\0<=(c:Int)*q.s+k-q.p/\(c:Int)*q.s+k-q.p<q.W
           ·have HA:q.at r c ch i k=((ch:Int)*q.H+((r:Int)*q.s+i-q.p))*q.W+((c:Int)*q.s+k-q.p):=Vy;have HA:=hid HA;rw[Zm hin]at hX;exact UE
           ·have HA:q.at r c ch i k= -1:=Vz;have HA:=hid HA;rw[Zg hin]at hX;exact UE
          ·exact Ek
        ·exact Tl
      ·obtain rfl:ch=q.C:=Ya;have hown:=HV.out;obtain⟨aw,cw,hvw,hIw⟩:=zah.own (l:=P) hown Ke Ya;have hcapw:=zah.own_cap hown hvw;have HO':=HO.out.frame hBc;have hob:=hown.lt;subst hvw;clear hown HV
       go_wp2_with (at_builtin;refine zao rfl (.tmp 177) (.tmp 179) 65 rfl w.heap.size 22 (.slice none 0 0) 24 Tryz.underlying65 Tryz.info22 rfl _ M.length xs rfl HO'.own _ rfl rfl Ya Yf Xk ?_;intro v' w' hown hg hn)
       exact Td
    ·exact Tw
  ·exact TC
theorem zs4{w:World}{F:Nat->Prop}{a:Option Addr}{l:List Int}(ca:Nat)(kh kw s p:Int)(h:zah w F a l):
  Calls Tryz.prog 64 #[.slice a l.length ca,.int .i64 kh,.int .i64 kw,.int .i64 s,.int .i64 p] w (zcq w l kh kw s p):=by
 cases h1:zbt l kh kw s p
 ·cases h2:zaZ l kh kw p
  ·exact zrn ca kh kw s p h h1 h2
  ·exact zlV ca kh kw s p h h1 h2
 ·exact zpl ca kh kw s p h h1
theorem Win.Ok.bare{q:Win}(h:q.Ok)(hp:q.p=0){r c ch i k:Nat}(hr:r<q.R)(hc:c<q.Q)(hi:i<q.kh)(hk:k<q.kw):
  q.at r c ch i k=((ch:Int)*q.H+((r:Int)*q.s+i))*q.W+((c:Int)*q.s+k)/\(r:Int)*q.s+i<q.H/\(c:Int)*q.s+k<q.W:=by
 have f1:=h.fh;have f2:=h.fw;have s1:=h.s1;rw[hp]at f1 f2;have a1:r*q.s<=q.H-q.kh:=by
  have:r<=(q.H-q.kh)/q.s:=by unfold Win.R at hr;rw[hp]at hr;simp at hr;omega
  exact IL
 have a2:c*q.s<=q.W-q.kw:=by
  have:c<=(q.W-q.kw)/q.s:=by unfold Win.Q at hc;rw[hp]at hc;simp at hc;omega
  exact IL
 have b1:((r*q.s:Nat):Int)=(r:Int)*q.s:=Yc;have b2:((c*q.s:Nat):Int)=(c:Int)*q.s:=Yc
 refine⟨?_,Ya,Ya⟩
 unfold Win.at znw;rw[Zm (by rw[hp];omega),hp];simp
structure zoR (W1:World) (G:Nat->Value->World->Prop) (d:Nat->Bool) (g:Nat->Value) (W:World):Prop where
 be:Below W1.heap.size W1 W
 all:∀i,d i=true->G i (g i) W
theorem zoR.start{W1:World}{G:Nat->Value->World->Prop}(g:Nat->Value):zoR W1 G (fun _=>false) g W1.drew:=⟨(Ze _ _).drew,fun _ h=>YP⟩
theorem zoR.step{W1:World}{G:Nat->Value->World->Prop}{d:Nat->Bool}{g:Nat->Value}{W W':World}(h:zoR W1 G d g W)(hG:∀i v w w',G i v w->Below w.heap.size w w'->G i v w'){i:Nat}{v:Value}(hb:Below W.heap.size W W')(hv:G i v W'):zoR W1 G (zdj d i) (upd g i v) W':=by
 refine⟨h.be.trans (hb.mono h.be.size),fun j hj=>?_⟩
 unfold upd
 by_cases e:j=i
 ·subst e;rw[Zm rfl];exact hv
 ·rw[Zg e];unfold zdj at hj;rw[Zg e]at hj;exact hG _ _ _ _ (h.all j hj) hb
theorem zoR.here{W1:World}{G:Nat->Value->World->Prop}{d:Nat->Bool}{g:Nat->Value}{W:World}(h:zoR W1 G d g W)(hG:∀i v w w',G i v w->Below w.heap.size w w'->G i v w'){i:Nat}{v:Value}(hv:G i v W):zoR W1 G (zdj d i) (upd g i v) W:=h.step hG (Ze _ _) hv
section
variable {P:Program} {Q:Exit->Act->World->Prop}
theorem zbX{l:List Oper}(n:Nat){id:Nat}{a:Act}{w:World}(hm:P.follows .mixedOrders=true)(hap:zd3 (l.take n)=true)(hbk:zhu l 0=true)(hus:((List.range (l.length-n)).all fun j=>zcX l.toArray (n+j))=true)(hn:n<l.length)(R:World->Prop)(S:World->World->Prop)(G:Nat->Value->World->Prop)
 (hG:∀i v w w',G i v w->S w w'->G i v w')(h0:R w.drew)(hshow:∀ops:Array Oper,(∀j:Nat,(ops[j]?).bind (fun o:Oper=>o.dst)=(l[j]?).bind (fun o:Oper=>o.dst))->zbR P ops Q a (l.take n) R S G (l.take n) 0)
 (hlast:∀ops (g:Nat->Value) (w':World),R w'->zcC G g w' n->wpList P ops Q (l.drop n) (ze (l.take n) 0 g a) w'):(Code.region id l.toArray true).wp P Q a w:=by
 have hsz:l.toArray.size=l.length:=Yc;have htl:(l.take n).length=n:=Yy;have hup:∀t,n<=t->t<l.length->zcX l.toArray t=true:=TM
 refine zbS hm (fun listed a' w'=>listed.size=l.length/\(∀i o,l.toArray[i]? =some o->listed.getD i false=true->∀e∈o.after,Region.binds .any e=true->listed.getD e.on false=true)/\
  (((∀i,n<=i->listed.getD i false=false)/\∃g,a'=ze (l.take n) 0 g a/\R w'/\∀i,i<n->listed.getD i false=true->G i (g i) w') ∨
   (∃m,n<m/\m<=l.length/\(∀i,i<m->listed.getD i false=true)/\(∀i,m<=i->listed.getD i false=false)/\wpList P l.toArray Q (l.drop m) a' w'))) ?_ ?_ ?_
 ·exact Tm
 ·exact UI
 ·rintro listed a' w' i ⟨hs,hc,hI⟩ hi;obtain⟨hu,o,ho,hdep⟩:=mem_ready.1 hi;have hlt:i<l.length:=by have:=(ZF.1 ho).1;rw[hsz]at this;exact this
  have hset:(listed.setIfInBounds i true).getD i false=true:=by simp[ZV,ZaF,hs,hlt]
  have hclo:∀k o',l.toArray[k]? =some o'->(listed.setIfInBounds i true).getD k false=true->∀e∈o'.after,Region.binds .any e=true->(listed.setIfInBounds i true).getD e.on false=true:=U5
  rcases hI with⟨hl,g,rfl,hR,hall⟩|⟨m,h1,h2,h3,h4,hq⟩
  ·by_cases hil:n<=i
   ·exact Om
   ·have hil':i<n:=Ya;have ho':(l.take n)[i]? =some o:=I9;have hL:zdt G g w' o.after.toList:=zdt.of _ fun e he hb=>hall _ (by
     have:=zgr _ _ hbk i o Y8 e Xz hb;omega) (hdep e Xz hb)
    have hs1:=(hshow l.toArray (fun j=>Yc)).at _ _ i o ho' g w' hR hL;exact UU
  ·exact Uw
theorem zcm{ops:Array Oper}{dst:Option Tmp}{op:Op}{type:TypeId}{pos:String}{after:Array Edge}{j:Nat}{b:Bool}{rest:List Oper}{a:Act}{w:World}{x:Option Tmp}(hd:(ops[j]?).bind (fun o:Oper=>o.dst)=x)(t:Tmp)(hx:x=some t)(hv:a.tmps[t]? =some (.bool b))
 (h:wpList P ops Q (({ dst,op,type,pos,after,guard:=none }:Oper)::rest) a w):wpList P ops Q (({ dst,op,type,pos,after,guard:=some (j,b) }:Oper)::rest) a w:=by
 have hw:Region.wanted ({ dst,op,type,pos,after,guard:=some (j,b) }:Oper) (yielded ops a.tmps)=true:=by
  unfold Region.wanted yielded;simp only[hd,hx,Option.bind_some,hv];simp
 have hw2:Region.wanted ({ dst,op,type,pos,after,guard:=none }:Oper) (yielded ops a.tmps)=true:=rfl;unfold wpList at h⊢;rw[Zm hw2]at h;rw[Zm hw];exact h
end
