/-
  Contracts: ModG, OpenU, ModH.
-/
import Derived.Test.YtfgmmghmmfmdgaaGreatO10
import Derived.Test.YtfgmmghmmfmdgaaGreatO9
import Derived.Test.YtfgmmghmmfmdgaaGreatO13
import Derived.Shelf.Abstract
import Derived.Test.YtfgmmghmmfmdgaaGreatO0
set_option linter.all false
set_option maxRecDepth 100000
set_option maxHeartbeats 3200000
namespace Go.Proofs.YtfgmmghmmfmdgaaGreat
open Go.RowKit
open Go.Lib (hid)
variable {P:Prop}
theorem UV(h:P:=by rw[ZaR hlt];congr 1;rw[Zh hlt]at hl;exact Option.some.inj hl):P:=h
theorem II(h:P:=by exact⟨zi HF.out.symm,hbA⟩):P:=h
structure zbF (l:zac):Prop where
 wts:∀x∈l.weights,zD x 1048576
 bias:∀x∈l.bias,zD x 1048576
theorem zpn{w:World}{v:Value}{l:zac}{M po pn:Nat}(ht:zsE w M po pn)(hv:zcV w v l)(i:Int)(hk:1<=l.kind/\l.kind<=7):
  ∃fn caps,zs3 po pn l.kind=some (.func (.func fn) #[] caps)/\(∀args w,(callFunc fn args).run Tryz.prog w=.ok (.enter fn args) w)/\Calls Tryz.prog fn (#[v,.int .i64 i]++caps) w fun e w'=>e=.returned (.bool (zcT l i))/\Below w.heap.size w w':=by
 have hc:l.kind=1∨l.kind=2∨(l.kind=3∨l.kind=4)∨(l.kind=5∨l.kind=6)∨l.kind=7:=Ya
 rcases hc with h|h|h|h|h
 ·refine⟨116,_,by rw[h];rfl,Go.Proofs.enters_of Tryz.func116 Yb rfl,?_⟩
  have:=zsO hv i ht.fo ht.fn;rw[ztI l i h]at this;exact this
 ·refine⟨118,_,by rw[h];rfl,Go.Proofs.enters_of Tryz.func118 Yb rfl,?_⟩
  have:=ztU hv i ht.fo ht.fn;rw[ztT l i h]at this;exact this
 ·refine⟨113,#[.pointer (some ⟨pn,0,none⟩)],Vp,Go.Proofs.enters_of Tryz.func113 Yb rfl,?_⟩
  have:=ztv hv i ht.fn;rw[ztt l i h]at this;exact this
 ·refine⟨115,#[.pointer (some ⟨pn,0,none⟩)],Vp,Go.Proofs.enters_of Tryz.func115 Yb rfl,?_⟩
  have:=ztm hv i ht.fn;rw[ztV l i h]at this;exact this
 ·refine⟨119,_,by rw[h];rfl,Go.Proofs.enters_of Tryz.func119 Yb rfl,?_⟩
  have:=zug hv i ht.fn;rw[ztb l i h]at this;exact this
theorem zp5(po pn:Nat)(x:Int)(h:¬ (1<=x/\x<=7)):zs3 po pn x=none:=by
 unfold zs3 zon;rw[Zg Ya,Zg Ya,Zg Ya,Zg Ya,Zg Ya,Zg Ya,Zg Ya]
theorem zft(l:zac)(i:Int)(h:¬ (1<=l.kind/\l.kind<=7)):zcT l i=false:=by
 unfold zcT;rw[Zg Ya,Zg Ya,Zg Ya,Zg Ya,Zg Ya]
theorem zqm{w:World}{m:zec}{a1 a2:Option Addr}(c1 c2:Nat)(h1:zah w Any a1 m.input)(h2:zaK w a2 m.layers)(hr:∀l∈m.layers,zQ l)(hs:∀l∈m.layers,zbF l):
  Calls Tryz.prog 51 #[.agg #[.slice a1 m.input.length c1,.slice a2 m.layers.length c2]] w fun e w'=>e=.returned (.bool (zbe m))/\Below w.heap.size w w':=by
 have q1:=h1.len;have q2:=h2.len;obtain⟨H2,HRg,HSh⟩:=hd3 h2 hr hs;have hbA:=blA w (.cells #[.slice a1 m.input.length c1,.slice a2 m.layers.length c2] 25);have HV:=hid (zgR c1 (h1.below hbA));generalize hR:zbe m=R;have HR:=hid hR;unfold zbe at hR;clear h1 h2 hr hs
 cases e1:zk m.input with
 | false=>
  rw[e1]at HV hR;have HF:Hid (R=false):=hR.symm;clear hR e1
  go_enter Tryz.func51,Tryz.ntmps51
  go_wp2_with fail
  refine HV.out.mono ?_
  rintro e w' ⟨rfl,rfl⟩;go_wp2;go_ret;exact II
 | true=>
  rw[e1]at HV hR;clear e1
  by_cases e2:m.layers.length<=64
  ·rw[Zk e2]at hR;have HL:Hid (zam (m.layers.drop 0) ((0:Nat):Int)=R):=hR;clear hR
   go_enter Tryz.func51,Tryz.ntmps51
   go_wp2_with fail
   refine HV.out.mono ?_
   rintro e w' ⟨rfl,rfl⟩;have x0:(w.alloc (.cells #[.slice a1 m.input.length c1,.slice a2 m.layers.length c2] 25)).cell? ⟨w.heap.size,0,none⟩=some (.slice a1 m.input.length c1):=by rw[World.cell?_alloc_at _ _ _ _ rfl];rfl
   have x1:(w.alloc (.cells #[.slice a1 m.input.length c1,.slice a2 m.layers.length c2] 25)).cell? ⟨w.heap.size,1,none⟩=some (.slice a2 m.layers.length c2):=by rw[World.cell?_alloc_at _ _ _ _ rfl];rfl
   have xlt:w.heap.size<(w.alloc (.cells #[.slice a1 m.input.length c1,.slice a2 m.layers.length c2] 25)).heap.size:=Yc;have HB:=hid hbA;generalize w.alloc (.cells #[.slice a1 m.input.length c1,.slice a2 m.layers.length c2] 25)=W at *;clear hbA
   go_wp2_with fail
   refine(zkk W).mono ?_
   rintro e w1 ⟨⟨M,po,pn,rfl,hT⟩,hb1⟩;have HT:=hid hT;have HW1:=htr HB hb1;have y1:=(hb1.cell (p:=⟨w.heap.size,1,none⟩) xlt).trans x1;clear hT hb1 x0 x1 xlt;go_wp2;clear y1
   go_loopw [26] (fun i wr=>∃j:Nat,j<=m.layers.length/\i=.int .i64 (j:Int)/\Hid (zam (m.layers.drop j) (j:Int)=R)/\Hid (Below w1.heap.size w1 wr)) (fun i _=>m.layers.length-(intOf i).toNat)
   case atStart=>exact⟨0,Zs _,rfl,HL.out,Ze _ _⟩
   case round=>
    obtain⟨j,hj,rfl,HS,HW⟩:=hrel
    by_cases hlt:j<m.layers.length
    ·obtain⟨bl,ol,l,rfl,hbl,hl,b1,b2,d1,d2,⟨l0,l1,l2,l3,l4,l5,l6,l7,l8⟩,r1,r2⟩:=(H2.out.below (HW1.out.trans (HW.out.mono HW1.out.size))).pick hlt;have hmem:=Zq hl;have hrg:=(HRg.out l hmem).1.1;have HLe:=hid (HSh.out l hmem);have hdrop:m.layers.drop j=l::m.layers.drop (j+1):=UV;have HStep:Hid ((zai l (j:Int) && zam (m.layers.drop (j+1)) ((j+1:Nat):Int))=R):=by
      have:=HS.out;rw[hdrop]at this;exact this
     have hbV:=blA wr (zbG l b1 d1 b2 d2 44);have hx:=b9l wr l b1 d1 b2 d2 44;have hTV:=(HT.out.below HW.out).below hbV;obtain⟨R1,R2⟩:=hd2 (r1.below hbV) (r2.below hbV);have hLV:zcV (wr.alloc (zbG l b1 d1 b2 d2 44)) _ l:=⟨b1,b2,d1,d2,rfl,r1.below hbV,r2.below hbV⟩
     have LK:=hTV.fm.look hrg;have p1:=r1.len;have p2:=r2.len;have HWV:=htr HW hbV;clear hdrop hl hmem r1 r2 HS
     by_cases hk:1<=l.kind/\l.kind<=7
     ·obtain⟨fn,caps,hfn,hent,hcall⟩:=zpn hTV hLV (j:Int) hk;rw[hfn]at LK;obtain⟨HC,HX⟩:=hd2 hcall hx;clear hTV hLV hfn hcall hbV hk hrg
      go_upto_region 7 with fail
      generalize wr.alloc (zbG l b1 d1 b2 d2 44)=V at *;clear hx l0 l1 l2 l3 l4 l5 l6 l7 l8;obtain⟨x0,x1,x2,x3,x4,x5,x6,x7,x8,xlt⟩:=HX.out;simp only[Option.getD_some,Option.isSome_some]at LK
      go_wp2_with fail
      refine HC.out.mono ?_
      rintro e w2 ⟨rfl,hb2⟩;have HW2:=htr HWV hb2;have hX2:=HX.out.below hb2;obtain⟨S1,S2⟩:=hd2 (R1.out.below hb2) (R2.out.below hb2);clear x0 x1 x2 x3 x4 x5 x6 x7 x8 xlt hb2 LK HC HX R1 R2 hent
      cases hc:zcT l (j:Int)with
      | false=>
       have HF:Hid (R=false):=by unfold Hid;rw[<- HStep.out];unfold zai;rw[hc];rfl
       clear hc hX2;go_wp2;go_ret;exact⟨zi HF.out.symm,HW1.out.trans (HW2.out.mono HW1.out.size)⟩
      | true=>
       have HS2:Hid ((zeC l && zam (m.layers.drop (j+1)) ((j+1:Nat):Int))=R):=by have:=HStep.out;unfold zai at this;rw[hc]at this;exact this
       clear hc HStep;obtain⟨x0,x1,x2,x3,x4,x5,x6,x7,x8,xlt⟩:=hX2;have hb3:=blA w2 (.cells #[.slice b1 l.weights.length d1,.slice b2 l.bias.length d2] 35);have hP:∀k,k<2->∃(L:List zaf) (a:Option Addr) (d:Nat),(w2.alloc (.cells #[.slice b1 l.weights.length d1,.slice b2 l.bias.length d2] 35)).cell? ⟨w2.heap.size,k,none⟩=some (.slice a L.length d)/\zm (w2.alloc (.cells #[.slice b1 l.weights.length d1,.slice b2 l.bias.length d2] 35)) a L/\(∀x∈L,zD x 1048576)/\[l.weights,l.bias][k]? =some L:=by
        intro k hk
        match k,hk with
        | 0,_=>exact⟨l.weights,b1,d1,by rw[World.cell?_alloc_at _ _ _ _ rfl];rfl,S1.out.below hb3,HLe.out.wts,rfl⟩
        | 1,_=>exact⟨l.bias,b2,d2,by rw[World.cell?_alloc_at _ _ _ _ rfl];rfl,S2.out.below hb3,HLe.out.bias,rfl⟩
       have HP:=hid hP;have HW3:=htr HW2 hb3;have hblt:w2.heap.size<(w2.alloc (.cells #[.slice b1 l.weights.length d1,.slice b2 l.bias.length d2] 35)).heap.size:=Yc;have HBlt:=hid hblt;clear hP hb3 hblt
       go_upto_region 11 with fail
       generalize w2.alloc (.cells #[.slice b1 l.weights.length d1,.slice b2 l.bias.length d2] 35)=w3 at *;clear x0 x1 x2 x3 x4 x5 x6 x7 x8 xlt S1 S2 HW2 p1 p2
       go_loopw [53] (fun i wr2=>∃k:Nat,k<=2/\i=.int .i64 (k:Int)/\Hid (∀(k':Nat) (L:List zaf),k'<k->[l.weights,l.bias][k']? =some L->L.all zP=true)/\Hid (Below w3.heap.size w3 wr2)) (fun i _=>2-(intOf i).toNat)
       case atStart=>exact⟨0,Ya,rfl,fun k' L h=>absurd h Ya,Ze _ _⟩
       case round=>
        obtain⟨k,hk,rfl,HQ,HY⟩:=hrel
        by_cases hk2:k<2
        ·obtain⟨L,aL,dL,hcell,hL,hLe,hget⟩:=HP.out k hk2;have cK:=(HY.out.cell (p:=⟨w2.heap.size,k,none⟩) HBlt.out).trans hcell;obtain⟨HL2,HLe2,HG⟩:=hd3 hL hLe hget;have pL:=hL.len;have hk3:decide ((k:Int)<2)=true:=Zk Ya;clear hcell hL hLe hget;go_wp2;clear cK
         go_loopw [59] (fun i wr3=>∃n:Nat,n<=L.length/\i=.int .i64 (n:Int)/\Hid ((L.take n).all zP=true)/\Hid (Below w3.heap.size w3 wr3)) (fun i _=>L.length-(intOf i).toNat)
         case atStart=>exact⟨0,Zs _,rfl,rfl,HY.out⟩
         case round=>
          obtain⟨n,hn,rfl,HA,HZ⟩:=hrel
          by_cases hnl:n<L.length
          ·obtain⟨bx,ox,x,an,ad,cn,cd,rfl,hbx,hxx,o0,o1,o2,hxv⟩:=(HL2.out.below HZ.out).pick hnl;have hMx:=Zq hxx;have hTk:=hid (zjf hxx);have hle:=HLe2.out x hMx;have HM:=hid hMx;have hb4:=blA wr (zbb x an cn ad cd 51);have HC:=hid (zsi (hxv.below hb4) (by have:=hle.num;omega) (by have:=hle.den;omega));have HZ4:=htr HZ hb4;clear hxx hMx hle hxv hb4
           go_wp2_with fail
           refine HC.out.mono ?_
           rintro e w5 ⟨rfl,hb5⟩;have HZ5:=htr HZ4 hb5;clear hb5 HC HZ4 o0 o1 o2
           cases hq:zP x with
           | false=>
            have HF:Hid (R=false):=by
             unfold Hid;have hLf:=zfv HM.out hq;rw[<- HS2.out];unfold zeC;have hg:=HG.out
             match k,hk2,hg with
             | 0,_,hg=>simp at hg;rw[hg,hLf];rfl
             | 1,_,hg=>simp at hg;rw[hg,hLf,Zbh];rfl
            clear hq;go_wp2;go_ret;exact⟨zi HF.out.symm,HW1.out.trans ((HW3.out.trans (HZ5.out.mono HW3.out.size)).mono HW1.out.size)⟩
           | true=>
            have HT2:Hid ((L.take (n+1)).all zP=true):=by unfold Hid;rw[hTk.out,HA.out,hq];rfl
            clear hq;go_wp2;go_roundw
            case rel=>exact⟨n+1,hnl,Yg,HT2.out,HZ5.out⟩
            case measure=>simp[intOf];omega
          ·have HAl:Hid (L.all zP=true):=by
            have h:=HA.out;rw[ZM Ya]at h;exact h
           go_wp2;go_roundw
           case rel=>
            refine⟨k+1,Ya,Yg,?_,HZ.out⟩
            intro k' L' hk' hg
            by_cases e:k'=k
            ·subst e;rw[HG.out]at hg;cases hg;exact HAl.out
            ·exact HQ.out k' L' Ya hg
           case measure=>simp[intOf];omega
        ·have HN:Hid (zeC l=true):=by
          unfold Hid zeC;rw[HQ.out 0 l.weights Ya rfl,HQ.out 1 l.bias Ya rfl];rfl
         go_wp2;go_roundw
         case rel=>exact⟨j+1,hlt,Yg,by have:=HS2.out;rw[HN.out]at this;exact this,HW3.out.trans (HY.out.mono HW3.out.size)⟩
         case measure=>simp[intOf];omega
     ·have e0:=zp5 po pn l.kind hk;rw[e0]at LK;simp only[Option.getD_none,Option.isSome_none]at LK;have HF:Hid (R=false):=by unfold Hid;rw[<- HStep.out];unfold zai;rw[zft l _ hk];rfl
      clear hTV hLV hbV hk hrg e0 hx;go_wp2;go_ret;exact⟨zi HF.out.symm,HW1.out.trans (HWV.out.mono HW1.out.size)⟩
    ·obtain rfl:j=m.layers.length:=Ya;have HE:Hid (R=true):=XW;go_wp2;go_ret;exact⟨zi HE.out.symm,HW1.out.trans (HW.out.mono HW1.out.size)⟩
  ·rw[Zj e2]at hR;have HF:Hid (R=false):=by unfold Hid;rw[<- hR];rfl
   clear hR
   go_enter Tryz.func51,Tryz.ntmps51
   go_wp2_with fail
   refine HV.out.mono ?_
   rintro e w' ⟨rfl,rfl⟩;go_wp2;go_ret;exact II
end Go.Proofs.YtfgmmghmmfmdgaaGreat
namespace Go.Proofs.YtfgmmghmmfmdgaaGreat
open Go.RowKit Go.ChangeShapes Go.WideShapes Go.ChangeAt Go.Deep
open Go.Lib (hid)
section
variable {H:Type}
theorem zp7(d:DataW H):1<=Rows.uptoBulk d:=by
 cases d with
 | lit l=>cases l<;>simp[Rows.uptoBulk]
 | nil=>simp[Rows.uptoBulk]
 | ptr d=>simp[Rows.uptoBulk]
 | slice elems spare=>simp[Rows.uptoBulk]
 | agg parts=>simp[Rows.uptoBulk]
 | iface t d=>simp[Rows.uptoBulk]
 | map entries=>simp[Rows.uptoBulk]
 | held h=>simp[Rows.uptoBulk]
theorem zgI{d:DataW H}{l:List (DataW H)}(h:d∈l):Rows.uptoBulk d<=Rows.uptoBulkAll l:=by
 induction l with
 | nil=>cases h
 | cons x r ih=>
  simp only[Rows.uptoBulkAll]
  cases Za7.1 h with
  | inl e=>subst e;omega
  | inr e=>have:=ih e;omega
theorem zkv(l:List (DataW H)):l.length<=Rows.uptoBulkAll l:=by
 induction l with
 | nil=>simp[Rows.uptoBulkAll]
 | cons x r ih=>have:=zp7 x;simp only[Rows.uptoBulkAll,ZH];omega
theorem zhG(elems spare:List (DataW H)):Rows.uptoBulkAll elems+1<=Rows.uptoBulk (.slice elems spare):=by
 simp only[Rows.uptoBulk];omega
theorem zla(l:List (DataW H)):Rows.uptoBulkAll l<=Rows.uptoBulk (.agg l):=by
 simp only[Rows.uptoBulk];omega
end
section
variable {H:Type} {enc:TypeId×Value->H} {w:World} {base:Nat} {spare:Nat->Bool} {held:Bool}
theorem zh6{P:Program}{t e:TypeId}{fuel:Nat}{a:Option Addr}{n k:Nat}{x:DataW H×List MemPlace}(ht:P.underlying t=some (.slice e))(h:DataW.trod enc P w base spare held fuel t [.slice a n k]=some x):n<=Rows.uptoBulk x.1:=by
 rcases open_slice ht h with⟨hc,_⟩|⟨a',len,cap,m,n',D,Pl,hcs,hb,hl,hm,hmm,hx,hi⟩
 ·simp at hc;omega
 ·simp at hcs;obtain⟨_,rfl,_⟩:=hcs;rw[hx];have h1:=zhG ((List.range n).map D) ((List.range (m-n)).map fun j=>D (n+j));have h2:=zkv ((List.range n).map D);simp at h2;simp only;omega
theorem zeM{P:Program}{t e:TypeId}{fs:Array Field}{fuel:Nat}{b off len cap:Nat}{x:DataW H×List MemPlace}(ht:P.underlying t=some (.slice e))(he:P.underlying e=some (.struct fs))
 (hone:oneCellFields P fs=true)(hC:P.cellsOf e=fs.size)(h:DataW.trod enc P w base spare held fuel t [.slice (some ⟨b,off,none⟩) len cap]=some x){i:Nat}(hi:i<len):
  ∃(ys:List (DataW H×List MemPlace)) (n:Nat),(∀y∈ys,Rows.uptoBulk y.1<=Rows.uptoBulk x.1)/\∀(j:Nat) (f:Field),fs[j]? =some f->∃c y,w.cell? ⟨b,off+i*fs.size+j,none⟩=some c/\ys[j]? =some y/\DataW.trod enc P w base spare held n f.type [c]=some y:=by
 rcases open_slice ht h with⟨hc,_⟩|⟨a',len',cap',m,n',D,Pl,hcs,hb,hl,hm,hmm,hx,hel⟩
 ·simp at hc
 ·simp at hcs;obtain⟨rfl,rfl,_⟩:=hcs;have hml:len<=m:=by rw[hmm];split<;>omega
  obtain⟨cs',hc,ht'⟩:=hel i Ya;rw[hC]at hc;obtain⟨_,hcl,hat⟩:=World.cells?_some hc;obtain⟨ys,n,h1,h2,h3,h4⟩:=zeI he hone hC ht'
  refine⟨ys,n,fun y hy=>?_,fun j f hj=>?_⟩
  ·have e1:Rows.uptoBulk y.1<=Rows.uptoBulk (D i):=by
    rw[show D i=.agg (ys.map (·.1))from h3];exact Zi (zgI (List.mem_map_of_mem hy)) (zla _)
   have e2:Rows.uptoBulk (D i)<=Rows.uptoBulk x.1:=by
    rw[hx];exact Zi (zgI (List.mem_map_of_mem (Z5.2 hi))) (Zi (Zaj _) (zhG _ _))
   omega
  ·obtain⟨c,y,q1,q2,q3⟩:=h4 j f hj;have hjl:j<fs.size:=(ZF.1 hj).1;have:=hat j hjl;rw[q1]at this;exact⟨c,y,by simpa [Zaq]using this,q2,q3⟩
theorem zku{fuel:Nat}{a:Option Addr}{L:List zaf}{k:Nat}{x:DataW H×List MemPlace}(h:DataW.trod enc Tryz.prog w base spare held fuel 35 [.slice a L.length k]=some x)(hr:zm w a L):
  ∀r∈L,zD r (Rows.uptoBulk x.1):=by
 intro r hrm;obtain⟨i,hi⟩:=ZaX hrm;have hlt:=(Zr.1 hi).1;obtain⟨f0,f1,f2,hs,hone,t0,t1,t2⟩:=Tryz.rat_parts
 rcases hr.row with rfl|⟨b,off,rfl,hb,hc⟩
 ·simp at hrm
 obtain⟨an,ad,cn,cd,h0,h1,h2,h3⟩:=hc i r hi;obtain⟨ys,n,hys,hf⟩:=zeM Tryz.underlying35 hs hone Yb h hlt;obtain⟨c1,y1,e1,g1,k1⟩:=hf 1 f1 rfl;obtain⟨c2,y2,e2,g2,k2⟩:=hf 2 f2 rfl;rw[show(#[f0,f1,f2]:Array Field).size=3 from rfl]at e1 e2;rw[h1,ZaG]at e1;rw[h2,ZaG]at e2;subst e1 e2;rw[t1]at k1;rw[t2]at k2;have u1:=zh6 Tryz.underlying49 k1;have u2:=zh6 Tryz.underlying49 k2;have v1:=hys y1 (Zq g1);have v2:=hys y2 (Zq g2);exact⟨Ya,Ya⟩
theorem zD.le{x:zaf}{k n:Nat}(h:zD x k)(hk:k<=n):zD x n:=⟨Zi h.num hk,Zi h.den hk⟩
theorem zrF{fuel:Nat}{a:Option Addr}{L:List zac}{k B:Nat}{x:DataW H×List MemPlace}(h:DataW.trod enc Tryz.prog w base spare held fuel 23 [.slice a L.length k]=some x)(hr:zaK w a L)(hB:Rows.uptoBulk x.1<=B):
  ∀l∈L,(∀r∈l.weights,zD r B)/\∀r∈l.bias,zD r B:=by
 intro l hlm;obtain⟨i,hi⟩:=ZaX hlm;have hlt:=(Zr.1 hi).1;obtain⟨f0,f1,f2,f3,f4,f5,f6,f7,f8,hs,hone,t0,t1,t2,t3,t4,t5,t6,t7,t8⟩:=Tryz.layL_parts
 rcases hr.row with rfl|⟨b,off,rfl,hb,hc⟩
 ·simp at hlm
 obtain⟨a1,a2,c1,c2,⟨l0,l1,l2,l3,l4,l5,l6,l7,l8⟩,r1,r2⟩:=hc i l hi;obtain⟨ys,n,hys,hf⟩:=zeM Tryz.underlying23 hs hone Yb h hlt;obtain⟨d1,y1,e1,g1,k1⟩:=hf 7 f7 rfl;obtain⟨d2,y2,e2,g2,k2⟩:=hf 8 f8 rfl;rw[show(#[f0,f1,f2,f3,f4,f5,f6,f7,f8]:Array Field).size=9 from rfl]at e1 e2;rw[l7,ZaG]at e1;rw[l8,ZaG]at e2;subst e1 e2;rw[t7]at k1;rw[t8]at k2;have v1:=hys y1 (Zq g1);have v2:=hys y2 (Zq g2);exact⟨fun r hr=>(zku k1 r1 r hr).le Ya,fun r hr=>(zku k2 r2 r hr).le Ya⟩
end
end Go.Proofs.YtfgmmghmmfmdgaaGreat
namespace Go.Proofs.YtfgmmghmmfmdgaaGreat
open Go.RowKit
open Go.Lib (hid)
variable {w:World} {v:Value} {input l:List Int} {S:List (List Int)} {F:Nat->Prop} {a:Option Addr}
structure zcw (w:World) (v:Value) (input:List Int) (S:List (List Int)):Prop where
 ex:∃(a b:Option Addr) (c d:Nat),v=.agg #[.slice a input.length c,.slice b S.length d]/\zah w Any a input/\zbd w Any b S
theorem zcw.below{w':World}(h:zcw w v input S)(hb:Below w.heap.size w w'):zcw w' v input S:=by
 obtain⟨a,b,c,d,e,h1,h2⟩:=h.ex;exact⟨a,b,c,d,e,h1.below hb,h2.below hb⟩
theorem znh(input:List Int):zh input []=input:=rfl
theorem zhU{k:Nat}(hk:S.length=k+1)(hl:S[k]? =some l):zh input S=l:=by
 unfold zh;rw[Zah,hk,ZaA,hl];rfl
theorem pIn(h:zcw w v input S):∃(a:Option Addr) (c:Nat),zah w Any a (zh input S)/\∀w',Below w.heap.size w w'->
  Calls Tryz.prog 126 #[v] w' fun e w''=>e=.returned (.slice a (zh input S).length c)/\Below w'.heap.size w' w'':=by
 obtain⟨a,b,c,d,rfl,h1,h2⟩:=h.ex;have q1:=h1.len;have q2:=h2.len
 rcases ZaI S.length with h0|h0
 ·obtain rfl:S=[]:=Zy h0
  refine⟨a,c,h1,fun w' hb=>?_⟩
  rw[znh];have hbA:=blA w' (.cells #[.slice a input.length c,.slice b 0 d] 122);have HB:=hid hbA;clear h1 h2 hb h0 h hbA
  go_enter Tryz.func126,Tryz.ntmps126
  go_wp2;go_ret;exact⟨rfl,HB.out⟩
 ·obtain⟨k,hk⟩:∃k,S.length=k+1:=⟨S.length-1,Ya⟩
  obtain⟨bb,off,l,aj,cj,rfl,hcell,hl,hcj,hI,hbb,_⟩:=h2.pickc (k:=k) Ya;have hcur:=zhU (input:=input) hk hl;rw[hcur]
  refine⟨aj,cj,hI,fun w' hb=>?_⟩
  have hc':=(hb.cell (p:=⟨bb,off+k,none⟩) hbb).trans hcell;have hbA:=blA w' (.cells #[.slice a input.length c,.slice (some ⟨bb,off,none⟩) S.length d] 122);have HB:=hid hbA;have ql:=hI.len;generalize hn:S.length=n at *;have e1:((n:Int)-1)=(k:Int):=Ya;have hlt:k<n:=Ya;have hpos:0<n:=Ya;have HN:=hid hk;have hle:=Zb hbb hb.size;have hc2:=(hbA.cell (p:=⟨bb,off+k,none⟩) hle).trans hc';clear h h1 h2 hb hbA hcell hcur hl hI hn hk h0 hc' hbb
  go_enter Tryz.func126,Tryz.ntmps126
  go_wp2;go_ret;exact⟨rfl,HB.out⟩
theorem zqj{G:Nat->Prop}{b:Option Addr}{m:List Int}(c d:Nat)(h:zah w F a l)(g:zah w G b m):
  Calls Tryz.prog 152 #[.slice a l.length c,.slice b m.length d] w fun e w'=>e=.returned (.bool (zb9 l m))/\Below w.heap.size w w':=by
 have hl:=h.len;have hm:=g.len
 by_cases h0:l.length=0
 ·obtain rfl:l=[]:=Zy h0
  refine(Tryz.slices_Equal_int_empty a b c m.length d w hm).mono ?_
  rintro e w' ⟨rfl,rfl⟩
  refine⟨zi ?_,Ze _ _⟩
  unfold zb9;cases m<;>simp
 ·by_cases hne:l.length=m.length
  ·rcases h.row with rfl|⟨b1,o1,rfl,_,_,hc1⟩
   ·simp at h0
   rcases g.row with rfl|⟨b2,o2,rfl,_,_,hc2⟩
   ·exact absurd hne h0
   refine(Tryz.slices_Equal_int b1 o1 l.length c b2 o2 m.length d l m w (Za _) (Za _) hl hm (fun j hj=>hc1 j _ (by rw[Zd,Zh hj];rfl)) (fun j hj=>hc2 j _ (by rw[Zd,Zh hj];rfl))).mono ?_
   rintro e w' ⟨rfl,q,rfl⟩
   refine⟨zi ?_,Below.drewN_refl _ _⟩
   rw[Zae,Zae];unfold zb9;rw[ZZ];simp
  ·refine(Tryz.slices_Equal_int_lens _ _ _ c _ d w hne).mono ?_
   rintro e w' ⟨rfl,rfl⟩;exact⟨zi (zjO hne).symm,Ze _ _⟩
theorem zrV(c:Nat)(h:zah w F a l)(h1:1<=l.length)(h4:l.length<=4):
  Calls Tryz.prog 85 #[.slice a l.length c] w fun e w'=>(∃a' c',e=.returned (.slice a' l.length c')/\zah w' (fun b=>w.heap.size<=b) a' l/\l.length<=c')/\Below w.heap.size w w':=by
 rcases h.row with rfl|⟨b1,o1,rfl,_,_,hc1⟩
 ·simp at h1
 refine(Tryz.slices_Clone_int b1 o1 l.length c l w (Za _) Ya (fun j hj=>hc1 j _ (by rw[Zd,Zh hj];rfl))).mono ?_
 rintro e w' ⟨v',rfl,hown,_,hb⟩
 refine⟨?_,hb⟩
 rw[Zae]at hown
 rcases hown.2 with⟨_,hn⟩|⟨g,cap,cur,rfl,hbl,hg,hnc,_⟩
 ·omega
 ·refine⟨_,cap,rfl,⟨h.wf,h.len,.inr ⟨g,0,rfl,hbl,(ZF.1 hg).1,fun j d hj=>?_⟩⟩,hnc⟩
  have:=hown.cells (g:=g) rfl j (.int .i64 d) (by rw[ZN,hj];rfl)
  simpa [Zaq]using this
