/-
  Contracts of the functions that the statement reaches: ModG, OpenU.
-/
import Derived.Test.YtfgmmghmmfmdgaaGreatK11
import Derived.Test.YtfgmmghmmfmdgaaGreatK9
import Derived.Test.YtfgmmghmmfmdgaaGreatK17
import Derived.Shelf.Abstract
set_option linter.all false
set_option maxRecDepth 100000
set_option maxHeartbeats 3200000
namespace Go.Proofs.YtfgmmghmmfmdgaaGreat
open Go.RowKit
open Go.Lib (hid)
structure LayLe (l:LayL):Prop where
 wts:∀ x ∈ l.weights,RatLe x 1048576
 bias:∀ x ∈ l.bias,RatLe x 1048576
theorem tab_call {w:World} {v:Value} {l:LayL} {M po pn:Nat} (ht:TabM w M po pn) (hv:LayV w v l) (i:Int) (hk:1<=l.kind/\l.kind<=7):
  ∃ fn caps,tabG po pn l.kind=some (.func (.func fn) #[] caps)/\(∀ args w,(callFunc fn args).run Tryz.prog w=.ok (.enter fn args) w)/\Calls Tryz.prog fn (#[v,.int .i64 i]++caps) w fun e w'=>e=.returned (.bool (condL l i))/\Below w.heap.size w w':=by
 have hc:l.kind=1 ∨ l.kind=2 ∨ (l.kind=3 ∨ l.kind=4) ∨ (l.kind=5 ∨ l.kind=6) ∨ l.kind=7:=by omega
 rcases hc with h | h | h | h | h
 ·refine ⟨116,_,by rw [h];rfl,Go.Proofs.enters_of Tryz.func116 (by kernel_rfl) rfl,?_⟩
  have:=mDense hv i ht.fo ht.fn;rw [cond1 l i h] at this;exact this
 ·refine ⟨118,_,by rw [h];rfl,Go.Proofs.enters_of Tryz.func118 (by kernel_rfl) rfl,?_⟩
  have:=mConv hv i ht.fo ht.fn;rw [cond2 l i h] at this;exact this
 ·refine ⟨113,#[.pointer (some ⟨pn,0,none⟩)],by rcases h with h | h <;> (rw [h];rfl),Go.Proofs.enters_of Tryz.func113 (by kernel_rfl) rfl,?_⟩
  have:=mPool hv i ht.fn;rw [cond3 l i h] at this;exact this
 ·refine ⟨115,#[.pointer (some ⟨pn,0,none⟩)],by rcases h with h | h <;> (rw [h];rfl),Go.Proofs.enters_of Tryz.func115 (by kernel_rfl) rfl,?_⟩
  have:=mBare hv i ht.fn;rw [cond5 l i h] at this;exact this
 ·refine ⟨119,_,by rw [h];rfl,Go.Proofs.enters_of Tryz.func119 (by kernel_rfl) rfl,?_⟩
  have:=mAdd hv i ht.fn;rw [cond7 l i h] at this;exact this
theorem tab_none (po pn:Nat) (x:Int) (h:¬ (1<=x/\x<=7)):tabG po pn x=none:=by
 unfold tabG putG;rw [if_neg (by omega),if_neg (by omega),if_neg (by omega),if_neg (by omega),if_neg (by omega),if_neg (by omega),if_neg (by omega)]
theorem condL_none (l:LayL) (i:Int) (h:¬ (1<=l.kind/\l.kind<=7)):condL l i=false:=by
 unfold condL;rw [if_neg (by omega),if_neg (by omega),if_neg (by omega),if_neg (by omega),if_neg (by omega)]
theorem mValid {w:World} {m:ModL} {a1 a2:Option Addr} (c1 c2:Nat) (h1:Ints w Any a1 m.input) (h2:LaysAt w a2 m.layers) (hr:∀ l ∈ m.layers,LayRange l) (hs:∀ l ∈ m.layers,LayLe l):
  Calls Tryz.prog 51 #[.agg #[.slice a1 m.input.length c1,.slice a2 m.layers.length c2]] w fun e w'=>e=.returned (.bool (validM m))/\Below w.heap.size w w':=by
 have q1:=h1.len;have q2:=h2.len;obtain ⟨H2,HRg,HSh⟩:=hd3 h2 hr hs;have hbA:=blA w (.cells #[.slice a1 m.input.length c1,.slice a2 m.layers.length c2] 25);have HV:=hid (tValid c1 (h1.below hbA));generalize hR:validM m=R;have HR:=hid hR;unfold validM at hR;clear h1 h2 hr hs
 cases e1:validL m.input with
 | false=>
  rw [e1] at HV hR;have HF:Hid (R=false):=hR.symm;clear hR e1
  go_enter Tryz.func51,Tryz.ntmps51
  go_wp2_with fail
  refine HV.out.mono ?_
  rintro e w' ⟨rfl,rfl⟩;go_wp2;go_ret;exact ⟨ret_bool HF.out.symm,hbA⟩
 | true=>
  rw [e1] at HV hR;clear e1
  by_cases e2:m.layers.length<=64
  ·rw [decide_eq_true e2] at hR;have HL:Hid (laysFrom (m.layers.drop 0) ((0:Nat):Int)=R):=hR;clear hR
   go_enter Tryz.func51,Tryz.ntmps51
   go_wp2_with fail
   refine HV.out.mono ?_
   rintro e w' ⟨rfl,rfl⟩;have x0:(w.alloc (.cells #[.slice a1 m.input.length c1,.slice a2 m.layers.length c2] 25)).cell? ⟨w.heap.size,0,none⟩=some (.slice a1 m.input.length c1):=by rw [World.cell?_alloc_at _ _ _ _ rfl];rfl
   have x1:(w.alloc (.cells #[.slice a1 m.input.length c1,.slice a2 m.layers.length c2] 25)).cell? ⟨w.heap.size,1,none⟩=some (.slice a2 m.layers.length c2):=by rw [World.cell?_alloc_at _ _ _ _ rfl];rfl
   have xlt:w.heap.size < (w.alloc (.cells #[.slice a1 m.input.length c1,.slice a2 m.layers.length c2] 25)).heap.size:=by simp
   have HB:=hid hbA;generalize w.alloc (.cells #[.slice a1 m.input.length c1,.slice a2 m.layers.length c2] 25)=W at *;clear hbA
   go_wp2_with fail
   refine (mConditions W).mono ?_
   rintro e w1 ⟨⟨M,po,pn,rfl,hT⟩,hb1⟩;have HT:=hid hT;have HW1:=htr HB hb1;have y1:=(hb1.cell (p:=⟨w.heap.size,1,none⟩) xlt).trans x1;clear hT hb1 x0 x1 xlt;go_wp2;clear y1
   go_loopw [26] (fun i wr=>∃ j:Nat,j<=m.layers.length/\i=.int .i64 (j:Int)/\Hid (laysFrom (m.layers.drop j) (j:Int)=R)/\Hid (Below w1.heap.size w1 wr)) (fun i _=>m.layers.length - (intOf i).toNat)
   case atStart=>exact ⟨0,Nat.zero_le _,rfl,HL.out,Below.refl _ _⟩
   case round=>
    obtain ⟨j,hj,rfl,HS,HW⟩:=hrel
    by_cases hlt:j < m.layers.length
    ·obtain ⟨bl,ol,l,rfl,hbl,hl,b1,b2,d1,d2,⟨l0,l1,l2,l3,l4,l5,l6,l7,l8⟩,r1,r2⟩:=(H2.out.below (HW1.out.trans (HW.out.mono HW1.out.size))).pick hlt;have hmem:=List.mem_of_getElem? hl;have hrg:=(HRg.out l hmem).1.1;have HLe:=hid (HSh.out l hmem);have hdrop:m.layers.drop j=l::m.layers.drop (j+1):=by
      rw [List.drop_eq_getElem_cons hlt]
      congr 1
      rw [List.getElem?_eq_getElem hlt] at hl;exact Option.some.inj hl
     have HStep:Hid ((layOK l (j:Int) && laysFrom (m.layers.drop (j+1)) ((j+1:Nat):Int))=R):=by
      have:=HS.out;rw [hdrop] at this;exact this
     have hbV:=blA wr (layO l b1 d1 b2 d2 44);have hx:=Box9.alloc wr (.int .i64 l.kind) (.int .i64 l.frm) (.int .i64 l.out) (.int .i64 l.kh) (.int .i64 l.kw) (.int .i64 l.stride) (.int .i64 l.pad) (.slice b1 l.weights.length d1) (.slice b2 l.bias.length d2) 44;have hTV:=(HT.out.below HW.out).below hbV;obtain ⟨R1,R2⟩:=hd2 (r1.below hbV) (r2.below hbV);have hLV:LayV (wr.alloc (layO l b1 d1 b2 d2 44)) _ l:=⟨b1,b2,d1,d2,rfl,r1.below hbV,r2.below hbV⟩
     have LK:=hTV.fm.look hrg;have p1:=r1.len;have p2:=r2.len;have HWV:=htr HW hbV;clear hdrop hl hmem r1 r2 HS
     by_cases hk:1<=l.kind/\l.kind<=7
     ·obtain ⟨fn,caps,hfn,hent,hcall⟩:=tab_call hTV hLV (j:Int) hk;rw [hfn] at LK;obtain ⟨HC,HX⟩:=hd2 hcall hx;clear hTV hLV hfn hcall hbV hk hrg
      go_upto_region 7 with fail
      generalize wr.alloc (layO l b1 d1 b2 d2 44)=V at *;clear hx l0 l1 l2 l3 l4 l5 l6 l7 l8;obtain ⟨x0,x1,x2,x3,x4,x5,x6,x7,x8,xlt⟩:=HX.out;simp only [Option.getD_some,Option.isSome_some] at LK
      go_wp2_with fail
      refine HC.out.mono ?_
      rintro e w2 ⟨rfl,hb2⟩;have HW2:=htr HWV hb2;have hX2:=HX.out.below hb2;obtain ⟨S1,S2⟩:=hd2 (R1.out.below hb2) (R2.out.below hb2);clear x0 x1 x2 x3 x4 x5 x6 x7 x8 xlt hb2 LK HC HX R1 R2 hent
      cases hc:condL l (j:Int) with
      | false=>
       have HF:Hid (R=false):=by unfold Hid;rw [<- HStep.out];unfold layOK;rw [hc];rfl
       clear hc hX2;go_wp2;go_ret;exact ⟨ret_bool HF.out.symm,HW1.out.trans (HW2.out.mono HW1.out.size)⟩
      | true=>
       have HS2:Hid ((numsB l && laysFrom (m.layers.drop (j+1)) ((j+1:Nat):Int))=R):=by have:=HStep.out;unfold layOK at this;rw [hc] at this;exact this
       clear hc HStep;obtain ⟨x0,x1,x2,x3,x4,x5,x6,x7,x8,xlt⟩:=hX2;have hb3:=blA w2 (.cells #[.slice b1 l.weights.length d1,.slice b2 l.bias.length d2] 35);have hP:∀ k,k < 2->∃ (L:List RatL) (a:Option Addr) (d:Nat),(w2.alloc (.cells #[.slice b1 l.weights.length d1,.slice b2 l.bias.length d2] 35)).cell? ⟨w2.heap.size,k,none⟩=some (.slice a L.length d)/\RatsAt (w2.alloc (.cells #[.slice b1 l.weights.length d1,.slice b2 l.bias.length d2] 35)) a L/\(∀ x ∈ L,RatLe x 1048576)/\[l.weights,l.bias][k]? =some L:=by
        intro k hk
        match k,hk with
        | 0,_=>exact ⟨l.weights,b1,d1,by rw [World.cell?_alloc_at _ _ _ _ rfl];rfl,S1.out.below hb3,HLe.out.wts,rfl⟩
        | 1,_=>exact ⟨l.bias,b2,d2,by rw [World.cell?_alloc_at _ _ _ _ rfl];rfl,S2.out.below hb3,HLe.out.bias,rfl⟩
       have HP:=hid hP;have HW3:=htr HW2 hb3;have hblt:w2.heap.size < (w2.alloc (.cells #[.slice b1 l.weights.length d1,.slice b2 l.bias.length d2] 35)).heap.size:=by simp
       have HBlt:=hid hblt;clear hP hb3 hblt
       go_upto_region 11 with fail
       generalize w2.alloc (.cells #[.slice b1 l.weights.length d1,.slice b2 l.bias.length d2] 35)=w3 at *;clear x0 x1 x2 x3 x4 x5 x6 x7 x8 xlt S1 S2 HW2 p1 p2
       go_loopw [53] (fun i wr2=>∃ k:Nat,k<=2/\i=.int .i64 (k:Int)/\Hid (∀ (k':Nat) (L:List RatL),k' < k->[l.weights,l.bias][k']? =some L->L.all validR=true)/\Hid (Below w3.heap.size w3 wr2)) (fun i _=>2 - (intOf i).toNat)
       case atStart=>exact ⟨0,by omega,rfl,fun k' L h=>absurd h (by omega),Below.refl _ _⟩
       case round=>
        obtain ⟨k,hk,rfl,HQ,HY⟩:=hrel
        by_cases hk2:k < 2
        ·obtain ⟨L,aL,dL,hcell,hL,hLe,hget⟩:=HP.out k hk2;have cK:=(HY.out.cell (p:=⟨w2.heap.size,k,none⟩) HBlt.out).trans hcell;obtain ⟨HL2,HLe2,HG⟩:=hd3 hL hLe hget;have pL:=hL.len;have hk3:decide ((k:Int) < 2)=true:=decide_eq_true (by omega);clear hcell hL hLe hget;go_wp2;clear cK
         go_loopw [59] (fun i wr3=>∃ n:Nat,n<=L.length/\i=.int .i64 (n:Int)/\Hid ((L.take n).all validR=true)/\Hid (Below w3.heap.size w3 wr3)) (fun i _=>L.length - (intOf i).toNat)
         case atStart=>exact ⟨0,Nat.zero_le _,rfl,rfl,HY.out⟩
         case round=>
          obtain ⟨n,hn,rfl,HA,HZ⟩:=hrel
          by_cases hnl:n < L.length
          ·obtain ⟨bx,ox,x,an,ad,cn,cd,rfl,hbx,hxx,o0,o1,o2,hxv⟩:=(HL2.out.below HZ.out).pick hnl;have hMx:=List.mem_of_getElem? hxx;have hTk:=hid (allV_take hxx);have hle:=HLe2.out x hMx;have HM:=hid hMx;have hb4:=blA wr (ratO x an cn ad cd 51);have HC:=hid (rValid (hxv.below hb4) (by have:=hle.num;omega) (by have:=hle.den;omega));have HZ4:=htr HZ hb4;clear hxx hMx hle hxv hb4
           go_wp2_with fail
           refine HC.out.mono ?_
           rintro e w5 ⟨rfl,hb5⟩;have HZ5:=htr HZ4 hb5;clear hb5 HC HZ4 o0 o1 o2
           cases hq:validR x with
           | false=>
            have HF:Hid (R=false):=by
             unfold Hid;have hLf:=allV_false HM.out hq;rw [<- HS2.out];unfold numsB;have hg:=HG.out
             match k,hk2,hg with
             | 0,_,hg=>simp at hg;rw [hg,hLf];rfl
             | 1,_,hg=>simp at hg;rw [hg,hLf,Bool.and_false];rfl
            clear hq;go_wp2;go_ret;exact ⟨ret_bool HF.out.symm,HW1.out.trans ((HW3.out.trans (HZ5.out.mono HW3.out.size)).mono HW1.out.size)⟩
           | true=>
            have HT2:Hid ((L.take (n+1)).all validR=true):=by unfold Hid;rw [hTk.out,HA.out,hq];rfl
            clear hq;go_wp2;go_roundw
            case rel=>exact ⟨n+1,hnl,by go_num,HT2.out,HZ5.out⟩
            case measure=>simp [intOf];omega
          ·have HAl:Hid (L.all validR=true):=by
            have h:=HA.out;rw [List.take_of_length_le (by omega)] at h;exact h
           go_wp2;go_roundw
           case rel=>
            refine ⟨k+1,by omega,by go_num,?_,HZ.out⟩
            intro k' L' hk' hg
            by_cases e:k'=k
            ·subst e;rw [HG.out] at hg;cases hg;exact HAl.out
            ·exact HQ.out k' L' (by omega) hg
           case measure=>simp [intOf];omega
        ·have HN:Hid (numsB l=true):=by
          unfold Hid numsB;rw [HQ.out 0 l.weights (by omega) rfl,HQ.out 1 l.bias (by omega) rfl];rfl
         go_wp2;go_roundw
         case rel=>exact ⟨j+1,hlt,by go_num,by have:=HS2.out;rw [HN.out] at this;exact this,HW3.out.trans (HY.out.mono HW3.out.size)⟩
         case measure=>simp [intOf];omega
     ·have e0:=tab_none po pn l.kind hk;rw [e0] at LK;simp only [Option.getD_none,Option.isSome_none] at LK;have HF:Hid (R=false):=by unfold Hid;rw [<- HStep.out];unfold layOK;rw [condL_none l _ hk];rfl
      clear hTV hLV hbV hk hrg e0 hx;go_wp2;go_ret;exact ⟨ret_bool HF.out.symm,HW1.out.trans (HWV.out.mono HW1.out.size)⟩
    ·obtain rfl:j=m.layers.length:=by omega
     have HE:Hid (R=true):=by have:=HS.out;rw [List.drop_length] at this;exact this.symm
     go_wp2;go_ret;exact ⟨ret_bool HE.out.symm,HW1.out.trans (HW.out.mono HW1.out.size)⟩
  ·rw [decide_eq_false e2] at hR;have HF:Hid (R=false):=by unfold Hid;rw [<- hR];rfl
   clear hR
   go_enter Tryz.func51,Tryz.ntmps51
   go_wp2_with fail
   refine HV.out.mono ?_
   rintro e w' ⟨rfl,rfl⟩;go_wp2;go_ret;exact ⟨ret_bool HF.out.symm,hbA⟩
end Go.Proofs.YtfgmmghmmfmdgaaGreat
namespace Go.Proofs.YtfgmmghmmfmdgaaGreat
open Go.RowKit Go.ChangeShapes Go.WideShapes Go.ChangeAt Go.Deep
open Go.Lib (hid)
section
variable {H:Type}
theorem bulk_one (d:DataW H):1<=Rows.uptoBulk d:=by
 cases d with
 | lit l=>cases l <;> simp [Rows.uptoBulk]
 | nil=>simp [Rows.uptoBulk]
 | ptr d=>simp [Rows.uptoBulk]
 | slice elems spare=>simp [Rows.uptoBulk]
 | agg parts=>simp [Rows.uptoBulk]
 | iface t d=>simp [Rows.uptoBulk]
 | map entries=>simp [Rows.uptoBulk]
 | held h=>simp [Rows.uptoBulk]
theorem bulk_part {d:DataW H} {l:List (DataW H)} (h:d ∈ l):Rows.uptoBulk d<=Rows.uptoBulkAll l:=by
 induction l with
 | nil=>cases h
 | cons x r ih=>
  simp only [Rows.uptoBulkAll]
  cases List.mem_cons.1 h with
  | inl e=>subst e;omega
  | inr e=>have:=ih e;omega
theorem bulk_length (l:List (DataW H)):l.length<=Rows.uptoBulkAll l:=by
 induction l with
 | nil=>simp [Rows.uptoBulkAll]
 | cons x r ih=>have:=bulk_one x;simp only [Rows.uptoBulkAll,List.length_cons];omega
theorem bulk_slice (elems spare:List (DataW H)):Rows.uptoBulkAll elems+1<=Rows.uptoBulk (.slice elems spare):=by
 simp only [Rows.uptoBulk];omega
theorem bulk_agg (l:List (DataW H)):Rows.uptoBulkAll l<=Rows.uptoBulk (.agg l):=by
 simp only [Rows.uptoBulk];omega
end
section
variable {H:Type} {enc:TypeId × Value->H} {w:World} {base:Nat} {spare:Nat->Bool} {held:Bool}
theorem slice_bulk {P:Program} {t e:TypeId} {fuel:Nat} {a:Option Addr} {n k:Nat} {x:DataW H × List MemPlace} (ht:P.underlying t=some (.slice e)) (h:DataW.trod enc P w base spare held fuel t [.slice a n k]=some x):n<=Rows.uptoBulk x.1:=by
 rcases open_slice ht h with ⟨hc,_⟩ | ⟨a',len,cap,m,n',D,Pl,hcs,hb,hl,hm,hmm,hx,hi⟩
 ·simp at hc;omega
 ·simp at hcs;obtain ⟨_,rfl,_⟩:=hcs;rw [hx];have h1:=bulk_slice ((List.range n).map D) ((List.range (m - n)).map fun j=>D (n+j));have h2:=bulk_length ((List.range n).map D);simp at h2;simp only;omega
theorem slice_parts {P:Program} {t e:TypeId} {fs:Array Field} {fuel:Nat} {b off len cap:Nat} {x:DataW H × List MemPlace} (ht:P.underlying t=some (.slice e)) (he:P.underlying e=some (.struct fs))
  (hone:oneCellFields P fs=true) (hC:P.cellsOf e=fs.size) (h:DataW.trod enc P w base spare held fuel t [.slice (some ⟨b,off,none⟩) len cap]=some x) {i:Nat} (hi:i < len):
  ∃ (ys:List (DataW H × List MemPlace)) (n:Nat),(∀ y ∈ ys,Rows.uptoBulk y.1<=Rows.uptoBulk x.1)/\∀ (j:Nat) (f:Field),fs[j]? =some f->∃ c y,w.cell? ⟨b,off+i * fs.size+j,none⟩=some c/\ys[j]? =some y/\DataW.trod enc P w base spare held n f.type [c]=some y:=by
 rcases open_slice ht h with ⟨hc,_⟩ | ⟨a',len',cap',m,n',D,Pl,hcs,hb,hl,hm,hmm,hx,hel⟩
 ·simp at hc
 ·simp at hcs;obtain ⟨rfl,rfl,_⟩:=hcs;have hml:len<=m:=by rw [hmm];split <;> omega
  obtain ⟨cs',hc,ht'⟩:=hel i (by omega);rw [hC] at hc;obtain ⟨_,hcl,hat⟩:=World.cells?_some hc;obtain ⟨ys,n,h1,h2,h3,h4⟩:=open_fields he hone hC ht'
  refine ⟨ys,n,fun y hy=>?_,fun j f hj=>?_⟩
  ·have e1:Rows.uptoBulk y.1<=Rows.uptoBulk (D i):=by
    rw [show D i=.agg (ys.map (·.1)) from h3];exact Nat.le_trans (bulk_part (List.mem_map_of_mem hy)) (bulk_agg _)
   have e2:Rows.uptoBulk (D i)<=Rows.uptoBulk x.1:=by
    rw [hx];exact Nat.le_trans (bulk_part (List.mem_map_of_mem (List.mem_range.2 hi))) (Nat.le_trans (Nat.le_succ _) (bulk_slice _ _))
   omega
  ·obtain ⟨c,y,q1,q2,q3⟩:=h4 j f hj;have hjl:j < fs.size:=(Array.getElem?_eq_some_iff.1 hj).1;have:=hat j hjl;rw [q1] at this;exact ⟨c,y,by simpa [Addr.add_lit] using this,q2,q3⟩
theorem rats_le {fuel:Nat} {a:Option Addr} {L:List RatL} {k:Nat} {x:DataW H × List MemPlace} (h:DataW.trod enc Tryz.prog w base spare held fuel 35 [.slice a L.length k]=some x) (hr:RatsAt w a L):
  ∀ r ∈ L,RatLe r (Rows.uptoBulk x.1):=by
 intro r hrm;obtain ⟨i,hi⟩:=List.getElem?_of_mem hrm;have hlt:=(List.getElem?_eq_some_iff.1 hi).1;obtain ⟨f0,f1,f2,hs,hone,t0,t1,t2⟩:=Tryz.rat_parts
 rcases hr.row with rfl | ⟨b,off,rfl,hb,hc⟩
 ·simp at hrm
 obtain ⟨an,ad,cn,cd,h0,h1,h2,h3⟩:=hc i r hi;obtain ⟨ys,n,hys,hf⟩:=slice_parts Tryz.underlying35 hs hone (by kernel_rfl) h hlt;obtain ⟨c1,y1,e1,g1,k1⟩:=hf 1 f1 rfl;obtain ⟨c2,y2,e2,g2,k2⟩:=hf 2 f2 rfl;rw [show (#[f0,f1,f2]:Array Field).size=3 from rfl] at e1 e2;rw [h1,Option.some.injEq] at e1;rw [h2,Option.some.injEq] at e2;subst e1 e2;rw [t1] at k1;rw [t2] at k2;have u1:=slice_bulk Tryz.underlying49 k1;have u2:=slice_bulk Tryz.underlying49 k2;have v1:=hys y1 (List.mem_of_getElem? g1);have v2:=hys y2 (List.mem_of_getElem? g2);exact ⟨by omega,by omega⟩
theorem RatLe.le {x:RatL} {k n:Nat} (h:RatLe x k) (hk:k<=n):RatLe x n:=⟨Nat.le_trans h.num hk,Nat.le_trans h.den hk⟩
theorem lays_le {fuel:Nat} {a:Option Addr} {L:List LayL} {k B:Nat} {x:DataW H × List MemPlace} (h:DataW.trod enc Tryz.prog w base spare held fuel 23 [.slice a L.length k]=some x) (hr:LaysAt w a L) (hB:Rows.uptoBulk x.1<=B):
  ∀ l ∈ L,(∀ r ∈ l.weights,RatLe r B)/\∀ r ∈ l.bias,RatLe r B:=by
 intro l hlm;obtain ⟨i,hi⟩:=List.getElem?_of_mem hlm;have hlt:=(List.getElem?_eq_some_iff.1 hi).1;obtain ⟨f0,f1,f2,f3,f4,f5,f6,f7,f8,hs,hone,t0,t1,t2,t3,t4,t5,t6,t7,t8⟩:=Tryz.layL_parts
 rcases hr.row with rfl | ⟨b,off,rfl,hb,hc⟩
 ·simp at hlm
 obtain ⟨a1,a2,c1,c2,⟨l0,l1,l2,l3,l4,l5,l6,l7,l8⟩,r1,r2⟩:=hc i l hi;obtain ⟨ys,n,hys,hf⟩:=slice_parts Tryz.underlying23 hs hone (by kernel_rfl) h hlt;obtain ⟨d1,y1,e1,g1,k1⟩:=hf 7 f7 rfl;obtain ⟨d2,y2,e2,g2,k2⟩:=hf 8 f8 rfl;rw [show (#[f0,f1,f2,f3,f4,f5,f6,f7,f8]:Array Field).size=9 from rfl] at e1 e2;rw [l7,Option.some.injEq] at e1;rw [l8,Option.some.injEq] at e2;subst e1 e2;rw [t7] at k1;rw [t8] at k2;have v1:=hys y1 (List.mem_of_getElem? g1);have v2:=hys y2 (List.mem_of_getElem? g2);exact ⟨fun r hr=>(rats_le k1 r1 r hr).le (by omega),fun r hr=>(rats_le k2 r2 r hr).le (by omega)⟩
end
end Go.Proofs.YtfgmmghmmfmdgaaGreat
