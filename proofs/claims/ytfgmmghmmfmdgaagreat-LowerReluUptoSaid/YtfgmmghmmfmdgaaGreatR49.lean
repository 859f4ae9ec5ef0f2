/-
  Contracts of the functions that the statement reaches: RhC.
-/
import Derived.Test.YtfgmmghmmfmdgaaGreatR48
set_option linter.all false
set_option maxRecDepth 100000
set_option maxHeartbeats 3200000
namespace Go.Proofs.YtfgmmghmmfmdgaaGreat
open Go.RowKit
open Go.Lib (hid)
def SP.lyr (L:List LayL):SP:=⟨fun v w=>∃ a c,v=.slice a (L.length+1) c/\LaysAt w a (L++[reluL]),fun _ _ _ ⟨a,c,h,k⟩ hb=>⟨a,c,h,k.below hb⟩⟩
def SP.mdl (i:Value) (L:List LayL):SP:=⟨fun v w=>∃ a c,v=.agg #[i,.slice a (L.length+1) c]/\LaysAt w a (L++[reluL]),fun _ _ _ ⟨a,c,h,k⟩ hb=>⟨a,c,h,k.below hb⟩⟩
def SP.any:SP:=⟨fun _ _=>True,fun _ _ _ _ _=>trivial⟩
def relM (w W4:World) (m:ModL) (CL:List (List Value)):Nat->Option OM:=fun k=>if k=2 then some ⟨OS.blk (.cells #[] 44 (0,0)) (mkS 0) (mkS_b 0),5⟩ else if k=5 then some ⟨OS.row W4.heap.size 44 9 (0+m.layers.length) ([]++CL.flatten),8⟩ else if k=7 then some ⟨OS.blk (.cells #[.int .i64 5,.int .i64 0,.int .i64 0,.int .i64 0,.int .i64 0,.int .i64 0,.int .i64 0,.slice none 0 0,.slice none 0 0] 44 (0,0)) (mkS 1) (mkS_b 1),8⟩ else if k=14 then some ⟨OS.blk (.cells #[.int .i64 0,.slice none 0 0,.slice none 0 0] 30 (0,0)) mkP mkP_b,15⟩ else none
theorem blk_box {w:World} {b T:Nat} {p q r:Value} (h:w.heap[b]? =some (.cells #[p,q,r] T (0,0))):Box3 w b p q r:=by
 have hc:∀ o,w.cell? ⟨b,o,none⟩=#[p,q,r][o]? :=fun o=>by simp [World.cell?,h]
 refine ⟨(hc 0).trans rfl,(hc 1).trans rfl,(hc 2).trans rfl,fun o=>by simp [World.frozen?,h],(Array.getElem?_eq_some_iff.1 h).1⟩
theorem blk_zf {w:World} {b T:Nat} (h:w.heap[b]? =some (.cells #[.int .i64 0,.slice none 0 0,.slice none 0 0] T (0,0))):AllB isZF w b:=by
 intro o x hx;simp [World.cell?,h] at hx
 rcases o with _ | _ | _ | o <;> simp at hx <;> subst hx <;> rfl
theorem os_row {B T size n:Nat} {xs:List Value} {w w':World} {v v':Value} (hown:w'.ownsRow B T size v' n xs) (hn:Next w v v') (hv:v.ownBlock=some (blkOf v)):(OS.row B T size n xs).p v' w'/\(blkOf v'=blkOf v ∨ w.heap.size<=blkOf v'):=by
 have hb:v'.ownBlock=some (blkOf v')/\blkOf v' < w'.heap.size:=by
  rcases hown.2 with ⟨rfl,_⟩ | ⟨g,cap,cur,rfl,k1,k2,k3⟩
  ·exfalso
   have e0:(Value.slice none 0 0).ownBlock=none:=rfl
   rcases hn with e | ⟨g,e,_⟩
   ·rw [e0,hv] at e;cases e
   ·rw [e0] at e;cases e
  ·exact ⟨rfl,(Array.getElem?_eq_some_iff.1 k2).1⟩
 refine ⟨⟨hown,hb⟩,?_⟩
 rcases hn with e | ⟨g,e,h⟩
 ·rw [hb.1,hv] at e;exact .inl (Option.some.inj e)
 ·rw [hb.1] at e;exact .inr (by rw [Option.some.inj e];exact h)
def relV (w:World) (m:ModL) (a1 a2:Option Addr) (c1 c2:Nat):List (Option Value):=[some (.pointer (some ⟨w.heap.size,0,none⟩)),some (.slice a1 m.input.length c1),none,some (.pointer (some ⟨w.heap.size,1,none⟩)),some (.slice a2 m.layers.length c2),none,some (.agg #[.int .i64 5,.int .i64 0,.int .i64 0,.int .i64 0,.int .i64 0,.int .i64 0,.int .i64 0,.slice none 0 0,.slice none 0 0]),none,none,none,none,none,none,none,none]
def relL (m:ModL) (a1:Option Addr) (c1:Nat) (G2:GraphQ) (e2:Int):List SP:=[SP.any,SP.any,SP.any,SP.any,SP.any,SP.any,SP.any,SP.any,SP.lyr m.layers,SP.mdl (.slice a1 m.input.length c1) m.layers,SP.tup G2 e2,SP.tup G2 e2,SP.grv G2,SP.val (.int .i64 e2),SP.any]
def relT:Nat->Bool:=fun k=>decide (9<=k/\k<=13)
theorem law16Relu {w:World} {m:ModL} {a1 a2:Option Addr} (c1 c2:Nat) (h1:Ints w Any a1 m.input) (h2:LaysAt w a2 m.layers) (hc2:m.layers.length<=c2) (hr:∀ l ∈ m.layers,LayRange l) (hs:∀ l ∈ m.layers,LayLe l):
  Calls Tryz.prog 5 #[.agg #[.slice a1 m.input.length c1,.slice a2 m.layers.length c2]] w fun e w'=>e=.returned (.bool true)/\Below w.heap.size w w':=by
 have q1:=h1.len;have q2:=h2.len;obtain ⟨H1,H2,HRg,HSh⟩:=hd4 h1 h2 hr hs;have hbA:=blA w (.cells #[.slice a1 m.input.length c1,.slice a2 m.layers.length c2] 25);have hx:=Box2.alloc w (.slice a1 m.input.length c1) (.slice a2 m.layers.length c2) 25;clear h1 h2 hr hs
 go_enter Tryz.func5,Tryz.ntmps5
 go_upto_region 1 with fail
 generalize w.alloc (.cells #[.slice a1 m.input.length c1,.slice a2 m.layers.length c2] 25)=W at *;obtain ⟨HB,HX⟩:=hd2 hbA hx;clear hbA hx
 go_wp2_with fail
 refine (awake16 W).mono ?_
 rintro e w1 ⟨rfl,hb1⟩;have HB1:=htr HB hb1;have HX1:=hid (HX.out.below hb1);obtain ⟨x0,x1,xf,xlt⟩:=HX1.out;have HF:=hid (kFair16 c1 c2 (H1.out.below HB1.out) (H2.out.below HB1.out) HSh.out);clear hb1 HX
 cases hf:fairE m [] with
 | false=>
  rw [hf] at HF;clear hf
  go_wp2_with fail
  refine HF.out.mono ?_
  rintro e w2 ⟨rfl,hb2⟩;have HB2:=htr HB1 hb2;clear hb2 x0 x1 xf xlt
  go_wp2_with fail
  refine (awake16 w2).mono ?_
  rintro e w3 ⟨rfl,hb3⟩;have HB3:=htr HB2 hb3;clear hb3;go_wp2;go_ret;exact ⟨rfl,HB3.out⟩
 | true=>
 rw [hf] at HF;have HP:=hid (fair_paid hf);clear hf
 go_wp2_with fail
 refine HF.out.mono ?_
 rintro e w2 ⟨rfl,hb2⟩;have HB2:=htr HB1 hb2;have HX2:=hid (HX1.out.below hb2);clear hb2 x0 x1 xf xlt HF;obtain ⟨x0,x1,xf,xlt⟩:=HX2.out;have hl8:=HP.out.lens;obtain ⟨G1,e1,hE1⟩:∃ G1 e1,lowerL m=(G1,e1):=⟨_,_,rfl⟩
 obtain ⟨G2,e2,hE2⟩:∃ G2 e2,lowerL ⟨m.input,m.layers++[reluL]⟩=(G2,e2):=⟨_,_,rfl⟩
 obtain ⟨HE1,HE2,HL⟩:=hd3 hE1 hE2 (lowN c1 c2 (H1.out.below HB2.out) (H2.out.below HB2.out) HRg.out HSh.out HP.out.sm (by omega) hE1 _ _ rfl rfl);clear hE1 hE2
 go_wp2_with fail
 refine HL.out.mono ?_
 rintro e w3 ⟨v,rfl,⟨u,rfl,hg⟩,hb⟩;obtain ⟨aU1,cU1,aO1,cO1,rfl,hu1,ho1,hU1,hO1⟩:=hg.ex;have hal:=blA w3 (.cells #[.int .i64 (G1.inputs:Int),.slice aU1 G1.units.length cU1,.slice aO1 G1.outs.length cO1] 30);have hgb:=GBx.alloc hu1 ho1 hU1 hO1 30;have HB3:=htr HB2 hb;have HB4:=htr HB3 hal;have HX4:=hid ((HX2.out.below hb).below hal);clear hb hg hU1 hO1 hal x0 x1 xf xlt HL;obtain ⟨x0,x1,xf,xlt⟩:=HX4.out;obtain ⟨W4,hW4⟩:∃ W4,W4=w3.alloc (.cells #[.int .i64 (G1.inputs:Int),.slice aU1 G1.units.length cU1,.slice aO1 G1.outs.length cO1] 30):=⟨_,rfl⟩
 obtain ⟨b1,hb1⟩:∃ b1,b1=w3.heap.size:=⟨_,rfl⟩
 rw [<- hW4] at hgb HB4 HX4 x0 x1 xf xlt;rw [<- hb1] at hgb;obtain ⟨HW4,Hb1,HG1a⟩:=hd3 hW4 hb1 hgb;have HCe:Hid (∀ X,Below W4.heap.size W4 X->X.cell? ⟨w.heap.size,0,none⟩=some (.slice a1 m.input.length c1)/\X.cell? ⟨w.heap.size,1,none⟩=some (.slice a2 m.layers.length c2)/\w.heap.size < X.heap.size):=fun X hB=>
  have k:=HX4.out.below hB
  ⟨k.c0,k.c1,k.lt⟩
 have HLo:Hid (∀ X,Below W4.heap.size W4 X->∀ a c,LaysAt X a (m.layers++[reluL])->Calls Tryz.prog 12 #[.agg #[.slice a1 m.input.length c1,.slice a (m.layers.length+1) c]] X (fun e w'=>∃ v,e=.returned v/\TupV w' v G2 e2/\Below X.heap.size X w')):=fun X hB a c hla=>by
  have hbx:=HB4.out.trans (hB.mono HB4.out.size);have hm:∀ l ∈ m.layers++[reluL],l ∈ m.layers ∨ l=reluL:=fun l hl=>by
   rcases List.mem_append.1 hl with h | h
   ·exact .inl h
   ·exact .inr (List.mem_singleton.1 h)
  refine lowN (m:=⟨m.input,m.layers++[reluL]⟩) c1 c (H1.out.below hbx) hla (fun l hl=>?_) (fun l hl=>?_) (fun l hl=>?_) ?_ HE2.out _ _ rfl (by simp)
  ·rcases hm l hl with h | rfl
   ·exact HRg.out l h
   ·unfold LayRange I64;simp [reluL]
  ·rcases hm l hl with h | rfl
   ·exact HSh.out l h
   ·exact ⟨by simp [reluL],by simp [reluL]⟩
  ·rcases hm l hl with h | rfl
   ·exact HP.out.sm l h
   ·exact ⟨by simp [reluL,wq,bq],by simp [reluL,wq,bq]⟩
  ·show (m.layers++[reluL]).length<=12
   rw [List.length_append];show m.layers.length+1<=12
   omega
 obtain ⟨CL,hRow,hSrc⟩:=(H2.out.below HB4.out).src;obtain ⟨HSrc,HRow⟩:=hd2 hSrc hRow;clear hgb hW4 hb1 hRow hSrc
 go_upto_region 4 with fail
 rw [<- Hb1.out];rw [<- HW4.out];clear x0 x1 xf xlt
 refine wp_region_slots_gen 16 (by kernel_rfl) (by kernel_rfl) (by kernel_rfl) (by kernel_rfl) (by decide) (St2J W4 (OwJ W4 (relM w W4 m CL) (relV w m a1 a2 c1 c2) 8 relT (relL m a1 c1 G2 e2)) 15 14 11 13 G2 e2) (fun g=>St2J.start g (OwJ.start g)) ?_ ?_
 ·intro ops;simp only [List.take_succ_cons,List.take_zero,ShowsJ]
  refine ⟨?v0,?_,?_,?v3,?_,?_,?v6,?_,?_,?_,?_,?_,?_,?_,?_,?_,trivial⟩
  all_goals (intro d y' X hJ hd hW;simp only [Waits,Region.binds,forall_const,Bool.false_eq_true,false_implies,and_true,true_and] at hW)
  case v0|v3|v6=>
   have hI:=hJ.get hd (by decide) (by decide);obtain ⟨x0,x1,xlt⟩:=HCe.out X hJ.be;obtain ⟨HI,HJ,HD⟩:=hd3 hI hJ hd;simp [fillFrom,Act.put];clear hJ hI hd hW;go_wp2
   first | refine ⟨_,rfl,?_⟩ | refine ⟨rfl,_,?_⟩ | skip
   exact HJ.out.step HD.out (by decide) (by decide) (HI.out.here rfl (by decide) rfl (fun x hx=>Option.some.inj (Option.some.inj hx))) (HJ.out.be)
  ·have h0:d 0=true:=by simp only [hW]
   have hI:=hJ.get hd (by decide) (by decide);have J0:=hI.val 0 h0 _ rfl;obtain ⟨x0,x1,xlt⟩:=HCe.out X hJ.be;obtain ⟨HI,HJ,HD⟩:=hd3 hI hJ hd;simp [fillFrom,Act.put];generalize y' 0=y0 at J0 ⊢;obtain rfl:=J0;clear hJ hI hd hW h0;go_wp2
   first | refine ⟨_,rfl,?_⟩ | refine ⟨rfl,_,?_⟩ | skip
   exact HJ.out.step HD.out (by decide) (by decide) (HI.out.here rfl (by decide) rfl (fun x hx=>Option.some.inj (Option.some.inj hx))) (HJ.out.be)
  ·have hI:=hJ.get hd (by decide) (by decide);obtain ⟨x0,x1,xlt⟩:=HCe.out X hJ.be;obtain ⟨HI,HJ,HD⟩:=hd3 hI hJ hd;simp [fillFrom,Act.put];clear hJ hI hd hW;have HBa:=hid ((Below.refl X.heap.size X).alloc (Nat.le_refl _) (.cells #[] 44));go_wp2
   first | refine ⟨_,rfl,?_⟩ | refine ⟨rfl,_,?_⟩ | skip
   exact HJ.out.step HD.out (by decide) (by decide) (HI.out.make (m:=⟨OS.blk (.cells #[] 44 (0,0)) (mkS 0) (mkS_b 0),5⟩) rfl (by decide) rfl (.inr rfl) HBa.out ⟨_,rfl,by show (X.heap.push _)[X.heap.size]? =_;rw [Array.getElem?_push,if_pos rfl]⟩ (Nat.le_refl _)) (HJ.out.be.trans (HBa.out.mono HJ.out.be.size))
  ·have h3:d 3=true:=by simp only [hW]
   have hI:=hJ.get hd (by decide) (by decide);have J3:=hI.val 3 h3 _ rfl;obtain ⟨x0,x1,xlt⟩:=HCe.out X hJ.be;obtain ⟨HI,HJ,HD⟩:=hd3 hI hJ hd;simp [fillFrom,Act.put];generalize y' 3=y3 at J3 ⊢;obtain rfl:=J3;clear hJ hI hd hW h3;go_wp2
   first | refine ⟨_,rfl,?_⟩ | refine ⟨rfl,_,?_⟩ | skip
   exact HJ.out.step HD.out (by decide) (by decide) (HI.out.here rfl (by decide) rfl (fun x hx=>Option.some.inj (Option.some.inj hx))) (HJ.out.be)
  ·have h2:d 2=true:=by simp only [hW]
   have h4:d 4=true:=by simp only [hW]
   have hI:=hJ.get hd (by decide) (by decide);have J4:=hI.val 4 h4 _ rfl;obtain ⟨x0,x1,xlt⟩:=HCe.out X hJ.be;obtain ⟨⟨b2,e2',hblk⟩,hb2⟩:=hI.of (k:=2) (m:=⟨OS.blk (.cells #[] 44 (0,0)) (mkS 0) (mkS_b 0),5⟩) rfl h2 hd;replace hb2:W4.heap.size<=b2:=by rw [e2'] at hb2;exact hb2
   obtain ⟨Hb2x,HOe⟩:=hd2 hb2 (own_empty (T:=44) (size:=9) hblk hb2);have hz8:d 8=false:=hI.notz (i:=5) (m:=⟨OS.row W4.heap.size 44 9 (0+m.layers.length) ([]++CL.flatten),8⟩) rfl rfl hd;obtain ⟨HI,HJ,HD⟩:=hd3 hI hJ hd;simp [fillFrom,Act.put];generalize y' 4=y4 at J4 ⊢;obtain rfl:=J4;generalize hg2:y' 2=y2 at e2' ⊢;subst e2';obtain ⟨H2d,HZ8,Hg2⟩:=hd3 h2 hz8 hg2;clear hJ hI hd hW h2 hz8 hg2 hblk hb2 h4
   go_wp2_with (at_builtin;go_loud (refine wpList_append_src rfl (.tmp 25) (.tmp 27) 23 23 rfl W4.heap.size 44 (.agg #[.int .i64 0,.int .i64 0,.int .i64 0,.int .i64 0,.int .i64 0,.int .i64 0,.int .i64 0,.slice none 0 0,.slice none 0 0]) 9 104 Tryz.underlying23 Tryz.underlying23 Tryz.infoLay rfl (by omega) (mkS 0 b2) 0 [] rfl HOe.out a2 m.layers.length c2 CL.flatten rfl (HSrc.out.below HJ.out.be) (by omega) (by unfold maxLen;omega) HJ.out.be.size ?_;intro v' w5 hown hg hnx;have HOs:=hid (os_row hown hnx rfl);have HG:=hid hg;obtain ⟨b5,c5,rfl⟩:=own_form9 hown;clear hown hg hnx))
   have HBe:=hid (HJ.out.be.grown HG.out HJ.out.be.size (fun k hk=>by cases hk;exact Hb2x.out))
   first | refine ⟨_,rfl,?_⟩ | refine ⟨rfl,_,?_⟩ | skip
   exact HJ.out.step HD.out (by decide) (by decide) (HI.out.app (r:=2) (mr:=⟨OS.blk (.cells #[] 44 (0,0)) (mkS 0) (mkS_b 0),5⟩) rfl (by decide) rfl H2d.out HD.out HZ8.out rfl (.inr rfl) (fun k hk hne=>HG.out.block k hk (fun e=>hne (by rw [Hg2.out];cases e;rfl))) HBe.out (fun m hm=>by cases hm;exact ⟨HOs.out.1,by rw [Hg2.out];exact HOs.out.2⟩) (fun e=>absurd e (by decide)) (fun e=>absurd e (by decide))) (HBe.out)
  ·have h6:d 6=true:=by simp only [hW]
   have hI:=hJ.get hd (by decide) (by decide);have J6:=hI.val 6 h6 _ rfl;obtain ⟨x0,x1,xlt⟩:=HCe.out X hJ.be;obtain ⟨HI,HJ,HD⟩:=hd3 hI hJ hd;simp [fillFrom,Act.put];generalize y' 6=y6 at J6 ⊢;obtain rfl:=J6;clear hJ hI hd hW h6;have HBa:=hid ((Below.refl X.heap.size X).alloc (Nat.le_refl _) (.cells #[.int .i64 5,.int .i64 0,.int .i64 0,.int .i64 0,.int .i64 0,.int .i64 0,.int .i64 0,.slice none 0 0,.slice none 0 0] 44));go_wp2
   first | refine ⟨_,rfl,?_⟩ | refine ⟨rfl,_,?_⟩ | skip
   exact HJ.out.step HD.out (by decide) (by decide) (HI.out.make (m:=⟨OS.blk (.cells #[.int .i64 5,.int .i64 0,.int .i64 0,.int .i64 0,.int .i64 0,.int .i64 0,.int .i64 0,.slice none 0 0,.slice none 0 0] 44 (0,0)) (mkS 1) (mkS_b 1),8⟩) rfl (by decide) rfl (.inr rfl) HBa.out ⟨_,rfl,by show (X.heap.push _)[X.heap.size]? =_;rw [Array.getElem?_push,if_pos rfl]⟩ (Nat.le_refl _)) (HJ.out.be.trans (HBa.out.mono HJ.out.be.size))
  ·have h5:d 5=true:=by simp only [hW]
   have h7:d 7=true:=by simp only [hW]
   have hI:=hJ.get hd (by decide) (by decide);obtain ⟨x0,x1,xlt⟩:=HCe.out X hJ.be;obtain ⟨⟨ho5,hob5,hl5⟩,hb5⟩:=hI.of (k:=5) (m:=⟨OS.row W4.heap.size 44 9 (0+m.layers.length) ([]++CL.flatten),8⟩) rfl h5 hd;obtain ⟨⟨b7,e7,hblk7⟩,hb7⟩:=hI.of (k:=7) (m:=⟨OS.blk (.cells #[.int .i64 5,.int .i64 0,.int .i64 0,.int .i64 0,.int .i64 0,.int .i64 0,.int .i64 0,.slice none 0 0,.slice none 0 0] 44 (0,0)) (mkS 1) (mkS_b 1),8⟩) rfl h7 hd;obtain ⟨HI,HJ,HD⟩:=hd3 hI hJ hd;simp [fillFrom,Act.put];generalize hg7:y' 7=y7 at e7 ⊢;subst e7;generalize hg5:y' 5=y5 at ho5 hob5 hl5 hb5 ⊢;obtain ⟨a5,c5,rfl⟩:=own_form9 ho5;obtain ⟨HO5,HOb5,HB5,HBk7,H5d⟩:=hd5 ho5 hob5 hb5 hblk7 h5;have HCz:Hid (∀ k m',relM w W4 m CL k=some m'->m'.q=8->d k=true):=by
    intro k m' hm hq;unfold relM at hm
    split at hm
    ·cases hm;exact absurd hq (by decide)
    ·split at hm
     ·rename_i e;rw [e];exact h5
     ·split at hm
      ·rename_i e;rw [e];exact h7
      ·split at hm
       ·cases hm;exact absurd hq (by decide)
       ·cases hm
   have Hg5:=hid hg5;clear hJ hI hd hW h5 h7 ho5 hob5 hl5 hb5 hblk7 hb7 hg7 hg5;have HSr:=hid (srcOK_heap (c:=layC reluL none none 0 0) HBk7.out rfl (layC_one _ _ _ _ _))
   go_wp2_with (at_builtin;go_loud (refine wpList_append_src rfl (.tmp 28) (.tmp 30) 23 23 rfl W4.heap.size 44 (.agg #[.int .i64 0,.int .i64 0,.int .i64 0,.int .i64 0,.int .i64 0,.int .i64 0,.int .i64 0,.slice none 0 0,.slice none 0 0]) 9 104 Tryz.underlying23 Tryz.underlying23 Tryz.infoLay rfl (by omega) (.slice a5 (0+m.layers.length) c5) (0+m.layers.length) ([]++CL.flatten) rfl HO5.out (some ⟨b7,0,none⟩) 1 1 (layC reluL none none 0 0) rfl HSr.out (by omega) (by unfold maxLen;omega) HJ.out.be.size ?_;intro v' w5 hown hg hnx;have HG:=hid hg;have hBe:=HJ.out.be.grown hg HJ.out.be.size (fun k hk=>by rw [HOb5.out] at hk;cases hk;exact HB5.out);have HBe:=hid hBe;obtain ⟨a8,c8,rfl,hL8⟩:=lays_app HRow.out (RatsAt.nil _ _) (RatsAt.nil _ _) hBe (by omega) hown;have HL8:=hid hL8;clear hown hg hnx hBe hL8))
   first | refine ⟨_,rfl,?_⟩ | refine ⟨rfl,_,?_⟩ | skip
   exact HJ.out.step HD.out (by decide) (by decide) (HI.out.app (r:=5) (mr:=⟨OS.row W4.heap.size 44 9 (0+m.layers.length) ([]++CL.flatten),8⟩) rfl (by decide) rfl H5d.out HD.out HD.out rfl (.inr rfl) (fun k hk hne=>HG.out.block k hk (fun e=>hne (by rw [Hg5.out];rw [HOb5.out] at e;exact Option.some.inj e))) HBe.out (fun m hm=>by cases hm) (fun _=>⟨_,_,rfl,HL8.out⟩) (fun _=>HCz.out)) (HBe.out)
  ·have h1:d 1=true:=by simp only [hW]
   have h8:d 8=true:=by simp only [hW]
   have hI:=hJ.get hd (by decide) (by decide);have J1:=hI.val 1 h1 _ rfl;have hz8:d 8=true:=h8;have J8:=hI.aft hz8 8 (by first | exact .inl rfl | exact .inr rfl) h8;simp only [GP,relL,SP.tup,SP.lyr,SP.mdl,List.getElem?_cons_zero,List.getElem?_cons_succ] at J8;obtain ⟨x0,x1,xlt⟩:=HCe.out X hJ.be;obtain ⟨HI,HJ,HD⟩:=hd3 hI hJ hd;simp [fillFrom,Act.put];generalize y' 1=y1 at J1 ⊢;obtain rfl:=J1;generalize y' 8=y8 at J8 ⊢;obtain ⟨K8,HZ⟩:=hd2 J8 hz8;obtain ⟨a8,c8,rfl,hL8⟩:=K8.out;have HL8:=hid hL8;clear hL8 K8;clear hJ hI hd hW h1 h8 J8 hz8;go_wp2
   first | refine ⟨_,rfl,?_⟩ | refine ⟨rfl,_,?_⟩ | skip
   exact HJ.out.step HD.out (by decide) (by decide) (HI.out.value rfl (by decide) (fun x hx=>by cases (Option.some.inj (show some (none:Option Value)=some (some x) from hx))) (Below.refl _ _) (fun _=>⟨_,_,rfl,HL8.out⟩) (fun _=>HZ.out)) (HJ.out.be)
  ·have h9:d 9=true:=by simp only [hW]
   have h8:d 8=true:=by simp only [hW]
   have hI:=hJ.get hd (by decide) (by decide);have hz9:d 8=true:=hI.cl 9 rfl h9;have J9:=hI.aft hz9 9 (by first | exact .inl rfl | exact .inr rfl) h9;simp only [GP,relL,SP.tup,SP.lyr,SP.mdl,List.getElem?_cons_zero,List.getElem?_cons_succ] at J9;have hz8:d 8=true:=h8;have J8:=hI.aft hz8 8 (by first | exact .inl rfl | exact .inr rfl) h8;simp only [GP,relL,SP.tup,SP.lyr,SP.mdl,List.getElem?_cons_zero,List.getElem?_cons_succ] at J8;obtain ⟨x0,x1,xlt⟩:=HCe.out X hJ.be;obtain ⟨HI,HJ,HD⟩:=hd3 hI hJ hd;simp [fillFrom,Act.put];generalize y' 9=y9 at J9 ⊢;have K9:=hid J9;generalize y' 8=y8 at J8 ⊢;obtain ⟨K8,HZ⟩:=hd2 J8 hz9;obtain ⟨a8,c8,rfl,hL8⟩:=K9.out;have HCt:=hid (HLo.out X HJ.out.be a8 c8 hL8);clear hL8 K9;clear hJ hI hd hW h9 h8 J9 J8 hz9 hz8
   go_wp2_with fail
   refine HCt.out.mono ?_
   rintro e w1 ⟨v1,rfl,kv,kb⟩;obtain ⟨KV,KB⟩:=hd2 kv kb;clear kv kb HCt;go_wp2
   first | refine ⟨_,rfl,?_⟩ | refine ⟨rfl,_,?_⟩ | skip
   exact HJ.out.step HD.out (by decide) (by decide) (HI.out.value rfl (by decide) (fun x hx=>by cases (Option.some.inj (show some (none:Option Value)=some (some x) from hx))) (KB.out) (fun _=>KV.out) (fun _=>HZ.out)) (HJ.out.be.trans (KB.out.mono HJ.out.be.size))
  ·have h10:d 10=true:=by simp only [hW]
   have hI:=hJ.get hd (by decide) (by decide);have hz10:d 8=true:=hI.cl 10 rfl h10;have J10:=hI.aft hz10 10 (by first | exact .inl rfl | exact .inr rfl) h10;simp only [GP,relL,SP.tup,SP.lyr,SP.mdl,List.getElem?_cons_zero,List.getElem?_cons_succ] at J10;obtain ⟨x0,x1,xlt⟩:=HCe.out X hJ.be;obtain ⟨HI,HJ,HD⟩:=hd3 hI hJ hd;simp [fillFrom,Act.put];generalize y' 10=y10 at J10 ⊢;obtain ⟨K10,HZ⟩:=hd2 J10 hz10;clear hJ hI hd hW h10 J10 hz10;go_wp2
   first | refine ⟨_,rfl,?_⟩ | refine ⟨rfl,_,?_⟩ | skip
   exact HJ.out.step HD.out (by decide) (by decide) (HI.out.value rfl (by decide) (fun x hx=>by cases (Option.some.inj (show some (none:Option Value)=some (some x) from hx))) (Below.refl _ _) (fun _=>K10.out) (fun _=>HZ.out)) (HJ.out.be)
  ·have h11:d 11=true:=by simp only [hW]
   have hI:=hJ.get hd (by decide) (by decide);have hz11:d 8=true:=hI.cl 11 rfl h11;have J11:=hI.aft hz11 11 (by first | exact .inl rfl | exact .inr rfl) h11;simp only [GP,relL,SP.tup,SP.lyr,SP.mdl,List.getElem?_cons_zero,List.getElem?_cons_succ] at J11;obtain ⟨x0,x1,xlt⟩:=HCe.out X hJ.be;obtain ⟨HI,HJ,HD⟩:=hd3 hI hJ hd;simp [fillFrom,Act.put];generalize y' 11=y11 at J11 ⊢;obtain ⟨K11,HZ⟩:=hd2 J11 hz11;obtain ⟨u,rfl,hg⟩:=K11.out;obtain ⟨_,_,_,_,rfl,q1,q2,q3,q4⟩:=hg.ex;obtain ⟨q3,q4⟩:=hd2 q3 q4;clear K11 hg;clear hJ hI hd hW h11 J11 hz11;go_wp2
   first | refine ⟨_,rfl,?_⟩ | refine ⟨rfl,_,?_⟩ | skip
   exact HJ.out.step HD.out (by decide) (by decide) (HI.out.value rfl (by decide) (fun x hx=>by cases (Option.some.inj (show some (none:Option Value)=some (some x) from hx))) (Below.refl _ _) (fun _=>⟨_,_,_,_,rfl,q1,q2,q3.out,q4.out⟩) (fun _=>HZ.out)) (HJ.out.be)
  ·have h11:d 11=true:=by simp only [hW]
   have ht:∃ u,y' 11=.tuple #[u,.int .i64 e2]:=by
    cases hs:d 15 with
    | true=>exact (hJ.put hs).2.2.1
    | false=>
     have hI:=hJ.ph hs;have:=hI.aft (hI.cl 11 rfl h11) 11 (.inr rfl) h11;simp only [GP,relL,SP.tup,List.getElem?_cons_zero,List.getElem?_cons_succ] at this;obtain ⟨u,e,_⟩:=this;exact ⟨u,e⟩
   have hn:d 15=false->(OwJ W4 (relM w W4 m CL) (relV w m a1 a2 c1 c2) 8 relT (relL m a1 c1 G2 e2)) (mark d 13) (upd y' 13 (.int .i64 e2)) X:=fun hs=>OwJ.value (hJ.ph hs) rfl (by decide) (fun x hx=>by cases (Option.some.inj (show some (none:Option Value)=some (some x) from hx))) (Below.refl _ _) (fun _=>rfl) (fun _=>(hJ.ph hs).cl 11 rfl h11)
   obtain ⟨u,J11⟩:=ht;obtain ⟨x0,x1,xlt⟩:=HCe.out X hJ.be;simp [fillFrom,Act.put];generalize hg11:y' 11=y11 at J11 ⊢;obtain rfl:=J11;obtain ⟨HJ,HN⟩:=hd2 hJ hn;clear hJ hd hW h11 hg11 hn;go_wp2
   first | refine ⟨_,rfl,?_⟩ | refine ⟨rfl,_,?_⟩ | skip
   exact HJ.out.snd HN.out (by decide) (by decide) (by decide)
  ·have hI:=hJ.get hd (by decide) (by decide);obtain ⟨x0,x1,xlt⟩:=HCe.out X hJ.be;obtain ⟨HI,HJ,HD⟩:=hd3 hI hJ hd;simp [fillFrom,Act.put];clear hJ hI hd hW;have HBa:=hid ((Below.refl X.heap.size X).alloc (Nat.le_refl _) (.cells #[.int .i64 0,.slice none 0 0,.slice none 0 0] 30));go_wp2
   first | refine ⟨_,rfl,?_⟩ | refine ⟨rfl,_,?_⟩ | skip
   exact HJ.out.step HD.out (by decide) (by decide) (HI.out.make (m:=⟨OS.blk (.cells #[.int .i64 0,.slice none 0 0,.slice none 0 0] 30 (0,0)) mkP mkP_b,15⟩) rfl (by decide) rfl (.inr rfl) HBa.out ⟨_,rfl,by show (X.heap.push _)[X.heap.size]? =_;rw [Array.getElem?_push,if_pos rfl]⟩ (Nat.le_refl _)) (HJ.out.be.trans (HBa.out.mono HJ.out.be.size))
  ·have hall:∀ i,i < 15->i ≠ 13->d i=true:=fun i hi hne=>by
    have:i=0 ∨ i=1 ∨ i=2 ∨ i=3 ∨ i=4 ∨ i=5 ∨ i=6 ∨ i=7 ∨ i=8 ∨ i=9 ∨ i=10 ∨ i=11 ∨ i=12 ∨ i=14:=by omega
    have h0:d 0=true:=by simp only [hW]
    have h1:d 1=true:=by simp only [hW]
    have h2:d 2=true:=by simp only [hW]
    have h3:d 3=true:=by simp only [hW]
    have h4:d 4=true:=by simp only [hW]
    have h5:d 5=true:=by simp only [hW]
    have h6:d 6=true:=by simp only [hW]
    have h7:d 7=true:=by simp only [hW]
    have h8:d 8=true:=by simp only [hW]
    have h9:d 9=true:=by simp only [hW]
    have h10:d 10=true:=by simp only [hW]
    have h11:d 11=true:=by simp only [hW]
    have h12:d 12=true:=by simp only [hW]
    have h14:d 14=true:=by simp only [hW]
    rcases this with rfl | rfl | rfl | rfl | rfl | rfl | rfl | rfl | rfl | rfl | rfl | rfl | rfl | rfl <;> assumption
   have hI:=hJ.ph hd;have hz:=hall 8 (by omega) (by omega);have JG:=hI.aft hz 12 (.inr rfl) (hall 12 (by omega) (by omega));have JQ:=hI.aft hz 11 (.inr rfl) (hall 11 (by omega) (by omega));obtain ⟨⟨b2,hp,hblk⟩,hb2⟩:=hI.of (k:=14) (m:=⟨OS.blk (.cells #[.int .i64 0,.slice none 0 0,.slice none 0 0] 30 (0,0)) mkP mkP_b,15⟩) rfl (hall 14 (by omega) (by omega)) hd;simp only [GP,relL,SP.grv,SP.tup,List.getElem?_cons_zero,List.getElem?_cons_succ] at JG JQ;obtain ⟨uq,hqe,_⟩:=JQ;have hx13:d 13=true->y' 13=.int .i64 e2:=fun h=>by have:=hI.aft hz 13 (.inr rfl) h;simpa only [GP,relL,SP.val,List.getElem?_cons_zero,List.getElem?_cons_succ] using this
   replace hb2:W4.heap.size<=b2:=by rw [hp] at hb2;exact hb2
   obtain ⟨x0,x1,xlt⟩:=HCe.out X hJ.be;simp [fillFrom,Act.put];generalize hgp:y' 14=yp at hp ⊢;generalize y' 12=yg at JG ⊢;obtain ⟨aU2,cU2,aO2,cO2,rfl,hu2,ho2,hU2,hO2⟩:=JG.ex;subst hp;have hbx:=blk_box hblk;obtain ⟨HG2,HB2⟩:=hd2 (GBx.put hbx (blk_zf hblk) hu2 ho2 hU2 hO2) (put_below hJ.be hb2 (.int .i64 (G2.inputs:Int)) (.slice aU2 G2.units.length cU2) (.slice aO2 G2.outs.length cO2));have y0:=hbx.c0;have y1:=hbx.c1;have y2:=hbx.c2;have yf:=hbx.free;have yl:=hbx.lt;obtain ⟨HJ,HD,HAll,Hb2,Hgp,HQ⟩:=hd6 hJ hd hall hb2 hgp (show ∃ u,y' 11=.tuple #[u,.int .i64 e2] from ⟨uq,hqe⟩);have HX13:=hid hx13;clear hJ hI hd hall hW hz JG hU2 hO2 hbx hblk hgp hb2 hqe hx13;go_wp2;exact ⟨trivial,.bool false,HJ.out.store HAll.out Hgp.out Hb2.out HG2.out HB2.out HQ.out HX13.out (by decide) (by decide) (by decide)⟩
 ·intro ops d y' X hA hJ;obtain ⟨⟨b2,aU2,cU2,aO2,cO2,hp,hb2,hG2⟩,hx⟩:=hJ.fin (hA 15 (by decide)) (hA 13 (by decide));obtain ⟨x0,x1,xlt⟩:=HCe.out X hJ.be;simp only [List.take_succ_cons,List.take_zero,List.drop_succ_cons,List.drop_zero];simp [fillFrom,Act.put];generalize hgp:y' 14=yp at hp ⊢;generalize hgx:y' 13=yx at hx ⊢;obtain rfl:=hp;obtain rfl:=hx;obtain ⟨HBe0,HG2⟩:=hd2 hJ.be hG2;clear hJ hA hG2 hgp hgx;clear x0 x1 xlt;have HBe:=htr HB4 HBe0.out;have HG1:=hid (HG1a.out.below HBe0.out);obtain ⟨W5,hW5⟩:∃ W5:World,W5=X:=⟨_,rfl⟩
  subst hW5
  go_upto_region 5 with fail
  clear HLo HCe HG1a HBe0 HSrc HRow;have hLaw:=lower_relu (m:=m) (by omega);have hE2':lowerL ⟨m.input,m.layers++[exR]⟩=(G2,e2):=HE2.out;rw [HE1.out,hE2'] at hLaw;simp only at hLaw;have HLaw:=hid hLaw;clear hLaw hE2'
  by_cases he1:e1=0
  case neg=>
   obtain rfl:=HLaw.out.1 he1;have t1:(e2 != 0)=true:=by rw [bne_iff_ne];exact he1
   have t2:decide (¬ e2=0)=true:=decide_eq_true he1;have t3:(e2==e2)=true:=by simp
   go_wp2;go_ret;exact ⟨rfl,HBe.out⟩
  subst he1
  rcases HLaw.out.2 rfl with h8 | ⟨Ga,Gb,ea,eb,i1,i2,i3⟩
  ·obtain rfl:e2=8:=h8;go_wp2;go_ret;exact ⟨rfl,HBe.out⟩
  have hG1:G1=Ga:=congrArg Prod.fst ea;have hG2:G2=Gb:=congrArg Prod.fst eb;have he2:e2=0:=congrArg Prod.snd eb;subst hG1 hG2 he2;obtain ⟨z0,z1,z2,z3,z4,z5⟩:=lower_size HE1.out;clear z0;clear ea eb HLaw;obtain ⟨n,hn⟩:∃ n,n=G1.units.length:=⟨_,rfl⟩
  obtain ⟨no,hno⟩:∃ no,no=G1.outs.length:=⟨_,rfl⟩
  obtain ⟨ni,hni⟩:∃ ni,ni=G1.inputs:=⟨_,rfl⟩
  obtain ⟨l2,hl2⟩:∃ l2,l2=G2.units.length:=⟨_,rfl⟩
  have hl2n:l2=n+no:=by rw [hl2,i2,List.length_append,hn,hno]
  have hlo:G2.outs.length=no:=by rw [i3,hno];simp
  have hus:=HG2.out.us;have hos:=HG2.out.os;rw [i2] at hus;have hne1:G1.units++G1.outs ≠ []:=fun e=>by have:=congrArg List.length e;rw [List.length_append, <- hno] at this;simp at this;omega
  obtain ⟨bU,oU,rfl,hbU,_⟩:=hus.row.resolve_left hne1;have hne2:G2.outs ≠ []:=fun e=>by rw [e] at hlo;simp at hlo;omega
  obtain ⟨bO,oO,rfl,hbO,_⟩:=hos.row.resolve_left hne2;have hpre:=hus.pre;have hdr:=hus.drop n;obtain ⟨D,hD⟩:∃ D,D=(G1.units++G1.outs).drop n:=⟨_,rfl⟩
  rw [<- hD] at hdr;have hDo:D=G1.outs:=by rw [hD,hn];simp
  have hDl:D.length=l2 - n:=by rw [hDo,hl2n, <- hno];omega
  have hC1:=fun e=>r7EqualAll (A:=G1.units) (B:=G1.units) cU2 cU1 (hpre.below formK (ext_below W5 e)) (HG1.out.us.below formK (ext_below W5 e))
  have hC2:=fun e=>r7EqualAll (A:=D) (B:=G1.outs) (cU2 - n) cO1 (hdr.below formK (ext_below W5 e)) (HG1.out.os.below formK (ext_below W5 e))
  have hq1:eqAll G1.units G1.units=true:=(eqAll_iff _ _).2 rfl;have hq2:eqAll D G1.outs=true:=(eqAll_iff _ _).2 hDo;rw [hq1, <- hn] at hC1;rw [hq2, <- hno,hDl] at hC2;obtain ⟨HC1,HC2⟩:=hd2 hC1 hC2;have HOs:Hid (FormsAt W5 (some ⟨bO,oO,none⟩) G2.outs):=hos;obtain ⟨HI3,HLo2⟩:=hd2 i3 hlo;have hlu2:=HG2.out.lu;have hlo2:=HG2.out.lo;have hlu1:=HG1.out.lu;have hlo1:=HG1.out.lo;obtain ⟨HBx1,HBx2⟩:=hd2 HG1.out.bx HG2.out.bx;rw [<- hl2,hlo] at HBx2;rw [i1] at HBx2;rw [<- hl2] at hlu2;rw [hlo] at hlo2;rw [<- hn, <- hno, <- hni] at HBx1;rw [<- hni] at HBx2;rw [<- hn] at hlu1;rw [<- hno] at hlo1;rw [<- hn] at z3;rw [<- hno] at z4 z5;rw [<- hni] at z1 z2;rw [<- hno] at HI3;have HFo:Hid (∀ j,j < no->G2.outs[j]? =some (varA (ni+n+j))):=fun j hj=>by
   rw [HI3.out,List.getElem?_map,List.getElem?_range hj,hni,hn];rfl
  have hlow:n < l2:=by omega
  have hw1:IntKind.i64.wrap ((n:Int)+(no:Int))=(l2:Int):=by rw [hl2n,Int.natCast_add];exact IntWalk.i64_in _ (by omega)
  have hb1:((l2:Int) != (l2:Int))=false:=by simp
  have hb2:decide (¬ (l2:Int)=(l2:Int))=false:=by simp
  have hcap:n<=cU2:=by omega
  obtain ⟨hL2,HHbO⟩:=hd2 hl2n hbO;clear hn hno hni hl2 hl2n hlo hus hos hne1 hbU hne2 hbO hpre hdr hD hDo hDl hC1 hC2 hq1 hq2 i1 i2 i3 HI3 HE1 HE2;obtain ⟨f0,f1,f2,ff,flt⟩:=HBx1.out;obtain ⟨g0,g1,g2,gf,glt⟩:=HBx2.out
  go_upto_region 8 with fail
  have k1:=ext_cell f1 flt;have k2:=ext_cell f2 flt;have k3:=ext_cell g1 glt
  refine wp_region_quiet_ext (by kernel_rfl) (by kernel_rfl) ?_
  repeat (go_big_quiet_step (first | (go_at_call 20;first | (with_reducible exact Calls.ext_of (HC1.out _)) | (with_reducible exact Calls.ext_of (HC2.out _)))))
  refine wpQuiet_nil ?_
  intro _ hw';obtain ⟨nq,hw''⟩:=hw';subst hw'';have HW5:=hid (ext_below W5 nq);obtain ⟨HBx1',HBx2',HOs2⟩:=hd3 (HBx1.out.below HW5.out) (HBx2.out.below HW5.out) (HOs.out.below formK HW5.out);have HBN:=htr HBe HW5.out;clear k1 k2 k3 f0 f1 f2 ff flt g0 g1 g2 gf glt hw1 hb1 hb2 HBx1 HBx2 HOs HC1 HC2 HW5 HHbO;generalize ext W5 nq=w6 at *;obtain ⟨f0,f1,f2,ff,flt⟩:=HBx1'.out;obtain ⟨g0,g1,g2,gf,glt⟩:=HBx2'.out;go_wp2;clear f0 f1 f2 ff flt g0 g1 g2 gf glt
  go_loopw [8] (fun i wr=>∃ j:Nat,j<=no/\i=.int .i64 (j:Int)/\Hid (Below w6.heap.size w6 wr)) (fun i _=>no - (intOf i).toNat)
  case atStart=>exact ⟨0,Nat.zero_le _,rfl,Below.refl _ _⟩
  case round=>
   obtain ⟨j,hj,rfl,HB⟩:=hrel;obtain ⟨f0,f1,f2,ff,flt⟩:=HBx1'.out.below HB.out;obtain ⟨g0,g1,g2,gf,glt⟩:=HBx2'.out.below HB.out
   by_cases hlt:j < no
   ·obtain ⟨bb,oo,x,p0,p1,p2,p3,hbb,hlb,hx,e0,e1,e2,e3,hxv⟩:=(HOs2.out.below formK HB.out).pick (k:=j) (by rw [HLo2.out];exact hlt);obtain ⟨rfl,rfl⟩:bb=bO/\oo=oO:=by cases hbb;exact ⟨rfl,rfl⟩
    obtain ⟨xa,xn,xc,xb,xan,xnn,xcn,xad,xnd,xcd,rfl,rfl,rfl,rfl⟩:=hxv.spell;have hxe:x=varA (ni+n+j):=by have:=HFo.out j hlt;rw [this] at hx;exact (Option.some.inj hx).symm
    subst hxe;obtain ⟨s1,hs1⟩:∃ s1,s1=ni+n:=⟨_,rfl⟩
    obtain ⟨s2,hs2⟩:∃ s2,s2=s1+j:=⟨_,rfl⟩
    have hw1:IntKind.i64.wrap ((ni:Int)+(n:Int))=(s1:Int):=by rw [hs1,Int.natCast_add];exact IntWalk.i64_in _ (by omega)
    have hw2:IntKind.i64.wrap ((s1:Int)+(j:Int))=(s2:Int):=by rw [hs2,Int.natCast_add];exact IntWalk.i64_in _ (by omega)
    rw [<- hs1, <- hs2] at hxv;have hjI:(0:Int)<=(j:Int):=by omega
    have hjI2:(j:Int) < (no:Int):=by omega
    have HCj:Hid (∀ X,Below wr.heap.size wr X->X.cell? ⟨b2,0,none⟩=some (.int .i64 (ni:Int))/\X.cell? ⟨b2,2,none⟩=some (.slice (some ⟨bb,oo,none⟩) no cO2)/\b2 < X.heap.size/\X.cell? ⟨b1,0,none⟩=some (.int .i64 (ni:Int))/\X.cell? ⟨b1,2,none⟩=some (.slice aO1 no cO1)/\b1 < X.heap.size/\
      X.cell? ⟨bb,oo+j * 4,none⟩=some (.slice xa xn xc)/\X.cell? ⟨bb,oo+j * 4+1,none⟩=some (.bool xb)/\X.cell? ⟨bb,oo+j * 4+2,none⟩=some (.slice xan xnn xcn)/\X.cell? ⟨bb,oo+j * 4+3,none⟩=some (.slice xad xnd xcd)/\bb < X.heap.size):=fun X hb=>
     ⟨(hb.cell glt).trans g0,(hb.cell glt).trans g2,Nat.lt_of_lt_of_le glt hb.size,(hb.cell flt).trans f0,(hb.cell flt).trans f2,Nat.lt_of_lt_of_le flt hb.size,(hb.cell hlb).trans e0,(hb.cell hlb).trans e1,(hb.cell hlb).trans e2,(hb.cell hlb).trans e3,Nat.lt_of_lt_of_le hlb hb.size⟩
    have HEq:Hid (∀ X,Below wr.heap.size wr X->∀ v,FormV X v (varA s2)->Calls Tryz.prog 21 #[.agg #[.slice xa xn xc,.bool xb,.slice xan xnn xcn,.slice xad xnd xcd],v] X fun e w'=>e=.returned (.bool true)/\Below X.heap.size X w'):=fun X hb v hv=>by
     have:=r7Equal (hxv.val.below hb) hv;rw [(eqA_iff (varA s2) (varA s2)).2 rfl] at this;exact this
    obtain ⟨HS1,HS2⟩:=hd2 hs1 hs2;clear hxv hx hbb hs1 hs2
    go_upto_region 13 with fail
    clear f0 f1 f2 ff flt g0 g1 g2 gf glt e0 e1 e2 e3 hlb
    refine wp_region_slots_tail_g 13 (by kernel_rfl) (by kernel_rfl) (by kernel_rfl) (by kernel_rfl) (by decide) (From wr.heap.size wr) (fun w w'=>Below w.heap.size w w') (GP [SP.val (.pointer (some ⟨b2,2,none⟩)),SP.val (.slice (some ⟨bb,oo,none⟩) no cO2),SP.val (.int .i64 (j:Int)),SP.val (.pointer (some ⟨bb,oo+j * 4,none⟩)),SP.val (.agg #[.slice xa xn xc,.bool xb,.slice xan xnn xcn,.slice xad xnd xcd]),SP.val (.pointer (some ⟨b1,0,none⟩)),SP.val (.int .i64 (ni:Int)),SP.val (.int .i64 (n:Int)),SP.val (.int .i64 (s1:Int)),SP.val (.int .i64 (j:Int)),SP.val (.int .i64 (s2:Int)),SP.frm (varA s2),SP.val (.bool true)]) (fun i v w w' h hb=>GP_below h hb) (From.start (Nat.le_refl _)) ?_ ?_
    ·intro ops hops;have HOps:=hid hops;clear hops;simp only [List.take_succ_cons,List.take_zero,Shows]
     refine ⟨?v0,?v1,?v2,?v3,?v4,?v5,?v6,?v7,?v8,?v9,?v10,?_,?_,trivial⟩
     all_goals (intro y' X hR hL;have hB:=hR.base;obtain ⟨y0,y2,ylt,z0,z2,zlt,e0,e1,e2,e3,elt⟩:=HCj.out X hR.be;simp only [Laid,Region.binds,forall_const,Bool.false_eq_true,false_implies,GP,SP.val,SP.frm,SP.rat,SP.tru,SP.tup,SP.grv,List.getElem?_cons_zero,List.getElem?_cons_succ] at hL;simp [fillFrom,Act.put])
     case v0|v1|v2|v3|v4|v5|v6|v7|v8|v9|v10=>
      try simp only [hL]
      clear hL;have HR:=hid hR;clear hR;go_wp2
      first | refine ⟨_,rfl,?_⟩ | skip
      exact ⟨HR.out,Below.refl _ _,rfl⟩
     ·try simp only [hL]
      clear hL;have HR:=hid hR;clear hR;have HCt:=hid (r16Var X s2)
      go_wp2_with fail
      refine HCt.out.mono ?_
      rintro e w1 ⟨v1,rfl,kv,kb⟩;obtain ⟨KV,KB⟩:=hd2 kv kb;clear kv kb HCt;go_wp2
      first | refine ⟨_,rfl,?_⟩ | skip
      exact ⟨⟨Nat.le_trans HR.out.base KB.out.size,HR.out.be.trans (KB.out.mono HR.out.base)⟩,KB.out,KV.out⟩
     ·generalize y' 4=y4 at hL ⊢;generalize y' 11=y11 at hL ⊢;obtain ⟨rfl,H11,_,_⟩:=hL;obtain ⟨K11,HR⟩:=hd2 H11 hR;clear hR H11;have HCt:=hid (HEq.out X HR.out.be _ K11.out)
      go_wp2_with fail
      refine HCt.out.mono ?_
      rintro e w1 ⟨rfl,kb⟩;have KB:=hid kb;clear kb HCt;go_wp2
      first | refine ⟨_,rfl,?_⟩ | skip
      exact ⟨⟨Nat.le_trans HR.out.base KB.out.size,HR.out.be.trans (KB.out.mono HR.out.base)⟩,KB.out,rfl⟩
    ·intro ops y' X hR hL;have hB:=hR.base;have J12:=hL.2;simp only [GP,SP.val,SP.frm,SP.rat,SP.tru,SP.tup,SP.grv,List.getElem?_cons_zero,List.getElem?_cons_succ] at J12;obtain ⟨y0,y2,ylt,z0,z2,zlt,e0,e1,e2,e3,elt⟩:=HCj.out X hR.be;clear hL;simp only [List.take_succ_cons,List.take_zero,List.drop_succ_cons,List.drop_zero];simp [fillFrom,Act.put];generalize y' 12=y12 at J12 ⊢;obtain rfl:=J12;have HR:=hid hR;clear hR;have HBN:=htr HB HR.out.be;clear y0 y2 ylt z0 z2 zlt e0 e1 e2 e3 elt;go_wp2;go_roundw
     case rel=>exact ⟨j+1,hlt,by go_num,HBN.out⟩
     case measure=>simp [intOf];omega
   ·obtain rfl:j=no:=by omega
    have HBw:=htr HBN HB.out;go_wp2;go_ret;exact ⟨rfl,HBw.out⟩
end Go.Proofs.YtfgmmghmmfmdgaaGreat
