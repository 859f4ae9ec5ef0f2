/-
  Contracts of the functions that the statement reaches: LqG.
-/
import Derived.Test.YtfgmmghmmfmdgaaGreatM48
set_option linter.all false
set_option maxRecDepth 100000
set_option maxHeartbeats 3200000
namespace Go.Proofs.YtfgmmghmmfmdgaaGreat
open Go.RowKit
open Go.Lib (hid)
theorem relu_law:LayRange reluL/\LayLe reluL/\SmallL reluL:=⟨by unfold LayRange I64;simp [reluL],⟨by simp [reluL],by simp [reluL]⟩,⟨by simp [reluL,wq,bq],by simp [reluL,wq,bq]⟩⟩
theorem probe_rows0 {w:World} {n:Nat}:(∀ (j:Nat) (c:List Value) (x:LayL),(probeC n)[j]? =some c->(List.replicate n reluL)[j]? =some x->∃ a1 a2 c1 c2,c=layC x a1 a2 c1 c2/\RatsAt w a1 x.weights/\RatsAt w a2 x.bias)/\∀ c ∈ probeC n,c.length=9:=by
 constructor
 ·intro j c x hc hx
  have hlt:=(List.getElem?_eq_some_iff.1 hc).1
  rw [probeC_len] at hlt
  unfold probeC at hc
  rw [List.getElem?_replicate,if_pos hlt,Option.some.injEq] at hc hx
  subst hc hx
  exact ⟨none,none,0,0,rfl,RatsAt.nil _ _,RatsAt.nil _ _⟩
 ·intro c hc
  rw [List.eq_of_mem_replicate hc];rfl
theorem law16Limits (w:World) (size relus:Int) (hs:I64 size) (hr:I64 relus):
  Calls Tryz.prog 9 #[.int .i64 size,.int .i64 relus] w fun e w'=>e=.returned (.bool true)/\Below w.heap.size w w':=by
 go_enter Tryz.func9,Tryz.ntmps9
 go_wp2_with fail
 refine (awake16 w).mono ?_
 rintro e w1 ⟨rfl,hb1⟩
 have HB1:=hid hb1
 clear hb1
 by_cases g1:size < 1
 case pos=>
  have t1:decide (size < 1)=true:=decide_eq_true g1
  go_wp2_with fail
  refine (awake16 w1).mono ?_
  rintro e w3 ⟨rfl,hb3⟩
  have HB3:=hid (HB1.out.trans (hb3.mono HB1.out.size))
  clear hb3
  go_wp2
  go_ret
  exact ⟨rfl,HB3.out⟩
 have t1:decide (size < 1)=false:=decide_eq_false g1
 by_cases g2:300 < size
 case pos=>
  have t2:decide (300 < size)=true:=decide_eq_true g2
  go_wp2_with fail
  refine (awake16 w1).mono ?_
  rintro e w3 ⟨rfl,hb3⟩
  have HB3:=hid (HB1.out.trans (hb3.mono HB1.out.size))
  clear hb3
  go_wp2
  go_ret
  exact ⟨rfl,HB3.out⟩
 have t2:decide (300 < size)=false:=decide_eq_false g2
 by_cases g3:relus < 0
 case pos=>
  have t3:decide (relus < 0)=true:=decide_eq_true g3
  go_wp2_with fail
  refine (awake16 w1).mono ?_
  rintro e w3 ⟨rfl,hb3⟩
  have HB3:=hid (HB1.out.trans (hb3.mono HB1.out.size))
  clear hb3
  go_wp2
  go_ret
  exact ⟨rfl,HB3.out⟩
 have t3:decide (relus < 0)=false:=decide_eq_false g3
 by_cases g4:6 < relus
 case pos=>
  have t4:decide (6 < relus)=true:=decide_eq_true g4
  go_wp2_with fail
  refine (awake16 w1).mono ?_
  rintro e w3 ⟨rfl,hb3⟩
  have HB3:=hid (HB1.out.trans (hb3.mono HB1.out.size))
  clear hb3
  go_wp2
  go_ret
  exact ⟨rfl,HB3.out⟩
 have t4:decide (6 < relus)=false:=decide_eq_false g4
 obtain ⟨n,rfl⟩:∃ n:Nat,size=(n:Int):=⟨size.toNat,by omega⟩
 obtain ⟨r,rfl⟩:∃ r:Nat,relus=(r:Int):=⟨relus.toNat,by omega⟩
 have hn1:1<=n:=by omega
 have hn2:n<=300:=by omega
 have hr6:r<=6:=by omega
 go_upto_region 4 with fail
 have hal:Below w1.heap.size w1 (w1.alloc (.cells #[.int .i64 (n:Int)] 3)):=(Below.refl _ _).alloc (Nat.le_refl _) _
 have hi:=ints1_of (x:=(n:Int)) (by unfold I64;omega) (show (w1.alloc (.cells #[.int .i64 (n:Int)] 3)).cell? ⟨w1.heap.size,0,none⟩=some (.int .i64 (n:Int)) by rw [World.cell?_alloc_at _ _ _ _ rfl];rfl) (by simp)
 have hsz:(w1.alloc (.cells #[.int .i64 (n:Int)] 3)).heap.size=w1.heap.size+1:=by simp
 have HB2:=hid (HB1.out.trans (hal.mono HB1.out.size))
 obtain ⟨W,hW⟩:∃ W,W=w1.alloc (.cells #[.int .i64 (n:Int)] 3):=⟨_,rfl⟩
 rw [<- hW] at hi hsz HB2
 have HI:=hid hi
 have hmk:MkL W (W.alloc (.cells #[.slice (some ⟨w1.heap.size,0,none⟩) 1 1,.slice none 0 0] 25)) W.heap.size 25 (.slice (some ⟨w1.heap.size,0,none⟩) 1 1) (.slice none 0 0) (probeC 0):=by
  refine ⟨?_,World.ownsRow_nil _ _ _ _,by simp [Value.ownBlock],Nat.le_refl _,(Below.refl _ _).alloc (Nat.le_refl _) _⟩
  show (W.heap.push _)[W.heap.size]? =_
  rw [Array.getElem?_push,if_pos rfl]
 have HMk:=hid hmk
 have HW:=hid hW
 have HSz:=hid hsz
 rw [<- HSz.out]
 rw [<- HW.out]
 obtain ⟨aI,haI⟩:∃ aI,aI=w1.heap.size:=⟨_,rfl⟩
 rw [<- haI] at HMk HI ⊢
 generalize W.alloc (.cells #[.slice (some ⟨aI,0,none⟩) 1 1,.slice none 0 0] 25)=W1 at *
 clear hal hi hsz hW hmk HW HSz haI t1 t2 t3 t4 g1 g2 g3 g4
 go_wp2
 go_loopw [6] (fun i wr=>∃ (j:Nat) (v:Value),j<=r/\i=.int .i64 (j:Int)/\Hid (MkL W wr W.heap.size 25 (.slice (some ⟨aI,0,none⟩) 1 1) v (probeC j))) (fun i _=>r - (intOf i).toNat)
 case atStart=>exact ⟨0,_,Nat.zero_le _,rfl,HMk.out⟩
 case round=>
  obtain ⟨j,v,hj,rfl,HM⟩:=hrel
  by_cases hlt:j < r
  ·have k1:=HM.out.c1
   have hj2:j < 1000:=by omega
   go_wp2_with (at_builtin;refine wpList_append_src rfl (.tmp 39) (.tmp 41) 23 23 rfl W.heap.size 44 (.agg #[.int .i64 0,.int .i64 0,.int .i64 0,.int .i64 0,.int .i64 0,.int .i64 0,.int .i64 0,.slice none 0 0,.slice none 0 0]) 9 104 Tryz.underlying23 Tryz.underlying23 Tryz.infoLay rfl (by omega) v j (probeC j).flatten rfl (by have h:=HM.out.own.alloc (.cells #[.int .i64 5,.int .i64 0,.int .i64 0,.int .i64 0,.int .i64 0,.int .i64 0,.int .i64 0,.slice none 0 0,.slice none 0 0] 44);rw [probeC_len] at h;exact h) (some ⟨wr.heap.size,0,none⟩) 1 1 (layC reluL none none 0 0) rfl (srcOK_alloc9 wr (layC reluL none none 0 0) _ rfl (layC_one _ _ _ _ _)) (by omega) (by unfold maxLen;omega) (by have:=HM.out.be.size;simp;omega) ?_;intro v' w' hown hg hn2;obtain ⟨av,cv,rfl⟩:=own_form9 hown;have k3:=(HM.out.mid (v':=.slice av (j+1) cv) (c:=layC reluL none none 0 0) hg).2.1;have k4:=(HM.out.mid (v':=.slice av (j+1) cv) (c:=layC reluL none none 0 0) hg).2.2;have HOwn:=hid hown;have HG:=hid hg;have HN2:=hid hn2;clear hown hg hn2)
   have hst:=HM.out.step (c:=layC reluL none none 0 0) (by rw [probeC_len];exact HOwn.out) HG.out HN2.out
   rw [probeC_succ] at hst
   have HSt:=hid hst
   clear hst k1 k3 k4
   go_roundw
   case rel=>exact ⟨j+1,_,hlt,by go_num,HSt.out⟩
   case measure=>simp [intOf];omega
  ·obtain rfl:j=r:=by omega
   obtain ⟨a0,c0,rfl⟩:=own_form9 HM.out.own
   have hown2:=HM.out.own
   rw [probeC_len] at hown2
   rw [probeC_len] at HM
   obtain ⟨hrow,h9⟩:=probe_rows0 (w:=wr) (n:=j)
   obtain ⟨a9,c9,hv9,hlays⟩:=own_lays (L:=List.replicate j reluL) hown2 (by simp) (by omega) (probeC_len j) hrow h9
   have hav:a0=a9:=by injection hv9
   rw [<- hav] at hlays
   have HBr:=hid (HB2.out.trans (HM.out.be.mono HB2.out.size))
   have HIr:=hid (HI.out.below HM.out.be)
   have HLays:=hid hlays
   have hLR:∀ l ∈ (reM n j).layers,LayRange l:=fun l hl=>by rw [show l=reluL from List.eq_of_mem_replicate hl];exact relu_law.1
   have hLL:∀ l ∈ (reM n j).layers,LayLe l:=fun l hl=>by rw [show l=reluL from List.eq_of_mem_replicate hl];exact relu_law.2.1
   have hLS:∀ l ∈ (reM n j).layers,SmallL l:=fun l hl=>by rw [show l=reluL from List.eq_of_mem_replicate hl];exact relu_law.2.2
   have hlen:(reM n j).layers.length=j:=by show (List.replicate j exR).length=j;simp
   have hC:=lCount (m:=reM n j) 1 c0 HIr.out HLays.out hLR hLL
   rw [re_count hn1 hn2 (by omega),hlen] at hC
   have HC:=hid hC
   obtain ⟨G,e1,hE⟩:∃ G e1,lowerL (reM n j)=(G,e1):=⟨_,_,rfl⟩
   have HE:=hid hE
   have HLo:Hid (∀ X,Below wr.heap.size wr X->Calls Tryz.prog 12 #[.agg #[.slice (some ⟨aI,0,none⟩) 1 1,.slice a0 j c0]] X (fun e w'=>∃ v,e=.returned v/\TupV w' v G e1/\Below X.heap.size X w')):=fun X hb=>
    lowN (m:=reM n j) 1 c0 (HIr.out.below hb) (HLays.out.below hb) hLR hLL hLS (by rw [hlen];omega) HE.out _ _ rfl hlen.symm
   have k0:=HM.out.c0
   have k1:=HM.out.c1
   have hlt2:=HM.out.lt
   have HMb:=hid (fun X (hb:Below wr.heap.size wr X)=>And.intro (HM.out.below hb).c0 (And.intro (HM.out.below hb).c1 (HM.out.below hb).lt))
   clear hown2 hrow h9 hv9 hlays hav hC hE hLR hLL hLS hlen hlt HMk
   go_wp2_with fail
   refine HC.out.mono ?_
   rintro e w3 ⟨rfl,hb3⟩
   obtain ⟨x0,x1,xlt⟩:=HMb.out w3 hb3
   have HB3:=hid (HBr.out.trans (hb3.mono HBr.out.size))
   have HL3:=hid (HLo.out w3 hb3)
   clear hb3 k0 k1 hlt2 HC
   go_wp2_with fail
   refine HL3.out.mono ?_
   rintro e w4 ⟨v,rfl,⟨u,rfl,hg⟩,hb⟩
   obtain ⟨aU1,cU1,aO1,cO1,rfl,hu1,ho1,hU1,hO1⟩:=hg.ex
   have hal:Below w4.heap.size w4 (w4.alloc (.cells #[.int .i64 (G.inputs:Int),.slice aU1 G.units.length cU1,.slice aO1 G.outs.length cO1] 30)):=(Below.refl _ _).alloc (Nat.le_refl _) _
   have hgb:=GBx.alloc hu1 ho1 hU1 hO1 30
   have HB4:=hid (HB3.out.trans (hb.mono HB3.out.size))
   have HB5:=hid (HB4.out.trans (hal.mono HB4.out.size))
   obtain ⟨y0,y1,y2,yf,ylt⟩:=hgb.bx
   have hl1:G.units.length<=9223372036854775807:=hU1.len
   have hl2:G.outs.length<=9223372036854775807:=hO1.len
   obtain ⟨nu,hnu⟩:∃ nu,nu=G.units.length:=⟨_,rfl⟩
   obtain ⟨no,hno⟩:∃ no,no=G.outs.length:=⟨_,rfl⟩
   obtain ⟨ni,hni⟩:∃ ni,ni=G.inputs:=⟨_,rfl⟩
   obtain ⟨W5,hW5⟩:∃ W5,W5=w4.alloc (.cells #[.int .i64 (G.inputs:Int),.slice aU1 G.units.length cU1,.slice aO1 G.outs.length cO1] 30):=⟨_,rfl⟩
   obtain ⟨b1,hb1⟩:∃ b1,b1=w4.heap.size:=⟨_,rfl⟩
   rw [<- hW5] at HB5 y0 y1 y2 yf ylt
   rw [<- hb1] at y0 y1 y2 yf ylt
   rw [<- hni] at y0
   rw [<- hnu] at y1 hl1
   rw [<- hno] at y2 hl2
   have HW5:=hid hW5
   have Hb1:=hid hb1
   have HNu:=hid hnu
   have HNo:=hid hno
   have HNi:=hid hni
   obtain ⟨q,hq⟩:∃ q,q=n * j:=⟨_,rfl⟩
   have hqi:(n:Int) * (j:Int)=(q:Int):=by rw [hq];simp
   have hq2:q<=1800:=by rw [hq];exact Nat.le_trans (Nat.mul_le_mul hn2 hr6) (by omega)
   have HQ:=hid hq
   have HBg:=hid (re_big (n:=n) (r:=j) hn1 hn2 (by omega))
   have HSm:=hid (fun h=>re_small (n:=n) hn1 h j hr6)
   rw [<- hq] at HBg HSm
   clear hb hg hU1 hO1 hal x0 x1 xlt HL3 hgb hW5 hb1 hnu hno hni hu1 ho1 hq HMb HLo
   go_upto_region 10 with fail
   rw [<- Hb1.out]
   rw [<- HW5.out]
   rw [<- HNu.out, <- HNo.out, <- HNi.out]
   by_cases gs:256 < n ∨ 1024 < q
   ·have he:=HBg.out gs
    rw [HE.out] at he
    have hG:G=emptyG:=congrArg Prod.fst he
    obtain rfl:e1=8:=congrArg Prod.snd he
    have hnu0:nu=0:=by rw [HNu.out,hG];rfl
    have hni0:ni=0:=by rw [HNi.out,hG];rfl
    subst hnu0 hni0
    clear he hG
    by_cases gs1:256 < n
    ·have t5:decide ((256:Int) < (n:Int))=true:=decide_eq_true (by omega)
     go_wp2
     go_ret
     exact ⟨rfl,HB5.out⟩
    ·have t5:decide ((256:Int) < (n:Int))=false:=decide_eq_false (by omega)
     have t6:decide ((1024:Int) < (q:Int))=true:=decide_eq_true (by omega)
     go_wp2
     go_ret
     exact ⟨rfl,HB5.out⟩
   ·obtain ⟨G',e',i1,i2,i3⟩:=HSm.out (by omega) (by omega)
    rw [HE.out] at e'
    have hG:G=G':=congrArg Prod.fst e'
    obtain rfl:e1=0:=congrArg Prod.snd e'
    obtain rfl:nu=q:=by rw [HNu.out,hG,i2]
    obtain rfl:ni=n:=by rw [HNi.out,hG,i1]
    obtain rfl:no=ni:=by rw [HNo.out,hG,i3]
    have t5:decide ((256:Int) < (no:Int))=false:=decide_eq_false (by omega)
    have t6:decide ((1024:Int) < (nu:Int))=false:=decide_eq_false (by omega)
    clear e' hG i1 i2 i3
    go_wp2
    go_ret
    exact ⟨rfl,HB5.out⟩
end Go.Proofs.YtfgmmghmmfmdgaaGreat
