/-
  Contracts of the functions that the statement reaches: ModQ, ModS, ModT, ModU.
-/
import Derived.Test.YtfgmmghmmfmdgaaGreatK39
import Derived.Test.YtfgmmghmmfmdgaaGreatK40
import Derived.Test.YtfgmmghmmfmdgaaGreatK41
import Derived.Test.YtfgmmghmmfmdgaaGreatK42
set_option linter.all false
set_option maxRecDepth 100000
set_option maxHeartbeats 3200000
namespace Go.Proofs.YtfgmmghmmfmdgaaGreat
open Go.RowKit
open Go.Lib (hid)
theorem r12Layer {w:World} {v:Value} {l:LayL} (hv:LayV w v l) (hr:LayRange l) (hle:LayLe l) (i:Int) (hi:0<=i) (hi2:i<=1000000):
  Calls Tryz.prog 94 #[v,.int .i64 i] w fun e w'=>e=.returned (.bool (layOK l i))/\Below w.heap.size w w':=by
 have hkind:l.kind=1 ∨ l.kind=2 ∨ l.kind=3 ∨ l.kind=4 ∨ l.kind=5 ∨ l.kind=6 ∨ l.kind=7 ∨ ¬ (1<=l.kind/\l.kind<=7):=by omega
 rcases hkind with hk | hk | hk | hk | hk | hk | hk | hk
 ·exact r12Layer1 hv hr hle i hi hi2 hk
 ·exact r12Layer2 hv hr hle i hi hi2 hk
 ·exact r12Layer3 hv hr hle i hi hi2 hk
 ·exact r12Layer4 hv hr hle i hi hi2 hk
 ·exact r12Layer5 hv hr hle i hi hi2 hk
 ·exact r12Layer6 hv hr hle i hi hi2 hk
 ·exact r12Layer7 hv hr hle i hi hi2 hk
 ·exact r12Layer0 hv hr hle i hi hi2 hk
theorem r12Valid {w:World} {m:ModL} {a1 a2:Option Addr} (c1 c2:Nat) (h1:Ints w Any a1 m.input) (h2:LaysAt w a2 m.layers) (hr:∀ l ∈ m.layers,LayRange l) (hs:∀ l ∈ m.layers,LayLe l):
  Calls Tryz.prog 61 #[.agg #[.slice a1 m.input.length c1,.slice a2 m.layers.length c2]] w fun e w'=>e=.returned (.bool (validM m))/\Below w.heap.size w w':=by
 have q1:=h1.len;have q2:=h2.len;obtain ⟨H2,HRg,HSh⟩:=hd3 h2 hr hs;have hbA:=blA w (.cells #[.slice a1 m.input.length c1,.slice a2 m.layers.length c2] 25);have HV:=hid (r11Valid c1 (h1.below hbA));generalize hR:validM m=R;have HR:=hid hR;unfold validM at hR;clear h1 h2 hr hs
 cases e1:validL m.input with
 | false=>
  rw [e1] at HV hR;have HF:Hid (R=false):=hR.symm;clear hR e1
  go_enter Tryz.func61,Tryz.ntmps61
  go_wp2_with fail
  refine HV.out.mono ?_
  rintro e w' ⟨rfl,rfl⟩;go_wp2;go_ret;exact ⟨ret_bool HF.out.symm,hbA⟩
 | true=>
  rw [e1] at HV hR;clear e1
  by_cases e2:m.layers.length<=64
  ·rw [decide_eq_true e2] at hR;have HL:Hid (laysFrom (m.layers.drop 0) ((0:Nat):Int)=R):=hR;clear hR
   go_enter Tryz.func61,Tryz.ntmps61
   go_wp2_with fail
   refine HV.out.mono ?_
   rintro e w' ⟨rfl,rfl⟩;have hx:=Box2.alloc w (.slice a1 m.input.length c1) (.slice a2 m.layers.length c2) 25;have HB:=hid hbA;generalize w.alloc (.cells #[.slice a1 m.input.length c1,.slice a2 m.layers.length c2] 25)=W at *;have HX:=hid hx;obtain ⟨x0,x1,xf,xlt⟩:=hx;clear hbA;go_wp2;clear x0 x1 xf xlt
   go_loopw [3] (fun i wr=>∃ j:Nat,j<=m.layers.length/\i=.int .i64 (j:Int)/\Hid (laysFrom (m.layers.drop j) (j:Int)=R)/\Hid (Below W.heap.size W wr)) (fun i _=>m.layers.length - (intOf i).toNat)
   case atStart=>exact ⟨0,Nat.zero_le _,rfl,HL.out,Below.refl _ _⟩
   case round=>
    obtain ⟨j,hj,rfl,HS,HW⟩:=hrel;obtain ⟨x0,x1,xf,xlt⟩:=HX.out.below HW.out
    by_cases hlt:j < m.layers.length
    ·obtain ⟨bl,ol,l,rfl,hbl,hl,b1,b2,d1,d2,⟨l0,l1,l2,l3,l4,l5,l6,l7,l8⟩,r1,r2⟩:=(H2.out.below (HB.out.trans (HW.out.mono HB.out.size))).pick hlt;have hmem:=List.mem_of_getElem? hl;have hdrop:m.layers.drop j=l::m.layers.drop (j+1):=by
      rw [List.drop_eq_getElem_cons hlt]
      congr 1
      rw [List.getElem?_eq_getElem hlt] at hl;exact Option.some.inj hl
     have HStep:Hid ((layOK l (j:Int) && laysFrom (m.layers.drop (j+1)) ((j+1:Nat):Int))=R):=by
      have:=HS.out;rw [hdrop] at this;exact this
     have HC:=hid (r12Layer (w:=wr) (v:=.agg #[.int .i64 l.kind,.int .i64 l.frm,.int .i64 l.out,.int .i64 l.kh,.int .i64 l.kw,.int .i64 l.stride,.int .i64 l.pad,.slice b1 l.weights.length d1,.slice b2 l.bias.length d2]) ⟨b1,b2,d1,d2,rfl,r1,r2⟩ (HRg.out l hmem) (HSh.out l hmem) (j:Int) (by omega) (by omega));have p1:=r1.len;have p2:=r2.len;clear hdrop hl hmem r1 r2 HS
     go_wp2_with fail
     refine HC.out.mono ?_
     rintro e w2 ⟨rfl,hb2⟩;have HW2:=htr HW hb2;clear hb2 x0 x1 xf xlt l0 l1 l2 l3 l4 l5 l6 l7 l8 HC
     cases hc:layOK l (j:Int) with
     | false=>
      have HF:Hid (R=false):=by unfold Hid;rw [<- HStep.out,hc];rfl
      clear hc;go_wp2;go_ret;exact ⟨ret_bool HF.out.symm,HB.out.trans (HW2.out.mono HB.out.size)⟩
     | true=>
      have HS2:Hid (laysFrom (m.layers.drop (j+1)) ((j+1:Nat):Int)=R):=by have:=HStep.out;rw [hc] at this;exact this
      clear hc;go_wp2;go_roundw
      case rel=>exact ⟨j+1,hlt,by go_num,HS2.out,HW2.out⟩
      case measure=>simp [intOf];omega
    ·obtain rfl:j=m.layers.length:=by omega
     have HE:Hid (R=true):=by have:=HS.out;rw [List.drop_length] at this;exact this.symm
     go_wp2;go_ret;exact ⟨ret_bool HE.out.symm,HB.out.trans (HW.out.mono HB.out.size)⟩
  ·rw [decide_eq_false e2] at hR;have HF:Hid (R=false):=by unfold Hid;rw [<- hR];rfl
   clear hR
   go_enter Tryz.func61,Tryz.ntmps61
   go_wp2_with fail
   refine HV.out.mono ?_
   rintro e w' ⟨rfl,rfl⟩;go_wp2;go_ret;exact ⟨ret_bool HF.out.symm,hbA⟩
theorem r13valid {w:World} {u:Value} {l:LayL} (hu:LayV w u l) (hr:LayRange l) (hle:LayLe l) (n:Nat) (hn:n<=1000):
  Calls Tryz.prog 95 #[u,.int .i64 (n:Int)] w fun e w'=>e=.returned (.bool (decide (n+1<=64) && layOK l n))/\Below w.heap.size w w':=by
 obtain ⟨b1,b2,d1,d2,rfl,r1,r2⟩:=hu.ex;have q3:=r1.len;have q4:=r2.len;obtain ⟨R1,R2,HRg,HLe⟩:=hd4 r1 r2 hr hle;generalize hR:(decide (n+1<=64) && layOK l n)=RR;have HR:=hid hR;clear hu r1 r2 hr hle hR
 go_enter Tryz.func95,Tryz.ntmps95
 go_upto_region 1 with fail
 have hb0:=blA w (layO l b1 d1 b2 d2 44);have hx:=Box9.alloc w (.int .i64 l.kind) (.int .i64 l.frm) (.int .i64 l.out) (.int .i64 l.kh) (.int .i64 l.kw) (.int .i64 l.stride) (.int .i64 l.pad) (.slice b1 l.weights.length d1) (.slice b2 l.bias.length d2) 44;generalize w.alloc (layO l b1 d1 b2 d2 44)=W0 at *;obtain ⟨HB0,HX0⟩:=hd2 hb0 hx;clear hb0 hx
 go_upto_region 2 with fail
 have hbW:=blA W0 (.cells #[.int .i64 1] 3);have h1:Ints (W0.alloc (.cells #[.int .i64 1] 3)) Any (some ⟨W0.heap.size,0,none⟩) [1]:=ints1_of ⟨by omega,by omega⟩ (by rw [World.cell?_alloc_at _ _ _ _ rfl];rfl) (by simp);have hmk:MkL (W0.alloc (.cells #[.int .i64 1] 3)) ((W0.alloc (.cells #[.int .i64 1] 3)).alloc (.cells #[.slice (some ⟨W0.heap.size,0,none⟩) 1 1,.slice none 0 0] 25)) (W0.heap.size+1) 25 (.slice (some ⟨W0.heap.size,0,none⟩) 1 1) (.slice none 0 0) (probeC 0):=by
  have e:W0.heap.size+1=(W0.alloc (.cells #[.int .i64 1] 3)).heap.size:=by simp
  rw [e]
  refine ⟨?_,World.ownsRow_nil _ _ _ _,by simp [Value.ownBlock],Nat.le_refl _,(Below.refl _ _).alloc (Nat.le_refl _) _⟩
  show (Array.push _ _)[_]? =_
  rw [Array.getElem?_push,if_pos rfl]
 have HW0:Hid ((W0.alloc (.cells #[.int .i64 1] 3)).heap.size=W0.heap.size+1):=by unfold Hid;simp
 have HMk:=hid hmk;have HB1:=htr HB0 hbW;obtain ⟨HX,H1⟩:=hd2 (HX0.out.below hbW) h1;generalize (W0.alloc (.cells #[.int .i64 1] 3)).alloc (.cells #[.slice (some ⟨W0.heap.size,0,none⟩) 1 1,.slice none 0 0] 25)=W1 at *;generalize W0.alloc (.cells #[.int .i64 1] 3)=W at *;clear hbW h1 hmk;go_wp2
 go_loopw [6] (fun i wr=>∃ (j:Nat) (v:Value),j<=n/\i=.int .i64 (j:Int)/\Hid (MkL W wr (W0.heap.size+1) 25 (.slice (some ⟨W0.heap.size,0,none⟩) 1 1) v (probeC j))) (fun i _=>n - (intOf i).toNat)
 case atStart=>exact ⟨0,_,Nat.zero_le _,rfl,HMk.out⟩
 case round=>
  obtain ⟨j,v,hj,rfl,HM⟩:=hrel
  by_cases hlt:j < n
  ·have k1:=HM.out.c1;have hj2:j < 1000:=by omega
   go_wp2_with (at_builtin;refine wpList_append_src rfl (.tmp 15) (.tmp 17) 23 23 rfl W.heap.size 44 (.agg #[.int .i64 0,.int .i64 0,.int .i64 0,.int .i64 0,.int .i64 0,.int .i64 0,.int .i64 0,.slice none 0 0,.slice none 0 0]) 9 104 Tryz.underlying23 Tryz.underlying23 Tryz.infoLay rfl (by omega) v j (probeC j).flatten rfl (by have h:=HM.out.own.alloc (.cells #[.int .i64 5,.int .i64 0,.int .i64 0,.int .i64 0,.int .i64 0,.int .i64 0,.int .i64 0,.slice none 0 0,.slice none 0 0] 44);rw [probeC_len] at h;exact h) (some ⟨wr.heap.size,0,none⟩) 1 1 (layC reluL none none 0 0) rfl (srcOK_alloc9 wr (layC reluL none none 0 0) _ rfl (layC_one _ _ _ _ _)) (by omega) (by unfold maxLen;omega) (by have:=HM.out.be.size;simp;omega) ?_;intro v' w' hown hg hn2;obtain ⟨av,cv,rfl⟩:=own_form9 hown;have k3:=(HM.out.mid (v':=.slice av (j+1) cv) (c:=layC reluL none none 0 0) hg).2.1;have k4:=(HM.out.mid (v':=.slice av (j+1) cv) (c:=layC reluL none none 0 0) hg).2.2;have HOwn:=hid hown;have HG:=hid hg;have HN2:=hid hn2;clear hown hg hn2)
   have hst:=HM.out.step (c:=layC reluL none none 0 0) (by rw [probeC_len];exact HOwn.out) HG.out HN2.out;rw [probeC_succ] at hst;have HSt:=hid hst;clear hst k1 k3 k4;go_roundw
   case rel=>exact ⟨j+1,_,hlt,by go_num,HSt.out⟩
   case measure=>simp [intOf];omega
  ·obtain rfl:j=n:=by omega
   obtain ⟨a0,c0,rfl⟩:=own_form9 HM.out.own;rw [probeC_len] at HM;have HXw:=hid (HX.out.below HM.out.be);obtain ⟨x0,x1,x2,x3,x4,x5,x6,x7,x8,xlt⟩:=HXw.out;have k1:=HM.out.c1;clear hlt HMk
   go_wp2_with (at_builtin;refine wpList_append_src rfl (.tmp 21) (.tmp 23) 23 23 rfl W.heap.size 44 (.agg #[.int .i64 0,.int .i64 0,.int .i64 0,.int .i64 0,.int .i64 0,.int .i64 0,.int .i64 0,.slice none 0 0,.slice none 0 0]) 9 104 Tryz.underlying23 Tryz.underlying23 Tryz.infoLay rfl (by omega) (.slice a0 j c0) j (probeC j).flatten rfl (by have h:=HM.out.own.alloc (layO l b1 d1 b2 d2 44);rw [probeC_len] at h;exact h) (some ⟨wr.heap.size,0,none⟩) 1 1 (layC l b1 b2 d1 d2) rfl (srcOK_alloc9 wr (layC l b1 b2 d1 d2) _ rfl (layC_one _ _ _ _ _)) (by omega) (by unfold maxLen;omega) (by have:=HM.out.be.size;simp;omega) ?_;intro v' w' hown hg hn2;obtain ⟨av,cv,rfl⟩:=own_form9 hown;have k3:=(HM.out.mid (v':=.slice av (j+1) cv) (c:=layC l b1 b2 d1 d2) hg).2.1;have k4:=(HM.out.mid (v':=.slice av (j+1) cv) (c:=layC l b1 b2 d1 d2) hg).2.2;have k5:w'.cell? ⟨W0.heap.size+1,0,none⟩=some (.slice (some ⟨W0.heap.size,0,none⟩) 1 1):=(by have hbx:=(HM.out.mid (v':=.slice av (j+1) cv) (c:=layC l b1 b2 d1 d2) hg).1;simp [World.cell?,hbx]);have HOwn:=hid hown;have HG:=hid hg;have HN2:=hid hn2;clear hown hg hn2)
   have hst:=HM.out.step (c:=layC l b1 b2 d1 d2) (by rw [probeC_len];exact HOwn.out) HG.out HN2.out;have hbe:=HB1.out.trans (hst.be.mono HB1.out.size);obtain ⟨hrow,h9⟩:=probe_rows (n:=j) (l:=l) (d1:=d1) (d2:=d2) (R1.out.below hbe) (R2.out.below hbe);have hown2:=hst.own;rw [show (probeC j++[layC l b1 b2 d1 d2]).length=j+1 by rw [List.length_append,probeC_len];rfl] at hown2;have hLL:(List.replicate j reluL++[l]).length=j+1:=by simp
   obtain ⟨a9,c9,hv9,hlays⟩:=own_lays (L:=List.replicate j reluL++[l]) hown2 hLL.symm (by omega) (by rw [List.length_append,probeC_len];rfl) hrow h9;have hav:av=a9:=by injection hv9
   rw [<- hav] at hlays;have HLays:=hid hlays;have HVm:=hid (r12Valid (m:=⟨[1],List.replicate j reluL++[l]⟩) 1 cv (H1.out.below hst.be) HLays.out (by
     intro x hx
     rcases List.mem_append.1 hx with h | h
     ·rw [List.eq_of_mem_replicate h];unfold LayRange reluL I64;simp
     ·simp at h;subst h;exact HRg.out) (by
     intro x hx
     rcases List.mem_append.1 hx with h | h
     ·rw [List.eq_of_mem_replicate h];exact ⟨by simp [reluL],by simp [reluL]⟩
     ·simp at h;subst h;exact HLe.out))
   rw [validM_probe,show validL [1]=true by decide,Bool.true_and,HR.out] at HVm;simp only [hLL] at HVm;have HBe:=hid hbe;clear hst hbe hrow h9 hown2 hLL hv9 hlays hav k1 k3 k4 k5 x0 x1 x2 x3 x4 x5 x6 x7 x8 xlt HOwn HG HN2;generalize w'.setCell ⟨W0.heap.size+1,1,none⟩ (.slice av (j+1) cv)=w2 at *
   refine HVm.out.mono ?_
   rintro e w3 ⟨rfl,hb3⟩;have HB3:=htr HBe hb3;clear hb3 HVm;go_wp2;go_ret;exact ⟨rfl,HB3.out⟩
theorem resL_raw {r:List Int × Bool} (h:r.2=true) {R:List Int × Int} (hR:(if r.2 && validL r.1 then (r.1,0) else ([],7))=R):R=resL r.1:=by
 rw [<- hR,h,Bool.true_and];rfl
theorem resL_no {r:List Int × Bool} (h:r.2=false) {R:List Int × Int} (hR:(if r.2 && validL r.1 then (r.1,0) else ([],7))=R):R=([],7):=by
 rw [<- hR,h,Bool.false_and];rfl
theorem currL_take {input s:List Int} {S:List (List Int)} {j:Nat} (h:S[j]? =some s):currL input (S.take (j+1))=s:=by
 have hlt:=(List.getElem?_eq_some_iff.1 h).1;exact currL_last (k:=j) (by rw [List.length_take];omega) (by rw [List.getElem?_take,if_pos (by omega)];exact h)
theorem OutPost.up {w w1 w':World} {p:List Int × Int} {e:Ending} (h:OutPost w1 p e w') (hb:Below w.heap.size w w1):OutPost w p e w':=
 let ⟨⟨a,c,h1,h2,h3⟩,h4⟩:=h;⟨⟨a,c,h1,h2.mono (fun _ _ hx=>Nat.le_trans hb.size hx),h3⟩,hb.trans (h4.mono hb.size)⟩
theorem ints1_alloc (w:World) (x:Int) (T:Nat) (hx:I64 x):Ints (w.alloc (.cells #[.int .i64 x] T)) Any (some ⟨w.heap.size,0,none⟩) [x]:=ints1_of hx (by rw [World.cell?_alloc_at _ _ _ _ rfl];rfl) (by simp)
theorem r13OutA {w:World} {u:Value} {input:List Int} {S:List (List Int)} {l:LayL} {ai ash:Option Addr} (ci cs:Nat) (hi:Ints w Any ai input) (hS:Intss w Any ash S) (hu:LayV w u l) (hr:LayRange l) (hle:LayLe l) (hn:S.length<=1000) (hk:l.kind=1 ∨ l.kind=5 ∨ l.kind=6):
  Calls Tryz.prog 62 #[.slice ai input.length ci,.slice ash S.length cs,u] w (OutPost w (outSL input S l)):=by
 obtain ⟨b1,b2,d1,d2,rfl,r1,r2⟩:=hu.ex;have q1:=hi.len;have q2:=hS.len;have q3:=r1.len;have q4:=r2.len;obtain ⟨HI,HS,HU,HRg,HLe,HN⟩:=hd6 hi hS hu hr hle hn;obtain ⟨HKD,HVi⟩:=hd2 hk (fun W (hb:Below w.heap.size w W)=>r11Valid ci (hi.below hb));generalize hR:outSL input S l=RR;have HR:=hid hR;unfold outSL at hR;have HRd:=hid hR;clear hi hS hu r1 r2 hr hle hR hk
 go_enter Tryz.func62,Tryz.ntmps62
 go_upto_region 1 with fail
 have hb0:=blA w (layO l b1 d1 b2 d2 44);have hx:=Box9.alloc w (.int .i64 l.kind) (.int .i64 l.frm) (.int .i64 l.out) (.int .i64 l.kh) (.int .i64 l.kw) (.int .i64 l.stride) (.int .i64 l.pad) (.slice b1 l.weights.length d1) (.slice b2 l.bias.length d2) 44;generalize w.alloc (layO l b1 d1 b2 d2 44)=W at *;obtain ⟨HB0,HX,HVi2⟩:=hd3 hb0 hx (HVi.out W hb0);clear hb0 hx HVi;obtain ⟨x0,x1,x2,x3,x4,x5,x6,x7,x8,xlt⟩:=HX.out
 cases hvi:validL input with
 | false=>
  have HF:Hid (RR=([],1)):=by unfold Hid;rw [<- HRd.out,hvi];rfl
  rw [hvi] at HVi2;clear hvi
  go_wp2_with fail
  refine HVi2.out.mono ?_
  rintro e w' ⟨rfl,rfl⟩;go_wp2
  go_ret2
  exact outPost_err HF.out HB0.out
 | true=>
  rw [hvi] at HVi2;have HVI:=hid hvi;clear hvi
  go_wp2_with fail
  refine HVi2.out.mono ?_
  rintro e w' ⟨rfl,rfl⟩
  go_wp2_with fail
  refine (r13valid (HU.out.below HB0.out) HRg.out HLe.out S.length HN.out).mono ?_
  rintro e w1 ⟨rfl,hb1⟩;have HB1:=htr HB0 hb1;have HX1:=hid (HX.out.below hb1);clear hb1 x0 x1 x2 x3 x4 x5 x6 x7 x8 xlt HVi2
  cases hok:(decide (S.length+1<=64) && layOK l S.length) with
  | false=>
   have HF:Hid (RR=([],1)):=by unfold Hid;rw [<- HRd.out,hok,Bool.and_false];rfl
   clear hok;go_wp2
   go_ret2
   exact outPost_err HF.out HB1.out
  | true=>
   have HOK:=hid hok;clear hok;go_wp2
   go_loopw [8,9] (fun u i wr=>∃ (j:Nat) (a:Option Addr) (c:Nat),j<=S.length/\i=.int .i64 (j:Int)/\u=.slice a (currL input (S.take j)).length c/\Hid (Ints w1 Any a (currL input (S.take j)))/\Hid ((S.take j).all validL=true)/\Hid (w1=wr)) (fun _ i _=>S.length - (intOf i).toNat)
   case atStart=>exact ⟨0,ai,ci,Nat.zero_le _,rfl,rfl,HI.out.below HB1.out,rfl,rfl⟩
   case round=>
    obtain ⟨j,a,c,hj,rfl,rfl,HA,HV,HW⟩:=hrel;have ew:=HW.out;clear HW;subst ew
    by_cases hlt:j < S.length
    ·obtain ⟨bb,off,s,aj,cj,rfl,hcell,hs,_,hIs,hbb,_⟩:=(HS.out.below HB1.out).pickc hlt;obtain ⟨HTk,HMem,HCu,HVs,HIs⟩:=hd5 (allV_takeS hs) (List.mem_of_getElem? hs) (currL_take (input:=input) hs) (r11Valid cj hIs) hIs;have ql:=hIs.len;clear hs hIs
     cases hv:validL s with
     | false=>
      rw [hv] at HVs;have HF:Hid (RR=([],1)):=by
       unfold Hid;have:S.all validL=false:=by rw [List.all_eq_false];exact ⟨s,HMem.out,by simp [hv]⟩
       rw [<- HRd.out,this,Bool.and_false];rfl
      clear hv
      go_wp2_with fail
      refine HVs.out.mono ?_
      rintro e w' ⟨rfl,rfl⟩;go_wp2
      go_ret2
      exact outPost_err HF.out HB1.out
     | true=>
      rw [hv] at HVs;have HA2:Hid ((S.take (j+1)).all validL=true):=by unfold Hid;rw [HTk.out,HV.out,hv];rfl
      clear hv
      go_wp2_with fail
      refine HVs.out.mono ?_
      rintro e w' ⟨rfl,rfl⟩;go_wp2;go_roundw
      case rel=>exact ⟨j+1,aj,cj,hlt,by go_num,by rw [HCu.out],by unfold Hid;rw [HCu.out];exact HIs.out,HA2.out,by first | rfl | exact True.intro⟩
      case measure=>simp [intOf];omega
    ·obtain rfl:j=S.length:=by omega
     have HAl:Hid (S.all validL=true):=by have:=HV.out;rwa [List.take_length] at this
     rw [List.take_length] at HA ⊢;have hcur:validL (currL input S)=true:=by
      unfold currL
      cases hg:S.getLast? with
      | none=>exact HVI.out
      | some s=>exact List.all_eq_true.1 HAl.out s (List.mem_of_getLast? hg)
     have HRe:Hid ((if (rawL input S l).2 && validL (rawL input S l).1 then ((rawL input S l).1,0) else ([],7))=RR):=by
      have h:=HRd.out;rw [HVI.out,HOK.out,HAl.out,Bool.true_and,Bool.true_and,if_pos rfl] at h;exact h
     have hok2:layOK l S.length=true:=by have:=HOK.out;rw [Bool.and_eq_true] at this;exact this.2
     obtain ⟨HOk2,HCur⟩:=hd2 hok2 hcur;have hcs:=validL_size hcur;obtain ⟨z1,z2⟩:=hcs;have qc:=HA.out.len;have HSz:=hid (rSize c HA.out);obtain ⟨x0,x1,x2,x3,x4,x5,x6,x7,x8,xlt⟩:=HX1.out;generalize hz:sizeL (currL input S)=sz at *;have HZ:=hid hz;clear hcur hok2 hz
     go_wp2_with fail
     refine HSz.out.mono ?_
     rintro e w' ⟨rfl,rfl⟩;have hk:=HKD.out
     rcases hk with hk | hk | hk
     ·have hraw:rawL input S l=([l.out],decide ((l.weights.length:Int)=l.out * sz)):=by unfold rawL;rw [if_pos hk,HZ.out]
      obtain ⟨o1,o2⟩:=ok_one HOk2.out hk;rw [hraw] at HRe;obtain ⟨m1,m2⟩:=mul_bd11 o1 o2 z1 z2
      by_cases he:(l.weights.length:Int)=l.out * sz
      ·have HF:Hid (RR=resL [l.out]):=resL_raw (r:=([l.out],decide ((l.weights.length:Int)=l.out * sz))) (decide_eq_true he) HRe.out;have t1:((l.weights.length:Int) != l.out * sz)=false:=by rw [he];simp
       have t2:decide (¬ (l.weights.length:Int)=l.out * sz)=false:=by simp [he]
       have HAl1:Hid (∀ W:World,Ints (W.alloc (.cells #[.int .i64 l.out] 3)) Any (some ⟨W.heap.size,0,none⟩) [l.out]):=fun W=>ints1_alloc W l.out _ ⟨by omega,by omega⟩
       clear hraw he HRe;have k1:(l.kind==1)=true:=by rw [beq_iff_eq];omega
       clear hk
       go_wp2_with fail
       refine (rResult 1 (HAl1.out _)).mono ?_
       rintro e w3 ⟨⟨a5,c5,rfl,hI5,hc5⟩,hb5⟩;obtain ⟨HI5,HC5,HB5⟩:=hd3 hI5 hc5 hb5;clear hI5 hc5 hb5;go_wp2
       go_ret2
       rw [HF.out];exact OutPost.up (w1:=w1.alloc (.cells #[.int .i64 l.out] 3)) ⟨⟨a5,c5,rfl,HI5.out,HC5.out⟩,HB5.out⟩ (HB1.out.alloc HB1.out.size _)
      ·have HF:Hid (RR=([],7)):=resL_no (r:=([l.out],decide ((l.weights.length:Int)=l.out * sz))) (decide_eq_false he) HRe.out;have t1:((l.weights.length:Int) != l.out * sz)=true:=by rw [bne_iff_ne];exact he
       have t2:decide (¬ (l.weights.length:Int)=l.out * sz)=true:=by simp [he]
       clear hraw he HRe;have k1:(l.kind==1)=true:=by rw [beq_iff_eq];omega
       clear hk;go_wp2
       go_ret2
       exact outPost_err HF.out HB1.out
     ·have hraw:rawL input S l=(currL input S,true):=by unfold rawL;rw [if_neg (by omega),if_neg (by omega),if_neg (by omega),if_neg (by omega),if_neg (by omega)]
      have HF:Hid (RR=resL (currL input S)):=resL_raw (r:=(currL input S,true)) rfl (by have h:=HRe.out;rw [hraw] at h;exact h);clear hraw HRe;have k1:(l.kind==1)=false:=by rw [beq_eq_false_iff_ne];omega
      have k2:(l.kind==2)=false:=by rw [beq_eq_false_iff_ne];omega
      have k3:(l.kind==3)=false:=by rw [beq_eq_false_iff_ne];omega
      have k4:(l.kind==4)=false:=by rw [beq_eq_false_iff_ne];omega
      have k6:(l.kind==6)=false:=by rw [beq_eq_false_iff_ne];omega
      have k7:(l.kind==7)=false:=by rw [beq_eq_false_iff_ne];omega
      clear hk
      go_wp2_with fail
      refine (rResult c HA.out).mono ?_
      rintro e w3 ⟨⟨a5,c5,rfl,hI5,hc5⟩,hb5⟩;obtain ⟨HI5,HC5,HB5⟩:=hd3 hI5 hc5 hb5;clear hI5 hc5 hb5;go_wp2
      go_ret2
      rw [HF.out];exact OutPost.up (w1:=w1) ⟨⟨a5,c5,rfl,HI5.out,HC5.out⟩,HB5.out⟩ HB1.out
     ·have hraw:rawL input S l=([sz],true):=by unfold rawL;rw [if_neg (by omega),if_neg (by omega),if_neg (by omega),if_pos hk,HZ.out]
      have HF:Hid (RR=resL [sz]):=resL_raw (r:=([sz],true)) rfl (by have h:=HRe.out;rw [hraw] at h;exact h);have HAl1:Hid (∀ W:World,Ints (W.alloc (.cells #[.int .i64 sz] 3)) Any (some ⟨W.heap.size,0,none⟩) [sz]):=fun W=>ints1_alloc W sz _ ⟨by omega,by omega⟩
      clear hraw HRe;have k1:(l.kind==1)=false:=by rw [beq_eq_false_iff_ne];omega
      have k2:(l.kind==2)=false:=by rw [beq_eq_false_iff_ne];omega
      have k3:(l.kind==3)=false:=by rw [beq_eq_false_iff_ne];omega
      have k4:(l.kind==4)=false:=by rw [beq_eq_false_iff_ne];omega
      have k6:(l.kind==6)=true:=by rw [beq_iff_eq];omega
      clear hk
      go_wp2_with fail
      refine (rResult 1 (HAl1.out _)).mono ?_
      rintro e w3 ⟨⟨a5,c5,rfl,hI5,hc5⟩,hb5⟩;obtain ⟨HI5,HC5,HB5⟩:=hd3 hI5 hc5 hb5;clear hI5 hc5 hb5;go_wp2
      go_ret2
      rw [HF.out];exact OutPost.up (w1:=w1.alloc (.cells #[.int .i64 sz] 3)) ⟨⟨a5,c5,rfl,HI5.out,HC5.out⟩,HB5.out⟩ (HB1.out.alloc HB1.out.size _)
theorem r13OutC {w:World} {u:Value} {input:List Int} {S:List (List Int)} {l:LayL} {ai ash:Option Addr} (ci cs:Nat) (hi:Ints w Any ai input) (hS:Intss w Any ash S) (hu:LayV w u l) (hr:LayRange l) (hle:LayLe l) (hn:S.length<=1000) (hk:l.kind=7):
  Calls Tryz.prog 62 #[.slice ai input.length ci,.slice ash S.length cs,u] w (OutPost w (outSL input S l)):=by
 obtain ⟨b1,b2,d1,d2,rfl,r1,r2⟩:=hu.ex;have q1:=hi.len;have q2:=hS.len;have q3:=r1.len;have q4:=r2.len;obtain ⟨HI,HS,HU,HRg,HLe,HN⟩:=hd6 hi hS hu hr hle hn;obtain ⟨HKD,HVi⟩:=hd2 hk (fun W (hb:Below w.heap.size w W)=>r11Valid ci (hi.below hb));generalize hR:outSL input S l=RR;have HR:=hid hR;unfold outSL at hR;have HRd:=hid hR;clear hi hS hu r1 r2 hr hle hR hk
 go_enter Tryz.func62,Tryz.ntmps62
 go_upto_region 1 with fail
 have hb0:=blA w (layO l b1 d1 b2 d2 44);have hx:=Box9.alloc w (.int .i64 l.kind) (.int .i64 l.frm) (.int .i64 l.out) (.int .i64 l.kh) (.int .i64 l.kw) (.int .i64 l.stride) (.int .i64 l.pad) (.slice b1 l.weights.length d1) (.slice b2 l.bias.length d2) 44;generalize w.alloc (layO l b1 d1 b2 d2 44)=W at *;obtain ⟨HB0,HX,HVi2⟩:=hd3 hb0 hx (HVi.out W hb0);clear hb0 hx HVi;obtain ⟨x0,x1,x2,x3,x4,x5,x6,x7,x8,xlt⟩:=HX.out
 cases hvi:validL input with
 | false=>
  have HF:Hid (RR=([],1)):=by unfold Hid;rw [<- HRd.out,hvi];rfl
  rw [hvi] at HVi2;clear hvi
  go_wp2_with fail
  refine HVi2.out.mono ?_
  rintro e w' ⟨rfl,rfl⟩;go_wp2
  go_ret2
  exact outPost_err HF.out HB0.out
 | true=>
  rw [hvi] at HVi2;have HVI:=hid hvi;clear hvi
  go_wp2_with fail
  refine HVi2.out.mono ?_
  rintro e w' ⟨rfl,rfl⟩
  go_wp2_with fail
  refine (r13valid (HU.out.below HB0.out) HRg.out HLe.out S.length HN.out).mono ?_
  rintro e w1 ⟨rfl,hb1⟩;have HB1:=htr HB0 hb1;have HX1:=hid (HX.out.below hb1);clear hb1 x0 x1 x2 x3 x4 x5 x6 x7 x8 xlt HVi2
  cases hok:(decide (S.length+1<=64) && layOK l S.length) with
  | false=>
   have HF:Hid (RR=([],1)):=by unfold Hid;rw [<- HRd.out,hok,Bool.and_false];rfl
   clear hok;go_wp2
   go_ret2
   exact outPost_err HF.out HB1.out
  | true=>
   have HOK:=hid hok;clear hok;go_wp2
   go_loopw [8,9] (fun u i wr=>∃ (j:Nat) (a:Option Addr) (c:Nat),j<=S.length/\i=.int .i64 (j:Int)/\u=.slice a (currL input (S.take j)).length c/\Hid (Ints w1 Any a (currL input (S.take j)))/\Hid ((S.take j).all validL=true)/\Hid (w1=wr)) (fun _ i _=>S.length - (intOf i).toNat)
   case atStart=>exact ⟨0,ai,ci,Nat.zero_le _,rfl,rfl,HI.out.below HB1.out,rfl,rfl⟩
   case round=>
    obtain ⟨j,a,c,hj,rfl,rfl,HA,HV,HW⟩:=hrel;have ew:=HW.out;clear HW;subst ew
    by_cases hlt:j < S.length
    ·obtain ⟨bb,off,s,aj,cj,rfl,hcell,hs,_,hIs,hbb,_⟩:=(HS.out.below HB1.out).pickc hlt;obtain ⟨HTk,HMem,HCu,HVs,HIs⟩:=hd5 (allV_takeS hs) (List.mem_of_getElem? hs) (currL_take (input:=input) hs) (r11Valid cj hIs) hIs;have ql:=hIs.len;clear hs hIs
     cases hv:validL s with
     | false=>
      rw [hv] at HVs;have HF:Hid (RR=([],1)):=by
       unfold Hid;have:S.all validL=false:=by rw [List.all_eq_false];exact ⟨s,HMem.out,by simp [hv]⟩
       rw [<- HRd.out,this,Bool.and_false];rfl
      clear hv
      go_wp2_with fail
      refine HVs.out.mono ?_
      rintro e w' ⟨rfl,rfl⟩;go_wp2
      go_ret2
      exact outPost_err HF.out HB1.out
     | true=>
      rw [hv] at HVs;have HA2:Hid ((S.take (j+1)).all validL=true):=by unfold Hid;rw [HTk.out,HV.out,hv];rfl
      clear hv
      go_wp2_with fail
      refine HVs.out.mono ?_
      rintro e w' ⟨rfl,rfl⟩;go_wp2;go_roundw
      case rel=>exact ⟨j+1,aj,cj,hlt,by go_num,by rw [HCu.out],by unfold Hid;rw [HCu.out];exact HIs.out,HA2.out,by first | rfl | exact True.intro⟩
      case measure=>simp [intOf];omega
    ·obtain rfl:j=S.length:=by omega
     have HAl:Hid (S.all validL=true):=by have:=HV.out;rwa [List.take_length] at this
     rw [List.take_length] at HA ⊢;have hcur:validL (currL input S)=true:=by
      unfold currL
      cases hg:S.getLast? with
      | none=>exact HVI.out
      | some s=>exact List.all_eq_true.1 HAl.out s (List.mem_of_getLast? hg)
     have HRe:Hid ((if (rawL input S l).2 && validL (rawL input S l).1 then ((rawL input S l).1,0) else ([],7))=RR):=by
      have h:=HRd.out;rw [HVI.out,HOK.out,HAl.out,Bool.true_and,Bool.true_and,if_pos rfl] at h;exact h
     have hok2:layOK l S.length=true:=by have:=HOK.out;rw [Bool.and_eq_true] at this;exact this.2
     obtain ⟨HOk2,HCur⟩:=hd2 hok2 hcur;have hcs:=validL_size hcur;obtain ⟨z1,z2⟩:=hcs;have qc:=HA.out.len;have HSz:=hid (rSize c HA.out);obtain ⟨x0,x1,x2,x3,x4,x5,x6,x7,x8,xlt⟩:=HX1.out;generalize hz:sizeL (currL input S)=sz at *;have HZ:=hid hz;clear hcur hok2 hz
     go_wp2_with fail
     refine HSz.out.mono ?_
     rintro e w' ⟨rfl,rfl⟩;have hk:=HKD.out;have hraw:rawL input S l=(currL input S,sameL (if 0<=l.frm then S.getD l.frm.toNat [] else input) (currL input S)):=by unfold rawL;rw [if_neg (by omega),if_neg (by omega),if_neg (by omega),if_neg (by omega),if_pos hk]
     have o1:=ok_seven HOk2.out hk;rw [hraw] at HRe;clear hraw;have k1:(l.kind==1)=false:=by rw [beq_eq_false_iff_ne];omega
     have k2:(l.kind==2)=false:=by rw [beq_eq_false_iff_ne];omega
     have k3:(l.kind==3)=false:=by rw [beq_eq_false_iff_ne];omega
     have k4:(l.kind==4)=false:=by rw [beq_eq_false_iff_ne];omega
     have k6:(l.kind==6)=false:=by rw [beq_eq_false_iff_ne];omega
     have k7:(l.kind==7)=true:=by rw [beq_iff_eq];omega
     clear hk;have HIn9:Hid (∀ {x:List Int} {ax:Option Addr} (cx:Nat),Ints w1 Any ax x->Calls Tryz.prog 97 #[.slice ax x.length cx,.slice a (currL input S).length c] w1 fun e w'=>e=.returned (.bool (sameL x (currL input S)))/\Below w1.heap.size w1 w'):=fun cx hx=>(rInts cx c hx HA.out).mono fun e1 w' ⟨h1,n,h2⟩=>⟨h1,h2 ▸ Below.drewN_refl _ _⟩
     by_cases hf:0<=l.frm
     ·obtain ⟨k,hkk⟩:∃ k:Nat,l.frm=(k:Int):=⟨l.frm.toNat,by omega⟩
      have hkl:k < S.length:=by omega
      obtain ⟨bb,off,o,aj,cj,rfl,hcell,hl,hcj,hIo,hbb,_⟩:=(HS.out.below HB1.out).pickc hkl;have hcs0:(if 0<=l.frm then S.getD l.frm.toNat [] else input)=o:=by rw [if_pos hf,hkk,Int.toNat_natCast,List.getD_eq_getElem?_getD,hl];rfl
      have HIo:=hid hIo;have qo:=hIo.len;have hf2:(0:Int)<=(k:Int):=by omega
      rw [hkk] at x1;have HKK:=hid hkk;clear hl hIo hkk hf o1;have HIt:=hid (HIn9.out cj HIo.out)
      cases hs:sameL o (currL input S) with
      | false=>
       have HF:Hid (RR=([],7)):=resL_no (r:=(currL input S,sameL (if 0<=l.frm then S.getD l.frm.toNat [] else input) (currL input S))) (by show sameL _ _=false;rw [hcs0];exact hs) HRe.out;rw [hs] at HIt;clear hs hcs0
       go_wp2_with fail
       refine HIt.out.mono ?_
       rintro e w' ⟨rfl,hb9⟩;have HB9:=htr HB1 hb9;clear hb9 x0 x1 x2 x3 x4 x5 x6 x7 x8;go_wp2
       go_ret2
       exact outPost_err HF.out HB9.out
      | true=>
       have HF:Hid (RR=resL (currL input S)):=resL_raw (r:=(currL input S,sameL (if 0<=l.frm then S.getD l.frm.toNat [] else input) (currL input S))) (by show sameL _ _=true;rw [hcs0];exact hs) HRe.out;rw [hs] at HIt;clear hs hcs0
       go_wp2_with fail
       refine HIt.out.mono ?_
       rintro e w9 ⟨rfl,hb9⟩;have HB9:=htr HB1 hb9;have HA9:=hid (HA.out.below hb9);clear hb9 x0 x1 x2 x3 x4 x5 x6 x7 x8
       go_wp2_with fail
       refine (rResult c HA9.out).mono ?_
       rintro e w3 ⟨⟨a5,c5,rfl,hI5,hc5⟩,hb5⟩;obtain ⟨HI5,HC5,HB5⟩:=hd3 hI5 hc5 hb5;clear hI5 hc5 hb5;go_wp2
       go_ret2
       rw [HF.out];exact OutPost.up (w1:=w9) ⟨⟨a5,c5,rfl,HI5.out,HC5.out⟩,HB5.out⟩ HB9.out
     ·have hcs0:(if 0<=l.frm then S.getD l.frm.toNat [] else input)=input:=if_neg hf;have HIi:=hid (HI.out.below HB1.out);clear o1;have HIt:=hid (HIn9.out ci HIi.out)
      cases hs:sameL input (currL input S) with
      | false=>
       have HF:Hid (RR=([],7)):=resL_no (r:=(currL input S,sameL (if 0<=l.frm then S.getD l.frm.toNat [] else input) (currL input S))) (by show sameL _ _=false;rw [hcs0];exact hs) HRe.out;rw [hs] at HIt;clear hs hcs0
       go_wp2_with fail
       refine HIt.out.mono ?_
       rintro e w' ⟨rfl,hb9⟩;have HB9:=htr HB1 hb9;clear hb9 x0 x1 x2 x3 x4 x5 x6 x7 x8;go_wp2
       go_ret2
       exact outPost_err HF.out HB9.out
      | true=>
       have HF:Hid (RR=resL (currL input S)):=resL_raw (r:=(currL input S,sameL (if 0<=l.frm then S.getD l.frm.toNat [] else input) (currL input S))) (by show sameL _ _=true;rw [hcs0];exact hs) HRe.out;rw [hs] at HIt;clear hs hcs0
       go_wp2_with fail
       refine HIt.out.mono ?_
       rintro e w9 ⟨rfl,hb9⟩;have HB9:=htr HB1 hb9;have HA9:=hid (HA.out.below hb9);clear hb9 x0 x1 x2 x3 x4 x5 x6 x7 x8
       go_wp2_with fail
       refine (rResult c HA9.out).mono ?_
       rintro e w3 ⟨⟨a5,c5,rfl,hI5,hc5⟩,hb5⟩;obtain ⟨HI5,HC5,HB5⟩:=hd3 hI5 hc5 hb5;clear hI5 hc5 hb5;go_wp2
       go_ret2
       rw [HF.out];exact OutPost.up (w1:=w9) ⟨⟨a5,c5,rfl,HI5.out,HC5.out⟩,HB5.out⟩ HB9.out
theorem r13OutB {w:World} {u:Value} {input:List Int} {S:List (List Int)} {l:LayL} {ai ash:Option Addr} (ci cs:Nat) (hi:Ints w Any ai input) (hS:Intss w Any ash S) (hu:LayV w u l) (hr:LayRange l) (hle:LayLe l) (hn:S.length<=1000) (hk:l.kind=2 ∨ l.kind=3 ∨ l.kind=4):
  Calls Tryz.prog 62 #[.slice ai input.length ci,.slice ash S.length cs,u] w (OutPost w (outSL input S l)):=by
 obtain ⟨b1,b2,d1,d2,rfl,r1,r2⟩:=hu.ex;have q1:=hi.len;have q2:=hS.len;have q3:=r1.len;have q4:=r2.len;obtain ⟨HI,HS,HU,HRg,HLe,HN⟩:=hd6 hi hS hu hr hle hn;obtain ⟨HKD,HVi⟩:=hd2 hk (fun W (hb:Below w.heap.size w W)=>r11Valid ci (hi.below hb));generalize hR:outSL input S l=RR;have HR:=hid hR;unfold outSL at hR;have HRd:=hid hR;clear hi hS hu r1 r2 hr hle hR hk
 go_enter Tryz.func62,Tryz.ntmps62
 go_upto_region 1 with fail
 have hb0:=blA w (layO l b1 d1 b2 d2 44);have hx:=Box9.alloc w (.int .i64 l.kind) (.int .i64 l.frm) (.int .i64 l.out) (.int .i64 l.kh) (.int .i64 l.kw) (.int .i64 l.stride) (.int .i64 l.pad) (.slice b1 l.weights.length d1) (.slice b2 l.bias.length d2) 44;generalize w.alloc (layO l b1 d1 b2 d2 44)=W at *;obtain ⟨HB0,HX,HVi2⟩:=hd3 hb0 hx (HVi.out W hb0);clear hb0 hx HVi;obtain ⟨x0,x1,x2,x3,x4,x5,x6,x7,x8,xlt⟩:=HX.out
 cases hvi:validL input with
 | false=>
  have HF:Hid (RR=([],1)):=by unfold Hid;rw [<- HRd.out,hvi];rfl
  rw [hvi] at HVi2;clear hvi
  go_wp2_with fail
  refine HVi2.out.mono ?_
  rintro e w' ⟨rfl,rfl⟩;go_wp2
  go_ret2
  exact outPost_err HF.out HB0.out
 | true=>
  rw [hvi] at HVi2;have HVI:=hid hvi;clear hvi
  go_wp2_with fail
  refine HVi2.out.mono ?_
  rintro e w' ⟨rfl,rfl⟩
  go_wp2_with fail
  refine (r13valid (HU.out.below HB0.out) HRg.out HLe.out S.length HN.out).mono ?_
  rintro e w1 ⟨rfl,hb1⟩;have HB1:=htr HB0 hb1;have HX1:=hid (HX.out.below hb1);clear hb1 x0 x1 x2 x3 x4 x5 x6 x7 x8 xlt HVi2
  cases hok:(decide (S.length+1<=64) && layOK l S.length) with
  | false=>
   have HF:Hid (RR=([],1)):=by unfold Hid;rw [<- HRd.out,hok,Bool.and_false];rfl
   clear hok;go_wp2
   go_ret2
   exact outPost_err HF.out HB1.out
  | true=>
   have HOK:=hid hok;clear hok;go_wp2
   go_loopw [8,9] (fun u i wr=>∃ (j:Nat) (a:Option Addr) (c:Nat),j<=S.length/\i=.int .i64 (j:Int)/\u=.slice a (currL input (S.take j)).length c/\Hid (Ints w1 Any a (currL input (S.take j)))/\Hid ((S.take j).all validL=true)/\Hid (w1=wr)) (fun _ i _=>S.length - (intOf i).toNat)
   case atStart=>exact ⟨0,ai,ci,Nat.zero_le _,rfl,rfl,HI.out.below HB1.out,rfl,rfl⟩
   case round=>
    obtain ⟨j,a,c,hj,rfl,rfl,HA,HV,HW⟩:=hrel;have ew:=HW.out;clear HW;subst ew
    by_cases hlt:j < S.length
    ·obtain ⟨bb,off,s,aj,cj,rfl,hcell,hs,_,hIs,hbb,_⟩:=(HS.out.below HB1.out).pickc hlt;obtain ⟨HTk,HMem,HCu,HVs,HIs⟩:=hd5 (allV_takeS hs) (List.mem_of_getElem? hs) (currL_take (input:=input) hs) (r11Valid cj hIs) hIs;have ql:=hIs.len;clear hs hIs
     cases hv:validL s with
     | false=>
      rw [hv] at HVs;have HF:Hid (RR=([],1)):=by
       unfold Hid;have:S.all validL=false:=by rw [List.all_eq_false];exact ⟨s,HMem.out,by simp [hv]⟩
       rw [<- HRd.out,this,Bool.and_false];rfl
      clear hv
      go_wp2_with fail
      refine HVs.out.mono ?_
      rintro e w' ⟨rfl,rfl⟩;go_wp2
      go_ret2
      exact outPost_err HF.out HB1.out
     | true=>
      rw [hv] at HVs;have HA2:Hid ((S.take (j+1)).all validL=true):=by unfold Hid;rw [HTk.out,HV.out,hv];rfl
      clear hv
      go_wp2_with fail
      refine HVs.out.mono ?_
      rintro e w' ⟨rfl,rfl⟩;go_wp2;go_roundw
      case rel=>exact ⟨j+1,aj,cj,hlt,by go_num,by rw [HCu.out],by unfold Hid;rw [HCu.out];exact HIs.out,HA2.out,by first | rfl | exact True.intro⟩
      case measure=>simp [intOf];omega
    ·obtain rfl:j=S.length:=by omega
     have HAl:Hid (S.all validL=true):=by have:=HV.out;rwa [List.take_length] at this
     rw [List.take_length] at HA ⊢;have hcur:validL (currL input S)=true:=by
      unfold currL
      cases hg:S.getLast? with
      | none=>exact HVI.out
      | some s=>exact List.all_eq_true.1 HAl.out s (List.mem_of_getLast? hg)
     have HRe:Hid ((if (rawL input S l).2 && validL (rawL input S l).1 then ((rawL input S l).1,0) else ([],7))=RR):=by
      have h:=HRd.out;rw [HVI.out,HOK.out,HAl.out,Bool.true_and,Bool.true_and,if_pos rfl] at h;exact h
     have hok2:layOK l S.length=true:=by have:=HOK.out;rw [Bool.and_eq_true] at this;exact this.2
     obtain ⟨HOk2,HCur⟩:=hd2 hok2 hcur;have hcs:=validL_size hcur;obtain ⟨z1,z2⟩:=hcs;have qc:=HA.out.len;have HSz:=hid (rSize c HA.out);obtain ⟨x0,x1,x2,x3,x4,x5,x6,x7,x8,xlt⟩:=HX1.out;generalize hz:sizeL (currL input S)=sz at *;have HZ:=hid hz;clear hcur hok2 hz
     go_wp2_with fail
     refine HSz.out.mono ?_
     rintro e w' ⟨rfl,rfl⟩;have hk:=HKD.out;have HWn:=hid (rWin c l.kh l.kw l.stride l.pad HA.out);obtain ⟨⟨y1,y2⟩,y3,y4⟩:=winsL_bd (currL input S) l;have hlen:=(validL_len HCur.out).1;obtain ⟨bs,os,s0,rfl,cs0,hx0,_,hbs,_,s1,s2⟩:=HA.out.pick2 (k:=0) (by omega);have hs0:(currL input S).getD 0 0=s0:=by rw [List.getD_eq_getElem?_getD,hx0];rfl
     have HS0:=hid hs0;have hs12:1<=s0/\s0<=16384:=validL_mem HCur.out _ (List.mem_of_getElem? hx0);rw [Nat.add_zero] at cs0;obtain ⟨HC0,HCl⟩:=hd2 cs0 hbs;have HP:Hid (∀ e w',WinPost w1 (currL input S) l.kh l.kw l.stride l.pad e w'->(∃ a c,e=.returned (.tuple #[.slice a (windowsL (currL input S) l.kh l.kw l.stride l.pad).1.length c,.int .i64 (winsL (currL input S) l).1,.int .i64 (winsL (currL input S) l).2.1,.int .i64 (winsL (currL input S) l).2.2]))/\Below w1.heap.size w1 w'):=fun e w' ⟨a,c,h1,_,h3⟩=>⟨⟨a,c,h1⟩,h3⟩
     have HWin:=hid (HWn.out.mono fun e w' h=>HP.out e w' h);generalize hZ:winsL (currL input S) l=Z at *;have HZ2:=hid hZ;obtain ⟨zR,zC,zE⟩:=Z;simp only at y1 y2 y3 y4 HWin;generalize (windowsL (currL input S) l.kh l.kw l.stride l.pad).1.length=wl at *;have hpos:0 < (currL input S).length:=hlen;have HP0:=hid hpos;clear hZ hs0 hx0 cs0 hbs hlen HP HWn
     rcases hk with hk | hk | hk
     ·have hraw:rawL input S l=([l.out,zR,zC],decide (zE=0) && decide ((l.weights.length:Int)=l.out * s0 * l.kh * l.kw)):=by unfold rawL;rw [if_neg (by omega),if_pos hk,HZ2.out,HS0.out]
      obtain ⟨⟨o1,o2⟩,⟨g1,g2⟩,g3,g4⟩:=ok_two HOk2.out hk;rw [hraw] at HRe;clear hraw;have k1:(l.kind==1)=false:=by rw [beq_eq_false_iff_ne];omega
      have k2:(l.kind==2)=true:=by rw [beq_iff_eq];omega
      clear hk
      by_cases hE:zE=0
      ·have t1:(zE != 0)=false:=by rw [hE];rfl
       have t2:(zE==0)=true:=by rw [hE];rfl
       have t3:decide (¬ zE=0)=false:=by simp [hE]
       go_wp2_with fail
       refine HWin.out.mono ?_
       rintro e w2 ⟨⟨aw,cw,rfl⟩,hb2⟩;have HB2:=htr HB1 hb2;have HX2:=hid (HX1.out.below hb2);have hc2:=(hb2.cell (p:=⟨bs,os,none⟩) HCl.out).trans HC0.out;have hl2:bs < w2.heap.size:=Nat.lt_of_lt_of_le HCl.out hb2.size;clear hb2 x0 x1 x2 x3 x4 x5 x6 x7 x8 xlt;obtain ⟨x0,x1,x2,x3,x4,x5,x6,x7,x8,xlt⟩:=HX2.out;have f0:=ext_cell x0 xlt;have f2:=ext_cell x2 xlt;have f3:=ext_cell x3 xlt;have f4:=ext_cell x4 xlt;have f7:=ext_cell x7 xlt;have fs:=ext_cell hc2 hl2;have HHE:=hid hE;clear hE;obtain ⟨⟨m1,m2⟩,⟨m3,m4⟩,m5,m6⟩:=conv_bd2 o1 o2 hs12.1 hs12.2 g1 g2 g3 g4;obtain ⟨p1,hp1⟩:∃ p1,l.out * s0=p1:=⟨_,rfl⟩
       obtain ⟨p2,hp2⟩:∃ p2,p1 * l.kh=p2:=⟨_,rfl⟩
       obtain ⟨p3,hp3⟩:∃ p3,p2 * l.kw=p3:=⟨_,rfl⟩
       rw [hp1] at m1 m2 m3 m4 m5 m6;rw [hp2] at m3 m4 m5 m6;rw [hp3] at m5 m6;have u1:IntKind.i64.wrap (l.out * s0)=p1:=by rw [hp1];exact IntWalk.i64_in _ (by omega)
       have u2:IntKind.i64.wrap (p1 * l.kh)=p2:=by rw [hp2];exact IntWalk.i64_in _ (by omega)
       have u3:IntKind.i64.wrap (p2 * l.kw)=p3:=by rw [hp3];exact IntWalk.i64_in _ (by omega)
       rw [hp1,hp2,hp3,HHE.out] at HRe;clear hp1 hp2 hp3 m1 m2 m3 m4 m5 m6
       by_cases he:(l.weights.length:Int)=p3
       ·have HF:Hid (RR=resL [l.out,zR,zC]):=resL_raw (r:=([l.out,zR,zC],decide ((0:Int)=0) && decide ((l.weights.length:Int)=p3))) (by simp [he]) HRe.out;have v1:((l.weights.length:Int) != p3)=false:=by rw [he];simp
        have HAl3:Hid (∀ W:World,Ints (W.alloc (.cells #[.int .i64 l.out,.int .i64 zR,.int .i64 zC] 3)) Any (some ⟨W.heap.size,0,none⟩) [l.out,zR,zC]):=fun W=>ints3_alloc W l.out zR zC _ ⟨by omega,by omega⟩ ⟨by omega,by omega⟩ ⟨by omega,by omega⟩
        clear he HRe;go_wp2
        refine wp_region_quiet_ext (by kernel_rfl) (by kernel_rfl) ?_
        repeat (go_big_quiet_step (fail))
        refine wpQuiet_nil ?_
        intro _ hw';obtain ⟨nq,hw''⟩:=hw';subst hw'';obtain ⟨HB3,HX3⟩:=hd2 (HB2.out.trans ((ext_below w2 nq).mono HB2.out.size)) (HX2.out.below (ext_below w2 nq));have hc3:=((ext_below w2 nq).cell (p:=⟨bs,os,none⟩) hl2).trans hc2;clear f0 f2 f3 f4 f7 fs x0 x1 x2 x3 x4 x5 x6 x7 x8 xlt hc2 hl2;generalize ext w2 nq=w8 at *;obtain ⟨x0,x1,x2,x3,x4,x5,x6,x7,x8,xlt⟩:=HX3.out
        go_wp2_with fail
        refine (rResult 3 (HAl3.out _)).mono ?_
        rintro e w3 ⟨⟨a5,c5,rfl,hI5,hc5⟩,hb5⟩;obtain ⟨HI5,HC5,HB5⟩:=hd3 hI5 hc5 hb5;clear hI5 hc5 hb5;go_wp2
        go_ret2
        rw [HF.out];exact OutPost.up (w1:=w8.alloc (.cells #[.int .i64 l.out,.int .i64 zR,.int .i64 zC] 3)) ⟨⟨a5,c5,rfl,HI5.out,HC5.out⟩,HB5.out⟩ (HB3.out.alloc HB3.out.size _)
       ·have HF:Hid (RR=([],7)):=resL_no (r:=([l.out,zR,zC],decide ((0:Int)=0) && decide ((l.weights.length:Int)=p3))) (by simp [he]) HRe.out;have v1:((l.weights.length:Int) != p3)=true:=by rw [bne_iff_ne];exact he
        clear he HRe;go_wp2
        refine wp_region_quiet_ext (by kernel_rfl) (by kernel_rfl) ?_
        repeat (go_big_quiet_step (fail))
        refine wpQuiet_nil ?_
        intro _ hw';obtain ⟨nq,hw''⟩:=hw';subst hw'';obtain ⟨HB3,HX3⟩:=hd2 (HB2.out.trans ((ext_below w2 nq).mono HB2.out.size)) (HX2.out.below (ext_below w2 nq));have hc3:=((ext_below w2 nq).cell (p:=⟨bs,os,none⟩) hl2).trans hc2;clear f0 f2 f3 f4 f7 fs x0 x1 x2 x3 x4 x5 x6 x7 x8 xlt hc2 hl2;generalize ext w2 nq=w8 at *;obtain ⟨x0,x1,x2,x3,x4,x5,x6,x7,x8,xlt⟩:=HX3.out;go_wp2
        go_ret2
        exact outPost_err HF.out HB3.out
      ·have t1:(zE != 0)=true:=by rw [bne_iff_ne];exact hE
       have t2:(zE==0)=false:=by rw [beq_eq_false_iff_ne];exact hE
       have t3:decide (¬ zE=0)=true:=by simp [hE]
       have HF:Hid (RR=([],7)):=resL_no (r:=([l.out,zR,zC],decide (zE=0) && decide ((l.weights.length:Int)=l.out * s0 * l.kh * l.kw))) (by simp [hE]) HRe.out
       go_wp2_with fail
       refine HWin.out.mono ?_
       rintro e w2 ⟨⟨aw,cw,rfl⟩,hb2⟩;have HB2:=htr HB1 hb2;have HX2:=hid (HX1.out.below hb2);clear hb2 x0 x1 x2 x3 x4 x5 x6 x7 x8 xlt hE HRe;go_wp2
       refine wp_region_quiet_ext (by kernel_rfl) (by kernel_rfl) ?_
       repeat (go_big_quiet_step (fail))
       refine wpQuiet_nil ?_
       intro _ hw';obtain ⟨nq,hw''⟩:=hw';subst hw'';have HB3:=hid (HB2.out.trans ((ext_below w2 nq).mono HB2.out.size));generalize ext w2 nq=w8 at *;go_wp2
       go_ret2
       exact outPost_err HF.out HB3.out
     ·have hraw:rawL input S l=([s0,zR,zC],decide (zE=0)):=by unfold rawL;rw [if_neg (by omega),if_neg (by omega),if_pos (by omega),HZ2.out,HS0.out]
      rw [hraw] at HRe;clear hraw;have k1:(l.kind==1)=false:=by rw [beq_eq_false_iff_ne];omega
      have k2:(l.kind==2)=false:=by rw [beq_eq_false_iff_ne];omega
      have k3:(l.kind==3)=true:=by rw [beq_iff_eq];omega
      clear hk
      by_cases hE:zE=0
      ·have t1:(zE != 0)=false:=by rw [hE];rfl
       have t2:(zE==0)=true:=by rw [hE];rfl
       have t3:decide (¬ zE=0)=false:=by simp [hE]
       go_wp2_with fail
       refine HWin.out.mono ?_
       rintro e w2 ⟨⟨aw,cw,rfl⟩,hb2⟩;have HB2:=htr HB1 hb2;have HX2:=hid (HX1.out.below hb2);have hc2:=(hb2.cell (p:=⟨bs,os,none⟩) HCl.out).trans HC0.out;have hl2:bs < w2.heap.size:=Nat.lt_of_lt_of_le HCl.out hb2.size;clear hb2 x0 x1 x2 x3 x4 x5 x6 x7 x8 xlt;obtain ⟨x0,x1,x2,x3,x4,x5,x6,x7,x8,xlt⟩:=HX2.out;have f0:=ext_cell x0 xlt;have f2:=ext_cell x2 xlt;have f3:=ext_cell x3 xlt;have f4:=ext_cell x4 xlt;have f7:=ext_cell x7 xlt;have fs:=ext_cell hc2 hl2;have HHE:=hid hE;clear hE;have HF:Hid (RR=resL [s0,zR,zC]):=resL_raw (r:=([s0,zR,zC],decide (zE=0))) (decide_eq_true HHE.out) HRe.out;have HAl3:Hid (∀ W:World,Ints (W.alloc (.cells #[.int .i64 s0,.int .i64 zR,.int .i64 zC] 3)) Any (some ⟨W.heap.size,0,none⟩) [s0,zR,zC]):=fun W=>ints3_alloc W s0 zR zC _ ⟨s1,s2⟩ ⟨by omega,by omega⟩ ⟨by omega,by omega⟩
       clear HRe;go_wp2
       refine wp_region_quiet_ext (by kernel_rfl) (by kernel_rfl) ?_
       repeat (go_big_quiet_step (fail))
       refine wpQuiet_nil ?_
       intro _ hw';obtain ⟨nq,hw''⟩:=hw';subst hw'';obtain ⟨HB3,HX3⟩:=hd2 (HB2.out.trans ((ext_below w2 nq).mono HB2.out.size)) (HX2.out.below (ext_below w2 nq));have hc3:=((ext_below w2 nq).cell (p:=⟨bs,os,none⟩) hl2).trans hc2;clear f0 f2 f3 f4 f7 fs x0 x1 x2 x3 x4 x5 x6 x7 x8 xlt hc2 hl2;generalize ext w2 nq=w8 at *;obtain ⟨x0,x1,x2,x3,x4,x5,x6,x7,x8,xlt⟩:=HX3.out
       go_wp2_with fail
       refine (rResult 3 (HAl3.out _)).mono ?_
       rintro e w3 ⟨⟨a5,c5,rfl,hI5,hc5⟩,hb5⟩;obtain ⟨HI5,HC5,HB5⟩:=hd3 hI5 hc5 hb5;clear hI5 hc5 hb5;go_wp2
       go_ret2
       rw [HF.out];exact OutPost.up (w1:=w8.alloc (.cells #[.int .i64 s0,.int .i64 zR,.int .i64 zC] 3)) ⟨⟨a5,c5,rfl,HI5.out,HC5.out⟩,HB5.out⟩ (HB3.out.alloc HB3.out.size _)
      ·have t1:(zE != 0)=true:=by rw [bne_iff_ne];exact hE
       have t2:(zE==0)=false:=by rw [beq_eq_false_iff_ne];exact hE
       have t3:decide (¬ zE=0)=true:=by simp [hE]
       have HF:Hid (RR=([],7)):=resL_no (r:=([s0,zR,zC],decide (zE=0))) (by simp [hE]) HRe.out
       go_wp2_with fail
       refine HWin.out.mono ?_
       rintro e w2 ⟨⟨aw,cw,rfl⟩,hb2⟩;have HB2:=htr HB1 hb2;have HX2:=hid (HX1.out.below hb2);clear hb2 x0 x1 x2 x3 x4 x5 x6 x7 x8 xlt hE HRe;go_wp2
       refine wp_region_quiet_ext (by kernel_rfl) (by kernel_rfl) ?_
       repeat (go_big_quiet_step (fail))
       refine wpQuiet_nil ?_
       intro _ hw';obtain ⟨nq,hw''⟩:=hw';subst hw'';have HB3:=hid (HB2.out.trans ((ext_below w2 nq).mono HB2.out.size));generalize ext w2 nq=w8 at *;go_wp2
       go_ret2
       exact outPost_err HF.out HB3.out
     ·have hraw:rawL input S l=([s0,zR,zC],decide (zE=0)):=by unfold rawL;rw [if_neg (by omega),if_neg (by omega),if_pos (by omega),HZ2.out,HS0.out]
      rw [hraw] at HRe;clear hraw;have k1:(l.kind==1)=false:=by rw [beq_eq_false_iff_ne];omega
      have k2:(l.kind==2)=false:=by rw [beq_eq_false_iff_ne];omega
      have k3:(l.kind==3)=false:=by rw [beq_eq_false_iff_ne];omega
      have k4:(l.kind==4)=true:=by rw [beq_iff_eq];omega
      clear hk
      by_cases hE:zE=0
      ·have t1:(zE != 0)=false:=by rw [hE];rfl
       have t2:(zE==0)=true:=by rw [hE];rfl
       have t3:decide (¬ zE=0)=false:=by simp [hE]
       go_wp2_with fail
       refine HWin.out.mono ?_
       rintro e w2 ⟨⟨aw,cw,rfl⟩,hb2⟩;have HB2:=htr HB1 hb2;have HX2:=hid (HX1.out.below hb2);have hc2:=(hb2.cell (p:=⟨bs,os,none⟩) HCl.out).trans HC0.out;have hl2:bs < w2.heap.size:=Nat.lt_of_lt_of_le HCl.out hb2.size;clear hb2 x0 x1 x2 x3 x4 x5 x6 x7 x8 xlt;obtain ⟨x0,x1,x2,x3,x4,x5,x6,x7,x8,xlt⟩:=HX2.out;have f0:=ext_cell x0 xlt;have f2:=ext_cell x2 xlt;have f3:=ext_cell x3 xlt;have f4:=ext_cell x4 xlt;have f7:=ext_cell x7 xlt;have fs:=ext_cell hc2 hl2;have HHE:=hid hE;clear hE;have HF:Hid (RR=resL [s0,zR,zC]):=resL_raw (r:=([s0,zR,zC],decide (zE=0))) (decide_eq_true HHE.out) HRe.out;have HAl3:Hid (∀ W:World,Ints (W.alloc (.cells #[.int .i64 s0,.int .i64 zR,.int .i64 zC] 3)) Any (some ⟨W.heap.size,0,none⟩) [s0,zR,zC]):=fun W=>ints3_alloc W s0 zR zC _ ⟨s1,s2⟩ ⟨by omega,by omega⟩ ⟨by omega,by omega⟩
       clear HRe;go_wp2
       refine wp_region_quiet_ext (by kernel_rfl) (by kernel_rfl) ?_
       repeat (go_big_quiet_step (fail))
       refine wpQuiet_nil ?_
       intro _ hw';obtain ⟨nq,hw''⟩:=hw';subst hw'';obtain ⟨HB3,HX3⟩:=hd2 (HB2.out.trans ((ext_below w2 nq).mono HB2.out.size)) (HX2.out.below (ext_below w2 nq));have hc3:=((ext_below w2 nq).cell (p:=⟨bs,os,none⟩) hl2).trans hc2;clear f0 f2 f3 f4 f7 fs x0 x1 x2 x3 x4 x5 x6 x7 x8 xlt hc2 hl2;generalize ext w2 nq=w8 at *;obtain ⟨x0,x1,x2,x3,x4,x5,x6,x7,x8,xlt⟩:=HX3.out
       go_wp2_with fail
       refine (rResult 3 (HAl3.out _)).mono ?_
       rintro e w3 ⟨⟨a5,c5,rfl,hI5,hc5⟩,hb5⟩;obtain ⟨HI5,HC5,HB5⟩:=hd3 hI5 hc5 hb5;clear hI5 hc5 hb5;go_wp2
       go_ret2
       rw [HF.out];exact OutPost.up (w1:=w8.alloc (.cells #[.int .i64 s0,.int .i64 zR,.int .i64 zC] 3)) ⟨⟨a5,c5,rfl,HI5.out,HC5.out⟩,HB5.out⟩ (HB3.out.alloc HB3.out.size _)
      ·have t1:(zE != 0)=true:=by rw [bne_iff_ne];exact hE
       have t2:(zE==0)=false:=by rw [beq_eq_false_iff_ne];exact hE
       have t3:decide (¬ zE=0)=true:=by simp [hE]
       have HF:Hid (RR=([],7)):=resL_no (r:=([s0,zR,zC],decide (zE=0))) (by simp [hE]) HRe.out
       go_wp2_with fail
       refine HWin.out.mono ?_
       rintro e w2 ⟨⟨aw,cw,rfl⟩,hb2⟩;have HB2:=htr HB1 hb2;have HX2:=hid (HX1.out.below hb2);clear hb2 x0 x1 x2 x3 x4 x5 x6 x7 x8 xlt hE HRe;go_wp2
       refine wp_region_quiet_ext (by kernel_rfl) (by kernel_rfl) ?_
       repeat (go_big_quiet_step (fail))
       refine wpQuiet_nil ?_
       intro _ hw';obtain ⟨nq,hw''⟩:=hw';subst hw'';have HB3:=hid (HB2.out.trans ((ext_below w2 nq).mono HB2.out.size));generalize ext w2 nq=w8 at *;go_wp2
       go_ret2
       exact outPost_err HF.out HB3.out
theorem r13OutN {w:World} {u:Value} {input:List Int} {S:List (List Int)} {l:LayL} {ai ash:Option Addr} (ci cs:Nat) (hi:Ints w Any ai input) (hS:Intss w Any ash S) (hu:LayV w u l) (hr:LayRange l) (hle:LayLe l) (hn:S.length<=1000) (hk:¬ (1<=l.kind/\l.kind<=7)):
  Calls Tryz.prog 62 #[.slice ai input.length ci,.slice ash S.length cs,u] w (OutPost w (outSL input S l)):=by
 obtain ⟨b1,b2,d1,d2,rfl,r1,r2⟩:=hu.ex;have q1:=hi.len;have q2:=hS.len;have q3:=r1.len;have q4:=r2.len;obtain ⟨HI,HS,HU,HRg,HLe,HN⟩:=hd6 hi hS hu hr hle hn;obtain ⟨HKD,HVi⟩:=hd2 hk (fun W (hb:Below w.heap.size w W)=>r11Valid ci (hi.below hb));generalize hR:outSL input S l=RR;have HR:=hid hR;unfold outSL at hR;have HRd:=hid hR;clear hi hS hu r1 r2 hr hle hR hk
 go_enter Tryz.func62,Tryz.ntmps62
 go_upto_region 1 with fail
 have hb0:=blA w (layO l b1 d1 b2 d2 44);have hx:=Box9.alloc w (.int .i64 l.kind) (.int .i64 l.frm) (.int .i64 l.out) (.int .i64 l.kh) (.int .i64 l.kw) (.int .i64 l.stride) (.int .i64 l.pad) (.slice b1 l.weights.length d1) (.slice b2 l.bias.length d2) 44;generalize w.alloc (layO l b1 d1 b2 d2 44)=W at *;obtain ⟨HB0,HX,HVi2⟩:=hd3 hb0 hx (HVi.out W hb0);clear hb0 hx HVi;obtain ⟨x0,x1,x2,x3,x4,x5,x6,x7,x8,xlt⟩:=HX.out
 cases hvi:validL input with
 | false=>
  have HF:Hid (RR=([],1)):=by unfold Hid;rw [<- HRd.out,hvi];rfl
  rw [hvi] at HVi2;clear hvi
  go_wp2_with fail
  refine HVi2.out.mono ?_
  rintro e w' ⟨rfl,rfl⟩;go_wp2
  go_ret2
  exact outPost_err HF.out HB0.out
 | true=>
  rw [hvi] at HVi2;have HVI:=hid hvi;clear hvi
  go_wp2_with fail
  refine HVi2.out.mono ?_
  rintro e w' ⟨rfl,rfl⟩
  go_wp2_with fail
  refine (r13valid (HU.out.below HB0.out) HRg.out HLe.out S.length HN.out).mono ?_
  rintro e w1 ⟨rfl,hb1⟩;have HB1:=htr HB0 hb1;have HX1:=hid (HX.out.below hb1);clear hb1 x0 x1 x2 x3 x4 x5 x6 x7 x8 xlt HVi2;have hok:(decide (S.length+1<=64) && layOK l S.length)=false:=by unfold layOK;rw [condL_none l _ HKD.out];simp
  have HF:Hid (RR=([],1)):=by unfold Hid;rw [<- HRd.out,hok,Bool.and_false];rfl
  rw [hok];clear hok;go_wp2
  go_ret2
  exact outPost_err HF.out HB1.out
theorem r13Out {w:World} {u:Value} {input:List Int} {S:List (List Int)} {l:LayL} {ai ash:Option Addr} (ci cs:Nat) (hi:Ints w Any ai input) (hS:Intss w Any ash S) (hu:LayV w u l) (hr:LayRange l) (hle:LayLe l) (hn:S.length<=1000):
  Calls Tryz.prog 62 #[.slice ai input.length ci,.slice ash S.length cs,u] w (OutPost w (outSL input S l)):=by
 by_cases hk:1<=l.kind/\l.kind<=7
 ·have:(l.kind=1 ∨ l.kind=5 ∨ l.kind=6) ∨ (l.kind=2 ∨ l.kind=3 ∨ l.kind=4) ∨ l.kind=7:=by omega
  rcases this with h | h | h
  ·exact r13OutA ci cs hi hS hu hr hle hn h
  ·exact r13OutB ci cs hi hS hu hr hle hn h
  ·exact r13OutC ci cs hi hS hu hr hle hn h
 ·exact r13OutN ci cs hi hS hu hr hle hn hk
end Go.Proofs.YtfgmmghmmfmdgaaGreat
