/-
  Contracts of the functions that the statement reaches: ModN, ModO, ModR, EvM, OwnRR, EvN, OpenE, LinB, LinC.
-/
import Derived.Test.YtfgmmghmmfmdgaaGreatK29
set_option linter.all false
set_option maxRecDepth 100000
set_option maxHeartbeats 3200000
namespace Go.Proofs.YtfgmmghmmfmdgaaGreat
open Go.RowKit
open Go.Lib (hid)
def OutPost (w:World) (p:List Int × Int) (e:Ending) (w':World):Prop:=
 (∃ a c,e=.returned (.tuple #[.slice a p.1.length c,.int .i64 p.2])/\Ints w' (fun b=>w.heap.size<=b) a p.1/\p.1.length<=c)/\Below w.heap.size w w'
theorem outPost_err {w w':World} {p:List Int × Int} {n:Int} (h:p=([],n)) (hb:Below w.heap.size w w'):OutPost w p (.returned (.tuple #[.slice none 0 0,.int .i64 n])) w':=by
 subst h;exact ⟨⟨none,0,rfl,Ints.nil _ _ _,Nat.le_refl _⟩,hb⟩
def probeC (n:Nat):List (List Value):=List.replicate n (layC reluL none none 0 0)
theorem probeC_len (n:Nat):(probeC n).length=n:=by unfold probeC;simp
theorem probeC_succ (n:Nat):probeC n++[layC reluL none none 0 0]=probeC (n+1):=by unfold probeC;rw [List.replicate_succ']
theorem probe_rows {w:World} {n:Nat} {l:LayL} {b1 b2:Option Addr} {d1 d2:Nat} (r1:RatsAt w b1 l.weights) (r2:RatsAt w b2 l.bias):
  (∀ (j:Nat) (c:List Value) (x:LayL),(probeC n++[layC l b1 b2 d1 d2])[j]? =some c->(List.replicate n reluL++[l])[j]? =some x->∃ a1 a2 c1 c2,c=layC x a1 a2 c1 c2/\RatsAt w a1 x.weights/\RatsAt w a2 x.bias)/\
  ∀ c ∈ probeC n++[layC l b1 b2 d1 d2],c.length=9:=by
 constructor
 ·intro j c x hc hx
  by_cases hj:j < n
  ·rw [List.getElem?_append_left (by rw [probeC_len];exact hj)] at hc;rw [List.getElem?_append_left (by simpa using hj)] at hx;unfold probeC at hc;rw [List.getElem?_replicate,if_pos hj,Option.some.injEq] at hc hx;subst hc hx;exact ⟨none,none,0,0,rfl,RatsAt.nil _ _,RatsAt.nil _ _⟩
  ·rw [List.getElem?_append_right (by rw [probeC_len];omega),probeC_len] at hc;rw [List.getElem?_append_right (by simp;omega),List.length_replicate] at hx;have h0:=(List.getElem?_eq_some_iff.1 hc).1;simp at h0;obtain rfl:j=n:=by omega
   simp at hc hx;subst hc hx;exact ⟨b1,b2,d1,d2,rfl,r1,r2⟩
 ·intro c hc
  rcases List.mem_append.1 hc with h | h
  ·rw [List.eq_of_mem_replicate h];rfl
  ·simp at h;subst h;rfl
theorem own_form9 {w:World} {base E n:Nat} {v:Value} {xs:List Value} (h:w.ownsRow base E 9 v n xs):∃ a c,v=.slice a n c:=by
 rcases h.2 with ⟨rfl,rfl⟩ | ⟨g,cap,cur,rfl,_⟩
 ·exact ⟨_,_,rfl⟩
 ·exact ⟨_,_,rfl⟩
theorem allV_takeS {S:List (List Int)} {j:Nat} {s:List Int} (h:S[j]? =some s):(S.take (j+1)).all validL=((S.take j).all validL && validL s):=by
 rw [take_succ_at h,List.all_append];simp
theorem sOut {w:World} {u:Value} {input:List Int} {S:List (List Int)} {l:LayL} {ai ash:Option Addr} (ci cs:Nat) (hi:Ints w Any ai input) (hS:Intss w Any ash S) (hu:LayV w u l) (hr:LayRange l) (hle:LayLe l) (hn:S.length<=1000):
  Calls Tryz.prog 52 #[.slice ai input.length ci,.slice ash S.length cs,u] w (OutPost w (outSL input S l)):=by
 obtain ⟨b1,b2,d1,d2,rfl,r1,r2⟩:=hu.ex;have q1:=hi.len;have q2:=hS.len;have q3:=r1.len;have q4:=r2.len;obtain ⟨HI,HS,HU,R1,R2,HRg⟩:=hd6 hi hS hu r1 r2 hr;obtain ⟨HLe,HN⟩:=hd2 hle hn;generalize hR:outSL input S l=RR;have HR:=hid hR;unfold outSL at hR;have HRd:=hid hR;clear hi hS hu r1 r2 hr hle hR
 go_enter Tryz.func52,Tryz.ntmps52
 go_upto_region 1 with fail
 have hb0:=blA w (layO l b1 d1 b2 d2 44);have hx:=Box9.alloc w (.int .i64 l.kind) (.int .i64 l.frm) (.int .i64 l.out) (.int .i64 l.kh) (.int .i64 l.kw) (.int .i64 l.stride) (.int .i64 l.pad) (.slice b1 l.weights.length d1) (.slice b2 l.bias.length d2) 44;generalize w.alloc (layO l b1 d1 b2 d2 44)=W at *;obtain ⟨HB0,HX⟩:=hd2 hb0 hx;clear hb0 hx
 go_upto_region 2 with fail
 have hmk:MkL W (W.alloc (.cells #[.slice ai input.length ci,.slice none 0 0] 25)) W.heap.size 25 (.slice ai input.length ci) (.slice none 0 0) (probeC 0):=by
  refine ⟨?_,World.ownsRow_nil _ _ _ _,by simp [Value.ownBlock],Nat.le_refl _,(Below.refl _ _).alloc (Nat.le_refl _) _⟩
  show (W.heap.push _)[W.heap.size]? =_
  rw [Array.getElem?_push,if_pos rfl]
 have HMk:=hid hmk;generalize W.alloc (.cells #[.slice ai input.length ci,.slice none 0 0] 25)=W1 at *;clear hmk;go_wp2
 go_loopw [10,17] (fun _ i wr=>∃ (j:Nat) (v:Value),j<=S.length/\i=.int .i64 (j:Int)/\Hid ((S.take j).all validL=true)/\Hid (MkL W wr W.heap.size 25 (.slice ai input.length ci) v (probeC j))) (fun _ i _=>S.length - (intOf i).toNat)
 case atStart=>exact ⟨0,_,Nat.zero_le _,rfl,rfl,HMk.out⟩
 case round=>
  obtain ⟨j,v,hj,rfl,HA,HM⟩:=hrel;have hbw:=HM.out.be
  by_cases hlt:j < S.length
  ·obtain ⟨bb,off,s,aj,cj,rfl,hcell,hs,_,hIs,hbb,_⟩:=(HS.out.below (HB0.out.trans (hbw.mono HB0.out.size))).pickc hlt;obtain ⟨HTk,HMem,HV⟩:=hd3 (allV_takeS hs) (List.mem_of_getElem? hs) (tValid cj hIs);have ql:=hIs.len;clear hs hIs hbw
   cases hv:validL s with
   | false=>
    rw [hv] at HV;have HF:Hid (RR=([],1)):=by
     unfold Hid;have:S.all validL=false:=by rw [List.all_eq_false];exact ⟨s,HMem.out,by simp [hv]⟩
     rw [<- HRd.out,this,Bool.and_false];rfl
    clear hv
    go_wp2_with fail
    refine HV.out.mono ?_
    rintro e w' ⟨rfl,rfl⟩;go_wp2
    go_ret2
    exact outPost_err HF.out (HB0.out.trans (HM.out.be.mono HB0.out.size))
   | true=>
    rw [hv] at HV;have HA2:Hid ((S.take (j+1)).all validL=true):=by unfold Hid;rw [HTk.out,HA.out,hv];rfl
    clear hv
    go_wp2_with fail
    refine HV.out.mono ?_
    rintro e w' ⟨rfl,rfl⟩;have k1:=HM.out.c1;have hj2:j < 1000:=by have:=HN.out;omega
    clear hcell
    go_wp2_with (at_builtin;refine wpList_append_src rfl (.tmp 25) (.tmp 27) 23 23 rfl W.heap.size 44 (.agg #[.int .i64 0,.int .i64 0,.int .i64 0,.int .i64 0,.int .i64 0,.int .i64 0,.int .i64 0,.slice none 0 0,.slice none 0 0]) 9 104 Tryz.underlying23 Tryz.underlying23 Tryz.infoLay rfl (by omega) v j (probeC j).flatten rfl (by have h:=HM.out.own.alloc (.cells #[.int .i64 5,.int .i64 0,.int .i64 0,.int .i64 0,.int .i64 0,.int .i64 0,.int .i64 0,.slice none 0 0,.slice none 0 0] 44);rw [probeC_len] at h;exact h) (some ⟨wr.heap.size,0,none⟩) 1 1 (layC reluL none none 0 0) rfl (srcOK_alloc9 wr (layC reluL none none 0 0) _ rfl (layC_one _ _ _ _ _)) (by omega) (by unfold maxLen;omega) (by have:=HM.out.be.size;simp;omega) ?_;intro v' w' hown hg hn2;obtain ⟨av,cv,rfl⟩:=own_form9 hown;have k3:=(HM.out.mid (v':=.slice av (j+1) cv) (c:=layC reluL none none 0 0) hg).2.1;have k4:=(HM.out.mid (v':=.slice av (j+1) cv) (c:=layC reluL none none 0 0) hg).2.2;have HOwn:=hid hown;have HG:=hid hg;have HN2:=hid hn2;clear hown hg hn2)
    have hst:=HM.out.step (c:=layC reluL none none 0 0) (by rw [probeC_len];exact HOwn.out) HG.out HN2.out;rw [probeC_succ] at hst;have HSt:=hid hst;clear hst k1 k3 k4;go_roundw
    case rel=>exact ⟨j+1,_,hlt,by go_num,HA2.out,HSt.out⟩
    case measure=>simp [intOf];omega
  ·obtain rfl:j=S.length:=by omega
   have HAl:Hid (S.all validL=true):=by have:=HA.out;rwa [List.take_length] at this
   obtain ⟨a0,c0,rfl⟩:=own_form9 HM.out.own;rw [probeC_len] at HM;have HXw:=hid (HX.out.below HM.out.be);obtain ⟨x0,x1,x2,x3,x4,x5,x6,x7,x8,xlt⟩:=HXw.out;have k1:=HM.out.c1;clear hbw hlt HMk
   go_wp2_with (at_builtin;refine wpList_append_src rfl (.tmp 32) (.tmp 34) 23 23 rfl W.heap.size 44 (.agg #[.int .i64 0,.int .i64 0,.int .i64 0,.int .i64 0,.int .i64 0,.int .i64 0,.int .i64 0,.slice none 0 0,.slice none 0 0]) 9 104 Tryz.underlying23 Tryz.underlying23 Tryz.infoLay rfl (by omega) (.slice a0 S.length c0) S.length (probeC S.length).flatten rfl (by have h:=HM.out.own.alloc (layO l b1 d1 b2 d2 44);rw [probeC_len] at h;exact h) (some ⟨wr.heap.size,0,none⟩) 1 1 (layC l b1 b2 d1 d2) rfl (srcOK_alloc9 wr (layC l b1 b2 d1 d2) _ rfl (layC_one _ _ _ _ _)) (by omega) (by unfold maxLen;omega) (by have:=HM.out.be.size;simp;omega) ?_;intro v' w' hown hg hn2;obtain ⟨av,cv,rfl⟩:=own_form9 hown;have k3:=(HM.out.mid (v':=.slice av (S.length+1) cv) (c:=layC l b1 b2 d1 d2) hg).2.1;have k4:=(HM.out.mid (v':=.slice av (S.length+1) cv) (c:=layC l b1 b2 d1 d2) hg).2.2;have k5:w'.cell? ⟨W.heap.size,0,none⟩=some (.slice ai input.length ci):=(by have hbx:=(HM.out.mid (v':=.slice av (S.length+1) cv) (c:=layC l b1 b2 d1 d2) hg).1;simp [World.cell?,hbx]);have HOwn:=hid hown;have HG:=hid hg;have HN2:=hid hn2;clear hown hg hn2)
   have hst:=HM.out.step (c:=layC l b1 b2 d1 d2) (by rw [probeC_len];exact HOwn.out) HG.out HN2.out;have HSt:=hid hst;have hbe:=HB0.out.trans (hst.be.mono HB0.out.size);obtain ⟨hrow,h9⟩:=probe_rows (n:=S.length) (l:=l) (d1:=d1) (d2:=d2) (R1.out.below hbe) (R2.out.below hbe);have hown2:=hst.own;rw [show (probeC S.length++[layC l b1 b2 d1 d2]).length=S.length+1 by rw [List.length_append,probeC_len];rfl] at hown2;have hLL:(List.replicate S.length reluL++[l]).length=S.length+1:=by simp
   obtain ⟨a9,c9,hv9,hlays⟩:=own_lays (L:=List.replicate S.length reluL++[l]) hown2 hLL.symm (by omega) (by rw [List.length_append,probeC_len];rfl) hrow h9;have hav:av=a9:=by injection hv9
   rw [<- hav] at hlays;have HLays:=hid hlays;have HVm:=hid (mValid (m:=⟨input,List.replicate S.length reluL++[l]⟩) ci cv (HI.out.below hbe) HLays.out (by
     intro x hx
     rcases List.mem_append.1 hx with h | h
     ·rw [List.eq_of_mem_replicate h];unfold LayRange reluL I64;simp
     ·simp at h;subst h;exact HRg.out) (by
     intro x hx
     rcases List.mem_append.1 hx with h | h
     ·rw [List.eq_of_mem_replicate h];exact ⟨by simp [reluL],by simp [reluL]⟩
     ·simp at h;subst h;exact HLe.out))
   rw [validM_probe] at HVm;simp only [hLL] at HVm;have HBe:=hid hbe;clear hst hbe hrow h9 hown2 hLL hv9 hlays hav k1 k3 k4 k5 x0 x1 x2 x3 x4 x5 x6 x7 x8 xlt HOwn HG HN2;generalize w'.setCell ⟨W.heap.size,1,none⟩ (.slice av (S.length+1) cv)=w2 at *
   refine HVm.out.mono ?_
   rintro e w3 ⟨rfl,hb3⟩;have HB3:=htr HBe hb3;have HX3:=hid ((HX.out.below HSt.out.be).below hb3);clear hb3 HVm
   cases hvm:(validL input && (decide (S.length+1<=64) && layOK l S.length)) with
   | false=>
    have HF:Hid (RR=([],1)):=by unfold Hid;rw [<- HRd.out,hvm];rfl
    clear hvm;go_wp2
    go_ret2
    exact outPost_err HF.out HB3.out
   | true=>
    have HRe:Hid ((if (rawL input S l).2 && validL (rawL input S l).1 then ((rawL input S l).1,0) else ([],7))=RR):=by
     have h:=HRd.out;rw [hvm,HAl.out,Bool.true_and,if_pos rfl] at h;exact h
    simp only [Bool.and_eq_true,decide_eq_true_eq] at hvm;obtain ⟨hvi,hn64,hok⟩:=hvm;have hcur:validL (currL input S)=true:=by
     unfold currL
     cases hg:S.getLast? with
     | none=>exact hvi
     | some s=>exact List.all_eq_true.1 HAl.out s (List.mem_of_getLast? hg)
    have HO:=hid (pOut (w:=w3) (input:=input) (S:=S) ⟨ai,ash,ci,cs,rfl,HI.out.below HB3.out,HS.out.below HB3.out⟩ (HU.out.below HB3.out) hok hcur);obtain ⟨x0,x1,x2,x3,x4,x5,x6,x7,x8,xlt⟩:=HX3.out;clear hvi hn64 hok hcur
    go_wp2_with fail
    refine HO.out.mono ?_
    rintro e w4 ⟨⟨a4,c4,rfl,hI4⟩,hb4⟩;have HB4:=htr HB3 hb4;obtain ⟨HI4,HV4⟩:=hd2 hI4 (tValid c4 hI4);have q5:=hI4.len;clear x0 x1 x2 x3 x4 x5 x6 x7 x8 xlt hb4 hI4 HO;generalize rawL input S l=raw at *;obtain ⟨o,ok⟩:=raw;simp only at HI4 HV4 q5 HRe ⊢
    cases ok with
    | false=>
     have HF:Hid (RR=([],7)):=by unfold Hid;rw [<- HRe.out];rfl
     go_wp2
     go_ret2
     exact outPost_err HF.out HB4.out
    | true=>
     cases hvo:validL o with
     | false=>
      have HF:Hid (RR=([],7)):=by unfold Hid;rw [<- HRe.out,hvo];rfl
      rw [hvo] at HV4;clear hvo
      go_wp2_with fail
      refine HV4.out.mono ?_
      rintro e w' ⟨rfl,rfl⟩;go_wp2
      go_ret2
      exact outPost_err HF.out HB4.out
     | true=>
      have HF:Hid (RR=(o,0)):=by unfold Hid;rw [<- HRe.out,hvo];rfl
      have HCl:=hid (sClone c4 HI4.out (validL_len hvo).1 (validL_len hvo).2);rw [hvo] at HV4;clear hvo
      go_wp2_with fail
      refine HV4.out.mono ?_
      rintro e w' ⟨rfl,rfl⟩
      go_wp2_with fail
      refine HCl.out.mono ?_
      rintro e w5 ⟨⟨a5,c5,rfl,hI5,hc5⟩,hb5⟩;have HI5:=hid hI5;have HB5:=htr HB4 hb5;have HC5:=hid hc5;clear hI5 hb5 hc5;go_wp2
      go_ret2
      rw [HF.out];exact ⟨⟨a5,c5,rfl,HI5.out.mono (fun b _ hb=>Nat.le_trans HB4.out.size hb),HC5.out⟩,HB5.out⟩
def OfPost (w:World) (p:List (List Int) × Int × Int) (e:Ending) (w':World):Prop:=
 (∃ a c,e=.returned (.tuple #[.slice a p.1.length c,.int .i64 p.2.1,.int .i64 p.2.2])/\Intss w' (fun b=>w.heap.size<=b) a p.1)/\Below w.heap.size w w'
theorem ofPost_err {w w':World} {p:List (List Int) × Int × Int} {i n:Int} (h:p=([],i,n)) (hb:Below w.heap.size w w'):OfPost w p (.returned (.tuple #[.slice none 0 0,.int .i64 i,.int .i64 n])) w':=by
 subst h;exact ⟨⟨none,0,rfl,Intss.nil _ _ _⟩,hb⟩
theorem OwnSS.lt {w:World} {base E:Nat} {v:Value} {xs:List Value} {L:List (List Int)} (h:OwnSS w base E v xs L):∀ b,v.ownBlock=some b->b < w.heap.size:=fun b hb=>(h.own.lt b hb).2
theorem results_tmp3 {fn:Func} {t u x:Tmp} (h:fn.results=#[.tmp t,.tmp u,.tmp x]) (tmps:Array Value) (P:Program) (w:World):
  (results fn tmps).run P w=.ok (.tuple #[tmps.getD t undef,tmps.getD u undef,tmps.getD x undef]) w:=by
 simp [results,h]
theorem sOf {w:World} {m:ModL} {a1 a2:Option Addr} (c1 c2:Nat) (h1:Ints w Any a1 m.input) (h2:LaysAt w a2 m.layers) (hr:∀ l ∈ m.layers,LayRange l) (hs:∀ l ∈ m.layers,LayLe l):
  Calls Tryz.prog 30 #[.agg #[.slice a1 m.input.length c1,.slice a2 m.layers.length c2]] w (OfPost w (shapesL m)):=by
 have q1:=h1.len;have q2:=h2.len;obtain ⟨H1,H2,HRg,HSh⟩:=hd4 h1 h2 hr hs;generalize hR:shapesL m=RR;have HR:=hid hR;unfold shapesL at hR;have HRd:=hid hR;clear h1 h2 hr hs hR
 go_enter Tryz.func30,Tryz.ntmps30
 go_upto_region 1 with fail
 have hb0:=blA w (.cells #[.slice a1 m.input.length c1,.slice a2 m.layers.length c2] 25);have hx:=Box2.alloc w (.slice a1 m.input.length c1) (.slice a2 m.layers.length c2) 25;generalize w.alloc (.cells #[.slice a1 m.input.length c1,.slice a2 m.layers.length c2] 25)=W at *;obtain ⟨HB0,HX⟩:=hd2 hb0 hx;obtain ⟨x0,x1,xf,xlt⟩:=hx;clear hb0
 go_wp2_with fail
 refine (mValid c1 c2 (H1.out.below HB0.out) (H2.out.below HB0.out) HRg.out HSh.out).mono ?_
 rintro e w1 ⟨rfl,hb1⟩;have HX1:=hid (HX.out.below hb1);have HB1:=htr HB0 hb1;clear hb1 x0 x1 xf xlt
 cases hvm:validM m with
 | false=>
  have HF:Hid (RR=([],0,1)):=by unfold Hid;rw [<- HRd.out,hvm];rfl
  clear hvm;go_wp2
  refine bodyPost_ret (results_tmp3 rfl _ _ _) rfl ?_
  exact ofPost_err HF.out HB1.out
 | true=>
  have HRe:Hid (shapesFrom m.input [] m.layers=RR):=by have:=HRd.out;rw [hvm,if_pos rfl] at this;exact this
  have hv:=validM_at hvm;have HL64:=hid hv.2.1;have hl64:=hv.2.1;obtain ⟨x0,x1,xf,xlt⟩:=HX1.out;clear hvm hv;go_wp2;clear x0 x1 xf xlt
  go_loopw [5,16] (fun u i wr=>∃ (j:Nat) (xs:List Value) (T:List (List Int)),j<=m.layers.length/\i=.int .i64 (j:Int)/\Hid (T.length=j)/\Hid (shapesFrom m.input T (m.layers.drop j)=RR)/\Hid (OwnSS wr w1.heap.size 22 u xs T)/\Hid (Below w1.heap.size w1 wr)) (fun _ i _=>m.layers.length - (intOf i).toNat)
  case atStart=>exact ⟨0,[],[],Nat.zero_le _,rfl,rfl,HRe.out,OwnSS.nil _ _ _,Below.refl _ _⟩
  case round=>
   obtain ⟨j,xs,T,hj,rfl,HTl,HS,HOw,HB⟩:=hrel;have hbw:=HB1.out.trans (HB.out.mono HB1.out.size);obtain ⟨av,cv,hu,hT⟩:=HOw.out.intss (by rw [HTl.out];omega);rw [HTl.out] at hu;subst hu
   by_cases hlt:j < m.layers.length
   ·obtain ⟨x0,x1,xf,xlt⟩:=HX1.out.below HB.out;obtain ⟨bl,ol,l,rfl,hbl,hl,b1,b2,d1,d2,⟨l0,l1,l2,l3,l4,l5,l6,l7,l8⟩,r1,r2⟩:=(H2.out.below hbw).pick hlt;have hmem:=List.mem_of_getElem? hl;have hdrop:m.layers.drop j=l::m.layers.drop (j+1):=by
     rw [List.drop_eq_getElem_cons hlt]
     congr 1
     rw [List.getElem?_eq_getElem hlt] at hl;exact Option.some.inj hl
    have HStep:Hid ((if (outSL m.input T l).2=0 then shapesFrom m.input (T++[(outSL m.input T l).1]) (m.layers.drop (j+1)) else ([],(j:Int),(outSL m.input T l).2))=RR):=by
     have:=HS.out;rw [hdrop,shapesFrom_cons,HTl.out] at this;exact this
    have hbV:=blA wr (layO l b1 d1 b2 d2 44);have hbW:=hbw.trans (hbV.mono hbw.size);obtain ⟨HO,HBV⟩:=hd2 (sOut (u:=.agg #[.int .i64 l.kind,.int .i64 l.frm,.int .i64 l.out,.int .i64 l.kh,.int .i64 l.kw,.int .i64 l.stride,.int .i64 l.pad,.slice b1 l.weights.length d1,.slice b2 l.bias.length d2]) c1 cv (H1.out.below hbW) ((hT.mono (F':=Any) (fun _ _ _=>trivial)).below hbV) ⟨b1,b2,d1,d2,rfl,r1.below hbV,r2.below hbV⟩ (HRg.out l hmem) (HSh.out l hmem) (by rw [HTl.out];omega)) hbV;have p1:=r1.len;have p2:=r2.len;rw [HTl.out] at HO;clear hmem hl hdrop hbV hbW hbw hT r1 r2 HS
    go_wp2_with fail
    refine HO.out.mono ?_
    rintro e w2 ⟨⟨a5,c5,rfl,hI5,hc5⟩,hb2⟩;obtain ⟨HB2,HOw2,HI5,HC5⟩:=hd4 (HB.out.trans ((HBV.out.trans (hb2.mono HBV.out.size)).mono HB.out.size)) (HOw.out.frame (HBV.out.trans (hb2.mono HBV.out.size))) hI5 hc5;have HLt:Hid (∀ b,(Value.slice av j cv).ownBlock=some b->b < (wr.alloc (layO l b1 d1 b2 d2 44)).heap.size):=fun b hb=>by have:=HOw.out.lt b hb;simp;omega
    generalize wr.alloc (layO l b1 d1 b2 d2 44)=V at *;have hgeV:Hid (w1.heap.size<=V.heap.size):=Nat.le_trans HB.out.size HBV.out.size;generalize outSL m.input T l=P at *;obtain ⟨o,er⟩:=P;simp only at HI5 HC5 HStep ⊢;clear x0 x1 xf xlt l0 l1 l2 l3 l4 l5 l6 l7 l8 hI5 hc5 hb2 HO
    by_cases he:er=0
    ·have HStep2:Hid (shapesFrom m.input (T++[o]) (m.layers.drop (j+1))=RR):=by have:=HStep.out;rw [if_pos he] at this;exact this
     have t1:(er != 0)=false:=by rw [he];rfl
     have t2:(er==0)=true:=by rw [he];rfl
     have t3:decide (¬ er=0)=false:=by simp [he]
     have HTj:=hid (show j < 64 by omega);clear he
     go_wp2_with (at_builtin;refine wpList_app1 rfl (.tmp 33) (.tmp 35) 65 rfl w1.heap.size 22 (.slice none 0 0) 24 Tryz.underlying65 (by kernel_rfl) rfl (.slice av j cv) j xs rfl (by have h:=HOw2.out.own;rw [HTl.out] at h;exact h) (.slice a5 o.length c5) rfl rfl (by have:=HTj.out;omega) (by have:=HTj.out;unfold maxLen;omega) (by exact HB2.out.size) ?_;intro v' w' hown hg hn2;have HOwn:=hid hown;have HG:=hid hg;have HN2:=hid hn2;clear hown hg hn2)
     have happ:=HOw2.out.app (l:=o) HI5.out HC5.out (fun b hb=>⟨Nat.le_trans hgeV.out hb,fun e=>by have:=HLt.out b e;omega⟩) (by rw [HTl.out];exact HOwn.out) HG.out HN2.out;obtain ⟨HApp,HB3⟩:=hd2 happ (HB2.out.grown HG.out HB2.out.size (fun k hk=>(HOw2.out.own.lt k hk).1));clear happ;go_roundw
     case rel=>exact ⟨j+1,_,T++[o],hlt,by go_num,by unfold Hid;rw [List.length_append,HTl.out];rfl,HStep2.out,HApp.out,HB3.out⟩
     case measure=>simp [intOf];omega
    ·have HF:Hid (RR=([],(j:Int),er)):=by unfold Hid;rw [<- HStep.out,if_neg he]
     have t1:(er != 0)=true:=by rw [bne_iff_ne];exact he
     have t2:(er==0)=false:=by rw [beq_eq_false_iff_ne];exact he
     have t3:decide (¬ er=0)=true:=by simp [he]
     clear he;go_wp2
     refine bodyPost_ret (results_tmp3 rfl _ _ _) rfl ?_
     exact ofPost_err HF.out (HB1.out.trans (HB2.out.mono HB1.out.size))
   ·obtain rfl:j=m.layers.length:=by omega
    have HF:Hid (RR=(T,0,0)):=by
     have h:=HS.out;rw [List.drop_length] at h;exact h.symm
    obtain ⟨HT,HBw⟩:=hd2 hT hbw;clear hT hbw;go_wp2
    refine bodyPost_ret (results_tmp3 rfl _ _ _) rfl ?_
    rw [HF.out];exact ⟨⟨av,cv,by simp only [HTl.out];rfl,HT.out.mono (fun b _ hb=>Nat.le_trans HB1.out.size hb)⟩,HBw.out⟩
theorem Ints.src1' {w:World} {F:Nat->Prop} {a:Option Addr} {l:List Int} (h:Ints w F a l):SrcOK w a l.length 1 (l.map (Value.int .i64)):=by
 refine ⟨by simp,?_,fun hp=>?_⟩
 ·intro u hu;obtain ⟨x,_,rfl⟩:=List.mem_map.1 hu;rfl
 ·rcases h.row with rfl | ⟨b,off,rfl,_,hb,hc⟩
  ·simp at hp
  ·refine ⟨b,off,rfl,hb,fun j u hu=>?_⟩
   rw [List.getElem?_map] at hu;obtain ⟨d,hd,rfl⟩:=Option.map_eq_some_iff.1 hu;exact hc j d hd
theorem Tryz.infoIntS:(Tryz.prog.info? 3).map (fun i=>(i.zero,i.size,i.bytes))=some (some (.int .i64 0),1,8):=by kernel_rfl
theorem empty_new (w:World) (T:Nat):(w.alloc (.cells #[] T)).heap[w.heap.size]? =some (.cells #[] T (0,0)):=by
 show (w.heap.push _)[w.heap.size]? =_
 rw [Array.getElem?_push,if_pos rfl]
theorem own_ints {w:World} {base E n:Nat} {v:Value} {l:List Int} (h:w.ownsRow base E 1 v n (l.map (Value.int .i64))) (hn:n=l.length) (hw:∀ x ∈ l,I64 x) (hl:l.length<=9223372036854775807):
  ∃ a c,v=.slice a l.length c/\Ints w (fun b=>base<=b) a l/\l.length<=c:=by
 subst hn
 rcases h.2 with ⟨rfl,h0⟩ | ⟨g,cap,cur,rfl,hb,hg,hnc,_⟩
 ·rw [h0];have:l=[]:=List.eq_nil_of_length_eq_zero h0;subst this;exact ⟨none,0,rfl,Ints.nil _ _ _,Nat.le_refl _⟩
 ·refine ⟨_,cap,rfl,⟨hw,hl,.inr ⟨g,0,rfl,hb,(Array.getElem?_eq_some_iff.1 hg).1,fun j d hj=>?_⟩⟩,hnc⟩
  have:=h.cells (g:=g) rfl j (.int .i64 d) (by rw [List.getElem?_map,hj];rfl)
  simpa [Addr.add_lit] using this
def resL (s:List Int):List Int × Int:=if validL s then (s,0) else ([],7)
theorem rResult {w:World} {F:Nat->Prop} {a:Option Addr} {s:List Int} (c:Nat) (h:Ints w F a s):
  Calls Tryz.prog 96 #[.slice a s.length c] w (OutPost w (resL s)):=by
 have hl:=h.len;obtain ⟨H,HV⟩:=hd2 h (r11Valid c h);generalize hR:resL s=R;unfold resL at hR;clear h
 cases hv:validL s with
 | false=>
  rw [hv] at hR HV;have HF:Hid (R=([],7)):=hR.symm;clear hR hv
  go_enter Tryz.func96,Tryz.ntmps96
  go_wp2_with fail
  refine HV.out.mono ?_
  rintro e w' ⟨rfl,rfl⟩;go_wp2
  go_ret2
  exact outPost_err HF.out (Below.refl _ _)
 | true=>
  have hlen:=(validL_len hv).2;rw [hv] at hR HV;have HF:Hid (R=(s,0)):=hR.symm;clear hR hv
  go_enter Tryz.func96,Tryz.ntmps96
  go_wp2_with fail
  refine HV.out.mono ?_
  rintro e w' ⟨rfl,rfl⟩
  go_wp2_with (at_builtin;refine wpList_append_src rfl (.tmp 7) (.tmp 8) 22 22 rfl w.heap.size 3 (.int .i64 0) 1 8 Tryz.underlying22 Tryz.underlying22 Tryz.infoIntS rfl (by omega) (.slice (some ⟨w.heap.size,0,none⟩) 0 0) 0 [] rfl (own_empty (empty_new _ _) (Nat.le_refl _)) a s.length c _ rfl (H.out.below ((Below.refl w.heap.size w).alloc (Nat.le_refl _) (.cells #[] 3))).src1' (by omega) (by unfold maxLen;omega) (by simp) ?_;intro v' w' hown hg hn2;have HOwn:=hid hown;have HG:=hid hg;clear hown hg hn2)
  have hown:=HOwn.out;rw [List.nil_append] at hown;obtain ⟨a',c',hv',hI,hc⟩:=own_ints hown (by omega) H.out.wf hl;subst hv';obtain ⟨HI,HC,HB⟩:=hd3 hI hc (((Below.refl w.heap.size w).alloc (Nat.le_refl _) (.cells #[] 3)).grown HG.out (by simp) (fun k hk=>by simp [Value.ownBlock] at hk;omega));clear hown hI hc
  go_ret2
  rw [HF.out];exact ⟨⟨a',c',rfl,HI.out,HC.out⟩,HB.out⟩
def AllB (p:Value->Bool) (w:World) (g:Nat):Prop:=∀ (o:Nat) (u:Value),w.cell? ⟨g,o,none⟩=some u->p u=true
def AllO (p:Value->Bool) (w:World) (v:Value):Prop:=∀ g,v.ownBlock=some g->AllB p w g
theorem AllB.of_heap {p:Value->Bool} {w:World} {g T:Nat} {c:Array Value} {f:Nat × Nat} (h:w.heap[g]? =some (.cells c T f)) (hc:∀ u ∈ c,p u=true):AllB p w g:=by
 intro o x e;simp only [World.cell?,h] at e;exact hc _ (Array.mem_of_getElem? e)
theorem AllB.below {p:Value->Bool} {w w':World} {g:Nat} (h:AllB p w g) (hb:Below w.heap.size w w') (hg:g < w.heap.size):AllB p w' g:=fun o x e=>h o x ((hb.cell (p:=⟨g,o,none⟩) hg).symm.trans e)
theorem all_zero {p:Value->Bool} {z:Value} {n:Nat} (h:∀ u ∈ z.cells,p u=true):∀ u ∈ Builtin.zeroCells z.cells n,p u=true:=by
 intro u hu;unfold Builtin.zeroCells at hu;obtain ⟨i,hi,rfl⟩:=Array.mem_map.1 hu;rw [Array.mem_range] at hi;have hp:0 < z.cells.size:=by
  rcases Nat.eq_zero_or_pos z.cells.size with h0 | h0
  ·rw [h0] at hi;omega
  ·exact h0
 have hlt:i % z.cells.size < z.cells.size:=Nat.mod_lt _ hp;rw [getElem!_pos z.cells _ hlt];exact h _ (Array.getElem_mem hlt)
theorem run_append_all {P:Program} (p:Value->Bool) (w:World) (base:Nat) (t ty e:TypeId) (i:TypeInfo) (z:Value) (size bytes:Nat) (ht:P.underlying t=some (.slice e)) (hi:P.info? e=some i) (hz:i.zero=some z)
  (hsize:i.size=size) (hby:i.bytes=bytes) (hzs:z.cells.size=size) (hsz:0 < size)
  (v:Value) (n:Nat) (xs:List Value) (hown:w.ownsRow base e size v n xs)
  (a:Addr) (m c:Nat) (news:List Value) (hl:news.length=m * size) (hnews:∀ j u,news[j]? =some u->w.cell? (a.add j)=some u) (h1:∀ u ∈ news,u.oneCell'=true)
  (hm:0 < m) (h63:n+m<=maxLen) (hbytes:(n+m) * bytes<=140737488355328) (hbase:base<=w.heap.size)
  (hno:AllO p w v) (hnn:∀ u ∈ news,p u=true) (hzn:∀ u ∈ z.cells,p u=true):
  ∃ v' w',(Builtin.append_ #[t,t] ty #[v,.slice (some a) m c]).run P w=.ok v' w'/\w'.ownsRow base e size v' (n+m) (xs++news)/\w.grownBy w' v.ownBlock/\Next w v v'/\AllO p w' v':=by
 obtain ⟨v',w',hr,h2,h3,h4⟩:=run_append_next (P:=P) w base t ty e i z size bytes ht hi hz hsize hby hzs hsz v n xs hown a m c news hl hnews h1 hm h63 hbytes hbase
 refine ⟨v',w',hr,h2,h3,h4,?_⟩
 subst hsize;subst hby;have hsmall:n+m<=9223372036854775807:=by simp only [maxLen] at h63;omega
 rcases hown.2 with ⟨rfl,rfl⟩ | ⟨g,cap,cur,rfl,hbg,hg,hnc,hcm,hcs,htake⟩
 ·have hr':=run_append_nil (P:=P) w t ty e i z ht hi hz a m c news hl hnews hm (by omega) (by simp only [Nat.zero_add] at hbytes;omega);rw [hr'] at hr;cases hr;intro g' hg';cases hg'
  refine AllB.of_heap (heap_alloc_new w.drew _) ?_
  intro u hu
  rcases Array.mem_append.1 hu with hu | hu
  ·exact hnn _ (by simpa using hu)
  ·exact all_zero hzn _ hu
 ·have hcur:∀ u ∈ cur,p u=true:=by
   intro u hu;obtain ⟨j,hj⟩:=Array.getElem?_of_mem hu;exact hno g rfl j u (by simp only [World.cell?,hg];exact hj)
  by_cases hroom:n+m<=cap
  ·have hfit:n * i.size+news.length<=cur.size:=by rw [hl,hcs, <- Nat.add_mul];exact Nat.mul_le_mul_right _ hroom
   have hr':=run_append_room (P:=P) w t ty e i ht hi g n cap cur hg a m c news hl hnews h1 hroom hfit;rw [hr'] at hr;cases hr;intro g' hg';cases hg';intro o x ee;simp only [World.cell?,World.setRow] at ee;have hgs:=(Array.getElem?_eq_some_iff.1 hg).1;have hmem:∀ u ∈ (cur.toList.take (n * i.size)++news++cur.toList.drop (n * i.size+news.length)),p u=true:=by
    intro u hu
    rcases List.mem_append.1 hu with hu | hu
    ·rcases List.mem_append.1 hu with hu | hu
     ·exact hcur _ (by simpa using List.mem_of_mem_take hu)
     ·exact hnn _ hu
    ·exact hcur _ (by simpa using List.mem_of_mem_drop hu)
   have key:∀ (u:Value),(cur.toList.take (n * i.size)++news++cur.toList.drop (n * i.size+news.length)).toArray[o]? =some u->p u=true:=fun u hu=>hmem u (by simpa using Array.mem_of_getElem? hu)
   have hcell:(w.setRow g (cur.toList.take (n * i.size)++news++cur.toList.drop (n * i.size+news.length)).toArray).cell? ⟨g,o,none⟩=(cur.toList.take (n * i.size)++news++cur.toList.drop (n * i.size+news.length)).toArray[o]? :=by
    simp [World.cell?,World.setRow,Array.getElem?_modify,hg]
   exact key x (hcell.symm.trans (by simpa [World.cell?,World.setRow] using ee))
  ·have holds:∀ j u,xs[j]? =some u->w.cell? ((⟨g,0,none⟩:Addr).add j)=some u:=hown.cells (g:=g) rfl;have hr':=run_append_grow (P:=P) w t ty e i z ht hi hz ⟨g,0,none⟩ n cap xs hown.1 holds a m c news hl hnews (by omega) (by omega) (growslice_fits (by omega) hbytes);rw [hr'] at hr;cases hr;intro g' hg';cases hg'
   refine AllB.of_heap (heap_alloc_new w.drew _) ?_
   intro u hu
   rcases Array.mem_append.1 hu with hu | hu
   ·rcases Array.mem_append.1 hu with hu | hu
    ·refine hcur _ ?_
     rw [<- htake] at hu;exact Array.mem_toList_iff.1 (List.mem_of_mem_take (by simpa using hu))
    ·exact hnn _ (by simpa using hu)
   ·exact all_zero hzn _ hu
def isS (v:Value):Bool:=match v with | .slice _ _ _=>true | _=>false
theorem own_form1c {w:World} {base T n:Nat} {v:Value} {xs:List Value} (h:w.ownsRow base T 1 v n xs):∃ a c,v=.slice a n c/\n<=c:=by
 rcases h.2 with ⟨rfl,hn⟩ | ⟨g,cap,cur,rfl,hb,hg,hnc,hcm,hcs,htake⟩
 ·exact ⟨none,0,by rw [hn],by omega⟩
 ·exact ⟨_,cap,rfl,hnc⟩
def LCap (w:World) (a:Option Addr) (L:List LayL):Prop:=∀ (b off j:Nat) (l:LayL) (a1:Option Addr) (n c1:Nat),a=some ⟨b,off,none⟩->L[j]? =some l->w.cell? ⟨b,off+j * 9+7,none⟩=some (.slice a1 n c1)->n<=c1
def RoomK (k D B:Nat):Prop:=∀ D' B',D'<=D * WQ^k->B'<=9671406556917033397649408^k * B->Room D' B'
theorem RoomK.now {k D B:Nat} (h:RoomK k D B):Room D B:=
 h D B (Nat.le_mul_of_pos_right _ (Nat.pow_pos one_le_WQ)) (Nat.le_mul_of_pos_left _ (Nat.pow_pos (by omega)))
theorem RoomK.next {k D B j:Nat} (h:RoomK (k+1) D B) (hj:j<=WQ):RoomK k (D * j) (9671406556917033397649408 * B):=by
 intro D' B' hD hB
 refine h D' B' (Nat.le_trans hD ?_) (Nat.le_trans hB ?_)
 ·rw [Nat.pow_succ,Nat.mul_assoc,Nat.mul_comm j];exact Nat.mul_le_mul_left _ (Nat.mul_le_mul_left _ hj)
 ·rw [Nat.pow_succ, <- Nat.mul_assoc];exact Nat.le_refl _
end Go.Proofs.YtfgmmghmmfmdgaaGreat
namespace Go.Proofs.YtfgmmghmmfmdgaaGreat
open Go.RowKit Go.ChangeShapes Go.WideShapes Go.ChangeAt Go.Deep
open Go.Lib (hid)
section
variable {H:Type} {enc:TypeId × Value->H} {w:World} {base:Nat} {spare:Nat->Bool} {held:Bool}
theorem rats_cap {fuel:Nat} {a:Option Addr} {n k:Nat} {x:DataW H × List MemPlace} (h:DataW.trod enc Tryz.prog w base spare held fuel 35 [.slice a n k]=some x):n<=k:=by
 obtain ⟨f0,f1,f2,hs,hone,t0,t1,t2⟩:=Tryz.rat_parts;obtain ⟨a',len,cap,e,h1,_⟩:=open_rows Tryz.underlying35 hs hone (by kernel_rfl) (by simp) h;cases e;exact h1
theorem lays_cap {fuel:Nat} {a:Option Addr} {L:List LayL} {k:Nat} {x:DataW H × List MemPlace} (h:DataW.trod enc Tryz.prog w base spare held fuel 23 [.slice a L.length k]=some x):LCap w a L:=by
 intro b off j l a1 n c1 ha hj hc;have hlt:=(List.getElem?_eq_some_iff.1 hj).1;obtain ⟨f0,f1,f2,f3,f4,f5,f6,f7,f8,hs,hone,t0,t1,t2,t3,t4,t5,t6,t7,t8⟩:=Tryz.layL_parts;subst ha;obtain ⟨ys,m,hys,hf⟩:=slice_parts Tryz.underlying23 hs hone (by kernel_rfl) h hlt;obtain ⟨d1,y1,e1,g1,k1⟩:=hf 7 f7 rfl;rw [show (#[f0,f1,f2,f3,f4,f5,f6,f7,f8]:Array Field).size=9 from rfl] at e1;rw [hc,Option.some.injEq] at e1;subst e1;rw [t7] at k1;exact rats_cap k1
theorem open_modelE {r:Reach} {b0:Nat} {v:Value} {d:DataW H} {p:List MemPlace} (hv:Value.okWide Tryz.prog w r b0 25 v)
  (h:DataW.Trod enc Tryz.prog w base spare held 25 v d p) (hB:Rows.uptoBulk d<=1048576):∃ (m:ModL) (a1 a2:Option Addr) (c1 c2:Nat),v=.agg #[.slice a1 m.input.length c1,.slice a2 m.layers.length c2]/\m.layers.length<=c2/\Ints w Any a1 m.input/\LaysAt w a2 m.layers/\LCap w a2 m.layers/\(∀ l ∈ m.layers,LayRange l)/\∀ l ∈ m.layers,LayLe l:=by
 obtain ⟨f0,f1,hs,hone,t0,t1⟩:=Tryz.model_parts;obtain ⟨cs,ys,n,rfl,hcl,hyl,hd,hf⟩:=open_struct hs hone (by kernel_rfl) hv h;obtain ⟨v0,v1,rfl⟩:=list2' hcl;obtain ⟨c0,y0,e0,_,g0⟩:=hf 0 f0 rfl;obtain ⟨c1,y1,e1,hy1,g1⟩:=hf 1 f1 rfl;simp only [List.getElem?_cons_zero,List.getElem?_cons_succ,Option.some.injEq] at e0 e1;subst e0 e1;rw [t0] at g0;rw [t1] at g1;obtain ⟨a0,l0,m0,q0,i0,b0',_⟩:=open_ints64 Tryz.underlying22 Tryz.underlying3 Tryz.cellsInt1 g0;simp only [List.cons.injEq,and_true] at q0;subst q0;have hb1:Rows.uptoBulk y1.1<=1048576:=by
  have:=bulk_part (List.mem_map_of_mem (f:=(·.1)) (List.mem_of_getElem? hy1));have h2:=bulk_agg (ys.map (·.1));rw [hd] at hB;omega
 obtain ⟨a1,l1,m1,rfl,k1,i1,r1⟩:=open_layers g1;have hle:=lays_le g1 i1 hb1;exact ⟨⟨l0,l1⟩,a0,a1,m0,m1,rfl,k1,i0,i1,lays_cap g1,r1,fun l hl=>⟨(hle l hl).1,(hle l hl).2⟩⟩
end
end Go.Proofs.YtfgmmghmmfmdgaaGreat
namespace Go.Proofs.YtfgmmghmmfmdgaaGreat
open Go.RowKit
open Go.Lib (hid)
section
variable {α:Type}
structure Row4 (P:World->Value->Value->Value->Value->α->Prop) (w:World) (a:Option Addr) (L:List α):Prop where
 len:L.length<=9223372036854775807
 row:L=[] ∨ ∃ b off,a=some ⟨b,off,none⟩/\b < w.heap.size/\∀ (j:Nat) (x:α),L[j]? =some x->∃ p0 p1 p2 p3,w.cell? ⟨b,off+j * 4,none⟩=some p0/\w.cell? ⟨b,off+j * 4+1,none⟩=some p1/\w.cell? ⟨b,off+j * 4+2,none⟩=some p2/\w.cell? ⟨b,off+j * 4+3,none⟩=some p3/\P w p0 p1 p2 p3 x
structure Keeps4 (P:World->Value->Value->Value->Value->α->Prop) (p:Value->Bool):Prop where
 below:∀ {w w':World} {p0 p1 p2 p3:Value} {x:α},P w p0 p1 p2 p3 x->Below w.heap.size w w'->P w' p0 p1 p2 p3 x
 grown:∀ {w w':World} {v p0 p1 p2 p3:Value} {x:α},P w p0 p1 p2 p3 x->w.grownBy w' v.ownBlock->AllO p w v->P w' p0 p1 p2 p3 x
 one:∀ {w:World} {p0 p1 p2 p3:Value} {x:α},P w p0 p1 p2 p3 x->∀ u ∈ [p0,p1,p2,p3],u.oneCell'=true/\p u=true
variable {P:World->Value->Value->Value->Value->α->Prop} {p:Value->Bool}
theorem Row4.nil (w:World) (a:Option Addr):Row4 P w a []:=⟨Nat.zero_le _,.inl rfl⟩
theorem Row4.below {w w':World} {a:Option Addr} {L:List α} (h:Row4 P w a L) (hP:Keeps4 P p) (hb:Below w.heap.size w w'):Row4 P w' a L:=by
 refine ⟨h.len,h.row.imp id ?_⟩
 rintro ⟨b,off,rfl,hs,hc⟩
 refine ⟨b,off,rfl,Nat.lt_of_lt_of_le hs hb.size,fun j x hj=>?_⟩
 obtain ⟨p0,p1,p2,p3,h0,h1,h2,h3,h4⟩:=hc j x hj;exact ⟨p0,p1,p2,p3,(hb.cell hs).trans h0,(hb.cell hs).trans h1,(hb.cell hs).trans h2,(hb.cell hs).trans h3,hP.below h4 hb⟩
theorem Row4.pick {w:World} {a:Option Addr} {L:List α} (h:Row4 P w a L) {k:Nat} (hk:k < L.length):
  ∃ b off x p0 p1 p2 p3,a=some ⟨b,off,none⟩/\b < w.heap.size/\L[k]? =some x/\w.cell? ⟨b,off+k * 4,none⟩=some p0/\w.cell? ⟨b,off+k * 4+1,none⟩=some p1/\w.cell? ⟨b,off+k * 4+2,none⟩=some p2/\w.cell? ⟨b,off+k * 4+3,none⟩=some p3/\P w p0 p1 p2 p3 x:=by
 rcases h.row with rfl | ⟨b,off,rfl,hb,hc⟩
 ·simp at hk
 ·have hd:L[k]? =some L[k]:=by simp [hk]
  obtain ⟨p0,p1,p2,p3,h0,h1,h2,h3,h4⟩:=hc k _ hd;exact ⟨b,off,L[k],p0,p1,p2,p3,rfl,hb,hd,h0,h1,h2,h3,h4⟩
theorem Row4.drop {w:World} {b off:Nat} {L:List α} (h:Row4 P w (some ⟨b,off,none⟩) L) (k:Nat):Row4 P w (some ⟨b,off+k * 4,none⟩) (L.drop k):=by
 refine ⟨by have:=h.len;rw [List.length_drop];omega,?_⟩
 rcases h.row with rfl | ⟨b',off',e,hb,hc⟩
 ·exact .inl (by simp)
 ·cases e
  refine .inr ⟨b,off+k * 4,rfl,hb,fun j x hj=>?_⟩
  rw [List.getElem?_drop] at hj;obtain ⟨p0,p1,p2,p3,h0,h1,h2,h3,h4⟩:=hc (k+j) x hj;have e:off+k * 4+j * 4=off+(k+j) * 4:=by rw [Nat.add_mul];omega
  rw [e];exact ⟨p0,p1,p2,p3,h0,h1,h2,h3,h4⟩
theorem Row4.take {w:World} {a:Option Addr} {L:List α} (h:Row4 P w a L) (k:Nat):Row4 P w a (L.take k):=by
 refine ⟨by have:=h.len;rw [List.length_take];omega,?_⟩
 rcases h.row with rfl | ⟨b,off,rfl,hb,hc⟩
 ·exact .inl (by simp)
 ·refine .inr ⟨b,off,rfl,hb,fun j x hj=>hc j x ?_⟩
  have hlt:=(List.getElem?_eq_some_iff.1 hj).1;rw [List.length_take] at hlt;rw [List.getElem?_take_of_lt (by omega)] at hj;exact hj
structure Own4 (P:World->Value->Value->Value->Value->α->Prop) (p:Value->Bool) (T:TypeId) (w:World) (base:Nat) (v:Value) (L:List α):Prop where
 ex:∃ xs,w.ownsRow base T 4 v L.length xs/\∀ (j:Nat) (x:α),L[j]? =some x->∃ p0 p1 p2 p3,xs[j * 4]? =some p0/\xs[j * 4+1]? =some p1/\xs[j * 4+2]? =some p2/\xs[j * 4+3]? =some p3/\P w p0 p1 p2 p3 x
 al:AllO p w v
variable {T:TypeId}
theorem Own4.nil (w:World) (base:Nat):Own4 P p T w base (.slice none 0 0) []:=⟨⟨[],World.ownsRow_nil _ _ _ _,by simp⟩,by intro g h;cases h⟩
theorem Own4.lt {w:World} {base:Nat} {v:Value} {L:List α} (h:Own4 P p T w base v L) {k:Nat} (hk:v.ownBlock=some k):base<=k/\k < w.heap.size:=by
 obtain ⟨xs,ho,_⟩:=h.ex;exact ho.lt k hk
theorem Own4.below {w w':World} {base:Nat} {v:Value} {L:List α} (h:Own4 P p T w base v L) (hP:Keeps4 P p) (hb:Below w.heap.size w w'):Own4 P p T w' base v L:=by
 obtain ⟨xs,ho,he⟩:=h.ex
 refine ⟨⟨xs,ho.kept (row:=none) ⟨hb.os,hb.tape,hb.output,hb.size,fun k hk _=>hb.block k hk⟩ (by cases hv:v.ownBlock <;> simp),fun j x hj=>?_⟩,fun g hg=>(h.al g hg).below hb (h.lt hg).2⟩
 obtain ⟨p0,p1,p2,p3,h0,h1,h2,h3,h4⟩:=he j x hj;exact ⟨p0,p1,p2,p3,h0,h1,h2,h3,hP.below h4 hb⟩
theorem own_form4 {w:World} {base T n:Nat} {v:Value} {xs:List Value} (h:w.ownsRow base T 4 v n xs):∃ a c,v=.slice a n c/\n<=c:=by
 rcases h.2 with ⟨rfl,hn⟩ | ⟨g,cap,cur,rfl,hb,hg,hnc,hcm,hcs,htake⟩
 ·exact ⟨none,0,by rw [hn],by omega⟩
 ·exact ⟨_,cap,rfl,hnc⟩
theorem Own4.form {w:World} {base:Nat} {v:Value} {L:List α} (h:Own4 P p T w base v L):∃ a c,v=.slice a L.length c/\L.length<=c:=by
 obtain ⟨xs,ho,_⟩:=h.ex;exact own_form4 ho
theorem Own4.read {w:World} {base:Nat} {a:Option Addr} {n c:Nat} {L:List α} (h:Own4 P p T w base (.slice a n c) L) (hl:L.length<=9223372036854775807):Row4 P w a L:=by
 obtain ⟨xs,ho,he⟩:=h.ex
 rcases ho.2 with ⟨e,hn⟩ | ⟨g,cap,cur,e,hb,hg,hnc,hcm,hcs,htake⟩
 ·exact ⟨hl,.inl (List.eq_nil_of_length_eq_zero hn)⟩
 ·cases e
  refine ⟨hl,.inr ⟨g,0,rfl,(Array.getElem?_eq_some_iff.1 hg).1,fun j x hj=>?_⟩⟩
  obtain ⟨p0,p1,p2,p3,h0,h1,h2,h3,h4⟩:=he j x hj;have k0:=ho.cells (g:=g) rfl _ _ h0;have k1:=ho.cells (g:=g) rfl _ _ h1;have k2:=ho.cells (g:=g) rfl _ _ h2;have k3:=ho.cells (g:=g) rfl _ _ h3;simp only [Addr.add_lit] at k0 k1 k2 k3;exact ⟨p0,p1,p2,p3,k0,k1,k2,k3,h4⟩
structure One4 (P:World->Value->Value->Value->Value->α->Prop) (w:World) (v:Value) (x:α):Prop where
 ex:∃ g p0 p1 p2 p3,v=.slice (some ⟨g,0,none⟩) 1 1/\g < w.heap.size/\w.cell? ⟨g,0,none⟩=some p0/\w.cell? ⟨g,1,none⟩=some p1/\w.cell? ⟨g,2,none⟩=some p2/\w.cell? ⟨g,3,none⟩=some p3/\P w p0 p1 p2 p3 x
theorem One4.alloc {w:World} {p0 p1 p2 p3:Value} {x:α} (hP:Keeps4 P p) (h:P w p0 p1 p2 p3 x) (T:Nat):One4 P (w.alloc (.cells #[p0,p1,p2,p3] T)) (.slice (some ⟨w.heap.size,0,none⟩) 1 1) x:=by
 have hb:Below w.heap.size w (w.alloc (.cells #[p0,p1,p2,p3] T)):=(Below.refl _ w).alloc (Nat.le_refl _) _;exact ⟨w.heap.size,p0,p1,p2,p3,rfl,by simp,by rw [World.cell?_alloc_at _ _ _ _ rfl];rfl,by rw [World.cell?_alloc_at _ _ _ _ rfl];rfl,by rw [World.cell?_alloc_at _ _ _ _ rfl];rfl,by rw [World.cell?_alloc_at _ _ _ _ rfl];rfl,hP.below h hb⟩
theorem One4.below {w w':World} {v:Value} {x:α} (h:One4 P w v x) (hP:Keeps4 P p) (hb:Below w.heap.size w w'):One4 P w' v x:=by
 obtain ⟨g,p0,p1,p2,p3,e,hg,h0,h1,h2,h3,h4⟩:=h.ex;exact ⟨g,p0,p1,p2,p3,e,Nat.lt_of_lt_of_le hg hb.size,(hb.cell (p:=⟨g,0,none⟩) hg).trans h0,(hb.cell (p:=⟨g,1,none⟩) hg).trans h1,(hb.cell (p:=⟨g,2,none⟩) hg).trans h2,(hb.cell (p:=⟨g,3,none⟩) hg).trans h3,hP.below h4 hb⟩
theorem Own4.app {w w':World} {base:Nat} {v v':Value} {L:List α} {x:α} {p0 p1 p2 p3:Value} {xs:List Value} (hP:Keeps4 P p) (h:Own4 P p T w base v L)
  (he:∀ (j:Nat) (x:α),L[j]? =some x->∃ p0 p1 p2 p3,xs[j * 4]? =some p0/\xs[j * 4+1]? =some p1/\xs[j * 4+2]? =some p2/\xs[j * 4+3]? =some p3/\P w p0 p1 p2 p3 x) (hxl:xs.length=L.length * 4) (hx:P w p0 p1 p2 p3 x)
  (hown:w'.ownsRow base T 4 v' (L.length+1) (xs++[p0,p1,p2,p3])) (hg:w.grownBy w' v.ownBlock) (hno:AllO p w' v'):Own4 P p T w' base v' (L++[x]):=by
 refine ⟨⟨_,by simpa using hown,fun j y hj=>?_⟩,hno⟩
 by_cases hlt:j < L.length
 ·rw [List.getElem?_append_left hlt] at hj;obtain ⟨r0,r1,r2,r3,q0,q1,q2,q3,q4⟩:=he j y hj
  refine ⟨r0,r1,r2,r3,?_,?_,?_,?_,hP.grown q4 hg h.al⟩
  ·rw [List.getElem?_append_left (by omega)];exact q0
  ·rw [List.getElem?_append_left (by omega)];exact q1
  ·rw [List.getElem?_append_left (by omega)];exact q2
  ·rw [List.getElem?_append_left (by omega)];exact q3
 ·have hlt':=(List.getElem?_eq_some_iff.1 hj).1;simp only [List.length_append,List.length_cons,List.length_nil] at hlt';obtain rfl:j=L.length:=by omega
  have e2:y=x:=by simpa using hj.symm
  subst e2
  refine ⟨p0,p1,p2,p3,?_,?_,?_,?_,hP.grown hx hg h.al⟩
  ·rw [List.getElem?_append_right (by omega)];simp [hxl]
  ·rw [List.getElem?_append_right (by omega),show L.length * 4+1 - xs.length=1 by omega];rfl
  ·rw [List.getElem?_append_right (by omega),show L.length * 4+2 - xs.length=2 by omega];rfl
  ·rw [List.getElem?_append_right (by omega),show L.length * 4+3 - xs.length=3 by omega];rfl
theorem wpList_app4 {Pr:Program} {w:World} {ops:Array Oper} {rest:List Oper} {o:Oper} {a:Act} {Q:Exit->Act->World->Prop} (hP:Keeps4 P p) (z0 z1 z2 z3:Value) (bytes:Nat) (hz:∀ u ∈ [z0,z1,z2,z3],p u=true) (hgd:o.guard=none) (s x:Operand) (t:TypeId)
  (ho:o.op=.call { callee:=.builtin .append,args:=#[s,x],argTypes:=#[t,t] })
  (base:Nat) (ht:Pr.underlying t=some (.slice T)) (hinfo:(Pr.info? T).map (fun i=>(i.zero,i.size,i.bytes))=some (some (.agg #[z0,z1,z2,z3]),4,bytes)) (hby2:bytes<=80)
  (v:Value) (n:Nat) (L:List α) (hn:L.length=n) (hs:a.eval s=v) (hown:Own4 P p T w base v L) (u:Value) (y:α) (hu:One4 P w u y)
  (hx:a.eval x=u) (hL:n+1<=1000000000000) (hbase:base<=w.heap.size)
  (h:∀ b k w',Own4 P p T w' base (.slice b (n+1) k) (L++[y])->n+1<=k->w.grownBy w' v.ownBlock->Below base w w'->Next w v (.slice b (n+1) k)->wpList Pr ops Q rest (a.put o.dst (.slice b (n+1) k)) w'):
  wpList Pr ops Q (o::rest) a w:=by
 subst hn
 refine wpList_plain hgd fun K hK=>?_
 obtain ⟨i,hi,hzz,hsize,hby⟩:=info_parts hinfo;obtain ⟨xs,hox,he⟩:=hown.ex;obtain ⟨g,p0,p1,p2,p3,rfl,hg,c0,c1,c2,c3,hy⟩:=hu.ex;have hcells:∀ (j:Nat) (u:Value),[p0,p1,p2,p3][j]? =some u->w.cell? (Addr.add ⟨g,0,none⟩ j)=some u:=by
  intro j u hj;rw [Addr.add_lit]
  match j,hj with
  | 0,hj=>rw [<- hj];exact c0
  | 1,hj=>rw [<- hj];exact c1
  | 2,hj=>rw [<- hj];exact c2
  | 3,hj=>rw [<- hj];exact c3
 obtain ⟨v',w',hr,r2,r3,r4,r5⟩:=run_append_all (P:=Pr) p w base t o.type _ i _ 4 bytes ht hi hzz hsize hby (by simp [Value.cells]) (by omega) v L.length xs hox ⟨g,0,none⟩ 1 1
  [p0,p1,p2,p3] rfl hcells (fun u hu=>(hP.one hy u hu).1) (by omega) (by unfold maxLen;omega)
  (Nat.le_trans (Nat.mul_le_mul_left _ hby2) (by omega)) hbase
  hown.al (fun u hu=>(hP.one hy u hu).2) (by intro u hu;simp [Value.cells] at hu;exact hz u (by simpa using hu))
 have hO:=hown.app (x:=y) (w':=w') (v':=v') (xs:=xs) hP he hox.1 hy r2 r3 r5;have hbe:Below base w w':=(Below.refl base w).grown r3 hbase (fun k hk=>(hown.lt hk).1);obtain ⟨b,k,e,hk⟩:=own_form4 r2;subst e;unfold Oper.wp execOp;simp only [ho,resolve,invoke,builtin,Sem.run_bind,Sem.run_pure,Result.andThen_ok,List.map_toArray,List.map_cons,List.map_nil,hs,hx,hr];exact hK _ _ (h b k w' hO hk r3 hbe r4)
end
structure RatC (w:World) (p1 p2 p3:Value) (q:Rat):Prop where
 ex:∃ an ad cn cd,p1=.bool (ratL q).neg/\p2=.slice an (ratL q).num.length cn/\p3=.slice ad (ratL q).den.length cd/\(ratL q).num.length<=cn/\(ratL q).den.length<=cd/\U32s w an (ratL q).num/\U32s w ad (ratL q).den
theorem RatC.below {w w':World} {p1 p2 p3:Value} {q:Rat} (h:RatC w p1 p2 p3 q) (hb:Below w.heap.size w w'):RatC w' p1 p2 p3 q:=by
 obtain ⟨an,ad,cn,cd,e1,e2,e3,l1,l2,u1,u2⟩:=h.ex;exact ⟨an,ad,cn,cd,e1,e2,e3,l1,l2,u1.below hb,u2.below hb⟩
theorem RatC.grown {w w':World} {v p1 p2 p3:Value} {q:Rat} (h:RatC w p1 p2 p3 q) (hg:w.grownBy w' v.ownBlock) (hn:NoO w v):RatC w' p1 p2 p3 q:=by
 obtain ⟨an,ad,cn,cd,e1,e2,e3,l1,l2,u1,u2⟩:=h.ex;exact ⟨an,ad,cn,cd,e1,e2,e3,l1,l2,u1.grown hg hn,u2.grown hg hn⟩
theorem RatC.val {w:World} {p1 p2 p3:Value} {q:Rat} (h:RatC w p1 p2 p3 q):RatV w (.agg #[p1,p2,p3]) (ratL q):=by
 obtain ⟨an,ad,cn,cd,rfl,rfl,rfl,l1,l2,u1,u2⟩:=h.ex;exact ⟨an,ad,cn,cd,rfl,l1,l2,u1,u2⟩
theorem RatC.of {w:World} {v:Value} {q:Rat} (h:RatV w v (ratL q)):∃ p1 p2 p3,v=.agg #[p1,p2,p3]/\RatC w p1 p2 p3 q:=by
 obtain ⟨an,ad,cn,cd,rfl,l1,l2,u1,u2⟩:=h.ex;exact ⟨_,_,_,rfl,an,ad,cn,cd,rfl,rfl,rfl,l1,l2,u1,u2⟩
theorem AllO.noI {w:World} {v:Value} (h:AllO noI w v):NoO w v:=fun g hg o x e=>by have:=h g hg o _ e;cases this
def TermP (w:World) (p0 p1 p2 p3:Value) (t:Nat × Rat):Prop:=p0=.int .i64 (t.1:Int)/\RatC w p1 p2 p3 t.2
theorem termK:Keeps4 TermP noI where
 below:=fun ⟨e,h⟩ hb=>⟨e,h.below hb⟩
 grown:=fun ⟨e,h⟩ hg ha=>⟨e,h.grown hg ha.noI⟩
 one:=by
  rintro w p0 p1 p2 p3 x ⟨rfl,h⟩ u hu;obtain ⟨an,ad,cn,cd,rfl,rfl,rfl,_⟩:=h.ex;simp at hu
  rcases hu with rfl | rfl | rfl | rfl <;> exact ⟨rfl,rfl⟩
abbrev TermsAt (w:World) (a:Option Addr) (L:List (Nat × Rat)):Prop:=Row4 TermP w a L
def isBS (v:Value):Bool:=match v with | .slice _ _ _=>true | .bool _=>true | _=>false
theorem AllO.bs {w:World} {v:Value} (h:AllO isBS w v):NoO w v:=fun g hg o x e=>by have:=h g hg o _ e;cases this
theorem terms_grown {w w':World} {a:Option Addr} {L:List (Nat × Rat)} {v:Value} (h:TermsAt w a L) (hg:w.grownBy w' v.ownBlock) (hn:AllO isBS w v):TermsAt w' a L:=by
 refine ⟨h.len,?_⟩
 rcases h.row with rfl | ⟨b,off,rfl,hb,hc⟩
 ·exact .inl rfl
 ·by_cases hL:L=[]
  ·exact .inl hL
  ·have hp:=List.length_pos_iff.2 hL;have hne:some b ≠ v.ownBlock:=by
    intro e;obtain ⟨p0,p1,p2,p3,h0,_,_,_,h4⟩:=hc 0 L[0] (List.getElem?_eq_getElem hp);rw [h4.1] at h0;have:=hn b e.symm _ _ h0;cases this
   refine .inr ⟨b,off,rfl,Nat.lt_of_lt_of_le hb hg.size,fun j x hj=>?_⟩
   obtain ⟨p0,p1,p2,p3,h0,h1,h2,h3,h4⟩:=hc j x hj;have hcell:∀ o,w'.cell? ⟨b,o,none⟩=w.cell? ⟨b,o,none⟩:=fun o=>World.cell?_of_block (hg.block b hb hne)
   exact ⟨p0,p1,p2,p3,(hcell _).trans h0,(hcell _).trans h1,(hcell _).trans h2,(hcell _).trans h3,h4.1,h4.2.grown hg hn.bs⟩
def FormP (w:World) (p0 p1 p2 p3:Value) (f:AffQ):Prop:=(∃ a c,p0=.slice a f.ts.length c/\f.ts.length<=c/\TermsAt w a f.ts)/\RatC w p1 p2 p3 f.c
theorem formK:Keeps4 FormP isBS where
 below:=fun ⟨⟨a,c,e,hc,h⟩,k⟩ hb=>⟨⟨a,c,e,hc,h.below termK hb⟩,k.below hb⟩
 grown:=fun ⟨⟨a,c,e,hc,h⟩,k⟩ hg ha=>⟨⟨a,c,e,hc,terms_grown h hg ha⟩,k.grown hg ha.bs⟩
 one:=by
  rintro w p0 p1 p2 p3 x ⟨⟨a,c,rfl,_,_⟩,h⟩ u hu;obtain ⟨an,ad,cn,cd,rfl,rfl,rfl,_⟩:=h.ex;simp at hu
  rcases hu with rfl | rfl | rfl | rfl <;> exact ⟨rfl,rfl⟩
abbrev FormsAt (w:World) (a:Option Addr) (L:List AffQ):Prop:=Row4 FormP w a L
structure FormV (w:World) (v:Value) (f:AffQ):Prop where
 ex:∃ p0 p1 p2 p3,v=.agg #[p0,p1,p2,p3]/\FormP w p0 p1 p2 p3 f
theorem FormV.below {w w':World} {v:Value} {f:AffQ} (h:FormV w v f) (hb:Below w.heap.size w w'):FormV w' v f:=by
 obtain ⟨p0,p1,p2,p3,e,k⟩:=h.ex;exact ⟨p0,p1,p2,p3,e,formK.below k hb⟩
theorem FormV.parts {w:World} {v:Value} {f:AffQ} (h:FormV w v f):∃ a c an ad cn cd,v=.agg #[.slice a f.ts.length c,.bool (ratL f.c).neg,.slice an (ratL f.c).num.length cn,.slice ad (ratL f.c).den.length cd]/\f.ts.length<=c/\TermsAt w a f.ts/\
  (ratL f.c).num.length<=cn/\(ratL f.c).den.length<=cd/\U32s w an (ratL f.c).num/\U32s w ad (ratL f.c).den:=by
 obtain ⟨p0,p1,p2,p3,rfl,⟨a,c,rfl,hc,ht⟩,hr⟩:=h.ex;obtain ⟨an,ad,cn,cd,rfl,rfl,rfl,l1,l2,u1,u2⟩:=hr.ex;exact ⟨a,c,an,ad,cn,cd,rfl,hc,ht,l1,l2,u1,u2⟩
def RetAf (w:World) (f:AffQ) (e:Ending) (w':World):Prop:=∃ v,e=.returned v/\FormV w' v f/\Below w.heap.size w w'
def scA (k:Rat) (f:AffQ):AffQ:=addA k zerA f
def sumF (b:Rat) (ws:List Rat) (off:Nat) (ix:List Int) (x:List AffQ):Nat->AffQ
 | 0=>numA b
 | k+1=>if 0<=ix.getD k 0 then addA 1 (sumF b ws off ix x k) (scA (ws.getD (off+k) 0) (x.getD (ix.getD k 0).toNat zerA)) else sumF b ws off ix x k
def plusF (l:List AffQ):Nat->AffQ
 | 0=>zerA
 | k+1=>addA 1 (plusF l k) (l.getD k zerA)
def meanF (l:List AffQ):AffQ:=scA (1 / ((l.length:Int):Rat)) (plusF l l.length)
def unitF (nI:Nat) (U:List AffQ) (f:AffQ):List AffQ × AffQ:=(U++[f],varA (nI+U.length))
def greatF (nI:Nat):Nat->List AffQ->List AffQ->List AffQ × AffQ
 | 0,U,l=>(U,l.getD 0 zerA)
 | fuel+1,U,l=>
  if l.length<=1 then (U,l.getD 0 zerA) else
   ((unitF nI (greatF nI fuel (greatF nI fuel U (l.take ((l.length + 1) / 2))).1 (l.drop ((l.length + 1) / 2))).1
     (addA (-1) (greatF nI fuel (greatF nI fuel U (l.take ((l.length+1) / 2))).1 (l.drop ((l.length+1) / 2))).2 (greatF nI fuel U (l.take ((l.length+1) / 2))).2)).1,
     addA 1 (greatF nI fuel U (l.take ((l.length+1) / 2))).2
      (unitF nI (greatF nI fuel (greatF nI fuel U (l.take ((l.length+1) / 2))).1 (l.drop ((l.length+1) / 2))).1
       (addA (-1) (greatF nI fuel (greatF nI fuel U (l.take ((l.length+1) / 2))).1 (l.drop ((l.length+1) / 2))).2 (greatF nI fuel U (l.take ((l.length+1) / 2))).2)).2)
theorem greatF_one {nI fuel:Nat} {U l:List AffQ} (h:l.length=1):greatF nI (fuel+1) U l=(U,l.getD 0 zerA):=by
 show (if l.length<=1 then (U,l.getD 0 zerA) else _)=_
 rw [if_pos (by omega)]
theorem greatF_more {nI fuel:Nat} {U l U1 U2:List AffQ} {a b:AffQ} (h:2<=l.length) (h1:greatF nI fuel U (l.take ((l.length+1) / 2))=(U1,a)) (h2:greatF nI fuel U1 (l.drop ((l.length+1) / 2))=(U2,b)):
  greatF nI (fuel+1) U l=(U2++[addA (-1) b a],addA 1 a (varA (nI+U2.length))):=by
 rw [greatF,if_neg (by omega),h1];simp only;rw [h2];rfl
theorem unitF_app (nI:Nat) (U:List AffQ) (f:AffQ):∃ V,(unitF nI U f).1=U++V:=⟨[f],rfl⟩
theorem greatF_app (nI:Nat):∀ (fuel:Nat) (U l:List AffQ),∃ V,(greatF nI fuel U l).1=U++V
 | 0,U,l=>⟨[],by simp [greatF]⟩
 | fuel+1,U,l=>by
  rw [greatF]
  split
  ·exact ⟨[],by simp⟩
  ·obtain ⟨V1,h1⟩:=greatF_app nI fuel U (l.take ((l.length+1) / 2));obtain ⟨V2,h2⟩:=greatF_app nI fuel (greatF nI fuel U (l.take ((l.length+1) / 2))).1 (l.drop ((l.length+1) / 2));simp only [unitF];rw [h2,h1,List.append_assoc,List.append_assoc];exact ⟨_,rfl⟩
def valsF (ix:List Int) (x:List AffQ):List AffQ:=ix.map fun i=>x.getD i.toNat zerA
def foldU {β:Type} (f:List AffQ->β->List AffQ × AffQ):List β->List AffQ->List AffQ × List AffQ
 | [],U=>(U,[])
 | b::r,U=>((foldU f r (f U b).1).1,(f U b).2::(foldU f r (f U b).1).2)
theorem foldU_snoc {β:Type} (f:List AffQ->β->List AffQ × AffQ) (b:β):∀ (l:List β) (U:List AffQ),
  foldU f (l++[b]) U=((f (foldU f l U).1 b).1,(foldU f l U).2++[(f (foldU f l U).1 b).2])
 | [],U=>rfl
 | a::r,U=>by
  show ((foldU f (r++[b]) (f U a).1).1,(f U a).2::(foldU f (r++[b]) (f U a).1).2)=_
  rw [foldU_snoc f b r];rfl
theorem foldU_len {β:Type} (f:List AffQ->β->List AffQ × AffQ):∀ (l:List β) (U:List AffQ),(foldU f l U).2.length=l.length
 | [],_=>rfl
 | a::r,U=>by
  show (foldU f r (f U a).1).2.length+1=r.length+1
  rw [foldU_len f r]
def grpsL (C n:Nat) (win:List (List Int)):List (List Int):=(List.range C).flatMap fun ch=>(List.range win.length).map fun i=>partL (win.getD i []) (ch * n) n
def lowLay (nI:Nat) (U:List AffQ) (l:LayL) (s:List Int) (x fr:List AffQ):List AffQ × List AffQ:=
 if l.kind=1 then (U,(List.range l.out.toNat).map fun r=>sumF ((bq l).getD r 0) (partL (wq l) (r * x.length) x.length) 0 (iotaZ x.length) x x.length)
 else if l.kind=2 then (U,(List.range l.out.toNat).flatMap fun o=>(List.range (windowsL s l.kh l.kw l.stride l.pad).1.length).map fun i=>
  sumF ((bq l).getD o 0) (partL (wq l) (o * ((s.getD 0 0).toNat * l.kh.toNat * l.kw.toNat)) ((s.getD 0 0).toNat * l.kh.toNat * l.kw.toNat)) 0 ((windowsL s l.kh l.kw l.stride l.pad).1.getD i []) x ((windowsL s l.kh l.kw l.stride l.pad).1.getD i []).length)
 else if l.kind=3 then foldU (fun U g=>greatF nI g.length U (valsF g x)) (grpsL (s.getD 0 0).toNat (l.kh.toNat * l.kw.toNat) (windowsL s l.kh l.kw l.stride 0).1) U
 else if l.kind=4 then (U,(grpsL (s.getD 0 0).toNat (l.kh.toNat * l.kw.toNat) (windowsL s l.kh l.kw l.stride 0).1).map fun g=>meanF (valsF g x))
 else if l.kind=5 then foldU (unitF nI) x U
 else if l.kind=7 then (U,(List.range x.length).map fun k=>addA 1 (x.getD k zerA) (fr.getD k zerA))
 else (U,x)
def currF (x:List AffQ) (Y:List (List AffQ)):List AffQ:=Y.getLast?.getD x
def fromF (x:List AffQ) (Y:List (List AffQ)) (f:Int):List AffQ:=if 0<=f then Y.getD f.toNat [] else x
def lowFrom (nI:Nat) (input:List Int) (x:List AffQ):List (List Int)->List (List AffQ)->List AffQ->List LayL->List AffQ × List (List AffQ)
 | _,Y,U,[]=>(U,Y)
 | S,Y,U,l::r=>
  lowFrom nI input x (S++[(outSL input S l).1]) (Y++[(lowLay nI U l (currL input S) (currF x Y) (fromF x Y l.frm)).2]) (lowLay nI U l (currL input S) (currF x Y) (fromF x Y l.frm)).1 r
structure GraphQ where
 inputs:Nat
 units:List AffQ
 outs:List AffQ
def emptyG:GraphQ:=⟨0,[],[]⟩
def cntL:List LayL->List (List Int)->Int
 | l::r,s::t=>(if l.kind=5 then sizeL s else if l.kind=3 then (l.kh * l.kw - 1) * sizeL s else 0)+cntL r t
 | _,_=>0
def varsF (n:Nat):List AffQ:=(List.range n).map varA
def lowerL (m:ModL):GraphQ × Int:=
 if (shapesL m).2.2=0 then
  (if 256 < sizeL m.input ∨ 1024 < cntL m.layers (shapesL m).1 ∨ 256 < sizeL (currL m.input (shapesL m).1) then (emptyG,8)
   else (⟨(sizeL m.input).toNat,(lowFrom (sizeL m.input).toNat m.input (varsF (sizeL m.input).toNat) [] [] [] m.layers).1,
    currF (varsF (sizeL m.input).toNat) (lowFrom (sizeL m.input).toNat m.input (varsF (sizeL m.input).toNat) [] [] [] m.layers).2⟩,0))
 else (emptyG,(shapesL m).2.2)
def countL (m:ModL):Int × Int:=if (shapesL m).2.2=0 then (cntL m.layers (shapesL m).1,0) else (0,(shapesL m).2.2)
end Go.Proofs.YtfgmmghmmfmdgaaGreat
