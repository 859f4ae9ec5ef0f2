/-
  Contracts of the functions that the statement reaches: LjD, LjE, LjF, LjG, LjH, LjI, LjK.
-/
import Derived.Test.YtfgmmghmmfmdgaaGreatX40
set_option linter.all false
set_option maxRecDepth 100000
set_option maxHeartbeats 3200000
namespace Go.Proofs.YtfgmmghmmfmdgaaGreat
open Go.RowKit
open Go.Lib (hid)
theorem foldU_more {β:Type} {f:List AffQ->β->List AffQ × AffQ} (h:∀ U b,∃ V,(f U b).1=U++V):∀ (l:List β) (U:List AffQ),∃ V,(foldU f l U).1=U++V
 | [],U=>⟨[],by rw [List.append_nil];rfl⟩
 | b::r,U=>by
  obtain ⟨V1,e1⟩:=h U b;obtain ⟨V2,e2⟩:=foldU_more h r (f U b).1;exact ⟨V1++V2,by show (foldU f r (f U b).1).1=_;rw [e2,e1,List.append_assoc]⟩
theorem foldU_all {β:Type} {f:List AffQ->β->List AffQ × AffQ} {nI N:Nat} {P:AffQ->Prop} (happ:∀ U b,∃ V,(f U b).1=U++V):∀ (l:List β) (U:List AffQ),(∀ U b,b ∈ l->nI+(f U b).1.length<=N->P (f U b).2)->nI+(foldU f l U).1.length<=N->∀ y ∈ (foldU f l U).2,P y
 | [],U,_,_=>fun y hy=>by cases hy
 | b::r,U,h,hN=>by
  intro y hy;have hN':nI+(foldU f r (f U b).1).1.length<=N:=hN;obtain ⟨V,e⟩:=foldU_more happ r (f U b).1
  rcases List.mem_cons.1 hy with e2 | hy
  ·subst e2;exact h U b List.mem_cons_self (by rw [e,List.length_append] at hN';omega)
  ·exact foldU_all happ r (f U b).1 (fun U x hx=>h U x (List.mem_cons_of_mem _ hx)) hN' y hy
theorem lowLay_bd {nI:Nat} {U:List AffQ} {l:LayL} {s:List Int} {X fr:List AffQ} {D B N:Nat} (hf:FitL l s) (hx:(X.length:Int)=sizeL s) (hxl:X.length<=16384) (hX:BdFs D B N X) (hF:BdFs D B N fr) (hD:0 < D) (hB:1<=B) (hs:SmallL l) (hN:nI+(lowLay nI U l s X fr).1.length<=N):
  ∃ k,0 < k/\k<=WQ/\BdFs (D * k) (9671406556917033397649408 * B) N (lowLay nI U l s X fr).2:=by
 have pp:(1:Nat)<=WQ:=one_le_WQ;have stay:∀ {z:List AffQ} {C:Nat},C<=9671406556917033397649408 * B->BdFs D C N z->BdFs (D * 1) (9671406556917033397649408 * B) N z:=fun hc h=>by rw [Nat.mul_one];exact h.mono hc (Nat.le_refl _)
 unfold lowLay at hN ⊢
 cases hf with
 | dense R hk ho h1 h2 hb hw=>
  obtain ⟨W,w1,w2,w3⟩:=BdL.small _ hs.num;rw [if_pos hk]
  refine ⟨W,w1,le_WQ w2 hs.len,fun f hf=>?_⟩
  obtain ⟨r,_,rfl⟩:=List.mem_map.1 hf;rw [Nat.mul_comm D W];exact (BdF.sum (BdL.at (fun q hq=>w3 q (List.mem_append_right _ hq)) w1 _) (BdL.part (fun q hq=>w3 q (List.mem_append_left _ hq)) _ _) hX hD _ _ _).mono (grow_le (by omega) hB) (Nat.le_refl _)
 | conv q O hk hq ht hs' e1 e2 e3 e4 ho h1 hb hw hwl hz=>
  obtain ⟨W,w1,w2,w3⟩:=BdL.small _ hs.num;have hbd:=Win.len_bd hq ht;rw [q.one_len] at hbd;rw [if_neg (by omega),if_pos hk,hwl]
  refine ⟨W,w1,le_WQ w2 hs.len,fun f hf=>?_⟩
  obtain ⟨o,_,hf⟩:=List.mem_flatMap.1 hf;obtain ⟨i,hi,rfl⟩:=List.mem_map.1 hf;have hl:(q.all.getD i []).length<=262144:=by
   rw [List.getD_eq_getElem?_getD,List.getElem?_eq_getElem (List.mem_range.1 hi)];exact Nat.le_trans (Nat.le_of_eq (q.all_one_len' _ (List.getElem_mem _))) hbd.2.1
  rw [Nat.mul_comm D W];exact (BdF.sum (BdL.at (fun q hq=>w3 q (List.mem_append_right _ hq)) w1 _) (BdL.part (fun q hq=>w3 q (List.mem_append_left _ hq)) _ _) hX hD _ _ _).mono (grow_le hl hB) (Nat.le_refl _)
 | pool q hk hq ht hs' e1 e2 e3 e4 hp hwl hz=>
  rw [if_neg (by omega),if_neg (by omega),hwl] at hN ⊢;have hC:(s.getD 0 0).toNat=q.C:=by rw [hs'];rfl
  have hn:l.kh.toNat * l.kw.toNat=q.kh * q.kw:=by rw [e1,e2];rfl
  have hlen:=grps_len (q:=q) hC hn;have hpos:1<=q.kh * q.kw:=Nat.mul_pos hq.kh1 hq.kw1;have hbd:=Win.len_bd hq ht;rw [q.one_len] at hbd;have hkl:q.kh * q.kw<=262144:=Nat.le_trans (Nat.le_mul_of_pos_left _ hq.c1) hbd.2.1
  rcases hk with hk | hk
  ·rw [if_pos hk] at hN ⊢
   refine ⟨1,by omega,pp,stay (C:=B+q.kh * q.kw) (by omega) ?_⟩
   refine foldU_all (P:=fun y=>BdF D (B+q.kh * q.kw) N y) (fun U b=>greatF_app _ _ _ _) _ U (fun U g hg hN2=>?_) hN
   have hgl:=hlen g hg;have hvl:=valsF_len g X;rw [greatF_len nI g.length U (valsF g X) (by omega) (by omega)] at hN2;exact (BdF.greatB hD hB nI g.length U (valsF g X) (hX.vals hD g) (by omega) (by omega) (by omega)).mono (by omega) (Nat.le_refl _)
  ·rw [if_neg (by omega),if_pos hk] at hN ⊢
   refine ⟨q.kh * q.kw,hpos,le_WQ (n:=1) (Nat.le_trans hkl (by omega)) (by omega),fun f hf=>?_⟩
   obtain ⟨g,hg,rfl⟩:=List.mem_map.1 hf;have hgl:=hlen g hg;have hvl:=valsF_len g X;have h:=BdF.mean (hX.vals hD g) hD (by omega);rw [hvl,hgl,hn] at h;rw [Nat.mul_comm D]
   refine h.mono ?_ (Nat.le_refl _)
   rw [Nat.one_mul];exact Nat.mul_le_mul_right B (by omega)
 | keep hk=>
  rw [if_neg (by omega),if_neg (by omega),if_neg (by omega),if_neg (by omega)] at hN ⊢
  rcases hk with hk | hk
  ·rw [if_pos hk] at hN ⊢
   refine ⟨1,by omega,pp,stay (C:=B) (by omega) ?_⟩
   refine foldU_all (P:=fun y=>BdF D B N y) (fun U b=>unitF_app nI U b) _ U (fun U f hf hN2=>?_) hN
   exact BdF.var hD hB (by simp [unitF] at hN2;omega)
  ·rw [if_neg (by omega),if_neg (by omega)];exact ⟨1,by omega,pp,stay (by omega) hX⟩
 | add hk=>
  rw [if_neg (by omega),if_neg (by omega),if_neg (by omega),if_neg (by omega),if_neg (by omega),if_pos hk]
  refine ⟨1,by omega,pp,stay (C:=B+B) (by omega) fun f hf=>?_⟩
  obtain ⟨k,_,rfl⟩:=List.mem_map.1 hf;exact (hX.at hD k).add (hF.at hD k)
def RowX (gG n:Nat) (w:World) (U L:List AffQ) (e:Ending) (w':World):Prop:=∃ a c,e=.returned (.slice a L.length c)/\L.length<=c/\FRow gG w' a L/\LSt w' gG n U/\Stp gG w w'
theorem RowU.x {gG n:Nat} {w w':World} {U L:List AffQ} {e:Ending} (h:RowU gG n w U L e w') (hl:L.length<=9223372036854775807):RowX gG n w U L e w':=by
 obtain ⟨a,c,he,hg⟩:=h;obtain ⟨a',c',e',hc⟩:=hg.own.own.form;cases e';exact ⟨a,c,he,hc,hg.own.read hl,hg.un,hg.st⟩
theorem RowX.slice {gG n:Nat} {w w':World} {U L:List AffQ} {e:Ending} (h:RowX gG n w U L e w'):∃ a n c,e=.returned (.slice a n c):=by
 obtain ⟨a,c,he,_⟩:=h;exact ⟨_,_,_,he⟩
theorem sumF_part {b:Rat} {ws:List Rat} {lo n:Nat} {ix:List Int} {x:List AffQ}:∀ {k:Nat},k<=n->sumF b ws lo ix x k=sumF b (partL ws lo n) 0 ix x k
 | 0,_=>rfl
 | k+1,h=>by
  unfold sumF;rw [sumF_part (n:=n) (k:=k) (by omega),partL_getD (show k < n by omega)]
theorem denseF_eq (R:Nat) (bs ws:List Rat) (x:List AffQ):denseF R bs ws x=(List.range R).map fun r=>sumF (bs.getD r 0) (partL ws (r * x.length) x.length) 0 (iotaZ x.length) x x.length:=by
 unfold denseF
 refine List.map_congr_left fun r _=>?_
 unfold denseFO;exact sumF_part (Nat.le_refl _)
theorem convF_eq {bs ws:List Rat} {n O:Nat} {win:List (List Int)} {x:List AffQ} (h:∀ ix ∈ win,ix.length=n):flatF (convFO bs ws n win x) win.length O 0=
  (List.range O).flatMap fun o=>(List.range win.length).map fun i=>sumF (bs.getD o 0) (partL ws (o * n) n) 0 (win.getD i []) x (win.getD i []).length:=by
 unfold flatF;simp only [List.range_zero,List.map_nil,List.append_nil]
 congr 1
 funext o
 refine List.map_congr_left fun i hi=>?_
 unfold convFO
 refine sumF_part ?_
 rw [List.getD_eq_getElem?_getD,List.getElem?_eq_getElem (List.mem_range.1 hi)];exact Nat.le_of_eq (h _ (List.getElem_mem _))
theorem lOutput {w:World} {gL gG nI:Nat} {S:LowV} {l:LayL} {s:List Int} {x y U:List AffQ} {F:Nat->Prop} {D B N:Nat} (hL:LoBox w gL S) (hfu:S.fu=unitV gG) (hG:LSt w gG nI U) (hf:FitL l s) (hn:numsB l=true) (hx:(x.length:Int)=sizeL s) (hxl:x.length<=16384) (hx1:1<=x.length)
  (g0:S.kd=l.kind) (g1:S.fr=l.frm) (g3:S.kh=l.kh) (g4:S.kw=l.kw) (g5:S.st=l.stride) (g6:S.pd=l.pad) (n1:l.weights.length=S.n1) (n2:l.bias.length=S.n2) (nS:s.length=S.nS) (nx:x.length=S.nx) (hcx:S.nx<=S.cx)
  (h1:RatsAt w S.a1 l.weights) (h2:RatsAt w S.a2 l.bias) (hS:Ints w F S.aS s) (hX:FRow gG w S.ax x)
  (h7:l.kind=7->∃ (bT oT:Nat) (af:Option Addr) (cf fr1:Nat),S.fr+1=(fr1:Int)/\S.aT=some ⟨bT,oT,none⟩/\fr1 < S.nT/\bT < w.heap.size/\w.cell? ⟨bT,oT+fr1,none⟩=some (.slice af S.nx cf)/\FRow gG w af y/\y.length=S.nx/\S.nT<=1000000)
  (hsm:SmallL l) (hxB:BdFs D B N x) (hyB:BdFs D B N y) (hD:0 < D) (hB:1<=B) (hR:Room D B) (hN5:N<=500000) (hN:nI+(lowLay nI U l s x y).1.length<=N):
  Calls Tryz.prog 35 #[.pointer (some ⟨gL,0,none⟩)] w (RowX gG nI w (lowLay nI U l s x y).1 (lowLay nI U l s x y).2):=by
 unfold numsB at hn;rw [Bool.and_eq_true] at hn;have hw:l.weights=(wq l).map ratL:=validR_back hn.1;have hb:l.bias=(bq l).map ratL:=validR_back hn.2;have hwl:l.weights.length=(wq l).length:=by simp [wq]
 have hbl:l.bias.length=(bq l).length:=by simp [bq]
 have pp:D * 1<=D * WQ:=Nat.mul_le_mul_left _ one_le_WQ;rw [Nat.mul_one] at pp;have hBB:B<=9671406556917033397649408 * B:=by omega
 rw [hw] at h1;rw [hb] at h2;have wide:∀ W:Nat,W<=4294967296^(wq l++bq l).length->W * D<=D * WQ:=fun W h=>by
  rw [Nat.mul_comm];exact Nat.mul_le_mul_left _ (le_WQ h hsm.len)
 obtain ⟨W,w1,w2,w3⟩:=BdL.small _ hsm.num;have hwW:BdL W 18446744073709551616 (wq l):=fun q hq=>w3 q (List.mem_append_left _ hq)
 have hbW:BdL W 18446744073709551616 (bq l):=fun q hq=>w3 q (List.mem_append_right _ hq)
 have hWD:=wide W w2;have n1':(wq l).length=S.n1:=by rw [<- hwl];exact n1
 have n2':(bq l).length=S.n2:=by rw [<- hbl];exact n2
 have hlen:=hsm.len;rw [List.length_append] at hlen;have payW:∀ k:Nat,k<=16385 * 16->Pay (W * D) (18446744073709551616+B+(k+1) * (18446744073709551616 * B)):=fun k hk=>hR.pay hWD (by
  have:(k+1) * (18446744073709551616 * B)<=262161 * (18446744073709551616 * B):=Nat.mul_le_mul_right _ (by omega);omega)
 unfold lowLay at hN ⊢
 cases hf with
 | dense R hk ho h1' h2' hb' hw'=>
  rw [if_pos hk,ho];have e:(sizeL s).toNat=x.length:=by omega
  rw [e] at hw';have eR:S.n2=R:=by omega
  have eN:S.n2 * S.nx=S.n1:=by rw [eR, <- nx, <- hw',n1]
  have h:=(lDense hL n1' n2' nx h1 h2 hX.at' (Nat.le_of_eq eN) (by omega) (by omega) (by omega) hwW hbW w1 hxB hD (payW _ (by omega)) hN5).mono fun e w' h=>(h.un hG).x (by rw [denseF_len];omega)
  rw [denseF_eq,eR] at h;exact lOut1 hL (by rw [g0,hk]) h fun e w' h=>h.slice
 | conv q O hk hq ht hs' e1 e2 e3 e4 ho h1' hb' hw' hwin hz=>
  have hbd:=Win.len_bd hq ht;rw [q.one_len] at hbd;have hal:=q.all_len;have hkk:=Nat.mul_assoc q.C q.kh q.kw;have hsz:x.length=q.C * q.H * q.W:=by
   have h:=hx;have hv:validL s=true:=by
    cases hvs:validL s with
    | true=>rfl
    | false=>rw [sizeL,hvs,if_neg (by decide)] at h;omega
   rw [sizeL,if_pos hv,hs'] at h;simp only [prodFrom,Int.one_mul] at h;exact Int.ofNat_inj.1 (by rw [h];simp)
  have hC:s.getD 0 0=(q.C:Int):=by rw [hs'];rfl
  rw [if_neg (by omega),if_pos hk,hwin,hC,ho,e1,e2];simp only [Int.toNat_natCast];have eO:S.n2=O:=by omega
  have eN:S.n2 * (q.C * q.kh * q.kw)=S.n1:=by rw [eO, <- n1,hw']
  have hln:∀ ix ∈ q.all,ix.length=q.C * q.kh * q.kw:=by rw [hkk];exact q.all_one_len'
  have hOT:S.n2 * q.all.length<=1000000:=by rw [eO,hal];omega
  have h:=(lConv (n:=q.C * q.kh * q.kw) (T:=q.all.length) (win:=q.all) hL n1' n2' nx nS h1 h2 hX.at' hS (by rw [g3,g4,g5,g6,hwin]) rfl hln (by rw [hsz];exact hq.all_lt) (Nat.le_of_eq eN)
   (by omega) (by omega) (by omega) (by rw [hkk];omega) (Nat.le_trans hbd.1 (by decide)) hOT hwW hbW w1 hxB hD (payW _ (by rw [hkk];omega)) hN5).mono fun e w' h=>(h.un hG).x (by rw [flatF_len];omega)
  rw [convF_eq hln,eO] at h;exact lOut2 hL (by rw [g0,hk]) h fun e w' h=>h.slice
 | pool q hk hq ht hs' e1 e2 e3 e4 hp hwin hz=>
  have hbd:=Win.len_bd hq ht;rw [q.one_len] at hbd;have hal:=q.all_len;have hsz:x.length=q.C * q.H * q.W:=by
   have h:=hx;have hv:validL s=true:=by
    cases hvs:validL s with
    | true=>rfl
    | false=>rw [sizeL,hvs,if_neg (by decide)] at h;omega
   rw [sizeL,if_pos hv,hs'] at h;simp only [prodFrom,Int.one_mul] at h;exact Int.ofNat_inj.1 (by rw [h];simp)
  have hC:s.getD 0 0=(q.C:Int):=by rw [hs'];rfl
  have hix:∀ ix ∈ q.all,∀ i ∈ ix,0<=i/\i < (x.length:Int):=fun ix hi i hj=>⟨hq.all_nn hp ix hi i hj,by rw [hsz];exact hq.all_lt ix hi i hj⟩
  have hpos:1<=q.kh * q.kw:=Nat.mul_pos hq.kh1 hq.kw1;have hkl:q.kh * q.kw<=262144:=Nat.le_trans (Nat.le_mul_of_pos_left _ hq.c1) hbd.2.1;have hgl:∀ g ∈ grpsL q.C (q.kh * q.kw) q.all,g.length=q.kh * q.kw:=grps_len rfl rfl;rw [if_neg (by omega),if_neg (by omega),hwin,hC,e1,e2] at hN ⊢;simp only [Int.toNat_natCast] at hN ⊢;have hwin2:(windowsL s S.kh S.kw S.st S.pd).1=q.all:=by rw [g3,g4,g5,g6,e4,hwin]
  have hCT:q.C * q.all.length<=1000000:=by rw [hal];omega
  rcases hk with hk | hk
  ·rw [if_pos hk] at hN ⊢
   refine lOut3 hL (by rw [g0,hk]) ?_ fun e w' h=>h.slice
   refine (lPoolM (C:=q.C) (n:=q.kh * q.kw) (T:=q.all.length) hL hG nx nS hX hS (by rw [g3,e1]) (by rw [g4,e2]) rfl (by rw [hs'];rfl) hwin2 rfl rfl q.all_one_len' hix (by omega) hpos (by omega) (by omega) (by omega) hCT
    (fun X m a c g hg hm hgn hU hB' hr hc=>?_)).mono fun e w' h=>h.x (by rw [foldU_len,grpsL_len];omega)
   have hlt:=(List.getElem?_eq_some_iff.1 hg).1;have hvl:=valsF_len g x;have hstep:∀ g ∈ grpsL q.C (q.kh * q.kw) q.all,∀ U:List AffQ,(greatF nI g.length U (valsF g x)).1.length=U.length+(q.kh * q.kw - 1):=fun g hg U=>by
    have h1:=hgl g hg;have h2:=valsF_len g x;rw [greatF_len nI g.length U (valsF g x) (by omega) (by omega),h2,h1]
   have c1:=foldU_cnt (f:=fun U g=>greatF nI g.length U (valsF g x)) ((grpsL q.C (q.kh * q.kw) q.all).take m) U (fun g hg=>hstep g (List.mem_of_mem_take hg));have c2:=foldU_cnt (f:=fun U g=>greatF nI g.length U (valsF g x)) (grpsL q.C (q.kh * q.kw) q.all) U hstep;rw [List.length_take,Nat.min_eq_left (Nat.le_of_lt hlt)] at c1;have c3:(q.kh * q.kw - 1) * (m+1)<=(q.kh * q.kw - 1) * (grpsL q.C (q.kh * q.kw) q.all).length:=Nat.mul_le_mul_left _ hlt;rw [Nat.mul_succ] at c3;have h:=lMaximum hfu (by omega) hD hB hN5 (e:=q.kh * q.kw) (hR.pay pp (by omega)) g.length X (foldU (fun U g=>greatF nI g.length U (valsF g x)) ((grpsL q.C (q.kh * q.kw) q.all).take m) U).1 (valsF g x) a c (by omega) hB' hU hr (hxB.vals hD g) (by omega) (by omega) (by omega) (by omega);rw [hvl,hgn] at h;rw [hgn];exact h
  ·rw [if_neg (by omega),if_pos hk]
   refine lOut4 hL (by rw [g0,hk]) ?_ fun e w' h=>h.slice
   have hfp:=foldU_pure (fun g=>meanF (valsF g x)) (grpsL q.C (q.kh * q.kw) q.all) U;have h:=(lPoolA (C:=q.C) (n:=q.kh * q.kw) (T:=q.all.length) (G:=fun U g=>(U,meanF (valsF g x))) hL hG nx nS hX hS (by rw [g3,e1]) (by rw [g4,e2]) rfl (by rw [hs'];rfl) hwin2 rfl rfl q.all_one_len' hix (by omega) hpos (by omega) (by omega) (by omega) hCT
    (fun X m a c g hg hm hgn hU hB' hr hc=>by
     have hvl:=valsF_len g x
     refine (lMean hr.at' (hvl.trans hgn) hpos (by omega) (hxB.vals hD g) hD (hR.pay ?_ ?_) hN5).mono fun e w' h=>h.un hU
     ·rw [Nat.mul_comm];exact Nat.mul_le_mul_left _ (le_WQ (n:=1) (Nat.le_trans hkl (by omega)) (by omega))
     ·have:=Nat.mul_le_mul_right B hkl;omega)).mono fun e w' h=>h.x (by rw [foldU_len,grpsL_len];omega)
   rw [hfp] at h;exact h
 | keep hk=>
  rw [if_neg (by omega),if_neg (by omega),if_neg (by omega),if_neg (by omega)] at hN ⊢
  rcases hk with hk | hk
  ·rw [if_pos hk] at hN ⊢;have hfl:=foldU_grow (unitF nI) 1 x U (fun U b _=>by simp [unitF]);exact (lOut5 hL (by rw [g0,hk]) hfu hG hX nx (by omega) (by omega) (by omega)).mono fun e w' h=>h.x (by rw [foldU_len];omega)
  ·rw [if_neg (by omega),if_neg (by omega)]
   refine (lOut6 hL (by rw [g0,hk])).mono ?_
   rintro e w' ⟨rfl,hb⟩;exact ⟨S.ax,S.cx,by rw [nx],by rw [nx];exact hcx,hX.stp hG (Stp.of hb hG.lt),hG.below hb,Stp.of hb hG.lt⟩
 | add hk=>
  rw [if_neg (by omega),if_neg (by omega),if_neg (by omega),if_neg (by omega),if_neg (by omega),if_pos hk];obtain ⟨bT,oT,af,cf,fr1,k1,k2,k3,k4,k5,k6,k7,k8⟩:=h7 hk;have h:=(lOut7 hL (by rw [g0,hk]) k1 k2 k3 k4 k5 hG hX nx k6 k7 rfl (by omega) k8 hxB hyB hD (hR.pay pp (by omega)) hN5).mono fun e w' h=>h.x (by rw [addF_len];omega)
  unfold addF at h;rw [<- nx] at h;exact h
structure CntOK (L:List LayL) (T:List (List Int)):Prop where
 len:T.length=L.length
 few:L.length<=64
 ok:∀ (j:Nat) (l:LayL) (s:List Int),L[j]? =some l->T[j]? =some s->0<=sizeL s/\sizeL s<=16384/\(l.kind=3->1<=l.kh * l.kw/\l.kh * l.kw<=262144)
theorem CntOK.step {L:List LayL} {T:List (List Int)} (h:CntOK L T) {j:Nat} {l:LayL} {s:List Int} (hl:L[j]? =some l) (hs:T[j]? =some s):cntL (L.take (j+1)) (T.take (j+1))=cntL (L.take j) (T.take j)+cnt1 l (sizeL s):=by
 rw [List.take_add_one,List.take_add_one,hl,hs];exact cntL_app l s (by rw [List.length_take,List.length_take,h.len])
theorem CntOK.cnt1 {L:List LayL} {T:List (List Int)} (h:CntOK L T) {j:Nat} {l:LayL} {s:List Int} (hl:L[j]? =some l) (hs:T[j]? =some s):0<=cnt1 l (sizeL s)/\cnt1 l (sizeL s)<=4294967296:=by
 obtain ⟨h1,h2,h3⟩:=h.ok j l s hl hs;unfold Go.Proofs.YtfgmmghmmfmdgaaGreat.cnt1
 split
 ·omega
 ·split
  ·rename_i hk
   obtain ⟨k1,k2⟩:=h3 hk
   refine ⟨Int.mul_nonneg (by omega) h1,?_⟩
   have:=Int.mul_le_mul (show l.kh * l.kw - 1<=262144 by omega) h2 h1 (by omega);omega
  ·omega
theorem CntOK.bd {L:List LayL} {T:List (List Int)} (h:CntOK L T):∀ j,j<=L.length->0<=cntL (L.take j) (T.take j)/\cntL (L.take j) (T.take j)<=(j:Int) * 4294967296
 | 0,_=>by simp [cntL]
 | j+1,hj=>by
  have hl:L[j]? =some L[j]:=List.getElem?_eq_getElem (by omega);have hs:T[j]? =some (T[j]'(by rw [h.len];omega)):=List.getElem?_eq_getElem _;obtain ⟨a1,a2⟩:=h.bd j (by omega);obtain ⟨b1,b2⟩:=h.cnt1 hl hs;rw [h.step hl hs];omega
theorem lCnt {w:World} {a aS:Option Addr} {L:List LayL} {T:List (List Int)} {F:Nat->Prop} (c cS:Nat) (h1:LaysAt w a L) (h2:Intss w F aS T) (hO:CntOK L T):
  Calls Tryz.prog 32 #[.slice a L.length c,.slice aS T.length cS] w (fun e w'=>e=.returned (.int .i64 (cntL L T))/\Below w.heap.size w w'):=by
 obtain ⟨H1,H2,HO,HTl⟩:=hd4 h1 h2 hO hO.len;have hL6:=hO.few;have hTL:T.length<=64:=by rw [hO.len];exact hL6
 clear h1 h2 hO
 go_enter Tryz.func32,Tryz.ntmps32
 go_wp2
 go_loopw [5,10] (fun v i wr=>∃ (j:Nat) (n:Int),j<=L.length/\v=.int .i64 n/\i=.int .i64 (j:Int)/\Hid (n=cntL (L.take j) (T.take j))/\Hid (Below w.heap.size w wr)) (fun _ i _=>L.length - (intOf i).toNat)
 case atStart=>exact ⟨0,0,Nat.zero_le _,rfl,rfl,rfl,Below.refl _ _⟩
 case round=>
  obtain ⟨j,n,hj,rfl,rfl,HN,HB⟩:=hrel;have hnb:=HO.out.bd j hj;rw [<- HN.out] at hnb
  by_cases hlt:j < L.length
  ·obtain ⟨bl,ol,l,ha2,hbl,hl,b1,b2,d1,d2,⟨l0,l1,l2,l3,l4,l5,l6,l7,l8⟩,r1,r2⟩:=H1.out.pick hlt;obtain ⟨bT,oT,t,aT,ct,haT,tc0,hTi,htc,hIt,hbT,_⟩:=H2.out.pickc (k:=j) (by rw [HTl.out];exact hlt);have hc9:=fun o=>HB.out.cell (p:=⟨bl,o,none⟩) hbl
   have l0:=(hc9 _).trans l0;have l1:=(hc9 _).trans l1;have l2:=(hc9 _).trans l2;have l3:=(hc9 _).trans l3;have l4:=(hc9 _).trans l4;have l5:=(hc9 _).trans l5;have l6:=(hc9 _).trans l6;have l7:=(hc9 _).trans l7;have l8:=(hc9 _).trans l8;have hbl2:=Nat.lt_of_lt_of_le hbl HB.out.size;have hstep:=HO.out.step hl hTi;obtain ⟨z0,z1,z3⟩:=HO.out.ok j l t hl hTi;have hcb:=HO.out.cnt1 hl hTi;have hal:=blA wr (layO l b1 d1 b2 d2 44);have HBx9:=hid (Box9.alloc wr (.int .i64 l.kind) (.int .i64 l.frm) (.int .i64 l.out) (.int .i64 l.kh) (.int .i64 l.kw) (.int .i64 l.stride) (.int .i64 l.pad) (.slice b1 l.weights.length d1) (.slice b2 l.bias.length d2) 44);have HBj:=htr HB hal;have tc0:=(HBj.out.cell (p:=⟨bT,oT+j,none⟩) hbT).trans tc0;have hbT2:=Nat.lt_of_lt_of_le hbT HBj.out.size;obtain ⟨HSz,HStep,HN1⟩:=hd3 (fun X (hb:Below w.heap.size w X)=>tSize ct (hIt.below hb)) hstep HN.out;have hjT:j < T.length:=by rw [HTl.out];exact hlt
   subst ha2 haT;clear hl hTi hIt hal hc9 r1 r2 hstep HN htc
   go_upto_region 5 with fail
   generalize wr.alloc (layO l b1 d1 b2 d2 44)=wj at *;clear l0 l1 l2 l3 l4 l5 l6 l7 l8;obtain ⟨l0,l1,l2,l3,l4,l5,l6,l7,l8,l9⟩:=HBx9.out;generalize hzz:sizeL t=z at *;have HSzz:=HSz;have HSz':=hid (HSz.out wj HBj.out);clear HSz hzz;have HRel:Hid (∀ (d:Int) (X:World),cnt1 l z=d->Below w.heap.size w X->n+d=cntL (L.take (j+1)) (T.take (j+1))/\Below w.heap.size w X):=fun d X h hb=>by
    rw [HStep.out,h,HN1.out];exact ⟨rfl,hb⟩
   by_cases hk5:l.kind=5
   ·have hc:cnt1 l z=z:=by unfold cnt1;rw [if_pos hk5]
    rw [hk5] at l0
    go_wp2_with fail
    refine HSz'.out.mono ?_
    rintro e w2 ⟨rfl,rfl⟩;go_wp2;go_roundw
    case rel=>
     obtain ⟨g1,g2⟩:=HRel.out z _ hc HBj.out;exact ⟨j+1,n+z,hlt,rfl,by go_num,g1,g2⟩
    case measure=>simp [intOf];omega
   ·have q5:decide (l.kind=5)=false:=by simp [hk5]
    have q5b:(l.kind==5)=false:=by simp [hk5]
    by_cases hk3:l.kind=3
    ·obtain ⟨p,hp⟩:∃ p,p=l.kh * l.kw:=⟨_,rfl⟩
     obtain ⟨q,hq⟩:∃ q,q=(p - 1) * z:=⟨_,rfl⟩
     have hc:cnt1 l z=q:=by unfold cnt1;rw [if_neg hk5,if_pos hk3,hq,hp]
     obtain ⟨p1,p2⟩:=z3 hk3;rw [<- hp] at p1 p2;rw [hc] at hcb;have m1:IntKind.i64.wrap (l.kh * l.kw)=p:=by rw [<- hp];exact IntWalk.i64_in _ (by omega)
     have m2:IntKind.i64.wrap ((p - 1) * z)=q:=by rw [<- hq];exact IntWalk.i64_in _ (by omega)
     rw [hk3] at l0;have HSq:Hid (∀ k,Calls Tryz.prog 31 #[.slice aT t.length ct] (wj.drewN k) (fun e w'=>e=.returned (.int .i64 z)/\w'=wj.drewN k)):=fun k=>(HSzz.out _ (below_drewN HBj.out k)).mono fun _ _ h=>⟨h.1,h.2.symm⟩
     have HC:=hid hc;clear hp hq hc q5 q5b z3 hk3 hk5
     go_upto_region 9 with fail
     go_quiet ((go_at_call 31;exact Calls.quiet_of_same (HSq.out _)))
     go_wp2;go_roundw
     case rel=>
      obtain ⟨g1,g2⟩:=HRel.out q _ HC.out (below_drewN HBj.out nq);exact ⟨j+1,n+q,hlt,rfl,by go_num,g1,g2⟩
     case measure=>simp [intOf];omega
    ·have q3:decide (l.kind=3)=false:=by simp [hk3]
     have q3b:(l.kind==3)=false:=by simp [hk3]
     have hc:cnt1 l z=0:=by unfold cnt1;rw [if_neg hk5,if_neg hk3]
     go_wp2;go_roundw
     case rel=>
      obtain ⟨g1,g2⟩:=HRel.out 0 _ hc HBj.out;rw [Int.add_zero] at g1;exact ⟨j+1,n,hlt,rfl,by go_num,g1,g2⟩
     case measure=>simp [intOf];omega
  ·obtain rfl:j=L.length:=by omega
   have HF:Hid (n=cntL L T):=by
    have h:=HN.out;rw [List.take_of_length_le (Nat.le_refl _),List.take_of_length_le (by rw [HTl.out];exact Nat.le_refl _)] at h;exact h
   go_wp2
   refine bodyPost_ret (v:=.int .i64 n) (by simp [results,Tryz.results32,go_sem]) rfl ⟨by rw [HF.out],HB.out⟩
theorem CntOK.of {m:ModL} (h:(shapesL m).2.2=0):CntOK m.layers (shapesL m).1:=by
 rcases shapesL_cases m with ⟨_,k⟩ | ⟨hvm,⟨T,hch,hT⟩ | ⟨k,_⟩⟩
 ·rw [k] at h;simp at h
 ·rw [hT];have hl:=hch.1
  refine ⟨hl,?_,fun j l s hj hs=>?_⟩
  ·unfold validM at hvm;simp only [Bool.and_eq_true,decide_eq_true_eq] at hvm;exact hvm.2.1
  ·have ho:=hch.2 j s l hs hj;rw [List.nil_append] at ho;have h0:(outSL m.input (T.take j) l).2=0:=by rw [ho]
   have hv:=outSL_valid h0;rw [ho] at hv;have hz:1<=sizeL s/\sizeL s<=16384:=validL_size hv
   refine ⟨by omega,by omega,fun hk=>?_⟩
   cases (fit_of h0).1 with
   | pool q _ hq ht _ e1 e2 _ _ _ _ _=>
    have hb:=Win.len_bd hq ht;rw [q.one_len] at hb;rw [e1,e2];have h1:q.kh * q.kw<=262144:=Nat.le_trans (Nat.le_mul_of_pos_left _ hq.c1) hb.2.1;have h2:1<=q.kh * q.kw:=Nat.mul_pos hq.kh1 hq.kw1;rw [<- Int.natCast_mul];omega
   | dense R hk1=>omega
   | conv q O hk1=>omega
   | keep hk1=>omega
   | add hk1=>omega
 ·omega
def isZF (v:Value):Bool:=match v with | .int .i64 _=>true | .slice _ _ _=>true | .func _ _ _=>true | .nilFunc=>true | _=>false
theorem AllB.zf32 {w:World} {g o:Nat} {x:Int} (h:AllB isZF w g):w.cell? ⟨g,o,none⟩ ≠ some (.int .u32 x):=fun e=>by have:=h o _ e;cases this
theorem AllB.zfb {w:World} {g o:Nat} {x:Bool} (h:AllB isZF w g):w.cell? ⟨g,o,none⟩ ≠ some (.bool x):=fun e=>by have:=h o _ e;cases this
theorem U32s.setZ {w:World} {g o:Nat} {u:Value} {a:Option Addr} {l:List Nat} (h:U32s w a l) (hg:AllB isZF w g):U32s (w.setCell ⟨g,o,none⟩ u) a l:=by
 by_cases hl:l=[]
 ·rw [hl];exact U32s.nil _ _
 obtain ⟨b,off,rfl,hb,hc⟩:=h.open hl;have hp:=List.length_pos_iff.2 hl;have hf:b ≠ g:=fun e=>by subst e;exact hg.zf32 (hc 0 hp)
 refine ⟨h.lim,h.len,h.row.imp id ?_⟩
 rintro ⟨b',off',e,_,hcc⟩;cases e;exact ⟨b,off,rfl,by simpa using hb,fun j d hj=>(cell_other (by exact hf)).trans (hcc j d hj)⟩
theorem RatC.setZ {w:World} {g o:Nat} {u:Value} {p1 p2 p3:Value} {q:Rat} (h:RatC w p1 p2 p3 q) (hg:AllB isZF w g):RatC (w.setCell ⟨g,o,none⟩ u) p1 p2 p3 q:=by
 obtain ⟨an,ad,cn,cd,e1,e2,e3,l1,l2,u1,u2⟩:=h.ex;exact ⟨an,ad,cn,cd,e1,e2,e3,l1,l2,u1.setZ hg,u2.setZ hg⟩
theorem terms_setZ {w:World} {g o:Nat} {u:Value} {a:Option Addr} {L:List (Nat × Rat)} (h:TermsAt w a L) (hg:AllB isZF w g):TermsAt (w.setCell ⟨g,o,none⟩ u) a L:=by
 refine ⟨h.len,?_⟩
 rcases h.row with rfl | ⟨b,off,rfl,hb,hc⟩
 ·exact .inl rfl
 ·by_cases hl:L=[]
  ·exact .inl hl
  ·have hp:=List.length_pos_iff.2 hl;obtain ⟨p0,p1,p2,p3,h0,h1,_,_,rfl,h4⟩:=hc 0 L[0] (List.getElem?_eq_getElem hp);obtain ⟨_,_,_,_,rfl,_⟩:=h4.ex;have hf:b ≠ g:=fun e=>by subst e;exact hg.zfb h1
   refine .inr ⟨b,off,rfl,by simpa using hb,fun j x hj=>?_⟩
   obtain ⟨p0,p1,p2,p3,h0,h1,h2,h3,h4⟩:=hc j x hj;exact ⟨p0,p1,p2,p3,(cell_other (by exact hf)).trans h0,(cell_other (by exact hf)).trans h1,(cell_other (by exact hf)).trans h2,(cell_other (by exact hf)).trans h3,h4.1,h4.2.setZ hg⟩
theorem FormP.setZ {w:World} {g o:Nat} {u:Value} {p0 p1 p2 p3:Value} {f:AffQ} (h:FormP w p0 p1 p2 p3 f) (hg:AllB isZF w g):FormP (w.setCell ⟨g,o,none⟩ u) p0 p1 p2 p3 f:=by
 obtain ⟨⟨a,c,e,hc,ht⟩,hr⟩:=h;exact ⟨⟨a,c,e,hc,terms_setZ ht hg⟩,hr.setZ hg⟩
theorem forms_setZ {w:World} {g o:Nat} {u:Value} {a:Option Addr} {L:List AffQ} (h:FormsAt w a L) (hg:AllB isZF w g):FormsAt (w.setCell ⟨g,o,none⟩ u) a L:=by
 refine ⟨h.len,?_⟩
 rcases h.row with rfl | ⟨b,off,rfl,hb,hc⟩
 ·exact .inl rfl
 ·by_cases hl:L=[]
  ·exact .inl hl
  ·have hp:=List.length_pos_iff.2 hl;obtain ⟨p0,p1,p2,p3,h0,h1,_,_,_,h4⟩:=hc 0 L[0] (List.getElem?_eq_getElem hp);obtain ⟨_,_,_,_,rfl,_⟩:=h4.ex;have hf:b ≠ g:=fun e=>by subst e;exact hg.zfb h1
   refine .inr ⟨b,off,rfl,by simpa using hb,fun j x hj=>?_⟩
   obtain ⟨p0,p1,p2,p3,h0,h1,h2,h3,h4⟩:=hc j x hj;exact ⟨p0,p1,p2,p3,(cell_other (by exact hf)).trans h0,(cell_other (by exact hf)).trans h1,(cell_other (by exact hf)).trans h2,(cell_other (by exact hf)).trans h3,h4.setZ hg⟩
theorem FRow.setZ {w:World} {gG g o:Nat} {u:Value} {a:Option Addr} {L:List AffQ} (h:FRow gG w a L) (hg:AllB isZF w g) (hne:g ≠ gG):FRow gG (w.setCell ⟨g,o,none⟩ u) a L:=
 ⟨forms_setZ h.at' hg,h.fr.imp id fun hf p e=>(hf p e).set hne⟩
theorem LSt.setZ {gG n b o:Nat} {U:List AffQ} {w:World} {u:Value} (h:LSt w gG n U) (hf:Fre gG w b) (hb:AllB isZF w b):LSt (w.setCell ⟨b,o,none⟩ u) gG n U:=by
 have hne:gG ≠ b:=fun e=>hf.ne e.symm
 obtain ⟨g0,⟨a,c,h1,ho⟩,g2,g3,fz,lt⟩:=h;have k:∀ q,(w.setCell ⟨b,o,none⟩ u).cell? ⟨gG,q,none⟩=w.cell? ⟨gG,q,none⟩:=fun q=>cell_other (by exact hne)
 have hub:∀ g,(Value.slice a U.length c).ownBlock=some g->g ≠ b:=fun g e e2=>hf.nu (by unfold ub;rw [h1];subst e2;exact e)
 refine ⟨(k 0).trans g0,⟨a,c,(k 1).trans h1,⟨?_,?_⟩⟩,(k 2).trans g2,fun q hq=>(k q).trans (g3 q hq),fun q=>by simp only [World.frozen?_setCell];exact fz q,by simpa using lt⟩
 ·obtain ⟨xs,hx,he⟩:=ho.ex
  refine ⟨xs,⟨hx.1,?_⟩,fun j x hj=>?_⟩
  ·rcases hx.2 with k | ⟨g,cap,cur,e1,k1,k2,k3⟩
   ·exact .inl k
   ·exact .inr ⟨g,cap,cur,e1,k1,(Below.heap_setCell _ _ _ _ (hub g (by rw [e1];rfl))).trans k2,k3⟩
  ·obtain ⟨p0,p1,p2,p3,h0,h1',h2,h3,h4⟩:=he j x hj;exact ⟨p0,p1,p2,p3,h0,h1',h2,h3,h4.setZ hb⟩
 ·intro g e q x hx;rw [cell_other (by exact hub g e)] at hx;exact ho.al g e q x hx
structure OwnFF (gG:Nat) (w:World) (base:Nat) (v:Value) (Y:List (List AffQ)):Prop where
 ex:∃ xs,w.ownsRow base 28 1 v Y.length xs/\∀ (j:Nat) (y:List AffQ),Y[j]? =some y->∃ (a:Option Addr) (c:Nat),xs[j]? =some (.slice a y.length c)/\y.length<=c/\FRow gG w a y
 al:AllO isS w v
 fr:∀ b,v.ownBlock=some b->Fre gG w b
theorem OwnFF.lt {gG:Nat} {w:World} {base:Nat} {v:Value} {Y:List (List AffQ)} (h:OwnFF gG w base v Y) {k:Nat} (hk:v.ownBlock=some k):base<=k/\k < w.heap.size:=by
 obtain ⟨xs,ho,_⟩:=h.ex;exact ho.lt k hk
theorem OwnFF.nil (gG:Nat) (w:World) (base:Nat):OwnFF gG w base (.slice none 0 0) []:=⟨⟨[],World.ownsRow_nil _ _ _ _,by simp⟩,(by intro g h;cases h),fun b e=>by cases e⟩
theorem OwnFF.stp {gG n:Nat} {w w':World} {base:Nat} {v:Value} {Y:List (List AffQ)} {U:List AffQ} (h:OwnFF gG w base v Y) (hL:LSt w gG n U) (hs:Stp gG w w'):OwnFF gG w' base v Y:=by
 refine ⟨?_,fun g e o x hx=>?_,fun b e=>(h.fr b e).stp hs⟩
 ·obtain ⟨xs,ho,he⟩:=h.ex
  refine ⟨xs,⟨ho.1,?_⟩,fun j y hj=>?_⟩
  ·rcases ho.2 with k | ⟨g,cap,cur,rfl,k1,k2,k3⟩
   ·exact .inl k
   ·exact .inr ⟨g,cap,cur,rfl,k1,((h.fr g rfl).block hs).trans k2,k3⟩
  ·obtain ⟨a,c,k1,k2,k3⟩:=he j y hj;exact ⟨a,c,k1,k2,k3.stp hL hs⟩
 ·rw [(h.fr g e).cell hs] at hx;exact h.al g e o x hx
theorem OwnFF.setZ {gG g o:Nat} {w:World} {base:Nat} {v:Value} {Y:List (List AffQ)} {u:Value} (h:OwnFF gG w base v Y) (hg:AllB isZF w g) (hne:g ≠ gG) (hb:g < base):OwnFF gG (w.setCell ⟨g,o,none⟩ u) base v Y:=by
 have hbk:∀ b,v.ownBlock=some b->b ≠ g:=fun b e=>by have:=(h.lt e).1;omega
 refine ⟨?_,fun b e q x hx=>?_,fun b e=>(h.fr b e).set hne⟩
 ·obtain ⟨xs,ho,he⟩:=h.ex
  refine ⟨xs,⟨ho.1,?_⟩,fun j y hj=>?_⟩
  ·rcases ho.2 with k | ⟨b,cap,cur,rfl,k1,k2,k3⟩
   ·exact .inl k
   ·exact .inr ⟨b,cap,cur,rfl,k1,(Below.heap_setCell _ _ _ _ (show b ≠ g from hbk b rfl)).trans k2,k3⟩
  ·obtain ⟨a,c,k1,k2,k3⟩:=he j y hj;exact ⟨a,c,k1,k2,k3.setZ hg hne⟩
 ·rw [cell_other (by exact hbk b e)] at hx;exact h.al b e q x hx
theorem forms_grownS {w w':World} {a:Option Addr} {L:List AffQ} {v:Value} (h:FormsAt w a L) (hg:w.grownBy w' v.ownBlock) (ha:AllO isS w v):FormsAt w' a L:=by
 have hbs:AllO isBS w v:=fun g e o x hx=>by
  have:=ha g e o x hx;unfold isS at this
  split at this
  ·rfl
  ·cases this
 refine ⟨h.len,?_⟩
 rcases h.row with rfl | ⟨b,off,rfl,hb,hc⟩
 ·exact .inl rfl
 ·by_cases hl:L=[]
  ·exact .inl hl
  ·have hp:=List.length_pos_iff.2 hl;obtain ⟨p0,p1,p2,p3,h0,h1,_,_,_,h4⟩:=hc 0 L[0] (List.getElem?_eq_getElem hp);obtain ⟨_,_,_,_,rfl,_⟩:=h4.ex;have hne:some b ≠ v.ownBlock:=fun e=>by have:=ha b e.symm _ _ h1;cases this
   have hcell:∀ o,w'.cell? ⟨b,o,none⟩=w.cell? ⟨b,o,none⟩:=fun o=>World.cell?_of_block (hg.block b hb hne)
   refine .inr ⟨b,off,rfl,Nat.lt_of_lt_of_le hb hg.size,fun j x hj=>?_⟩
   obtain ⟨p0,p1,p2,p3,h0,h1,h2,h3,h4⟩:=hc j x hj;exact ⟨p0,p1,p2,p3,(hcell _).trans h0,(hcell _).trans h1,(hcell _).trans h2,(hcell _).trans h3,formK.grown h4 hg hbs⟩
theorem AllO.sbs {w:World} {v:Value} (ha:AllO isS w v):AllO isBS w v:=fun g e o x hx=>by
 have:=ha g e o x hx;unfold isS at this
 split at this
 ·rfl
 ·cases this
theorem FRow.grownS {gG n:Nat} {w w':World} {a:Option Addr} {L U:List AffQ} {v:Value} (h:FRow gG w a L) (hL:LSt w gG n U) (hg:w.grownBy w' v.ownBlock) (hf:∀ b,v.ownBlock=some b->Fre gG w b) (ha:AllO isS w v):FRow gG w' a L:=by
 obtain ⟨e,_⟩:=ub_grown hL hg hf;exact ⟨forms_grownS h.at' hg ha,h.fr.imp id fun hf' p hp=>⟨Nat.lt_of_lt_of_le (hf' p hp).lt hg.size,(hf' p hp).ne,by rw [e];exact (hf' p hp).nu⟩⟩
theorem Fre.grown {gG n b:Nat} {w w':World} {U:List AffQ} {v:Value} (h:Fre gG w b) (hL:LSt w gG n U) (hg:w.grownBy w' v.ownBlock) (hf:∀ b,v.ownBlock=some b->Fre gG w b):Fre gG w' b:=by
 obtain ⟨e,_⟩:=ub_grown hL hg hf;exact ⟨Nat.lt_of_lt_of_le h.lt hg.size,h.ne,by rw [e];exact h.nu⟩
theorem wpList_appFF {P:Program} {w:World} {ops:Array Oper} {rest:List Oper} {o:Oper} {a:Act} {Q:Exit->Act->World->Prop} (hgd:o.guard=none) (s x:Operand) (t:TypeId)
  (ho:o.op=.call { callee:=.builtin .append,args:=#[s,x],argTypes:=#[t,t] })
  (gG nn base:Nat) (ht:P.underlying t=some (.slice 28)) (hinfo:(P.info? 28).map (fun i=>(i.zero,i.size,i.bytes))=some (some (.slice none 0 0),1,24))
  (v:Value) (n:Nat) (Y:List (List AffQ)) (U:List AffQ) (hn:Y.length=n) (hs:a.eval s=v) (hown:OwnFF gG w base v Y) (hL:LSt w gG nn U) (y:List AffQ) (m:Nat) (hm:y.length=m) (aj:Option Addr) (cj:Nat) (hcj:m<=cj) (hy:FRow gG w aj y)
  (g:Nat) (hg1:w.cell? ⟨g,0,none⟩=some (.slice aj m cj))
  (hx:a.eval x=.slice (some ⟨g,0,none⟩) 1 1) (hL':n+1<=2000000000000) (hbase:base<=w.heap.size)
  (h:∀ b k w',OwnFF gG w' base (.slice b (n+1) k) (Y++[y])->n+1<=k->w.grownBy w' v.ownBlock->wpList P ops Q rest (a.put o.dst (.slice b (n+1) k)) w'):
  wpList P ops Q (o::rest) a w:=by
 subst hn hm
 refine wpList_plain hgd fun K hK=>?_
 obtain ⟨i,hi,hz,hsize,hby⟩:=info_parts hinfo;obtain ⟨xs,hox,he⟩:=hown.ex;have hcells:∀ (j:Nat) (u:Value),[Value.slice aj y.length cj][j]? =some u->w.cell? (Addr.add ⟨g,0,none⟩ j)=some u:=by
  intro j u hj;rw [Addr.add_lit]
  match j,hj with
  | 0,hj=>rw [<- hj];exact hg1
 obtain ⟨v',w',hr,r2,r3,r4,r5⟩:=run_append_all (P:=P) isS w base t o.type _ i _ 1 24 ht hi hz hsize hby (by simp [Value.cells]) (by omega) v Y.length xs hox ⟨g,0,none⟩ 1 1
  [.slice aj y.length cj] rfl hcells (by intro u hu;simp at hu;subst hu;rfl) (by omega) (by unfold maxLen;omega) (by omega) hbase
  hown.al (by intro u hu;simp at hu;subst hu;rfl) (by intro u hu;simp [Value.cells] at hu;subst hu;rfl)
 obtain ⟨eu,_⟩:=ub_grown hL r3 hown.fr;have hO:OwnFF gG w' base v' (Y++[y]):=by
  refine ⟨⟨_,by simpa using r2,fun j z hj=>?_⟩,r5,fun b hb=>?_⟩
  ·by_cases hlt:j < Y.length
   ·rw [List.getElem?_append_left hlt] at hj;obtain ⟨bj,dj,q1,q2,q3⟩:=he j z hj;exact ⟨bj,dj,by rw [List.getElem?_append_left (by rw [hox.1];omega)];exact q1,q2,q3.grownS hL r3 hown.fr hown.al⟩
   ·have hlt':=(List.getElem?_eq_some_iff.1 hj).1;simp only [List.length_append,List.length_cons,List.length_nil] at hlt';obtain rfl:j=Y.length:=by omega
    have e2:z=y:=by simpa using hj.symm
    subst e2;exact ⟨aj,cj,by rw [List.getElem?_append_right (by rw [hox.1];omega)];simp [hox.1],hcj,hy.grownS hL r3 hown.fr hown.al⟩
  ·rcases r4 with e2 | ⟨g',e2,hge⟩
   ·have hf:=hown.fr b (e2.symm.trans hb);exact hf.grown hL r3 hown.fr
   ·rw [e2] at hb;cases hb;have hlt:=r2.lt _ e2
    refine ⟨hlt.2,by have:=hL.lt;omega,fun e3=>?_⟩
    rw [eu] at e3;have:=hL.ub_ge e3;omega
 obtain ⟨b,k,e,hk⟩:=own_form1c r2;subst e;unfold Oper.wp execOp;simp only [ho,resolve,invoke,builtin,Sem.run_bind,Sem.run_pure,Result.andThen_ok,List.map_toArray,List.map_cons,List.map_nil,hs,hx,hr];exact hK _ _ (h b k w' hO hk r3)
def LowV.cells (s:LowV):Array Value:=#[.int .i64 s.kd,.int .i64 s.fr,.int .i64 s.ot,.int .i64 s.kh,.int .i64 s.kw,.int .i64 s.st,.int .i64 s.pd,.slice s.a1 s.n1 s.c1,.slice s.a2 s.n2 s.c2,.slice s.aS s.nS s.cS,.slice s.ax s.nx s.cx,.slice s.aT s.nT s.cT,s.fu]
def LowV.fn (s:LowV) (i:Nat):Value:=s.cells.getD i undef
theorem LoBox.fn {W:World} {g:Nat} {s:LowV} (h:BoxF W g 13 s.fn):LoBox W g s:=
 ⟨h.c 0 (by omega),h.c 1 (by omega),h.c 2 (by omega),h.c 3 (by omega),h.c 4 (by omega),h.c 5 (by omega),h.c 6 (by omega),h.c 7 (by omega),h.c 8 (by omega),h.c 9 (by omega),h.c 10 (by omega),h.c 11 (by omega),h.c 12 (by omega),h.free,h.lt⟩
def LowV.lay (s:LowV) (l:LayL) (b1:Option Addr) (d1:Nat) (b2:Option Addr) (d2:Nat):LowV:=
 { s with kd:=l.kind,fr:=l.frm,ot:=l.out,kh:=l.kh,kw:=l.kw,st:=l.stride,pd:=l.pad,a1:=b1,n1:=l.weights.length,c1:=d1,a2:=b2,n2:=l.bias.length,c2:=d2 }
def LowV.nums (s:LowV) (a:Option Addr) (n c:Nat):LowV:={ s with ax:=a,nx:=n,cx:=c }
def LowV.shap (s:LowV) (a:Option Addr) (n c:Nat):LowV:={ s with aS:=a,nS:=n,cS:=c }
def LowV.trc (s:LowV) (a:Option Addr) (n c:Nat):LowV:={ s with aT:=a,nT:=n,cT:=c }
def LowV.fnc (s:LowV) (v:Value):LowV:={ s with fu:=v }
structure LwB (w1:World) (gG gL n:Nat) (wr:World) (f:Nat->Value) (U:List AffQ) (tr:Value) (Y:List (List AffQ)) (ax:Option Addr) (X:List AffQ):Prop where
 box:BoxF wr gL 13 f
 ai:AllB isZF wr gL
 fre:Fre gG wr gL
 un:LSt wr gG n U
 own:OwnFF gG wr (gL+1) tr Y
 cur:FRow gG wr ax X
 bl:Below gG w1 wr
 lt:gG < gL
section
variable {w1:World} {gG gL n:Nat} {wr w':World} {f f':Nat->Value} {U U':List AffQ} {tr tr':Value} {Y Y':List (List AffQ)} {ax ax':Option Addr} {X X':List AffQ}
theorem LwB.set (h:LwB w1 gG gL n wr f U tr Y ax X) {i:Nat} (hi:i < 13) {u:Value} (hu:isZF u=true):LwB w1 gG gL n (wr.setCell ⟨gL,i,none⟩ u) (updF f i u) U tr Y ax X:=
 ⟨h.box.set hi u,h.ai.set i hu,h.fre.set h.fre.ne,h.un.setZ h.fre h.ai,h.own.setZ h.ai h.fre.ne (Nat.lt_succ_self _),h.cur.setZ h.ai h.fre.ne,h.bl.setCell (p:=⟨gL,i,none⟩) (Nat.le_of_lt h.lt) u,h.lt⟩
theorem LwB.stp (h:LwB w1 gG gL n wr f U tr Y ax X) (hs:Stp gG wr w') (hU:LSt w' gG n U'):LwB w1 gG gL n w' f U' tr Y ax X:=
 ⟨⟨fun i hi=>(h.fre.cell hs).trans (h.box.c i hi),fun i=>(h.fre.frozen hs).trans (h.box.free i),Nat.lt_of_lt_of_le h.box.lt hs.size⟩,fun o x e=>h.ai o x (by rw [h.fre.cell hs] at e;exact e),h.fre.stp hs,hU,h.own.stp h.un hs,h.cur.stp h.un hs,h.bl.trans (hs.below h.un),h.lt⟩
theorem LwB.below (h:LwB w1 gG gL n wr f U tr Y ax X) (hb:Below wr.heap.size wr w'):LwB w1 gG gL n w' f U tr Y ax X:=h.stp (Stp.of hb h.un.lt) (h.un.below hb)
theorem LwB.congr (h:LwB w1 gG gL n wr f U tr Y ax X) (e:∀ i,i < 13->f i=f' i):LwB w1 gG gL n wr f' U tr Y ax X:=⟨h.box.congr e,h.ai,h.fre,h.un,h.own,h.cur,h.bl,h.lt⟩
theorem LwB.cur' (h:LwB w1 gG gL n wr f U tr Y ax X) (hc:FRow gG wr ax' X'):LwB w1 gG gL n wr f U tr Y ax' X':=⟨h.box,h.ai,h.fre,h.un,h.own,hc,h.bl,h.lt⟩
theorem LwB.own' (h:LwB w1 gG gL n wr f U tr Y ax X) (hc:OwnFF gG wr (gL+1) tr' Y'):LwB w1 gG gL n wr f U tr' Y' ax X:=⟨h.box,h.ai,h.fre,h.un,hc,h.cur,h.bl,h.lt⟩
theorem LwB.app (h:LwB w1 gG gL n wr f U tr Y ax X) (ho:OwnFF gG w' (gL+1) tr' Y') (hg:wr.grownBy w' tr.ownBlock):LwB w1 gG gL n w' f U tr' Y' ax X:=by
 have hne:some gL ≠ tr.ownBlock:=fun e=>by have:=(h.own.lt e.symm).1;omega
 have hb:w'.heap[gL]? =wr.heap[gL]? :=hg.block gL h.box.lt hne;have hc:∀ o,w'.cell? ⟨gL,o,none⟩=wr.cell? ⟨gL,o,none⟩:=fun o=>World.cell?_of_block hb
 refine ⟨⟨fun i hi=>(hc i).trans (h.box.c i hi),fun i=>(World.frozen?_of_block hb).trans (h.box.free i),Nat.lt_of_lt_of_le h.box.lt hg.size⟩,fun o x e=>h.ai o x (by rw [hc] at e;exact e),h.fre.grown h.un hg h.own.fr,h.un.grown hg h.own.fr h.own.al.sbs,ho,h.cur.grownS h.un hg h.own.fr h.own.al,?_,h.lt⟩
 exact h.bl.grown hg (Nat.le_of_lt h.un.lt) (fun k hk=>by have:=(h.own.lt hk).1;have:=h.lt;omega)
theorem LwB.lay {s:LowV} (h:LwB w1 gG gL n wr s.fn U tr Y ax X) (l:LayL) (b1:Option Addr) (d1:Nat) (b2:Option Addr) (d2:Nat):
  LwB w1 gG gL n (((((((((wr.setCell ⟨gL,0,none⟩ (.int .i64 l.kind)).setCell ⟨gL,1,none⟩ (.int .i64 l.frm)).setCell ⟨gL,2,none⟩ (.int .i64 l.out)).setCell ⟨gL,3,none⟩ (.int .i64 l.kh)).setCell ⟨gL,4,none⟩ (.int .i64 l.kw)).setCell ⟨gL,5,none⟩ (.int .i64 l.stride)).setCell ⟨gL,6,none⟩ (.int .i64 l.pad)).setCell ⟨gL,7,none⟩ (.slice b1 l.weights.length d1)).setCell ⟨gL,8,none⟩ (.slice b2 l.bias.length d2))
   (s.lay l b1 d1 b2 d2).fn U tr Y ax X:=by
 refine (((((((((h.set (i:=0) (by omega) rfl).set (i:=1) (by omega) rfl).set (i:=2) (by omega) rfl).set (i:=3) (by omega) rfl).set (i:=4) (by omega) rfl).set (i:=5) (by omega) rfl).set (i:=6) (by omega) rfl).set (i:=7) (by omega) rfl).set (i:=8) (by omega) rfl).congr ?_
 exact all13 rfl rfl rfl rfl rfl rfl rfl rfl rfl rfl rfl rfl rfl
theorem LwB.nums {s:LowV} (h:LwB w1 gG gL n wr s.fn U tr Y ax X) (a:Option Addr) (k c:Nat):LwB w1 gG gL n (wr.setCell ⟨gL,10,none⟩ (.slice a k c)) (s.nums a k c).fn U tr Y ax X:=
 (h.set (i:=10) (by omega) rfl).congr (all13 rfl rfl rfl rfl rfl rfl rfl rfl rfl rfl rfl rfl rfl)
theorem LwB.shap {s:LowV} (h:LwB w1 gG gL n wr s.fn U tr Y ax X) (a:Option Addr) (k c:Nat):LwB w1 gG gL n (wr.setCell ⟨gL,9,none⟩ (.slice a k c)) (s.shap a k c).fn U tr Y ax X:=
 (h.set (i:=9) (by omega) rfl).congr (all13 rfl rfl rfl rfl rfl rfl rfl rfl rfl rfl rfl rfl rfl)
theorem LwB.trc {s:LowV} (h:LwB w1 gG gL n wr s.fn U tr Y ax X) (a:Option Addr) (k c:Nat):LwB w1 gG gL n (wr.setCell ⟨gL,11,none⟩ (.slice a k c)) (s.trc a k c).fn U tr Y ax X:=
 (h.set (i:=11) (by omega) rfl).congr (all13 rfl rfl rfl rfl rfl rfl rfl rfl rfl rfl rfl rfl rfl)
theorem LwB.fnc {s:LowV} (h:LwB w1 gG gL n wr s.fn U tr Y ax X) {v:Value} (hv:isZF v=true):LwB w1 gG gL n (wr.setCell ⟨gL,12,none⟩ v) (s.fnc v).fn U tr Y ax X:=
 (h.set (i:=12) (by omega) hv).congr (all13 rfl rfl rfl rfl rfl rfl rfl rfl rfl rfl rfl rfl rfl)
end
theorem LSt.make (w1:World) (n:Nat) (T:Nat):LSt (w1.alloc (.cells #[.int .i64 (n:Int),.slice none 0 0,.slice none 0 0] T)) w1.heap.size n []:=by
 refine ⟨?_,⟨none,0,?_,Own4.nil _ _⟩,?_,fun o ho=>?_,fun o=>World.frozen?_alloc_new _ _ _ _,by simp⟩
 ·rw [World.cell?_alloc_at _ _ _ _ rfl];rfl
 ·rw [World.cell?_alloc_at _ _ _ _ rfl];rfl
 ·rw [World.cell?_alloc_at _ _ _ _ rfl];rfl
 ·rw [World.cell?_alloc_at _ _ _ _ rfl];exact Array.getElem?_eq_none (by simpa using ho)
theorem LwB.make {w1 W:World} {gG n:Nat} (hL:LSt W gG n []) (hb:Below gG w1 W) (s:LowV) (hs:isZF s.fu=true) (T:Nat) (X:List AffQ) (hX:FRow gG W s.ax X):LwB w1 gG W.heap.size n (W.alloc (.cells s.cells T)) s.fn [] (.slice none 0 0) [] s.ax X:=by
 have hal:=blA W (.cells s.cells T);have hc:∀ o,(W.alloc (.cells s.cells T)).cell? ⟨W.heap.size,o,none⟩=s.cells[o]? :=fun o=>World.cell?_alloc_at _ _ _ _ rfl
 have hfr:=hL.fresh hal (Nat.le_refl _) (by simp)
 refine ⟨⟨all13 (hc 0) (hc 1) (hc 2) (hc 3) (hc 4) (hc 5) (hc 6) (hc 7) (hc 8) (hc 9) (hc 10) (hc 11) (hc 12),fun o=>World.frozen?_alloc_new _ _ _ _,by simp⟩,AllB.of_heap (heap_alloc_new W _) ?_,hfr,hL.below hal,OwnFF.nil _ _ _,hX.stp hL (Stp.of hal hL.lt),hb.trans (hal.mono (Nat.le_of_lt hL.lt)),hL.lt⟩
 intro u hu;simp [LowV.cells] at hu
 rcases hu with rfl | rfl | rfl | rfl | rfl | rfl | rfl | rfl | rfl | rfl | rfl | rfl | rfl <;> first | rfl | exact hs
structure GraphV (w:World) (v:Value) (G:GraphQ):Prop where
 ex:∃ aU cU aO cO,v=.agg #[.int .i64 (G.inputs:Int),.slice aU G.units.length cU,.slice aO G.outs.length cO]/\G.units.length<=cU/\G.outs.length<=cO/\FormsAt w aU G.units/\FormsAt w aO G.outs
def LowPost (w:World) (R:GraphQ × Int) (e:Ending) (w':World):Prop:=∃ v,e=.returned (.tuple #[v,.int .i64 R.2])/\GraphV w' v R.1/\Below w.heap.size w w'
theorem graph_zero (w:World):GraphV w (.agg #[.int .i64 0,.slice none 0 0,.slice none 0 0]) emptyG:=⟨none,0,none,0,rfl,Nat.le_refl _,Nat.le_refl _,Row4.nil _ _,Row4.nil _ _⟩
theorem FOwn.setZ {gG g o:Nat} {w:World} {base:Nat} {v:Value} {L:List AffQ} {u:Value} (h:FOwn gG w base v L) (hg:AllB isZF w g) (hne:g ≠ gG) (hb:g < base):FOwn gG (w.setCell ⟨g,o,none⟩ u) base v L:=by
 have hbk:∀ b,v.ownBlock=some b->b ≠ g:=fun b e=>by have:=(h.own.lt e).1;omega
 refine ⟨⟨?_,fun b e q x hx=>?_⟩,fun b e=>(h.fr b e).set hne⟩
 ·obtain ⟨xs,ho,he⟩:=h.own.ex
  refine ⟨xs,⟨ho.1,?_⟩,fun j y hj=>?_⟩
  ·rcases ho.2 with k | ⟨b,cap,cur,rfl,k1,k2,k3⟩
   ·exact .inl k
   ·exact .inr ⟨b,cap,cur,rfl,k1,(Below.heap_setCell _ _ _ _ (show b ≠ g from hbk b rfl)).trans k2,k3⟩
  ·obtain ⟨p0,p1,p2,p3,h0,h1',h2,h3,h4⟩:=he j y hj;exact ⟨p0,p1,p2,p3,h0,h1',h2,h3,h4.setZ hg⟩
 ·rw [cell_other (by exact hbk b e)] at hx;exact h.own.al b e q x hx
theorem FOwn.app {gG n:Nat} {w w':World} {base:Nat} {v v':Value} {L U:List AffQ} {f:AffQ} (h:FOwn gG w base v L) (hL:LSt w gG n U) (ho:OwnF w' base v' (L++[f])) (hg:w.grownBy w' v.ownBlock) (hn:Next w v v'):FOwn gG w' base v' (L++[f]):=by
 obtain ⟨e,_⟩:=ub_grown hL hg h.fr
 refine ⟨ho,fun b hb=>?_⟩
 rcases hn with e2 | ⟨g,e2,hge⟩
 ·exact (h.fr b (e2.symm.trans hb)).grown hL hg h.fr
 ·rw [e2] at hb;cases hb
  refine ⟨(ho.lt e2).2,by have:=hL.lt;omega,fun e3=>?_⟩
  rw [e] at e3;have:=hL.ub_ge e3;omega
theorem LwB.appX {w1:World} {gG gL n:Nat} {wr w':World} {f:Nat->Value} {U:List AffQ} {ax ax':Option Addr} {X L X':List AffQ} {v:Value} (h:LwB w1 gG gL n wr f U (.slice none 0 0) [] ax X) (ho:FOwn gG wr (gL+1) v L) (hg:wr.grownBy w' v.ownBlock) (hc:FRow gG w' ax' X'):
  LwB w1 gG gL n w' f U (.slice none 0 0) [] ax' X':=by
 have hne:some gL ≠ v.ownBlock:=fun e=>by have:=(ho.own.lt e.symm).1;omega
 have hb:w'.heap[gL]? =wr.heap[gL]? :=hg.block gL h.box.lt hne;have hcl:∀ o,w'.cell? ⟨gL,o,none⟩=wr.cell? ⟨gL,o,none⟩:=fun o=>World.cell?_of_block hb
 exact ⟨⟨fun i hi=>(hcl i).trans (h.box.c i hi),fun i=>(World.frozen?_of_block hb).trans (h.box.free i),Nat.lt_of_lt_of_le h.box.lt hg.size⟩,fun o x e=>h.ai o x (by rw [hcl] at e;exact e),h.fre.grown h.un hg ho.fr,h.un.grown hg ho.fr ho.own.al,OwnFF.nil _ _ _,hc,
  h.bl.grown hg (Nat.le_of_lt h.un.lt) (fun k hk=>by have:=(ho.own.lt hk).1;have:=h.lt;omega),h.lt⟩
theorem OwnFF.one {gG n base:Nat} {w:World} {U:List AffQ} {a:Option Addr} {y:List AffQ} {m c:Nat} (hL:LSt w gG n U) (hy:FRow gG w a y) (hm:y.length=m) (hc:m<=c) (hb:base<=w.heap.size):
  OwnFF gG (w.alloc (.cells #[.slice a m c] 28)) base (.slice (some ⟨w.heap.size,0,none⟩) 1 1) [y]:=by
 subst hm;have hal:=blA w (.cells #[.slice a y.length c] 28)
 refine ⟨⟨[.slice a y.length c],⟨rfl,.inr ⟨w.heap.size,1,#[.slice a y.length c],rfl,hb,heap_alloc_new w _,Nat.le_refl _,by decide,rfl,rfl⟩⟩,fun j z hj=>?_⟩,fun g e=>?_,fun b e=>?_⟩
 ·match j,hj with
  | 0,hj=>
   cases hj;exact ⟨a,c,rfl,hc,hy.stp hL (Stp.of hal hL.lt)⟩
 ·cases e;exact AllB.of_heap (heap_alloc_new w _) (by intro u hu;simp at hu;subst hu;rfl)
 ·cases e;exact hL.fresh hal (Nat.le_refl _) (by simp)
theorem OwnFF.at' {gG:Nat} {w:World} {base:Nat} {a:Option Addr} {n c:Nat} {Y:List (List AffQ)} (h:OwnFF gG w base (.slice a n c) Y) {j:Nat} {y:List AffQ} (hj:Y[j]? =some y):
  ∃ (bT:Nat) (af:Option Addr) (cf:Nat),a=some ⟨bT,0,none⟩/\bT < w.heap.size/\w.cell? ⟨bT,0+j,none⟩=some (.slice af y.length cf)/\FRow gG w af y:=by
 obtain ⟨xs,ho,he⟩:=h.ex;obtain ⟨af,cf,k1,k2,k3⟩:=he j y hj
 rcases ho.2 with ⟨e,hn⟩ | ⟨g,cap,cur,e,hb,hg,hnc,hcm,hcs,htake⟩
 ·rw [List.eq_nil_of_length_eq_zero hn] at hj;simp at hj
 ·cases e;have k:=ho.cells (g:=g) rfl _ _ k1;simp only [Addr.add_lit] at k;exact ⟨g,af,cf,rfl,(Array.getElem?_eq_some_iff.1 hg).1,k,k3⟩
theorem Row4.src {α:Type} {P:World->Value->Value->Value->Value->α->Prop} {p:Value->Bool} (hP:Keeps4 P p) {w:World} {a:Option Addr} {L:List α} (h:Row4 P w a L):
  ∃ news,SrcOK w a L.length 4 news/\(∀ u ∈ news,p u=true)/\∀ (j:Nat) (x:α),L[j]? =some x->∃ p0 p1 p2 p3,news[j * 4]? =some p0/\news[j * 4+1]? =some p1/\news[j * 4+2]? =some p2/\news[j * 4+3]? =some p3/\P w p0 p1 p2 p3 x:=by
 rcases h.row with rfl | ⟨b,off,rfl,hb,hc⟩
 ·exact ⟨[],⟨rfl,by simp,fun hm=>by simp at hm⟩,by simp,by simp⟩
 ·have key:∀ o,o < L.length * 4->∃ u,w.cell? ⟨b,off+o,none⟩=some u/\u.oneCell'=true/\p u=true:=by
   intro o ho;have hq:o / 4 < L.length:=by omega
   obtain ⟨p0,p1,p2,p3,h0,h1,h2,h3,h4⟩:=hc (o / 4) L[o / 4] (List.getElem?_eq_getElem hq);have hone:=hP.one h4;have hr:o=o / 4 * 4 ∨ o=o / 4 * 4+1 ∨ o=o / 4 * 4+2 ∨ o=o / 4 * 4+3:=by omega
   rcases hr with e | e | e | e
   ·exact ⟨p0,by rw [e];exact h0,hone p0 (by simp)⟩
   ·exact ⟨p1,by rw [e];exact h1,hone p1 (by simp)⟩
   ·exact ⟨p2,by rw [e];exact h2,hone p2 (by simp)⟩
   ·exact ⟨p3,by rw [e];exact h3,hone p3 (by simp)⟩
  have hat:∀ (j:Nat) (u:Value),((List.range (L.length * 4)).map fun o=>(w.cell? ⟨b,off+o,none⟩).getD undef)[j]? =some u->j < L.length * 4/\w.cell? ⟨b,off+j,none⟩=some u:=by
   intro j u hj;have hlt:=(List.getElem?_eq_some_iff.1 hj).1;simp only [List.length_map,List.length_range] at hlt;obtain ⟨u',h1,_⟩:=key j hlt;rw [List.getElem?_map,List.getElem?_range hlt] at hj;simp only [Option.map_some,h1,Option.getD_some,Option.some.injEq] at hj;exact ⟨hlt,by rw [h1,hj]⟩
  have hget:∀ (o:Nat) (u:Value),o < L.length * 4->w.cell? ⟨b,off+o,none⟩=some u->((List.range (L.length * 4)).map fun o=>(w.cell? ⟨b,off+o,none⟩).getD undef)[o]? =some u:=by
   intro o u ho hu;rw [List.getElem?_map,List.getElem?_range ho];simp [hu]
  refine ⟨(List.range (L.length * 4)).map fun o=>(w.cell? ⟨b,off+o,none⟩).getD undef,⟨by simp,fun u hu=>?_,fun _=>⟨b,off,rfl,hb,fun j u hj=>(hat j u hj).2⟩⟩,fun u hu=>?_,fun j x hj=>?_⟩
  ·obtain ⟨j,hj⟩:=List.getElem?_of_mem hu;obtain ⟨hlt,hcl⟩:=hat j u hj;obtain ⟨u',h1,h2,_⟩:=key j hlt;rw [h1] at hcl;cases hcl;exact h2
  ·obtain ⟨j,hj⟩:=List.getElem?_of_mem hu;obtain ⟨hlt,hcl⟩:=hat j u hj;obtain ⟨u',h1,_,h2⟩:=key j hlt;rw [h1] at hcl;cases hcl;exact h2
  ·have hlt:=(List.getElem?_eq_some_iff.1 hj).1;obtain ⟨p0,p1,p2,p3,h0,h1,h2,h3,h4⟩:=hc j x hj;exact ⟨p0,p1,p2,p3,hget _ _ (by omega) h0,hget _ _ (by omega) h1,hget _ _ (by omega) h2,hget _ _ (by omega) h3,h4⟩
theorem forms_gset {w:World} {gG o:Nat} {u:Value} {a:Option Addr} {L:List AffQ} (h:FormsAt w a L) (hg:GBk w gG):FormsAt (w.setCell ⟨gG,o,none⟩ u) a L:=by
 refine ⟨h.len,?_⟩
 rcases h.row with rfl | ⟨b,off,rfl,hb,hc⟩
 ·exact .inl rfl
 ·by_cases hl:L=[]
  ·exact .inl hl
  ·have hp:=List.length_pos_iff.2 hl;obtain ⟨p0,p1,p2,p3,h0,h1,_,_,_,h4⟩:=hc 0 L[0] (List.getElem?_eq_getElem hp);obtain ⟨_,_,_,_,rfl,_⟩:=h4.ex;have hf:b ≠ gG:=by
    rintro rfl;obtain ⟨⟨y,z0⟩,⟨a1,n1,c1,z1⟩,⟨a2,n2,c2,z2⟩,z3⟩:=hg;generalize off+0 * 4+1=q at h1
    match q,h1 with
    | 0,h1=>rw [z0] at h1;cases h1
    | 1,h1=>rw [z1] at h1;cases h1
    | 2,h1=>rw [z2] at h1;cases h1
    | q+3,h1=>rw [z3 (q+3) (by omega)] at h1;cases h1
   refine .inr ⟨b,off,rfl,by simpa using hb,fun j x hj=>?_⟩
   obtain ⟨p0,p1,p2,p3,h0,h1,h2,h3,h4⟩:=hc j x hj;exact ⟨p0,p1,p2,p3,(cell_other (by exact hf)).trans h0,(cell_other (by exact hf)).trans h1,(cell_other (by exact hf)).trans h2,(cell_other (by exact hf)).trans h3,h4.gset hg⟩
end Go.Proofs.YtfgmmghmmfmdgaaGreat
