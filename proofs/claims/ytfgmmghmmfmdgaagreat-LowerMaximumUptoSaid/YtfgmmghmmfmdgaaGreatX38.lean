/-
  Contracts of the functions that the statement reaches: LinS, LinT, LinU, LinV.
-/
import Derived.Test.YtfgmmghmmfmdgaaGreatX37
set_option linter.all false
set_option maxRecDepth 100000
set_option maxHeartbeats 3200000
namespace Go.Proofs.YtfgmmghmmfmdgaaGreat
open Go.RowKit
open Go.Lib (hid)
theorem Own4.mono {α:Type} {P:World->Value->Value->Value->Value->α->Prop} {p:Value->Bool} {T:TypeId} {w:World} {base b2:Nat} {v:Value} {L:List α} (h:Own4 P p T w base v L) (hb:b2<=base):Own4 P p T w b2 v L:=by
 obtain ⟨⟨xs,ho,he⟩,ha⟩:=h
 refine ⟨⟨xs,⟨ho.1,ho.2.imp id ?_⟩,he⟩,ha⟩
 rintro ⟨g,cap,cur,e,hg,r⟩;exact ⟨g,cap,cur,e,Nat.le_trans hb hg,r⟩
theorem RBox.grownF {w w':World} {g:Nat} {x:RatL} {v:Value} (h:RBox w g x) (hg:w.grownBy w' v.ownBlock) (hn:NoO w v) (hne:v.ownBlock ≠ some g):RBox w' g x:=by
 obtain ⟨⟨an,ad,cn,cd,⟨c0,c1,c2,cf,clt⟩,h2,h3,h4,h5⟩,h6⟩:=h;have hb:∀ o,w'.cell? ⟨g,o,none⟩=w.cell? ⟨g,o,none⟩:=fun o=>World.cell?_of_block (hg.block g clt (fun e=>hne e.symm))
 have hf:∀ o,w'.frozen? ⟨g,o,none⟩=w.frozen? ⟨g,o,none⟩:=fun o=>World.frozen?_of_block (hg.block g clt (fun e=>hne e.symm))
 exact ⟨⟨an,ad,cn,cd,⟨(hb 0).trans c0,(hb 1).trans c1,(hb 2).trans c2,fun o=>(hf o).trans (cf o),Nat.lt_of_lt_of_le clt hg.size⟩,h2,h3,h4.grown hg hn,h5.grown hg hn⟩,fun o u e=>h6 o u ((hb o).symm.trans e)⟩
structure OutCF (W wr:World) (v:Value) (L:List AffQ) (g:Nat) (u:RatL):Prop where
 out:OutF W wr v L
 box:RBox wr g u
 ne:v.ownBlock ≠ some g
theorem OutCF.below {W wr w':World} {v:Value} {L:List AffQ} {g:Nat} {u:RatL} (h:OutCF W wr v L g u) (hb:Below wr.heap.size wr w'):OutCF W w' v L g u:=⟨h.out.below hb,h.box.below hb,h.ne⟩
theorem OutCF.start {W wr:World} {v:Value} {L:List AffQ} (h:OutF W wr v L) {an ad:Option Addr} {cn cd:Nat} {u:RatL} (h2:u.num.length<=cn) (h3:u.den.length<=cd) (h4:U32s wr an u.num) (h5:U32s wr ad u.den) (T:Nat):
  OutCF W (wr.alloc (.cells #[.bool u.neg,.slice an u.num.length cn,.slice ad u.den.length cd] T)) v L wr.heap.size u:=
 ⟨h.below ((Below.refl _ _).alloc (Nat.le_refl _) _),RBox.alloc h2 h3 h4 h5 T,fun e=>by have:=(h.own.lt e).2;omega⟩
theorem OutCF.app {W wr w':World} {v v':Value} {L L':List AffQ} {g:Nat} {u:RatL} (h:OutCF W wr v L g u) (ho:OwnF w' W.heap.size v' L') (hg:wr.grownBy w' v.ownBlock) (hb:Below W.heap.size wr w') (hn:Next wr v v'):OutCF W w' v' L' g u:=by
 refine ⟨⟨ho,h.out.bl.trans hb⟩,h.box.grownF hg h.out.own.al.bs h.ne,?_⟩
 rcases hn with e | ⟨k,e,hk⟩
 ·rw [e];exact h.ne
 ·rw [e];intro e2;cases e2;have:=h.box.lt;omega
def flatF (f:Nat->Nat->AffQ) (T k i:Nat):List AffQ:=((List.range k).flatMap fun o=>(List.range T).map (f o))++(List.range i).map (f k)
theorem flatF_len (f:Nat->Nat->AffQ) (T k i:Nat):(flatF f T k i).length=k * T+i:=by
 have:∀ k,((List.range k).flatMap fun o=>(List.range T).map (f o)).length=k * T:=by
  intro k
  induction k with
  | zero=>simp
  | succ k ih=>rw [List.range_succ,List.flatMap_append,List.length_append,ih,Nat.succ_mul];simp
 rw [flatF,List.length_append,this];simp
theorem flatF_succ (f:Nat->Nat->AffQ) (T k i:Nat):flatF f T k (i+1)=flatF f T k i++[f k i]:=by simp [flatF,List.range_succ]
theorem flatF_next (f:Nat->Nat->AffQ) (T k:Nat):flatF f T k T=flatF f T (k+1) 0:=by simp [flatF,List.range_succ]
def convFO (bs ws:List Rat) (n:Nat) (win:List (List Int)) (x:List AffQ) (o i:Nat):AffQ:=sumF (bs.getD o 0) ws (o * n) (win.getD i []) x (win.getD i []).length
theorem sumF_at {b:Rat} {ws:List Rat} {off k n:Nat} {ix:List Int} {x:List AffQ} (h:ix.getD k 0=(n:Int)):sumF b ws off ix x (k+1)=addA 1 (sumF b ws off ix x k) (scA (ws.getD (off+k) 0) (x.getD n zerA)):=by
 show (if 0<=ix.getD k 0 then _ else _)=_
 rw [h,if_pos (by omega)];rfl
theorem sumF_skip {b:Rat} {ws:List Rat} {off k:Nat} {ix:List Int} {x:List AffQ} (h:¬ 0<=ix.getD k 0):sumF b ws off ix x (k+1)=sumF b ws off ix x k:=by
 show (if 0<=ix.getD k 0 then _ else _)=_
 rw [if_neg h]
theorem lConv {w:World} {gL:Nat} {S:LowV} {bs ws:List Rat} {x:List AffQ} {sh:List Int} {win:List (List Int)} {n T W C D B N:Nat} {F:Nat->Prop} (hL:LoBox w gL S) (h1:ws.length=S.n1) (h2:bs.length=S.n2) (h3:x.length=S.nx) (h4:sh.length=S.nS)
  (hW:RatsAt w S.a1 (ws.map ratL)) (hB:RatsAt w S.a2 (bs.map ratL)) (hX:FormsAt w S.ax x) (hS:Ints w F S.aS sh)
  (hwin:(windowsL sh S.kh S.kw S.st S.pd).1=win) (hT:T=win.length) (hlen:∀ ix ∈ win,ix.length=n) (hix:∀ ix ∈ win,∀ i ∈ ix,i < x.length)
  (hwl:S.n2 * n<=S.n1) (hN1:S.n1<=1000000) (hN2:S.n2<=1000000) (hNx:S.nx<=1000000) (hn2:n<=1000000) (hT2:T<=1000000) (hOT:S.n2 * T<=1000000)
  (bw:BdL W C ws) (bb:BdL W C bs) (hW0:0 < W) (bx:BdFs D B N x) (hD0:0 < D) (hP:Pay (W * D) (C+B+(n+1) * (C * B))) (hN:N<=500000):
  Calls Tryz.prog 56 #[.pointer (some ⟨gL,0,none⟩)] w (RowAf w (flatF (convFO bs ws n win x) T S.n2 0)):=by
 obtain ⟨HW,HBi,HX,H1,H2,H3⟩:=hd6 hW hB hX h1 h2 h3;obtain ⟨Hwl,HT,HLen,HIx,HOT,HSB⟩:=hd6 hwl hT hlen hix hOT hL;obtain ⟨HBw,HBb,HBx,HPy⟩:=hd4 bw bb bx hP;have HWn:=lWindows hL h4 hS;rw [hwin] at HWn;have HWn:=hid HWn;clear hW hB hX hwl h1 h2 h3 h4 hS hwin hT hlen hix hOT hL bw bb bx hP
 go_enter Tryz.func56,Tryz.ntmps56
 go_wp2_with fail
 refine HWn.out.mono ?_
 rintro e Wx ⟨aw,cw,rfl,hI,hb⟩;rw [<- HT.out];obtain ⟨HI,HSx,HBx0⟩:=hd3 hI (HSB.out.below hb) hb;clear hI hb HWn HSB;obtain ⟨f0,f1,f2,f3,f4,f5,f6,f7,f8,f9,f10,f11,f12,ff,glt⟩:=HSx.out;go_wp2;clear f0 f1 f2 f3 f4 f5 f6 f7 f8 f9 f10 f11 f12 ff glt
 go_loopw [3,20] (fun v i wr=>∃ (r m:Nat) (a:Option Addr) (c:Nat),r<=S.n2/\Hid (m=r * T)/\v=.slice a m c/\i=.int .i64 (r:Int)/\Hid (OutF Wx wr (.slice a m c) (flatF (convFO bs ws n win x) T r 0))) (fun _ i _=>S.n2 - (intOf i).toNat)
 case atStart=>exact ⟨0,0,none,0,Nat.zero_le _,by unfold Hid;omega,rfl,rfl,OutF.start Wx⟩
 case round=>
  obtain ⟨r,m,b0,k0,hr,HM,rfl,rfl,HOut⟩:=hrel;obtain ⟨wq,hwq⟩:∃ wq:World,wq=wr:=⟨_,rfl⟩
  subst hwq
  by_cases hlt:r < S.n2
  ·have hbr:Below w.heap.size w wq:=HBx0.out.trans (HOut.out.bl.mono HBx0.out.size);obtain ⟨bb,ob,u,un,ud,ucn,ucd,hab,hbb,hu,uc0,uc1,uc2,huv⟩:=HBi.out.pick (k:=r) (by rw [List.length_map,H2.out];exact hlt);obtain ⟨hu1,hu2⟩:=map_get hu;have uc0:=(hbr.cell (p:=⟨bb,ob+r * 3,none⟩) hbb).trans uc0;have uc1:=(hbr.cell (p:=⟨bb,ob+r * 3+1,none⟩) hbb).trans uc1;have uc2:=(hbr.cell (p:=⟨bb,ob+r * 3+2,none⟩) hbb).trans uc2;obtain ⟨q2,q3,q4,q5⟩:=huv.parts;obtain ⟨Hu2,HOc0⟩:=hd2 hu2 (OutCF.start HOut.out q2 q3 (q4.below hbr) (q5.below hbr) 51);rw [hab];clear hu hu1 hu2 huv q4 q5 hbr hab
   go_upto_region 6 with fail
   generalize wq.alloc (ratO u un ucn ud ucd 51)=Wg at *;clear uc0 uc1 uc2;go_wp2
   go_loopw [3,27] (fun v j wr=>∃ (i m:Nat) (a:Option Addr) (c:Nat),i<=T/\Hid (m=r * T+i)/\v=.slice a m c/\j=.int .i64 (i:Int)/\Hid (OutCF Wx wr (.slice a m c) (flatF (convFO bs ws n win x) T r i) wq.heap.size u)) (fun _ j _=>T - (intOf j).toNat)
   case atStart=>exact ⟨0,m,b0,k0,Nat.zero_le _,HM.out,rfl,rfl,HOc0.out⟩
   case round=>
    clear HM HOut HOc0;obtain ⟨i,m,b0,k0,hi0,HM,rfl,rfl,HOc⟩:=hrel;obtain ⟨wv,hwv⟩:∃ wv:World,wv=wr:=⟨_,rfl⟩
    subst hwv
    by_cases hi:i < T
    ·have hmT:m+1<=1000000:=by
      have h1:(r+1) * T<=S.n2 * T:=Nat.mul_le_mul_right _ hlt;have h2:=HOT.out;have h3:=HM.out;rw [Nat.succ_mul] at h1;omega
     obtain ⟨bt,ot,l,ai,ci,haw',tc0,hl,hlc,hIl,hbt,_⟩:=HI.out.pickc (k:=i) (by have:=HT.out;omega);have hmem:=List.mem_of_getElem? hl;have hln:l.length=n:=HLen.out l hmem;rw [hln] at tc0 hlc;have tc0:=(HOc.out.out.bl.cell (p:=⟨bt,ot+i,none⟩) hbt).trans tc0;obtain ⟨HIl,HMem,HLn⟩:=hd3 (hIl.below HOc.out.out.bl) hmem hln;have hbt2:=Nat.lt_of_lt_of_le hbt HOc.out.out.bl.size;have HGl:Hid (win.getD i []=l):=by unfold Hid;rw [List.getD_eq_getElem?_getD,hl];rfl
     obtain ⟨un,ud,ucn,ucd,⟨c0,c1,c2,cff,clt⟩,u2,u3,u4,u5⟩:=HOc.out.box.ex;have HNum:=hid (lNumber (q:=bs.getD r 0) (show RatV wv (.agg #[.bool u.neg,.slice un u.num.length ucn,.slice ud u.den.length ucd]) (ratL (bs.getD r 0)) from by have h:RatV wv (.agg #[.bool u.neg,.slice un u.num.length ucn,.slice ud u.den.length ucd]) u:=⟨un,ud,ucn,ucd,rfl,u2,u3,u4,u5⟩;rw [Hu2.out] at h;rw [<- Hu2.out] at h ⊢;exact h));rw [haw'];clear hl hIl hmem hln u4 u5
     go_upto_region 9 with fail
     go_wp2_with fail
     refine HNum.out.mono ?_
     rintro e w5 ⟨v5,rfl,hv,hb⟩;obtain ⟨na,nn,nc,nb,nan,nnn,ncn,nad,nnd,ncd,rfl⟩:=hv.spell;obtain ⟨HOc5,HIl5⟩:=hd2 (HOc.out.below hb) (HIl.out.below hb);have hbt5:=Nat.lt_of_lt_of_le hbt2 hb.size;have HNF:=hid hv.fp;have HAc:=hid (AcF.make (Below.refl w5.heap.size w5) (Below.refl w5.heap.size w5) HNF.out 53);clear HNum hv hb c0 c1 c2 cff clt tc0 HOc HIl hbt2
     go_upto_region 10 with fail
     generalize w5.alloc (.cells #[.slice na nn nc,.bool nb,.slice nan nnn ncn,.slice nad nnd ncd] 53)=Wh at *;go_wp2
     go_loopw [35] (fun i wi=>∃ k:Nat,k<=n/\i=.int .i64 (k:Int)/\Hid (AcF w5 wi w5.heap.size (sumF (bs.getD r 0) ws (r * n) l x k))) (fun i _=>n - (intOf i).toNat)
     case atStart=>exact ⟨0,Nat.zero_le _,rfl,HAc.out⟩
     case round=>
      obtain ⟨k,hk,rfl,HIr⟩:=hrel;have HBw':=hid (HBx0.out.trans ((HOc5.out.out.bl.trans (HIr.out.bl.mono HOc5.out.out.bl.size)).mono HBx0.out.size))
      by_cases hlk:k < n
      ·obtain ⟨bi,oi,d,hai,ic,hd,_,hbi,_,hd1,hd2_⟩:=HIl5.out.pick2 (k:=k) (by rw [HLn.out];exact hlk);have hgd:l.getD k 0=d:=getD_of hd;have ic:=(HIr.out.bl.cell (p:=⟨bi,oi+k,none⟩) hbi).trans ic;have hbi2:=Nat.lt_of_lt_of_le hbi HIr.out.bl.size
       by_cases h0:0<=d
       ·obtain ⟨nn,rfl⟩:∃ nn:Nat,d=(nn:Int):=⟨d.toNat,by omega⟩
        have hnx:nn < x.length:=by
         have:=HIx.out l HMem.out _ (List.mem_of_getElem? hd);omega
        obtain ⟨p0,hp0⟩:∃ p0,p0=r * n:=⟨_,rfl⟩
        have hmul:p0+k < S.n1:=by
         have e1:(r+1) * n<=S.n2 * n:=Nat.mul_le_mul_right _ hlt;have e2:=Hwl.out;rw [Nat.succ_mul, <- hp0] at e1;omega
        obtain ⟨bw,ow,v,vn,vd,vcn,vcd,haw,hbw,hv,wc0,wc1,wc2,hwv⟩:=HW.out.pick (k:=p0+k) (by rw [List.length_map,H1.out];exact hmul);obtain ⟨bx,ox,y,q0,q1,q2,q3,hax,hbx,hyy,yc0,yc1,yc2,yc3,hyv⟩:=HX.out.pick (k:=nn) hnx;obtain ⟨ya,yn,yc,yb,yan,ynn,ycn,yad,ynd,ycd,rfl,rfl,rfl,rfl⟩:=hyv.spell;have hnx2:nn < S.nx:=by rw [<- H3.out];exact hnx
        obtain ⟨hv1,hv2⟩:=map_get hv;have hxk:x.getD nn zerA=y:=by rw [List.getD_eq_getElem?_getD,hyy];rfl
        obtain ⟨s,hs⟩:∃ s,s=sumF (bs.getD r 0) ws (r * n) l x k:=⟨_,rfl⟩
        obtain ⟨s1,hs1⟩:∃ s1,s1=sumF (bs.getD r 0) ws (r * n) l x (k+1):=⟨_,rfl⟩
        obtain ⟨pr,hpr⟩:∃ pr,pr=scA (ws.getD (p0+k) 0) y:=⟨_,rfl⟩
        have hq:addA 1 s pr=s1:=by
         rw [hs,hpr,hs1,sumF_at hgd,hxk, <- hp0]
        have HI1:=HIr.out;rw [<- hs] at HI1;obtain ⟨HS1,HI1,HHs,HHpr,HHv,HHq⟩:=hd6 hs1 HI1 hs hpr (And.intro hv1 hv2) hq;have Hyb:=hid (show BdF D B N y from by rw [<- hxk];exact HBx.out.at hD0 nn);have m0:IntKind.i64.wrap ((r:Int) * (n:Int))=(p0:Int):=by
         rw [<- Int.natCast_mul, <- hp0];exact IntWalk.i64_in _ (by omega)
        obtain ⟨hyv',hwv'⟩:=hd2 hyv.val hwv;have q0:decide ((0:Int)<=(nn:Int))=true:=decide_eq_true (by omega);obtain ⟨sa,sn,sc,sb,san,snn,scn,sad,snd,scd,hbxs⟩:=HI1.out.spell;have HSf:=hid hbxs.fm.val;have HMul:Hid (∀ W',Below wr.heap.size wr W'->Calls Tryz.prog 89 #[.agg #[.slice ya yn yc,.bool yb,.slice yan ynn ycn,.slice yad ynd ycd],.agg #[.bool v.neg,.slice vn v.num.length vcn,.slice vd v.den.length vcd]] W' (RetAf W' pr)):=fun W' hb=>by
         have hbw2:=HBw'.out.trans (hb.mono HBw'.out.size);rw [HHpr.out]
         refine lScale (hyv'.out.below hbw2) (k:=ws.getD (p0+k) 0) (by have h:=hwv'.out.below hbw2;rw [HHv.out.2] at h;rw [<- HHv.out.2] at h ⊢;exact h) (HBw.out.at hW0 _) Hyb.out (HPy.out.le (Nat.le_refl _) ?_) hN
         rw [Nat.succ_mul];omega
        have HAdd:Hid (∀ W',Below wr.heap.size wr W'->∀ z,FormV W' z pr->Calls Tryz.prog 60 #[.agg #[.slice sa sn sc,.bool sb,.slice san snn scn,.slice sad snd scd],z] W' (RetAf W' s1)):=fun W' hb z hz=>by
         rw [<- HHq.out]
         refine lAdd (HSf.out.below hb) hz (B:=C+k * (C * B)) (C:=C * B) (D:=W * D) (N:=N) ?_ ?_ (HPy.out.le (Nat.le_refl _) ?_) hN
         ·rw [HHs.out];exact BdF.sum (HBb.out.at hW0 _) HBw.out HBx.out hD0 _ _ _
         ·rw [HHpr.out];exact BdF.sc (HBw.out.at hW0 _) Hyb.out
         ·have:(k+1) * (C * B)<=n * (C * B):=Nat.mul_le_mul_right _ hlk;rw [Nat.succ_mul] at this ⊢;omega
        have HCe:Hid (∀ W',Below wr.heap.size wr W'->W'.cell? ⟨w5.heap.size,0,none⟩=some (.slice sa sn sc)/\W'.cell? ⟨w5.heap.size,1,none⟩=some (.bool sb)/\W'.cell? ⟨w5.heap.size,2,none⟩=some (.slice san snn scn)/\W'.cell? ⟨w5.heap.size,3,none⟩=some (.slice sad snd scd)/\
          W'.cell? ⟨gL,7,none⟩=some (.slice (some ⟨bw,ow,none⟩) S.n1 S.c1)/\W'.cell? ⟨gL,10,none⟩=some (.slice (some ⟨bx,ox,none⟩) S.nx S.cx)/\
          W'.cell? ⟨bw,ow+(p0+k) * 3,none⟩=some (.bool v.neg)/\W'.cell? ⟨bw,ow+(p0+k) * 3+1,none⟩=some (.slice vn v.num.length vcn)/\W'.cell? ⟨bw,ow+(p0+k) * 3+2,none⟩=some (.slice vd v.den.length vcd)/\
          W'.cell? ⟨bx,ox+nn * 4,none⟩=some (.slice ya yn yc)/\W'.cell? ⟨bx,ox+nn * 4+1,none⟩=some (.bool yb)/\W'.cell? ⟨bx,ox+nn * 4+2,none⟩=some (.slice yan ynn ycn)/\W'.cell? ⟨bx,ox+nn * 4+3,none⟩=some (.slice yad ynd ycd)):=fun W' hb=>by
         have hbw2:=HBw'.out.trans (hb.mono HBw'.out.size);have hS2:=(HSx.out.below (HOc5.out.out.bl.trans (HIr.out.bl.mono HOc5.out.out.bl.size))).below hb;have g7:=hS2.f7;have g10:=hS2.f10;rw [haw] at g7;rw [hax] at g10;exact ⟨(hb.cell hbxs.bx.lt).trans hbxs.bx.c0,(hb.cell hbxs.bx.lt).trans hbxs.bx.c1,(hb.cell hbxs.bx.lt).trans hbxs.bx.c2,(hb.cell hbxs.bx.lt).trans hbxs.bx.c3,g7,g10,(hbw2.cell hbw).trans wc0,(hbw2.cell hbw).trans wc1,(hbw2.cell hbw).trans wc2,
          (hbw2.cell hbx).trans yc0,(hbw2.cell hbx).trans yc1,(hbw2.cell hbx).trans yc2,(hbw2.cell hbx).trans yc3⟩
        have hs0:=hbxs.bx.lt;rw [hai];clear hv1 hv2 hs hs1 hpr hq hv hyy hyv hwv hp0 hd hgd hai hax haw wc0 wc1 wc2 yc0 yc1 yc2 yc3 hbxs hxk
        go_upto_region 14 with fail
        clear ic
        refine wp_region_slots_tail 23 (by kernel_rfl) (by kernel_rfl) (by kernel_rfl) (by kernel_rfl) (by decide) (From wr.heap.size wr) (fun w w'=>Below w.heap.size w w') (GQ [.val (.agg #[.slice sa sn sc,.bool sb,.slice san snn scn,.slice sad snd scd]),.val (.pointer (some ⟨gL,0,none⟩)),.val (.pointer (some ⟨gL,0,none⟩)),.val (.pointer (some ⟨gL,10,none⟩)),.val (.slice (some ⟨bx,ox,none⟩) S.nx S.cx),.val (.int .i64 (nn:Int)),.val (.pointer (some ⟨bx,ox+nn * 4,none⟩)),.val (.agg #[.slice ya yn yc,.bool yb,.slice yan ynn ycn,.slice yad ynd ycd]),.val (.pointer (some ⟨gL,0,none⟩)),.val (.pointer (some ⟨gL,0,none⟩)),.val (.pointer (some ⟨gL,0,none⟩)),.val (.pointer (some ⟨gL,7,none⟩)),.val (.slice (some ⟨bw,ow,none⟩) S.n1 S.c1),.val (.int .i64 (r:Int)),.val (.slice (some ⟨bi,oi,none⟩) n ci),.val (.int .i64 (n:Int)),.val (.int .i64 (p0:Int)),.val (.int .i64 (k:Int)),.val (.int .i64 ((p0:Int)+(k:Int))),.val (.pointer (some ⟨bw,ow+(p0+k) * 3,none⟩)),.val (.agg #[.bool v.neg,.slice vn v.num.length vcn,.slice vd v.den.length vcd]),.frm pr,.frm s1]) (fun i v w w' h hb=>GQ_below h hb) (From.start (Nat.le_refl _)) ?_ ?_
        ·intro ops;simp only [List.take_succ_cons,List.take_zero,Shows]
         refine ⟨?v0,?v1,?v2,?v3,?v4,?v5,?v6,?v7,?v8,?v9,?v10,?v11,?v12,?v13,?v14,?v15,?v16,?v17,?v18,?v19,?v20,?_,?_,trivial⟩
         all_goals (intro y' X hR hL;have hB:=hR.base;obtain ⟨x0,x1,x2,x3,f7,f10,wc0,wc1,wc2,yc0,yc1,yc2,yc3⟩:=HCe.out X hR.be;simp only [Laid,Region.binds,forall_const,Bool.false_eq_true,false_implies,GQ,List.getElem?_cons_zero,List.getElem?_cons_succ] at hL;simp [fillFrom,Act.put])
         case v0|v1|v2|v3|v4|v5|v6|v7|v8|v9|v10|v11|v12|v13|v14|v15|v16|v17|v18|v19|v20=>
          try simp only [hL]
          clear hL;have HR:=hid hR;clear hR;go_wp2;exact ⟨_,rfl,HR.out,Below.refl _ _,rfl⟩
         ·try simp only [hL]
          clear hL;have HR:=hid hR;clear hR;have HCt:=hid (HMul.out X HR.out.be)
          go_wp2_with fail
          refine HCt.out.mono ?_
          rintro e w1 ⟨v1,rfl,kv,kb⟩;obtain ⟨KV,KB⟩:=hd2 kv kb;clear kv kb HCt;go_wp2;exact ⟨_,rfl,⟨Nat.le_trans HR.out.base KB.out.size,HR.out.be.trans (KB.out.mono HR.out.base)⟩,KB.out,KV.out⟩
         ·generalize y' 0=y0 at hL ⊢;generalize y' 21=y21 at hL ⊢;obtain ⟨rfl,H21,_,_⟩:=hL;obtain ⟨K21,HR⟩:=hd2 H21 hR;clear hR H21;have HCt:=hid (HAdd.out X HR.out.be _ K21.out)
          go_wp2_with fail
          refine HCt.out.mono ?_
          rintro e w1 ⟨v1,rfl,kv,kb⟩;obtain ⟨KV,KB⟩:=hd2 kv kb;clear kv kb HCt;go_wp2;exact ⟨_,rfl,⟨Nat.le_trans HR.out.base KB.out.size,HR.out.be.trans (KB.out.mono HR.out.base)⟩,KB.out,KV.out⟩
        ·intro ops y' X hR hL;have hB:=hR.base;have J22:=hL.2;simp only [GQ,List.getElem?_cons_zero,List.getElem?_cons_succ] at J22;obtain ⟨x0,x1,x2,x3,f7,f10,wc0,wc1,wc2,yc0,yc1,yc2,yc3⟩:=HCe.out X hR.be;clear hL;simp only [List.take_succ_cons,List.take_zero,List.drop_succ_cons,List.drop_zero];simp [fillFrom,Act.put];generalize y' 22=y22 at J22 ⊢;have HR:=hid hR;clear hR;obtain ⟨ra,rn,rc,rb,ran,rnn,rcn,rad,rnd,rcd,rfl⟩:=J22.spell;have HBe:=hid (show Below wr.heap.size wr X from HR.out.be);have HStep:=hid (HI1.out.step HBe.out J22.fp);obtain ⟨_,_,_,_,hbz⟩:=(HI1.out.below HBe.out).ex;obtain ⟨z0,z1,z2,z3,zf,zlt⟩:=hbz.bx;clear J22 hbz;go_wp2;go_roundw
         case rel=>exact ⟨k+1,hlk,by go_num,by rw [<- HS1.out];exact HStep.out⟩
         case measure=>simp [intOf];omega
       ·have hsk:sumF (bs.getD r 0) ws (r * n) l x (k+1)=sumF (bs.getD r 0) ws (r * n) l x k:=sumF_skip (by rw [hgd];exact h0);have HStep:Hid (AcF w5 wr w5.heap.size (sumF (bs.getD r 0) ws (r * n) l x (k+1))):=by unfold Hid;rw [hsk];exact HIr.out
        have q0:decide (0<=d)=false:=decide_eq_false h0;rw [hai];clear hd hgd hsk hai;go_wp2;go_roundw
        case rel=>exact ⟨k+1,hlk,by go_num,HStep.out⟩
        case measure=>simp [intOf];omega
      ·obtain rfl:k=n:=by omega
       obtain ⟨s,hs⟩:∃ s,s=convFO bs ws k win x r i:=⟨_,rfl⟩
       have hbx:AcF w5 wr w5.heap.size s:=by
        have h:=HIr.out;rw [hs,show convFO bs ws k win x r i=sumF (bs.getD r 0) ws (r * k) l x k by unfold convFO;rw [HGl.out,HLn.out]];exact h
       have HStep:Hid _:=flatF_succ (convFO bs ws k win x) T r i;rw [<- hs] at HStep;obtain ⟨sa,sn,sc,sb,san,snn,scn,sad,snd,scd,hbxs⟩:=hbx.spell;have HRow:=hid (One4.form hbxs.fm 53);obtain ⟨x0,x1,x2,x3,_,xlt⟩:=hbxs.bx;obtain ⟨HOw,HLf⟩:=hd2 ((HOc5.out.below hbx.bl).below ((Below.refl wr.heap.size wr).alloc (Nat.le_refl _) (.cells #[.slice sa sn sc,.bool sb,.slice san snn scn,.slice sad snd scd] 53))) ((flatF_len (convFO bs ws k win x) T r i).trans HM.out.symm);have HM1:Hid (m+1=r * T+(i+1)):=by have:=HM.out;unfold Hid;omega
       clear hbx hbxs hs
       go_wp2_with (at_builtin;refine wpList_app4 (T:=53) formK (.slice none 0 0) (.bool false) (.slice none 0 0) (.slice none 0 0) 80 (by intro u hu;simp at hu;rcases hu with rfl | rfl | rfl | rfl <;> rfl) rfl (.tmp 66) (.tmp 68) 28 rfl Wx.heap.size Tryz.underlying28 (by kernel_rfl) (by omega) (.slice b0 m k0) m _ HLf.out rfl HOw.out.out.own _ s HRow.out rfl (by omega) HOw.out.out.bl.size ?_;intro b3 k3 w3 hown hk3 hg hbe hnx;have HOut3:=hid (show OutCF Wx w3 (.slice b3 (m+1) k3) (flatF (convFO bs ws k win x) T r (i+1)) wq.heap.size u from by rw [HStep.out];exact HOw.out.app hown hg hbe hnx);clear hown hg hbe hnx)
       go_roundw
       case rel=>exact ⟨i+1,m+1,b3,k3,hi,HM1.out,rfl,by go_num,HOut3.out⟩
       case measure=>simp [intOf];omega
    ·obtain rfl:i=T:=by omega
     have HOn:Hid (OutF Wx wv (.slice b0 m k0) (flatF (convFO bs ws n win x) i (r+1) 0)):=by unfold Hid;rw [<- flatF_next];exact HOc.out.out
     have HM1:Hid (m=(r+1) * i):=by have:=HM.out;unfold Hid;rw [Nat.succ_mul];omega
     go_wp2;go_roundw
     case rel=>exact ⟨r+1,m,b0,k0,hlt,HM1.out,rfl,by go_num,HOn.out⟩
     case measure=>simp [intOf];omega
  ·obtain rfl:r=S.n2:=by omega
   go_wp2;have hNP:RowAf w (flatF (convFO bs ws n win x) T S.n2 0) (.returned (.slice b0 m k0)) wq:=by
    obtain ⟨a,c,e,ho,hb⟩:=HOut.out.ret ((flatF_len _ _ _ _).trans HM.out.symm);exact ⟨a,c,e,ho.mono HBx0.out.size,HBx0.out.trans (hb.mono HBx0.out.size)⟩
   exact bodyPost_ret (v:=.slice b0 m k0) (by simp [results,Tryz.results56,go_sem]) rfl hNP
def ub (w:World) (gG:Nat):Option Nat:=match w.cell? ⟨gG,1,none⟩ with | some v=>v.ownBlock | none=>none
structure LSt (w:World) (gG n:Nat) (U:List AffQ):Prop where
 g0:w.cell? ⟨gG,0,none⟩=some (.int .i64 (n:Int))
 g1:∃ a c,w.cell? ⟨gG,1,none⟩=some (.slice a U.length c)/\OwnF w (gG+1) (.slice a U.length c) U
 g2:w.cell? ⟨gG,2,none⟩=some (.slice none 0 0)
 g3:∀ o,3<=o->w.cell? ⟨gG,o,none⟩=none
 fz:∀ o,w.frozen? ⟨gG,o,none⟩=false
 lt:gG < w.heap.size
structure Fre (gG:Nat) (w:World) (b:Nat):Prop where
 lt:b < w.heap.size
 ne:b ≠ gG
 nu:ub w gG ≠ some b
structure Stp (gG:Nat) (w w':World):Prop where
 os:w'.os=w.os
 tape:w'.tape=w.tape
 output:w'.output=w.output
 size:w.heap.size<=w'.heap.size
 block:∀ k,k < w.heap.size->k ≠ gG->ub w gG ≠ some k->w'.heap[k]? =w.heap[k]?
 next:ub w' gG=ub w gG ∨ ∃ k,ub w' gG=some k/\w.heap.size<=k
theorem Stp.refl (gG:Nat) (w:World):Stp gG w w:=⟨rfl,rfl,rfl,Nat.le_refl _,fun _ _ _ _=>rfl,.inl rfl⟩
theorem Stp.trans {gG:Nat} {a b c:World} (h:Stp gG a b) (k:Stp gG b c):Stp gG a c:=by
 refine ⟨k.os.trans h.os,k.tape.trans h.tape,k.output.trans h.output,Nat.le_trans h.size k.size,fun j hj hg hu=>(k.block j (Nat.lt_of_lt_of_le hj h.size) hg ?_).trans (h.block j hj hg hu),?_⟩
 ·rcases h.next with e | ⟨q,e,hq⟩
  ·rw [e];exact hu
  ·rw [e];intro x;cases x;omega
 ·rcases k.next with e | ⟨q,e,hq⟩
  ·rw [e];exact h.next
  ·exact .inr ⟨q,e,Nat.le_trans h.size hq⟩
theorem Stp.of {gG:Nat} {w w':World} (hb:Below w.heap.size w w') (hg:gG < w.heap.size):Stp gG w w':=
 ⟨hb.os,hb.tape,hb.output,hb.size,fun k hk _ _=>hb.block k hk,.inl (by unfold ub;rw [hb.cell hg])⟩
theorem LSt.ub_ge {w:World} {gG n:Nat} {U:List AffQ} (h:LSt w gG n U) {k:Nat} (e:ub w gG=some k):gG < k/\k < w.heap.size:=by
 obtain ⟨a,c,h1,ho⟩:=h.g1;unfold ub at e;rw [h1] at e;have:=ho.lt e;omega
theorem LSt.below {w w':World} {gG n:Nat} {U:List AffQ} (h:LSt w gG n U) (hb:Below w.heap.size w w'):LSt w' gG n U:=by
 obtain ⟨g0,⟨a,c,h1,ho⟩,g2,g3,fz,lt⟩:=h;have k:=fun o=>hb.cell (p:=⟨gG,o,none⟩) lt
 exact ⟨(k 0).trans g0,⟨a,c,(k 1).trans h1,ho.below formK hb⟩,(k 2).trans g2,fun o ho=>(k o).trans (g3 o ho),fun o=>(hb.frozen lt).trans (fz o),Nat.lt_of_lt_of_le lt hb.size⟩
theorem Stp.below {w w':World} {gG n:Nat} {U:List AffQ} (h:Stp gG w w') (hs:LSt w gG n U):Below gG w w':=
 ⟨h.os,h.tape,h.output,h.size,fun k hk=>h.block k (by have:=hs.lt;omega) (by omega) (fun e=>by have:=hs.ub_ge e;omega)⟩
theorem LSt.fresh {w w':World} {gG n:Nat} {U:List AffQ} (h:LSt w gG n U) (hb:Below w.heap.size w w') {b:Nat} (h1:w.heap.size<=b) (h2:b < w'.heap.size):Fre gG w' b:=by
 refine ⟨h2,by have:=h.lt;omega,fun e=>?_⟩
 have e2:ub w' gG=ub w gG:=by unfold ub;rw [hb.cell h.lt]
 rw [e2] at e;have:=h.ub_ge e;omega
theorem Fre.stp {gG b:Nat} {w w':World} (h:Fre gG w b) (hs:Stp gG w w'):Fre gG w' b:=by
 refine ⟨Nat.lt_of_lt_of_le h.lt hs.size,h.ne,?_⟩
 rcases hs.next with e | ⟨q,e,hq⟩
 ·rw [e];exact h.nu
 ·rw [e];intro x;cases x;have:=h.lt;omega
theorem Fre.block {gG b:Nat} {w w':World} (h:Fre gG w b) (hs:Stp gG w w'):w'.heap[b]? =w.heap[b]? :=hs.block b h.lt h.ne h.nu
theorem Fre.cell {gG b o:Nat} {w w':World} (h:Fre gG w b) (hs:Stp gG w w'):w'.cell? ⟨b,o,none⟩=w.cell? ⟨b,o,none⟩:=World.cell?_of_block (h.block hs)
theorem Fre.frozen {gG b o:Nat} {w w':World} (h:Fre gG w b) (hs:Stp gG w w'):w'.frozen? ⟨b,o,none⟩=w.frozen? ⟨b,o,none⟩:=World.frozen?_of_block (h.block hs)
structure GBk (w:World) (gG:Nat):Prop where
 z0:∃ x,w.cell? ⟨gG,0,none⟩=some (.int .i64 x)
 z1:∃ a n c,w.cell? ⟨gG,1,none⟩=some (.slice a n c)
 z2:∃ a n c,w.cell? ⟨gG,2,none⟩=some (.slice a n c)
 z3:∀ o,3<=o->w.cell? ⟨gG,o,none⟩=none
theorem LSt.blk {w:World} {gG n:Nat} {U:List AffQ} (h:LSt w gG n U):GBk w gG:=
 ⟨⟨_,h.g0⟩,(let ⟨_,_,h1,_⟩:=h.g1;⟨_,_,_,h1⟩),⟨_,_,_,h.g2⟩,h.g3⟩
theorem GBk.ne {w:World} {gG b o:Nat} {k:IntKind} {x:Int} (h:GBk w gG) (hc:w.cell? ⟨b,o,none⟩=some (.int k x)) (hn:k=.u32 ∨ ∃ u,w.cell? ⟨b,o+1,none⟩=some u/\∀ a n c,u ≠ .slice a n c):b ≠ gG:=by
 rintro rfl;obtain ⟨⟨y,h0⟩,⟨a1,n1,c1,h1⟩,⟨a2,n2,c2,h2⟩,h3⟩:=h
 match o,hc,hn with
 | 0,hc,hn=>
  rw [h0] at hc;cases hc
  rcases hn with hn | ⟨u,hu,hn⟩
  ·cases hn
  ·rw [h1] at hu;cases hu;exact hn _ _ _ rfl
 | 1,hc,_=>rw [h1] at hc;cases hc
 | 2,hc,_=>rw [h2] at hc;cases hc
 | o+3,hc,_=>rw [h3 (o+3) (by omega)] at hc;cases hc
theorem LSt.fre {w:World} {gG n b o:Nat} {U:List AffQ} {k:IntKind} {x:Int} (h:LSt w gG n U) (hc:w.cell? ⟨b,o,none⟩=some (.int k x)) (hn:k=.u32 ∨ ∃ u,w.cell? ⟨b,o+1,none⟩=some u/\∀ a n c,u ≠ .slice a n c) (hb:b < w.heap.size):Fre gG w b:=by
 refine ⟨hb,h.blk.ne hc hn,fun e=>?_⟩
 obtain ⟨a,c,h1,ho⟩:=h.g1;unfold ub at e;rw [h1] at e;have:=ho.al b e o _ hc;cases this
theorem U32s.gset {w:World} {gG o:Nat} {u:Value} {a:Option Addr} {l:List Nat} (h:U32s w a l) (hg:GBk w gG):U32s (w.setCell ⟨gG,o,none⟩ u) a l:=by
 by_cases hl:l=[]
 ·rw [hl];exact U32s.nil _ _
 obtain ⟨b,off,rfl,hb,hc⟩:=h.open hl;have hp:=List.length_pos_iff.2 hl;have hf:=hg.ne (hc 0 hp) (.inl rfl)
 refine ⟨h.lim,h.len,h.row.imp id ?_⟩
 rintro ⟨b',off',e,_,hcc⟩;cases e;exact ⟨b,off,rfl,by simpa using hb,fun j d hj=>(cell_other (by exact hf)).trans (hcc j d hj)⟩
theorem RatC.gset {w:World} {gG o:Nat} {u:Value} {p1 p2 p3:Value} {q:Rat} (h:RatC w p1 p2 p3 q) (hg:GBk w gG):RatC (w.setCell ⟨gG,o,none⟩ u) p1 p2 p3 q:=by
 obtain ⟨an,ad,cn,cd,e1,e2,e3,l1,l2,u1,u2⟩:=h.ex;exact ⟨an,ad,cn,cd,e1,e2,e3,l1,l2,u1.gset hg,u2.gset hg⟩
theorem terms_gset {w:World} {gG o:Nat} {u:Value} {a:Option Addr} {L:List (Nat × Rat)} (h:TermsAt w a L) (hg:GBk w gG):TermsAt (w.setCell ⟨gG,o,none⟩ u) a L:=by
 refine ⟨h.len,?_⟩
 rcases h.row with rfl | ⟨b,off,rfl,hb,hc⟩
 ·exact .inl rfl
 ·by_cases hl:L=[]
  ·exact .inl hl
  ·have hp:=List.length_pos_iff.2 hl;obtain ⟨p0,p1,p2,p3,h0,h1,_,_,rfl,h4⟩:=hc 0 L[0] (List.getElem?_eq_getElem hp);obtain ⟨_,_,_,_,rfl,_⟩:=h4.ex;have hf:=hg.ne h0 (.inr ⟨_,h1,fun _ _ _ e=>by cases e⟩)
   refine .inr ⟨b,off,rfl,by simpa using hb,fun j x hj=>?_⟩
   obtain ⟨p0,p1,p2,p3,h0,h1,h2,h3,h4⟩:=hc j x hj;exact ⟨p0,p1,p2,p3,(cell_other (by exact hf)).trans h0,(cell_other (by exact hf)).trans h1,(cell_other (by exact hf)).trans h2,(cell_other (by exact hf)).trans h3,h4.1,h4.2.gset hg⟩
theorem FormP.gset {w:World} {gG o:Nat} {u:Value} {p0 p1 p2 p3:Value} {f:AffQ} (h:FormP w p0 p1 p2 p3 f) (hg:GBk w gG):FormP (w.setCell ⟨gG,o,none⟩ u) p0 p1 p2 p3 f:=by
 obtain ⟨⟨a,c,e,hc,ht⟩,hr⟩:=h;exact ⟨⟨a,c,e,hc,terms_gset ht hg⟩,hr.gset hg⟩
theorem U32s.stp {w w':World} {gG n:Nat} {U:List AffQ} {a:Option Addr} {l:List Nat} (h:U32s w a l) (hL:LSt w gG n U) (hs:Stp gG w w'):U32s w' a l:=by
 by_cases hl:l=[]
 ·rw [hl];exact U32s.nil _ _
 obtain ⟨b,off,rfl,hb,hc⟩:=h.open hl;have hp:=List.length_pos_iff.2 hl;have hf:=hL.fre (hc 0 hp) (.inl rfl) hb
 refine ⟨h.lim,h.len,h.row.imp id ?_⟩
 rintro ⟨b',off',e,_,hcc⟩;cases e;exact ⟨b,off,rfl,Nat.lt_of_lt_of_le hb hs.size,fun j d hj=>(hf.cell hs).trans (hcc j d hj)⟩
theorem RatC.stp {w w':World} {gG n:Nat} {U:List AffQ} {p1 p2 p3:Value} {q:Rat} (h:RatC w p1 p2 p3 q) (hL:LSt w gG n U) (hs:Stp gG w w'):RatC w' p1 p2 p3 q:=by
 obtain ⟨an,ad,cn,cd,e1,e2,e3,l1,l2,u1,u2⟩:=h.ex;exact ⟨an,ad,cn,cd,e1,e2,e3,l1,l2,u1.stp hL hs,u2.stp hL hs⟩
theorem terms_stp {w w':World} {gG n:Nat} {U:List AffQ} {a:Option Addr} {L:List (Nat × Rat)} (h:TermsAt w a L) (hL:LSt w gG n U) (hs:Stp gG w w'):TermsAt w' a L:=by
 refine ⟨h.len,?_⟩
 rcases h.row with rfl | ⟨b,off,rfl,hb,hc⟩
 ·exact .inl rfl
 ·by_cases hl:L=[]
  ·exact .inl hl
  ·have hp:=List.length_pos_iff.2 hl;obtain ⟨p0,p1,p2,p3,h0,h1,_,_,rfl,h4⟩:=hc 0 L[0] (List.getElem?_eq_getElem hp);obtain ⟨_,_,_,_,rfl,_⟩:=h4.ex;have hf:=hL.fre h0 (.inr ⟨_,h1,fun _ _ _ e=>by cases e⟩) hb
   refine .inr ⟨b,off,rfl,Nat.lt_of_lt_of_le hb hs.size,fun j x hj=>?_⟩
   obtain ⟨p0,p1,p2,p3,h0,h1,h2,h3,h4⟩:=hc j x hj;exact ⟨p0,p1,p2,p3,(hf.cell hs).trans h0,(hf.cell hs).trans h1,(hf.cell hs).trans h2,(hf.cell hs).trans h3,h4.1,h4.2.stp hL hs⟩
theorem FormP.stp {w w':World} {gG n:Nat} {U:List AffQ} {p0 p1 p2 p3:Value} {f:AffQ} (h:FormP w p0 p1 p2 p3 f) (hL:LSt w gG n U) (hs:Stp gG w w'):FormP w' p0 p1 p2 p3 f:=by
 obtain ⟨⟨a,c,e,hc,ht⟩,hr⟩:=h;exact ⟨⟨a,c,e,hc,terms_stp ht hL hs⟩,hr.stp hL hs⟩
theorem FormV.stp {w w':World} {gG n:Nat} {U:List AffQ} {v:Value} {f:AffQ} (h:FormV w v f) (hL:LSt w gG n U) (hs:Stp gG w w'):FormV w' v f:=by
 obtain ⟨p0,p1,p2,p3,e,k⟩:=h.ex;exact ⟨p0,p1,p2,p3,e,k.stp hL hs⟩
structure FRow (gG:Nat) (w:World) (a:Option Addr) (L:List AffQ):Prop where
 at':FormsAt w a L
 fr:L=[] ∨ ∀ p,a=some p->Fre gG w p.block
theorem FRow.stp {w w':World} {gG n:Nat} {U:List AffQ} {a:Option Addr} {L:List AffQ} (h:FRow gG w a L) (hL:LSt w gG n U) (hs:Stp gG w w'):FRow gG w' a L:=by
 rcases h.fr with rfl | hf
 ·exact ⟨Row4.nil _ _,.inl rfl⟩
 refine ⟨⟨h.at'.len,?_⟩,.inr fun p e=>(hf p e).stp hs⟩
 rcases h.at'.row with rfl | ⟨b,off,rfl,hb,hc⟩
 ·exact .inl rfl
 ·have hf:=hf _ rfl
  refine .inr ⟨b,off,rfl,Nat.lt_of_lt_of_le hb hs.size,fun j x hj=>?_⟩
  obtain ⟨p0,p1,p2,p3,h0,h1,h2,h3,h4⟩:=hc j x hj;exact ⟨p0,p1,p2,p3,(hf.cell hs).trans h0,(hf.cell hs).trans h1,(hf.cell hs).trans h2,(hf.cell hs).trans h3,h4.stp hL hs⟩
theorem FRow.drop {w:World} {gG b off:Nat} {L:List AffQ} (h:FRow gG w (some ⟨b,off,none⟩) L) (k:Nat):FRow gG w (some ⟨b,off+k * 4,none⟩) (L.drop k):=
 ⟨h.at'.drop k,h.fr.imp (by rintro rfl;simp) fun hf p e=>by cases e;exact hf ⟨b,off,none⟩ rfl⟩
theorem FRow.take {w:World} {gG:Nat} {a:Option Addr} {L:List AffQ} (h:FRow gG w a L) (k:Nat):FRow gG w a (L.take k):=⟨h.at'.take k,h.fr.imp (by rintro rfl;simp) id⟩
structure FOwn (gG:Nat) (w:World) (base:Nat) (v:Value) (L:List AffQ):Prop where
 own:OwnF w base v L
 fr:∀ b,v.ownBlock=some b->Fre gG w b
theorem FOwn.nil (gG:Nat) (w:World) (base:Nat):FOwn gG w base (.slice none 0 0) []:=⟨Own4.nil _ _,fun b e=>by cases e⟩
theorem FOwn.stp {w w':World} {gG n base:Nat} {U:List AffQ} {v:Value} {L:List AffQ} (h:FOwn gG w base v L) (hL:LSt w gG n U) (hs:Stp gG w w'):FOwn gG w' base v L:=by
 refine ⟨⟨?_,?_⟩,fun b e=>(h.fr b e).stp hs⟩
 ·obtain ⟨xs,ho,he⟩:=h.own.ex
  refine ⟨xs,⟨ho.1,?_⟩,fun j x hj=>?_⟩
  ·rcases ho.2 with k | ⟨g,cap,cur,rfl,k1,k2,k3⟩
   ·exact .inl k
   ·exact .inr ⟨g,cap,cur,rfl,k1,((h.fr g rfl).block hs).trans k2,k3⟩
  ·obtain ⟨p0,p1,p2,p3,h0,h1,h2,h3,h4⟩:=he j x hj;exact ⟨p0,p1,p2,p3,h0,h1,h2,h3,h4.stp hL hs⟩
 ·intro g e o x hx;rw [(h.fr g e).cell hs] at hx;exact h.own.al g e o x hx
theorem FOwn.of {w w':World} {gG n:Nat} {U:List AffQ} {v:Value} {L:List AffQ} (h:OwnF w' w.heap.size v L) (hL:LSt w gG n U) (hb:Below w.heap.size w w'):FOwn gG w' w.heap.size v L:=
 ⟨h,fun b e=>hL.fresh hb (h.lt e).1 (h.lt e).2⟩
theorem FOwn.read {w:World} {gG base n c:Nat} {a:Option Addr} {L:List AffQ} (h:FOwn gG w base (.slice a n c) L) (hl:L.length<=9223372036854775807):FRow gG w a L:=
 ⟨h.own.read hl,.inr fun p e=>by subst e;exact h.fr _ rfl⟩
theorem LoBox.fre {w:World} {gG gL n:Nat} {U:List AffQ} {S:LowV} (h:LoBox w gL S) (hL:LSt w gG n U):Fre gG w gL:=hL.fre h.f0 (.inr ⟨_,h.f1,fun _ _ _ e=>by cases e⟩) h.lt
theorem LoBox.stp {w w':World} {gG gL n:Nat} {U:List AffQ} {S:LowV} (h:LoBox w gL S) (hL:LSt w gG n U) (hs:Stp gG w w'):LoBox w' gL S:=by
 have hf:=h.fre hL;obtain ⟨f0,f1,f2,f3,f4,f5,f6,f7,f8,f9,f10,f11,f12,ff,lt⟩:=h;have k:=fun o=>hf.cell (o:=o) hs
 exact ⟨(k 0).trans f0,(k 1).trans f1,(k 2).trans f2,(k 3).trans f3,(k 4).trans f4,(k 5).trans f5,(k 6).trans f6,(k 7).trans f7,(k 8).trans f8,(k 9).trans f9,(k 10).trans f10,(k 11).trans f11,(k 12).trans f12,
  fun i=>(hf.frozen hs).trans (ff i),Nat.lt_of_lt_of_le lt hs.size⟩
theorem Intss.stp {w w':World} {gG:Nat} {a:Option Addr} {L:List (List Int)} (h:Intss w (Fre gG w) a L) (hs:Stp gG w w'):Intss w' (Fre gG w') a L:=
 (h.frame hs.size fun b hf _=>hf.block hs).mono fun b _ hf=>hf.stp hs
theorem LSt.unit {w w1:World} {gG n:Nat} {U:List AffQ} {f:AffQ} {a b:Option Addr} {c k:Nat} (h:LSt w gG n U) (h1:w.cell? ⟨gG,1,none⟩=some (.slice a U.length c)) (ho:OwnF w1 (gG+1) (.slice b (U.length+1) k) (U++[f]))
  (hg:w.grownBy w1 (Value.slice a U.length c).ownBlock) (hn:Next w (.slice a U.length c) (.slice b (U.length+1) k)):
  LSt (w1.setCell ⟨gG,1,none⟩ (.slice b (U.length+1) k)) gG n (U++[f])/\Stp gG w (w1.setCell ⟨gG,1,none⟩ (.slice b (U.length+1) k)):=by
 have hub:ub w gG=(Value.slice a U.length c).ownBlock:=by unfold ub;rw [h1]
 have hne:some gG ≠ (Value.slice a U.length c).ownBlock:=fun e=>by
  rw [<- hub] at e;have:=h.ub_ge e.symm;omega
 have lt1:gG < w1.heap.size:=Nat.lt_of_lt_of_le h.lt hg.size;have hblk:=hg.block gG h.lt hne;have kc:∀ o,w1.cell? ⟨gG,o,none⟩=w.cell? ⟨gG,o,none⟩:=fun o=>World.cell?_of_block hblk
 have kf:∀ o,w1.frozen? ⟨gG,o,none⟩=w.frozen? ⟨gG,o,none⟩:=fun o=>World.frozen?_of_block hblk
 have c1:(w1.setCell ⟨gG,1,none⟩ (.slice b (U.length+1) k)).cell? ⟨gG,1,none⟩=some (.slice b (U.length+1) k):=World.cell?_setCell_same _ _ _ ((kc 1).trans h1);have co:∀ o,o ≠ 1->(w1.setCell ⟨gG,1,none⟩ (.slice b (U.length+1) k)).cell? ⟨gG,o,none⟩=w.cell? ⟨gG,o,none⟩:=fun o ho=>(World.cell?_setCell_other _ _ _ _ (fun e=>ho (by cases e;rfl))).trans (kc o)
 have hgb:GBk w1 gG:=⟨⟨_,(kc 0).trans h.g0⟩,⟨_,_,_,(kc 1).trans h1⟩,⟨_,_,_,(kc 2).trans h.g2⟩,fun o ho=>(kc o).trans (h.g3 o ho)⟩
 have hoff:∀ q,q ≠ gG->(w1.setCell ⟨gG,1,none⟩ (.slice b (U.length+1) k)).heap[q]? =w1.heap[q]? :=fun q hq=>Below.heap_setCell _ _ _ _ hq
 have hr0:OwnF (w1.setCell ⟨gG,1,none⟩ (.slice b (U.length+1) k)) (gG+1) (.slice b (U++[f]).length k) (U++[f]):=by
  have e:(U++[f]).length=U.length+1:=by simp
  rw [e]
  refine ⟨?_,?_⟩
  ·obtain ⟨xs,hx,he⟩:=ho.ex
   refine ⟨xs,⟨hx.1,?_⟩,fun j x hj=>?_⟩
   ·rcases hx.2 with k | ⟨g,cap,cur,e1,k1,k2,k3⟩
    ·exact .inl k
    ·exact .inr ⟨g,cap,cur,e1,k1,(hoff g (by omega)).trans k2,k3⟩
   ·obtain ⟨p0,p1,p2,p3,h0,h1',h2,h3,h4⟩:=he j x hj;exact ⟨p0,p1,p2,p3,h0,h1',h2,h3,h4.gset hgb⟩
  ·intro g e o x hx;have:=ho.lt e;rw [cell_other (by show g ≠ gG;omega)] at hx;exact ho.al g e o x hx
 refine ⟨⟨(co 0 (by omega)).trans h.g0,⟨b,k,by rw [c1];simp,hr0⟩,(co 2 (by omega)).trans h.g2,fun o ho=>(co o (by omega)).trans (h.g3 o ho),fun o=>?_,by simpa using lt1⟩,?_⟩
 ·simp only [World.frozen?_setCell];exact (kf o).trans (h.fz o)
 ·refine ⟨hg.os,hg.tape,hg.output,by simpa using hg.size,fun q hq hq1 hq2=>(hoff q hq1).trans (hg.block q hq (fun e=>hq2 (by rw [hub];exact e.symm))),?_⟩
  have e:ub (w1.setCell ⟨gG,1,none⟩ (.slice b (U.length+1) k)) gG=(Value.slice b (U.length+1) k).ownBlock:=by unfold ub;rw [c1]
  rw [e,hub];exact hn
theorem Stp.set {gG b o:Nat} {w W:World} {u:Value} (h:Stp gG w W) (hb:w.heap.size<=b) (hne:b ≠ gG):Stp gG w (W.setCell ⟨b,o,none⟩ u):=by
 have e:ub (W.setCell ⟨b,o,none⟩ u) gG=ub W gG:=by
  unfold ub;rw [cell_other (by exact fun e=>hne e.symm)]
 refine ⟨h.os,h.tape,h.output,by simpa using h.size,fun k hk h1 h2=>?_,by rw [e];exact h.next⟩
 exact (Below.heap_setCell _ _ _ _ (show k ≠ b by omega)).trans (h.block k hk h1 h2)
theorem LSt.set {gG n b o:Nat} {U:List AffQ} {w:World} {u:Value} (h:LSt w gG n U) (hf:Fre gG w b) (hb:AllB isBS w b):LSt (w.setCell ⟨b,o,none⟩ u) gG n U:=by
 have hne:gG ≠ b:=fun e=>hf.ne e.symm
 obtain ⟨g0,⟨a,c,h1,ho⟩,g2,g3,fz,lt⟩:=h;have k:∀ q,(w.setCell ⟨b,o,none⟩ u).cell? ⟨gG,q,none⟩=w.cell? ⟨gG,q,none⟩:=fun q=>cell_other (by exact hne)
 have hub:∀ g,(Value.slice a U.length c).ownBlock=some g->g ≠ b:=fun g e e2=>hf.nu (by unfold ub;rw [h1];subst e2;exact e)
 refine ⟨(k 0).trans g0,⟨a,c,(k 1).trans h1,⟨?_,?_⟩⟩,(k 2).trans g2,fun q hq=>(k q).trans (g3 q hq),fun q=>by simp only [World.frozen?_setCell];exact fz q,by simpa using lt⟩
 ·obtain ⟨xs,hx,he⟩:=ho.ex
  refine ⟨xs,⟨hx.1,?_⟩,fun j x hj=>?_⟩
  ·rcases hx.2 with k | ⟨g,cap,cur,e1,k1,k2,k3⟩
   ·exact .inl k
   ·exact .inr ⟨g,cap,cur,e1,k1,(Below.heap_setCell _ _ _ _ (hub g (by rw [e1];rfl))).trans k2,k3⟩
  ·obtain ⟨p0,p1,p2,p3,h0,h1',h2,h3,h4⟩:=he j x hj;exact ⟨p0,p1,p2,p3,h0,h1',h2,h3,h4.setCell hb o u⟩
 ·intro g e q x hx;rw [cell_other (by exact hub g e)] at hx;exact ho.al g e q x hx
theorem Fre.set {gG b c o:Nat} {w:World} {u:Value} (h:Fre gG w b) (hne:c ≠ gG):Fre gG (w.setCell ⟨c,o,none⟩ u) b:=by
 refine ⟨by simpa using h.lt,h.ne,?_⟩
 have e:ub (w.setCell ⟨c,o,none⟩ u) gG=ub w gG:=by
  unfold ub;rw [cell_other (by exact fun e=>hne e.symm)]
 rw [e];exact h.nu
theorem LSt.store4 {gG n b:Nat} {U:List AffQ} {w:World} {p0 p1 p2 p3:Value} (h:LSt w gG n U) (hf:Fre gG w b) (hb:AllB isBS w b) (hp:isBS p0=true/\isBS p1=true/\isBS p2=true/\isBS p3=true):
  LSt ((((w.setCell ⟨b,0,none⟩ p0).setCell ⟨b,1,none⟩ p1).setCell ⟨b,2,none⟩ p2).setCell ⟨b,3,none⟩ p3) gG n U:=
 (((h.set (o:=0) (u:=p0) hf hb).set (hf.set hf.ne) (hb.setCell 0 p0 hp.1)).set ((hf.set hf.ne).set hf.ne) ((hb.setCell 0 p0 hp.1).setCell 1 p1 hp.2.1)).set (((hf.set hf.ne).set hf.ne).set hf.ne) (((hb.setCell 0 p0 hp.1).setCell 1 p1 hp.2.1).setCell 2 p2 hp.2.2.1)
theorem Stp.store4 {gG b:Nat} {w W:World} {p0 p1 p2 p3:Value} (h:Stp gG w W) (hb:w.heap.size<=b) (hne:b ≠ gG):
  Stp gG w ((((W.setCell ⟨b,0,none⟩ p0).setCell ⟨b,1,none⟩ p1).setCell ⟨b,2,none⟩ p2).setCell ⟨b,3,none⟩ p3):=(((h.set hb hne).set hb hne).set hb hne).set hb hne
theorem LSt.unit_at {w w1:World} {gG n:Nat} {U:List AffQ} {a:Option Addr} {c:Nat} (h:LSt w gG n U) (h1:w.cell? ⟨gG,1,none⟩=some (.slice a U.length c)) (hg:w.grownBy w1 (Value.slice a U.length c).ownBlock):
  w1.cell? ⟨gG,1,none⟩=some (.slice a U.length c)/\w1.frozen? ⟨gG,1,none⟩=false/\gG < w1.heap.size:=by
 have hub:ub w gG=(Value.slice a U.length c).ownBlock:=by unfold ub;rw [h1]
 have hne:some gG ≠ (Value.slice a U.length c).ownBlock:=fun e=>by
  rw [<- hub] at e;have:=h.ub_ge e.symm;omega
 have hblk:=hg.block gG h.lt hne;exact ⟨(World.cell?_of_block hblk).trans h1,(World.frozen?_of_block hblk).trans (h.fz 1),Nat.lt_of_lt_of_le h.lt hg.size⟩
def UnAf (gG n:Nat) (w:World) (U:List AffQ) (f:AffQ) (e:Ending) (w':World):Prop:=∃ v,e=.returned v/\FormV w' v f/\LSt w' gG n U/\Stp gG w w'
theorem UnAf.ret {gG n g:Nat} {w W:World} {U:List AffQ} {f:AffQ} {p0 p1 p2 p3:Value} (h:FormV W (.agg #[p0,p1,p2,p3]) f) (hL:LSt W gG n U) (hg:AllB isBS W g) (hf:Fre gG W g) (hs:Stp gG w W) (hge:w.heap.size<=g):
  UnAf gG n w U f (.returned (.agg #[p0,p1,p2,p3])) ((((W.setCell ⟨g,0,none⟩ p0).setCell ⟨g,1,none⟩ p1).setCell ⟨g,2,none⟩ p2).setCell ⟨g,3,none⟩ p3):=by
 have hp:isBS p0=true/\isBS p1=true/\isBS p2=true/\isBS p3=true:=h.fp.bs;exact ⟨_,rfl,h.store4 hg hp,hL.store4 hf hg hp,hs.store4 hge hf.ne⟩
theorem RetAf.un {gG n:Nat} {w w':World} {U:List AffQ} {f:AffQ} {e:Ending} (h:RetAf w f e w') (hL:LSt w gG n U):UnAf gG n w U f e w':=by
 obtain ⟨v,he,hv,hb⟩:=h;exact ⟨v,he,hv,hL.below hb,Stp.of hb hL.lt⟩
theorem ABox.stp {w w':World} {gG n g:Nat} {U:List AffQ} {p0 p1 p2 p3:Value} {f:AffQ} (h:ABox w g p0 p1 p2 p3 f) (hL:LSt w gG n U) (hs:Stp gG w w') (hf:Fre gG w g):ABox w' g p0 p1 p2 p3 f:=by
 obtain ⟨⟨c0,c1,c2,c3,fz,lt⟩,al,fm⟩:=h;exact ⟨⟨(hf.cell hs).trans c0,(hf.cell hs).trans c1,(hf.cell hs).trans c2,(hf.cell hs).trans c3,by first | exact (hf.frozen hs).trans fz | exact fun i=>(hf.frozen hs).trans (fz i),Nat.lt_of_lt_of_le lt hs.size⟩,fun o x e=>al o x (by rw [hf.cell hs] at e;exact e),fm.stp hL hs⟩
theorem lUnit {w:World} {gG n:Nat} {U:List AffQ} {v:Value} {f:AffQ} (hL:LSt w gG n U) (hv:FormV w v f) (hn:n<=1000000) (hU:U.length<=1000000):
  Calls Tryz.prog 33 #[v,.pointer (some ⟨gG,0,none⟩)] w (UnAf gG n w (U++[f]) (varA (n+U.length))):=by
 obtain ⟨p0,p1,p2,p3,rfl,hF⟩:=hv.ex;have x2:=ABox.alloc hF 53;have b2:=blA w (.cells #[p0,p1,p2,p3] 53);have s2:(w.alloc (.cells #[p0,p1,p2,p3] 53)).heap.size=w.heap.size+1:=by simp
 obtain ⟨W2,hW2⟩:∃ W2,W2=w.alloc (.cells #[p0,p1,p2,p3] 53):=⟨_,rfl⟩
 rw [<- hW2] at x2 b2 s2;have x3:=ABox.alloc (zer_form W2) 53;have b3:=blA W2 (.cells #[.slice none 0 0,.bool false,.slice none 0 0,.slice none 0 0] 53);have s3:(W2.alloc (.cells #[.slice none 0 0,.bool false,.slice none 0 0,.slice none 0 0] 53)).heap.size=w.heap.size+2:=by simp [s2]
 obtain ⟨W3,hW3⟩:∃ W3,W3=W2.alloc (.cells #[.slice none 0 0,.bool false,.slice none 0 0,.slice none 0 0] 53):=⟨_,rfl⟩
 rw [<- hW3] at x3 b3 s3;rw [s2] at x3;have x22:=x2.below b3;have b3':Below w.heap.size w W3:=b2.trans (b3.mono b2.size);obtain ⟨p0',p1',p2',p3',hp⟩:∃ a n c b an nn cn ad nd cd,p0=.slice a n c/\p1=.bool b/\p2=.slice an nn cn/\p3=.slice ad nd cd:=hF.spell;obtain ⟨yan,ynn,ycn,yad,ynd,ycd,rfl,rfl,rfl,rfl⟩:=hp;have x4:=One4.form x22.fm 53;obtain ⟨HL3,HX2,HX3,HB3,HS3,HW⟩:=hd6 (hL.below b3') x22 x3 b3' s3 hW3;rw [hW2] at HW;have HO4:=hid x4;obtain ⟨a,c,hc1,ho⟩:=HL3.out.g1;have b4:=blA W3 (.cells #[.slice p0' p1' p2',.bool p3',.slice yan ynn ycn,.slice yad ynd ycd] 53);obtain ⟨HL4,HB4,HOw,HC1⟩:=hd4 (HL3.out.below b4) b4 (ho.below formK b4) ((b4.cell (p:=⟨gG,1,none⟩) HL3.out.lt).trans hc1);clear x2 x22 x3 b2 b3 s2 s3 hW2 hW3 hF hv x4 b3' b4 ho
 go_enter Tryz.func33,Tryz.ntmps33
 go_upto_region 1 with fail
 rw [<- HW.out];clear HW;obtain ⟨kx0,kx1,kx2,kx3,kf,klt⟩:=HX2.out.bx;have gfz:=HL3.out.fz 1;have glt:=HL3.out.lt;obtain ⟨HGb,HF3⟩:=hd2 (show gG+1<=(W3.alloc (.cells #[.slice p0' p1' p2',.bool p3',.slice yan ynn ycn,.slice yad ynd ycd] 53)).heap.size from by have:=HL4.out.lt;omega) (LSt.fresh (b:=w.heap.size+1) hL (w:=w) (w':=W3.alloc (.cells #[.slice p0' p1' p2',.bool p3',.slice yan ynn ycn,.slice yad ynd ycd] 53)) (HB3.out.trans (HB4.out.mono HB3.out.size)) (by omega) (by have:=HS3.out;have:=HB4.out.size;omega))
 go_upto_region 2 with (at_builtin;refine wpList_app4 (T:=53) formK (.slice none 0 0) (.bool false) (.slice none 0 0) (.slice none 0 0) 80 (by intro u hu;simp at hu;rcases hu with rfl | rfl | rfl | rfl <;> rfl) rfl (.tmp 5) (.tmp 7) 28 rfl (gG+1) Tryz.underlying28 (by kernel_rfl) (by omega) (.slice a U.length c) U.length U rfl rfl HOw.out _ f HO4.out rfl (by omega) HGb.out ?_;intro b3 k3 w3 hown hk3 hg hbe hnx;have HU:=hid (HL4.out.unit HC1.out hown hg hnx);obtain ⟨q1,q2,q3⟩:=HL4.out.unit_at HC1.out hg;clear hown hg hbe hnx)
 generalize w3.setCell ⟨gG,1,none⟩ (.slice b3 (U.length+1) k3)=w4 at *;obtain ⟨HSt,HLu,HXt,HFt⟩:=hd4 ((Stp.of (HB3.out.trans (HB4.out.mono HB3.out.size)) hL.lt).trans HU.out.2) HU.out.1 ((HX3.out.below HB4.out).stp HL4.out HU.out.2 HF3.out) (HF3.out.stp HU.out.2);clear kx0 kx1 kx2 kx3 kf klt gfz glt q1 q2 q3 HU HF3 HO4 HOw HC1 HL4 HX2 HX3 hc1 HGb HB4;obtain ⟨a4,c4,hc4,ho4⟩:=HLu.out.g1;rw [show (U++[f]).length=U.length+1 by simp] at hc4;have g0:=HLu.out.g0;have HV:=hid (lVariable w4 (n+U.length));clear ho4
 go_wp2_with fail
 have e:((n:Int)+((U.length:Int)+1) - 1)=((n+U.length:Nat):Int):=by omega
 have e2:IntKind.i64.wrap ((n+U.length:Nat):Int)=((n+U.length:Nat):Int):=IntWalk.i64_in _ (by omega);rw [e]
 refine HV.out.mono ?_
 rintro e w5 ⟨v5,rfl,hv5,hb5⟩;obtain ⟨z0,z1,z2,z3,zb,zan,znn,zcn,zad,znd,rfl⟩:=hv5.spell;obtain ⟨HL5,HS5,HX5,HF5⟩:=hd4 (HLu.out.below hb5) (HSt.out.trans (Stp.of hb5 HLu.out.lt)) (HXt.out.stp HLu.out (Stp.of hb5 HLu.out.lt) HFt.out) (HFt.out.stp (Stp.of hb5 HLu.out.lt));have HO:=hid (UnAf.ret (w:=w) hv5 HL5.out HX5.out.al HF5.out HS5.out (by omega));obtain ⟨r0,r1,r2,r3,rf,rlt⟩:=HX5.out.bx;clear hv5 hb5 HV HL5 HS5 HX5 HF5 HLu HSt HXt HFt;generalize varA (n+U.length)=R at *;go_wp2;exact bodyPost_ret (by simp [results,Tryz.results33,go_sem,r0,r1,r2,r3,rlt,Nat.ne_of_lt rlt]) rfl HO.out
inductive Su where
 | val (x:Value)
 | frm (f:AffQ)
 | onf (f:AffQ)
 | sl1 (x:Value)
def GU (gG:Nat) (L:List Su) (i:Nat) (v:Value) (w:World):Prop:=
 match L[i]? with
 | some (.val x)=>v=x
 | some (.frm f)=>FormV w v f
 | some (.onf f)=>One4 FormP w v f/\∀ b,v.ownBlock=some b->Fre gG w b
 | some (.sl1 x)=>∃ g,v=.slice (some ⟨g,0,none⟩) 1 1/\Fre gG w g/\w.cell? ⟨g,0,none⟩=some x
 | none=>True
theorem One4.stp {w w':World} {gG n:Nat} {U:List AffQ} {v:Value} {f:AffQ} (h:One4 FormP w v f) (hf:∀ b,v.ownBlock=some b->Fre gG w b) (hL:LSt w gG n U) (hs:Stp gG w w'):One4 FormP w' v f:=by
 obtain ⟨g,p0,p1,p2,p3,rfl,hg,c0,c1,c2,c3,hp⟩:=h.ex;have hf:=hf g rfl;exact ⟨g,p0,p1,p2,p3,rfl,Nat.lt_of_lt_of_le hg hs.size,(hf.cell hs).trans c0,(hf.cell hs).trans c1,(hf.cell hs).trans c2,(hf.cell hs).trans c3,hp.stp hL hs⟩
theorem GU_stp {gG n:Nat} {U:List AffQ} {L:List Su} {i:Nat} {v:Value} {w w':World} (h:GU gG L i v w) (hL:LSt w gG n U) (hs:Stp gG w w'):GU gG L i v w':=by
 unfold GU at h ⊢
 split
 ·rename_i x hx;rw [hx] at h;exact h
 ·rename_i x hx;rw [hx] at h;exact FormV.stp h hL hs
 ·rename_i x hx;rw [hx] at h;exact ⟨One4.stp h.1 h.2 hL hs,fun b e=>(h.2 b e).stp hs⟩
 ·rename_i x hx;rw [hx] at h;obtain ⟨g,e,k1,k2⟩:=h;exact ⟨g,e,k1.stp hs,(k1.cell hs).trans k2⟩
 ·trivial
structure AllU (gG n:Nat) (W1:World) (U U':List AffQ) (j:Nat) (L:List Su) (d:Nat->Bool) (g:Nat->Value) (W:World):Prop where
 st:Stp gG W1 W
 un:LSt W gG n (if d j=true then U' else U)
 all:∀ i,d i=true->GU gG L i (g i) W
theorem AllU.start {gG n:Nat} {W1:World} {U U':List AffQ} {j:Nat} {L:List Su} (h:LSt W1 gG n U) (g:Nat->Value):AllU gG n W1 U U' j L (fun _=>false) g W1.drew:=
 ⟨Stp.of (Below.refl _ _).drew h.lt,by simpa using h.below (Below.refl _ _).drew,fun _ h=>by cases h⟩
theorem mark_ne {d:Nat->Bool} {i j:Nat} (h:j ≠ i):mark d i j=d j:=by unfold mark;rw [if_neg h]
theorem AllU.step {gG n:Nat} {W1:World} {U U':List AffQ} {j:Nat} {L:List Su} {d:Nat->Bool} {g:Nat->Value} {W W':World} {i:Nat} {v:Value} (h:AllU gG n W1 U U' j L d g W) (hi:j ≠ i) (hb:Below W.heap.size W W') (hv:GU gG L i v W'):AllU gG n W1 U U' j L (mark d i) (upd g i v) W':=by
 have hs:=Stp.of hb h.un.lt
 refine ⟨h.st.trans hs,by rw [mark_ne hi];exact h.un.below hb,fun k hk=>?_⟩
 unfold upd
 by_cases e:k=i
 ·subst e;rw [if_pos rfl];exact hv
 ·rw [if_neg e];rw [mark_ne e] at hk;exact GU_stp (h.all k hk) h.un hs
theorem AllU.here {gG n:Nat} {W1:World} {U U':List AffQ} {j:Nat} {L:List Su} {d:Nat->Bool} {g:Nat->Value} {W:World} {i:Nat} {v:Value} (h:AllU gG n W1 U U' j L d g W) (hi:j ≠ i) (hv:GU gG L i v W):AllU gG n W1 U U' j L (mark d i) (upd g i v) W:=h.step hi (Below.refl _ _) hv
theorem AllU.unit {gG n:Nat} {W1:World} {U U':List AffQ} {j:Nat} {L:List Su} {d:Nat->Bool} {g:Nat->Value} {W W':World} {v:Value} (h:AllU gG n W1 U U' j L d g W) (hL:LSt W' gG n U') (hs:Stp gG W W') (hv:GU gG L j v W'):AllU gG n W1 U U' j L (mark d j) (upd g j v) W':=by
 refine ⟨h.st.trans hs,by rw [if_pos (by unfold mark;simp)];exact hL,fun k hk=>?_⟩
 unfold upd
 by_cases e:k=j
 ·subst e;rw [if_pos rfl];exact hv
 ·rw [if_neg e];rw [mark_ne e] at hk;exact GU_stp (h.all k hk) h.un hs
theorem AllU.old {gG n:Nat} {W1:World} {U U':List AffQ} {j:Nat} {L:List Su} {d:Nat->Bool} {g:Nat->Value} {W:World} (h:AllU gG n W1 U U' j L d g W) (hd:d j=false):LSt W gG n U:=by
 have:=h.un
 rwa [if_neg (by rw [hd];simp)] at this
theorem AllU.new {gG n:Nat} {W1:World} {U U':List AffQ} {j:Nat} {L:List Su} {d:Nat->Bool} {g:Nat->Value} {W:World} (h:AllU gG n W1 U U' j L d g W) (hd:d j=true):LSt W gG n U':=by
 have:=h.un
 rwa [if_pos hd] at this
theorem AllU.same {gG n:Nat} {W1:World} {U:List AffQ} {j:Nat} {L:List Su} {d:Nat->Bool} {g:Nat->Value} {W:World} (h:AllU gG n W1 U U j L d g W):LSt W gG n U:=by
 have:=h.un
 rwa [ite_self] at this
end Go.Proofs.YtfgmmghmmfmdgaaGreat
