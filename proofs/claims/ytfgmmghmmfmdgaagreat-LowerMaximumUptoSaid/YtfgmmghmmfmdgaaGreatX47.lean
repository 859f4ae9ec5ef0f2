/-
  Contracts of the functions that the statement reaches: LwD, LqA, LqB0, LqB, LqD, RiG, RjB.
-/
import Derived.Test.YtfgmmghmmfmdgaaGreatX46
set_option linter.all false
set_option maxRecDepth 100000
set_option maxHeartbeats 3200000
namespace Go.Proofs.YtfgmmghmmfmdgaaGreat
open Go.RowKit
open Go.Lib (hid)
theorem rats2_alloc {w:World} {p q:RatL} {an ad bn bd:Option Addr} {cn cd dn dd:Nat} (b2:p.num.length<=cn) (b3:p.den.length<=cd) (b4:U32s w an p.num) (b5:U32s w ad p.den) (g2:q.num.length<=dn) (g3:q.den.length<=dd) (g4:U32s w bn q.num) (g5:U32s w bd q.den) (T:Nat):
  RatsAt (w.alloc (.cells #[.bool p.neg,.slice an p.num.length cn,.slice ad p.den.length cd,.bool q.neg,.slice bn q.num.length dn,.slice bd q.den.length dd] T)) (some ⟨w.heap.size,0,none⟩) [p,q]:=by
 have hal:=blA w (.cells #[.bool p.neg,.slice an p.num.length cn,.slice ad p.den.length cd,.bool q.neg,.slice bn q.num.length dn,.slice bd q.den.length dd] T)
 refine ⟨by simp,.inr ⟨w.heap.size,0,rfl,by simp,fun j x hj=>?_⟩⟩
 match j,hj with
 | 0,hj=>
  simp at hj;subst hj;exact ⟨an,ad,cn,cd,by rw [World.cell?_alloc_at _ _ _ _ rfl];rfl,by rw [World.cell?_alloc_at _ _ _ _ rfl];rfl,by rw [World.cell?_alloc_at _ _ _ _ rfl];rfl,⟨an,ad,cn,cd,rfl,b2,b3,b4.below hal,b5.below hal⟩⟩
 | 1,hj=>
  simp at hj;subst hj;exact ⟨bn,bd,dn,dd,by rw [World.cell?_alloc_at _ _ _ _ rfl];rfl,by rw [World.cell?_alloc_at _ _ _ _ rfl];rfl,by rw [World.cell?_alloc_at _ _ _ _ rfl];rfl,⟨bn,bd,dn,dd,rfl,g2,g3,g4.below hal,g5.below hal⟩⟩
theorem rats1_alloc {w:World} {p:RatL} {an ad:Option Addr} {cn cd:Nat} (b2:p.num.length<=cn) (b3:p.den.length<=cd) (b4:U32s w an p.num) (b5:U32s w ad p.den) (T:Nat):
  RatsAt (w.alloc (.cells #[.bool p.neg,.slice an p.num.length cn,.slice ad p.den.length cd] T)) (some ⟨w.heap.size,0,none⟩) [p]:=by
 have hal:=blA w (.cells #[.bool p.neg,.slice an p.num.length cn,.slice ad p.den.length cd] T)
 refine ⟨by simp,.inr ⟨w.heap.size,0,rfl,by simp,fun j x hj=>?_⟩⟩
 match j,hj with
 | 0,hj=>
  simp at hj;subst hj;exact ⟨an,ad,cn,cd,by rw [World.cell?_alloc_at _ _ _ _ rfl];rfl,by rw [World.cell?_alloc_at _ _ _ _ rfl];rfl,by rw [World.cell?_alloc_at _ _ _ _ rfl];rfl,⟨an,ad,cn,cd,rfl,b2,b3,b4.below hal,b5.below hal⟩⟩
theorem ex_mem {w w1 w2:World} {p q:RatL} {an ad bn bd:Option Addr} {cn cd dn dd:Nat} (hp:p=ratL 1) (hq:q=ratL (-1)) (kb1:Below (w.alloc (.cells #[.int .i64 2] 3)).heap.size (w.alloc (.cells #[.int .i64 2] 3)) w1) (kb2:Below w1.heap.size w1 w2)
  (b2:p.num.length<=cn) (b3:p.den.length<=cd) (b4:U32s w1 an p.num) (b5:U32s w1 ad p.den) (g2:q.num.length<=dn) (g3:q.den.length<=dd) (g4:U32s w2 bn q.num) (g5:U32s w2 bd q.den) {A:World}
  (hA:A=((((w2.alloc (.cells #[.bool p.neg,.slice an p.num.length cn,.slice ad p.den.length cd,.bool q.neg,.slice bn q.num.length dn,.slice bd q.den.length dd] 51)).alloc (zerO 51)).alloc
   (.cells #[.int .i64 1,.int .i64 0,.int .i64 1,.int .i64 0,.int .i64 0,.int .i64 0,.int .i64 0,.slice (some ⟨w2.heap.size,0,none⟩) 2 2,.slice (some ⟨w2.heap.size+1,0,none⟩) 1 1,.int .i64 5,.int .i64 0,.int .i64 0,.int .i64 0,.int .i64 0,.int .i64 0,.int .i64 0,.slice none 0 0,.slice none 0 0] 44)).alloc
   (.cells #[.slice (some ⟨w.heap.size,0,none⟩) 1 1,.slice (some ⟨w2.heap.size+1+1,0,none⟩) 2 2] 25))):
  Ints A Any (some ⟨w.heap.size,0,none⟩) [2]/\LaysAt A (some ⟨w2.heap.size+1+1,0,none⟩) [exD,exR]/\A.cell? ⟨w2.heap.size+1+1+1,0,none⟩=some (.slice (some ⟨w.heap.size,0,none⟩) 1 1)/\A.cell? ⟨w2.heap.size+1+1+1,1,none⟩=some (.slice (some ⟨w2.heap.size+1+1,0,none⟩) 2 2)/\
   w2.heap.size+1+1+1 < A.heap.size/\Below w.heap.size w A:=by
 have hst:=fun (W:World) (o:Obj)=>(Below.refl W.heap.size W).alloc (Nat.le_refl _) o
 have hW:=rats2_alloc b2 b3 (b4.below kb2) (b5.below kb2) g2 g3 g4 g5 51;have m1:=hst w2 (.cells #[.bool p.neg,.slice an p.num.length cn,.slice ad p.den.length cd,.bool q.neg,.slice bn q.num.length dn,.slice bd q.den.length dd] 51);have s1:(w2.alloc (.cells #[.bool p.neg,.slice an p.num.length cn,.slice ad p.den.length cd,.bool q.neg,.slice bn q.num.length dn,.slice bd q.den.length dd] 51)).heap.size=w2.heap.size+1:=by simp
 generalize w2.alloc (.cells #[.bool p.neg,.slice an p.num.length cn,.slice ad p.den.length cd,.bool q.neg,.slice bn q.num.length dn,.slice bd q.den.length dd] 51)=A1 at *;have hZ:=rats1_alloc (w:=A1) (p:=⟨false,[],[]⟩) (an:=none) (ad:=none) (cn:=0) (cd:=0) (Nat.le_refl _) (Nat.le_refl _) (U32s.nil _ _) (U32s.nil _ _) 51;have m2:=hst A1 (zerO 51);have s2:(A1.alloc (zerO 51)).heap.size=w2.heap.size+1+1:=by simp [s1]
 simp only [List.length_nil] at hZ;generalize A1.alloc (zerO 51)=A2 at *;have m3:=hst A2 (.cells #[.int .i64 1,.int .i64 0,.int .i64 1,.int .i64 0,.int .i64 0,.int .i64 0,.int .i64 0,.slice (some ⟨w2.heap.size,0,none⟩) 2 2,.slice (some ⟨w2.heap.size+1,0,none⟩) 1 1,.int .i64 5,.int .i64 0,.int .i64 0,.int .i64 0,.int .i64 0,.int .i64 0,.int .i64 0,.slice none 0 0,.slice none 0 0] 44);have hc:∀ i v,(#[.int .i64 1,.int .i64 0,.int .i64 1,.int .i64 0,.int .i64 0,.int .i64 0,.int .i64 0,.slice (some ⟨w2.heap.size,0,none⟩) 2 2,.slice (some ⟨w2.heap.size+1,0,none⟩) 1 1,.int .i64 5,.int .i64 0,.int .i64 0,.int .i64 0,.int .i64 0,.int .i64 0,.int .i64 0,.slice none 0 0,.slice none 0 0]:Array Value)[i]? =some v->
   (A2.alloc (.cells #[.int .i64 1,.int .i64 0,.int .i64 1,.int .i64 0,.int .i64 0,.int .i64 0,.int .i64 0,.slice (some ⟨w2.heap.size,0,none⟩) 2 2,.slice (some ⟨w2.heap.size+1,0,none⟩) 1 1,.int .i64 5,.int .i64 0,.int .i64 0,.int .i64 0,.int .i64 0,.int .i64 0,.int .i64 0,.slice none 0 0,.slice none 0 0] 44)).cell? ⟨w2.heap.size+1+1,i,none⟩=some v:=by
  intro i v h;rw [World.cell?_alloc_at _ _ _ _ s2.symm];exact h
 have s3:(A2.alloc (.cells #[.int .i64 1,.int .i64 0,.int .i64 1,.int .i64 0,.int .i64 0,.int .i64 0,.int .i64 0,.slice (some ⟨w2.heap.size,0,none⟩) 2 2,.slice (some ⟨w2.heap.size+1,0,none⟩) 1 1,.int .i64 5,.int .i64 0,.int .i64 0,.int .i64 0,.int .i64 0,.int .i64 0,.int .i64 0,.slice none 0 0,.slice none 0 0] 44)).heap.size=w2.heap.size+1+1+1:=by simp [s2]
 generalize A2.alloc (.cells #[.int .i64 1,.int .i64 0,.int .i64 1,.int .i64 0,.int .i64 0,.int .i64 0,.int .i64 0,.slice (some ⟨w2.heap.size,0,none⟩) 2 2,.slice (some ⟨w2.heap.size+1,0,none⟩) 1 1,.int .i64 5,.int .i64 0,.int .i64 0,.int .i64 0,.int .i64 0,.int .i64 0,.int .i64 0,.slice none 0 0,.slice none 0 0] 44)=A3 at *;have m4:=hst A3 (.cells #[.slice (some ⟨w.heap.size,0,none⟩) 1 1,.slice (some ⟨w2.heap.size+1+1,0,none⟩) 2 2] 25);have hb2:=Box2.alloc A3 (.slice (some ⟨w.heap.size,0,none⟩) 1 1) (.slice (some ⟨w2.heap.size+1+1,0,none⟩) 2 2) 25;rw [<- hA] at m4 hb2;rw [s3] at hb2;have hi:=ints1_of (x:=2) (by unfold I64;omega) (show (w.alloc (.cells #[.int .i64 2] 3)).cell? ⟨w.heap.size,0,none⟩=some (.int .i64 2) by rw [World.cell?_alloc_at _ _ _ _ rfl];rfl) (by simp);have t1:=kb1.trans (kb2.mono kb1.size);have t2:=t1.trans (m1.mono t1.size);have t3:=t2.trans (m2.mono t2.size);have t4:=t3.trans (m3.mono t3.size);have t5:=t4.trans (m4.mono t4.size);have u0:=hst w (.cells #[.int .i64 2] 3)
 refine ⟨hi.below t5,⟨by simp,.inr ⟨_,0,rfl,by have:=m4.size;omega,fun j x hj=>?_⟩⟩,hb2.c0,hb2.c1,hb2.lt,u0.trans (t5.mono u0.size)⟩
 have r34:∀ i v,A3.cell? ⟨w2.heap.size+1+1,i,none⟩=some v->A.cell? ⟨w2.heap.size+1+1,i,none⟩=some v:=fun i v h=>(m4.cell (p:=⟨w2.heap.size+1+1,i,none⟩) (by show w2.heap.size+1+1 < A3.heap.size;omega)).trans h
 match j,hj with
 | 0,hj=>
  simp at hj;subst hj
  refine ⟨some ⟨w2.heap.size,0,none⟩,some ⟨w2.heap.size+1,0,none⟩,2,1,⟨r34 _ _ (hc 0 _ rfl),r34 _ _ (hc 1 _ rfl),r34 _ _ (hc 2 _ rfl),r34 _ _ (hc 3 _ rfl),r34 _ _ (hc 4 _ rfl),r34 _ _ (hc 5 _ rfl),r34 _ _ (hc 6 _ rfl),r34 _ _ (hc 7 _ rfl),r34 _ _ (hc 8 _ rfl)⟩,?_,?_⟩
  ·show RatsAt _ _ [ratL 1,ratL (-1)]
   rw [<- hp, <- hq];exact ((hW.below m2).below m3).below m4
  ·show RatsAt _ _ [ratL 0]
   rw [ratL_zeroE];rw [s1] at hZ;exact (hZ.below m3).below m4
 | 1,hj=>
  simp at hj;subst hj;exact ⟨none,none,0,0,⟨r34 _ _ (hc 9 _ rfl),r34 _ _ (hc 10 _ rfl),r34 _ _ (hc 11 _ rfl),r34 _ _ (hc 12 _ rfl),r34 _ _ (hc 13 _ rfl),r34 _ _ (hc 14 _ rfl),r34 _ _ (hc 15 _ rfl),r34 _ _ (hc 16 _ rfl),r34 _ _ (hc 17 _ rfl)⟩,⟨by simp [exR],.inl rfl⟩,⟨by simp [exR],.inl rfl⟩⟩
theorem kLittle16 {w:World} {a:Option Addr} {L:List RatL} (c:Nat) (h:RatsAt w a L) (hL:∀ x ∈ L,RatLe x 1048576):
  Calls Tryz.prog 15 #[.slice a L.length c] w fun e w'=>e=.returned (.bool (littleL L))/\Below w.heap.size w w':=by
 have q1:=h.len;obtain ⟨H,HV⟩:=hd2 h (r3ValidAll c h hL);generalize hR:littleL L=R;unfold littleL at hR;have HR:=hid hR;clear h hL hR
 go_enter Tryz.func15,Tryz.ntmps15
 go_wp2
 go_loopw [3] (fun i wr=>∃ j:Nat,j<=L.length/\i=.int .i64 (j:Int)/\Hid ((L.take j).all smallR=true)/\Hid (w=wr)) (fun i _=>L.length - (intOf i).toNat)
 case atStart=>exact ⟨0,Nat.zero_le _,rfl,rfl,rfl⟩
 case round=>
  obtain ⟨j,hj,rfl,HA,HW⟩:=hrel;have ew:=HW.out;clear HW;subst ew
  by_cases hlt:j < L.length
  ·obtain ⟨b,off,x,an,ad,cn,cd,rfl,hb,hx,x0,x1,x2,hv⟩:=H.out.pick hlt;obtain ⟨HT,HM⟩:=hd2 (allR_take hx) (List.mem_of_getElem? hx);clear hx hv
   by_cases g1:x.num.length<=2
   ·by_cases g2:x.den.length<=1
    ·have HA2:Hid ((L.take (j+1)).all smallR=true):=by unfold Hid;rw [HT.out,HA.out];unfold smallR;rw [decide_eq_true g1,decide_eq_true g2];rfl
     go_wp2;go_roundw
     case rel=>exact ⟨j+1,hlt,by go_num,HA2.out,by first | rfl | exact True.intro⟩
     case measure=>simp [intOf];omega
    ·have HF:Hid (R=false):=by
      unfold Hid;have:L.all smallR=false:=by rw [List.all_eq_false];exact ⟨x,HM.out,by simp [smallR,g2]⟩
      rw [<- HR.out,this];rfl
     go_wp2;go_ret;exact ⟨ret_bool HF.out.symm,Below.refl _ _⟩
   ·have HF:Hid (R=false):=by
     unfold Hid;have:L.all smallR=false:=by rw [List.all_eq_false];exact ⟨x,HM.out,by simp [smallR,g1]⟩
     rw [<- HR.out,this];rfl
    go_wp2;go_ret;exact ⟨ret_bool HF.out.symm,Below.refl _ _⟩
  ·obtain rfl:j=L.length:=by omega
   have HE:Hid (L.all validR=R):=by
    have:=HA.out;rw [List.take_length] at this;unfold Hid;rw [<- HR.out,this];rfl
   go_wp2_with fail
   refine HV.out.mono ?_
   rintro e w' ⟨rfl,hb⟩;have HB:=hid hb;clear hb;rw [HE.out];go_wp2;go_ret;exact ⟨rfl,HB.out⟩
theorem ext_form {f g:AffQ} (hf:f.Can) (hg:g.Can) (hc:f.c=g.c) (ht:∀ v,coefT f.ts v=coefT g.ts v):f=g:=by
 have h:f.ts=g.ts:=by
  have h1:=addT_of (k:=0) (f:=f.ts) (g:=[]) (l:=f.ts) hf (fun v=>by show _=_+0 * 0;grind);have h2:=addT_of (k:=0) (f:=f.ts) (g:=[]) (l:=g.ts) hg (fun v=>by rw [ht];show _=_+0 * 0;grind);rw [h1,h2]
 cases f;cases g;simp only at h hc;subst h hc;rfl
theorem ex_sum:addA 1 (addA 1 (numA 0) (scA 1 (varA 0))) (scA (-1) (varA 1))=addA (-1) (varA 0) (varA 1):=by
 refine ext_form (addA_can _ _ _) (addA_can _ _ _) (by decide+kernel) (fun v=>?_)
 show coefT (addT 1 (addT 1 [] (addT 1 [] [(0,1)])) (addT (-1) [] [(1,1)])) v=coefT (addT (-1) [(0,1)] [(1,1)]) v
 rw [addT_coef,addT_coef,addT_coef,addT_coef,addT_coef];show (0+1 * (0+1 * coefT [(0,1)] v))+1 * (0+ -1 * coefT [(1,1)] v)=coefT [(0,1)] v+ -1 * coefT [(1,1)] v
 grind
theorem wq_exD:wq exD=[1, -1]:=by simp [wq,exD,ratOf_ratL]
theorem bq_exD:bq exD=[0]:=by simp [bq,exD,ratOf_ratL]
theorem dense_ex (W B:List Rat) (hW:W=[1, -1]) (hB:B=[0]) (n:Nat) (hn:n=1) (X:List AffQ) (hX:X=[varA 0,varA 1]):
  ((List.range n).map fun r=>sumF (B.getD r 0) (partL W (r * X.length) X.length) 0 (iotaZ X.length) X X.length)=[addA (-1) (varA 0) (varA 1)]:=by
 subst hW;subst hB;subst hn;subst hX;show [addA 1 (addA 1 (numA 0) (scA 1 (varA 0))) (scA (-1) (varA 1))]=_
 rw [ex_sum]
theorem ex_dense (s:List Int) (fr:List AffQ):lowLay 2 [] exD s (varsF 2) fr=([],[addA (-1) (varA 0) (varA 1)]):=by
 unfold lowLay;rw [if_pos (show exD.kind=1 from rfl)];rw [dense_ex _ _ wq_exD bq_exD exD.out.toNat rfl (varsF 2) rfl]
theorem exM_lower:lowerL exM=(⟨2,[addA (-1) (varA 0) (varA 1)],[varA 2]⟩,0):=by
 unfold lowerL;rw [exM_shapes];rw [if_pos rfl,if_neg (by decide+kernel)];have hs:(sizeL exM.input).toNat=2:=by decide+kernel
 rw [hs];have hf:lowFrom 2 exM.input (varsF 2) [] [] [] exM.layers=([addA (-1) (varA 0) (varA 1)],[[addA (-1) (varA 0) (varA 1)],[varA 2]]):=by
  show lowFrom 2 [2] (varsF 2) [] [] [] [exD,exR]=_
  unfold lowFrom;rw [exD_out];rw [show lowLay 2 [] exD (currL [2] []) (currF (varsF 2) []) (fromF (varsF 2) [] exD.frm)=([],[addA (-1) (varA 0) (varA 1)]) from ex_dense _ _];unfold lowFrom;rw [show ([]++[(([1],0):List Int × Int).1])=[[1]] from rfl,exR_out];unfold lowFrom;rfl
 rw [hf];rfl
theorem exM_small:∀ l ∈ exM.layers,SmallL l:=by
 have s1:smallR (ratL 1)=true:=by rw [ratL_one];rfl
 exact (fair_paid (exM_fair 1 1 s1 s1)).sm
theorem bd_var (v N:Nat) (h:v < N):BdF 1 1 N (varA v):=by
 have h0:Bd 1 1 (0:Rat):=Bd.zero (by omega);have h1:Bd 1 1 (1:Rat):=⟨by omega,1,by rw [Rat.mkRat_one];rfl,by decide⟩
 refine ⟨varA_can v,?_,h0,fun u=>?_⟩
 ·show topT [(v,1)]<=N
  unfold topT
  first | exact h | (simp [topT];omega)
 ·show Bd 1 1 (coefT [(v,1)] u)
  unfold coefT
  split
  ·exact h1
  ·exact h0
theorem pow_gt3 (n:Nat) (h:1<=n):3 < 4294967296^n:=Nat.lt_of_lt_of_le (show 3 < 4294967296^1 by decide) (Nat.pow_le_pow_right (by omega) h)
theorem pay_12:Pay 1 (1+1):=by
 unfold Pay;generalize hE:(524285:Nat)=E;have h1:1<=E:=by omega
 clear hE;exact pow_gt3 E h1
theorem low_ex {a:Array Value} {W:World} (h:Calls Tryz.prog 12 a W (LowPost W (lowerL exM))):
  Calls Tryz.prog 12 a W (fun e w'=>∃ v,e=.returned (.tuple #[v,.int .i64 0])/\GraphV w' v ⟨2,[addA (-1) (varA 0) (varA 1)],[varA 2]⟩/\Below W.heap.size W w'):=by
 rw [exM_lower] at h;exact h.mono fun e w' h=>h
theorem awake16 (w:World):Calls Tryz.prog 10 #[] w fun e w'=>e=.returned (.bool true)/\Below w.heap.size w w':=by
 have hOf1:∀ W,Calls Tryz.prog 27 #[.int .i64 1] W (RetR W (ratL 1)):=fun W=>r3Of W 1 (by omega) (by omega)
 have hOfm:∀ W,Calls Tryz.prog 27 #[.int .i64 (-1)] W (RetR W (ratL (-1))):=fun W=>r3Of W (-1) (by omega) (by omega)
 go_enter Tryz.func10,Tryz.ntmps10
 go_wp2_with fail
 refine (hOf1 _).mono ?_
 rintro e w1 ⟨v1,rfl,kv1,kb1⟩
 go_wp2_with fail
 refine (hOfm _).mono ?_
 rintro e w2 ⟨v2,rfl,kv2,kb2⟩;obtain ⟨p,hp⟩:∃ p,p=ratL 1:=⟨_,rfl⟩
 obtain ⟨q,hq⟩:∃ q,q=ratL (-1):=⟨_,rfl⟩
 rw [<- hp] at kv1;rw [<- hq] at kv2;obtain ⟨an,ad,cn,cd,rfl,b2,b3,b4,b5⟩:=kv1.ex;obtain ⟨bn,bd,dn,dd,rfl,g2,g3,g4,g5⟩:=kv2.ex;obtain ⟨hp1,hq1,HB1,HB2,HP4,HP5⟩:=hd6 hp hq kb1 kb2 b4 b5;obtain ⟨HG4,HG5⟩:=hd2 g4 g5;clear hp hq kv1 kv2 kb1 kb2 b4 b5 g4 g5
 go_upto_region 2 with fail
 generalize hAe:(((w2.alloc (.cells #[.bool p.neg,.slice an p.num.length cn,.slice ad p.den.length cd,.bool q.neg,.slice bn q.num.length dn,.slice bd q.den.length dd] 51)).alloc (zerO 51)).alloc
   (.cells #[.int .i64 1,.int .i64 0,.int .i64 1,.int .i64 0,.int .i64 0,.int .i64 0,.int .i64 0,.slice (some ⟨w2.heap.size,0,none⟩) 2 2,.slice (some ⟨w2.heap.size+1,0,none⟩) 1 1,.int .i64 5,.int .i64 0,.int .i64 0,.int .i64 0,.int .i64 0,.int .i64 0,.int .i64 0,.slice none 0 0,.slice none 0 0] 44)).alloc
   (.cells #[.slice (some ⟨w.heap.size,0,none⟩) 1 1,.slice (some ⟨w2.heap.size+1+1,0,none⟩) 2 2] 25)=W1
 obtain ⟨hi,hla,hc0,hc1,hlt,hbe⟩:=ex_mem hp1.out hq1.out HB1.out HB2.out b2 b3 HP4.out HP5.out g2 g3 HG4.out HG5.out hAe.symm;obtain ⟨FS,hFS⟩:∃ FS,FS=addA (-1) (varA 0) (varA 1):=⟨_,rfl⟩
 have hLow:Calls Tryz.prog 12 #[.agg #[.slice (some ⟨w.heap.size,0,none⟩) 1 1,.slice (some ⟨w2.heap.size+1+1,0,none⟩) 2 2]] W1 (fun e w'=>∃ v,e=.returned (.tuple #[v,.int .i64 0])/\GraphV w' v ⟨2,[FS],[varA 2]⟩/\Below W1.heap.size W1 w'):=by
  rw [hFS];exact low_ex (lLower (m:=exM) 1 2 hi hla exM_range exM_le exM_small (by decide))
 obtain ⟨HLow,HBe⟩:=hd2 hLow hbe;have HSu:Hid (∀ X v u,FormV X v (varA 0)->FormV X u (varA 1)->Calls Tryz.prog 28 #[v,u] X (RetAf X FS)):=fun X v u h1 h2=>by
  rw [hFS];exact r7Sub h1 h2 (bd_var 0 2 (by omega)) (bd_var 1 2 (by omega)) pay_12 (by omega)
 have HV:Hid (∀ X (v:Nat),Calls Tryz.prog 22 #[.int .i64 (v:Int)] X (RetAf X (varA v))):=fun X v=>r16Var X v
 have HFS:=hid hFS;clear hi hla hbe hAe HP4 HP5 HG4 HG5 HB1 HB2 hLow hFS
 go_wp2_with fail
 refine HLow.out.mono ?_
 rintro e wl ⟨v,rfl,hg,hb⟩;obtain ⟨aU,cU,aO,cO,rfl,hcU,hcO,hU,hO⟩:=hg.ex;simp only [List.length_cons,List.length_nil,Nat.zero_add] at hcU hcO;obtain ⟨bU,oU,fU,u0,u1,u2,u3,rfl,hbU,hxU,cu0,cu1,cu2,cu3,hvU⟩:=hU.pick (k:=0) (by simp);obtain ⟨bO,oO,fO,o0,o1,o2,o3,rfl,hbO,hxO,co0,co1,co2,co3,hvO⟩:=hO.pick (k:=0) (by simp);obtain rfl:FS=fU:=by simpa using hxU
 obtain rfl:varA 2=fO:=by simpa using hxO
 rw [Nat.zero_mul,Nat.add_zero] at cu0 cu1 cu2 cu3 co0 co1 co2 co3;obtain ⟨ua,un,uc,ub,uan,unn,ucn,uad,und,ucd,rfl,rfl,rfl,rfl⟩:=hvU.spell;obtain ⟨oa,on,oc,ob,oan,onn,ocn,oad,ond,ocd,rfl,rfl,rfl,rfl⟩:=hvO.spell;obtain ⟨HUv,HOv⟩:=hd2 hvU.val hvO.val;have HBl:=htr HBe hb;have hal:=blA wl (.cells #[.int .i64 2,.slice (some ⟨bU,oU,none⟩) 1 cU,.slice (some ⟨bO,oO,none⟩) 1 cO] 30);have hbx:=Box3.alloc wl (.int .i64 2) (.slice (some ⟨bU,oU,none⟩) 1 cU) (.slice (some ⟨bO,oO,none⟩) 1 cO) 30;obtain ⟨W3,hW3⟩:∃ W3,W3=wl.alloc (.cells #[.int .i64 2,.slice (some ⟨bU,oU,none⟩) 1 cU,.slice (some ⟨bO,oO,none⟩) 1 cO] 30):=⟨_,rfl⟩
 rw [<- hW3] at hal hbx;obtain ⟨gB,hgB⟩:∃ gB,gB=wl.heap.size:=⟨_,rfl⟩
 rw [<- hgB] at hbx;have hlU:=hal.size;have HCe:Hid (∀ X,Below W3.heap.size W3 X->X.cell? ⟨gB,0,none⟩=some (.int .i64 2)/\X.cell? ⟨gB,1,none⟩=some (.slice (some ⟨bU,oU,none⟩) 1 cU)/\X.cell? ⟨gB,2,none⟩=some (.slice (some ⟨bO,oO,none⟩) 1 cO)/\gB < X.heap.size/\
   X.cell? ⟨bU,oU,none⟩=some (.slice ua un uc)/\X.cell? ⟨bU,oU+1,none⟩=some (.bool ub)/\X.cell? ⟨bU,oU+2,none⟩=some (.slice uan unn ucn)/\X.cell? ⟨bU,oU+3,none⟩=some (.slice uad und ucd)/\bU < X.heap.size/\
   X.cell? ⟨bO,oO,none⟩=some (.slice oa on oc)/\X.cell? ⟨bO,oO+1,none⟩=some (.bool ob)/\X.cell? ⟨bO,oO+2,none⟩=some (.slice oan onn ocn)/\X.cell? ⟨bO,oO+3,none⟩=some (.slice oad ond ocd)/\bO < X.heap.size):=fun X hB=>by
  have k:=hbx.below hB;have hB2:Below wl.heap.size wl X:=hal.trans (hB.mono hal.size);have hsz:=hB2.size;exact ⟨k.c0,k.c1,k.c2,k.lt,(hB2.cell hbU).trans cu0,(hB2.cell hbU).trans cu1,(hB2.cell hbU).trans cu2,(hB2.cell hbU).trans cu3,by omega,
   (hB2.cell hbO).trans co0,(hB2.cell hbO).trans co1,(hB2.cell hbO).trans co2,(hB2.cell hbO).trans co3,by omega⟩
 have HE1:Hid (∀ X,Below W3.heap.size W3 X->∀ u,FormV X u FS->Calls Tryz.prog 21 #[.agg #[.slice ua un uc,.bool ub,.slice uan unn ucn,.slice uad und ucd],u] X (fun e w'=>∃ v,e=.returned v/\v=.bool true/\Below X.heap.size X w')):=fun X hB u hu=>by
  refine (r7Equal (HUv.out.below (hal.trans (hB.mono hal.size))) hu).mono ?_
  rintro e w' ⟨rfl,hb⟩;exact ⟨_,rfl,by rw [(eqA_iff _ _).2 rfl],hb⟩
 have HE2:Hid (∀ X,Below W3.heap.size W3 X->∀ u,FormV X u (varA 2)->Calls Tryz.prog 21 #[.agg #[.slice oa on oc,.bool ob,.slice oan onn ocn,.slice oad ond ocd],u] X (fun e w'=>∃ v,e=.returned v/\v=.bool true/\Below X.heap.size X w')):=fun X hB u hu=>by
  refine (r7Equal (HOv.out.below (hal.trans (hB.mono hal.size))) hu).mono ?_
  rintro e w' ⟨rfl,hb⟩;exact ⟨_,rfl,by rw [(eqA_iff _ _).2 rfl],hb⟩
 have HBW:=htr HBl hal;obtain ⟨HW3,HGB⟩:=hd2 hW3 hgB;clear hg hU hO hvU hvO cu0 cu1 cu2 cu3 co0 co1 co2 co3 hxU hxO hal hbx hW3 hb HLow hgB hlU
 go_upto_region 3 with fail
 try simp only [List.length_cons,List.length_nil,Nat.zero_add]
 rw [<- HGB.out];rw [<- HW3.out]
 refine wp_region_slots_tail_g 37 (by kernel_rfl) (by kernel_rfl) (by kernel_rfl) (by kernel_rfl) (by decide) (From W3.heap.size W3) (fun w w'=>Below w.heap.size w w') (GQ [.val (.int .i64 0),.val (.bool true),.val (.bool true),.val (.pointer (some ⟨gB,0,none⟩)),.val (.int .i64 2),.val (.bool true),.val (.bool true),.val (.bool true),.val (.pointer (some ⟨gB,1,none⟩)),.val (.slice (some ⟨bU,oU,none⟩) 1 cU),.val (.int .i64 1),.val (.bool true),.val (.bool true),.val (.bool true),.val (.pointer (some ⟨gB,1,none⟩)),.val (.slice (some ⟨bU,oU,none⟩) 1 cU),.val (.pointer (some ⟨bU,oU,none⟩)),.val (.agg #[.slice ua un uc,.bool ub,.slice uan unn ucn,.slice uad und ucd]),.frm (varA 0),.frm (varA 1),.frm FS,.val (.bool true),.val (.bool true),.val (.bool true),.val (.pointer (some ⟨gB,2,none⟩)),.val (.slice (some ⟨bO,oO,none⟩) 1 cO),.val (.int .i64 1),.val (.bool true),.val (.bool true),.val (.bool true),.val (.pointer (some ⟨gB,2,none⟩)),.val (.slice (some ⟨bO,oO,none⟩) 1 cO),.val (.pointer (some ⟨bO,oO,none⟩)),.val (.agg #[.slice oa on oc,.bool ob,.slice oan onn ocn,.slice oad ond ocd]),.frm (varA 2),.val (.bool true),.val (.bool true)]) (fun i v w w' h hb=>GQ_below h hb) (From.start (Nat.le_refl _)) ?_ ?_
 ·intro ops hops;have HOps:=hid hops;clear hops;simp only [List.take_succ_cons,List.take_zero,Shows]
  refine ⟨?v0,?v1,?v2,?v3,?v4,?v5,?v6,?v7,?v8,?v9,?v10,?v11,?v12,?v13,?v14,?v15,?v16,?v17,?_,?_,?_,?_,?v22,?v23,?v24,?v25,?v26,?v27,?v28,?v29,?v30,?v31,?v32,?v33,?_,?_,?v36,trivial⟩
  all_goals (intro y' X hR hL;have hB:=hR.base;obtain ⟨k0,k1,k2,klt,e0,e1,e2,e3,elt,g0,g1,g2,g3,glt⟩:=HCe.out X hR.be;simp only [Laid,Region.binds,forall_const,Bool.false_eq_true,false_implies,GQ,List.getElem?_cons_zero,List.getElem?_cons_succ] at hL;simp [fillFrom,Act.put])
  case v0|v1|v2|v6|v7|v12|v13|v22|v23|v28|v29|v36=>
   try simp only [hL]
   clear hL;have HR:=hid hR;clear hR;go_wp2
   first | refine ⟨_,rfl,?_⟩ | skip
   exact ⟨HR.out,Below.refl _ _,rfl⟩
  case v3|v4|v5=>
   try simp only [hL]
   clear hL;have HR:=hid hR;clear hR
   refine wpList_on (HOps.out 2) 21 rfl rfl ?_
   go_wp2
   first | refine ⟨_,rfl,?_⟩ | skip
   exact ⟨HR.out,Below.refl _ _,rfl⟩
  case v8|v9|v10|v11=>
   try simp only [hL]
   clear hL;have HR:=hid hR;clear hR
   refine wpList_on (HOps.out 7) 26 rfl rfl ?_
   go_wp2
   first | refine ⟨_,rfl,?_⟩ | skip
   exact ⟨HR.out,Below.refl _ _,rfl⟩
  case v14|v15|v16|v17=>
   try simp only [hL]
   clear hL;have HR:=hid hR;clear hR
   refine wpList_on (HOps.out 13) 32 rfl rfl ?_
   go_wp2
   first | refine ⟨_,rfl,?_⟩ | skip
   exact ⟨HR.out,Below.refl _ _,rfl⟩
  case v24|v25|v26|v27=>
   try simp only [hL]
   clear hL;have HR:=hid hR;clear hR
   refine wpList_on (HOps.out 23) 42 rfl rfl ?_
   go_wp2
   first | refine ⟨_,rfl,?_⟩ | skip
   exact ⟨HR.out,Below.refl _ _,rfl⟩
  case v30|v31|v32|v33=>
   try simp only [hL]
   clear hL;have HR:=hid hR;clear hR
   refine wpList_on (HOps.out 29) 48 rfl rfl ?_
   go_wp2
   first | refine ⟨_,rfl,?_⟩ | skip
   exact ⟨HR.out,Below.refl _ _,rfl⟩
  ·try simp only [hL]
   clear hL;have HR:=hid hR;clear hR;have HCt:=hid (HV.out X 0)
   refine wpList_on (HOps.out 13) 32 rfl rfl ?_
   go_wp2_with fail
   refine HCt.out.mono ?_
   rintro e w1 ⟨v1,rfl,kv,kb⟩;obtain ⟨KV,KB⟩:=hd2 kv kb;clear kv kb HCt;go_wp2
   first | refine ⟨_,rfl,?_⟩ | skip
   exact ⟨⟨Nat.le_trans HR.out.base KB.out.size,HR.out.be.trans (KB.out.mono HR.out.base)⟩,KB.out,KV.out⟩
  ·generalize y' 18=y18 at hL ⊢;generalize y' 13=y13 at hL ⊢;obtain ⟨H18,rfl,_⟩:=hL;obtain ⟨K18,HR⟩:=hd2 H18 hR;clear hR H18;have HCt:=hid (HV.out X 1)
   refine wpList_on (HOps.out 13) 32 rfl rfl ?_
   go_wp2_with fail
   refine HCt.out.mono ?_
   rintro e w1 ⟨v1,rfl,kv,kb⟩;obtain ⟨KV,KB⟩:=hd2 kv kb;clear kv kb HCt;go_wp2
   first | refine ⟨_,rfl,?_⟩ | skip
   exact ⟨⟨Nat.le_trans HR.out.base KB.out.size,HR.out.be.trans (KB.out.mono HR.out.base)⟩,KB.out,KV.out⟩
  ·generalize y' 18=y18 at hL ⊢;generalize y' 19=y19 at hL ⊢;generalize y' 13=y13 at hL ⊢;obtain ⟨H18,H19,_,rfl,_⟩:=hL;obtain ⟨K18,K19,HR⟩:=hd3 H18 H19 hR;clear hR H18 H19;have HCt:=hid (HSu.out X _ _ K18.out K19.out)
   refine wpList_on (HOps.out 13) 32 rfl rfl ?_
   go_wp2_with fail
   refine HCt.out.mono ?_
   rintro e w1 ⟨v1,rfl,kv,kb⟩;obtain ⟨KV,KB⟩:=hd2 kv kb;clear kv kb HCt;go_wp2
   first | refine ⟨_,rfl,?_⟩ | skip
   exact ⟨⟨Nat.le_trans HR.out.base KB.out.size,HR.out.be.trans (KB.out.mono HR.out.base)⟩,KB.out,KV.out⟩
  ·generalize y' 17=y17 at hL ⊢;generalize y' 20=y20 at hL ⊢;generalize y' 13=y13 at hL ⊢;obtain ⟨rfl,H20,_,rfl,_⟩:=hL;obtain ⟨K20,HR⟩:=hd2 H20 hR;clear hR H20;have HCt:=hid (HE1.out X HR.out.be _ K20.out)
   refine wpList_on (HOps.out 13) 32 rfl rfl ?_
   go_wp2_with fail
   refine HCt.out.mono ?_
   rintro e w1 ⟨v1,rfl,kv,kb⟩;obtain ⟨KV,KB⟩:=hd2 kv kb;clear kv kb HCt;go_wp2
   first | refine ⟨_,rfl,?_⟩ | skip
   exact ⟨⟨Nat.le_trans HR.out.base KB.out.size,HR.out.be.trans (KB.out.mono HR.out.base)⟩,KB.out,KV.out⟩
  ·try simp only [hL]
   clear hL;have HR:=hid hR;clear hR;have HCt:=hid (HV.out X 2)
   refine wpList_on (HOps.out 29) 48 rfl rfl ?_
   go_wp2_with fail
   refine HCt.out.mono ?_
   rintro e w1 ⟨v1,rfl,kv,kb⟩;obtain ⟨KV,KB⟩:=hd2 kv kb;clear kv kb HCt;go_wp2
   first | refine ⟨_,rfl,?_⟩ | skip
   exact ⟨⟨Nat.le_trans HR.out.base KB.out.size,HR.out.be.trans (KB.out.mono HR.out.base)⟩,KB.out,KV.out⟩
  ·generalize y' 33=y33 at hL ⊢;generalize y' 34=y34 at hL ⊢;generalize y' 29=y29 at hL ⊢;obtain ⟨rfl,H34,_,rfl,_⟩:=hL;obtain ⟨K34,HR⟩:=hd2 H34 hR;clear hR H34;have HCt:=hid (HE2.out X HR.out.be _ K34.out)
   refine wpList_on (HOps.out 29) 48 rfl rfl ?_
   go_wp2_with fail
   refine HCt.out.mono ?_
   rintro e w1 ⟨v1,rfl,kv,kb⟩;obtain ⟨KV,KB⟩:=hd2 kv kb;clear kv kb HCt;go_wp2
   first | refine ⟨_,rfl,?_⟩ | skip
   exact ⟨⟨Nat.le_trans HR.out.base KB.out.size,HR.out.be.trans (KB.out.mono HR.out.base)⟩,KB.out,KV.out⟩
 ·intro ops y' X hR hL;have hB:=hR.base;have J36:=hL.2;simp only [GQ,List.getElem?_cons_zero,List.getElem?_cons_succ] at J36;obtain ⟨k0,k1,k2,klt,e0,e1,e2,e3,elt,g0,g1,g2,g3,glt⟩:=HCe.out X hR.be;clear hL;simp only [List.take_succ_cons,List.take_zero,List.drop_succ_cons,List.drop_zero];simp [fillFrom,Act.put];generalize y' 36=y36 at J36 ⊢;obtain rfl:=J36;have HR:=hid hR;clear hR;clear k0 k1 k2 klt e0 e1 e2 e3 elt g0 g1 g2 g3 glt;have HBe2:=htr HBW HR.out.be;go_wp2;go_ret;exact ⟨rfl,HBe2.out⟩
theorem lowN {w:World} {m:ModL} {G:GraphQ} {e1:Int} {a1 a2:Option Addr} (c1 c2:Nat) (h1:Ints w Any a1 m.input) (h2:LaysAt w a2 m.layers) (hr:∀ l ∈ m.layers,LayRange l) (hs:∀ l ∈ m.layers,LayLe l) (hsm:∀ l ∈ m.layers,SmallL l) (hl12:m.layers.length<=12) (hE:lowerL m=(G,e1)) (nI nL:Nat) (hI:nI=m.input.length) (hL:nL=m.layers.length):
  Calls Tryz.prog 12 #[.agg #[.slice a1 nI c1,.slice a2 nL c2]] w (fun e w'=>∃ v,e=.returned v/\TupV w' v G e1/\Below w.heap.size w w'):=by
 rw [hI,hL]
 refine (lLower c1 c2 h1 h2 hr hs hsm hl12).mono ?_
 rintro e w' ⟨v,rfl,hg,hb⟩;rw [hE] at hg;rw [hE];exact ⟨_,rfl,⟨v,rfl,hg⟩,hb⟩
theorem lays_mx (W:World) (a b:Nat) (T:Nat):LaysAt (W.alloc (.cells #[.int .i64 3,.int .i64 0,.int .i64 0,.int .i64 (a:Int),.int .i64 (b:Int),.int .i64 1,.int .i64 0,.slice none 0 0,.slice none 0 0] T)) (some ⟨W.heap.size,0,none⟩) [mxL a b]:=by
 have hc:∀ o,(W.alloc (.cells #[.int .i64 3,.int .i64 0,.int .i64 0,.int .i64 (a:Int),.int .i64 (b:Int),.int .i64 1,.int .i64 0,.slice none 0 0,.slice none 0 0] T)).cell? ⟨W.heap.size,o,none⟩=#[Value.int .i64 3,.int .i64 0,.int .i64 0,.int .i64 (a:Int),.int .i64 (b:Int),.int .i64 1,.int .i64 0,.slice none 0 0,.slice none 0 0][o]? :=fun o=>by
  rw [World.cell?_alloc_at _ _ _ _ rfl]
 refine ⟨by simp,.inr ⟨W.heap.size,0,rfl,by simp,fun j x hj=>?_⟩⟩
 match j,hj with
 | 0,hj=>
  cases hj;exact ⟨none,none,0,0,⟨(hc 0).trans rfl,(hc 1).trans rfl,(hc 2).trans rfl,(hc 3).trans rfl,(hc 4).trans rfl,(hc 5).trans rfl,(hc 6).trans rfl,(hc 7).trans rfl,(hc 8).trans rfl⟩,RatsAt.nil _ _,RatsAt.nil _ _⟩
theorem mx_ok {h c:Nat} (h2:h<=4) (c2:c<=4):(∀ l ∈ (mxM h c).layers,LayRange l)/\(∀ l ∈ (mxM h c).layers,LayLe l)/\(∀ l ∈ (mxM h c).layers,SmallL l):=by
 have hm:∀ l ∈ (mxM h c).layers,l=mxL h c:=fun l hl=>by simpa [mxM] using hl
 refine ⟨fun l hl=>?_,fun l hl=>?_,fun l hl=>?_⟩
 ·rw [hm l hl];unfold LayRange I64;simp [mxL];omega
 ·rw [hm l hl];exact ⟨by simp [mxL],by simp [mxL]⟩
 ·rw [hm l hl];exact ⟨by simp [mxL,wq,bq],by simp [mxL,wq,bq]⟩
theorem RatsAt.takeR {w:World} {a:Option Addr} {L:List RatL} (h:RatsAt w a L) (k:Nat):RatsAt w a (L.take k):=by
 refine ⟨by have:=h.len;rw [List.length_take];omega,?_⟩
 rcases h.row with rfl | ⟨b,off,rfl,hb,hc⟩
 ·exact .inl (by simp)
 ·refine .inr ⟨b,off,rfl,hb,fun j x hj=>hc j x ?_⟩
  have hlt:=(List.getElem?_eq_some_iff.1 hj).1;rw [List.length_take] at hlt;rw [List.getElem?_take_of_lt (by omega)] at hj;exact hj
theorem pmax_last {x:List Rat} {n:Nat} (h:x.length=n):pmax x (n - 1)=maxL x:=by rw [<- h];rfl
theorem law16Maximum {w:World} {L:List RatL} {ax:Option Addr} (cx:Nat) (r q:Int) (hr:0<=r/\r<=255) (hq:0<=q/\q<=255) (hX:RatsAt w ax L) (hXl:∀ x ∈ L,RatLe x 1048576) (hcx:L.length<=cx):
  Calls Tryz.prog 7 #[.int .u8 r,.int .u8 q,.slice ax L.length cx] w fun e w'=>e=.returned (.bool true)/\Below w.heap.size w w':=by
 have q3:=hX.len;obtain ⟨HX0,HXl⟩:=hd2 hX hXl;obtain ⟨r1,r2⟩:=hr;obtain ⟨p1,p2⟩:=hq;clear hX hXl;obtain ⟨nx,hnx⟩:∃ nx,nx=L.length:=⟨_,rfl⟩
 have HNx:=hid hnx;rw [<- hnx] at q3 hcx ⊢;clear hnx
 go_enter Tryz.func7,Tryz.ntmps7
 go_upto_region 2 with fail
 obtain ⟨h,hh⟩:∃ h:Nat,1+r % 4=(h:Int):=⟨(1+r % 4).toNat,by omega⟩
 obtain ⟨c,hc⟩:∃ c:Nat,1+q % 4=(c:Int):=⟨(1+q % 4).toNat,by omega⟩
 rw [hh,hc];have h1:1<=h:=by omega
 have h2:h<=4:=by omega
 have c1:1<=c:=by omega
 have c2:c<=4:=by omega
 obtain ⟨n,hn⟩:∃ n,n=h * c:=⟨_,rfl⟩
 have hsz:=mx_size h1 h2 c1 c2;have hn16:n<=16:=by rw [hn];exact hsz.2
 have hn1:1<=n:=by rw [hn];exact Nat.mul_pos h1 c1
 have he:(h:Int) * (c:Int)=(n:Int):=by rw [hn];simp
 have m1:IntKind.i64.wrap ((h:Int) * (c:Int))=(n:Int):=by rw [he];exact IntWalk.i64_in _ (by omega)
 obtain ⟨HN,HSz⟩:=hd2 hn hsz.1;clear hh hc hn hsz he;have M1:=hid m1
 go_wp2_with fail
 refine (awake16 w).mono ?_
 rintro e w1 ⟨rfl,hb1⟩;have HB1:=hid hb1;have hK:=kLittle16 cx (HX0.out.below hb1) HXl.out;rw [<- HNx.out] at hK;have HK:=hid hK;clear hb1 hK
 cases hk:littleL L with
 | false=>
  rw [hk] at HK;clear hk
  go_wp2_with fail
  refine HK.out.mono ?_
  rintro e w2 ⟨rfl,hb2⟩;have HB2:=htr HB1 hb2;clear hb2
  go_wp2_with fail
  refine (awake16 w2).mono ?_
  rintro e w9 ⟨rfl,hb9⟩;have HB9:=htr HB2 hb9;clear hb9;go_wp2;go_ret;exact ⟨rfl,HB9.out⟩
 | true=>
 rw [hk] at HK;have HLt:=hid (little_back hk);clear hk
 go_wp2_with fail
 refine HK.out.mono ?_
 rintro e w2 ⟨rfl,hb2⟩;have HB2:=htr HB1 hb2;clear hb2 HK
 by_cases hl1:nx < n
 case pos=>
  have t1:decide ((nx:Int) < (n:Int))=true:=decide_eq_true (by clear m1;omega);have t1n:decide (nx < n)=true:=decide_eq_true hl1
  go_wp2_with fail
  refine (awake16 w2).mono ?_
  rintro e w9 ⟨rfl,hb9⟩;have HB9:=htr HB2 hb9;clear hb9;go_wp2;go_ret;exact ⟨rfl,HB9.out⟩
 have t1:decide ((nx:Int) < (n:Int))=false:=decide_eq_false (by clear m1;omega);have t1n:decide (nx < n)=false:=decide_eq_false hl1
 by_cases hl2:20 < nx
 case pos=>
  have t2:decide ((20:Int) < (nx:Int))=true:=decide_eq_true (by clear m1;omega)
  go_wp2_with fail
  refine (awake16 w2).mono ?_
  rintro e w9 ⟨rfl,hb9⟩;have HB9:=htr HB2 hb9;clear hb9;go_wp2;go_ret;exact ⟨rfl,HB9.out⟩
 have t2:decide ((20:Int) < (nx:Int))=false:=decide_eq_false (by clear m1;omega);have hcn:n<=cx:=by clear m1;omega
 have hnn:n<=nx:=by clear m1;omega
 go_upto_region 5 with fail
 clear t1 t1n t2 hl1;obtain ⟨hbk,hsm⟩:=HLt.out;obtain ⟨x,hx⟩:∃ x,x=(L.take n).map ratOf:=⟨_,rfl⟩
 have hxl:x.length=n:=by rw [hx,List.length_map,List.length_take, <- HNx.out];clear m1;omega
 have hxm:x.map ratL=L.take n:=by
  rw [hx,List.map_take,List.map_take, <- hbk]
 have hxs:∀ q ∈ x,q.den<=4294967296/\q.num.natAbs<=18446744073709551616:=fun q hq=>by
  rw [hx] at hq;obtain ⟨y,hy,rfl⟩:=List.mem_map.1 hq;exact hsm _ (List.mem_map_of_mem (List.mem_of_mem_take hy))
 obtain ⟨Wd,w1',w2',w3'⟩:=BdL.small _ hxs;have hW30:Wd<=4294967296^30:=Nat.le_trans w2' (Nat.pow_le_pow_right (by clear m1;omega) (by rw [hxl];clear m1;omega));have HXx:Hid (∀ W,Below w.heap.size w W->RatsAt W ax (x.map ratL)):=fun W hb=>by rw [hxm];exact (HX0.out.below hb).takeR n
 obtain ⟨HXn,HBW⟩:=hd2 hxl (And.intro hW30 (And.intro w1' w3'));clear hbk hsm hx hxl hxm hxs w1' w2' w3' hW30 HLt
 -- the model
 have b3:=blA w2 (.cells #[.int .i64 1,.int .i64 (h:Int),.int .i64 (c:Int)] 3);have i3:=ints3_alloc w2 1 (h:Int) (c:Int) 3 (by unfold I64;omega) (by unfold I64;clear m1;omega) (by unfold I64;clear m1;omega);have s3:(w2.alloc (.cells #[.int .i64 1,.int .i64 (h:Int),.int .i64 (c:Int)] 3)).heap.size=w2.heap.size+1:=by simp
 obtain ⟨W3,hW3⟩:∃ W3,W3=w2.alloc (.cells #[.int .i64 1,.int .i64 (h:Int),.int .i64 (c:Int)] 3):=⟨_,rfl⟩
 rw [<- hW3] at b3 i3 s3;have b4:=blA W3 (.cells #[.int .i64 3,.int .i64 0,.int .i64 0,.int .i64 (h:Int),.int .i64 (c:Int),.int .i64 1,.int .i64 0,.slice none 0 0,.slice none 0 0] 44);have l4:=lays_mx W3 h c 44;obtain ⟨W4,hW4⟩:∃ W4,W4=W3.alloc (.cells #[.int .i64 3,.int .i64 0,.int .i64 0,.int .i64 (h:Int),.int .i64 (c:Int),.int .i64 1,.int .i64 0,.slice none 0 0,.slice none 0 0] 44):=⟨_,rfl⟩
 rw [<- hW4] at b4 l4;rw [s3] at l4;have i4:=i3.below b4;have HB4:=hid (HB2.out.trans ((b3.trans (b4.mono b3.size)).mono HB2.out.size));obtain ⟨G1,hE1,hU1l⟩:=mx_lower h1 h2 c1 c2;obtain ⟨o1,o2,o3⟩:=mx_ok h2 c2;obtain ⟨HLo,HE1,HU1l,HOs,HW3,HW4⟩:=hd6 (lowN (m:=mxM h c) 3 1 i4 l4 o1 o2 o3 (by show 1<=12;omega) hE1 3 1 rfl rfl) hE1 (show G1.units.length=n - 1 by rw [hU1l, <- HN.out]) (fun (y:List Rat) (hy:y.length=n)=>mx_outs (x:=y) h1 h2 c1 c2 hE1 (by rw [hy,HN.out])) hW3 hW4;clear b3 i3 s3 hW3 b4 l4 hW4 i4 o1 o2 o3 hE1 hU1l
 go_wp2_with (rw [<- HW3.out, <- HW4.out];refine HLo.out.mono ?_)
 rintro e w5 ⟨v,rfl,⟨u,rfl,hg⟩,hb⟩;obtain ⟨aU1,cU1,aO1,cO1,rfl,hu1,ho1,hU1,hO1⟩:=hg.ex;have HB5:=htr HB4 hb;have hal:=blA w5 (.cells #[.int .i64 (G1.inputs:Int),.slice aU1 G1.units.length cU1,.slice aO1 G1.outs.length cO1] 30);have HB6:=htr HB5 hal;obtain ⟨HU6,HO6⟩:=hd2 (hU1.below formK hal) (hO1.below formK hal);have hgb:=Box3.alloc w5 (.int .i64 (G1.inputs:Int)) (.slice aU1 G1.units.length cU1) (.slice aO1 G1.outs.length cO1) 30;have hsz2:(x.length:Int)=sizeL (mxM h c).input:=by rw [HXn.out,HN.out];exact HSz.out.symm
 obtain ⟨D1,B1,D2,B2,hG,hbV,hD2,hPay⟩:=low_room HE1.out hsz2 (mx_ok h2 c2).2.2 (by show 1<=12;omega) HBW.out.1 HBW.out.2.1 HBW.out.2.2;obtain ⟨o1,o2,o3⟩:=HOs.out x HXn.out;obtain ⟨HGo,HO3,HNi,HNo⟩:=hd4 (And.intro hG (And.intro hbV (And.intro hD2 hPay))) o3 (show G1.inputs=n by rw [o1,HN.out]) o2;obtain ⟨nu,hnu⟩:∃ nu,nu=G1.units.length:=⟨_,rfl⟩
 have hnu2:(nu:Int)=(n:Int) - 1:=by have:=HU1l.out;clear m1;omega
 have HNu:=hid hnu;obtain ⟨W6,hW6⟩:∃ W6,W6=(w5.alloc (.cells #[.int .i64 (G1.inputs:Int),.slice aU1 G1.units.length cU1,.slice aO1 G1.outs.length cO1] 30)):=⟨_,rfl⟩
 obtain ⟨bg,hbg⟩:∃ bg,bg=w5.heap.size:=⟨_,rfl⟩
 rw [<- hW6] at HB6 HU6 HO6 hgb;rw [<- hbg] at hgb;rw [HNi.out,o2, <- hnu] at hgb;obtain ⟨HW6,Hbg,HGb⟩:=hd3 hW6 hbg hgb;have t3:((nu:Int) != (n:Int) - 1)=false:=by rw [hnu2];simp
 have t3n:decide (¬ (nu:Int)=(n:Int) - 1)=false:=by rw [hnu2];simp
 have HT3:=hid hnu2;clear hb hg hU1 hO1 hal hu1 ho1 hG hbV hD2 hPay o1 o2 o3 hnu hnu2 hW6 hbg hsz2 HLo HOs hgb HW3 HW4
 go_upto_region 6 with fail
 rw [<- Hbg.out, <- HW6.out,HNi.out,HNo.out, <- HNu.out];obtain ⟨g0,g1,g2,gf,glt⟩:=HGb.out;obtain ⟨bx,ox,y,yn,yd,ycn,ycd,hax,hbx,hyy,yc0,yc1,yc2,hyv⟩:=(HXx.out _ HB6.out).pick (k:=0) (by rw [List.length_map,HXn.out];clear m1;omega);obtain ⟨hy1,hy2⟩:=map_get hyy;subst hax;obtain ⟨g2',g3',g4',g5'⟩:=hyv.parts;have hac:=RBox.alloc (W:=W6) g2' g3' g4' g5' 51;have hal:=blA W6 (ratO y yn ycn yd ycd 51);have HA0:=hid (show AcI W6 _ W6.heap.size (ratL (pmax x (1 - 1))) from by
  show AcI W6 _ W6.heap.size (ratL (x.getD 0 0))
  rw [<- hy2];exact ⟨hac,hal,Nat.le_refl _⟩)
 have HB7:=htr HB6 hal;rw [Nat.zero_mul,Nat.add_zero] at yc0 yc1 yc2;have hox:(0:Int) < (n:Int):=by clear m1;omega
 clear hyy hy1 hy2 hyv g2' g3' g4' g5' hac hal
 go_upto_region 9 with fail
 obtain ⟨b6,hb6⟩:∃ b6,b6=W6.heap.size:=⟨_,rfl⟩
 rw [<- hb6] at HA0 ⊢;have H6:=hid hb6;generalize W6.alloc (ratO y yn ycn yd ycd 51)=W7 at *;clear g0 g1 g2 gf glt yc0 yc1 yc2 hbx hb6 m1 t3 t3n;go_wp2
 go_loopw [12] (fun i wr=>∃ j:Nat,1<=j/\j<=n/\i=.int .i64 (j:Int)/\Hid (AcI W6 wr b6 (ratL (pmax x (j - 1))))) (fun i _=>n - (intOf i).toNat)
 case atStart=>exact ⟨1,Nat.le_refl _,hn1,rfl,HA0.out⟩
 case round=>
  obtain ⟨j,hj1,hj,rfl,HA⟩:=hrel;have HB:=htr HB6 HA.out.bl
  by_cases hlt:j < n
  ·obtain ⟨bx2,ox2,y,yn,yd,ycn,ycd,hax,hbx,hyy,yc0,yc1,yc2,hyv⟩:=(HXx.out _ HB.out).pick (k:=j) (by rw [List.length_map,HXn.out];exact hlt);obtain ⟨rfl,rfl⟩:bx2=bx/\ox2=ox:=by cases hax;exact ⟨rfl,rfl⟩
   obtain ⟨hy1,hy2⟩:=map_get hyy;obtain ⟨S,hS⟩:∃ S,S=pmax x (j - 1):=⟨_,rfl⟩
   obtain ⟨T,hT⟩:∃ T,T=maxQ S (x.getD j 0):=⟨_,rfl⟩
   have HT2:Hid (T=pmax x (j+1 - 1)):=by
    unfold Hid;rw [hT,hS];obtain ⟨k,rfl⟩:∃ k,j=k+1:=⟨j - 1,by omega⟩
    rfl
   rw [<- hS] at HA;have hbd:BdL Wd 18446744073709551616 x:=HBW.out.2.2;have hpay:Pay Wd 18446744073709551616:=by
    have hp:18446744073709551616 * Wd+Wd < 4294967296^40:=by
     have h1:=HBW.out.1;have h2:18446744073709551616 * Wd<=18446744073709551616 * 4294967296^30:=Nat.mul_le_mul_left _ h1;have h3:(18446744073709551616 * 4294967296^30+4294967296^30:Nat) < 4294967296^40:=by decide
     omega
    have hc:40<=524285:=by omega
    unfold Pay;generalize (524285:Nat)=c at hc ⊢;exact Nat.lt_of_lt_of_le hp (Nat.pow_le_pow_right (by omega) hc)
   have hls:RatLe (ratL S) 524285:=by rw [hS];exact Pay.b5 hpay (Bd.pmax hbd HBW.out.2.1 _)
   have hly:RatLe (ratL (x.getD j 0)) 524285:=Pay.b5 hpay (hbd.at HBW.out.2.1 _);obtain ⟨HLs,HLy,HY2,HTe,HYv⟩:=hd5 hls hly hy2 hT hyv;obtain ⟨⟨sn,sd,scn,scd,hsb,hs2,hs3,hs4,hs5⟩,hsn⟩:=HA.out.box;have HSv:=hid (show RatV _ (.agg #[.bool (ratL S).neg,.slice sn (ratL S).num.length scn,.slice sd (ratL S).den.length scd]) (ratL S) from ⟨sn,sd,scn,scd,rfl,hs2,hs3,hs4,hs5⟩);obtain ⟨s0,s1,s2,sf,slt⟩:=hsb;have HCe:Hid (∀ X,Below wr.heap.size wr X->X.cell? ⟨b6,0,none⟩=some (.bool (ratL S).neg)/\X.cell? ⟨b6,1,none⟩=some (.slice sn (ratL S).num.length scn)/\X.cell? ⟨b6,2,none⟩=some (.slice sd (ratL S).den.length scd)/\b6 < X.heap.size/\
     X.cell? ⟨bx2,ox2+j * 3,none⟩=some (.bool y.neg)/\X.cell? ⟨bx2,ox2+j * 3+1,none⟩=some (.slice yn y.num.length ycn)/\X.cell? ⟨bx2,ox2+j * 3+2,none⟩=some (.slice yd y.den.length ycd)/\bx2 < X.heap.size):=fun X hb=>
    ⟨(hb.cell slt).trans s0,(hb.cell slt).trans s1,(hb.cell slt).trans s2,Nat.lt_of_lt_of_le slt hb.size,(hb.cell hbx).trans yc0,(hb.cell hbx).trans yc1,(hb.cell hbx).trans yc2,Nat.lt_of_lt_of_le hbx hb.size⟩
   have HMx:Hid (∀ X,Below wr.heap.size wr X->Calls Tryz.prog 23 #[.agg #[.bool (ratL S).neg,.slice sn (ratL S).num.length scn,.slice sd (ratL S).den.length scd],.agg #[.bool y.neg,.slice yn y.num.length ycn,.slice yd y.den.length ycd]] X (RetR X (ratL T))):=fun X hb=>by
    have h:=r3Max (HSv.out.below hb) (HYv.out.below hb) (HLs.out.mono (by omega)) (by rw [HY2.out];exact HLy.out);rw [ratOf_ratL,HY2.out,ratOf_ratL, <- HY2.out, <- HTe.out] at h;exact h
   have hjI:(0:Int)<=(j:Int):=by omega
   have hjI2:(j:Int) < (n:Int):=by omega
   clear hax hyy hy1 hy2 hS hT hbd hpay hls hly hyv hs2 hs3 hs4 hs5 hsn
   go_upto_region 12 with fail
   clear s0 s1 s2 sf slt yc0 yc1 yc2 hbx
   refine wp_region_slots_tail_g 6 (by kernel_rfl) (by kernel_rfl) (by kernel_rfl) (by kernel_rfl) (by decide) (From wr.heap.size wr) (fun w w'=>Below w.heap.size w w') (GP [SP.val (.agg #[.bool (ratL S).neg,.slice sn (ratL S).num.length scn,.slice sd (ratL S).den.length scd]),SP.val (.slice (some ⟨bx2,ox2,none⟩) n cx),SP.val (.int .i64 (j:Int)),SP.val (.pointer (some ⟨bx2,ox2+j * 3,none⟩)),SP.val (.agg #[.bool y.neg,.slice yn y.num.length ycn,.slice yd y.den.length ycd]),SP.rat (ratL T)]) (fun i v w w' h hb=>GP_below h hb) (From.start (Nat.le_refl _)) ?_ ?_
   ·intro ops hops;have HOps:=hid hops;clear hops;simp only [List.take_succ_cons,List.take_zero,Shows]
    refine ⟨?v0,?v1,?v2,?v3,?v4,?_,trivial⟩
    all_goals (intro y' X hR hL;have hB:=hR.base;obtain ⟨s0,s1,s2,slt,y0,y1,y2,ylt⟩:=HCe.out X hR.be;simp only [Laid,Region.binds,forall_const,Bool.false_eq_true,false_implies,GP,SP.val,SP.frm,SP.rat,SP.tru,List.getElem?_cons_zero,List.getElem?_cons_succ] at hL;simp [fillFrom,Act.put])
    case v0|v1|v2|v3|v4=>
     try simp only [hL]
     clear hL;have HR:=hid hR;clear hR;go_wp2
     first | refine ⟨_,rfl,?_⟩ | skip
     exact ⟨HR.out,Below.refl _ _,rfl⟩
    ·try simp only [hL]
     clear hL;have HR:=hid hR;clear hR;have HCt:=hid (HMx.out X HR.out.be)
     go_wp2_with fail
     refine HCt.out.mono ?_
     rintro e w1 ⟨v1,rfl,kv,kb⟩;obtain ⟨KV,KB⟩:=hd2 kv kb;clear kv kb HCt;go_wp2
     first | refine ⟨_,rfl,?_⟩ | skip
     exact ⟨⟨Nat.le_trans HR.out.base KB.out.size,HR.out.be.trans (KB.out.mono HR.out.base)⟩,KB.out,KV.out⟩
   ·intro ops y' X hR hL;have hB:=hR.base;have J5:=hL.2;simp only [GP,SP.val,SP.frm,SP.rat,SP.tru,List.getElem?_cons_zero,List.getElem?_cons_succ] at J5;obtain ⟨s0,s1,s2,slt,y0,y1,y2,ylt⟩:=HCe.out X hR.be;clear hL;simp only [List.take_succ_cons,List.take_zero,List.drop_succ_cons,List.drop_zero];simp [fillFrom,Act.put];generalize y' 5=y5 at J5 ⊢;have HR:=hid hR;clear hR;obtain ⟨rn,rd,rcn,rcd,rfl,r2,r3,r4,r5⟩:=J5.ex;have HSt:=hid (HA.out.step (show Below wr.heap.size wr X from HR.out.be) r2 r3 r4 r5);rw [HT2.out] at HSt;have HT3:=hid HT2.out;obtain ⟨⟨_,_,_,_,hbz,_⟩,_⟩:=(HA.out.below (show Below wr.heap.size wr X from HR.out.be)).box;have zf:=hbz.free;clear J5 r2 r3 r4 r5 y0 y1 y2 ylt hbz;go_wp2;rw [HT3.out];go_roundw
    case rel=>exact ⟨j+1,by omega,hlt,by go_num,HSt.out⟩
    case measure=>simp [intOf];omega
  ·obtain rfl:j=n:=by omega
   have hAc:=HA.out;rw [pmax_last HXn.out] at hAc;obtain ⟨⟨sn,sd,scn,scd,hsb,hs2,hs3,hs4,hs5⟩,hsn⟩:=hAc.box;obtain ⟨M,hM⟩:∃ M,M=maxL x:=⟨_,rfl⟩
   rw [<- hM] at hsb hs2 hs3 hs4 hs5 hAc;obtain ⟨HM,HSv,HSb,HAb⟩:=hd4 hM (show RatV wr (.agg #[.bool (ratL M).neg,.slice sn (ratL M).num.length scn,.slice sd (ratL M).den.length scd]) (ratL M) from ⟨sn,sd,scn,scd,rfl,hs2,hs3,hs4,hs5⟩) hsb hAc.bl;have hOu:=r15Outputs (cU:=cU1) (cO:=cO1) cx (HU6.out.below formK hAc.bl) (HO6.out.below formK hAc.bl) (HXx.out _ HB.out) HXn.out HNi.out HNo.out HGo.out.1 HGo.out.2.1 HGo.out.2.2.1 HGo.out.2.2.2;rw [HO3.out, <- HNu.out, <- hM] at hOu;have HOu:=hid hOu;obtain ⟨g0,g1,g2,gf,glt⟩:=HGb.out.below HAb.out;clear hAc hs2 hs3 hs4 hs5 hsn hsb hM hOu
   go_wp2_with fail
   refine HOu.out.mono ?_
   rintro e w8 ⟨aZ,cZ,rfl,hcZ,hRZ,hb8⟩;have HB8:=htr HB hb8;have hRZ:RatsAt w8 aZ [ratL M]:=hRZ;obtain ⟨bz,oz,zz,zn,zd,zcn,zcd,haz,hbz,hzz,zc0,zc1,zc2,hzv⟩:=hRZ.pick (k:=0) (by simp);have hze:zz=ratL M:=by simpa using hzz.symm
   subst hze haz;obtain ⟨s0,s1,s2,sf,slt⟩:=HSb.out.below hb8;have hC:∀ e,Calls Tryz.prog 24 #[.agg #[.bool (ratL M).neg,.slice zn (ratL M).num.length zcn,.slice zd (ratL M).den.length zcd],.agg #[.bool (ratL M).neg,.slice sn (ratL M).num.length scn,.slice sd (ratL M).den.length scd]] (ext w8 e) fun e1 w'=>e1=.returned (.bool true)/\Below (ext w8 e).heap.size (ext w8 e) w':=fun e=>by
    have h:=r3Same (hzv.below (ext_below w8 e)) ((HSv.out.below hb8).below (ext_below w8 e));rw [decide_eq_true rfl] at h;exact h
   have HC:=hid hC;rw [Nat.zero_mul,Nat.add_zero] at zc0 zc1 zc2;have k0:=ext_cell zc0 hbz;have k1:=ext_cell zc1 hbz;have k2:=ext_cell zc2 hbz;have l0:=ext_cell s0 slt;have l1:=ext_cell s1 slt;have l2:=ext_cell s2 slt;have e1:((List.map ratL [M]).length:Int)=1:=rfl;clear hb8 hcZ hRZ hzz hzv hC g0 g1 g2 gf glt HOu;simp only [List.map_cons,List.map_nil,List.length_cons,List.length_nil,Nat.zero_add] at e1 ⊢
   go_upto_region 14 with fail
   clear zc0 zc1 zc2 s0 s1 s2 sf slt e1 hbz
   refine wp_region_quiet_ext (by kernel_rfl) (by kernel_rfl) ?_
   repeat (go_big_quiet_step (first | (go_at_call 24;exact Calls.ext_of (HC.out _))))
   refine wpQuiet_nil ?_
   intro _ hw';obtain ⟨nq,hw''⟩:=hw';subst hw'';have HBN:=hid (HB8.out.trans ((ext_below w8 nq).mono HB8.out.size));generalize ext w8 nq=w9 at *;go_wp2;go_ret;exact ⟨rfl,HBN.out⟩
end Go.Proofs.YtfgmmghmmfmdgaaGreat
