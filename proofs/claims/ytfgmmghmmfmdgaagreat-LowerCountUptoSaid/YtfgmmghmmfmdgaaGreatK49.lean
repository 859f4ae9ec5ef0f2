/-
  Contracts of the functions that the statement reaches: LqB0, LqB, LqC, LqE, LqD, RhB.
-/
import Derived.Test.YtfgmmghmmfmdgaaGreatK48
set_option linter.all false
set_option maxRecDepth 100000
set_option maxHeartbeats 3200000
namespace Go.Proofs.YtfgmmghmmfmdgaaGreat
open Go.RowKit
open Go.Lib (hid)
theorem ext_form {f g:AffQ} (hf:f.Can) (hg:g.Can) (hc:f.c=g.c) (ht:∀ v,coefT f.ts v=coefT g.ts v):f=g:=by
 have h:f.ts=g.ts:=by
  have h1:=addT_of (k:=0) (f:=f.ts) (g:=[]) (l:=f.ts) hf (fun v=>by show _=_+0 * 0;grind);have h2:=addT_of (k:=0) (f:=f.ts) (g:=[]) (l:=g.ts) hg (fun v=>by rw [ht];show _=_+0 * 0;grind);rw [h1,h2]
 cases f;cases g;simp only at h hc;subst h hc;rfl
theorem ex_sum:addA 1 (addA 1 (numA 0) (scA 1 (varA 0))) (scA (-1) (varA 1))=addA (-1) (varA 0) (varA 1):=by
 refine ext_form (addA_can _ _ _) (addA_can _ _ _) (by decide+kernel) (fun v=>?_)
 show coefT (addT 1 (addT 1 [] (addT 1 [] [(0,1)])) (addT (-1) [] [(1,1)])) v=coefT (addT (-1) [(0,1)] [(1,1)]) v
 rw [addT_coef,addT_coef,addT_coef,addT_coef,addT_coef];show (0+1 * (0+1 * coefT [(0,1)] v))+1 * (0+ -1 * coefT [(1,1)] v)=coefT [(0,1)] v+ -1 * coefT [(1,1)] v
 grind
theorem wq_exD:wq exD=[1, -1]:=by simp [wq,exD,ratOf_ratL]
theorem bq_exD:bq exD=[0]:=by simp [bq,exD,ratOf_ratL]
theorem dense_ex (W B:List Rat) (hW:W=[1, -1]) (hB:B=[0]) (n:Nat) (hn:n=1) (X:List AffQ) (hX:X=[varA 0,varA 1]):
  ((List.range n).map fun r=>sumF (B.getD r 0) (partL W (r * X.length) X.length) 0 (iotaZ X.length) X X.length)=[addA (-1) (varA 0) (varA 1)]:=by
 subst hW;subst hB;subst hn;subst hX;show [addA 1 (addA 1 (numA 0) (scA 1 (varA 0))) (scA (-1) (varA 1))]=_
 rw [ex_sum]
theorem ex_dense (s:List Int) (fr:List AffQ):lowLay 2 [] exD s (varsF 2) fr=([],[addA (-1) (varA 0) (varA 1)]):=by
 unfold lowLay;rw [if_pos (show exD.kind=1 from rfl)];rw [dense_ex _ _ wq_exD bq_exD exD.out.toNat rfl (varsF 2) rfl]
theorem exM_lower:lowerL exM=(⟨2,[addA (-1) (varA 0) (varA 1)],[varA 2]⟩,0):=by
 unfold lowerL;rw [exM_shapes];rw [if_pos rfl,if_neg (by decide+kernel)];have hs:(sizeL exM.input).toNat=2:=by decide+kernel
 rw [hs];have hf:lowFrom 2 exM.input (varsF 2) [] [] [] exM.layers=([addA (-1) (varA 0) (varA 1)],[[addA (-1) (varA 0) (varA 1)],[varA 2]]):=by
  show lowFrom 2 [2] (varsF 2) [] [] [] [exD,exR]=_
  unfold lowFrom;rw [exD_out];rw [show lowLay 2 [] exD (currL [2] []) (currF (varsF 2) []) (fromF (varsF 2) [] exD.frm)=([],[addA (-1) (varA 0) (varA 1)]) from ex_dense _ _];unfold lowFrom;rw [show ([]++[(([1],0):List Int × Int).1])=[[1]] from rfl,exR_out];unfold lowFrom;rfl
 rw [hf];rfl
theorem exM_small:∀ l ∈ exM.layers,SmallL l:=by
 have s1:smallR (ratL 1)=true:=by rw [ratL_one];rfl
 exact (fair_paid (exM_fair 1 1 s1 s1)).sm
theorem bd_var (v N:Nat) (h:v < N):BdF 1 1 N (varA v):=by
 have h0:Bd 1 1 (0:Rat):=Bd.zero (by omega);have h1:Bd 1 1 (1:Rat):=⟨by omega,1,by rw [Rat.mkRat_one];rfl,by decide⟩
 refine ⟨varA_can v,?_,h0,fun u=>?_⟩
 ·show topT [(v,1)]<=N
  unfold topT
  first | exact h | (simp [topT];omega)
 ·show Bd 1 1 (coefT [(v,1)] u)
  unfold coefT
  split
  ·exact h1
  ·exact h0
theorem pow_gt3 (n:Nat) (h:1<=n):3 < 4294967296^n:=Nat.lt_of_lt_of_le (show 3 < 4294967296^1 by decide) (Nat.pow_le_pow_right (by omega) h)
theorem pay_12:Pay 1 (1+1):=by
 unfold Pay;generalize hE:(524285:Nat)=E;have h1:1<=E:=by omega
 clear hE;exact pow_gt3 E h1
theorem low_ex {a:Array Value} {W:World} (h:Calls Tryz.prog 12 a W (LowPost W (lowerL exM))):
  Calls Tryz.prog 12 a W (fun e w'=>∃ v,e=.returned (.tuple #[v,.int .i64 0])/\GraphV w' v ⟨2,[addA (-1) (varA 0) (varA 1)],[varA 2]⟩/\Below W.heap.size W w'):=by
 rw [exM_lower] at h;exact h.mono fun e w' h=>h
theorem awake16 (w:World):Calls Tryz.prog 10 #[] w fun e w'=>e=.returned (.bool true)/\Below w.heap.size w w':=by
 have hOf1:∀ W,Calls Tryz.prog 27 #[.int .i64 1] W (RetR W (ratL 1)):=fun W=>r3Of W 1 (by omega) (by omega)
 have hOfm:∀ W,Calls Tryz.prog 27 #[.int .i64 (-1)] W (RetR W (ratL (-1))):=fun W=>r3Of W (-1) (by omega) (by omega)
 go_enter Tryz.func10,Tryz.ntmps10
 go_wp2_with fail
 refine (hOf1 _).mono ?_
 rintro e w1 ⟨v1,rfl,kv1,kb1⟩
 go_wp2_with fail
 refine (hOfm _).mono ?_
 rintro e w2 ⟨v2,rfl,kv2,kb2⟩;obtain ⟨p,hp⟩:∃ p,p=ratL 1:=⟨_,rfl⟩
 obtain ⟨q,hq⟩:∃ q,q=ratL (-1):=⟨_,rfl⟩
 rw [<- hp] at kv1;rw [<- hq] at kv2;obtain ⟨an,ad,cn,cd,rfl,b2,b3,b4,b5⟩:=kv1.ex;obtain ⟨bn,bd,dn,dd,rfl,g2,g3,g4,g5⟩:=kv2.ex;obtain ⟨hp1,hq1,HB1,HB2,HP4,HP5⟩:=hd6 hp hq kb1 kb2 b4 b5;obtain ⟨HG4,HG5⟩:=hd2 g4 g5;clear hp hq kv1 kv2 kb1 kb2 b4 b5 g4 g5
 go_upto_region 2 with fail
 generalize hAe:(((w2.alloc (.cells #[.bool p.neg,.slice an p.num.length cn,.slice ad p.den.length cd,.bool q.neg,.slice bn q.num.length dn,.slice bd q.den.length dd] 51)).alloc (zerO 51)).alloc
   (.cells #[.int .i64 1,.int .i64 0,.int .i64 1,.int .i64 0,.int .i64 0,.int .i64 0,.int .i64 0,.slice (some ⟨w2.heap.size,0,none⟩) 2 2,.slice (some ⟨w2.heap.size+1,0,none⟩) 1 1,.int .i64 5,.int .i64 0,.int .i64 0,.int .i64 0,.int .i64 0,.int .i64 0,.int .i64 0,.slice none 0 0,.slice none 0 0] 44)).alloc
   (.cells #[.slice (some ⟨w.heap.size,0,none⟩) 1 1,.slice (some ⟨w2.heap.size+1+1,0,none⟩) 2 2] 25)=W1
 obtain ⟨hi,hla,hc0,hc1,hlt,hbe⟩:=ex_mem hp1.out hq1.out HB1.out HB2.out b2 b3 HP4.out HP5.out g2 g3 HG4.out HG5.out hAe.symm;obtain ⟨FS,hFS⟩:∃ FS,FS=addA (-1) (varA 0) (varA 1):=⟨_,rfl⟩
 have hLow:Calls Tryz.prog 12 #[.agg #[.slice (some ⟨w.heap.size,0,none⟩) 1 1,.slice (some ⟨w2.heap.size+1+1,0,none⟩) 2 2]] W1 (fun e w'=>∃ v,e=.returned (.tuple #[v,.int .i64 0])/\GraphV w' v ⟨2,[FS],[varA 2]⟩/\Below W1.heap.size W1 w'):=by
  rw [hFS];exact low_ex (lLower (m:=exM) 1 2 hi hla exM_range exM_le exM_small (by decide))
 obtain ⟨HLow,HBe⟩:=hd2 hLow hbe;have HSu:Hid (∀ X v u,FormV X v (varA 0)->FormV X u (varA 1)->Calls Tryz.prog 28 #[v,u] X (RetAf X FS)):=fun X v u h1 h2=>by
  rw [hFS];exact r7Sub h1 h2 (bd_var 0 2 (by omega)) (bd_var 1 2 (by omega)) pay_12 (by omega)
 have HV:Hid (∀ X (v:Nat),Calls Tryz.prog 22 #[.int .i64 (v:Int)] X (RetAf X (varA v))):=fun X v=>r16Var X v
 have HFS:=hid hFS;clear hi hla hbe hAe HP4 HP5 HG4 HG5 HB1 HB2 hLow hFS
 go_wp2_with fail
 refine HLow.out.mono ?_
 rintro e wl ⟨v,rfl,hg,hb⟩;obtain ⟨aU,cU,aO,cO,rfl,hcU,hcO,hU,hO⟩:=hg.ex;simp only [List.length_cons,List.length_nil,Nat.zero_add] at hcU hcO;obtain ⟨bU,oU,fU,u0,u1,u2,u3,rfl,hbU,hxU,cu0,cu1,cu2,cu3,hvU⟩:=hU.pick (k:=0) (by simp);obtain ⟨bO,oO,fO,o0,o1,o2,o3,rfl,hbO,hxO,co0,co1,co2,co3,hvO⟩:=hO.pick (k:=0) (by simp);obtain rfl:FS=fU:=by simpa using hxU
 obtain rfl:varA 2=fO:=by simpa using hxO
 rw [Nat.zero_mul,Nat.add_zero] at cu0 cu1 cu2 cu3 co0 co1 co2 co3;obtain ⟨ua,un,uc,ub,uan,unn,ucn,uad,und,ucd,rfl,rfl,rfl,rfl⟩:=hvU.spell;obtain ⟨oa,on,oc,ob,oan,onn,ocn,oad,ond,ocd,rfl,rfl,rfl,rfl⟩:=hvO.spell;obtain ⟨HUv,HOv⟩:=hd2 hvU.val hvO.val;have HBl:=htr HBe hb;have hal:=blA wl (.cells #[.int .i64 2,.slice (some ⟨bU,oU,none⟩) 1 cU,.slice (some ⟨bO,oO,none⟩) 1 cO] 30);have hbx:=Box3.alloc wl (.int .i64 2) (.slice (some ⟨bU,oU,none⟩) 1 cU) (.slice (some ⟨bO,oO,none⟩) 1 cO) 30;obtain ⟨W3,hW3⟩:∃ W3,W3=wl.alloc (.cells #[.int .i64 2,.slice (some ⟨bU,oU,none⟩) 1 cU,.slice (some ⟨bO,oO,none⟩) 1 cO] 30):=⟨_,rfl⟩
 rw [<- hW3] at hal hbx;obtain ⟨gB,hgB⟩:∃ gB,gB=wl.heap.size:=⟨_,rfl⟩
 rw [<- hgB] at hbx;have hlU:=hal.size;have HCe:Hid (∀ X,Below W3.heap.size W3 X->X.cell? ⟨gB,0,none⟩=some (.int .i64 2)/\X.cell? ⟨gB,1,none⟩=some (.slice (some ⟨bU,oU,none⟩) 1 cU)/\X.cell? ⟨gB,2,none⟩=some (.slice (some ⟨bO,oO,none⟩) 1 cO)/\gB < X.heap.size/\
   X.cell? ⟨bU,oU,none⟩=some (.slice ua un uc)/\X.cell? ⟨bU,oU+1,none⟩=some (.bool ub)/\X.cell? ⟨bU,oU+2,none⟩=some (.slice uan unn ucn)/\X.cell? ⟨bU,oU+3,none⟩=some (.slice uad und ucd)/\bU < X.heap.size/\
   X.cell? ⟨bO,oO,none⟩=some (.slice oa on oc)/\X.cell? ⟨bO,oO+1,none⟩=some (.bool ob)/\X.cell? ⟨bO,oO+2,none⟩=some (.slice oan onn ocn)/\X.cell? ⟨bO,oO+3,none⟩=some (.slice oad ond ocd)/\bO < X.heap.size):=fun X hB=>by
  have k:=hbx.below hB;have hB2:Below wl.heap.size wl X:=hal.trans (hB.mono hal.size);have hsz:=hB2.size;exact ⟨k.c0,k.c1,k.c2,k.lt,(hB2.cell hbU).trans cu0,(hB2.cell hbU).trans cu1,(hB2.cell hbU).trans cu2,(hB2.cell hbU).trans cu3,by omega,
   (hB2.cell hbO).trans co0,(hB2.cell hbO).trans co1,(hB2.cell hbO).trans co2,(hB2.cell hbO).trans co3,by omega⟩
 have HE1:Hid (∀ X,Below W3.heap.size W3 X->∀ u,FormV X u FS->Calls Tryz.prog 21 #[.agg #[.slice ua un uc,.bool ub,.slice uan unn ucn,.slice uad und ucd],u] X (fun e w'=>∃ v,e=.returned v/\v=.bool true/\Below X.heap.size X w')):=fun X hB u hu=>by
  refine (r7Equal (HUv.out.below (hal.trans (hB.mono hal.size))) hu).mono ?_
  rintro e w' ⟨rfl,hb⟩;exact ⟨_,rfl,by rw [(eqA_iff _ _).2 rfl],hb⟩
 have HE2:Hid (∀ X,Below W3.heap.size W3 X->∀ u,FormV X u (varA 2)->Calls Tryz.prog 21 #[.agg #[.slice oa on oc,.bool ob,.slice oan onn ocn,.slice oad ond ocd],u] X (fun e w'=>∃ v,e=.returned v/\v=.bool true/\Below X.heap.size X w')):=fun X hB u hu=>by
  refine (r7Equal (HOv.out.below (hal.trans (hB.mono hal.size))) hu).mono ?_
  rintro e w' ⟨rfl,hb⟩;exact ⟨_,rfl,by rw [(eqA_iff _ _).2 rfl],hb⟩
 have HBW:=htr HBl hal;obtain ⟨HW3,HGB⟩:=hd2 hW3 hgB;clear hg hU hO hvU hvO cu0 cu1 cu2 cu3 co0 co1 co2 co3 hxU hxO hal hbx hW3 hb HLow hgB hlU
 go_upto_region 3 with fail
 try simp only [List.length_cons,List.length_nil,Nat.zero_add]
 rw [<- HGB.out];rw [<- HW3.out]
 refine wp_region_slots_tail_g 37 (by kernel_rfl) (by kernel_rfl) (by kernel_rfl) (by kernel_rfl) (by decide) (From W3.heap.size W3) (fun w w'=>Below w.heap.size w w') (GQ [.val (.int .i64 0),.val (.bool true),.val (.bool true),.val (.pointer (some ⟨gB,0,none⟩)),.val (.int .i64 2),.val (.bool true),.val (.bool true),.val (.bool true),.val (.pointer (some ⟨gB,1,none⟩)),.val (.slice (some ⟨bU,oU,none⟩) 1 cU),.val (.int .i64 1),.val (.bool true),.val (.bool true),.val (.bool true),.val (.pointer (some ⟨gB,1,none⟩)),.val (.slice (some ⟨bU,oU,none⟩) 1 cU),.val (.pointer (some ⟨bU,oU,none⟩)),.val (.agg #[.slice ua un uc,.bool ub,.slice uan unn ucn,.slice uad und ucd]),.frm (varA 0),.frm (varA 1),.frm FS,.val (.bool true),.val (.bool true),.val (.bool true),.val (.pointer (some ⟨gB,2,none⟩)),.val (.slice (some ⟨bO,oO,none⟩) 1 cO),.val (.int .i64 1),.val (.bool true),.val (.bool true),.val (.bool true),.val (.pointer (some ⟨gB,2,none⟩)),.val (.slice (some ⟨bO,oO,none⟩) 1 cO),.val (.pointer (some ⟨bO,oO,none⟩)),.val (.agg #[.slice oa on oc,.bool ob,.slice oan onn ocn,.slice oad ond ocd]),.frm (varA 2),.val (.bool true),.val (.bool true)]) (fun i v w w' h hb=>GQ_below h hb) (From.start (Nat.le_refl _)) ?_ ?_
 ·intro ops hops;have HOps:=hid hops;clear hops;simp only [List.take_succ_cons,List.take_zero,Shows]
  refine ⟨?v0,?v1,?v2,?v3,?v4,?v5,?v6,?v7,?v8,?v9,?v10,?v11,?v12,?v13,?v14,?v15,?v16,?v17,?_,?_,?_,?_,?v22,?v23,?v24,?v25,?v26,?v27,?v28,?v29,?v30,?v31,?v32,?v33,?_,?_,?v36,trivial⟩
  all_goals (intro y' X hR hL;have hB:=hR.base;obtain ⟨k0,k1,k2,klt,e0,e1,e2,e3,elt,g0,g1,g2,g3,glt⟩:=HCe.out X hR.be;simp only [Laid,Region.binds,forall_const,Bool.false_eq_true,false_implies,GQ,List.getElem?_cons_zero,List.getElem?_cons_succ] at hL;simp [fillFrom,Act.put])
  case v0|v1|v2|v6|v7|v12|v13|v22|v23|v28|v29|v36=>
   try simp only [hL]
   clear hL;have HR:=hid hR;clear hR;go_wp2
   first | refine ⟨_,rfl,?_⟩ | skip
   exact ⟨HR.out,Below.refl _ _,rfl⟩
  case v3|v4|v5=>
   try simp only [hL]
   clear hL;have HR:=hid hR;clear hR
   refine wpList_on (HOps.out 2) 21 rfl rfl ?_
   go_wp2
   first | refine ⟨_,rfl,?_⟩ | skip
   exact ⟨HR.out,Below.refl _ _,rfl⟩
  case v8|v9|v10|v11=>
   try simp only [hL]
   clear hL;have HR:=hid hR;clear hR
   refine wpList_on (HOps.out 7) 26 rfl rfl ?_
   go_wp2
   first | refine ⟨_,rfl,?_⟩ | skip
   exact ⟨HR.out,Below.refl _ _,rfl⟩
  case v14|v15|v16|v17=>
   try simp only [hL]
   clear hL;have HR:=hid hR;clear hR
   refine wpList_on (HOps.out 13) 32 rfl rfl ?_
   go_wp2
   first | refine ⟨_,rfl,?_⟩ | skip
   exact ⟨HR.out,Below.refl _ _,rfl⟩
  case v24|v25|v26|v27=>
   try simp only [hL]
   clear hL;have HR:=hid hR;clear hR
   refine wpList_on (HOps.out 23) 42 rfl rfl ?_
   go_wp2
   first | refine ⟨_,rfl,?_⟩ | skip
   exact ⟨HR.out,Below.refl _ _,rfl⟩
  case v30|v31|v32|v33=>
   try simp only [hL]
   clear hL;have HR:=hid hR;clear hR
   refine wpList_on (HOps.out 29) 48 rfl rfl ?_
   go_wp2
   first | refine ⟨_,rfl,?_⟩ | skip
   exact ⟨HR.out,Below.refl _ _,rfl⟩
  ·try simp only [hL]
   clear hL;have HR:=hid hR;clear hR;have HCt:=hid (HV.out X 0)
   refine wpList_on (HOps.out 13) 32 rfl rfl ?_
   go_wp2_with fail
   refine HCt.out.mono ?_
   rintro e w1 ⟨v1,rfl,kv,kb⟩;obtain ⟨KV,KB⟩:=hd2 kv kb;clear kv kb HCt;go_wp2
   first | refine ⟨_,rfl,?_⟩ | skip
   exact ⟨⟨Nat.le_trans HR.out.base KB.out.size,HR.out.be.trans (KB.out.mono HR.out.base)⟩,KB.out,KV.out⟩
  ·generalize y' 18=y18 at hL ⊢;generalize y' 13=y13 at hL ⊢;obtain ⟨H18,rfl,_⟩:=hL;obtain ⟨K18,HR⟩:=hd2 H18 hR;clear hR H18;have HCt:=hid (HV.out X 1)
   refine wpList_on (HOps.out 13) 32 rfl rfl ?_
   go_wp2_with fail
   refine HCt.out.mono ?_
   rintro e w1 ⟨v1,rfl,kv,kb⟩;obtain ⟨KV,KB⟩:=hd2 kv kb;clear kv kb HCt;go_wp2
   first | refine ⟨_,rfl,?_⟩ | skip
   exact ⟨⟨Nat.le_trans HR.out.base KB.out.size,HR.out.be.trans (KB.out.mono HR.out.base)⟩,KB.out,KV.out⟩
  ·generalize y' 18=y18 at hL ⊢;generalize y' 19=y19 at hL ⊢;generalize y' 13=y13 at hL ⊢;obtain ⟨H18,H19,_,rfl,_⟩:=hL;obtain ⟨K18,K19,HR⟩:=hd3 H18 H19 hR;clear hR H18 H19;have HCt:=hid (HSu.out X _ _ K18.out K19.out)
   refine wpList_on (HOps.out 13) 32 rfl rfl ?_
   go_wp2_with fail
   refine HCt.out.mono ?_
   rintro e w1 ⟨v1,rfl,kv,kb⟩;obtain ⟨KV,KB⟩:=hd2 kv kb;clear kv kb HCt;go_wp2
   first | refine ⟨_,rfl,?_⟩ | skip
   exact ⟨⟨Nat.le_trans HR.out.base KB.out.size,HR.out.be.trans (KB.out.mono HR.out.base)⟩,KB.out,KV.out⟩
  ·generalize y' 17=y17 at hL ⊢;generalize y' 20=y20 at hL ⊢;generalize y' 13=y13 at hL ⊢;obtain ⟨rfl,H20,_,rfl,_⟩:=hL;obtain ⟨K20,HR⟩:=hd2 H20 hR;clear hR H20;have HCt:=hid (HE1.out X HR.out.be _ K20.out)
   refine wpList_on (HOps.out 13) 32 rfl rfl ?_
   go_wp2_with fail
   refine HCt.out.mono ?_
   rintro e w1 ⟨v1,rfl,kv,kb⟩;obtain ⟨KV,KB⟩:=hd2 kv kb;clear kv kb HCt;go_wp2
   first | refine ⟨_,rfl,?_⟩ | skip
   exact ⟨⟨Nat.le_trans HR.out.base KB.out.size,HR.out.be.trans (KB.out.mono HR.out.base)⟩,KB.out,KV.out⟩
  ·try simp only [hL]
   clear hL;have HR:=hid hR;clear hR;have HCt:=hid (HV.out X 2)
   refine wpList_on (HOps.out 29) 48 rfl rfl ?_
   go_wp2_with fail
   refine HCt.out.mono ?_
   rintro e w1 ⟨v1,rfl,kv,kb⟩;obtain ⟨KV,KB⟩:=hd2 kv kb;clear kv kb HCt;go_wp2
   first | refine ⟨_,rfl,?_⟩ | skip
   exact ⟨⟨Nat.le_trans HR.out.base KB.out.size,HR.out.be.trans (KB.out.mono HR.out.base)⟩,KB.out,KV.out⟩
  ·generalize y' 33=y33 at hL ⊢;generalize y' 34=y34 at hL ⊢;generalize y' 29=y29 at hL ⊢;obtain ⟨rfl,H34,_,rfl,_⟩:=hL;obtain ⟨K34,HR⟩:=hd2 H34 hR;clear hR H34;have HCt:=hid (HE2.out X HR.out.be _ K34.out)
   refine wpList_on (HOps.out 29) 48 rfl rfl ?_
   go_wp2_with fail
   refine HCt.out.mono ?_
   rintro e w1 ⟨v1,rfl,kv,kb⟩;obtain ⟨KV,KB⟩:=hd2 kv kb;clear kv kb HCt;go_wp2
   first | refine ⟨_,rfl,?_⟩ | skip
   exact ⟨⟨Nat.le_trans HR.out.base KB.out.size,HR.out.be.trans (KB.out.mono HR.out.base)⟩,KB.out,KV.out⟩
 ·intro ops y' X hR hL;have hB:=hR.base;have J36:=hL.2;simp only [GQ,List.getElem?_cons_zero,List.getElem?_cons_succ] at J36;obtain ⟨k0,k1,k2,klt,e0,e1,e2,e3,elt,g0,g1,g2,g3,glt⟩:=HCe.out X hR.be;clear hL;simp only [List.take_succ_cons,List.take_zero,List.drop_succ_cons,List.drop_zero];simp [fillFrom,Act.put];generalize y' 36=y36 at J36 ⊢;obtain rfl:=J36;have HR:=hid hR;clear hR;clear k0 k1 k2 klt e0 e1 e2 e3 elt g0 g1 g2 g3 glt;have HBe2:=htr HBW HR.out.be;go_wp2;go_ret;exact ⟨rfl,HBe2.out⟩
def TupV (w:World) (v:Value) (G:GraphQ) (e:Int):Prop:=∃ u,v=.tuple #[u,.int .i64 e]/\GraphV w u G
theorem lowN {w:World} {m:ModL} {G:GraphQ} {e1:Int} {a1 a2:Option Addr} (c1 c2:Nat) (h1:Ints w Any a1 m.input) (h2:LaysAt w a2 m.layers) (hr:∀ l ∈ m.layers,LayRange l) (hs:∀ l ∈ m.layers,LayLe l) (hsm:∀ l ∈ m.layers,SmallL l) (hl12:m.layers.length<=12) (hE:lowerL m=(G,e1)) (nI nL:Nat) (hI:nI=m.input.length) (hL:nL=m.layers.length):
  Calls Tryz.prog 12 #[.agg #[.slice a1 nI c1,.slice a2 nL c2]] w (fun e w'=>∃ v,e=.returned v/\TupV w' v G e1/\Below w.heap.size w w'):=by
 rw [hI,hL]
 refine (lLower c1 c2 h1 h2 hr hs hsm hl12).mono ?_
 rintro e w' ⟨v,rfl,hg,hb⟩;rw [hE] at hg;rw [hE];exact ⟨_,rfl,⟨v,rfl,hg⟩,hb⟩
theorem law16Count {w:World} {m:ModL} {a1 a2:Option Addr} (c1 c2:Nat) (h1:Ints w Any a1 m.input) (h2:LaysAt w a2 m.layers) (hc2:m.layers.length<=c2) (hr:∀ l ∈ m.layers,LayRange l) (hs:∀ l ∈ m.layers,LayLe l):
  Calls Tryz.prog 8 #[.agg #[.slice a1 m.input.length c1,.slice a2 m.layers.length c2]] w fun e w'=>e=.returned (.bool true)/\Below w.heap.size w w':=by
 have q1:=h1.len;have q2:=h2.len;obtain ⟨H1,H2,HRg,HSh⟩:=hd4 h1 h2 hr hs;have hbA:=blA w (.cells #[.slice a1 m.input.length c1,.slice a2 m.layers.length c2] 25);have hx:=Box2.alloc w (.slice a1 m.input.length c1) (.slice a2 m.layers.length c2) 25;clear h1 h2 hr hs
 go_enter Tryz.func8,Tryz.ntmps8
 go_upto_region 1 with fail
 generalize w.alloc (.cells #[.slice a1 m.input.length c1,.slice a2 m.layers.length c2] 25)=W at *;obtain ⟨HB,HX⟩:=hd2 hbA hx;clear hbA hx
 go_wp2_with fail
 refine (awake16 W).mono ?_
 rintro e w1 ⟨rfl,hb1⟩;have HB1:=htr HB hb1;have HX1:=hid (HX.out.below hb1);obtain ⟨x0,x1,xf,xlt⟩:=HX1.out;have HF:=hid (kFair16 c1 c2 (H1.out.below HB1.out) (H2.out.below HB1.out) HSh.out);clear hb1 HX
 cases hf:fairE m [] with
 | false=>
  rw [hf] at HF;clear hf
  go_wp2_with fail
  refine HF.out.mono ?_
  rintro e w2 ⟨rfl,hb2⟩;have HB2:=htr HB1 hb2;clear hb2 x0 x1 xf xlt
  go_wp2_with fail
  refine (awake16 w2).mono ?_
  rintro e w3 ⟨rfl,hb3⟩;have HB3:=htr HB2 hb3;clear hb3;go_wp2;go_ret;exact ⟨rfl,HB3.out⟩
 | true=>
 rw [hf] at HF;have HP:=hid (fair_paid hf);clear hf
 go_wp2_with fail
 refine HF.out.mono ?_
 rintro e w2 ⟨rfl,hb2⟩;have HB2:=htr HB1 hb2;have HX2:=hid (HX1.out.below hb2);clear hb2 x0 x1 xf xlt HF;obtain ⟨x0,x1,xf,xlt⟩:=HX2.out;have hl8:=HP.out.lens;obtain ⟨G1,e1,hE1⟩:∃ G1 e1,lowerL m=(G1,e1):=⟨_,_,rfl⟩
 obtain ⟨n,hn⟩:∃ n:Int,n=(countL m).1:=⟨_,rfl⟩
 obtain ⟨f,hf⟩:∃ f:Int,f=(countL m).2:=⟨_,rfl⟩
 have HLaw:Hid (e1=0->(G1.units.length:Int)=n):=fun h=>by
  subst h;rw [hn];exact (lower_count hE1).1
 have HC:=hid (lCount (m:=m) c1 c2 (H1.out.below HB2.out) (H2.out.below HB2.out) HRg.out HSh.out);rw [<- hn, <- hf] at HC
 go_wp2_with fail
 refine HC.out.mono ?_
 rintro e w3 ⟨rfl,hb⟩;have HB3:=htr HB2 hb;obtain ⟨HX3,HC2⟩:=hd2 (HX2.out.below hb) (r16Count (m:=m) c1 c2 (H1.out.below HB3.out) (H2.out.below HB3.out) HRg.out HSh.out);rw [<- hn, <- hf] at HC2;obtain ⟨Hn,Hf,HE1⟩:=hd3 hn hf hE1;clear hb x0 x1 xf xlt HC hn hf hE1;obtain ⟨x0,x1,xf,xlt⟩:=HX3.out
 go_wp2_with fail
 refine HC2.out.mono ?_
 rintro e w4 ⟨rfl,hb⟩;have HB4:=htr HB3 hb;obtain ⟨HX4,HL⟩:=hd2 (HX3.out.below hb) (lowN c1 c2 (H1.out.below HB4.out) (H2.out.below HB4.out) HRg.out HSh.out HP.out.sm (by omega) HE1.out _ _ rfl rfl);clear hb x0 x1 xf xlt HC2;obtain ⟨x0,x1,xf,xlt⟩:=HX4.out
 go_wp2_with fail
 refine HL.out.mono ?_
 rintro e w5 ⟨v,rfl,⟨u,rfl,hg⟩,hb⟩;obtain ⟨aU1,cU1,aO1,cO1,rfl,hu1,ho1,hU1,hO1⟩:=hg.ex;have HB5:=htr HB4 hb;have hal:=blA w5 (.cells #[.int .i64 (G1.inputs:Int),.slice aU1 G1.units.length cU1,.slice aO1 G1.outs.length cO1] 30);have HB6:=htr HB5 hal;have hlu:=hU1.len;clear hb hg hU1 hO1 hal x0 x1 xf xlt HL hu1 ho1;have ht1:(n==n)=true:=by simp
 have ht2:(f==f)=true:=by simp
 by_cases he:e1=0
 ·have hq:=HLaw.out he;have t1:(e1 != 0)=false:=by rw [he];rfl
  have t1':decide (¬ e1=0)=false:=by simp [he]
  have t2:((G1.units.length:Int)==n)=true:=by rw [hq];simp
  have t3:decide ((G1.units.length:Int)=n)=true:=by rw [hq];simp
  have Hq:=hid hq;clear hq he;go_wp2;go_ret;exact ⟨ret_bool (by simp [Hq.out]),HB6.out⟩
 ·have t1:(e1 != 0)=true:=by rw [bne_iff_ne];exact he
  have t1':decide (¬ e1=0)=true:=by simp [he]
  clear he;go_wp2;go_ret;exact ⟨rfl,HB6.out⟩
end Go.Proofs.YtfgmmghmmfmdgaaGreat
