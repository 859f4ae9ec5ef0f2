/-
  Contracts of the functions that the statement reaches: LqB, LqC, LqE, LqD, RhD, SlotsH, ModAp.
-/
import Derived.Test.YtfgmmghmmfmdgaaGreatR46
import Derived.Test.YtfgmmghmmfmdgaaGreatR47
set_option linter.all false
set_option maxRecDepth 100000
set_option maxHeartbeats 3200000
namespace Go.Proofs.YtfgmmghmmfmdgaaGreat
open Go.RowKit
open Go.Lib (hid)
theorem bd_var (v N:Nat) (h:v < N):BdF 1 1 N (varA v):=by
 have h0:Bd 1 1 (0:Rat):=Bd.zero (by omega);have h1:Bd 1 1 (1:Rat):=⟨by omega,1,by rw [Rat.mkRat_one];rfl,by decide⟩
 refine ⟨varA_can v,?_,h0,fun u=>?_⟩
 ·show topT [(v,1)]<=N
  unfold topT
  first | exact h | (simp [topT];omega)
 ·show Bd 1 1 (coefT [(v,1)] u)
  unfold coefT
  split
  ·exact h1
  ·exact h0
theorem pow_gt3 (n:Nat) (h:1<=n):3 < 4294967296^n:=Nat.lt_of_lt_of_le (show 3 < 4294967296^1 by decide) (Nat.pow_le_pow_right (by omega) h)
theorem pay_12:Pay 1 (1+1):=by
 unfold Pay;generalize hE:(524285:Nat)=E;have h1:1<=E:=by omega
 clear hE;exact pow_gt3 E h1
theorem low_ex {a:Array Value} {W:World} (h:Calls Tryz.prog 12 a W (LowPost W (lowerL exM))):
  Calls Tryz.prog 12 a W (fun e w'=>∃ v,e=.returned (.tuple #[v,.int .i64 0])/\GraphV w' v ⟨2,[addA (-1) (varA 0) (varA 1)],[varA 2]⟩/\Below W.heap.size W w'):=by
 rw [exM_lower] at h;exact h.mono fun e w' h=>h
theorem awake16 (w:World):Calls Tryz.prog 10 #[] w fun e w'=>e=.returned (.bool true)/\Below w.heap.size w w':=by
 have hOf1:∀ W,Calls Tryz.prog 27 #[.int .i64 1] W (RetR W (ratL 1)):=fun W=>r3Of W 1 (by omega) (by omega)
 have hOfm:∀ W,Calls Tryz.prog 27 #[.int .i64 (-1)] W (RetR W (ratL (-1))):=fun W=>r3Of W (-1) (by omega) (by omega)
 go_enter Tryz.func10,Tryz.ntmps10
 go_wp2_with fail
 refine (hOf1 _).mono ?_
 rintro e w1 ⟨v1,rfl,kv1,kb1⟩
 go_wp2_with fail
 refine (hOfm _).mono ?_
 rintro e w2 ⟨v2,rfl,kv2,kb2⟩;obtain ⟨p,hp⟩:∃ p,p=ratL 1:=⟨_,rfl⟩
 obtain ⟨q,hq⟩:∃ q,q=ratL (-1):=⟨_,rfl⟩
 rw [<- hp] at kv1;rw [<- hq] at kv2;obtain ⟨an,ad,cn,cd,rfl,b2,b3,b4,b5⟩:=kv1.ex;obtain ⟨bn,bd,dn,dd,rfl,g2,g3,g4,g5⟩:=kv2.ex;obtain ⟨hp1,hq1,HB1,HB2,HP4,HP5⟩:=hd6 hp hq kb1 kb2 b4 b5;obtain ⟨HG4,HG5⟩:=hd2 g4 g5;clear hp hq kv1 kv2 kb1 kb2 b4 b5 g4 g5
 go_upto_region 2 with fail
 generalize hAe:(((w2.alloc (.cells #[.bool p.neg,.slice an p.num.length cn,.slice ad p.den.length cd,.bool q.neg,.slice bn q.num.length dn,.slice bd q.den.length dd] 51)).alloc (zerO 51)).alloc
   (.cells #[.int .i64 1,.int .i64 0,.int .i64 1,.int .i64 0,.int .i64 0,.int .i64 0,.int .i64 0,.slice (some ⟨w2.heap.size,0,none⟩) 2 2,.slice (some ⟨w2.heap.size+1,0,none⟩) 1 1,.int .i64 5,.int .i64 0,.int .i64 0,.int .i64 0,.int .i64 0,.int .i64 0,.int .i64 0,.slice none 0 0,.slice none 0 0] 44)).alloc
   (.cells #[.slice (some ⟨w.heap.size,0,none⟩) 1 1,.slice (some ⟨w2.heap.size+1+1,0,none⟩) 2 2] 25)=W1
 obtain ⟨hi,hla,hc0,hc1,hlt,hbe⟩:=ex_mem hp1.out hq1.out HB1.out HB2.out b2 b3 HP4.out HP5.out g2 g3 HG4.out HG5.out hAe.symm;obtain ⟨FS,hFS⟩:∃ FS,FS=addA (-1) (varA 0) (varA 1):=⟨_,rfl⟩
 have hLow:Calls Tryz.prog 12 #[.agg #[.slice (some ⟨w.heap.size,0,none⟩) 1 1,.slice (some ⟨w2.heap.size+1+1,0,none⟩) 2 2]] W1 (fun e w'=>∃ v,e=.returned (.tuple #[v,.int .i64 0])/\GraphV w' v ⟨2,[FS],[varA 2]⟩/\Below W1.heap.size W1 w'):=by
  rw [hFS];exact low_ex (lLower (m:=exM) 1 2 hi hla exM_range exM_le exM_small (by decide))
 obtain ⟨HLow,HBe⟩:=hd2 hLow hbe;have HSu:Hid (∀ X v u,FormV X v (varA 0)->FormV X u (varA 1)->Calls Tryz.prog 28 #[v,u] X (RetAf X FS)):=fun X v u h1 h2=>by
  rw [hFS];exact r7Sub h1 h2 (bd_var 0 2 (by omega)) (bd_var 1 2 (by omega)) pay_12 (by omega)
 have HV:Hid (∀ X (v:Nat),Calls Tryz.prog 22 #[.int .i64 (v:Int)] X (RetAf X (varA v))):=fun X v=>r16Var X v
 have HFS:=hid hFS;clear hi hla hbe hAe HP4 HP5 HG4 HG5 HB1 HB2 hLow hFS
 go_wp2_with fail
 refine HLow.out.mono ?_
 rintro e wl ⟨v,rfl,hg,hb⟩;obtain ⟨aU,cU,aO,cO,rfl,hcU,hcO,hU,hO⟩:=hg.ex;simp only [List.length_cons,List.length_nil,Nat.zero_add] at hcU hcO;obtain ⟨bU,oU,fU,u0,u1,u2,u3,rfl,hbU,hxU,cu0,cu1,cu2,cu3,hvU⟩:=hU.pick (k:=0) (by simp);obtain ⟨bO,oO,fO,o0,o1,o2,o3,rfl,hbO,hxO,co0,co1,co2,co3,hvO⟩:=hO.pick (k:=0) (by simp);obtain rfl:FS=fU:=by simpa using hxU
 obtain rfl:varA 2=fO:=by simpa using hxO
 rw [Nat.zero_mul,Nat.add_zero] at cu0 cu1 cu2 cu3 co0 co1 co2 co3;obtain ⟨ua,un,uc,ub,uan,unn,ucn,uad,und,ucd,rfl,rfl,rfl,rfl⟩:=hvU.spell;obtain ⟨oa,on,oc,ob,oan,onn,ocn,oad,ond,ocd,rfl,rfl,rfl,rfl⟩:=hvO.spell;obtain ⟨HUv,HOv⟩:=hd2 hvU.val hvO.val;have HBl:=htr HBe hb;have hal:=blA wl (.cells #[.int .i64 2,.slice (some ⟨bU,oU,none⟩) 1 cU,.slice (some ⟨bO,oO,none⟩) 1 cO] 30);have hbx:=Box3.alloc wl (.int .i64 2) (.slice (some ⟨bU,oU,none⟩) 1 cU) (.slice (some ⟨bO,oO,none⟩) 1 cO) 30;obtain ⟨W3,hW3⟩:∃ W3,W3=wl.alloc (.cells #[.int .i64 2,.slice (some ⟨bU,oU,none⟩) 1 cU,.slice (some ⟨bO,oO,none⟩) 1 cO] 30):=⟨_,rfl⟩
 rw [<- hW3] at hal hbx;obtain ⟨gB,hgB⟩:∃ gB,gB=wl.heap.size:=⟨_,rfl⟩
 rw [<- hgB] at hbx;have hlU:=hal.size;have HCe:Hid (∀ X,Below W3.heap.size W3 X->X.cell? ⟨gB,0,none⟩=some (.int .i64 2)/\X.cell? ⟨gB,1,none⟩=some (.slice (some ⟨bU,oU,none⟩) 1 cU)/\X.cell? ⟨gB,2,none⟩=some (.slice (some ⟨bO,oO,none⟩) 1 cO)/\gB < X.heap.size/\
   X.cell? ⟨bU,oU,none⟩=some (.slice ua un uc)/\X.cell? ⟨bU,oU+1,none⟩=some (.bool ub)/\X.cell? ⟨bU,oU+2,none⟩=some (.slice uan unn ucn)/\X.cell? ⟨bU,oU+3,none⟩=some (.slice uad und ucd)/\bU < X.heap.size/\
   X.cell? ⟨bO,oO,none⟩=some (.slice oa on oc)/\X.cell? ⟨bO,oO+1,none⟩=some (.bool ob)/\X.cell? ⟨bO,oO+2,none⟩=some (.slice oan onn ocn)/\X.cell? ⟨bO,oO+3,none⟩=some (.slice oad ond ocd)/\bO < X.heap.size):=fun X hB=>by
  have k:=hbx.below hB;have hB2:Below wl.heap.size wl X:=hal.trans (hB.mono hal.size);have hsz:=hB2.size;exact ⟨k.c0,k.c1,k.c2,k.lt,(hB2.cell hbU).trans cu0,(hB2.cell hbU).trans cu1,(hB2.cell hbU).trans cu2,(hB2.cell hbU).trans cu3,by omega,
   (hB2.cell hbO).trans co0,(hB2.cell hbO).trans co1,(hB2.cell hbO).trans co2,(hB2.cell hbO).trans co3,by omega⟩
 have HE1:Hid (∀ X,Below W3.heap.size W3 X->∀ u,FormV X u FS->Calls Tryz.prog 21 #[.agg #[.slice ua un uc,.bool ub,.slice uan unn ucn,.slice uad und ucd],u] X (fun e w'=>∃ v,e=.returned v/\v=.bool true/\Below X.heap.size X w')):=fun X hB u hu=>by
  refine (r7Equal (HUv.out.below (hal.trans (hB.mono hal.size))) hu).mono ?_
  rintro e w' ⟨rfl,hb⟩;exact ⟨_,rfl,by rw [(eqA_iff _ _).2 rfl],hb⟩
 have HE2:Hid (∀ X,Below W3.heap.size W3 X->∀ u,FormV X u (varA 2)->Calls Tryz.prog 21 #[.agg #[.slice oa on oc,.bool ob,.slice oan onn ocn,.slice oad ond ocd],u] X (fun e w'=>∃ v,e=.returned v/\v=.bool true/\Below X.heap.size X w')):=fun X hB u hu=>by
  refine (r7Equal (HOv.out.below (hal.trans (hB.mono hal.size))) hu).mono ?_
  rintro e w' ⟨rfl,hb⟩;exact ⟨_,rfl,by rw [(eqA_iff _ _).2 rfl],hb⟩
 have HBW:=htr HBl hal;obtain ⟨HW3,HGB⟩:=hd2 hW3 hgB;clear hg hU hO hvU hvO cu0 cu1 cu2 cu3 co0 co1 co2 co3 hxU hxO hal hbx hW3 hb HLow hgB hlU
 go_upto_region 3 with fail
 try simp only [List.length_cons,List.length_nil,Nat.zero_add]
 rw [<- HGB.out];rw [<- HW3.out]
 refine wp_region_slots_tail_g 37 (by kernel_rfl) (by kernel_rfl) (by kernel_rfl) (by kernel_rfl) (by decide) (From W3.heap.size W3) (fun w w'=>Below w.heap.size w w') (GQ [.val (.int .i64 0),.val (.bool true),.val (.bool true),.val (.pointer (some ⟨gB,0,none⟩)),.val (.int .i64 2),.val (.bool true),.val (.bool true),.val (.bool true),.val (.pointer (some ⟨gB,1,none⟩)),.val (.slice (some ⟨bU,oU,none⟩) 1 cU),.val (.int .i64 1),.val (.bool true),.val (.bool true),.val (.bool true),.val (.pointer (some ⟨gB,1,none⟩)),.val (.slice (some ⟨bU,oU,none⟩) 1 cU),.val (.pointer (some ⟨bU,oU,none⟩)),.val (.agg #[.slice ua un uc,.bool ub,.slice uan unn ucn,.slice uad und ucd]),.frm (varA 0),.frm (varA 1),.frm FS,.val (.bool true),.val (.bool true),.val (.bool true),.val (.pointer (some ⟨gB,2,none⟩)),.val (.slice (some ⟨bO,oO,none⟩) 1 cO),.val (.int .i64 1),.val (.bool true),.val (.bool true),.val (.bool true),.val (.pointer (some ⟨gB,2,none⟩)),.val (.slice (some ⟨bO,oO,none⟩) 1 cO),.val (.pointer (some ⟨bO,oO,none⟩)),.val (.agg #[.slice oa on oc,.bool ob,.slice oan onn ocn,.slice oad ond ocd]),.frm (varA 2),.val (.bool true),.val (.bool true)]) (fun i v w w' h hb=>GQ_below h hb) (From.start (Nat.le_refl _)) ?_ ?_
 ·intro ops hops;have HOps:=hid hops;clear hops;simp only [List.take_succ_cons,List.take_zero,Shows]
  refine ⟨?v0,?v1,?v2,?v3,?v4,?v5,?v6,?v7,?v8,?v9,?v10,?v11,?v12,?v13,?v14,?v15,?v16,?v17,?_,?_,?_,?_,?v22,?v23,?v24,?v25,?v26,?v27,?v28,?v29,?v30,?v31,?v32,?v33,?_,?_,?v36,trivial⟩
  all_goals (intro y' X hR hL;have hB:=hR.base;obtain ⟨k0,k1,k2,klt,e0,e1,e2,e3,elt,g0,g1,g2,g3,glt⟩:=HCe.out X hR.be;simp only [Laid,Region.binds,forall_const,Bool.false_eq_true,false_implies,GQ,List.getElem?_cons_zero,List.getElem?_cons_succ] at hL;simp [fillFrom,Act.put])
  case v0|v1|v2|v6|v7|v12|v13|v22|v23|v28|v29|v36=>
   try simp only [hL]
   clear hL;have HR:=hid hR;clear hR;go_wp2
   first | refine ⟨_,rfl,?_⟩ | skip
   exact ⟨HR.out,Below.refl _ _,rfl⟩
  case v3|v4|v5=>
   try simp only [hL]
   clear hL;have HR:=hid hR;clear hR
   refine wpList_on (HOps.out 2) 21 rfl rfl ?_
   go_wp2
   first | refine ⟨_,rfl,?_⟩ | skip
   exact ⟨HR.out,Below.refl _ _,rfl⟩
  case v8|v9|v10|v11=>
   try simp only [hL]
   clear hL;have HR:=hid hR;clear hR
   refine wpList_on (HOps.out 7) 26 rfl rfl ?_
   go_wp2
   first | refine ⟨_,rfl,?_⟩ | skip
   exact ⟨HR.out,Below.refl _ _,rfl⟩
  case v14|v15|v16|v17=>
   try simp only [hL]
   clear hL;have HR:=hid hR;clear hR
   refine wpList_on (HOps.out 13) 32 rfl rfl ?_
   go_wp2
   first | refine ⟨_,rfl,?_⟩ | skip
   exact ⟨HR.out,Below.refl _ _,rfl⟩
  case v24|v25|v26|v27=>
   try simp only [hL]
   clear hL;have HR:=hid hR;clear hR
   refine wpList_on (HOps.out 23) 42 rfl rfl ?_
   go_wp2
   first | refine ⟨_,rfl,?_⟩ | skip
   exact ⟨HR.out,Below.refl _ _,rfl⟩
  case v30|v31|v32|v33=>
   try simp only [hL]
   clear hL;have HR:=hid hR;clear hR
   refine wpList_on (HOps.out 29) 48 rfl rfl ?_
   go_wp2
   first | refine ⟨_,rfl,?_⟩ | skip
   exact ⟨HR.out,Below.refl _ _,rfl⟩
  ·try simp only [hL]
   clear hL;have HR:=hid hR;clear hR;have HCt:=hid (HV.out X 0)
   refine wpList_on (HOps.out 13) 32 rfl rfl ?_
   go_wp2_with fail
   refine HCt.out.mono ?_
   rintro e w1 ⟨v1,rfl,kv,kb⟩;obtain ⟨KV,KB⟩:=hd2 kv kb;clear kv kb HCt;go_wp2
   first | refine ⟨_,rfl,?_⟩ | skip
   exact ⟨⟨Nat.le_trans HR.out.base KB.out.size,HR.out.be.trans (KB.out.mono HR.out.base)⟩,KB.out,KV.out⟩
  ·generalize y' 18=y18 at hL ⊢;generalize y' 13=y13 at hL ⊢;obtain ⟨H18,rfl,_⟩:=hL;obtain ⟨K18,HR⟩:=hd2 H18 hR;clear hR H18;have HCt:=hid (HV.out X 1)
   refine wpList_on (HOps.out 13) 32 rfl rfl ?_
   go_wp2_with fail
   refine HCt.out.mono ?_
   rintro e w1 ⟨v1,rfl,kv,kb⟩;obtain ⟨KV,KB⟩:=hd2 kv kb;clear kv kb HCt;go_wp2
   first | refine ⟨_,rfl,?_⟩ | skip
   exact ⟨⟨Nat.le_trans HR.out.base KB.out.size,HR.out.be.trans (KB.out.mono HR.out.base)⟩,KB.out,KV.out⟩
  ·generalize y' 18=y18 at hL ⊢;generalize y' 19=y19 at hL ⊢;generalize y' 13=y13 at hL ⊢;obtain ⟨H18,H19,_,rfl,_⟩:=hL;obtain ⟨K18,K19,HR⟩:=hd3 H18 H19 hR;clear hR H18 H19;have HCt:=hid (HSu.out X _ _ K18.out K19.out)
   refine wpList_on (HOps.out 13) 32 rfl rfl ?_
   go_wp2_with fail
   refine HCt.out.mono ?_
   rintro e w1 ⟨v1,rfl,kv,kb⟩;obtain ⟨KV,KB⟩:=hd2 kv kb;clear kv kb HCt;go_wp2
   first | refine ⟨_,rfl,?_⟩ | skip
   exact ⟨⟨Nat.le_trans HR.out.base KB.out.size,HR.out.be.trans (KB.out.mono HR.out.base)⟩,KB.out,KV.out⟩
  ·generalize y' 17=y17 at hL ⊢;generalize y' 20=y20 at hL ⊢;generalize y' 13=y13 at hL ⊢;obtain ⟨rfl,H20,_,rfl,_⟩:=hL;obtain ⟨K20,HR⟩:=hd2 H20 hR;clear hR H20;have HCt:=hid (HE1.out X HR.out.be _ K20.out)
   refine wpList_on (HOps.out 13) 32 rfl rfl ?_
   go_wp2_with fail
   refine HCt.out.mono ?_
   rintro e w1 ⟨v1,rfl,kv,kb⟩;obtain ⟨KV,KB⟩:=hd2 kv kb;clear kv kb HCt;go_wp2
   first | refine ⟨_,rfl,?_⟩ | skip
   exact ⟨⟨Nat.le_trans HR.out.base KB.out.size,HR.out.be.trans (KB.out.mono HR.out.base)⟩,KB.out,KV.out⟩
  ·try simp only [hL]
   clear hL;have HR:=hid hR;clear hR;have HCt:=hid (HV.out X 2)
   refine wpList_on (HOps.out 29) 48 rfl rfl ?_
   go_wp2_with fail
   refine HCt.out.mono ?_
   rintro e w1 ⟨v1,rfl,kv,kb⟩;obtain ⟨KV,KB⟩:=hd2 kv kb;clear kv kb HCt;go_wp2
   first | refine ⟨_,rfl,?_⟩ | skip
   exact ⟨⟨Nat.le_trans HR.out.base KB.out.size,HR.out.be.trans (KB.out.mono HR.out.base)⟩,KB.out,KV.out⟩
  ·generalize y' 33=y33 at hL ⊢;generalize y' 34=y34 at hL ⊢;generalize y' 29=y29 at hL ⊢;obtain ⟨rfl,H34,_,rfl,_⟩:=hL;obtain ⟨K34,HR⟩:=hd2 H34 hR;clear hR H34;have HCt:=hid (HE2.out X HR.out.be _ K34.out)
   refine wpList_on (HOps.out 29) 48 rfl rfl ?_
   go_wp2_with fail
   refine HCt.out.mono ?_
   rintro e w1 ⟨v1,rfl,kv,kb⟩;obtain ⟨KV,KB⟩:=hd2 kv kb;clear kv kb HCt;go_wp2
   first | refine ⟨_,rfl,?_⟩ | skip
   exact ⟨⟨Nat.le_trans HR.out.base KB.out.size,HR.out.be.trans (KB.out.mono HR.out.base)⟩,KB.out,KV.out⟩
 ·intro ops y' X hR hL;have hB:=hR.base;have J36:=hL.2;simp only [GQ,List.getElem?_cons_zero,List.getElem?_cons_succ] at J36;obtain ⟨k0,k1,k2,klt,e0,e1,e2,e3,elt,g0,g1,g2,g3,glt⟩:=HCe.out X hR.be;clear hL;simp only [List.take_succ_cons,List.take_zero,List.drop_succ_cons,List.drop_zero];simp [fillFrom,Act.put];generalize y' 36=y36 at J36 ⊢;obtain rfl:=J36;have HR:=hid hR;clear hR;clear k0 k1 k2 klt e0 e1 e2 e3 elt g0 g1 g2 g3 glt;have HBe2:=htr HBW HR.out.be;go_wp2;go_ret;exact ⟨rfl,HBe2.out⟩
structure SP where
 p:Value->World->Prop
 keep:∀ v w w',p v w->Below w.heap.size w w'->p v w'
def GP (L:List SP) (i:Nat) (v:Value) (w:World):Prop:=match L[i]? with | some s=>s.p v w | none=>True
theorem GP_below {L:List SP} {i:Nat} {v:Value} {w w':World} (h:GP L i v w) (hb:Below w.heap.size w w'):GP L i v w':=by
 unfold GP at h ⊢
 split
 ·rename_i s e
  rw [e] at h;exact s.keep _ _ _ h hb
 ·trivial
def SP.val (x:Value):SP:=⟨fun v _=>v=x,fun _ _ _ h _=>h⟩
def SP.frm (f:AffQ):SP:=⟨fun v w=>FormV w v f,fun _ _ _ h hb=>h.below hb⟩
def SP.rat (x:RatL):SP:=⟨fun v w=>RatV w v x,fun _ _ _ h hb=>h.below hb⟩
def SP.tru (P:Prop) (b:Bool):SP:=⟨fun v _=>v=.bool b/\P,fun _ _ _ h _=>h⟩
def TupV (w:World) (v:Value) (G:GraphQ) (e:Int):Prop:=∃ u,v=.tuple #[u,.int .i64 e]/\GraphV w u G
def SP.tup (G:GraphQ) (e:Int):SP:=⟨fun v w=>TupV w v G e,fun _ _ _ ⟨u,h,k⟩ hb=>⟨u,h,k.below hb⟩⟩
def SP.grv (G:GraphQ):SP:=⟨fun v w=>GraphV w v G,fun _ _ _ h hb=>h.below hb⟩
structure GBx (w:World) (b:Nat) (G:GraphQ) (aU:Option Addr) (cU:Nat) (aO:Option Addr) (cO:Nat):Prop where
 bx:Box3 w b (.int .i64 (G.inputs:Int)) (.slice aU G.units.length cU) (.slice aO G.outs.length cO)
 lu:G.units.length<=cU
 lo:G.outs.length<=cO
 us:FormsAt w aU G.units
 os:FormsAt w aO G.outs
theorem GBx.below {w w':World} {b:Nat} {G:GraphQ} {aU aO:Option Addr} {cU cO:Nat} (h:GBx w b G aU cU aO cO) (hb:Below w.heap.size w w'):GBx w' b G aU cU aO cO:=
 ⟨h.bx.below hb,h.lu,h.lo,h.us.below formK hb,h.os.below formK hb⟩
theorem GBx.alloc {w:World} {G:GraphQ} {aU aO:Option Addr} {cU cO:Nat} (hu:G.units.length<=cU) (ho:G.outs.length<=cO) (h1:FormsAt w aU G.units) (h2:FormsAt w aO G.outs) (T:Nat):
  GBx (w.alloc (.cells #[.int .i64 (G.inputs:Int),.slice aU G.units.length cU,.slice aO G.outs.length cO] T)) w.heap.size G aU cU aO cO:=
 have hal:=blA w (.cells #[.int .i64 (G.inputs:Int),.slice aU G.units.length cU,.slice aO G.outs.length cO] T)
 ⟨Box3.alloc _ _ _ _ _,hu,ho,h1.below formK hal,h2.below formK hal⟩
theorem Box3.putG {w:World} {g:Nat} {p q r:Value} (h:Box3 w g p q r) (p' q' r':Value):Box3 (((w.setCell ⟨g,0,none⟩ p').setCell ⟨g,1,none⟩ q').setCell ⟨g,2,none⟩ r') g p' q' r':=by
 have n01:(⟨g,1,none⟩:Addr) ≠ ⟨g,0,none⟩:=by intro e;cases e
 have n02:(⟨g,2,none⟩:Addr) ≠ ⟨g,0,none⟩:=by intro e;cases e
 have n12:(⟨g,2,none⟩:Addr) ≠ ⟨g,1,none⟩:=by intro e;cases e
 refine ⟨?_,?_,?_,fun o=>by simp [World.frozen?_setCell,h.free o],by simpa using h.lt⟩
 ·rw [World.cell?_setCell_other _ _ _ _ n02,World.cell?_setCell_other _ _ _ _ n01,World.cell?_setCell_same _ _ _ h.c0]
 ·rw [World.cell?_setCell_other _ _ _ _ n12,World.cell?_setCell_same _ _ _ ((World.cell?_setCell_other _ _ _ _ n01.symm).trans h.c1)]
 ·rw [World.cell?_setCell_same _ _ _ ((World.cell?_setCell_other _ _ _ _ n12.symm).trans ((World.cell?_setCell_other _ _ _ _ n02.symm).trans h.c2))]
theorem GBx.put {w:World} {b:Nat} {G:GraphQ} {aU aO:Option Addr} {cU cO:Nat} {p q r:Value} (hb:Box3 w b p q r) (hz:AllB isZF w b) (hu:G.units.length<=cU) (ho:G.outs.length<=cO) (h1:FormsAt w aU G.units) (h2:FormsAt w aO G.outs):
  GBx (((w.setCell ⟨b,0,none⟩ (.int .i64 (G.inputs:Int))).setCell ⟨b,1,none⟩ (.slice aU G.units.length cU)).setCell ⟨b,2,none⟩ (.slice aO G.outs.length cO)) b G aU cU aO cO:=by
 have z1:=hz.setCell 0 (.int .i64 (G.inputs:Int)) rfl;have z2:=z1.setCell 1 (.slice aU G.units.length cU) rfl;exact ⟨hb.putG _ _ _,hu,ho,forms_setZ (forms_setZ (forms_setZ h1 hz) z1) z2,forms_setZ (forms_setZ (forms_setZ h2 hz) z1) z2⟩
theorem put_below {B:Nat} {w W:World} {b:Nat} (h:Below B w W) (hb:B<=b) (p q r:Value):Below B w (((W.setCell ⟨b,0,none⟩ p).setCell ⟨b,1,none⟩ q).setCell ⟨b,2,none⟩ r):=
 ((h.setCell hb _).setCell hb _).setCell hb _
theorem Row4.pre {α:Type} {P:World->Value->Value->Value->Value->α->Prop} {w:World} {a:Option Addr} {L V:List α} (h:Row4 P w a (L++V)):Row4 P w a L:=by
 refine ⟨Nat.le_trans (by simp) h.len,?_⟩
 rcases h.row with e | ⟨b,off,rfl,hb,hc⟩
 ·exact .inl (List.append_eq_nil_iff.1 e).1
 ·exact .inr ⟨b,off,rfl,hb,fun j x hj=>hc j x (by
   have hlt:=(List.getElem?_eq_some_iff.1 hj).1;rw [List.getElem?_append_left hlt];exact hj)⟩
section
variable {W0:World} {L:List SP} {s p q x:Nat} {G:GraphQ} {e:Int} {d:Nat->Bool} {g:Nat->Value} {w:World}
theorem mark_neG {d:Nat->Bool} {i k:Nat} (h:k ≠ i):mark d i k=d k:=by unfold mark;rw [if_neg h]
theorem mark_sameG (d:Nat->Bool) (i:Nat):mark d i i=true:=by unfold mark;rw [if_pos rfl]
theorem upd_neG {g:Nat->Value} {i k:Nat} {v:Value} (h:k ≠ i):upd g i v k=g k:=by unfold upd;rw [if_neg h]
theorem upd_sameG (g:Nat->Value) (i:Nat) (v:Value):upd g i v i=v:=by unfold upd;rw [if_pos rfl]
end
theorem lowN {w:World} {m:ModL} {G:GraphQ} {e1:Int} {a1 a2:Option Addr} (c1 c2:Nat) (h1:Ints w Any a1 m.input) (h2:LaysAt w a2 m.layers) (hr:∀ l ∈ m.layers,LayRange l) (hs:∀ l ∈ m.layers,LayLe l) (hsm:∀ l ∈ m.layers,SmallL l) (hl12:m.layers.length<=12) (hE:lowerL m=(G,e1)) (nI nL:Nat) (hI:nI=m.input.length) (hL:nL=m.layers.length):
  Calls Tryz.prog 12 #[.agg #[.slice a1 nI c1,.slice a2 nL c2]] w (fun e w'=>∃ v,e=.returned v/\TupV w' v G e1/\Below w.heap.size w w'):=by
 rw [hI,hL]
 refine (lLower c1 c2 h1 h2 hr hs hsm hl12).mono ?_
 rintro e w' ⟨v,rfl,hg,hb⟩;rw [hE] at hg;rw [hE];exact ⟨_,rfl,⟨v,rfl,hg⟩,hb⟩
theorem lower_size {m:ModL} {G:GraphQ} (h:lowerL m=(G,0)):(G.inputs:Int)=sizeL m.input/\1<=G.inputs/\G.inputs<=256/\G.units.length<=1024/\1<=G.outs.length/\G.outs.length<=256:=by
 have hcn:=(lower_count h).1;unfold countL at hcn;unfold lowerL at h
 by_cases h0:(shapesL m).2.2=0
 ·rw [if_pos h0] at h hcn
  split at h
  ·simp [emptyG] at h
  ·rename_i hlim
   obtain ⟨T,hF⟩:=fits_of (m:=m) [] h0;obtain ⟨hv,hvT,_⟩:=hF.valid;have hz1:1<=sizeL m.input/\sizeL m.input<=16384:=validL_size hv;have hz2:1<=sizeL (currL m.input T)/\sizeL (currL m.input T)<=16384:=validL_size (curr_ok hv hvT);obtain ⟨x,hx⟩:∃ x:List Rat,x.length=(sizeL m.input).toNat:=⟨List.replicate _ 0,List.length_replicate ..⟩
   have hsz:(x.length:Int)=sizeL m.input:=by omega
   have hI:=low_from (LowI.start hsz) hF.ch;have hc:=curr_size hI.len hI.size hI.x0;have hcl:=congrArg List.length hI.curr.2;rw [List.length_map] at hcl;have hG:G=⟨(sizeL m.input).toNat,(lowFrom (sizeL m.input).toNat m.input (varsF (sizeL m.input).toNat) [] [] [] m.layers).1,currF (varsF (sizeL m.input).toNat) (lowFrom (sizeL m.input).toNat m.input (varsF (sizeL m.input).toNat) [] [] [] m.layers).2⟩:=(congrArg Prod.fst h).symm;have hT:(shapesL m).1=T:=by rw [hF.sh]
   rw [hT] at hlim hcn;rw [List.nil_append] at hc;rw [<- hx] at hG;have ho:(G.outs.length:Int)=sizeL (currL m.input T):=by
    rw [hG];show ((currF (varsF x.length) _).length:Int)=_
    rw [hcl];exact hc
   have hi:(G.inputs:Int)=sizeL m.input:=by rw [hG];exact hsz
   have hu:(G.units.length:Int)=cntL m.layers T:=hcn
   refine ⟨hi,by omega,by omega,by omega,by omega,by omega⟩
 ·rw [if_neg h0] at h;exact absurd (congrArg Prod.snd h) h0
structure OS where
 p:Value->World->Prop
 b:Value->Nat
 keep:∀ v w w',p v w->w'.heap[b v]? =w.heap[b v]? ->p v w'
 lt:∀ v w,p v w->b v < w.heap.size
def blkOf:Value->Nat
 | .slice (some a) _ _=>a.block
 | .pointer (some a)=>a.block
 | _=>0
def OS.blk (o:Obj) (mk:Nat->Value) (hb:∀ b,blkOf (mk b)=b):OS:=⟨fun v w=>∃ b,v=mk b/\w.heap[b]? =some o,blkOf,fun v w w' ⟨b,e,h⟩ hk=>⟨b,e,by subst e;rw [hb] at hk;rw [hk];exact h⟩,
 fun v w ⟨b,e,h⟩=>by subst e;rw [hb];exact (Array.getElem?_eq_some_iff.1 h).1⟩
abbrev mkS (n:Nat) (b:Nat):Value:=.slice (some ⟨b,0,none⟩) n n
abbrev mkP (b:Nat):Value:=.pointer (some ⟨b,0,none⟩)
theorem mkS_b (n:Nat):∀ b,blkOf (mkS n b)=b:=fun _=>rfl
theorem mkP_b:∀ b,blkOf (mkP b)=b:=fun _=>rfl
def OS.row (B:Nat) (T:TypeId) (size n:Nat) (xs:List Value):OS:=⟨fun v w=>w.ownsRow B T size v n xs/\v.ownBlock=some (blkOf v)/\blkOf v < w.heap.size,blkOf,fun v w w' ⟨h,e,hl⟩ hk=>by
  refine ⟨⟨h.1,?_⟩,e,?_⟩
  ·rcases h.2 with k | ⟨g,cap,cur,rfl,k1,k2,k3⟩
   ·exact .inl k
   ·refine .inr ⟨g,cap,cur,rfl,k1,?_,k3⟩
    have hk':w'.heap[g]? =w.heap[g]? :=hk;rw [hk'];exact k2
  ·have:=Array.getElem?_eq_getElem hl;rw [this] at hk;exact (Array.getElem?_eq_some_iff.1 hk).1,fun v w h=>h.2.2⟩
structure OM where
 s:OS
 q:Nat
structure OwJ (W0:World) (M:Nat->Option OM) (V:List (Option Value)) (z:Nat) (later:Nat->Bool) (L:List SP) (d:Nat->Bool) (g:Nat->Value) (w:World):Prop where
 be:Below W0.heap.size W0 w
 own:∀ k m,M k=some m->d k=true->d m.q=false->m.s.p (g k) w/\W0.heap.size<=m.s.b (g k)
 dis:∀ k m k' m',M k=some m->M k'=some m'->k ≠ k'->d k=true->d m.q=false->d k'=true->d m'.q=false->m.s.b (g k) ≠ m'.s.b (g k')
 val:∀ k,d k=true->∀ x,V[k]? =some (some x)->g k=x
 aft:d z=true->∀ k,(k=z ∨ later k=true)->d k=true->GP L k (g k) w
 cl:∀ k,later k=true->d k=true->d z=true
 cz:d z=true->∀ k m,M k=some m->m.q=z->d k=true
theorem mark_q {d:Nat->Bool} {q i:Nat} (h:mark d i q=false):q ≠ i/\d q=false:=by
 by_cases e:q=i
 ·subst e;rw [mark_sameG] at h;cases h
 ·rw [mark_neG e] at h;exact ⟨e,h⟩
section
variable {W0:World} {M:Nat->Option OM} {V:List (Option Value)} {z:Nat} {later:Nat->Bool} {L:List SP} {d:Nat->Bool} {g:Nat->Value} {w:World}
theorem OwJ.start (g:Nat->Value):OwJ W0 M V z later L (fun _=>false) g W0.drew:=
 ⟨(Below.refl _ _).drew,fun _ _ _ h=>(by cases h),fun _ _ _ _ _ _ _ h=>(by cases h),fun _ h=>(by cases h),fun h=>(by cases h),fun _ _ h=>(by cases h),fun h=>(by cases h)⟩
theorem OwJ.next (h:OwJ W0 M V z later L d g w) {i:Nat} {v:Value} {w':World} (hbe:Below W0.heap.size W0 w') (hk:∀ k m,M k=some m->k ≠ i->d k=true->d m.q=false->m.q ≠ i->w'.heap[m.s.b (g k)]? =w.heap[m.s.b (g k)]?)
  (hi:∀ m,M i=some m->m.s.p v w'/\W0.heap.size<=m.s.b v/\∀ k m',M k=some m'->k ≠ i->d k=true->d m'.q=false->m'.q ≠ i->m'.s.b (g k) ≠ m.s.b v)
  (hv:∀ x,V[i]? =some (some x)->v=x) (hL:(i=z ∨ later i=true)->GP L i v w') (ha:d z=true->Below w.heap.size w w') (hc:later i=true->i=z ∨ d z=true)
  (hcz:i=z->∀ k m,M k=some m->m.q=z->d k=true):OwJ W0 M V z later L (mark d i) (upd g i v) w':=by
 refine ⟨hbe,fun k m hm hd hq=>?_,fun k m k' m' hm hm' hne hd hq hd' hq'=>?_,fun k hd x hx=>?_,fun hd k hkk hdk=>?_,fun k hlk hdk=>?_,fun hd k m hm hq=>?_⟩
 ·obtain ⟨q1,q2⟩:=mark_q hq
  by_cases e:k=i
  ·subst e;rw [upd_sameG];exact ⟨(hi m hm).1,(hi m hm).2.1⟩
  ·rw [mark_neG e] at hd;rw [upd_neG e];obtain ⟨h1,h2⟩:=h.own k m hm hd q2;exact ⟨m.s.keep _ _ _ h1 (hk k m hm e hd q2 q1),h2⟩
 ·obtain ⟨q1,q2⟩:=mark_q hq;obtain ⟨q1',q2'⟩:=mark_q hq'
  by_cases e:k=i
  ·subst e;have e':k' ≠ k:=Ne.symm hne;rw [mark_neG e'] at hd';rw [upd_sameG,upd_neG e'];exact Ne.symm ((hi m hm).2.2 k' m' hm' e' hd' q2' q1')
  ·rw [mark_neG e] at hd
   by_cases e':k'=i
   ·subst e';rw [upd_sameG,upd_neG e];exact (hi m' hm').2.2 k m hm e hd q2 q1
   ·rw [mark_neG e'] at hd';rw [upd_neG e,upd_neG e'];exact h.dis k m k' m' hm hm' hne hd q2 hd' q2'
 ·by_cases e:k=i
  ·subst e;rw [upd_sameG];exact hv x hx
  ·rw [upd_neG e];rw [mark_neG e] at hd;exact h.val k hd x hx
 ·by_cases e:k=i
  ·subst e;rw [upd_sameG];exact hL hkk
  ·rw [upd_neG e];rw [mark_neG e] at hdk;have hdz:d z=true:=by
    rcases hkk with rfl | hlk
    ·exact hdk
    ·exact h.cl k hlk hdk
   exact GP_below (h.aft hdz k hkk hdk) (ha hdz)
 ·by_cases e:k=i
  ·subst e
   rcases hc hlk with e2 | e2
   ·rw [<- e2,mark_sameG]
   ·by_cases e3:z=k
    ·rw [e3,mark_sameG]
    ·rw [mark_neG e3];exact e2
  ·rw [mark_neG e] at hdk;have:=h.cl k hlk hdk
   by_cases e3:z=i
   ·rw [e3,mark_sameG]
   ·rw [mark_neG e3];exact this
 ·have hk:d k=true:=by
   by_cases e:i=z
   ·exact hcz e k m hm hq
   ·rw [mark_neG (Ne.symm e)] at hd;exact h.cz hd k m hm hq
  by_cases e:k=i
  ·rw [e,mark_sameG]
  ·rw [mark_neG e];exact hk
theorem OwJ.value (h:OwJ W0 M V z later L d g w) {i:Nat} {v:Value} {w':World} (hM:M i=none) (hz:i ≠ z) (hv:∀ x,V[i]? =some (some x)->v=x) (hb:Below w.heap.size w w') (hL:later i=true->GP L i v w') (hc:later i=true->d z=true):OwJ W0 M V z later L (mark d i) (upd g i v) w':=
 h.next (h.be.trans (hb.mono h.be.size)) (fun k m hm _ hd hq _=>hb.block _ (m.s.lt _ _ (h.own k m hm hd hq).1)) (fun m hm=>by rw [hM] at hm;cases hm) hv (fun hh=>hh.elim (fun e=>absurd e hz) hL) (fun _=>hb) (fun e=>.inr (hc e)) (fun e=>absurd e hz)
theorem OwJ.here (h:OwJ W0 M V z later L d g w) {i:Nat} {v:Value} (hM:M i=none) (hz:i ≠ z) (hl:later i=false) (hv:∀ x,V[i]? =some (some x)->v=x):OwJ W0 M V z later L (mark d i) (upd g i v) w:=
 h.value hM hz hv (Below.refl _ _) (fun e=>by rw [hl] at e;cases e) (fun e=>by rw [hl] at e;cases e)
theorem OwJ.make (h:OwJ W0 M V z later L d g w) {i:Nat} {v:Value} {w':World} {m:OM} (hM:M i=some m) (hz:i ≠ z) (hl:later i=false) (hV:V[i]? =none ∨ V[i]? =some none) (hb:Below w.heap.size w w') (hp:m.s.p v w') (hn:w.heap.size<=m.s.b v):OwJ W0 M V z later L (mark d i) (upd g i v) w':=
 h.next (h.be.trans (hb.mono h.be.size)) (fun k m hm _ hd hq _=>hb.block _ (m.s.lt _ _ (h.own k m hm hd hq).1))
  (fun m2 hm2=>by
   rw [hM] at hm2;cases hm2;exact ⟨hp,Nat.le_trans h.be.size hn,fun k m' hm' _ hd hq _=>by have:=m'.s.lt _ _ (h.own k m' hm' hd hq).1;omega⟩)
  (fun x hx=>by rcases hV with e | e <;> (rw [e] at hx;cases hx)) (fun hh=>hh.elim (fun e=>absurd e hz) (fun e=>by rw [hl] at e;cases e)) (fun _=>hb) (fun e=>by rw [hl] at e;cases e) (fun e=>absurd e hz)
theorem OwJ.app (h:OwJ W0 M V z later L d g w) {i r:Nat} {v:Value} {w':World} {mr:OM} (hr:M r=some mr) (hri:r ≠ i) (hq:mr.q=i) (hdr:d r=true) (hdi:d i=false) (hdz:d z=false) (hl:later i=false) (hV:V[i]? =none ∨ V[i]? =some none)
  (hg:∀ k,k < w.heap.size->k ≠ mr.s.b (g r)->w'.heap[k]? =w.heap[k]?) (hbe:Below W0.heap.size W0 w')
  (hp:∀ m,M i=some m->m.s.p v w'/\(m.s.b v=mr.s.b (g r) ∨ w.heap.size<=m.s.b v)) (hL:i=z->GP L i v w') (hcz:i=z->∀ k m,M k=some m->m.q=z->d k=true):OwJ W0 M V z later L (mark d i) (upd g i v) w':=by
 obtain ⟨hr1,hr2⟩:=h.own r mr hr hdr (by rw [hq];exact hdi);have hlt:=mr.s.lt _ _ hr1;have hdis:∀ k m,M k=some m->d k=true->d m.q=false->m.q ≠ i->m.s.b (g k) ≠ mr.s.b (g r):=fun k m hm hd hqd hne=>by
  refine h.dis k m r mr hm hr (fun e=>?_) hd hqd hdr (by rw [hq];exact hdi)
  subst e;rw [hr] at hm;cases hm;exact hne hq
 have hbase:W0.heap.size<=w'.heap.size:=hbe.size
 refine h.next hbe (fun k m hm _ hd hqd hne=>hg _ (m.s.lt _ _ (h.own k m hm hd hqd).1) (hdis k m hm hd hqd hne)) (fun m hm=>?_) (fun x hx=>by rcases hV with e | e <;> (rw [e] at hx;cases hx)) (fun hh=>hh.elim hL (fun e=>by rw [hl] at e;cases e)) (fun e=>by rw [hdz] at e;cases e) (fun e=>by rw [hl] at e;cases e) hcz
 obtain ⟨p1,p2⟩:=hp m hm
 refine ⟨p1,?_,fun k m' hm' _ hd hqd hne=>?_⟩
 ·rcases p2 with e | e
  ·rw [e];exact hr2
  ·exact Nat.le_trans h.be.size e
 ·rcases p2 with e | e
  ·rw [e];exact hdis k m' hm' hd hqd hne
  ·have:=m'.s.lt _ _ (h.own k m' hm' hd hqd).1;omega
theorem OwJ.of (h:OwJ W0 M V z later L d g w) {k:Nat} {m:OM} (hM:M k=some m) (hd:d k=true) (hq:d m.q=false):m.s.p (g k) w/\W0.heap.size<=m.s.b (g k):=h.own k m hM hd hq
theorem OwJ.notz (h:OwJ W0 M V z later L d g w) {i:Nat} {m:OM} (hM:M i=some m) (hq:m.q=z) (hd:d i=false):d z=false:=by
 cases hz:d z with
 | false=>rfl
 | true=>rw [h.cz hz i m hM hq] at hd;cases hd
end
structure St2J (W0:World) (I:(Nat->Bool)->(Nat->Value)->World->Prop) (s p q x:Nat) (G:GraphQ) (e:Int) (d:Nat->Bool) (g:Nat->Value) (w:World):Prop where
 be:Below W0.heap.size W0 w
 ph:d s=false->I d g w
 put:d s=true->(∀ i,i < s->i ≠ x->d i=true)/\(∃ b aU cU aO cO,g p=.pointer (some ⟨b,0,none⟩)/\W0.heap.size<=b/\GBx w b G aU cU aO cO)/\(∃ u,g q=.tuple #[u,.int .i64 e])/\(d x=true->g x=.int .i64 e)
section
variable {W0:World} {I:(Nat->Bool)->(Nat->Value)->World->Prop} {s p q x:Nat} {G:GraphQ} {e:Int} {d:Nat->Bool} {g:Nat->Value} {w:World}
theorem St2J.start (g:Nat->Value) (h:I (fun _=>false) g W0.drew):St2J W0 I s p q x G e (fun _=>false) g W0.drew:=⟨(Below.refl _ _).drew,fun _=>h,fun h=>by cases h⟩
theorem St2J.open' (h:St2J W0 I s p q x G e d g w) {i:Nat} (hi:d i=false) (his:i < s) (hne:i ≠ x):d s=false:=by
 cases hs:d s with
 | false=>rfl
 | true=>
  have:=(h.put hs).1 i his hne;rw [hi] at this;cases this
theorem St2J.get (h:St2J W0 I s p q x G e d g w) {i:Nat} (hi:d i=false) (his:i < s) (hne:i ≠ x):I d g w:=h.ph (h.open' hi his hne)
theorem St2J.step (h:St2J W0 I s p q x G e d g w) {i:Nat} {v:Value} {w':World} (hi:d i=false) (his:i < s) (hne:i ≠ x) (hI:I (mark d i) (upd g i v) w') (hb:Below W0.heap.size W0 w'):St2J W0 I s p q x G e (mark d i) (upd g i v) w':=by
 have hs:=h.open' hi his hne
 refine ⟨hb,fun _=>hI,fun hc=>?_⟩
 rw [mark_neG (by omega),hs] at hc;cases hc
theorem St2J.snd (h:St2J W0 I s p q x G e d g w) (hI:d s=false->I (mark d x) (upd g x (.int .i64 e)) w) (hxs:x < s) (hpx:p ≠ x) (hqx:q ≠ x):St2J W0 I s p q x G e (mark d x) (upd g x (.int .i64 e)) w:=by
 refine ⟨h.be,fun hs=>?_,fun hs=>?_⟩
 ·rw [mark_neG (by omega)] at hs;exact hI hs
 ·rw [mark_neG (by omega)] at hs;obtain ⟨k1,k2,k3,k4⟩:=h.put hs
  refine ⟨fun i hi hne=>by rw [mark_neG hne];exact k1 i hi hne,?_,?_,fun _=>upd_sameG _ _ _⟩
  ·rw [upd_neG hpx];exact k2
  ·rw [upd_neG hqx];exact k3
theorem St2J.store (h:St2J W0 I s p q x G e d g w) (hall:∀ i,i < s->i ≠ x->d i=true) {b:Nat} {aU aO:Option Addr} {cU cO:Nat} {v:Value} {w':World} (hp:g p=.pointer (some ⟨b,0,none⟩)) (hb:W0.heap.size<=b) (hG:GBx w' b G aU cU aO cO) (hbe:Below W0.heap.size W0 w')
  (hq:∃ u,g q=.tuple #[u,.int .i64 e]) (hx:d x=true->g x=.int .i64 e) (hps:p < s) (hqs:q < s) (hxs:x < s):St2J W0 I s p q x G e (mark d s) (upd g s v) w':=by
 refine ⟨hbe,fun hs=>?_,fun _=>⟨fun i hi hne=>?_,?_,?_,fun hdx=>?_⟩⟩
 ·rw [mark_sameG] at hs;cases hs
 ·rw [mark_neG (by omega)];exact hall i hi hne
 ·rw [upd_neG (by omega)];exact ⟨b,aU,cU,aO,cO,hp,hb,hG⟩
 ·rw [upd_neG (by omega)];exact hq
 ·rw [upd_neG (by omega)];rw [mark_neG (by omega)] at hdx;exact hx hdx
theorem St2J.fin (h:St2J W0 I s p q x G e d g w) (hs:d s=true) (hx:d x=true):(∃ b aU cU aO cO,g p=.pointer (some ⟨b,0,none⟩)/\W0.heap.size<=b/\GBx w b G aU cU aO cO)/\g x=.int .i64 e:=
 ⟨(h.put hs).2.1,(h.put hs).2.2.2 hx⟩
end
theorem srcOK_heap {w:World} {g T:Nat} {c:List Value} (h:w.heap[g]? =some (.cells c.toArray T (0,0))) (h9:c.length=9) (h1:∀ u ∈ c,u.oneCell'=true):SrcOK w (some ⟨g,0,none⟩) 1 9 c:=by
 refine ⟨by omega,h1,fun _=>⟨g,0,rfl,(Array.getElem?_eq_some_iff.1 h).1,fun j u hj=>?_⟩⟩
 simp [World.cell?,h]
 simpa using hj
theorem flat9_inv:∀ {CL:List (List Value)} {k:Nat} {u:Value},(∀ c ∈ CL,c.length=9)->CL.flatten[k]? =some u->∃ c,CL[k / 9]? =some c/\c[k % 9]? =some u:=by
 intro CL
 induction CL with
 | nil=>intro k u _ h;simp at h
 | cons d r ih=>
  intro k u h9 h;have hd:=h9 d (by simp);rw [List.flatten_cons] at h
  by_cases hk:k < 9
  ·rw [List.getElem?_append_left (by omega)] at h;exact ⟨d,by rw [Nat.div_eq_of_lt hk];rfl,by rw [Nat.mod_eq_of_lt hk];exact h⟩
  ·rw [List.getElem?_append_right (by omega),hd] at h;obtain ⟨c,e1,e2⟩:=ih (fun c hc=>h9 c (by simp [hc])) h
   refine ⟨c,?_,?_⟩
   ·rw [show k / 9=(k - 9) / 9+1 by omega];simpa using e1
   ·rw [show k % 9=(k - 9) % 9 by omega];exact e2
structure Lays9 (w:World) (CL:List (List Value)) (L:List LayL):Prop where
 len:CL.length=L.length
 nine:∀ c ∈ CL,c.length=9
 row:∀ (j:Nat) (c:List Value) (l:LayL),CL[j]? =some c->L[j]? =some l->∃ a1 a2 c1 c2,c=layC l a1 a2 c1 c2/\RatsAt w a1 l.weights/\RatsAt w a2 l.bias
theorem LaysAt.src {w:World} {a:Option Addr} {L:List LayL} (h:LaysAt w a L):∃ CL,Lays9 w CL L/\SrcOK w a L.length 9 CL.flatten:=by
 rcases h.row with rfl | ⟨b,off,rfl,hb,hc⟩
 ·exact ⟨[],⟨rfl,by simp,by simp⟩,⟨by simp,by simp,by simp⟩⟩
 ·have hcell:∀ j,∃ c:List Value,∀ l,L[j]? =some l->∃ a1 a2 c1 c2,c=layC l a1 a2 c1 c2/\RatsAt w a1 l.weights/\RatsAt w a2 l.bias/\∀ (i:Nat) (u:Value),c[i]? =some u->w.cell? ⟨b,off+j * 9+i,none⟩=some u:=by
   intro j
   cases hj:L[j]? with
   | none=>exact ⟨[],fun l h=>by cases h⟩
   | some l=>
    obtain ⟨a1,a2,c1,c2,⟨h0,h1,h2,h3,h4,h5,h6,h7,h8⟩,k1,k2⟩:=hc j l hj
    refine ⟨layC l a1 a2 c1 c2,fun l' h=>?_⟩
    cases h
    refine ⟨a1,a2,c1,c2,rfl,k1,k2,fun i u hu=>?_⟩
    have hi:i < 9:=by have:=(List.getElem?_eq_some_iff.1 hu).1;rw [layC_len] at this;exact this
    have:i=0 ∨ i=1 ∨ i=2 ∨ i=3 ∨ i=4 ∨ i=5 ∨ i=6 ∨ i=7 ∨ i=8:=by omega
    rcases this with rfl | rfl | rfl | rfl | rfl | rfl | rfl | rfl | rfl <;> (cases hu;assumption)
  have hex:∃ f:Nat->List Value,∀ j l,L[j]? =some l->∃ a1 a2 c1 c2,f j=layC l a1 a2 c1 c2/\RatsAt w a1 l.weights/\RatsAt w a2 l.bias/\∀ (i:Nat) (u:Value),(f j)[i]? =some u->w.cell? ⟨b,off+j * 9+i,none⟩=some u:=
   ⟨fun j=>(hcell j).choose,fun j=>(hcell j).choose_spec⟩
  obtain ⟨f,hf⟩:=hex;have hget:∀ j c,((List.range L.length).map f)[j]? =some c->j < L.length/\c=f j:=by
   intro j c hj;have hlt:=(List.getElem?_eq_some_iff.1 hj).1;simp at hlt;rw [List.getElem?_map,List.getElem?_range hlt] at hj;exact ⟨hlt,(Option.some.inj hj).symm⟩
  have h9:∀ c ∈ (List.range L.length).map f,c.length=9:=by
   intro c hm;obtain ⟨j,hj⟩:=List.getElem?_of_mem hm;obtain ⟨hlt,rfl⟩:=hget j c hj;obtain ⟨a1,a2,c1,c2,e,_⟩:=hf j L[j] (List.getElem?_eq_getElem hlt);rw [e];rfl
  have hrow:Lays9 w ((List.range L.length).map f) L:=by
   refine ⟨by simp,h9,fun j c l hj hl=>?_⟩
   obtain ⟨_,rfl⟩:=hget j c hj;obtain ⟨a1,a2,c1,c2,e,r1,r2,_⟩:=hf j l hl;exact ⟨a1,a2,c1,c2,e,r1,r2⟩
  refine ⟨_,hrow,⟨?_,?_,fun _=>⟨b,off,rfl,hb,fun k u hk=>?_⟩⟩⟩
  ·have:∀ (CL:List (List Value)),(∀ c ∈ CL,c.length=9)->CL.flatten.length=CL.length * 9:=by
    intro CL
    induction CL with
    | nil=>intro _;rfl
    | cons d r ih=>intro h;rw [List.flatten_cons,List.length_append,ih (fun c hc=>h c (by simp [hc])),h d (by simp),List.length_cons];omega
   rw [this _ h9];simp
  ·intro u hu;obtain ⟨c,hc1,hc2⟩:=List.mem_flatten.1 hu;obtain ⟨j,hj⟩:=List.getElem?_of_mem hc1;obtain ⟨hlt,rfl⟩:=hget j c hj;obtain ⟨a1,a2,c1,c2,e,_⟩:=hf j L[j] (List.getElem?_eq_getElem hlt);rw [e] at hc2;exact layC_one _ _ _ _ _ u hc2
  ·obtain ⟨c,e1,e2⟩:=flat9_inv h9 hk;obtain ⟨hlt,rfl⟩:=hget _ c e1;obtain ⟨_,_,_,_,_,_,_,hcl⟩:=hf (k / 9) L[k / 9] (List.getElem?_eq_getElem hlt);have:=hcl _ u e2;rw [show off+k / 9 * 9+k % 9=off+k by omega] at this;exact this
theorem lays_app {W w:World} {base:Nat} {v:Value} {CL:List (List Value)} {L:List LayL} {l:LayL} {b1 b2:Option Addr} {d1 d2:Nat} (hr:Lays9 W CL L) (h1:RatsAt W b1 l.weights) (h2:RatsAt W b2 l.bias) (hb:Below W.heap.size W w) (hL:L.length<=1000)
  (hown:w.ownsRow base 44 9 v (0+L.length+1) ([]++CL.flatten++layC l b1 b2 d1 d2)):∃ a cap,v=.slice a (L.length+1) cap/\LaysAt w a (L++[l]):=by
 have e:([]++CL.flatten++layC l b1 b2 d1 d2)=(CL++[layC l b1 b2 d1 d2]).flatten:=by simp
 rw [e,Nat.zero_add] at hown;obtain ⟨a,cap,hv,hl⟩:=own_lays (L:=L++[l]) hown (by simp) (by omega) (by simp [hr.len]) (fun j c x hc hx=>by
  by_cases hj:j < L.length
  ·rw [List.getElem?_append_left (by rw [hr.len];exact hj)] at hc;rw [List.getElem?_append_left hj] at hx;obtain ⟨a1,a2,c1,c2,e,r1,r2⟩:=hr.row j c x hc hx;exact ⟨a1,a2,c1,c2,e,r1.below hb,r2.below hb⟩
  ·have hlt:=(List.getElem?_eq_some_iff.1 hx).1;rw [List.length_append] at hlt;simp at hlt;obtain rfl:j=L.length:=by omega
   have e1:c=layC l b1 b2 d1 d2:=by rw [<- hr.len] at hc;simpa using hc.symm
   have e2:x=l:=by simpa using hx.symm
   subst e1 e2;exact ⟨b1,b2,d1,d2,rfl,h1.below hb,h2.below hb⟩)
  (fun c hc=>by
   rcases List.mem_append.1 hc with h | h
   ·exact hr.nine c h
   ·simp at h;subst h;rfl)
 exact ⟨a,cap,by rw [hv];simp,hl⟩
end Go.Proofs.YtfgmmghmmfmdgaaGreat
