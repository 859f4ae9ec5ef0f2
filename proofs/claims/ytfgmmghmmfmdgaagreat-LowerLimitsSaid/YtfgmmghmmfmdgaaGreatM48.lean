/-
  Contracts of the functions that the statement reaches: LqB, LqC, LqE, LqD, LqF.
-/
import Derived.Test.YtfgmmghmmfmdgaaGreatM46
import Derived.Test.YtfgmmghmmfmdgaaGreatM47
set_option linter.all false
set_option maxRecDepth 100000
set_option maxHeartbeats 3200000
namespace Go.Proofs.YtfgmmghmmfmdgaaGreat
open Go.RowKit
open Go.Lib (hid)
theorem bd_var (v N:Nat) (h:v < N):BdF 1 1 N (varA v):=by
 have h0:Bd 1 1 (0:Rat):=Bd.zero (by omega)
 have h1:Bd 1 1 (1:Rat):=⟨by omega,1,by rw [Rat.mkRat_one];rfl,by decide⟩
 refine ⟨varA_can v,?_,h0,fun u=>?_⟩
 ·show topT [(v,1)]<=N
  unfold topT
  first | exact h | (simp [topT];omega)
 ·show Bd 1 1 (coefT [(v,1)] u)
  unfold coefT
  split
  ·exact h1
  ·exact h0
theorem pow_gt3 (n:Nat) (h:1<=n):3 < 4294967296^n:=Nat.lt_of_lt_of_le (show 3 < 4294967296^1 by decide) (Nat.pow_le_pow_right (by omega) h)
theorem pay_12:Pay 1 (1+1):=by
 unfold Pay
 generalize hE:(524285:Nat)=E
 have h1:1<=E:=by omega
 clear hE
 exact pow_gt3 E h1
theorem low_ex {a:Array Value} {W:World} (h:Calls Tryz.prog 12 a W (LowPost W (lowerL exM))):
  Calls Tryz.prog 12 a W (fun e w'=>∃ v,e=.returned (.tuple #[v,.int .i64 0])/\GraphV w' v ⟨2,[addA (-1) (varA 0) (varA 1)],[varA 2]⟩/\Below W.heap.size W w'):=by
 rw [exM_lower] at h
 exact h.mono fun e w' h=>h
theorem awake16 (w:World):Calls Tryz.prog 10 #[] w fun e w'=>e=.returned (.bool true)/\Below w.heap.size w w':=by
 have hOf1:∀ W,Calls Tryz.prog 27 #[.int .i64 1] W (RetR W (ratL 1)):=fun W=>r3Of W 1 (by omega) (by omega)
 have hOfm:∀ W,Calls Tryz.prog 27 #[.int .i64 (-1)] W (RetR W (ratL (-1))):=fun W=>r3Of W (-1) (by omega) (by omega)
 go_enter Tryz.func10,Tryz.ntmps10
 go_wp2_with fail
 refine (hOf1 _).mono ?_
 rintro e w1 ⟨v1,rfl,kv1,kb1⟩
 go_wp2_with fail
 refine (hOfm _).mono ?_
 rintro e w2 ⟨v2,rfl,kv2,kb2⟩
 obtain ⟨p,hp⟩:∃ p,p=ratL 1:=⟨_,rfl⟩
 obtain ⟨q,hq⟩:∃ q,q=ratL (-1):=⟨_,rfl⟩
 rw [<- hp] at kv1
 rw [<- hq] at kv2
 obtain ⟨an,ad,cn,cd,rfl,b2,b3,b4,b5⟩:=kv1.ex
 obtain ⟨bn,bd,dn,dd,rfl,g2,g3,g4,g5⟩:=kv2.ex
 have hp1:=hid hp
 have hq1:=hid hq
 have HB1:=hid kb1
 have HB2:=hid kb2
 have HP4:=hid b4
 have HP5:=hid b5
 have HG4:=hid g4
 have HG5:=hid g5
 clear hp hq kv1 kv2 kb1 kb2 b4 b5 g4 g5
 go_upto_region 2 with fail
 generalize hAe:(((w2.alloc (.cells #[.bool p.neg,.slice an p.num.length cn,.slice ad p.den.length cd,.bool q.neg,.slice bn q.num.length dn,.slice bd q.den.length dd] 51)).alloc (zerO 51)).alloc
   (.cells #[.int .i64 1,.int .i64 0,.int .i64 1,.int .i64 0,.int .i64 0,.int .i64 0,.int .i64 0,.slice (some ⟨w2.heap.size,0,none⟩) 2 2,.slice (some ⟨w2.heap.size+1,0,none⟩) 1 1,.int .i64 5,.int .i64 0,.int .i64 0,.int .i64 0,.int .i64 0,.int .i64 0,.int .i64 0,.slice none 0 0,.slice none 0 0] 44)).alloc
   (.cells #[.slice (some ⟨w.heap.size,0,none⟩) 1 1,.slice (some ⟨w2.heap.size+1+1,0,none⟩) 2 2] 25)=W1
 obtain ⟨hi,hla,hc0,hc1,hlt,hbe⟩:=ex_mem hp1.out hq1.out HB1.out HB2.out b2 b3 HP4.out HP5.out g2 g3 HG4.out HG5.out hAe.symm
 obtain ⟨FS,hFS⟩:∃ FS,FS=addA (-1) (varA 0) (varA 1):=⟨_,rfl⟩
 have hLow:Calls Tryz.prog 12 #[.agg #[.slice (some ⟨w.heap.size,0,none⟩) 1 1,.slice (some ⟨w2.heap.size+1+1,0,none⟩) 2 2]] W1 (fun e w'=>∃ v,e=.returned (.tuple #[v,.int .i64 0])/\GraphV w' v ⟨2,[FS],[varA 2]⟩/\Below W1.heap.size W1 w'):=by
  rw [hFS]
  exact low_ex (lLower (m:=exM) 1 2 hi hla exM_range exM_le exM_small (by decide))
 have HLow:=hid hLow
 have HBe:=hid hbe
 have HSu:Hid (∀ X v u,FormV X v (varA 0)->FormV X u (varA 1)->Calls Tryz.prog 28 #[v,u] X (RetAf X FS)):=fun X v u h1 h2=>by
  rw [hFS]
  exact r7Sub h1 h2 (bd_var 0 2 (by omega)) (bd_var 1 2 (by omega)) pay_12 (by omega)
 have HV:Hid (∀ X (v:Nat),Calls Tryz.prog 22 #[.int .i64 (v:Int)] X (RetAf X (varA v))):=fun X v=>r16Var X v
 have HFS:=hid hFS
 clear hi hla hbe hAe HP4 HP5 HG4 HG5 HB1 HB2 hLow hFS
 go_wp2_with fail
 refine HLow.out.mono ?_
 rintro e wl ⟨v,rfl,hg,hb⟩
 obtain ⟨aU,cU,aO,cO,rfl,hcU,hcO,hU,hO⟩:=hg.ex
 simp only [List.length_cons,List.length_nil,Nat.zero_add] at hcU hcO
 obtain ⟨bU,oU,fU,u0,u1,u2,u3,rfl,hbU,hxU,cu0,cu1,cu2,cu3,hvU⟩:=hU.pick (k:=0) (by simp)
 obtain ⟨bO,oO,fO,o0,o1,o2,o3,rfl,hbO,hxO,co0,co1,co2,co3,hvO⟩:=hO.pick (k:=0) (by simp)
 obtain rfl:FS=fU:=by simpa using hxU
 obtain rfl:varA 2=fO:=by simpa using hxO
 rw [Nat.zero_mul,Nat.add_zero] at cu0 cu1 cu2 cu3 co0 co1 co2 co3
 obtain ⟨ua,un,uc,ub,uan,unn,ucn,uad,und,ucd,rfl,rfl,rfl,rfl⟩:=hvU.spell
 obtain ⟨oa,on,oc,ob,oan,onn,ocn,oad,ond,ocd,rfl,rfl,rfl,rfl⟩:=hvO.spell
 have HUv:=hid hvU.val
 have HOv:=hid hvO.val
 have HBl:=hid (HBe.out.trans (hb.mono HBe.out.size))
 have hal:Below wl.heap.size wl (wl.alloc (.cells #[.int .i64 2,.slice (some ⟨bU,oU,none⟩) 1 cU,.slice (some ⟨bO,oO,none⟩) 1 cO] 30)):=(Below.refl _ _).alloc (Nat.le_refl _) _
 have hbx:=Box3.alloc wl (.int .i64 2) (.slice (some ⟨bU,oU,none⟩) 1 cU) (.slice (some ⟨bO,oO,none⟩) 1 cO) 30
 obtain ⟨W3,hW3⟩:∃ W3,W3=wl.alloc (.cells #[.int .i64 2,.slice (some ⟨bU,oU,none⟩) 1 cU,.slice (some ⟨bO,oO,none⟩) 1 cO] 30):=⟨_,rfl⟩
 rw [<- hW3] at hal hbx
 obtain ⟨gB,hgB⟩:∃ gB,gB=wl.heap.size:=⟨_,rfl⟩
 rw [<- hgB] at hbx
 have hlU:=hal.size
 have HCe:Hid (∀ X,Below W3.heap.size W3 X->X.cell? ⟨gB,0,none⟩=some (.int .i64 2)/\X.cell? ⟨gB,1,none⟩=some (.slice (some ⟨bU,oU,none⟩) 1 cU)/\X.cell? ⟨gB,2,none⟩=some (.slice (some ⟨bO,oO,none⟩) 1 cO)/\gB < X.heap.size/\
   X.cell? ⟨bU,oU,none⟩=some (.slice ua un uc)/\X.cell? ⟨bU,oU+1,none⟩=some (.bool ub)/\X.cell? ⟨bU,oU+2,none⟩=some (.slice uan unn ucn)/\X.cell? ⟨bU,oU+3,none⟩=some (.slice uad und ucd)/\bU < X.heap.size/\
   X.cell? ⟨bO,oO,none⟩=some (.slice oa on oc)/\X.cell? ⟨bO,oO+1,none⟩=some (.bool ob)/\X.cell? ⟨bO,oO+2,none⟩=some (.slice oan onn ocn)/\X.cell? ⟨bO,oO+3,none⟩=some (.slice oad ond ocd)/\bO < X.heap.size):=fun X hB=>by
  have k:=hbx.below hB
  have hB2:Below wl.heap.size wl X:=hal.trans (hB.mono hal.size)
  have hsz:=hB2.size
  exact ⟨k.c0,k.c1,k.c2,k.lt,(hB2.cell hbU).trans cu0,(hB2.cell hbU).trans cu1,(hB2.cell hbU).trans cu2,(hB2.cell hbU).trans cu3,by omega,
   (hB2.cell hbO).trans co0,(hB2.cell hbO).trans co1,(hB2.cell hbO).trans co2,(hB2.cell hbO).trans co3,by omega⟩
 have HE1:Hid (∀ X,Below W3.heap.size W3 X->∀ u,FormV X u FS->Calls Tryz.prog 21 #[.agg #[.slice ua un uc,.bool ub,.slice uan unn ucn,.slice uad und ucd],u] X (fun e w'=>∃ v,e=.returned v/\v=.bool true/\Below X.heap.size X w')):=fun X hB u hu=>by
  refine (r7Equal (HUv.out.below (hal.trans (hB.mono hal.size))) hu).mono ?_
  rintro e w' ⟨rfl,hb⟩
  exact ⟨_,rfl,by rw [(eqA_iff _ _).2 rfl],hb⟩
 have HE2:Hid (∀ X,Below W3.heap.size W3 X->∀ u,FormV X u (varA 2)->Calls Tryz.prog 21 #[.agg #[.slice oa on oc,.bool ob,.slice oan onn ocn,.slice oad ond ocd],u] X (fun e w'=>∃ v,e=.returned v/\v=.bool true/\Below X.heap.size X w')):=fun X hB u hu=>by
  refine (r7Equal (HOv.out.below (hal.trans (hB.mono hal.size))) hu).mono ?_
  rintro e w' ⟨rfl,hb⟩
  exact ⟨_,rfl,by rw [(eqA_iff _ _).2 rfl],hb⟩
 have HBW:=hid (HBl.out.trans (hal.mono HBl.out.size))
 have HW3:=hid hW3
 have HGB:=hid hgB
 clear hg hU hO hvU hvO cu0 cu1 cu2 cu3 co0 co1 co2 co3 hxU hxO hal hbx hW3 hb HLow hgB hlU
 go_upto_region 3 with fail
 try simp only [List.length_cons,List.length_nil,Nat.zero_add]
 rw [<- HGB.out]
 rw [<- HW3.out]
 refine wp_region_slots_tail_g 37 (by kernel_rfl) (by kernel_rfl) (by kernel_rfl) (by kernel_rfl) (by decide) (From W3.heap.size W3) (fun w w'=>Below w.heap.size w w') (GQ [.val (.int .i64 0),.val (.bool true),.val (.bool true),.val (.pointer (some ⟨gB,0,none⟩)),.val (.int .i64 2),.val (.bool true),.val (.bool true),.val (.bool true),.val (.pointer (some ⟨gB,1,none⟩)),.val (.slice (some ⟨bU,oU,none⟩) 1 cU),.val (.int .i64 1),.val (.bool true),.val (.bool true),.val (.bool true),.val (.pointer (some ⟨gB,1,none⟩)),.val (.slice (some ⟨bU,oU,none⟩) 1 cU),.val (.pointer (some ⟨bU,oU,none⟩)),.val (.agg #[.slice ua un uc,.bool ub,.slice uan unn ucn,.slice uad und ucd]),.frm (varA 0),.frm (varA 1),.frm FS,.val (.bool true),.val (.bool true),.val (.bool true),.val (.pointer (some ⟨gB,2,none⟩)),.val (.slice (some ⟨bO,oO,none⟩) 1 cO),.val (.int .i64 1),.val (.bool true),.val (.bool true),.val (.bool true),.val (.pointer (some ⟨gB,2,none⟩)),.val (.slice (some ⟨bO,oO,none⟩) 1 cO),.val (.pointer (some ⟨bO,oO,none⟩)),.val (.agg #[.slice oa on oc,.bool ob,.slice oan onn ocn,.slice oad ond ocd]),.frm (varA 2),.val (.bool true),.val (.bool true)]) (fun i v w w' h hb=>GQ_below h hb) (From.start (Nat.le_refl _)) ?_ ?_
 ·intro ops hops
  have HOps:=hid hops
  clear hops
  simp only [List.take_succ_cons,List.take_zero,Shows]
  refine ⟨?_,?_,?_,?_,?_,?_,?_,?_,?_,?_,?_,?_,?_,?_,?_,?_,?_,?_,?_,?_,?_,?_,?_,?_,?_,?_,?_,?_,?_,?_,?_,?_,?_,?_,?_,?_,?_,trivial⟩
  all_goals (intro y' X hR hL;have hB:=hR.base;obtain ⟨k0,k1,k2,klt,e0,e1,e2,e3,elt,g0,g1,g2,g3,glt⟩:=HCe.out X hR.be;simp only [Laid,Region.binds,forall_const,Bool.false_eq_true,false_implies,GQ,List.getElem?_cons_zero,List.getElem?_cons_succ] at hL;simp [fillFrom,Act.put])
  ·clear hL
   have HR:=hid hR
   clear hR
   go_wp2
   first | refine ⟨_,rfl,?_⟩ | skip
   exact ⟨HR.out,Below.refl _ _,rfl⟩
  ·generalize y' 0=y0 at hL ⊢
   obtain ⟨rfl,_⟩:=hL
   have HR:=hid hR
   clear hR
   go_wp2
   first | refine ⟨_,rfl,?_⟩ | skip
   exact ⟨HR.out,Below.refl _ _,rfl⟩
  ·generalize y' 1=y1 at hL ⊢
   obtain ⟨rfl,_⟩:=hL
   have HR:=hid hR
   clear hR
   go_wp2
   first | refine ⟨_,rfl,?_⟩ | skip
   exact ⟨HR.out,Below.refl _ _,rfl⟩
  ·generalize y' 2=y2 at hL ⊢
   obtain ⟨rfl,_⟩:=hL
   have HR:=hid hR
   clear hR
   refine wpList_on (HOps.out 2) 21 rfl rfl ?_
   go_wp2
   first | refine ⟨_,rfl,?_⟩ | skip
   exact ⟨HR.out,Below.refl _ _,rfl⟩
  ·generalize y' 3=y3 at hL ⊢
   generalize y' 2=y2 at hL ⊢
   obtain ⟨rfl,rfl,_⟩:=hL
   have HR:=hid hR
   clear hR
   refine wpList_on (HOps.out 2) 21 rfl rfl ?_
   go_wp2
   first | refine ⟨_,rfl,?_⟩ | skip
   exact ⟨HR.out,Below.refl _ _,rfl⟩
  ·generalize y' 4=y4 at hL ⊢
   generalize y' 2=y2 at hL ⊢
   obtain ⟨rfl,rfl,_⟩:=hL
   have HR:=hid hR
   clear hR
   refine wpList_on (HOps.out 2) 21 rfl rfl ?_
   go_wp2
   first | refine ⟨_,rfl,?_⟩ | skip
   exact ⟨HR.out,Below.refl _ _,rfl⟩
  ·generalize y' 2=y2 at hL ⊢
   generalize y' 5=y5 at hL ⊢
   obtain ⟨rfl,rfl,_⟩:=hL
   have HR:=hid hR
   clear hR
   go_wp2
   first | refine ⟨_,rfl,?_⟩ | skip
   exact ⟨HR.out,Below.refl _ _,rfl⟩
  ·generalize y' 6=y6 at hL ⊢
   generalize y' 2=y2 at hL ⊢
   obtain ⟨rfl,rfl,_⟩:=hL
   have HR:=hid hR
   clear hR
   go_wp2
   first | refine ⟨_,rfl,?_⟩ | skip
   exact ⟨HR.out,Below.refl _ _,rfl⟩
  ·generalize y' 7=y7 at hL ⊢
   obtain ⟨rfl,_⟩:=hL
   have HR:=hid hR
   clear hR
   refine wpList_on (HOps.out 7) 26 rfl rfl ?_
   go_wp2
   first | refine ⟨_,rfl,?_⟩ | skip
   exact ⟨HR.out,Below.refl _ _,rfl⟩
  ·generalize y' 8=y8 at hL ⊢
   generalize y' 7=y7 at hL ⊢
   obtain ⟨rfl,rfl,_⟩:=hL
   have HR:=hid hR
   clear hR
   refine wpList_on (HOps.out 7) 26 rfl rfl ?_
   go_wp2
   first | refine ⟨_,rfl,?_⟩ | skip
   exact ⟨HR.out,Below.refl _ _,rfl⟩
  ·generalize y' 9=y9 at hL ⊢
   generalize y' 7=y7 at hL ⊢
   obtain ⟨rfl,rfl,_⟩:=hL
   have HR:=hid hR
   clear hR
   refine wpList_on (HOps.out 7) 26 rfl rfl ?_
   go_wp2
   first | refine ⟨_,rfl,?_⟩ | skip
   exact ⟨HR.out,Below.refl _ _,rfl⟩
  ·generalize y' 10=y10 at hL ⊢
   generalize y' 7=y7 at hL ⊢
   obtain ⟨rfl,rfl,_⟩:=hL
   have HR:=hid hR
   clear hR
   refine wpList_on (HOps.out 7) 26 rfl rfl ?_
   go_wp2
   first | refine ⟨_,rfl,?_⟩ | skip
   exact ⟨HR.out,Below.refl _ _,rfl⟩
  ·generalize y' 7=y7 at hL ⊢
   generalize y' 11=y11 at hL ⊢
   obtain ⟨rfl,rfl,_⟩:=hL
   have HR:=hid hR
   clear hR
   go_wp2
   first | refine ⟨_,rfl,?_⟩ | skip
   exact ⟨HR.out,Below.refl _ _,rfl⟩
  ·generalize y' 12=y12 at hL ⊢
   generalize y' 7=y7 at hL ⊢
   obtain ⟨rfl,rfl,_⟩:=hL
   have HR:=hid hR
   clear hR
   go_wp2
   first | refine ⟨_,rfl,?_⟩ | skip
   exact ⟨HR.out,Below.refl _ _,rfl⟩
  ·generalize y' 13=y13 at hL ⊢
   obtain ⟨rfl,_⟩:=hL
   have HR:=hid hR
   clear hR
   refine wpList_on (HOps.out 13) 32 rfl rfl ?_
   go_wp2
   first | refine ⟨_,rfl,?_⟩ | skip
   exact ⟨HR.out,Below.refl _ _,rfl⟩
  ·generalize y' 14=y14 at hL ⊢
   generalize y' 13=y13 at hL ⊢
   obtain ⟨rfl,rfl,_⟩:=hL
   have HR:=hid hR
   clear hR
   refine wpList_on (HOps.out 13) 32 rfl rfl ?_
   go_wp2
   first | refine ⟨_,rfl,?_⟩ | skip
   exact ⟨HR.out,Below.refl _ _,rfl⟩
  ·generalize y' 15=y15 at hL ⊢
   generalize y' 13=y13 at hL ⊢
   obtain ⟨rfl,rfl,_⟩:=hL
   have HR:=hid hR
   clear hR
   refine wpList_on (HOps.out 13) 32 rfl rfl ?_
   go_wp2
   first | refine ⟨_,rfl,?_⟩ | skip
   exact ⟨HR.out,Below.refl _ _,rfl⟩
  ·generalize y' 16=y16 at hL ⊢
   generalize y' 13=y13 at hL ⊢
   obtain ⟨rfl,rfl,_⟩:=hL
   have HR:=hid hR
   clear hR
   refine wpList_on (HOps.out 13) 32 rfl rfl ?_
   go_wp2
   first | refine ⟨_,rfl,?_⟩ | skip
   exact ⟨HR.out,Below.refl _ _,rfl⟩
  ·generalize y' 13=y13 at hL ⊢
   obtain ⟨rfl,_,_⟩:=hL
   have HR:=hid hR
   clear hR
   have HCt:=hid (HV.out X 0)
   refine wpList_on (HOps.out 13) 32 rfl rfl ?_
   go_wp2_with fail
   refine HCt.out.mono ?_
   rintro e w1 ⟨v1,rfl,kv,kb⟩
   have KV:=hid kv
   have KB:=hid kb
   clear kv kb HCt
   go_wp2
   first | refine ⟨_,rfl,?_⟩ | skip
   exact ⟨⟨Nat.le_trans HR.out.base KB.out.size,HR.out.be.trans (KB.out.mono HR.out.base)⟩,KB.out,KV.out⟩
  ·generalize y' 18=y18 at hL ⊢
   generalize y' 13=y13 at hL ⊢
   obtain ⟨H18,rfl,_⟩:=hL
   have K18:=hid H18
   have HR:=hid hR
   clear hR H18
   have HCt:=hid (HV.out X 1)
   refine wpList_on (HOps.out 13) 32 rfl rfl ?_
   go_wp2_with fail
   refine HCt.out.mono ?_
   rintro e w1 ⟨v1,rfl,kv,kb⟩
   have KV:=hid kv
   have KB:=hid kb
   clear kv kb HCt
   go_wp2
   first | refine ⟨_,rfl,?_⟩ | skip
   exact ⟨⟨Nat.le_trans HR.out.base KB.out.size,HR.out.be.trans (KB.out.mono HR.out.base)⟩,KB.out,KV.out⟩
  ·generalize y' 18=y18 at hL ⊢
   generalize y' 19=y19 at hL ⊢
   generalize y' 13=y13 at hL ⊢
   obtain ⟨H18,H19,_,rfl,_⟩:=hL
   have K18:=hid H18
   have K19:=hid H19
   have HR:=hid hR
   clear hR H18 H19
   have HCt:=hid (HSu.out X _ _ K18.out K19.out)
   refine wpList_on (HOps.out 13) 32 rfl rfl ?_
   go_wp2_with fail
   refine HCt.out.mono ?_
   rintro e w1 ⟨v1,rfl,kv,kb⟩
   have KV:=hid kv
   have KB:=hid kb
   clear kv kb HCt
   go_wp2
   first | refine ⟨_,rfl,?_⟩ | skip
   exact ⟨⟨Nat.le_trans HR.out.base KB.out.size,HR.out.be.trans (KB.out.mono HR.out.base)⟩,KB.out,KV.out⟩
  ·generalize y' 17=y17 at hL ⊢
   generalize y' 20=y20 at hL ⊢
   generalize y' 13=y13 at hL ⊢
   obtain ⟨rfl,H20,_,rfl,_⟩:=hL
   have K20:=hid H20
   have HR:=hid hR
   clear hR H20
   have HCt:=hid (HE1.out X HR.out.be _ K20.out)
   refine wpList_on (HOps.out 13) 32 rfl rfl ?_
   go_wp2_with fail
   refine HCt.out.mono ?_
   rintro e w1 ⟨v1,rfl,kv,kb⟩
   have KV:=hid kv
   have KB:=hid kb
   clear kv kb HCt
   go_wp2
   first | refine ⟨_,rfl,?_⟩ | skip
   exact ⟨⟨Nat.le_trans HR.out.base KB.out.size,HR.out.be.trans (KB.out.mono HR.out.base)⟩,KB.out,KV.out⟩
  ·generalize y' 13=y13 at hL ⊢
   generalize y' 21=y21 at hL ⊢
   obtain ⟨rfl,rfl,_⟩:=hL
   have HR:=hid hR
   clear hR
   go_wp2
   first | refine ⟨_,rfl,?_⟩ | skip
   exact ⟨HR.out,Below.refl _ _,rfl⟩
  ·generalize y' 22=y22 at hL ⊢
   generalize y' 21=y21 at hL ⊢
   obtain ⟨rfl,rfl,_⟩:=hL
   have HR:=hid hR
   clear hR
   go_wp2
   first | refine ⟨_,rfl,?_⟩ | skip
   exact ⟨HR.out,Below.refl _ _,rfl⟩
  ·generalize y' 23=y23 at hL ⊢
   obtain ⟨rfl,_⟩:=hL
   have HR:=hid hR
   clear hR
   refine wpList_on (HOps.out 23) 42 rfl rfl ?_
   go_wp2
   first | refine ⟨_,rfl,?_⟩ | skip
   exact ⟨HR.out,Below.refl _ _,rfl⟩
  ·generalize y' 24=y24 at hL ⊢
   generalize y' 23=y23 at hL ⊢
   obtain ⟨rfl,rfl,_⟩:=hL
   have HR:=hid hR
   clear hR
   refine wpList_on (HOps.out 23) 42 rfl rfl ?_
   go_wp2
   first | refine ⟨_,rfl,?_⟩ | skip
   exact ⟨HR.out,Below.refl _ _,rfl⟩
  ·generalize y' 25=y25 at hL ⊢
   generalize y' 23=y23 at hL ⊢
   obtain ⟨rfl,rfl,_⟩:=hL
   have HR:=hid hR
   clear hR
   refine wpList_on (HOps.out 23) 42 rfl rfl ?_
   go_wp2
   first | refine ⟨_,rfl,?_⟩ | skip
   exact ⟨HR.out,Below.refl _ _,rfl⟩
  ·generalize y' 26=y26 at hL ⊢
   generalize y' 23=y23 at hL ⊢
   obtain ⟨rfl,rfl,_⟩:=hL
   have HR:=hid hR
   clear hR
   refine wpList_on (HOps.out 23) 42 rfl rfl ?_
   go_wp2
   first | refine ⟨_,rfl,?_⟩ | skip
   exact ⟨HR.out,Below.refl _ _,rfl⟩
  ·generalize y' 23=y23 at hL ⊢
   generalize y' 27=y27 at hL ⊢
   obtain ⟨rfl,rfl,_⟩:=hL
   have HR:=hid hR
   clear hR
   go_wp2
   first | refine ⟨_,rfl,?_⟩ | skip
   exact ⟨HR.out,Below.refl _ _,rfl⟩
  ·generalize y' 28=y28 at hL ⊢
   generalize y' 23=y23 at hL ⊢
   obtain ⟨rfl,rfl,_⟩:=hL
   have HR:=hid hR
   clear hR
   go_wp2
   first | refine ⟨_,rfl,?_⟩ | skip
   exact ⟨HR.out,Below.refl _ _,rfl⟩
  ·generalize y' 29=y29 at hL ⊢
   obtain ⟨rfl,_⟩:=hL
   have HR:=hid hR
   clear hR
   refine wpList_on (HOps.out 29) 48 rfl rfl ?_
   go_wp2
   first | refine ⟨_,rfl,?_⟩ | skip
   exact ⟨HR.out,Below.refl _ _,rfl⟩
  ·generalize y' 30=y30 at hL ⊢
   generalize y' 29=y29 at hL ⊢
   obtain ⟨rfl,rfl,_⟩:=hL
   have HR:=hid hR
   clear hR
   refine wpList_on (HOps.out 29) 48 rfl rfl ?_
   go_wp2
   first | refine ⟨_,rfl,?_⟩ | skip
   exact ⟨HR.out,Below.refl _ _,rfl⟩
  ·generalize y' 31=y31 at hL ⊢
   generalize y' 29=y29 at hL ⊢
   obtain ⟨rfl,rfl,_⟩:=hL
   have HR:=hid hR
   clear hR
   refine wpList_on (HOps.out 29) 48 rfl rfl ?_
   go_wp2
   first | refine ⟨_,rfl,?_⟩ | skip
   exact ⟨HR.out,Below.refl _ _,rfl⟩
  ·generalize y' 32=y32 at hL ⊢
   generalize y' 29=y29 at hL ⊢
   obtain ⟨rfl,rfl,_⟩:=hL
   have HR:=hid hR
   clear hR
   refine wpList_on (HOps.out 29) 48 rfl rfl ?_
   go_wp2
   first | refine ⟨_,rfl,?_⟩ | skip
   exact ⟨HR.out,Below.refl _ _,rfl⟩
  ·generalize y' 29=y29 at hL ⊢
   obtain ⟨rfl,_,_⟩:=hL
   have HR:=hid hR
   clear hR
   have HCt:=hid (HV.out X 2)
   refine wpList_on (HOps.out 29) 48 rfl rfl ?_
   go_wp2_with fail
   refine HCt.out.mono ?_
   rintro e w1 ⟨v1,rfl,kv,kb⟩
   have KV:=hid kv
   have KB:=hid kb
   clear kv kb HCt
   go_wp2
   first | refine ⟨_,rfl,?_⟩ | skip
   exact ⟨⟨Nat.le_trans HR.out.base KB.out.size,HR.out.be.trans (KB.out.mono HR.out.base)⟩,KB.out,KV.out⟩
  ·generalize y' 33=y33 at hL ⊢
   generalize y' 34=y34 at hL ⊢
   generalize y' 29=y29 at hL ⊢
   obtain ⟨rfl,H34,_,rfl,_⟩:=hL
   have K34:=hid H34
   have HR:=hid hR
   clear hR H34
   have HCt:=hid (HE2.out X HR.out.be _ K34.out)
   refine wpList_on (HOps.out 29) 48 rfl rfl ?_
   go_wp2_with fail
   refine HCt.out.mono ?_
   rintro e w1 ⟨v1,rfl,kv,kb⟩
   have KV:=hid kv
   have KB:=hid kb
   clear kv kb HCt
   go_wp2
   first | refine ⟨_,rfl,?_⟩ | skip
   exact ⟨⟨Nat.le_trans HR.out.base KB.out.size,HR.out.be.trans (KB.out.mono HR.out.base)⟩,KB.out,KV.out⟩
  ·generalize y' 29=y29 at hL ⊢
   generalize y' 35=y35 at hL ⊢
   obtain ⟨rfl,rfl,_⟩:=hL
   have HR:=hid hR
   clear hR
   go_wp2
   first | refine ⟨_,rfl,?_⟩ | skip
   exact ⟨HR.out,Below.refl _ _,rfl⟩
 ·intro ops y' X hR hL
  have hB:=hR.base
  have J36:=hL.2
  simp only [GQ,List.getElem?_cons_zero,List.getElem?_cons_succ] at J36
  obtain ⟨k0,k1,k2,klt,e0,e1,e2,e3,elt,g0,g1,g2,g3,glt⟩:=HCe.out X hR.be
  clear hL
  simp only [List.take_succ_cons,List.take_zero,List.drop_succ_cons,List.drop_zero]
  simp [fillFrom,Act.put]
  generalize y' 36=y36 at J36 ⊢
  obtain rfl:=J36
  have HR:=hid hR
  clear hR
  clear k0 k1 k2 klt e0 e1 e2 e3 elt g0 g1 g2 g3 glt
  have HBe2:=hid (HBW.out.trans (HR.out.be.mono HBW.out.size))
  go_wp2
  go_ret
  exact ⟨rfl,HBe2.out⟩
structure SP where
 p:Value->World->Prop
 keep:∀ v w w',p v w->Below w.heap.size w w'->p v w'
def GP (L:List SP) (i:Nat) (v:Value) (w:World):Prop:=match L[i]? with | some s=>s.p v w | none=>True
theorem GP_below {L:List SP} {i:Nat} {v:Value} {w w':World} (h:GP L i v w) (hb:Below w.heap.size w w'):GP L i v w':=by
 unfold GP at h ⊢
 split
 ·rename_i s e
  rw [e] at h
  exact s.keep _ _ _ h hb
 ·trivial
def SP.val (x:Value):SP:=⟨fun v _=>v=x,fun _ _ _ h _=>h⟩
def SP.frm (f:AffQ):SP:=⟨fun v w=>FormV w v f,fun _ _ _ h hb=>h.below hb⟩
def SP.rat (x:RatL):SP:=⟨fun v w=>RatV w v x,fun _ _ _ h hb=>h.below hb⟩
def SP.tru (P:Prop) (b:Bool):SP:=⟨fun v _=>v=.bool b/\P,fun _ _ _ h _=>h⟩
def TupV (w:World) (v:Value) (G:GraphQ) (e:Int):Prop:=∃ u,v=.tuple #[u,.int .i64 e]/\GraphV w u G
def SP.tup (G:GraphQ) (e:Int):SP:=⟨fun v w=>TupV w v G e,fun _ _ _ ⟨u,h,k⟩ hb=>⟨u,h,k.below hb⟩⟩
def SP.grv (G:GraphQ):SP:=⟨fun v w=>GraphV w v G,fun _ _ _ h hb=>h.below hb⟩
structure NewG (B:Nat) (w:World) (v:Value):Prop where
 ex:∃ b,v=.pointer (some ⟨b,0,none⟩)/\B<=b/\Box3 w b (.int .i64 0) (.slice none 0 0) (.slice none 0 0)/\AllB isZF w b
theorem NewG.below {B:Nat} {w w':World} {v:Value} (h:NewG B w v) (hb:Below w.heap.size w w'):NewG B w' v:=by
 obtain ⟨b,e,h1,h2,h3⟩:=h.ex
 exact ⟨b,e,h1,h2.below hb,h3.below hb h2.lt⟩
theorem NewG.alloc {B:Nat} (w:World) (T:Nat) (h:B<=w.heap.size):NewG B (w.alloc (.cells #[.int .i64 0,.slice none 0 0,.slice none 0 0] T)) (.pointer (some ⟨w.heap.size,0,none⟩)):=
 ⟨_,rfl,h,Box3.alloc _ _ _ _ _,AllB.alloc _ _ _ (by
  intro u hu
  simp at hu
  rcases hu with rfl | rfl <;> rfl)⟩
def SP.new (B:Nat):SP:=⟨fun v w=>NewG B w v,fun _ _ _ h hb=>h.below hb⟩
structure GBx (w:World) (b:Nat) (G:GraphQ) (aU:Option Addr) (cU:Nat) (aO:Option Addr) (cO:Nat):Prop where
 bx:Box3 w b (.int .i64 (G.inputs:Int)) (.slice aU G.units.length cU) (.slice aO G.outs.length cO)
 lu:G.units.length<=cU
 lo:G.outs.length<=cO
 us:FormsAt w aU G.units
 os:FormsAt w aO G.outs
theorem GBx.below {w w':World} {b:Nat} {G:GraphQ} {aU aO:Option Addr} {cU cO:Nat} (h:GBx w b G aU cU aO cO) (hb:Below w.heap.size w w'):GBx w' b G aU cU aO cO:=
 ⟨h.bx.below hb,h.lu,h.lo,h.us.below formK hb,h.os.below formK hb⟩
theorem GBx.alloc {w:World} {G:GraphQ} {aU aO:Option Addr} {cU cO:Nat} (hu:G.units.length<=cU) (ho:G.outs.length<=cO) (h1:FormsAt w aU G.units) (h2:FormsAt w aO G.outs) (T:Nat):
  GBx (w.alloc (.cells #[.int .i64 (G.inputs:Int),.slice aU G.units.length cU,.slice aO G.outs.length cO] T)) w.heap.size G aU cU aO cO:=
 have hal:Below w.heap.size w (w.alloc (.cells #[.int .i64 (G.inputs:Int),.slice aU G.units.length cU,.slice aO G.outs.length cO] T)):=(Below.refl _ _).alloc (Nat.le_refl _) _
 ⟨Box3.alloc _ _ _ _ _,hu,ho,h1.below formK hal,h2.below formK hal⟩
theorem Box3.putG {w:World} {g:Nat} {p q r:Value} (h:Box3 w g p q r) (p' q' r':Value):Box3 (((w.setCell ⟨g,0,none⟩ p').setCell ⟨g,1,none⟩ q').setCell ⟨g,2,none⟩ r') g p' q' r':=by
 have n01:(⟨g,1,none⟩:Addr) ≠ ⟨g,0,none⟩:=by intro e;cases e
 have n02:(⟨g,2,none⟩:Addr) ≠ ⟨g,0,none⟩:=by intro e;cases e
 have n12:(⟨g,2,none⟩:Addr) ≠ ⟨g,1,none⟩:=by intro e;cases e
 refine ⟨?_,?_,?_,fun o=>by simp [World.frozen?_setCell,h.free o],by simpa using h.lt⟩
 ·rw [World.cell?_setCell_other _ _ _ _ n02,World.cell?_setCell_other _ _ _ _ n01,World.cell?_setCell_same _ _ _ h.c0]
 ·rw [World.cell?_setCell_other _ _ _ _ n12,World.cell?_setCell_same _ _ _ ((World.cell?_setCell_other _ _ _ _ n01.symm).trans h.c1)]
 ·rw [World.cell?_setCell_same _ _ _ ((World.cell?_setCell_other _ _ _ _ n12.symm).trans ((World.cell?_setCell_other _ _ _ _ n02.symm).trans h.c2))]
theorem GBx.put {w:World} {b:Nat} {G:GraphQ} {aU aO:Option Addr} {cU cO:Nat} {p q r:Value} (hb:Box3 w b p q r) (hz:AllB isZF w b) (hu:G.units.length<=cU) (ho:G.outs.length<=cO) (h1:FormsAt w aU G.units) (h2:FormsAt w aO G.outs):
  GBx (((w.setCell ⟨b,0,none⟩ (.int .i64 (G.inputs:Int))).setCell ⟨b,1,none⟩ (.slice aU G.units.length cU)).setCell ⟨b,2,none⟩ (.slice aO G.outs.length cO)) b G aU cU aO cO:=by
 have z1:=hz.setCell 0 (.int .i64 (G.inputs:Int)) rfl
 have z2:=z1.setCell 1 (.slice aU G.units.length cU) rfl
 exact ⟨hb.putG _ _ _,hu,ho,forms_setZ (forms_setZ (forms_setZ h1 hz) z1) z2,forms_setZ (forms_setZ (forms_setZ h2 hz) z1) z2⟩
theorem put_below {B:Nat} {w W:World} {b:Nat} (h:Below B w W) (hb:B<=b) (p q r:Value):Below B w (((W.setCell ⟨b,0,none⟩ p).setCell ⟨b,1,none⟩ q).setCell ⟨b,2,none⟩ r):=
 ((h.setCell hb _).setCell hb _).setCell hb _
theorem Row4.pre {α:Type} {P:World->Value->Value->Value->Value->α->Prop} {w:World} {a:Option Addr} {L V:List α} (h:Row4 P w a (L++V)):Row4 P w a L:=by
 refine ⟨Nat.le_trans (by simp) h.len,?_⟩
 rcases h.row with e | ⟨b,off,rfl,hb,hc⟩
 ·exact .inl (List.append_eq_nil_iff.1 e).1
 ·exact .inr ⟨b,off,rfl,hb,fun j x hj=>hc j x (by
   have hlt:=(List.getElem?_eq_some_iff.1 hj).1
   rw [List.getElem?_append_left hlt];exact hj)⟩
structure StJ (W0:World) (L:List SP) (s p q x:Nat) (G:GraphQ) (e:Int) (d:Nat->Bool) (g:Nat->Value) (w:World):Prop where
 be:Below W0.heap.size W0 w
 all:d s=false->∀ i,d i=true->GP L i (g i) w
 put:d s=true->(∀ i,i < s->i ≠ x->d i=true)/\(∃ b aU cU aO cO,g p=.pointer (some ⟨b,0,none⟩)/\W0.heap.size<=b/\GBx w b G aU cU aO cO)/\(∃ u,g q=.tuple #[u,.int .i64 e])/\(d x=true->g x=.int .i64 e)
section
variable {W0:World} {L:List SP} {s p q x:Nat} {G:GraphQ} {e:Int} {d:Nat->Bool} {g:Nat->Value} {w:World}
theorem StJ.start (g:Nat->Value):StJ W0 L s p q x G e (fun _=>false) g W0.drew:=⟨(Below.refl _ _).drew,fun _ _ h=>(by cases h),fun h=>by cases h⟩
theorem StJ.open' (h:StJ W0 L s p q x G e d g w) {i:Nat} (hi:d i=false) (his:i < s) (hne:i ≠ x):d s=false:=by
 cases hs:d s with
 | false=>rfl
 | true=>
  have:=(h.put hs).1 i his hne
  rw [hi] at this
  cases this
theorem StJ.get (h:StJ W0 L s p q x G e d g w) {i:Nat} (hi:d i=false) (his:i < s) (hne:i ≠ x) (k:Nat) (hk:d k=true):GP L k (g k) w:=h.all (h.open' hi his hne) k hk
theorem mark_neG {d:Nat->Bool} {i k:Nat} (h:k ≠ i):mark d i k=d k:=by unfold mark;rw [if_neg h]
theorem mark_sameG (d:Nat->Bool) (i:Nat):mark d i i=true:=by unfold mark;rw [if_pos rfl]
theorem upd_neG {g:Nat->Value} {i k:Nat} {v:Value} (h:k ≠ i):upd g i v k=g k:=by unfold upd;rw [if_neg h]
theorem upd_sameG (g:Nat->Value) (i:Nat) (v:Value):upd g i v i=v:=by unfold upd;rw [if_pos rfl]
theorem StJ.step (h:StJ W0 L s p q x G e d g w) {i:Nat} {v:Value} {w':World} (hi:d i=false) (his:i < s) (hne:i ≠ x) (hb:Below w.heap.size w w') (hv:GP L i v w'):StJ W0 L s p q x G e (mark d i) (upd g i v) w':=by
 have hs:=h.open' hi his hne
 refine ⟨h.be.trans (hb.mono h.be.size),fun _ j hj=>?_,fun hc=>?_⟩
 ·by_cases e:j=i
  ·subst e;rw [upd_sameG];exact hv
  ·rw [upd_neG e];rw [mark_neG e] at hj;exact GP_below (h.all hs j hj) hb
 ·rw [mark_neG (by omega),hs] at hc
  cases hc
theorem StJ.here (h:StJ W0 L s p q x G e d g w) {i:Nat} {v:Value} (hi:d i=false) (his:i < s) (hne:i ≠ x) (hv:GP L i v w):StJ W0 L s p q x G e (mark d i) (upd g i v) w:=h.step hi his hne (Below.refl _ _) hv
theorem StJ.tup (h:StJ W0 L s p q x G e d g w) (hq:d q=true) (hL:L[q]? =some (SP.tup G e)):∃ u,g q=.tuple #[u,.int .i64 e]:=by
 cases hs:d s with
 | true=>exact (h.put hs).2.2.1
 | false=>
  have k:=h.all hs q hq
  unfold GP at k
  rw [hL] at k
  obtain ⟨u,e,_⟩:=k
  exact ⟨u,e⟩
theorem StJ.snd (h:StJ W0 L s p q x G e d g w) (hL:L[x]? =some (SP.val (.int .i64 e))) (hxs:x < s) (hpx:p ≠ x) (hqx:q ≠ x):StJ W0 L s p q x G e (mark d x) (upd g x (.int .i64 e)) w:=by
 refine ⟨h.be,fun hs j hj=>?_,fun hs=>?_⟩
 ·rw [mark_neG (by omega)] at hs
  by_cases ee:j=x
  ·subst ee;rw [upd_sameG];unfold GP;rw [hL];exact rfl
  ·rw [upd_neG ee];rw [mark_neG ee] at hj;exact h.all hs j hj
 ·rw [mark_neG (by omega)] at hs
  obtain ⟨k1,k2,k3,k4⟩:=h.put hs
  refine ⟨fun i hi hne=>by rw [mark_neG hne];exact k1 i hi hne,?_,?_,fun _=>upd_sameG _ _ _⟩
  ·rw [upd_neG hpx];exact k2
  ·rw [upd_neG hqx];exact k3
theorem StJ.store (h:StJ W0 L s p q x G e d g w) (hds:d s=false) (hall:∀ i,i < s->i ≠ x->d i=true) {b:Nat} {aU aO:Option Addr} {cU cO:Nat} {v:Value} {w':World} (hp:g p=.pointer (some ⟨b,0,none⟩)) (hb:W0.heap.size<=b) (hG:GBx w' b G aU cU aO cO) (hbe:Below W0.heap.size W0 w')
  (hLx:L[x]? =some (SP.val (.int .i64 e))) (hLq:L[q]? =some (SP.tup G e)) (hps:p < s) (hqs:q < s) (hqx:q ≠ x) (hxs:x < s):StJ W0 L s p q x G e (mark d s) (upd g s v) w':=by
 refine ⟨hbe,fun hs=>?_,fun _=>⟨fun i hi hne=>?_,?_,?_,fun hx=>?_⟩⟩
 ·rw [mark_sameG] at hs;cases hs
 ·rw [mark_neG (by omega)];exact hall i hi hne
 ·rw [upd_neG (by omega)];exact ⟨b,aU,cU,aO,cO,hp,hb,hG⟩
 ·rw [upd_neG (by omega)];exact h.tup (hall q hqs hqx) hLq
 ·rw [upd_neG (by omega)]
  rw [mark_neG (by omega)] at hx
  have k:=h.all hds x hx
  unfold GP at k
  rw [hLx] at k
  exact k
theorem StJ.fin (h:StJ W0 L s p q x G e d g w) (hs:d s=true) (hx:d x=true):(∃ b aU cU aO cO,g p=.pointer (some ⟨b,0,none⟩)/\W0.heap.size<=b/\GBx w b G aU cU aO cO)/\g x=.int .i64 e:=
 ⟨(h.put hs).2.1,(h.put hs).2.2.2 hx⟩
end
theorem lowN {w:World} {m:ModL} {G:GraphQ} {e1:Int} {a1 a2:Option Addr} (c1 c2:Nat) (h1:Ints w Any a1 m.input) (h2:LaysAt w a2 m.layers) (hr:∀ l ∈ m.layers,LayRange l) (hs:∀ l ∈ m.layers,LayLe l) (hsm:∀ l ∈ m.layers,SmallL l) (hl12:m.layers.length<=12) (hE:lowerL m=(G,e1)) (nI nL:Nat) (hI:nI=m.input.length) (hL:nL=m.layers.length):
  Calls Tryz.prog 12 #[.agg #[.slice a1 nI c1,.slice a2 nL c2]] w (fun e w'=>∃ v,e=.returned v/\TupV w' v G e1/\Below w.heap.size w w'):=by
 rw [hI,hL]
 refine (lLower c1 c2 h1 h2 hr hs hsm hl12).mono ?_
 rintro e w' ⟨v,rfl,hg,hb⟩
 rw [hE] at hg
 rw [hE]
 exact ⟨_,rfl,⟨v,rfl,hg⟩,hb⟩
theorem law16Prefix {w:World} {m:ModL} {a1 a2:Option Addr} (c1 c2:Nat) (n:Int) (hn:I64 n) (h1:Ints w Any a1 m.input) (h2:LaysAt w a2 m.layers) (hc2:m.layers.length<=c2) (hr:∀ l ∈ m.layers,LayRange l) (hs:∀ l ∈ m.layers,LayLe l):
  Calls Tryz.prog 6 #[.agg #[.slice a1 m.input.length c1,.slice a2 m.layers.length c2],.int .i64 n] w fun e w'=>e=.returned (.bool true)/\Below w.heap.size w w':=by
 have q1:=h1.len
 have q2:=h2.len
 have H1:=hid h1
 have H2:=hid h2
 have HRg:=hid hr
 have HSh:=hid hs
 have hbA:Below w.heap.size w (w.alloc (.cells #[.slice a1 m.input.length c1,.slice a2 m.layers.length c2] 25)):=(Below.refl _ _).alloc (Nat.le_refl _) _
 have hx:=Box2.alloc w (.slice a1 m.input.length c1) (.slice a2 m.layers.length c2) 25
 clear h1 h2 hr hs
 go_enter Tryz.func6,Tryz.ntmps6
 go_upto_region 1 with fail
 generalize w.alloc (.cells #[.slice a1 m.input.length c1,.slice a2 m.layers.length c2] 25)=W at *
 have HB:=hid hbA
 have HX:=hid hx
 clear hbA hx
 go_wp2_with fail
 refine (awake16 W).mono ?_
 rintro e w1 ⟨rfl,hb1⟩
 have HB1:=hid (HB.out.trans (hb1.mono HB.out.size))
 have HX1:=hid (HX.out.below hb1)
 obtain ⟨x0,x1,xf,xlt⟩:=HX1.out
 have HF:=hid (kFair16 c1 c2 (H1.out.below HB1.out) (H2.out.below HB1.out) HSh.out)
 clear hb1 HX
 cases hf:fairE m [] with
 | false=>
  rw [hf] at HF
  clear hf
  go_wp2_with fail
  refine HF.out.mono ?_
  rintro e w2 ⟨rfl,hb2⟩
  have HB2:=hid (HB1.out.trans (hb2.mono HB1.out.size))
  clear hb2 x0 x1 xf xlt
  go_wp2_with fail
  refine (awake16 w2).mono ?_
  rintro e w3 ⟨rfl,hb3⟩
  have HB3:=hid (HB2.out.trans (hb3.mono HB2.out.size))
  clear hb3
  go_wp2
  go_ret
  exact ⟨rfl,HB3.out⟩
 | true=>
 rw [hf] at HF
 have HP:=hid (fair_paid hf)
 clear hf
 go_wp2_with fail
 refine HF.out.mono ?_
 rintro e w2 ⟨rfl,hb2⟩
 have HB2:=hid (HB1.out.trans (hb2.mono HB1.out.size))
 have HX2:=hid (HX1.out.below hb2)
 clear hb2 x0 x1 xf xlt HF
 obtain ⟨x0,x1,xf,xlt⟩:=HX2.out
 by_cases hn0:n < 0
 case pos=>
  have t1:decide (n < 0)=true:=decide_eq_true hn0
  go_wp2_with fail
  refine (awake16 w2).mono ?_
  rintro e w3 ⟨rfl,hb3⟩
  have HB3:=hid (HB2.out.trans (hb3.mono HB2.out.size))
  clear hb3
  go_wp2
  go_ret
  exact ⟨rfl,HB3.out⟩
 obtain ⟨k,rfl⟩:∃ k:Nat,n=(k:Int):=⟨n.toNat,by omega⟩
 have t1:decide ((k:Int) < 0)=false:=decide_eq_false hn0
 by_cases hk:k<=m.layers.length
 case neg=>
  have t2:decide ((m.layers.length:Int) < (k:Int))=true:=decide_eq_true (by omega)
  go_wp2_with fail
  refine (awake16 w2).mono ?_
  rintro e w3 ⟨rfl,hb3⟩
  have HB3:=hid (HB2.out.trans (hb3.mono HB2.out.size))
  clear hb3
  go_wp2
  go_ret
  exact ⟨rfl,HB3.out⟩
 have t2:decide ((m.layers.length:Int) < (k:Int))=false:=decide_eq_false (by omega)
 have hkc:k<=c2:=by omega
 have hl8:=HP.out.lens
 obtain ⟨G1,e1,hE1⟩:∃ G1 e1,lowerL m=(G1,e1):=⟨_,_,rfl⟩
 obtain ⟨G2,e2,hE2⟩:∃ G2 e2,lowerL ⟨m.input,m.layers.take k⟩=(G2,e2):=⟨_,_,rfl⟩
 have HE1:=hid hE1
 have HE2:=hid hE2
 have HL:=hid (lowN c1 c2 (H1.out.below HB2.out) (H2.out.below HB2.out) HRg.out HSh.out HP.out.sm (by omega) hE1 _ _ rfl rfl)
 clear hE1 hE2 hn0
 go_wp2_with fail
 refine HL.out.mono ?_
 rintro e w3 ⟨v,rfl,⟨u,rfl,hg⟩,hb⟩
 obtain ⟨aU1,cU1,aO1,cO1,rfl,hu1,ho1,hU1,hO1⟩:=hg.ex
 have hal:Below w3.heap.size w3 (w3.alloc (.cells #[.int .i64 (G1.inputs:Int),.slice aU1 G1.units.length cU1,.slice aO1 G1.outs.length cO1] 30)):=(Below.refl _ _).alloc (Nat.le_refl _) _
 have hgb:=GBx.alloc hu1 ho1 hU1 hO1 30
 have HB3:=hid (HB2.out.trans (hb.mono HB2.out.size))
 have HB4:=hid (HB3.out.trans (hal.mono HB3.out.size))
 have HX4:=hid ((HX2.out.below hb).below hal)
 clear hb hg hU1 hO1 hal x0 x1 xf xlt HL
 obtain ⟨x0,x1,xf,xlt⟩:=HX4.out
 obtain ⟨W4,hW4⟩:∃ W4,W4=w3.alloc (.cells #[.int .i64 (G1.inputs:Int),.slice aU1 G1.units.length cU1,.slice aO1 G1.outs.length cO1] 30):=⟨_,rfl⟩
 obtain ⟨b1,hb1⟩:∃ b1,b1=w3.heap.size:=⟨_,rfl⟩
 rw [<- hW4] at hgb HB4 HX4 x0 x1 xf xlt
 rw [<- hb1] at hgb
 have HW4:=hid hW4
 have Hb1:=hid hb1
 have HG1a:=hid hgb
 have HCe:Hid (∀ X,Below W4.heap.size W4 X->X.cell? ⟨w.heap.size,0,none⟩=some (.slice a1 m.input.length c1)/\X.cell? ⟨w.heap.size,1,none⟩=some (.slice a2 m.layers.length c2)/\w.heap.size < X.heap.size):=fun X hB=>
  have k:=HX4.out.below hB
  ⟨k.c0,k.c1,k.lt⟩
 have HLo:Hid (∀ X,Below W4.heap.size W4 X->Calls Tryz.prog 12 #[.agg #[.slice a1 m.input.length c1,.slice a2 k c2]] X (fun e w'=>∃ v,e=.returned v/\TupV w' v G2 e2/\Below X.heap.size X w')):=fun X hB=>
  have hbx:=HB4.out.trans (hB.mono HB4.out.size)
  lowN (m:=⟨m.input,m.layers.take k⟩) c1 c2 (H1.out.below hbx) ((H2.out.take k).below hbx) (fun l hl=>HRg.out l (List.mem_of_mem_take hl)) (fun l hl=>HSh.out l (List.mem_of_mem_take hl)) (fun l hl=>HP.out.sm l (List.mem_of_mem_take hl)) (by rw [List.length_take];omega) HE2.out _ _ rfl (by rw [List.length_take,Nat.min_eq_left hk])
 clear hgb hW4 hb1 t1 t2
 go_upto_region 4 with fail
 rw [<- Hb1.out]
 rw [<- HW4.out]
 clear x0 x1 xf xlt
 refine wp_region_slots_gen 13 (by kernel_rfl) (by kernel_rfl) (by kernel_rfl) (by kernel_rfl) (by decide) (StJ W4 [SP.val (.pointer (some ⟨w.heap.size,0,none⟩)),SP.val (.slice a1 m.input.length c1),SP.val (.pointer (some ⟨w.heap.size,1,none⟩)),SP.val (.slice a2 m.layers.length c2),SP.val (.int .i64 (k:Int)),SP.val (.slice a2 k c2),SP.val (.agg #[.slice a1 m.input.length c1,.slice a2 k c2]),SP.tup G2 e2,SP.tup G2 e2,SP.grv G2,SP.val (.int .i64 e2),SP.new W4.heap.size] 12 11 8 10 G2 e2) (fun g=>StJ.start g) ?_ ?_
 ·intro ops
  simp only [List.take_succ_cons,List.take_zero,ShowsJ]
  refine ⟨?_,?_,?_,?_,?_,?_,?_,?_,?_,?_,?_,?_,?_,trivial⟩
  all_goals (intro d y' X hJ hd hW;simp only [Waits,Region.binds,forall_const,Bool.false_eq_true,false_implies,and_true,true_and] at hW)
  ·have hRbe:=hJ.be
   obtain ⟨x0,x1,xlt⟩:=HCe.out X hJ.be
   clear hRbe
   simp [fillFrom,Act.put]
   have HJ:=hid hJ
   have HD:=hid hd
   clear hJ hd hW
   go_wp2
   first | refine ⟨_,rfl,?_⟩ | refine ⟨rfl,_,?_⟩ | skip
   exact HJ.out.here HD.out (by decide) (by decide) rfl
  ·have h0:d 0=true:=by simp only [hW]
   have J0:=hJ.get hd (by decide) (by decide) 0 h0
   simp only [GP,SP.val,SP.frm,SP.rat,SP.tru,SP.tup,SP.grv,SP.new,List.getElem?_cons_zero,List.getElem?_cons_succ] at J0
   have hRbe:=hJ.be
   obtain ⟨x0,x1,xlt⟩:=HCe.out X hJ.be
   clear hRbe
   simp [fillFrom,Act.put]
   generalize y' 0=y0 at J0 ⊢
   obtain rfl:=J0
   have HJ:=hid hJ
   have HD:=hid hd
   clear hJ hd hW h0
   go_wp2
   first | refine ⟨_,rfl,?_⟩ | refine ⟨rfl,_,?_⟩ | skip
   exact HJ.out.here HD.out (by decide) (by decide) rfl
  ·have hRbe:=hJ.be
   obtain ⟨x0,x1,xlt⟩:=HCe.out X hJ.be
   clear hRbe
   simp [fillFrom,Act.put]
   have HJ:=hid hJ
   have HD:=hid hd
   clear hJ hd hW
   go_wp2
   first | refine ⟨_,rfl,?_⟩ | refine ⟨rfl,_,?_⟩ | skip
   exact HJ.out.here HD.out (by decide) (by decide) rfl
  ·have h2:d 2=true:=by simp only [hW]
   have J2:=hJ.get hd (by decide) (by decide) 2 h2
   simp only [GP,SP.val,SP.frm,SP.rat,SP.tru,SP.tup,SP.grv,SP.new,List.getElem?_cons_zero,List.getElem?_cons_succ] at J2
   have hRbe:=hJ.be
   obtain ⟨x0,x1,xlt⟩:=HCe.out X hJ.be
   clear hRbe
   simp [fillFrom,Act.put]
   generalize y' 2=y2 at J2 ⊢
   obtain rfl:=J2
   have HJ:=hid hJ
   have HD:=hid hd
   clear hJ hd hW h2
   go_wp2
   first | refine ⟨_,rfl,?_⟩ | refine ⟨rfl,_,?_⟩ | skip
   exact HJ.out.here HD.out (by decide) (by decide) rfl
  ·have hRbe:=hJ.be
   obtain ⟨x0,x1,xlt⟩:=HCe.out X hJ.be
   clear hRbe
   simp [fillFrom,Act.put]
   have HJ:=hid hJ
   have HD:=hid hd
   clear hJ hd hW
   go_wp2
   first | refine ⟨_,rfl,?_⟩ | refine ⟨rfl,_,?_⟩ | skip
   exact HJ.out.here HD.out (by decide) (by decide) rfl
  ·have h3:d 3=true:=by simp only [hW]
   have h4:d 4=true:=by simp only [hW]
   have J3:=hJ.get hd (by decide) (by decide) 3 h3
   have J4:=hJ.get hd (by decide) (by decide) 4 h4
   simp only [GP,SP.val,SP.frm,SP.rat,SP.tru,SP.tup,SP.grv,SP.new,List.getElem?_cons_zero,List.getElem?_cons_succ] at J3 J4
   have hRbe:=hJ.be
   obtain ⟨x0,x1,xlt⟩:=HCe.out X hJ.be
   clear hRbe
   simp [fillFrom,Act.put]
   generalize y' 3=y3 at J3 ⊢
   obtain rfl:=J3
   generalize y' 4=y4 at J4 ⊢
   obtain rfl:=J4
   have HJ:=hid hJ
   have HD:=hid hd
   clear hJ hd hW h3 h4
   go_wp2
   first | refine ⟨_,rfl,?_⟩ | refine ⟨rfl,_,?_⟩ | skip
   exact HJ.out.here HD.out (by decide) (by decide) rfl
  ·have h1:d 1=true:=by simp only [hW]
   have h5:d 5=true:=by simp only [hW]
   have J1:=hJ.get hd (by decide) (by decide) 1 h1
   have J5:=hJ.get hd (by decide) (by decide) 5 h5
   simp only [GP,SP.val,SP.frm,SP.rat,SP.tru,SP.tup,SP.grv,SP.new,List.getElem?_cons_zero,List.getElem?_cons_succ] at J1 J5
   have hRbe:=hJ.be
   obtain ⟨x0,x1,xlt⟩:=HCe.out X hJ.be
   clear hRbe
   simp [fillFrom,Act.put]
   generalize y' 1=y1 at J1 ⊢
   obtain rfl:=J1
   generalize y' 5=y5 at J5 ⊢
   obtain rfl:=J5
   have HJ:=hid hJ
   have HD:=hid hd
   clear hJ hd hW h1 h5
   go_wp2
   first | refine ⟨_,rfl,?_⟩ | refine ⟨rfl,_,?_⟩ | skip
   exact HJ.out.here HD.out (by decide) (by decide) rfl
  ·have h6:d 6=true:=by simp only [hW]
   have J6:=hJ.get hd (by decide) (by decide) 6 h6
   simp only [GP,SP.val,SP.frm,SP.rat,SP.tru,SP.tup,SP.grv,SP.new,List.getElem?_cons_zero,List.getElem?_cons_succ] at J6
   have hRbe:=hJ.be
   obtain ⟨x0,x1,xlt⟩:=HCe.out X hJ.be
   clear hRbe
   simp [fillFrom,Act.put]
   generalize y' 6=y6 at J6 ⊢
   obtain rfl:=J6
   have HJ:=hid hJ
   have HD:=hid hd
   clear hJ hd hW h6
   have HCt:=hid (HLo.out X HJ.out.be)
   go_wp2_with fail
   refine HCt.out.mono ?_
   rintro e w1 ⟨v1,rfl,kv,kb⟩
   have KV:=hid kv
   have KB:=hid kb
   clear kv kb HCt
   go_wp2
   first | refine ⟨_,rfl,?_⟩ | refine ⟨rfl,_,?_⟩ | skip
   exact HJ.out.step HD.out (by decide) (by decide) KB.out (KV.out)
  ·have h7:d 7=true:=by simp only [hW]
   have J7:=hJ.get hd (by decide) (by decide) 7 h7
   simp only [GP,SP.val,SP.frm,SP.rat,SP.tru,SP.tup,SP.grv,SP.new,List.getElem?_cons_zero,List.getElem?_cons_succ] at J7
   have hRbe:=hJ.be
   obtain ⟨x0,x1,xlt⟩:=HCe.out X hJ.be
   clear hRbe
   simp [fillFrom,Act.put]
   generalize y' 7=y7 at J7 ⊢
   have K7:=hid J7
   have HJ:=hid hJ
   have HD:=hid hd
   clear hJ hd hW h7 J7
   go_wp2
   first | refine ⟨_,rfl,?_⟩ | refine ⟨rfl,_,?_⟩ | skip
   exact HJ.out.here HD.out (by decide) (by decide) (K7.out)
  ·have h8:d 8=true:=by simp only [hW]
   have J8:=hJ.get hd (by decide) (by decide) 8 h8
   simp only [GP,SP.val,SP.frm,SP.rat,SP.tru,SP.tup,SP.grv,SP.new,List.getElem?_cons_zero,List.getElem?_cons_succ] at J8
   have hRbe:=hJ.be
   obtain ⟨x0,x1,xlt⟩:=HCe.out X hJ.be
   clear hRbe
   simp [fillFrom,Act.put]
   generalize y' 8=y8 at J8 ⊢
   have K8:=hid J8
   have HJ:=hid hJ
   have HD:=hid hd
   clear hJ hd hW h8 J8
   obtain ⟨u,rfl,hg⟩:=K8.out
   obtain ⟨_,_,_,_,rfl,q1,q2,q3,q4⟩:=hg.ex
   have q3:=hid q3
   have q4:=hid q4
   clear K8 hg
   go_wp2
   first | refine ⟨_,rfl,?_⟩ | refine ⟨rfl,_,?_⟩ | skip
   exact HJ.out.here HD.out (by decide) (by decide) (⟨_,_,_,_,rfl,q1,q2,q3.out,q4.out⟩)
  ·have h8:d 8=true:=by simp only [hW]
   obtain ⟨u,J8⟩:=hJ.tup h8 rfl
   obtain ⟨x0,x1,xlt⟩:=HCe.out X hJ.be
   simp [fillFrom,Act.put]
   generalize hg8:y' 8=y8 at J8 ⊢
   obtain rfl:=J8
   have HJ:=hid hJ
   clear hJ hd hW h8 hg8
   go_wp2
   first | exact ⟨_,rfl,HJ.out.snd rfl (by decide) (by decide) (by decide)⟩ | exact HJ.out.snd rfl (by decide) (by decide) (by decide)
  ·have hRbe:=hJ.be
   obtain ⟨x0,x1,xlt⟩:=HCe.out X hJ.be
   clear hRbe
   simp [fillFrom,Act.put]
   have HJ:=hid hJ
   have HD:=hid hd
   clear hJ hd hW
   have HBa:=hid ((Below.refl X.heap.size X).alloc (Nat.le_refl _) (.cells #[.int .i64 0,.slice none 0 0,.slice none 0 0] 30))
   go_wp2
   first | refine ⟨_,rfl,?_⟩ | refine ⟨rfl,_,?_⟩ | skip
   exact HJ.out.step HD.out (by decide) (by decide) HBa.out (NewG.alloc _ _ HJ.out.be.size)
  ·have hall:∀ i,i < 12->i ≠ 10->d i=true:=fun i hi hne=>by
    have:i=0 ∨ i=1 ∨ i=2 ∨ i=3 ∨ i=4 ∨ i=5 ∨ i=6 ∨ i=7 ∨ i=8 ∨ i=9 ∨ i=11:=by omega
    have h0:d 0=true:=by simp only [hW]
    have h1:d 1=true:=by simp only [hW]
    have h2:d 2=true:=by simp only [hW]
    have h3:d 3=true:=by simp only [hW]
    have h4:d 4=true:=by simp only [hW]
    have h5:d 5=true:=by simp only [hW]
    have h6:d 6=true:=by simp only [hW]
    have h7:d 7=true:=by simp only [hW]
    have h8:d 8=true:=by simp only [hW]
    have h9:d 9=true:=by simp only [hW]
    have h11:d 11=true:=by simp only [hW]
    rcases this with rfl | rfl | rfl | rfl | rfl | rfl | rfl | rfl | rfl | rfl | rfl <;> assumption
   have JP:=hJ.all hd 11 (hall 11 (by omega) (by omega))
   have JG:=hJ.all hd 9 (hall 9 (by omega) (by omega))
   simp only [GP,SP.val,SP.frm,SP.rat,SP.tru,SP.tup,SP.grv,SP.new,List.getElem?_cons_zero,List.getElem?_cons_succ] at JP JG
   obtain ⟨x0,x1,xlt⟩:=HCe.out X hJ.be
   simp [fillFrom,Act.put]
   generalize hgp:y' 11=yp at JP ⊢
   generalize y' 9=yg at JG ⊢
   obtain ⟨aU2,cU2,aO2,cO2,rfl,hu2,ho2,hU2,hO2⟩:=JG.ex
   obtain ⟨b2,rfl,hb2,hbx,hz⟩:=JP.ex
   have HG2:=hid (GBx.put hbx hz hu2 ho2 hU2 hO2)
   have HB2:=hid (put_below hJ.be hb2 (.int .i64 (G2.inputs:Int)) (.slice aU2 G2.units.length cU2) (.slice aO2 G2.outs.length cO2))
   have y0:=hbx.c0
   have y1:=hbx.c1
   have y2:=hbx.c2
   have yf:=hbx.free
   have yl:=hbx.lt
   have HJ:=hid hJ
   have HD:=hid hd
   have HAll:=hid hall
   have Hb2:=hid hb2
   have Hgp:=hid hgp
   clear hJ hd hall hW JP JG hU2 hO2 hbx hz hgp hb2
   go_wp2
   exact ⟨trivial,.bool false,HJ.out.store HD.out HAll.out Hgp.out Hb2.out HG2.out HB2.out rfl rfl (by decide) (by decide) (by decide) (by decide)⟩
 ·intro ops d y' X hA hJ
  obtain ⟨⟨b2,aU2,cU2,aO2,cO2,hp,hb2,hG2⟩,hx⟩:=hJ.fin (hA 12 (by decide)) (hA 10 (by decide))
  obtain ⟨x0,x1,xlt⟩:=HCe.out X hJ.be
  simp only [List.take_succ_cons,List.take_zero,List.drop_succ_cons,List.drop_zero]
  simp [fillFrom,Act.put]
  generalize hgp:y' 11=yp at hp ⊢
  generalize hgx:y' 10=yx at hx ⊢
  obtain rfl:=hp
  obtain rfl:=hx
  have HBe0:=hid hJ.be
  have HG2:=hid hG2
  clear hJ hA hG2 hgp hgx
  clear x0 x1 xlt
  have HBe:=hid (HB4.out.trans (HBe0.out.mono HB4.out.size))
  have HG1:=hid (HG1a.out.below HBe0.out)
  obtain ⟨W5,hW5⟩:∃ W5:World,W5=X:=⟨_,rfl⟩
  subst hW5
  go_upto_region 5 with fail
  clear HLo HCe HG1a HBe0
  by_cases he1:e1=0
  case neg=>
   have t1:(e1 != 0)=true:=by rw [bne_iff_ne];exact he1
   have t2:decide (¬ e1=0)=true:=decide_eq_true he1
   have t3:(e1==0)=false:=by rw [beq_eq_false_iff_ne];exact he1
   go_wp2
   go_ret
   exact ⟨rfl,HBe.out⟩
  subst he1
  by_cases he2:e2=0
  case neg=>
   obtain rfl:e2=8:=by
    rcases lower_take HE1.out k hk with h | ⟨G',h,_⟩
    ·rw [HE2.out] at h;exact h
    ·rw [HE2.out] at h;exact absurd (congrArg Prod.snd h) he2
   go_wp2
   go_ret
   exact ⟨rfl,HBe.out⟩
  subst he2
  obtain ⟨V,hV⟩:∃ V,G1.units=G2.units++V:=by
   rcases lower_take HE1.out k hk with h | ⟨G',h,V,hV⟩
   ·rw [HE2.out] at h;have h:(0:Int)=8:=h;omega
   ·rw [HE2.out] at h;cases h;exact ⟨V,hV⟩
  have hl2:=HG2.out.lu
  have hU1:=HG1.out.us
  have hlu1:=HG1.out.lu
  rw [hV] at hU1
  have hUU:=hU1.pre
  have hlen:G2.units.length<=G1.units.length:=by rw [hV];simp
  have hC:=fun e=>r7EqualAll (A:=G2.units) (B:=G2.units) cU2 cU1 (HG2.out.us.below formK (ext_below W5 e)) (hUU.below formK (ext_below W5 e))
  have hCt:eqAll G2.units G2.units=true:=(eqAll_iff _ _).2 rfl
  have HB1x:=hid HG1.out.bx
  have HB2x:=hid HG2.out.bx
  obtain ⟨l1,hl1⟩:∃ l1,l1=G1.units.length:=⟨_,rfl⟩
  obtain ⟨l2,hl2e⟩:∃ l2,l2=G2.units.length:=⟨_,rfl⟩
  rw [hCt, <- hl2e] at hC
  rw [<- hl1] at HB1x hlu1 hlen
  rw [<- hl2e] at HB2x hl2 hlen
  have hm1:l1<=9223372036854775807:=by rw [hl1,hV];exact hU1.len
  have HCh:=hid hC
  obtain ⟨f0,f1,f2,ff,flt⟩:=HB1x.out
  obtain ⟨g0,g1,g2,gf,glt⟩:=HB2x.out
  have z1:=ext_cell f1 flt
  have z2:=ext_cell g1 glt
  have hd1:decide ((l2:Int)<=(l1:Int))=true:=decide_eq_true (by omega)
  have hd2:decide ((l1:Int) < (l2:Int))=false:=decide_eq_false (by omega)
  have hcap:l2<=cU1:=by omega
  have HU1:Hid (FormsAt W5 aU1 (G2.units++V)):=hU1
  clear hU1 hUU hC hV hl1 hl2e hCt f0 f2 g0 g2 HG1 HG2
  go_upto_region 7 with fail
  refine wp_region_quiet_ext (by kernel_rfl) (by kernel_rfl) ?_
  repeat (go_big_quiet_step (first | (go_at_call 20;exact Calls.ext_of (HCh.out _))))
  refine wpQuiet_nil ?_
  intro _ hw'
  obtain ⟨nq,hw''⟩:=hw'
  subst hw''
  have HBN:=hid (HBe.out.trans ((ext_below W5 nq).mono HBe.out.size))
  generalize ext W5 nq=w6 at *
  go_wp2
  go_ret
  exact ⟨rfl,HBN.out⟩
def reM (n r:Nat):ModL:=⟨[(n:Int)],List.replicate r exR⟩
theorem valid1 {n:Nat} (h1:1<=n) (h2:n<=300):validL [(n:Int)]=true:=by
 have h:¬ ((n:Int) < 1 ∨ 16384 < (n:Int) ∨ 16384 < 1 * (n:Int)):=by omega
 unfold validL validFrom validFrom
 rw [if_neg h]
 rfl
theorem size1 {n:Nat} (h1:1<=n) (h2:n<=300):sizeL [(n:Int)]=n:=by
 unfold sizeL
 rw [valid1 h1 h2,if_pos rfl]
 show 1 * (n:Int)=n
 omega
theorem curr_rep (n:Nat):∀ r:Nat,currL [(n:Int)] (List.replicate r [(n:Int)])=[(n:Int)]
 | 0=>rfl
 | r+1=>by rw [List.replicate_succ',currL_snoc]
theorem reM_fits {n:Nat} (h1:1<=n) (h2:n<=300):∀ r:Nat,r<=60->∃ Y,Fits (reM n r) [] (List.replicate r [(n:Int)]) Y
 | 0,_=>by
  have hs:shapesL (reM n 0)=([],0,0):=by
   show (if validM ⟨[(n:Int)],[]⟩ then shapesFrom [(n:Int)] [] [] else ([],0,1))=_
   have hv:validM ⟨[(n:Int)],[]⟩=true:=by
    show (validL [(n:Int)] && _)=true
    rw [valid1 h1 h2]
    rfl
   rw [hv]
   rfl
  obtain ⟨T,hF⟩:=fits_of (m:=reM n 0) [] (by rw [hs])
  have hT:T=[]:=List.eq_nil_of_length_eq_zero hF.ch.1
  subst hT
  exact ⟨_,hF⟩
 | r+1,hr=>by
  obtain ⟨Y,hF⟩:=reM_fits h1 h2 r (by omega)
  have h:=relu_fits hF (by show (List.replicate r exR).length+1<=64;rw [List.length_replicate];omega)
  rw [show (reM n r).input=[(n:Int)] from rfl,curr_rep,show List.replicate r [(n:Int)]++[[(n:Int)]]=List.replicate (r+1) [(n:Int)] from List.replicate_succ'.symm,
   show (⟨[(n:Int)],(reM n r).layers++[exR]⟩:ModL)=reM n (r+1) by show (⟨_,List.replicate r exR++[exR]⟩:ModL)=⟨_,List.replicate (r+1) exR⟩;rw [List.replicate_succ']] at h
  exact ⟨_,h⟩
theorem cnt_rep {n:Nat} (h1:1<=n) (h2:n<=300):∀ r:Nat,cntL (List.replicate r exR) (List.replicate r [(n:Int)])=(n:Int) * r
 | 0=>by show (0:Int)=_;simp
 | r+1=>by
  show sizeL [(n:Int)]+cntL (List.replicate r exR) (List.replicate r [(n:Int)])=_
  rw [size1 h1 h2,cnt_rep h1 h2 r]
  have:(n:Int) * ((r+1:Nat):Int)=n * r+n:=by rw [Int.natCast_add,Int.mul_add];simp
  omega
theorem re_count {n r:Nat} (h1:1<=n) (h2:n<=300) (hr:r<=60):countL (reM n r)=((n:Int) * r,0):=by
 obtain ⟨Y,hF⟩:=reM_fits h1 h2 r hr
 unfold countL
 rw [hF.sh,if_pos rfl]
 show (cntL (List.replicate r exR) (List.replicate r [(n:Int)]),(0:Int))=_
 rw [cnt_rep h1 h2]
theorem re_eq {n r:Nat} (h1:1<=n) (h2:n<=300) (hr:r<=60):∃ G,lowerL (reM n r)=if 256 < (n:Int) ∨ 1024 < (n:Int) * r then (emptyG,8) else (G,0):=by
 obtain ⟨Y,hF⟩:=reM_fits h1 h2 r hr
 unfold lowerL
 rw [hF.sh,if_pos rfl]
 show ∃ G,(if 256 < sizeL [(n:Int)] ∨ 1024 < cntL (List.replicate r exR) (List.replicate r [(n:Int)]) ∨ 256 < sizeL (currL [(n:Int)] (List.replicate r [(n:Int)])) then (emptyG,(8:Int)) else _)=_
 rw [cnt_rep h1 h2,curr_rep,size1 h1 h2]
 by_cases h:256 < (n:Int) ∨ 1024 < (n:Int) * r
 ·exact ⟨emptyG,by rw [if_pos h,if_pos (by rcases h with h | h;exact .inl h;exact .inr (.inl h))]⟩
 ·rw [if_neg (by rintro (k | k | k);exact h (.inl k);exact h (.inr k);exact h (.inl k))]
  exact ⟨_,by rw [if_neg h]⟩
theorem re_big {n r:Nat} (h1:1<=n) (h2:n<=300) (hr:r<=60) (h:256 < n ∨ 1024 < n * r):lowerL (reM n r)=(emptyG,8):=by
 obtain ⟨G,e⟩:=re_eq h1 h2 hr
 rw [e,if_pos]
 rcases h with h | h
 ·exact .inl (by omega)
 ·exact .inr (by have:=Int.ofNat_lt.2 h;rw [Int.natCast_mul] at this;exact this)
theorem re_small {n:Nat} (h1:1<=n) (h2:n<=256):∀ r:Nat,r<=6->n * r<=1024->∃ G,lowerL (reM n r)=(G,0)/\G.inputs=n/\G.units.length=n * r/\G.outs.length=n
 | 0,_,_=>by
  obtain ⟨Y,hF⟩:=reM_fits h1 (by omega) 0 (by omega)
  unfold lowerL
  rw [hF.sh,if_pos rfl]
  refine ⟨⟨(sizeL [(n:Int)]).toNat,[],varsF (sizeL [(n:Int)]).toNat⟩,?_,?_,by simp,?_⟩
  ·show (if 256 < sizeL [(n:Int)] ∨ 1024 < (0:Int) ∨ 256 < sizeL [(n:Int)] then (emptyG,(8:Int)) else _)=_
   rw [if_neg (by rw [size1 h1 (by omega)];omega)]
   rfl
  ·show (sizeL [(n:Int)]).toNat=n
   rw [size1 h1 (by omega)];omega
  ·show (varsF (sizeL [(n:Int)]).toNat).length=n
   rw [size1 h1 (by omega)];simp [varsF]
 | r+1,hr,hb=>by
  have hm:n * (r+1)=n * r+n:=Nat.mul_succ n r
  obtain ⟨G,e,g1,g2,g3⟩:=re_small h1 h2 r (by omega) (by omega)
  have hre:(⟨(reM n r).input,(reM n r).layers++[exR]⟩:ModL)=reM n (r+1):=by
   show (⟨_,List.replicate r exR++[exR]⟩:ModL)=⟨_,List.replicate (r+1) exR⟩
   rw [List.replicate_succ'];rfl
  have hl:=lower_relu (m:=reM n r) (by show (List.replicate r exR).length+1<=64;rw [List.length_replicate];omega)
  rw [hre] at hl
  rcases hl.2 (by rw [e]) with h | ⟨G0,G',e0,e',i1,i2,i3⟩
  ·obtain ⟨Gx,ex⟩:=re_eq (n:=n) (r:=r+1) h1 (by omega) (by omega)
   rw [if_neg (by
    rintro (k | k)
    ·omega
    ·have:=Int.ofNat_le.2 hb
     rw [Int.natCast_mul] at this
     omega)] at ex
   rw [ex] at h
   have h:(0:Int)=8:=h
   omega
  ·rw [e] at e0
   cases e0
   refine ⟨G',e',by rw [i1,g1],?_,?_⟩
   ·rw [i2,List.length_append,g2,g3,hm]
   ·rw [i3,List.length_map,List.length_range,g3]
end Go.Proofs.YtfgmmghmmfmdgaaGreat
