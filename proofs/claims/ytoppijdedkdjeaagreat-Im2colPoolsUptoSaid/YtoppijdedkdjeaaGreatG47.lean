/-
  Contracts of the functions that the statement reaches: LwX.
-/
import Derived.Test.YtoppijdedkdjeaaGreatG46
set_option linter.unusedVariables false
set_option linter.unusedSimpArgs false
set_option linter.constructorNameAsVariable false
set_option linter.deprecated false
set_option maxRecDepth 100000
set_option maxHeartbeats 3200000
namespace Go.Proofs.YtoppijdedkdjeaaGreat
open Go.RowKit
open Go.Lib (hid)
theorem lawPools3 {w : World} {m : ModL} {l : LayL} {L : List RatL} {a1 a2 ax : Option Addr} (c1 c2 cx : Nat) (h1 : Ints w Any a1 m.input) (h2 : LaysAt w a2 m.layers) (hr : ∀ l ∈ m.layers, LayRange l) (hs : ∀ l ∈ m.layers, LayLe l)
  (hX : RatsAt w ax L) (hL : ∀ x ∈ L, RatLe x 1048576) (hm : m.layers = [l]) (hk : l.kind = 3) :
  Calls Tryz.prog 10 #[.agg #[.slice a1 m.input.length c1, .slice a2 m.layers.length c2], .slice ax L.length cx] w fun e w' => e = .returned (.bool true) /\ Below w.heap.size w w' := by
 have q1 := h1.len
 have q2 := h2.len
 have q3 := hX.len
 have H1 := hid h1
 have H2 := hid h2
 have HX0 := hid hX
 have HRg := hid hr
 have HSh := hid hs
 have HL := hid hL
 have hb0 : Below w.heap.size w (w.alloc (.cells #[.slice a1 m.input.length c1, .slice a2 m.layers.length c2] 25)) := (Below.refl _ _).alloc (Nat.le_refl _) _
 have hx0 := Box2.alloc w (.slice a1 m.input.length c1) (.slice a2 m.layers.length c2) 25
 have HM := hid hm
 have HK := hid hk
 clear h1 h2 hr hs hX hL hm hk
 go_enter Tryz.func10, Tryz.ntmps10
 go_upto_region 1 with fail
 generalize w.alloc (.cells #[.slice a1 m.input.length c1, .slice a2 m.layers.length c2] 25) = W at *
 have HB0 := hid hb0
 have HX00 := hid hx0
 clear hb0 hx0
 go_wp2_with fail
 refine (awake53 W).mono ?_
 rintro e w1 ⟨rfl, hb1⟩
 have HB1 := hid (HB0.out.trans (hb1.mono HB0.out.size))
 have HX1 := hid (HX00.out.below hb1)
 clear hb1
 obtain ⟨x0, x1, xf, xlt⟩ := HX1.out
 go_upto_region 3 with fail
 have hlen : m.layers.length = 1 := by rw [HM.out]; rfl
 obtain ⟨bl, ol, l', ha2, hbl, hl, b1, b2, d1, d2, ⟨l0, l1, l2, l3, l4, l5, l6, l7, l8⟩, r1, r2⟩ := (H2.out.below HB1.out).pick (k := 0) (by omega)
 have hll : l = l' := by rw [HM.out] at hl; simpa using hl
 subst hll
 have hml : l ∈ m.layers := by rw [HM.out]; simp
 have hle := HSh.out l hml
 subst ha2
 rw [hlen] at x1
 have e0 := ext_cell x0 xlt
 have e1 := ext_cell x1 xlt
 simp only [Nat.zero_mul, Nat.add_zero] at l0 l1 l2 l3 l4 l5 l6 l7 l8
 have f0 := ext_cell l0 hbl
 have f1 := ext_cell l1 hbl
 have f2 := ext_cell l2 hbl
 have f3 := ext_cell l3 hbl
 have f4 := ext_cell l4 hbl
 have f5 := ext_cell l5 hbl
 have f6 := ext_cell l6 hbl
 have f7 := ext_cell l7 hbl
 have f8 := ext_cell l8 hbl
 have HSm : Hid (∀ e, Calls Tryz.prog 27 #[.slice a1 m.input.length c1, .agg #[.int .i64 l.kind, .int .i64 l.frm, .int .i64 l.out, .int .i64 l.kh, .int .i64 l.kw, .int .i64 l.stride, .int .i64 l.pad, .slice b1 l.weights.length d1, .slice b2 l.bias.length d2]] (ext w1 e) fun x w' => x = .returned (.bool (small5B m.input l.kh l.kw l.pad)) /\ Below (ext w1 e).heap.size (ext w1 e) w') := fun e =>
  small53v c1 l.kind l.frm l.out l.kh l.kw l.stride l.pad b1 l.weights.length d1 b2 l.bias.length d2 (H1.out.below (HB1.out.trans ((ext_below w1 e).mono HB1.out.size)))
 have HNx : Hid (∀ e, Calls Tryz.prog 28 #[.slice ax L.length cx] (ext w1 e) fun x w' => x = .returned (.bool (numB L)) /\ Below (ext w1 e).heap.size (ext w1 e) w') := fun e =>
  kNumbers cx (HX0.out.below (HB1.out.trans ((ext_below w1 e).mono HB1.out.size))) HL.out
 have HLa : Hid (∀ W', Below w1.heap.size w1 W' -> bl < W'.heap.size /\ W'.cell? ⟨bl, ol, none⟩ = some (.int .i64 l.kind) /\ W'.cell? ⟨bl, ol + 1, none⟩ = some (.int .i64 l.frm) /\ W'.cell? ⟨bl, ol + 2, none⟩ = some (.int .i64 l.out) /\ W'.cell? ⟨bl, ol + 3, none⟩ = some (.int .i64 l.kh) /\ W'.cell? ⟨bl, ol + 4, none⟩ = some (.int .i64 l.kw) /\
   W'.cell? ⟨bl, ol + 5, none⟩ = some (.int .i64 l.stride) /\ W'.cell? ⟨bl, ol + 6, none⟩ = some (.int .i64 l.pad) /\ W'.cell? ⟨bl, ol + 7, none⟩ = some (.slice b1 l.weights.length d1) /\ W'.cell? ⟨bl, ol + 8, none⟩ = some (.slice b2 l.bias.length d2)) := fun W' hb =>
  ⟨Nat.lt_of_lt_of_le hbl hb.size, (hb.cell (p := ⟨bl, ol, none⟩) hbl).trans l0, (hb.cell (p := ⟨bl, ol + 1, none⟩) hbl).trans l1, (hb.cell (p := ⟨bl, ol + 2, none⟩) hbl).trans l2, (hb.cell (p := ⟨bl, ol + 3, none⟩) hbl).trans l3, (hb.cell (p := ⟨bl, ol + 4, none⟩) hbl).trans l4,
   (hb.cell (p := ⟨bl, ol + 5, none⟩) hbl).trans l5, (hb.cell (p := ⟨bl, ol + 6, none⟩) hbl).trans l6, (hb.cell (p := ⟨bl, ol + 7, none⟩) hbl).trans l7, (hb.cell (p := ⟨bl, ol + 8, none⟩) hbl).trans l8⟩
 have HR1 := hid r1
 have HR2 := hid r2
 have HLen := hid hlen
 have HLe := hid hle
 have HMl := hid hml
 clear l0 l1 l2 l3 l4 l5 l6 l7 l8 x0 x1 r1 r2 hl hle hml hlen
 by_cases hv0 : small5B m.input l.kh l.kw l.pad = true
 case neg =>
  rw [Bool.not_eq_true] at hv0
  rw [hv0] at HSm
  clear hv0
  refine wp_region_quiet_ext (by kernel_rfl) (by kernel_rfl) ?_
  repeat (go_big_quiet_step (first | (go_at_call 27; with_reducible exact Calls.ext_of (HSm.out _)) | (go_at_call 28; with_reducible exact Calls.ext_of (HNx.out _))))
  refine wpQuiet_nil ?_
  intro _ hw'
  obtain ⟨nq, hw''⟩ := hw'
  subst hw''
  have HB2 := hid (HB1.out.trans ((ext_below w1 nq).mono HB1.out.size))
  have HX2 := hid (HX1.out.below (ext_below w1 nq))
  have HB12 := hid (ext_below w1 nq)
  generalize ext w1 nq = w2 at *
  go_wp2
  go_ret
  exact ⟨rfl, HB2.out⟩
 rw [hv0] at HSm
 have Vhv0 := hid hv0
 clear hv0
 by_cases hv1 : numB L = true
 case neg =>
  rw [Bool.not_eq_true] at hv1
  rw [hv1] at HNx
  clear hv1
  refine wp_region_quiet_ext (by kernel_rfl) (by kernel_rfl) ?_
  repeat (go_big_quiet_step (first | (go_at_call 27; with_reducible exact Calls.ext_of (HSm.out _)) | (go_at_call 28; with_reducible exact Calls.ext_of (HNx.out _))))
  refine wpQuiet_nil ?_
  intro _ hw'
  obtain ⟨nq, hw''⟩ := hw'
  subst hw''
  have HB2 := hid (HB1.out.trans ((ext_below w1 nq).mono HB1.out.size))
  have HX2 := hid (HX1.out.below (ext_below w1 nq))
  have HB12 := hid (ext_below w1 nq)
  generalize ext w1 nq = w2 at *
  go_wp2
  go_ret
  exact ⟨rfl, HB2.out⟩
 rw [hv1] at HNx
 have Vhv1 := hid hv1
 clear hv1
 rw [HK.out] at f0 HSm HLa
 refine wp_region_quiet_ext (by kernel_rfl) (by kernel_rfl) ?_
 repeat (go_big_quiet_step (first | (go_at_call 27; with_reducible exact Calls.ext_of (HSm.out _)) | (go_at_call 28; with_reducible exact Calls.ext_of (HNx.out _))))
 refine wpQuiet_nil ?_
 intro _ hw'
 obtain ⟨nq, hw''⟩ := hw'
 subst hw''
 have HB2 := hid (HB1.out.trans ((ext_below w1 nq).mono HB1.out.size))
 have HX2 := hid (HX1.out.below (ext_below w1 nq))
 have HB12 := hid (ext_below w1 nq)
 generalize ext w1 nq = w2 at *
 clear e0 e1 f0 f1 f2 f3 f4 f5 f6 f7 f8 HSm HNx xf xlt
 obtain ⟨x0, x1, xf, xlt⟩ := HX2.out
 rw [HLen.out] at x1
 have HOf := r13Of c1 c2 (H1.out.below HB2.out) (H2.out.below HB2.out) HRg.out HSh.out
 rw [HLen.out] at HOf
 have HOf := hid HOf
 obtain ⟨P, hP⟩ : ∃ P, P = shapesL m := ⟨_, rfl⟩
 rw [<- hP] at HOf
 obtain ⟨T0, i0, er⟩ := P
 have HP := hid hP
 clear hP
 go_wp2_with fail
 refine HOf.out.mono ?_
 rintro e w3 ⟨⟨aT, cT, rfl, _⟩, hb3⟩
 simp only
 have HB3 := hid (HB2.out.trans (hb3.mono HB2.out.size))
 have HX3 := hid (HX2.out.below hb3)
 have HB13 := hid (HB12.out.trans (hb3.mono HB12.out.size))
 clear hb3 HOf x0 x1 xf xlt
 obtain ⟨x0, x1, xf, xlt⟩ := HX3.out
 rw [HLen.out] at x1
 by_cases her : er = 0
 case neg =>
  have t1 : (er != 0) = true := by rw [bne_iff_ne]; exact her
  go_wp2
  go_ret
  exact ⟨rfl, HB3.out⟩
 subst her
 have HSz := hid (rSize c1 (H1.out.below HB3.out))
 by_cases hx : (L.length : Int) = sizeL m.input
 case neg =>
  generalize sizeL m.input = sz at *
  have t2 : ((L.length : Int) != sz) = true := by rw [bne_iff_ne]; exact hx
  go_wp2_with fail
  refine HSz.out.mono ?_
  rintro e w' ⟨rfl, rfl⟩
  go_wp2
  go_ret
  exact ⟨rfl, HB3.out⟩
 rw [<- hx] at HSz
 have t2 : ((L.length : Int) != (L.length : Int)) = false := by simp
 have h0 : (shapesL m).2.2 = 0 := by rw [<- HP.out]
 have hx' : ((L.map ratOf).length : Int) = sizeL m.input := by rw [List.length_map]; exact hx
 obtain ⟨q, n, T, hM⟩ := pool_one (x := L.map ratOf) HM.out h0 hx' (by rw [HK.out]; omega)
 have hnone := none_of (one_out HM.out h0) (by rw [HK.out]; omega)
 have hsm := small_none hnone.1 hnone.2
 obtain ⟨hLb, D, hD, hBd, hRo⟩ := one_room Vhv1.out
 have hroom := pool_room hD hBd hRo
 have hxl : (L.map ratOf).length = L.length := List.length_map ..
 have hNx : L.length <= 200 := (numB_little Vhv1.out).2
 obtain ⟨P2, hP2⟩ : ∃ P2, P2 = q.C * T := ⟨_, rfl⟩
 obtain ⟨P1, hP1⟩ : ∃ P1, P1 = P2 * n := ⟨_, rfl⟩
 have hgl : (poolOf q.all q.C n).length = P1 := by
  rw [hM.hn, pool_len, <- hM.hn, <- hM.hT, hP1, hP2, Nat.mul_assoc]
 have hP2b : P2 <= 16384 := by rw [hP2]; exact hM.ct
 have hn2 := hM.n2
 have hn1 := hM.n1
 have hP1b : P1 <= 67108864 := by rw [hP1]; exact Nat.mul_le_mul hP2b hn2
 have hpl := hM.pool
 rw [HK.out] at hpl
 have hrun := hM.run
 have hcl : (poolQ maxL q.C n q.all (L.map ratOf)).length = P2 := by rw [hM.len, hP2]
 rw [HK.out] at hrun
 rw [if_pos rfl] at hrun
 have HAt := hid (fun (i : Nat) (hi : i < P2) (k : Nat) (hk : k < n) => hM.at (i := i) (k := k) (by rw [<- hP2]; exact hi) hk)
 have HOt := hid (fun (i : Nat) (hi : i < P2) => hM.out maxL (i := i) (by rw [<- hP2]; exact hi))
 have HGn := hid (fun (i : Nat) (hi : i < P2) => hM.glen (i := i) (by rw [<- hP2]; exact hi))
 have HRoom := hid hroom
 have HSs := hid hsm
 have HLb := hid hLb
 have HXl := hid hxl
 have HGl := hid hgl
 have HCl := hid hcl
 have HP1 := hid hP1
 have HP2b := hid hP2b
 have HP1b := hid hP1b
 have Hn1 := hid hn1
 have Hn2 := hid hn2
 have HPl := hid hpl
 have HRun := hid hrun
 have HNx' := hid hNx
 clear hM hnone hsm hLb hBd hRo hD hroom hxl hNx hP2 hP1 hgl hP2b hP1b hn1 hn2 hpl hrun hcl h0 hx' hx
 obtain ⟨lb, l0, l1, l2, l3, l4, l5, l6, l7, l8⟩ := HLa.out w3 HB13.out
 go_wp2_with fail
 refine HSz.out.mono ?_
 rintro e w' ⟨rfl, rfl⟩
 go_upto_region 8 with fail
 have HPo : Hid (∀ W, Below w3.heap.size w3 W -> Calls Tryz.prog 32 #[.slice a1 m.input.length c1, .agg #[.int .i64 3, .int .i64 l.frm, .int .i64 l.out, .int .i64 l.kh, .int .i64 l.kw, .int .i64 l.stride, .int .i64 l.pad, .slice b1 l.weights.length d1, .slice b2 l.bias.length d2]] W (PoolPost W (poolOf q.all q.C n, (n : Int), 0))) := fun W hb => by
  have h := tPool (F := Any) c1 3 l.frm l.out l.kh l.kw l.stride l.pad b1 l.weights.length d1 b2 l.bias.length d2 (H1.out.below (HB3.out.trans (hb.mono HB3.out.size)))
  rw [HPl.out] at h
  exact h
 have HCe : Hid (∀ W, Below w3.heap.size w3 W -> W.cell? ⟨w.heap.size, 0, none⟩ = some (.slice a1 m.input.length c1) /\ W.cell? ⟨w.heap.size, 1, none⟩ = some (.slice (some ⟨bl, ol, none⟩) 1 c2) /\
   W.cell? ⟨bl, ol, none⟩ = some (.int .i64 3) /\ W.cell? ⟨bl, ol + 1, none⟩ = some (.int .i64 l.frm) /\ W.cell? ⟨bl, ol + 2, none⟩ = some (.int .i64 l.out) /\ W.cell? ⟨bl, ol + 3, none⟩ = some (.int .i64 l.kh) /\ W.cell? ⟨bl, ol + 4, none⟩ = some (.int .i64 l.kw) /\
   W.cell? ⟨bl, ol + 5, none⟩ = some (.int .i64 l.stride) /\ W.cell? ⟨bl, ol + 6, none⟩ = some (.int .i64 l.pad) /\ W.cell? ⟨bl, ol + 7, none⟩ = some (.slice b1 l.weights.length d1) /\ W.cell? ⟨bl, ol + 8, none⟩ = some (.slice b2 l.bias.length d2)) := fun W hb => by
  obtain ⟨z0, z1, _, _⟩ := HX3.out.below hb
  rw [HLen.out] at z1
  exact ⟨z0, z1, (HLa.out W (HB13.out.trans (hb.mono HB13.out.size))).2⟩
 clear HSz x0 x1 xf xlt l0 l1 l2 l3 l4 l5 l6 l7 l8 lb t2
 go_cut [8, 9, 10] (fun s8 s9 s10 wx => ∃ a c, s8 = .slice a P1 c /\ s9 = .int .i64 (n : Int) /\ s10 = .int .i64 0 /\ Ints wx Any a (poolOf q.all q.C n) /\ Below w3.heap.size w3 wx)
 case first =>
  refine wp_region_slots_all (by kernel_rfl) (by kernel_rfl) (by kernel_rfl) (AllJ w3 (PlG (fun i => match i with | 0 => .pointer (some ⟨w.heap.size, 0, none⟩) | 1 => .slice a1 m.input.length c1 | 2 => .pointer (some ⟨w.heap.size, 1, none⟩) | 3 => .slice (some ⟨bl, ol, none⟩) 1 c2 | 4 => .pointer (some ⟨bl, ol, none⟩) | 5 => .agg #[.int .i64 3, .int .i64 l.frm, .int .i64 l.out, .int .i64 l.kh, .int .i64 l.kw, .int .i64 l.stride, .int .i64 l.pad, .slice b1 l.weights.length d1, .slice b2 l.bias.length d2] | _ => .bool false) (poolOf q.all q.C n) P1 (n : Int))) (fun g => AllJ.start g) ?_ ?_
  ·intro ops
   simp only [ShowsJ]
   refine ⟨?_, ?_, ?_, ?_, ?_, ?_, ?_, ?_, ?_, ?_, ?_, ?_, ?_, ?_, trivial⟩
   all_goals (intro d g W hJ hd hW; have hJB := hJ.be; obtain ⟨z0, z1, z2, z3, z4, z5, z6, z7, z8, z9, z10⟩ := HCe.out W hJ.be; simp only [Waits, Region.binds, forall_const, Bool.false_eq_true, false_implies, and_true, true_and] at hW)
   ·simp [fillFrom, Act.put]
    have HJ := hid hJ
    clear hJ hd hW
    go_wp2
    first | exact ⟨_, rfl, HJ.out.here (fun i v w w' h hb => PlG_below h hb) rfl⟩ | exact ⟨rfl, _, HJ.out.here (fun i v w w' h hb => PlG_below h hb) rfl⟩ | exact HJ.out.here (fun i v w w' h hb => PlG_below h hb) rfl
   ·have h0 : d 0 = true := by first | exact hW | exact hW.1 | exact hW.2 | exact hW.2.1 | exact hW.2.2 | exact hW.2.2.1 | exact hW.2.2.2 | exact hW.2.2.2.1 | exact hW.2.2.2.2
    have J0 := hJ.all 0 h0
    simp only [PlG] at J0
    simp [fillFrom, Act.put]
    generalize hg0 : g 0 = y0
    rw [hg0] at J0
    obtain rfl := J0
    have HJ := hid hJ
    clear hJ hd hW h0
    go_wp2
    first | exact ⟨_, rfl, HJ.out.here (fun i v w w' h hb => PlG_below h hb) rfl⟩ | exact ⟨rfl, _, HJ.out.here (fun i v w w' h hb => PlG_below h hb) rfl⟩ | exact HJ.out.here (fun i v w w' h hb => PlG_below h hb) rfl
   ·simp [fillFrom, Act.put]
    have HJ := hid hJ
    clear hJ hd hW
    go_wp2
    first | exact ⟨_, rfl, HJ.out.here (fun i v w w' h hb => PlG_below h hb) rfl⟩ | exact ⟨rfl, _, HJ.out.here (fun i v w w' h hb => PlG_below h hb) rfl⟩ | exact HJ.out.here (fun i v w w' h hb => PlG_below h hb) rfl
   ·have h2 : d 2 = true := by first | exact hW | exact hW.1 | exact hW.2 | exact hW.2.1 | exact hW.2.2 | exact hW.2.2.1 | exact hW.2.2.2 | exact hW.2.2.2.1 | exact hW.2.2.2.2
    have J2 := hJ.all 2 h2
    simp only [PlG] at J2
    simp [fillFrom, Act.put]
    generalize hg2 : g 2 = y2
    rw [hg2] at J2
    obtain rfl := J2
    have HJ := hid hJ
    clear hJ hd hW h2
    go_wp2
    first | exact ⟨_, rfl, HJ.out.here (fun i v w w' h hb => PlG_below h hb) rfl⟩ | exact ⟨rfl, _, HJ.out.here (fun i v w w' h hb => PlG_below h hb) rfl⟩ | exact HJ.out.here (fun i v w w' h hb => PlG_below h hb) rfl
   ·have h3 : d 3 = true := by first | exact hW | exact hW.1 | exact hW.2 | exact hW.2.1 | exact hW.2.2 | exact hW.2.2.1 | exact hW.2.2.2 | exact hW.2.2.2.1 | exact hW.2.2.2.2
    have J3 := hJ.all 3 h3
    simp only [PlG] at J3
    simp [fillFrom, Act.put]
    generalize hg3 : g 3 = y3
    rw [hg3] at J3
    obtain rfl := J3
    have HJ := hid hJ
    clear hJ hd hW h3
    go_wp2
    first | exact ⟨_, rfl, HJ.out.here (fun i v w w' h hb => PlG_below h hb) rfl⟩ | exact ⟨rfl, _, HJ.out.here (fun i v w w' h hb => PlG_below h hb) rfl⟩ | exact HJ.out.here (fun i v w w' h hb => PlG_below h hb) rfl
   ·have h4 : d 4 = true := by first | exact hW | exact hW.1 | exact hW.2 | exact hW.2.1 | exact hW.2.2 | exact hW.2.2.1 | exact hW.2.2.2 | exact hW.2.2.2.1 | exact hW.2.2.2.2
    have J4 := hJ.all 4 h4
    simp only [PlG] at J4
    simp [fillFrom, Act.put]
    generalize hg4 : g 4 = y4
    rw [hg4] at J4
    obtain rfl := J4
    have HJ := hid hJ
    clear hJ hd hW h4
    go_wp2
    first | exact ⟨_, rfl, HJ.out.here (fun i v w w' h hb => PlG_below h hb) rfl⟩ | exact ⟨rfl, _, HJ.out.here (fun i v w w' h hb => PlG_below h hb) rfl⟩ | exact HJ.out.here (fun i v w w' h hb => PlG_below h hb) rfl
   ·have h1 : d 1 = true := by first | exact hW | exact hW.1 | exact hW.2 | exact hW.2.1 | exact hW.2.2 | exact hW.2.2.1 | exact hW.2.2.2 | exact hW.2.2.2.1 | exact hW.2.2.2.2
    have h5 : d 5 = true := by first | exact hW | exact hW.1 | exact hW.2 | exact hW.2.1 | exact hW.2.2 | exact hW.2.2.1 | exact hW.2.2.2 | exact hW.2.2.2.1 | exact hW.2.2.2.2
    have J1 := hJ.all 1 h1
    have J5 := hJ.all 5 h5
    simp only [PlG] at J1 J5
    simp [fillFrom, Act.put]
    generalize hg1 : g 1 = y1
    rw [hg1] at J1
    generalize hg5 : g 5 = y5
    rw [hg5] at J5
    obtain rfl := J1
    obtain rfl := J5
    have HJ := hid hJ
    clear hJ hd hW h1 h5
    have HCt := hid (HPo.out W hJB)
    go_wp2_with fail
    refine HCt.out.mono ?_
    rintro e w1 ⟨a', c', rfl, hI, kb⟩
    have KB := hid kb
    have HI := hid (hI.mono (F' := Any) (fun _ _ _ => trivial))
    simp only at hI HI ⊢
    rw [HGl.out]
    clear hI
    clear kb HCt
    go_wp2
    first | exact ⟨_, rfl, HJ.out.step (fun i v w w' h hb => PlG_below h hb) KB.out ⟨_, _, rfl, HI.out⟩⟩ | exact HJ.out.step (fun i v w w' h hb => PlG_below h hb) KB.out ⟨_, _, rfl, HI.out⟩
   ·have h6 : d 6 = true := by first | exact hW | exact hW.1 | exact hW.2 | exact hW.2.1 | exact hW.2.2 | exact hW.2.2.1 | exact hW.2.2.2 | exact hW.2.2.2.1 | exact hW.2.2.2.2
    have J6 := hJ.all 6 h6
    simp only [PlG] at J6
    simp [fillFrom, Act.put]
    generalize hg6 : g 6 = y6
    rw [hg6] at J6
    obtain ⟨a6, c6, rfl, H6⟩ := J6
    have HJ := hid hJ
    clear hJ hd hW h6
    have K6 := hid H6
    clear H6
    go_wp2
    first | exact ⟨_, rfl, HJ.out.here (fun i v w w' h hb => PlG_below h hb) ⟨_, _, rfl, K6.out⟩⟩ | exact ⟨rfl, _, HJ.out.here (fun i v w w' h hb => PlG_below h hb) ⟨_, _, rfl, K6.out⟩⟩ | exact HJ.out.here (fun i v w w' h hb => PlG_below h hb) ⟨_, _, rfl, K6.out⟩
   ·have h7 : d 7 = true := by first | exact hW | exact hW.1 | exact hW.2 | exact hW.2.1 | exact hW.2.2 | exact hW.2.2.1 | exact hW.2.2.2 | exact hW.2.2.2.1 | exact hW.2.2.2.2
    have J7 := hJ.all 7 h7
    simp only [PlG] at J7
    simp [fillFrom, Act.put]
    generalize hg7 : g 7 = y7
    rw [hg7] at J7
    obtain ⟨a7, c7, rfl, H7⟩ := J7
    have HJ := hid hJ
    clear hJ hd hW h7
    have K7 := hid H7
    clear H7
    go_wp2
    first | exact ⟨_, rfl, HJ.out.here (fun i v w w' h hb => PlG_below h hb) ⟨_, _, rfl, K7.out⟩⟩ | exact ⟨rfl, _, HJ.out.here (fun i v w w' h hb => PlG_below h hb) ⟨_, _, rfl, K7.out⟩⟩ | exact HJ.out.here (fun i v w w' h hb => PlG_below h hb) ⟨_, _, rfl, K7.out⟩
   ·have h7 : d 7 = true := by first | exact hW | exact hW.1 | exact hW.2 | exact hW.2.1 | exact hW.2.2 | exact hW.2.2.1 | exact hW.2.2.2 | exact hW.2.2.2.1 | exact hW.2.2.2.2
    have J7 := hJ.all 7 h7
    simp only [PlG] at J7
    simp [fillFrom, Act.put]
    generalize hg7 : g 7 = y7
    rw [hg7] at J7
    obtain ⟨a7, c7, rfl, H7⟩ := J7
    have HJ := hid hJ
    clear hJ hd hW h7
    clear H7
    go_wp2
    first | exact ⟨_, rfl, HJ.out.here (fun i v w w' h hb => PlG_below h hb) rfl⟩ | exact ⟨rfl, _, HJ.out.here (fun i v w w' h hb => PlG_below h hb) rfl⟩ | exact HJ.out.here (fun i v w w' h hb => PlG_below h hb) rfl
   ·have h7 : d 7 = true := by first | exact hW | exact hW.1 | exact hW.2 | exact hW.2.1 | exact hW.2.2 | exact hW.2.2.1 | exact hW.2.2.2 | exact hW.2.2.2.1 | exact hW.2.2.2.2
    have J7 := hJ.all 7 h7
    simp only [PlG] at J7
    simp [fillFrom, Act.put]
    generalize hg7 : g 7 = y7
    rw [hg7] at J7
    obtain ⟨a7, c7, rfl, H7⟩ := J7
    have HJ := hid hJ
    clear hJ hd hW h7
    clear H7
    go_wp2
    first | exact ⟨_, rfl, HJ.out.here (fun i v w w' h hb => PlG_below h hb) rfl⟩ | exact ⟨rfl, _, HJ.out.here (fun i v w w' h hb => PlG_below h hb) rfl⟩ | exact HJ.out.here (fun i v w w' h hb => PlG_below h hb) rfl
   ·have h8 : d 8 = true := by first | exact hW | exact hW.1 | exact hW.2 | exact hW.2.1 | exact hW.2.2 | exact hW.2.2.1 | exact hW.2.2.2 | exact hW.2.2.2.1 | exact hW.2.2.2.2
    have J8 := hJ.all 8 h8
    simp only [PlG] at J8
    simp [fillFrom, Act.put]
    generalize hg8 : g 8 = y8
    rw [hg8] at J8
    obtain ⟨a8, c8, rfl, H8⟩ := J8
    have HJ := hid hJ
    clear hJ hd hW h8
    have K8 := hid H8
    clear H8
    go_wp2
    first | exact ⟨_, rfl, HJ.out.here (fun i v w w' h hb => PlG_below h hb) ⟨_, _, rfl, K8.out⟩⟩ | exact ⟨rfl, _, HJ.out.here (fun i v w w' h hb => PlG_below h hb) ⟨_, _, rfl, K8.out⟩⟩ | exact HJ.out.here (fun i v w w' h hb => PlG_below h hb) ⟨_, _, rfl, K8.out⟩
   ·have h9 : d 9 = true := by first | exact hW | exact hW.1 | exact hW.2 | exact hW.2.1 | exact hW.2.2 | exact hW.2.2.1 | exact hW.2.2.2 | exact hW.2.2.2.1 | exact hW.2.2.2.2
    have J9 := hJ.all 9 h9
    simp only [PlG] at J9
    simp [fillFrom, Act.put]
    generalize hg9 : g 9 = y9
    rw [hg9] at J9
    obtain rfl := J9
    have HJ := hid hJ
    clear hJ hd hW h9
    go_wp2
    first | exact ⟨_, rfl, HJ.out.here (fun i v w w' h hb => PlG_below h hb) rfl⟩ | exact ⟨rfl, _, HJ.out.here (fun i v w w' h hb => PlG_below h hb) rfl⟩ | exact HJ.out.here (fun i v w w' h hb => PlG_below h hb) rfl
   ·have h10 : d 10 = true := by first | exact hW | exact hW.1 | exact hW.2 | exact hW.2.1 | exact hW.2.2 | exact hW.2.2.1 | exact hW.2.2.2 | exact hW.2.2.2.1 | exact hW.2.2.2.2
    have J10 := hJ.all 10 h10
    simp only [PlG] at J10
    simp [fillFrom, Act.put]
    generalize hg10 : g 10 = y10
    rw [hg10] at J10
    obtain rfl := J10
    have HJ := hid hJ
    clear hJ hd hW h10
    go_wp2
    first | exact ⟨_, rfl, HJ.out.here (fun i v w w' h hb => PlG_below h hb) rfl⟩ | exact ⟨rfl, _, HJ.out.here (fun i v w w' h hb => PlG_below h hb) rfl⟩ | exact HJ.out.here (fun i v w w' h hb => PlG_below h hb) rfl
  ·intro d g W hA hJ
   have J11 := hJ.all 11 (hA 11 (by decide))
   have J12 := hJ.all 12 (hA 12 (by decide))
   have J13 := hJ.all 13 (hA 13 (by decide))
   have HBe := hid hJ.be
   simp only [PlG] at J11 J12 J13
   simp [fillFrom, Act.put]
   generalize g 11 = y11 at J11 ⊢
   generalize g 12 = y12 at J12 ⊢
   generalize g 13 = y13 at J13 ⊢
   obtain ⟨a9, c9, rfl, H9⟩ := J11
   obtain rfl := J12
   obtain rfl := J13
   clear hJ hA
   have K9 := hid H9
   clear H9
   go_wp2
   go_meet
   exact ⟨_, _, rfl, rfl, rfl, K9.out, HBe.out⟩
 case rest =>
  obtain ⟨aG, cG, rfl, rfl, rfl, hG, hb5⟩ := hcut
  have HB5 := hid (HB3.out.trans (hb5.mono HB3.out.size))
  have HB15 := hid (HB13.out.trans (hb5.mono HB13.out.size))
  have HX5 := hid (HX3.out.below hb5)
  have HG5 := hid hG
  have HRu := evRun1 c1 c2 cx HM.out (H1.out.below HB5.out) (H2.out.below HB5.out) HRg.out HSh.out (HX0.out.below HB5.out) HSs.out Vhv1.out
  rw [HLen.out, HRun.out] at HRu
  have HRu := hid (HRu.mono (fun e w' h => run_n h (N := P2) (by rw [List.length_map]; exact HCl.out)))
  clear hb5 hG HPo HCe
  obtain ⟨x0, x1, xf, xlt⟩ := HX5.out
  rw [HLen.out] at x1
  go_wp2_with fail
  refine HRu.out.mono ?_
  rintro e w6 ⟨aY, cY, rfl, hY, hb6⟩
  have HB6 := hid (HB5.out.trans (hb6.mono HB5.out.size))
  have HB16 := hid (HB15.out.trans (hb6.mono HB15.out.size))
  have HX6 := hid (HX5.out.below hb6)
  have HG6 := hid (HG5.out.below hb6)
  have HY6 := hid hY
  clear hb6 hY HRu x0 x1 xf xlt
  have hP1b := HP1b.out
  have hP2b := HP2b.out
  have hn1 := Hn1.out
  have hn2 := Hn2.out
  have m1 : IntKind.i64.wrap ((n : Int) * (P2 : Int)) = (P1 : Int) := by rw [<- Int.natCast_mul, Nat.mul_comm, <- HP1.out]; exact IntWalk.i64_in _ (by omega)
  have t9 : decide ((n : Int) < 1) = false := decide_eq_false (by omega)
  go_wp2
  clear m1 t9
  go_loopw [13] (fun i wr => ∃ k : Nat, k <= P2 /\ i = .int .i64 (k : Int) /\ Hid (Below w6.heap.size w6 wr)) (fun i _ => P2 - (intOf i).toNat)
  case atStart => exact ⟨0, Nat.zero_le _, rfl, Below.refl _ _⟩
  case round =>
   obtain ⟨k, hk, rfl, HBr⟩ := hrel
   obtain ⟨wo, hwo⟩ : ∃ wo : World, wo = wr := ⟨_, rfl⟩
   subst hwo
   have HBo := hid (HB6.out.trans (HBr.out.mono HB6.out.size))
   by_cases hlt : k < P2
   ·obtain ⟨V, hV⟩ : ∃ V, V = valsQ (grpL q n k) (L.map ratOf) := ⟨_, rfl⟩
    have HV := hid hV
    obtain ⟨t, ht, htl, htv⟩ := HAt.out k hlt 0 Hn1.out
    rw [<- hV] at htv
    clear hV
    obtain ⟨p, hp⟩ : ∃ p, p = k * n := ⟨_, rfl⟩
    rw [Nat.add_zero, <- hp] at ht
    have hpP : p < P1 := by
     have h1 : (k + 1) * n <= P2 * n := Nat.mul_le_mul_right _ hlt
     rw [Nat.succ_mul, <- HP1.out, <- hp] at h1
     omega
    obtain ⟨bG, oG, d', haG, gc, hd', _, hbG, _, _, _⟩ := HG6.out.pick2 (k := p) (by rw [HGl.out]; exact hpP)
    rw [ht] at hd'
    cases hd'
    have gc := (HBr.out.cell (p := ⟨bG, oG + p, none⟩) hbG).trans gc
    have hXr := HX0.out
    rw [HLb.out] at hXr
    have htL : t < L.length := by rw [HXl.out] at htl; exact htl
    obtain ⟨bx, ox, y, yn, yd, ycn, ycd, hax, hbx, hyy, yc0, yc1, yc2, hyv⟩ := hXr.pick (k := t) (by rw [<- HLb.out]; exact htL)
    have yc0 := (HBo.out.cell (p := ⟨bx, ox + t * 3, none⟩) hbx).trans yc0
    have yc1 := (HBo.out.cell (p := ⟨bx, ox + t * 3 + 1, none⟩) hbx).trans yc1
    have yc2 := (HBo.out.cell (p := ⟨bx, ox + t * 3 + 2, none⟩) hbx).trans yc2
    obtain ⟨hy1, hy2⟩ := map_get hyy
    have m0 : IntKind.i64.wrap ((k : Int) * (n : Int)) = (p : Int) := by rw [<- Int.natCast_mul, <- hp]; exact IntWalk.i64_in _ (by omega)
    have HTv := hid htv
    have HYv := hid hyv
    have HY1 := hid (And.intro hy1 hy2)
    have hbG2 := Nat.lt_of_lt_of_le hbG HBr.out.size
    have hbx2 := Nat.lt_of_lt_of_le hbx HBo.out.size
    have HPp := hid hp
    have haG2 := hid haG
    have hax2 := hid hax
    rw [haG, hax]
    clear ht htl htv hp hyy hy1 hy2 hyv hXr haG hax
    go_upto_region 16 with fail
    have hst : y = ratL (topQ V 0) := by rw [HY1.out.2]; show _ = ratL (V.getD 0 0); rw [HTv.out]
    obtain ⟨p2, p3, p4, p5⟩ := HYv.out.parts
    have HSt : Hid (PlI wo ((wo.alloc (ratO y yn ycn yd ycd 37)).alloc (zerO 37)) wo.heap.size (ratL (topQ V 0)) (ratL (adsQ V 0))) := by
     have h := PlI.start p2 p3 (p4.below HBo.out) (p5.below HBo.out) 37
     rw [<- ratL_zeroE] at h
     have key : ∀ y', y' = y -> PlI wo ((wo.alloc (ratO y yn ycn yd ycd 37)).alloc (zerO 37)) wo.heap.size y' (ratL 0) := fun y' e => by subst e; exact h
     exact key _ hst.symm
    clear hst p4 p5 HYv HY1 HTv
    generalize ((wo.alloc (ratO y yn ycn yd ycd 37)).alloc (zerO 37)) = Wg at *
    clear yc0 yc1 yc2 gc m0 hbG2 hbx2 hbx hbG
    go_wp2
    go_loopw [16] (fun jj wz => ∃ j : Nat, j <= n /\ jj = .int .i64 (j : Int) /\ Hid (PlI wo wz wo.heap.size (ratL (topQ V j)) (ratL (adsQ V j)))) (fun jj _ => n - (intOf jj).toNat)
    case atStart => exact ⟨0, Nat.zero_le _, rfl, HSt.out⟩
    case round =>
     obtain ⟨j, hj, rfl, HI⟩ := hrel
     by_cases hlj : j < n
     ·obtain ⟨t2, ht2, ht2l, ht2v⟩ := HAt.out k hlt j hlj
      rw [<- HPp.out] at ht2
      rw [<- HV.out] at ht2v
      have hpj : p + j < P1 := by
       have h1 : (k + 1) * n <= P2 * n := Nat.mul_le_mul_right _ hlt
       rw [Nat.succ_mul, <- HP1.out, <- HPp.out] at h1
       omega
      have hbo : Below w6.heap.size w6 wr := HBr.out.trans (HI.out.bl.mono HBr.out.size)
      have hw0 : Below w.heap.size w wr := HBo.out.trans (HI.out.bl.mono HBo.out.size)
      obtain ⟨bG', oG', d', haG, gc, hd', _, hbG, _, _, _⟩ := HG6.out.pick2 (k := p + j) (by rw [HGl.out]; exact hpj)
      rw [haG2.out] at haG
      cases haG
      rw [ht2] at hd'
      cases hd'
      have gc := (hbo.cell (p := ⟨bG, oG + (p + j), none⟩) hbG).trans gc
      have hXr := HX0.out
      rw [HLb.out] at hXr
      have htL2 : t2 < L.length := by rw [HXl.out] at ht2l; exact ht2l
      obtain ⟨bx', ox', v, vn, vd, vcn, vcd, hax, hbx, hvv, vc0, vc1, vc2, hvv2⟩ := hXr.pick (k := t2) (by rw [<- HLb.out]; exact htL2)
      rw [hax2.out] at hax
      cases hax
      have vc0 := (hw0.cell (p := ⟨bx, ox + t2 * 3, none⟩) hbx).trans vc0
      have vc1 := (hw0.cell (p := ⟨bx, ox + t2 * 3 + 1, none⟩) hbx).trans vc1
      have vc2 := (hw0.cell (p := ⟨bx, ox + t2 * 3 + 2, none⟩) hbx).trans vc2
      have hbx2 := Nat.lt_of_lt_of_le hbx hw0.size
      have hbG2 := Nat.lt_of_lt_of_le hbG hbo.size
      obtain ⟨hv1, hv2⟩ := map_get hvv
      obtain ⟨a, ha⟩ : ∃ a, a = ratL (topQ V j) := ⟨_, rfl⟩
      obtain ⟨a1, ha1⟩ : ∃ a1, a1 = ratL (topQ V (j + 1)) := ⟨_, rfl⟩
      obtain ⟨s, hs⟩ : ∃ s, s = ratL (adsQ V j) := ⟨_, rfl⟩
      obtain ⟨s1, hs1⟩ : ∃ s1, s1 = ratL (adsQ V (j + 1)) := ⟨_, rfl⟩
      have hqa : ratL (maxQ (ratOf a) (ratOf v)) = a1 := by rw [ha, ha1, ratOf_ratL, hv1, <- ht2v]; rfl
      have hqs : ratL (ratOf s + ratOf v) = s1 := by rw [hs, hs1, ratOf_ratL, hv1, <- ht2v]; rfl
      obtain ⟨r1, r2, r3⟩ := HRoom.out (grpL q n k)
      rw [<- HV.out] at r2 r3
      have hmex : (L.map ratOf).getD t2 0 ∈ L.map ratOf := by
       rw [List.getD_eq_getElem?_getD, List.getElem?_eq_getElem (by rw [HXl.out]; exact htL2)]; exact List.getElem_mem _
      have hvle : RatLe v 524285 := by rw [hv2]; exact r1 _ hmex
      have hale : RatLe a 524286 := by rw [ha]; exact (r2 j).mono (by omega)
      have hsle : RatLe s 524286 := by rw [hs]; exact (r3 j (by omega)).mono (by omega)
      obtain ⟨b2', b3', b4', b5'⟩ := hvv2.parts
      have hal : Below wr.heap.size wr (wr.alloc (ratO v vn vcn vd vcd 37)) := (Below.refl _ _).alloc (Nat.le_refl _) _
      have HI1 := HI.out
      rw [<- ha, <- hs] at HI1
      have HI2 := hid (HI1.below hal)
      have HVb := hid (Box3.alloc wr (.bool v.neg) (.slice vn v.num.length vcn) (.slice vd v.den.length vcd) 37)
      have HVv := hid (hvv2.below (hw0.trans (hal.mono hw0.size)))
      have HA1 : Hid (ratL (topQ V (j + 1)) = a1) := ha1.symm
      have HS1 : Hid (ratL (adsQ V (j + 1)) = s1) := hs1.symm
      have Hqa := hid hqa
      have Hqs := hid hqs
      have Hvle := hid hvle
      have Hale := hid hale
      have Hsle := hid hsle
      have m0 : IntKind.i64.wrap ((k : Int) * (n : Int)) = (p : Int) := by rw [<- Int.natCast_mul, <- HPp.out]; exact IntWalk.i64_in _ (by omega)
      have hgl : wo.heap.size + 1 < wr.heap.size := HI1.sum.lt
      clear ht2 ht2l ht2v hXr hv1 hv2 ha ha1 hs hs1 hqa hqs r1 r2 r3 hmex hvle hale hsle b4' b5' hal HI1 HI hvv hvv2 hbo hw0
      go_upto_region 20 with fail
      generalize wr.alloc (ratO v vn vcn vd vcd 37) = wj at *
      obtain ⟨an, ad, acn, acd, hbxa, a2', a3', a4', a5'⟩ := HI2.out.top.ex
      obtain ⟨sn, sd, scn, scd, hbxs, s2', s3', s4', s5'⟩ := HI2.out.sum.ex
      have HMax : Hid (∀ W, Below wj.heap.size wj W -> Calls Tryz.prog 33 #[.agg #[.bool a.neg, .slice an a.num.length acn, .slice ad a.den.length acd], .agg #[.bool v.neg, .slice vn v.num.length vcn, .slice vd v.den.length vcd]] W (RetR W a1)) := fun W hb => by
       have h := r3Max (x := a) (y := v) ⟨an, ad, acn, acd, rfl, a2', a3', a4'.below hb, a5'.below hb⟩ (HVv.out.below hb) Hale.out Hvle.out
       rw [Hqa.out] at h
       exact h
      have HAdd : Hid (∀ W, Below wj.heap.size wj W -> Calls Tryz.prog 22 #[.agg #[.bool s.neg, .slice sn s.num.length scn, .slice sd s.den.length scd], .agg #[.bool v.neg, .slice vn v.num.length vcn, .slice vd v.den.length vcd]] W (RetR W s1)) := fun W hb => by
       have h := r3Add (x := s) (y := v) ⟨sn, sd, scn, scd, rfl, s2', s3', s4'.below hb, s5'.below hb⟩ (HVv.out.below hb) Hsle.out (Hvle.out.mono (by omega))
       rw [Hqs.out] at h
       exact h
      have HCe : Hid (∀ W, Below wj.heap.size wj W -> W.cell? ⟨wo.heap.size, 0, none⟩ = some (.bool a.neg) /\ W.cell? ⟨wo.heap.size, 1, none⟩ = some (.slice an a.num.length acn) /\ W.cell? ⟨wo.heap.size, 2, none⟩ = some (.slice ad a.den.length acd) /\
        W.cell? ⟨wo.heap.size + 1, 0, none⟩ = some (.bool s.neg) /\ W.cell? ⟨wo.heap.size + 1, 1, none⟩ = some (.slice sn s.num.length scn) /\ W.cell? ⟨wo.heap.size + 1, 2, none⟩ = some (.slice sd s.den.length scd) /\
        W.cell? ⟨wr.heap.size, 0, none⟩ = some (.bool v.neg) /\ W.cell? ⟨wr.heap.size, 1, none⟩ = some (.slice vn v.num.length vcn) /\ W.cell? ⟨wr.heap.size, 2, none⟩ = some (.slice vd v.den.length vcd)) := fun W hb =>
       ⟨(hb.cell hbxa.lt).trans hbxa.c0, (hb.cell hbxa.lt).trans hbxa.c1, (hb.cell hbxa.lt).trans hbxa.c2, (hb.cell hbxs.lt).trans hbxs.c0, (hb.cell hbxs.lt).trans hbxs.c1, (hb.cell hbxs.lt).trans hbxs.c2,
         (hb.cell HVb.out.lt).trans HVb.out.c0, (hb.cell HVb.out.lt).trans HVb.out.c1, (hb.cell HVb.out.lt).trans HVb.out.c2⟩
      clear vc0 vc1 vc2 gc m0 a4' a5' s4' s5' hbxa hbxs hbx hbx2 hbG hbG2
      refine wp_region_slots_tail 6 (by kernel_rfl) (by kernel_rfl) (by kernel_rfl) (by kernel_rfl) (by decide) (From wj.heap.size wj) (fun w w' => Below w.heap.size w w') (GR [.val (.agg #[.bool a.neg, .slice an a.num.length acn, .slice ad a.den.length acd]), .val (.agg #[.bool v.neg, .slice vn v.num.length vcn, .slice vd v.den.length vcd]), .rat a1, .val (.agg #[.bool s.neg, .slice sn s.num.length scn, .slice sd s.den.length scd]), .val (.agg #[.bool v.neg, .slice vn v.num.length vcn, .slice vd v.den.length vcd]), .rat s1]) (fun i v w w' h hb => GR_below h hb) (From.start (Nat.le_refl _)) ?_ ?_
      ·intro ops
       simp only [List.take_succ_cons, List.take_zero, Shows]
       refine ⟨?_, ?_, ?_, ?_, ?_, ?_, trivial⟩
       all_goals (intro g W hR hL; have hB := hR.base; obtain ⟨ca0, ca1, ca2, cs0, cs1, cs2, cv0, cv1, cv2⟩ := HCe.out W hR.be; simp only [Laid, Region.binds, forall_const, Bool.false_eq_true, false_implies, GR, List.getElem?_cons_zero, List.getElem?_cons_succ] at hL; simp [fillFrom, Act.put])
       ·clear hL
        have HR := hid hR
        clear hR
        go_wp2
        exact ⟨_, rfl, HR.out, Below.refl _ _, rfl⟩
       ·clear hL
        have HR := hid hR
        clear hR
        go_wp2
        exact ⟨_, rfl, HR.out, Below.refl _ _, rfl⟩
       ·generalize g 0 = y0 at hL ⊢
        generalize g 1 = y1 at hL ⊢
        obtain ⟨rfl, rfl, _⟩ := hL
        have HR := hid hR
        clear hR
        have HCt := hid (HMax.out W HR.out.be)
        go_wp2_with fail
        refine HCt.out.mono ?_
        rintro e w1 ⟨v1, rfl, kv, kb⟩
        have KV := hid kv
        have KB := hid kb
        clear kv kb HCt
        go_wp2
        exact ⟨_, rfl, ⟨Nat.le_trans HR.out.base KB.out.size, HR.out.be.trans (KB.out.mono HR.out.base)⟩, KB.out, KV.out⟩
       ·clear hL
        have HR := hid hR
        clear hR
        go_wp2
        exact ⟨_, rfl, HR.out, Below.refl _ _, rfl⟩
       ·clear hL
        have HR := hid hR
        clear hR
        go_wp2
        exact ⟨_, rfl, HR.out, Below.refl _ _, rfl⟩
       ·generalize g 3 = y3 at hL ⊢
        generalize g 4 = y4 at hL ⊢
        generalize g 2 = y2 at hL ⊢
        obtain ⟨rfl, rfl, H2, _⟩ := hL
        have K2 := hid H2
        have HR := hid hR
        clear hR H2
        have HCt := hid (HAdd.out W HR.out.be)
        go_wp2_with fail
        refine HCt.out.mono ?_
        rintro e w1 ⟨v1, rfl, kv, kb⟩
        have KV := hid kv
        have KB := hid kb
        clear kv kb HCt
        go_wp2
        exact ⟨_, rfl, ⟨Nat.le_trans HR.out.base KB.out.size, HR.out.be.trans (KB.out.mono HR.out.base)⟩, KB.out, KV.out⟩
      ·intro ops g W hR hL
       have hB := hR.base
       have J2 := hL.1.1.1.2
       have J5 := hL.2
       simp only [GR, List.getElem?_cons_zero, List.getElem?_cons_succ] at J2 J5
       obtain ⟨ca0, ca1, ca2, cs0, cs1, cs2, cv0, cv1, cv2⟩ := HCe.out W hR.be
       clear hL
       simp only [List.take_succ_cons, List.take_zero, List.drop_succ_cons, List.drop_zero]
       simp [fillFrom, Act.put]
       generalize g 2 = y2 at J2 ⊢
       generalize g 5 = y5 at J5 ⊢
       have HR := hid hR
       clear hR
       obtain ⟨bn', bd', dn', dd', rfl, g2, g3, g4, g5⟩ := J2.ex
       obtain ⟨en', ed', fn', fd', rfl, k2, k3, k4, k5⟩ := J5.ex
       have HBe := hid (show Below wj.heap.size wj W from HR.out.be)
       have HIe := hid (HI2.out.below HBe.out)
       obtain ⟨_, _, _, _, ⟨_, _, _, zf, zlt⟩, _⟩ := HIe.out.top.ex
       obtain ⟨_, _, _, _, ⟨_, _, _, yf, ylt⟩, _⟩ := HIe.out.sum.ex
       have HStep := hid (HI2.out.step HBe.out g2 g3 g4 g5 k2 k3 k4 k5)
       clear g4 g5 k4 k5 J2 J5
       go_wp2
       go_roundw
       case rel => exact ⟨j + 1, hlj, by go_num, by rw [HA1.out, HS1.out]; exact HStep.out⟩
       case measure => simp [intOf]; omega
     ·obtain rfl : j = n := by omega
      obtain ⟨a, ha⟩ : ∃ a, a = ratL (topQ V j) := ⟨_, rfl⟩
      obtain ⟨s, hs⟩ : ∃ s, s = ratL (adsQ V j) := ⟨_, rfl⟩
      obtain ⟨R, hR⟩ : ∃ R, R = ratL (avgL V) := ⟨_, rfl⟩
      obtain ⟨ten, hten⟩ : ∃ ten, ten = ratL (((j : Int) : Rat)) := ⟨_, rfl⟩
      have hgn := HGn.out k hlt
      rw [<- HV.out] at hgn
      obtain ⟨r1, r2, r3⟩ := HRoom.out (grpL q j k)
      rw [<- HV.out] at r2 r3
      have hsle : RatLe s 1048575 := by rw [hs]; exact (r3 j (by omega)).mono (by omega)
      have htle : RatLe ten 1048575 := by
       rw [hten, ratL_int]
       exact ⟨Nat.le_trans (limbs_len64 (by omega)) (by omega), by simp⟩
      have htne : ratOf ten ≠ 0 := by
       rw [hten, ratOf_ratL]
       intro h
       rw [<- Rat.intCast_zero, Rat.intCast_inj] at h
       have := Hn1.out
       omega
      have hdiv : ratL (ratOf s / ratOf ten) = R := by rw [hs, hten, hR, ratOf_ratL, ratOf_ratL, adsQ_avg hgn Hn1.out]
      have HI1 := HI.out
      rw [<- ha, <- hs] at HI1
      obtain ⟨sn, sd, scn, scd, hbxs, s2', s3', s4', s5'⟩ := HI1.sum.ex
      have HVs : Hid (RatV wr (.agg #[.bool s.neg, .slice sn s.num.length scn, .slice sd s.den.length scd]) s) := ⟨sn, sd, scn, scd, rfl, s2', s3', s4', s5'⟩
      have HOf1 : Hid (∀ W, Calls Tryz.prog 35 #[.int .i64 (j : Int)] W (RetR W ten)) := fun W => by rw [hten]; exact r3Of W (j : Int) (by omega) (by omega)
      have HDv : Hid (∀ W v u, RatV W v s -> RatV W u ten -> Calls Tryz.prog 34 #[v, u] W (RetRE W R 0)) := fun W v u hv hu => by
       have h := r3Div hv hu hsle htle htne
       rw [hdiv] at h
       exact h
      have HBW := hid (fun (wx : World) (hb : Below wr.heap.size wr wx) => hbxs.below hb)
      have HI2 := hid HI1
      have hend : a = ratL (maxL V) := by rw [ha, topQ_max hgn Hn1.out]
      have HEd := hid hend
      clear hend ha hs hR hten hgn r1 r2 r3 hsle htle htne hdiv HI1 HI hbxs s4' s5'
      go_upto_region 21 with fail
      go_cut [18] (fun s18 wx => ∃ b, s18 = .pointer (some ⟨b, 0, none⟩) /\ RBox wx b R /\ Below wr.heap.size wr wx)
      case first =>
       refine wp_region_slots_gen 9 (by kernel_rfl) (by kernel_rfl) (by kernel_rfl) (by kernel_rfl) (by decide) (MnJ wr (.agg #[.bool s.neg, .slice sn s.num.length scn, .slice sd s.den.length scd]) j ten R) (fun g => MnJ.start (Below.refl _ _).drew g) ?_ ?_
       ·intro ops
        simp only [List.take_succ_cons, List.take_zero, ShowsJ]
        refine ⟨?_, ?_, ?_, ?_, ?_, ?_, ?_, ?_, ?_, trivial⟩
        all_goals (intro d g wc hJ hd hW; simp only [Waits, Region.binds, forall_const, Bool.false_eq_true, false_implies, and_true, true_and] at hW; simp [fillFrom, Act.put]; have HJ := hid hJ)
        ·obtain ⟨x0, x1, x2, _, _⟩ := HBW.out wc hJ.bl
         clear hJ
         go_wp2
         exact ⟨_, rfl, HJ.out.s0⟩
        ·clear hJ
         go_wp2
         exact ⟨_, rfl, HJ.out.s1⟩
        ·generalize hg1 : g 1 = y1
         obtain rfl := hg1.symm.trans (hJ.v1 hW)
         clear hJ
         go_wp2_with fail
         refine (HOf1.out _).mono ?_
         rintro e w3 ⟨v3, rfl, k3, hb3⟩
         have HJ1 := hid ((HJ.out.grow hb3).s2 k3)
         clear k3 hb3 HJ
         go_wp2
         exact ⟨_, rfl, HJ1.out⟩
        ·have HT := hid (hJ.v2 hW.2.1 hd)
         have HD3 := hid hd
         generalize hg0 : g 0 = y0
         obtain rfl := hg0.symm.trans (hJ.v0 hW.1)
         have HC := hid (HDv.out wc _ _ (HVs.out.below hJ.bl) HT.out)
         clear hJ hd
         go_wp2_with fail
         refine HC.out.mono ?_
         rintro e w3 ⟨v3, rfl, k3, hb3⟩
         have HJ1 := hid ((HJ.out.grow hb3).s3 HD3.out k3)
         clear k3 hb3 HJ HC
         go_wp2
         exact ⟨_, rfl, HJ1.out⟩
        ·have HJ1 := hid (hJ.s4 hW)
         clear hJ
         go_wp2
         exact ⟨_, rfl, HJ1.out⟩
        ·obtain ⟨v, q1, _, q3, _⟩ := hJ.v3 (hJ.e4 hW)
         have HJ1 := hid (hJ.s5 hW q1)
         generalize hg4 : g 4 = y4
         obtain rfl := hg4.symm.trans (q3 hW)
         clear hJ q1 q3
         go_wp2
         exact ⟨_, rfl, HJ1.out⟩
        ·have hW := hW.1
         obtain ⟨v, q1, _, q3, _⟩ := hJ.v3 (hJ.e4 hW)
         have HJ1 := hid (hJ.s6 hW)
         generalize hg4 : g 4 = y4
         obtain rfl := hg4.symm.trans (q3 hW)
         clear hJ q1 q3
         go_wp2
         exact ⟨_, rfl, HJ1.out⟩
        ·have HJ1 := hid (hJ.s7 (T := 37) hd)
         clear hJ
         go_wp2
         exact ⟨_, rfl, HJ1.out⟩
        ·obtain ⟨b, p1, p2, p3, _⟩ := hJ.v7 hW.1
         obtain ⟨y, p4⟩ := p3 hd
         have h5 : d 5 = true := hW.2.1
         obtain ⟨v, q1, q2, _, q4⟩ := hJ.v3 (hJ.e4 (hJ.e5 h5))
         have q5 := q4 h5
         obtain ⟨an', ad', cn', cd', rfl, r2, r3, r4, r5⟩ := (q2 hd).ex
         have HJ1 := hid (fun V => hJ.s8 (V := V) h5 hW.1 p1 p2 p4 r2 r3 r4 r5)
         obtain ⟨_, _, _, _, ⟨z0, z1, z2, zf, zlt⟩, _⟩ := p4.ex
         generalize hg7 : g 7 = y7
         obtain rfl := hg7.symm.trans p1
         generalize hg5 : g 5 = y5
         obtain rfl := hg5.symm.trans q5
         clear hJ q1 q2 q4 q5 r4 r5 p1 p3 p4
         go_wp2
         exact ⟨trivial, _, HJ1.out (.bool false)⟩
       ·intro ops d g wc hA hJ
        obtain ⟨b, p1, p2, _, p4⟩ := hJ.v7 (hA 7 (by decide))
        have p5 := hid (p4 (hA 8 (by decide)))
        have h6 := hJ.v6 (hA 6 (by decide))
        have HBl := hid hJ.bl
        simp only [List.drop_succ_cons, List.drop_zero, List.take_succ_cons, List.take_zero]
        simp [fillFrom, Act.put]
        generalize hg7 : g 7 = y7
        obtain rfl := hg7.symm.trans p1
        generalize hg6 : g 6 = y6
        obtain rfl := hg6.symm.trans h6
        clear hJ hA p1 h6 p4
        go_wp2
        go_meet
        exact ⟨b, rfl, p5.out, HBl.out⟩
      case rest =>
       obtain ⟨b, rfl, hRb, hb7⟩ := hcut
       have HI3 := hid (HI2.out.below hb7)
       have HRb := hid hRb
       have hw7 : Below w.heap.size w wc := HBo.out.trans ((HI2.out.bl.trans (hb7.mono HI2.out.bl.size)).mono HBo.out.size)
       have h67 : Below w6.heap.size w6 wc := HBr.out.trans ((HI2.out.bl.trans (hb7.mono HI2.out.bl.size)).mono HBr.out.size)
       have h17 : Below w1.heap.size w1 wc := HB16.out.trans (h67.mono HB16.out.size)
       obtain ⟨x0, x1, xf, xlt⟩ := HX6.out.below h67
       rw [HLen.out] at x1
       obtain ⟨lb, l0, l1, l2, l3, l4, l5, l6, l7, l8⟩ := HLa.out wc h17
       have HW7 := hid hw7
       have H67 := hid h67
       clear hRb hb7 hw7 h67 h17 l1 l2 l3 l4 l5 l6 l7 l8 HDv HOf1 HBW
       obtain ⟨an, ad, acn, acd, hbxa, a2', a3', a4', a5'⟩ := HI3.out.top.ex
       go_upto_region 24 with fail
       clear x0 x1 xf xlt lb l0
       have HVt : Hid (RatV wc (.agg #[.bool a.neg, .slice an a.num.length acn, .slice ad a.den.length acd]) a) := ⟨an, ad, acn, acd, rfl, a2', a3', a4', a5'⟩
       have H68 := hid H67.out
       generalize wc = wz at *
       obtain ⟨bY, oY, z, zn, zd, zcn, zcd, haY, hbY, hzz, zc0, zc1, zc2, hzv⟩ := HY6.out.pick (k := k) (by rw [List.length_map, HCl.out]; exact hlt)
       obtain ⟨hz1, hz2⟩ := map_get hzz
       have hzs : a = z := by rw [hz2, HOt.out k hlt, <- HV.out]; exact HEd.out
       have zc0 := (H68.out.cell (p := ⟨bY, oY + k * 3, none⟩) hbY).trans zc0
       have zc1 := (H68.out.cell (p := ⟨bY, oY + k * 3 + 1, none⟩) hbY).trans zc1
       have zc2 := (H68.out.cell (p := ⟨bY, oY + k * 3 + 2, none⟩) hbY).trans zc2
       have hbY2 := Nat.lt_of_lt_of_le hbY H68.out.size
       have f0 := ext_cell hbxa.c0 hbxa.lt
       have f1 := ext_cell hbxa.c1 hbxa.lt
       have f2 := ext_cell hbxa.c2 hbxa.lt
       have g0 := ext_cell zc0 hbY2
       have g1 := ext_cell zc1 hbY2
       have g2 := ext_cell zc2 hbY2
       have HSame : Hid (∀ e, Calls Tryz.prog 24 #[.agg #[.bool a.neg, .slice an a.num.length acn, .slice ad a.den.length acd], .agg #[.bool z.neg, .slice zn z.num.length zcn, .slice zd z.den.length zcd]] (ext wz e) fun x w' => x = .returned (.bool true) /\ Below (ext wz e).heap.size (ext wz e) w') := fun e => by
        have h := r3Same (HVt.out.below (ext_below wz e)) (hzv.below (H68.out.trans ((ext_below wz e).mono H68.out.size)))
        rw [decide_eq_true hzs] at h
        exact h
       have haY2 := hid haY
       rw [haY]
       clear hz1 hz2 hzz hzs zc0 zc1 zc2 hzv hbxa hbY hbY2 haY
       refine wp_region_quiet_ext (by kernel_rfl) (by kernel_rfl) ?_
       repeat (go_big_quiet_step (first | (go_at_call 24; exact Calls.ext_of (HSame.out _))))
       refine wpQuiet_nil ?_
       intro _ hw'
       obtain ⟨nq, hw''⟩ := hw'
       subst hw''
       have HBn := hid (H68.out.trans ((ext_below wz nq).mono H68.out.size))
       generalize ext wz nq = we at *
       clear f0 f1 f2 g0 g1 g2
       rw [<- haY2.out]
       go_wp2
       go_roundw
       case rel => exact ⟨k + 1, hlt, by go_num, HBn.out⟩
       case measure => simp [intOf]; omega
   ·obtain rfl : k = P2 := by omega
    go_wp2
    go_ret
    exact ⟨rfl, HBo.out⟩
end Go.Proofs.YtoppijdedkdjeaaGreat
