/-
  Contracts of the functions that the statement reaches: LwS.
-/
import Derived.Test.YtoppijdedkdjeaaGreatG46
set_option linter.unusedVariables false
set_option linter.unusedSimpArgs false
set_option linter.constructorNameAsVariable false
set_option linter.deprecated false
set_option maxRecDepth 100000
set_option maxHeartbeats 3200000
namespace Go.Proofs.YtoppijdedkdjeaaGreat
open Go.RowKit
open Go.Lib (hid)
theorem lawConvolves {w : World} {m : ModL} {L : List RatL} {a1 a2 ax : Option Addr} (c1 c2 cx : Nat) (h1 : Ints w Any a1 m.input) (h2 : LaysAt w a2 m.layers) (hr : ∀ l ∈ m.layers, LayRange l) (hs : ∀ l ∈ m.layers, LayLe l)
  (hX : RatsAt w ax L) (hL : ∀ x ∈ L, RatLe x 1048576) :
  Calls Tryz.prog 9 #[.agg #[.slice a1 m.input.length c1, .slice a2 m.layers.length c2], .slice ax L.length cx] w fun e w' => e = .returned (.bool true) /\ Below w.heap.size w w' := by
 have q1 := h1.len
 have q2 := h2.len
 have q3 := hX.len
 have H1 := hid h1
 have H2 := hid h2
 have HX0 := hid hX
 have HRg := hid hr
 have HSh := hid hs
 have HL := hid hL
 have hb0 : Below w.heap.size w (w.alloc (.cells #[.slice a1 m.input.length c1, .slice a2 m.layers.length c2] 25)) := (Below.refl _ _).alloc (Nat.le_refl _) _
 have hx0 := Box2.alloc w (.slice a1 m.input.length c1) (.slice a2 m.layers.length c2) 25
 clear h1 h2 hr hs hX hL
 go_enter Tryz.func9, Tryz.ntmps9
 go_upto_region 1 with fail
 generalize w.alloc (.cells #[.slice a1 m.input.length c1, .slice a2 m.layers.length c2] 25) = W at *
 have HB0 := hid hb0
 have HX00 := hid hx0
 clear hb0 hx0
 go_wp2_with fail
 refine (awake53 W).mono ?_
 rintro e w1 ⟨rfl, hb1⟩
 have HB1 := hid (HB0.out.trans (hb1.mono HB0.out.size))
 have HX1 := hid (HX00.out.below hb1)
 clear hb1
 obtain ⟨x0, x1, xf, xlt⟩ := HX1.out
 go_upto_region 3 with fail
 by_cases hlen : m.layers.length = 1
 case neg =>
  have t1 : ((m.layers.length : Int) != 1) = true := by rw [bne_iff_ne]; omega
  have e1 := ext_cell x1 xlt
  have e0 := ext_cell x0 xlt
  clear x0 x1
  refine wp_region_quiet_ext (by kernel_rfl) (by kernel_rfl) ?_
  repeat (go_big_quiet_step (fail))
  refine wpQuiet_nil ?_
  intro _ hw'
  obtain ⟨nq, hw''⟩ := hw'
  subst hw''
  have HB2 := hid (HB1.out.trans ((ext_below w1 nq).mono HB1.out.size))
  have HX2 := hid (HX1.out.below (ext_below w1 nq))
  have HB12 := hid (ext_below w1 nq)
  generalize ext w1 nq = w2 at *
  go_wp2
  go_ret
  exact ⟨rfl, HB2.out⟩
 obtain ⟨bl, ol, l, ha2, hbl, hl, b1, b2, d1, d2, ⟨l0, l1, l2, l3, l4, l5, l6, l7, l8⟩, r1, r2⟩ := (H2.out.below HB1.out).pick (k := 0) (by omega)
 have hm : m.layers = [l] := by
  match m.layers, hlen, hl with
  | [a], _, hl => simp at hl; rw [hl]
 have hml : l ∈ m.layers := by rw [hm]; simp
 have hle := HSh.out l hml
 subst ha2
 rw [hlen] at x1
 have e0 := ext_cell x0 xlt
 have e1 := ext_cell x1 xlt
 simp only [Nat.zero_mul, Nat.add_zero] at l0 l1 l2 l3 l4 l5 l6 l7 l8
 have f0 := ext_cell l0 hbl
 have f1 := ext_cell l1 hbl
 have f2 := ext_cell l2 hbl
 have f3 := ext_cell l3 hbl
 have f4 := ext_cell l4 hbl
 have f5 := ext_cell l5 hbl
 have f6 := ext_cell l6 hbl
 have f7 := ext_cell l7 hbl
 have f8 := ext_cell l8 hbl
 have HSm : Hid (∀ e, Calls Tryz.prog 27 #[.slice a1 m.input.length c1, .agg #[.int .i64 l.kind, .int .i64 l.frm, .int .i64 l.out, .int .i64 l.kh, .int .i64 l.kw, .int .i64 l.stride, .int .i64 l.pad, .slice b1 l.weights.length d1, .slice b2 l.bias.length d2]] (ext w1 e) fun x w' => x = .returned (.bool (small5B m.input l.kh l.kw l.pad)) /\ Below (ext w1 e).heap.size (ext w1 e) w') := fun e =>
  small53v c1 l.kind l.frm l.out l.kh l.kw l.stride l.pad b1 l.weights.length d1 b2 l.bias.length d2 (H1.out.below (HB1.out.trans ((ext_below w1 e).mono HB1.out.size)))
 have HNx : Hid (∀ e, Calls Tryz.prog 28 #[.slice ax L.length cx] (ext w1 e) fun x w' => x = .returned (.bool (numB L)) /\ Below (ext w1 e).heap.size (ext w1 e) w') := fun e =>
  kNumbers cx (HX0.out.below (HB1.out.trans ((ext_below w1 e).mono HB1.out.size))) HL.out
 have HNw : Hid (∀ e, Calls Tryz.prog 28 #[.slice b1 l.weights.length d1] (ext w1 e) fun x w' => x = .returned (.bool (numB l.weights)) /\ Below (ext w1 e).heap.size (ext w1 e) w') := fun e =>
  kNumbers d1 (r1.below (ext_below w1 e)) hle.wts
 have HNb : Hid (∀ e, Calls Tryz.prog 28 #[.slice b2 l.bias.length d2] (ext w1 e) fun x w' => x = .returned (.bool (numB l.bias)) /\ Below (ext w1 e).heap.size (ext w1 e) w') := fun e =>
  kNumbers d2 (r2.below (ext_below w1 e)) hle.bias
 have HLa : Hid (∀ W', Below w1.heap.size w1 W' -> bl < W'.heap.size /\ W'.cell? ⟨bl, ol, none⟩ = some (.int .i64 l.kind) /\ W'.cell? ⟨bl, ol + 1, none⟩ = some (.int .i64 l.frm) /\ W'.cell? ⟨bl, ol + 2, none⟩ = some (.int .i64 l.out) /\ W'.cell? ⟨bl, ol + 3, none⟩ = some (.int .i64 l.kh) /\ W'.cell? ⟨bl, ol + 4, none⟩ = some (.int .i64 l.kw) /\
   W'.cell? ⟨bl, ol + 5, none⟩ = some (.int .i64 l.stride) /\ W'.cell? ⟨bl, ol + 6, none⟩ = some (.int .i64 l.pad) /\ W'.cell? ⟨bl, ol + 7, none⟩ = some (.slice b1 l.weights.length d1) /\ W'.cell? ⟨bl, ol + 8, none⟩ = some (.slice b2 l.bias.length d2)) := fun W' hb =>
  ⟨Nat.lt_of_lt_of_le hbl hb.size, (hb.cell (p := ⟨bl, ol, none⟩) hbl).trans l0, (hb.cell (p := ⟨bl, ol + 1, none⟩) hbl).trans l1, (hb.cell (p := ⟨bl, ol + 2, none⟩) hbl).trans l2, (hb.cell (p := ⟨bl, ol + 3, none⟩) hbl).trans l3, (hb.cell (p := ⟨bl, ol + 4, none⟩) hbl).trans l4,
   (hb.cell (p := ⟨bl, ol + 5, none⟩) hbl).trans l5, (hb.cell (p := ⟨bl, ol + 6, none⟩) hbl).trans l6, (hb.cell (p := ⟨bl, ol + 7, none⟩) hbl).trans l7, (hb.cell (p := ⟨bl, ol + 8, none⟩) hbl).trans l8⟩
 have HR1 := hid r1
 have HR2 := hid r2
 have HM := hid hm
 have HLen := hid hlen
 have HLe := hid hle
 have HMl := hid hml
 clear l0 l1 l2 l3 l4 l5 l6 l7 l8 x0 x1 r1 r2 hl hm hle hml hlen
 by_cases hv0 : small5B m.input l.kh l.kw l.pad = true
 case neg =>
  rw [Bool.not_eq_true] at hv0
  rw [hv0] at HSm
  clear hv0
  refine wp_region_quiet_ext (by kernel_rfl) (by kernel_rfl) ?_
  repeat (go_big_quiet_step (first | (go_at_call 27; with_reducible exact Calls.ext_of (HSm.out _)) | (go_at_call 28; with_reducible exact Calls.ext_of (HNx.out _)) | (go_at_call 28; with_reducible exact Calls.ext_of (HNw.out _)) | (go_at_call 28; with_reducible exact Calls.ext_of (HNb.out _))))
  refine wpQuiet_nil ?_
  intro _ hw'
  obtain ⟨nq, hw''⟩ := hw'
  subst hw''
  have HB2 := hid (HB1.out.trans ((ext_below w1 nq).mono HB1.out.size))
  have HX2 := hid (HX1.out.below (ext_below w1 nq))
  have HB12 := hid (ext_below w1 nq)
  generalize ext w1 nq = w2 at *
  go_wp2
  go_ret
  exact ⟨rfl, HB2.out⟩
 rw [hv0] at HSm
 have Vhv0 := hid hv0
 clear hv0
 by_cases hv1 : numB L = true
 case neg =>
  rw [Bool.not_eq_true] at hv1
  rw [hv1] at HNx
  clear hv1
  refine wp_region_quiet_ext (by kernel_rfl) (by kernel_rfl) ?_
  repeat (go_big_quiet_step (first | (go_at_call 27; with_reducible exact Calls.ext_of (HSm.out _)) | (go_at_call 28; with_reducible exact Calls.ext_of (HNx.out _)) | (go_at_call 28; with_reducible exact Calls.ext_of (HNw.out _)) | (go_at_call 28; with_reducible exact Calls.ext_of (HNb.out _))))
  refine wpQuiet_nil ?_
  intro _ hw'
  obtain ⟨nq, hw''⟩ := hw'
  subst hw''
  have HB2 := hid (HB1.out.trans ((ext_below w1 nq).mono HB1.out.size))
  have HX2 := hid (HX1.out.below (ext_below w1 nq))
  have HB12 := hid (ext_below w1 nq)
  generalize ext w1 nq = w2 at *
  go_wp2
  go_ret
  exact ⟨rfl, HB2.out⟩
 rw [hv1] at HNx
 have Vhv1 := hid hv1
 clear hv1
 by_cases hv2 : numB l.weights = true
 case neg =>
  rw [Bool.not_eq_true] at hv2
  rw [hv2] at HNw
  clear hv2
  refine wp_region_quiet_ext (by kernel_rfl) (by kernel_rfl) ?_
  repeat (go_big_quiet_step (first | (go_at_call 27; with_reducible exact Calls.ext_of (HSm.out _)) | (go_at_call 28; with_reducible exact Calls.ext_of (HNx.out _)) | (go_at_call 28; with_reducible exact Calls.ext_of (HNw.out _)) | (go_at_call 28; with_reducible exact Calls.ext_of (HNb.out _))))
  refine wpQuiet_nil ?_
  intro _ hw'
  obtain ⟨nq, hw''⟩ := hw'
  subst hw''
  have HB2 := hid (HB1.out.trans ((ext_below w1 nq).mono HB1.out.size))
  have HX2 := hid (HX1.out.below (ext_below w1 nq))
  have HB12 := hid (ext_below w1 nq)
  generalize ext w1 nq = w2 at *
  go_wp2
  go_ret
  exact ⟨rfl, HB2.out⟩
 rw [hv2] at HNw
 have Vhv2 := hid hv2
 clear hv2
 by_cases hv3 : numB l.bias = true
 case neg =>
  rw [Bool.not_eq_true] at hv3
  rw [hv3] at HNb
  clear hv3
  refine wp_region_quiet_ext (by kernel_rfl) (by kernel_rfl) ?_
  repeat (go_big_quiet_step (first | (go_at_call 27; with_reducible exact Calls.ext_of (HSm.out _)) | (go_at_call 28; with_reducible exact Calls.ext_of (HNx.out _)) | (go_at_call 28; with_reducible exact Calls.ext_of (HNw.out _)) | (go_at_call 28; with_reducible exact Calls.ext_of (HNb.out _))))
  refine wpQuiet_nil ?_
  intro _ hw'
  obtain ⟨nq, hw''⟩ := hw'
  subst hw''
  have HB2 := hid (HB1.out.trans ((ext_below w1 nq).mono HB1.out.size))
  have HX2 := hid (HX1.out.below (ext_below w1 nq))
  have HB12 := hid (ext_below w1 nq)
  generalize ext w1 nq = w2 at *
  go_wp2
  go_ret
  exact ⟨rfl, HB2.out⟩
 rw [hv3] at HNb
 have Vhv3 := hid hv3
 clear hv3
 by_cases hk : l.kind = 2
 case neg =>
  have t5 : (l.kind != 2) = true := by rw [bne_iff_ne]; exact hk
  refine wp_region_quiet_ext (by kernel_rfl) (by kernel_rfl) ?_
  repeat (go_big_quiet_step (first | (go_at_call 27; with_reducible exact Calls.ext_of (HSm.out _)) | (go_at_call 28; with_reducible exact Calls.ext_of (HNx.out _)) | (go_at_call 28; with_reducible exact Calls.ext_of (HNw.out _)) | (go_at_call 28; with_reducible exact Calls.ext_of (HNb.out _))))
  refine wpQuiet_nil ?_
  intro _ hw'
  obtain ⟨nq, hw''⟩ := hw'
  subst hw''
  have HB2 := hid (HB1.out.trans ((ext_below w1 nq).mono HB1.out.size))
  have HX2 := hid (HX1.out.below (ext_below w1 nq))
  have HB12 := hid (ext_below w1 nq)
  generalize ext w1 nq = w2 at *
  go_wp2
  go_ret
  exact ⟨rfl, HB2.out⟩
 rw [hk] at f0 HSm HLa
 have HK := hid hk
 clear hk
 refine wp_region_quiet_ext (by kernel_rfl) (by kernel_rfl) ?_
 repeat (go_big_quiet_step (first | (go_at_call 27; with_reducible exact Calls.ext_of (HSm.out _)) | (go_at_call 28; with_reducible exact Calls.ext_of (HNx.out _)) | (go_at_call 28; with_reducible exact Calls.ext_of (HNw.out _)) | (go_at_call 28; with_reducible exact Calls.ext_of (HNb.out _))))
 refine wpQuiet_nil ?_
 intro _ hw'
 obtain ⟨nq, hw''⟩ := hw'
 subst hw''
 have HB2 := hid (HB1.out.trans ((ext_below w1 nq).mono HB1.out.size))
 have HX2 := hid (HX1.out.below (ext_below w1 nq))
 have HB12 := hid (ext_below w1 nq)
 generalize ext w1 nq = w2 at *
 clear e0 e1 f0 f1 f2 f3 f4 f5 f6 f7 f8 HSm HNx HNw HNb xf xlt
 obtain ⟨x0, x1, xf, xlt⟩ := HX2.out
 rw [HLen.out] at x1
 have HOf := r13Of c1 c2 (H1.out.below HB2.out) (H2.out.below HB2.out) HRg.out HSh.out
 rw [HLen.out] at HOf
 have HOf := hid HOf
 obtain ⟨P, hP⟩ : ∃ P, P = shapesL m := ⟨_, rfl⟩
 rw [<- hP] at HOf
 obtain ⟨T0, i0, er⟩ := P
 have HP := hid hP
 clear hP
 go_wp2_with fail
 refine HOf.out.mono ?_
 rintro e w3 ⟨⟨aT, cT, rfl, _⟩, hb3⟩
 simp only
 have HB3 := hid (HB2.out.trans (hb3.mono HB2.out.size))
 have HX3 := hid (HX2.out.below hb3)
 have HB13 := hid (HB12.out.trans (hb3.mono HB12.out.size))
 clear hb3 HOf x0 x1 xf xlt
 obtain ⟨x0, x1, xf, xlt⟩ := HX3.out
 rw [HLen.out] at x1
 by_cases her : er = 0
 case neg =>
  have t1 : (er != 0) = true := by rw [bne_iff_ne]; exact her
  go_wp2
  go_ret
  exact ⟨rfl, HB3.out⟩
 subst her
 have HSz := hid (rSize c1 (H1.out.below HB3.out))
 by_cases hx : (L.length : Int) = sizeL m.input
 case neg =>
  generalize sizeL m.input = sz at *
  have t2 : ((L.length : Int) != sz) = true := by rw [bne_iff_ne]; exact hx
  go_wp2_with fail
  refine HSz.out.mono ?_
  rintro e w' ⟨rfl, rfl⟩
  go_wp2
  go_ret
  exact ⟨rfl, HB3.out⟩
 rw [<- hx] at HSz
 have t2 : ((L.length : Int) != (L.length : Int)) = false := by simp
 have h0 : (shapesL m).2.2 = 0 := by rw [<- HP.out]
 have hx' : ((L.map ratOf).length : Int) = sizeL m.input := by rw [List.length_map]; exact hx
 obtain ⟨q, O, n, T, hM⟩ := conv_one (x := L.map ratOf) HM.out h0 hx' HK.out
 have hsm := small_one Vhv2.out Vhv3.out
 obtain ⟨hLb, D, hD, hBd, hRo⟩ := one_room Vhv1.out
 obtain ⟨rm1, rm2, rm3, rm4⟩ := conv_room hsm hD hBd hRo
 have hn := (one_run HM.out h0 hx').2.1
 unfold numsB at hn
 rw [Bool.and_eq_true] at hn
 have hwb : l.weights = (wq l).map ratL := validR_back hn.1
 have hbb : l.bias = (bq l).map ratL := validR_back hn.2
 have hwl : (wq l).length = O * n := by rw [<- hM.wl]; simp [wq]
 have hbl' : (bq l).length = O := by rw [<- hM.bl]; simp [bq]
 have hxl : (L.map ratOf).length = L.length := List.length_map ..
 have hgl := hM.glen
 have hcl := hM.len
 have hNx : L.length <= 200 := (numB_little Vhv1.out).2
 obtain ⟨P1, hP1⟩ : ∃ P1, P1 = n * T := ⟨_, rfl⟩
 obtain ⟨P2, hP2⟩ : ∃ P2, P2 = O * T := ⟨_, rfl⟩
 rw [<- hP1] at hgl
 rw [<- hP2] at hcl
 have hP1b : P1 <= 262144 := by rw [hP1]; exact hM.nt
 have hP2b : P2 <= 16384 := by rw [hP2]; exact hM.ot
 have hO : O <= 16384 := Nat.le_trans (Nat.le_mul_of_pos_right _ (by rw [hM.hT]; have := hM.ok; rw [q.all_len]; exact Nat.mul_pos (Nat.succ_pos _) (Nat.succ_pos _))) hM.ot
 have hT : T <= 16384 := Nat.le_trans (Nat.le_mul_of_pos_left _ hM.o1) hM.ot
 have hnb := hM.nb
 have HMc := hid hM
 have HRm1 := hid rm1
 have HRm2 := hid rm2
 have HRm3 := hid rm3
 have HRm4 := hid rm4
 have HWq := hid hwb
 have HBq := hid hbb
 have HLb := hid hLb
 have HWl := hid hwl
 have HBl := hid hbl'
 have HXl := hid hxl
 have HGl := hid hgl
 have HCl := hid hcl
 have HP1 := hid hP1
 have HP2 := hid hP2
 have HSs := hid hsm
 have HHx := hid hx
 have HP1b := hid hP1b
 have HP2b := hid hP2b
 have HOb := hid hO
 have HTb := hid hT
 have Hnb := hid hnb
 have HNx' := hid hNx
 clear hP1b hP2b hO hT hnb hNx
 clear hM rm1 rm2 rm3 rm4 hwb hbb hLb hwl hbl' hxl hgl hcl hP1 hP2 hsm hBd hRo hD hn h0 hx' hx
 obtain ⟨lb, l0, l1, l2, l3, l4, l5, l6, l7, l8⟩ := HLa.out w3 HB13.out
 rw [HMc.out.out] at l2
 have hal : Below w3.heap.size w3 (w3.alloc (.cells #[.int .i64 2, .int .i64 l.frm, .int .i64 (O : Int), .int .i64 l.kh, .int .i64 l.kw, .int .i64 l.stride, .int .i64 l.pad, .slice b1 l.weights.length d1, .slice b2 l.bias.length d2] 42)) := (Below.refl _ _).alloc (Nat.le_refl _) _
 have HBx4 := hid (Box9.alloc w3 (.int .i64 2) (.int .i64 l.frm) (.int .i64 (O : Int)) (.int .i64 l.kh) (.int .i64 l.kw) (.int .i64 l.stride) (.int .i64 l.pad) (.slice b1 l.weights.length d1) (.slice b2 l.bias.length d2) 42)
 have HB4 := hid (HB3.out.trans (hal.mono HB3.out.size))
 have HB14 := hid (HB13.out.trans (hal.mono HB13.out.size))
 have HX4 := hid (HX3.out.below hal)
 clear hal
 go_wp2_with fail
 refine HSz.out.mono ?_
 rintro e w' ⟨rfl, rfl⟩
 go_upto_region 9 with fail
 generalize hw4 : (w3.alloc (.cells #[.int .i64 2, .int .i64 l.frm, .int .i64 (O : Int), .int .i64 l.kh, .int .i64 l.kw, .int .i64 l.stride, .int .i64 l.pad, .slice b1 l.weights.length d1, .slice b2 l.bias.length d2] 42)) = w4 at *
 clear hw4 HSz x0 x1 xf xlt l0 l1 l2 l3 l4 l5 l6 l7 l8 lb t2
 obtain ⟨x0, x1, xf, xlt⟩ := HX4.out
 rw [HLen.out] at x1
 obtain ⟨l0, l1, l2, l3, l4, l5, l6, l7, l8, l9⟩ := HBx4.out
 have HG := tGather (F := Any) c1 2 l.frm (O : Int) l.kh l.kw l.stride l.pad b1 l.weights.length d1 b2 l.bias.length d2 (H1.out.below HB4.out)
 rw [HMc.out.gat] at HG
 have HG := hid HG
 go_wp2_with fail
 refine HG.out.mono ?_
 rintro e w5 ⟨aG, cG, rfl, hG, hb5⟩
 simp only at hG ⊢
 rw [HGl.out]
 have HB5 := hid (HB4.out.trans (hb5.mono HB4.out.size))
 have HB15 := hid (HB14.out.trans (hb5.mono HB14.out.size))
 have HX5 := hid (HX4.out.below hb5)
 have HBx5 := hid (HBx4.out.below hb5)
 have HG5 := hid hG
 have HRu := evRun1 c1 c2 cx HM.out (H1.out.below HB5.out) (H2.out.below HB5.out) HRg.out HSh.out (HX0.out.below HB5.out) HSs.out Vhv1.out
 rw [HLen.out, HMc.out.run] at HRu
 have HRu := hid (HRu.mono (fun e w' h => run_n h (N := P2) (by rw [List.length_map]; exact HCl.out)))
 clear hb5 hG HG x0 x1 xf xlt l0 l1 l2 l3 l4 l5 l6 l7 l8 l9
 obtain ⟨x0, x1, xf, xlt⟩ := HX5.out
 rw [HLen.out] at x1
 go_wp2_with fail
 refine HRu.out.mono ?_
 rintro e w6 ⟨aY, cY, rfl, hY, hb6⟩
 have HB6 := hid (HB5.out.trans (hb6.mono HB5.out.size))
 have HB16 := hid (HB15.out.trans (hb6.mono HB15.out.size))
 have HBx6 := hid (HBx5.out.below hb6)
 have HG6 := hid (HG5.out.below hb6)
 have HY6 := hid hY
 clear hb6 hY HRu x0 x1 xf xlt
 obtain ⟨l0, l1, l2, l3, l4, l5, l6, l7, l8, l9⟩ := HBx6.out
 have hP1b := HP1b.out
 have hP2b := HP2b.out
 have hO := HOb.out
 have hT := HTb.out
 have hnb := Hnb.out
 have m1 : IntKind.i64.wrap ((n : Int) * (T : Int)) = (P1 : Int) := by rw [<- Int.natCast_mul, <- HP1.out]; exact IntWalk.i64_in _ (by omega)
 have m2 : IntKind.i64.wrap ((O : Int) * (T : Int)) = (P2 : Int) := by rw [<- Int.natCast_mul, <- HP2.out]; exact IntWalk.i64_in _ (by omega)
 go_wp2
 clear l0 l1 l2 l3 l4 l5 l6 l7 l8 m1 m2
 have HEnd : Hid ((convQ O (bq l) (wq l) n q.all (L.map ratOf)).map ratL = (flatQ (convAt (bq l) (wq l) n q.all (L.map ratOf)) T O 0).map ratL) := by unfold Hid; rw [convQ_flat, <- HMc.out.hT]
 go_loopw [15, 16] (fun v i wr => ∃ (k mm : Nat) (a : Option Addr) (c : Nat), k <= O /\ Hid (mm = k * T) /\ v = .slice a mm c /\ i = .int .i64 (k : Int) /\ Hid (OutI w6 wr (.slice a mm c) ((flatQ (convAt (bq l) (wq l) n q.all (L.map ratOf)) T k 0).map ratL))) (fun _ i _ => O - (intOf i).toNat)
 case atStart => exact ⟨0, 0, none, 0, Nat.zero_le _, by unfold Hid; omega, rfl, rfl, OutI.start w6⟩
 case round =>
  obtain ⟨k, mm, b0, k0, hk, HM1, rfl, rfl, HOut⟩ := hrel
  obtain ⟨l0, l1, l2, l3, l4, l5, l6, l7, l8, lt⟩ := HBx6.out.below HOut.out.bl
  by_cases hlt : k < O
  ·go_wp2
   clear l0 l1 l2 l3 l4 l5 l6 l7 l8 lt
   go_loopw [15, 17] (fun v jj wr => ∃ (i mm : Nat) (a : Option Addr) (c : Nat), i <= T /\ Hid (mm = k * T + i) /\ v = .slice a mm c /\ jj = .int .i64 (i : Int) /\ Hid (OutI w6 wr (.slice a mm c) ((flatQ (convAt (bq l) (wq l) n q.all (L.map ratOf)) T k i).map ratL))) (fun _ jj _ => T - (intOf jj).toNat)
   case atStart => exact ⟨0, mm, b0, k0, Nat.zero_le _, HM1.out, rfl, rfl, HOut.out⟩
   case round =>
    clear HM1 HOut
    obtain ⟨i, mm, b0, k0, hi0, HM1, rfl, rfl, HOut⟩ := hrel
    obtain ⟨wo, hwo⟩ : ∃ wo : World, wo = wr := ⟨_, rfl⟩
    subst hwo
    by_cases hi : i < T
    ·have HBxo := hid (HBx6.out.below HOut.out.bl)
     have hb1o : Below w1.heap.size w1 wo := HB16.out.trans (HOut.out.bl.mono HB16.out.size)
     have hwo : Below w.heap.size w wo := HB6.out.trans (HOut.out.bl.mono HB6.out.size)
     have hR2 := HR2.out
     rw [HBq.out] at hR2
     obtain ⟨bb, ob, u, un, ud, ucn, ucd, hab, hbb, hu, uc0, uc1, uc2, huv⟩ := hR2.pick (k := k) (by rw [List.length_map, HBl.out]; exact hlt)
     obtain ⟨hu1, hu2⟩ := map_get hu
     have uc0 := (hb1o.cell (p := ⟨bb, ob + k * 3, none⟩) hbb).trans uc0
     have uc1 := (hb1o.cell (p := ⟨bb, ob + k * 3 + 1, none⟩) hbb).trans uc1
     have uc2 := (hb1o.cell (p := ⟨bb, ob + k * 3 + 2, none⟩) hbb).trans uc2
     obtain ⟨y2, y3, y4, y5⟩ := huv.parts
     have HAc : Hid (AcI wo (wo.alloc (ratO u un ucn ud ucd 37)) wo.heap.size u) := ⟨RBox.alloc y2 y3 (y4.below hb1o) (y5.below hb1o) _, (Below.refl _ _).alloc (Nat.le_refl _) _, Nat.le_refl _⟩
     have Hu2 := hid hu2
     have HB1o := hid hb1o
     have HBo := hid hwo
     have hkb : k < l.bias.length := by rw [HMc.out.bl]; exact hlt
     have hbb2 := Nat.lt_of_lt_of_le hbb hb1o.size
     obtain ⟨l0, l1, l2, l3, l4, l5, l6, l7, l8, lt⟩ := HBxo.out
     rw [hab] at l8
     clear hu hu1 hu2 huv y4 y5 hb1o hwo hR2 hab
     go_upto_region 21 with fail
     generalize wo.alloc (ratO u un ucn ud ucd 37) = Wg at *
     clear uc0 uc1 uc2 l0 l1 l2 l3 l4 l5 l6 l7 l8 lt hkb hbb hbb2
     go_wp2
     go_loopw [19] (fun jj wi => ∃ j : Nat, j <= n /\ jj = .int .i64 (j : Int) /\ Hid (AcI wo wi wo.heap.size (ratL (psum ((bq l).getD k 0) (partL (wq l) (k * n) n) 0 (q.all.getD i []) (L.map ratOf) j)))) (fun jj _ => n - (intOf jj).toNat)
     case atStart => exact ⟨0, Nat.zero_le _, rfl, by have h := HAc.out; rw [Hu2.out] at h; exact h⟩
     case round =>
      obtain ⟨j, hj, rfl, HI⟩ := hrel
      by_cases hlj : j < n
      ·obtain ⟨d, hd, hdg, hdx⟩ := HMc.out.at hlj hi
       obtain ⟨p, hp⟩ : ∃ p, p = j * T := ⟨_, rfl⟩
       obtain ⟨p0, hp0⟩ : ∃ p0, p0 = k * n := ⟨_, rfl⟩
       have hpP : p + i < P1 := by
        have h1 : (j + 1) * T <= n * T := Nat.mul_le_mul_right _ hlj
        rw [Nat.succ_mul] at h1
        rw [HP1.out, hp]
        omega
       have hbo : Below w6.heap.size w6 wr := HOut.out.bl.trans (HI.out.bl.mono HOut.out.bl.size)
       obtain ⟨bG, oG, d', haG, gc, hd', _, hbG, _, _, _⟩ := HG6.out.pick2 (k := p + i) (by rw [HGl.out]; exact hpP)
       rw [hp, hd] at hd'
       cases hd'
       have gc := (hbo.cell (p := ⟨bG, oG + (p + i), none⟩) hbG).trans gc
       have hbG2 := Nat.lt_of_lt_of_le hbG hbo.size
       have m0 : IntKind.i64.wrap ((j : Int) * (T : Int)) = (p : Int) := by rw [<- Int.natCast_mul, <- hp]; exact IntWalk.i64_in _ (by omega)
       have hw0 : Below w.heap.size w wr := HBo.out.trans (HI.out.bl.mono HBo.out.size)
       have hw1r : Below w1.heap.size w1 wr := HB1o.out.trans (HI.out.bl.mono HB1o.out.size)
       rw [haG]
       by_cases hd0 : 0 <= d
       ·obtain ⟨dn, hdn⟩ : ∃ dn : Nat, d = (dn : Int) := ⟨d.toNat, by omega⟩
        subst hdn
        have hdl : dn < L.length := by rw [HXl.out] at hdx; omega
        have hpl : p0 + j < l.weights.length := by
         have h1 : (k + 1) * n <= O * n := Nat.mul_le_mul_right _ hlt
         rw [Nat.succ_mul, <- hp0] at h1
         rw [HMc.out.wl]
         omega
        have hR1 := HR1.out
        rw [HWq.out] at hR1
        have hXr := HX0.out
        rw [HLb.out] at hXr
        obtain ⟨bw, ow, v, vn, vd, vcn, vcd, haw, hbw, hv, wc0, wc1, wc2, hwv⟩ := hR1.pick (k := p0 + j) (by rw [<- HWq.out]; exact hpl)
        obtain ⟨bx, ox, y, yn, yd, ycn, ycd, hax, hbx, hyy, yc0, yc1, yc2, hyv⟩ := hXr.pick (k := dn) (by rw [<- HLb.out]; exact hdl)
        obtain ⟨hv1, hv2⟩ := map_get hv
        obtain ⟨hy1, hy2⟩ := map_get hyy
        obtain ⟨s, hs⟩ : ∃ s, s = ratL (psum ((bq l).getD k 0) (partL (wq l) (k * n) n) 0 (q.all.getD i []) (L.map ratOf) j) := ⟨_, rfl⟩
        obtain ⟨s1, hs1⟩ : ∃ s1, s1 = ratL (psum ((bq l).getD k 0) (partL (wq l) (k * n) n) 0 (q.all.getD i []) (L.map ratOf) (j + 1)) := ⟨_, rfl⟩
        obtain ⟨pr, hpr⟩ : ∃ pr, pr = ratL (ratOf v * ratOf y) := ⟨_, rfl⟩
        have hq : ratL (ratOf s + ratOf pr) = s1 := by
         rw [hs, hpr, hs1, ratOf_ratL, ratOf_ratL, psum_step hdg, hv1, hy1, Nat.zero_add, part_getD hlj, <- hp0]
        have hmem : (wq l).getD (p0 + j) 0 ∈ wq l := by
         rw [List.getD_eq_getElem?_getD, List.getElem?_eq_getElem (by rw [HWl.out, <- HMc.out.wl]; exact hpl)]; exact List.getElem_mem _
        have hmex : (L.map ratOf).getD dn 0 ∈ L.map ratOf := by
         rw [List.getD_eq_getElem?_getD, List.getElem?_eq_getElem (by rw [HXl.out]; exact hdl)]; exact List.getElem_mem _
        have hjn : j <= 262144 := by omega
        have HI1 := HI.out
        rw [<- hs] at HI1
        obtain ⟨sn, sd, scn, scd, hbxs, s2, s3, s4, s5⟩ := HI1.box.ex
        have HMul : Hid (∀ W, Below wr.heap.size wr W -> Calls Tryz.prog 23 #[.agg #[.bool v.neg, .slice vn v.num.length vcn, .slice vd v.den.length vcd], .agg #[.bool y.neg, .slice yn y.num.length ycn, .slice yd y.den.length ycd]] W (RetR W pr)) := fun W hb => by
         rw [hpr]
         exact r3Mul (hwv.below (hw1r.trans (hb.mono hw1r.size))) (hyv.below (hw0.trans (hb.mono hw0.size))) (by rw [hv2]; exact (HRm2.out _ hmem).mono (by omega)) (by rw [hy2]; exact (HRm1.out _ hmex).mono (by omega))
        have HAdd : Hid (∀ W, Below wr.heap.size wr W -> ∀ z, RatV W z pr -> Calls Tryz.prog 22 #[.agg #[.bool s.neg, .slice sn s.num.length scn, .slice sd s.den.length scd], z] W (RetR W s1)) := fun W hb z hz => by
         have e1 : RatLe s 524286 := by rw [hs]; exact (HRm4.out k (k * n) n (q.all.getD i []) j hjn).mono (by omega)
         have e2 : RatLe pr 524286 := by rw [hpr, hv1, hy1]; exact (HRm3.out _ hmem _ hmex).mono (by omega)
         have h := r3Add (x := s) ⟨sn, sd, scn, scd, rfl, s2, s3, s4.below hb, s5.below hb⟩ hz e1 e2
         rw [hq] at h
         exact h
        have HBxr := hid (HBx6.out.below hbo)
        have HCe : Hid (∀ W, Below wr.heap.size wr W -> W.cell? ⟨wo.heap.size, 0, none⟩ = some (.bool s.neg) /\ W.cell? ⟨wo.heap.size, 1, none⟩ = some (.slice sn s.num.length scn) /\ W.cell? ⟨wo.heap.size, 2, none⟩ = some (.slice sd s.den.length scd) /\
          W.cell? ⟨w3.heap.size, 7, none⟩ = some (.slice (some ⟨bw, ow, none⟩) l.weights.length d1) /\
          W.cell? ⟨bw, ow + (p0 + j) * 3, none⟩ = some (.bool v.neg) /\ W.cell? ⟨bw, ow + (p0 + j) * 3 + 1, none⟩ = some (.slice vn v.num.length vcn) /\ W.cell? ⟨bw, ow + (p0 + j) * 3 + 2, none⟩ = some (.slice vd v.den.length vcd) /\
          W.cell? ⟨bx, ox + dn * 3, none⟩ = some (.bool y.neg) /\ W.cell? ⟨bx, ox + dn * 3 + 1, none⟩ = some (.slice yn y.num.length ycn) /\ W.cell? ⟨bx, ox + dn * 3 + 2, none⟩ = some (.slice yd y.den.length ycd)) := fun W hb => by
         have hbw2 := hw1r.trans (hb.mono hw1r.size)
         have hbx2 := hw0.trans (hb.mono hw0.size)
         have g7 := (HBxr.out.below hb).c7
         rw [haw] at g7
         exact ⟨(hb.cell hbxs.lt).trans hbxs.c0, (hb.cell hbxs.lt).trans hbxs.c1, (hb.cell hbxs.lt).trans hbxs.c2, g7, (hbw2.cell hbw).trans wc0, (hbw2.cell hbw).trans wc1, (hbw2.cell hbw).trans wc2, (hbx2.cell hbx).trans yc0, (hbx2.cell hbx).trans yc1, (hbx2.cell hbx).trans yc2⟩
        have HS1 : Hid (ratL (psum ((bq l).getD k 0) (partL (wq l) (k * n) n) 0 (q.all.getD i []) (L.map ratOf) (j + 1)) = s1) := hs1.symm
        have HI2 := hid HI1
        have hp0b : p0 <= 1000000 := by
         have h1 := Vhv2.out
         have h2 := (numB_little h1).2
         omega
        have HP0 := hid hp0
        have HHd := hid hdg
        rw [hax]
        clear hv hyy hv1 hv2 hy1 hy2 hs hs1 hpr hq hmem hmex hbxs s4 s5 hwv hyv wc0 wc1 wc2 yc0 yc1 yc2 HI1 hR1 hXr haw hax hp hdg hdx hd HI
        go_upto_region 26 with fail
        clear gc m0
        have m3 : IntKind.i64.wrap ((k : Int) * (n : Int)) = (p0 : Int) := by rw [<- Int.natCast_mul, <- hp0]; exact IntWalk.i64_in _ (by omega)
        clear hp0
        refine wp_region_slots_tail 16 (by kernel_rfl) (by kernel_rfl) (by kernel_rfl) (by kernel_rfl) (by decide) (From wr.heap.size wr) (fun w w' => Below w.heap.size w w') (GR [.val (.agg #[.bool s.neg, .slice sn s.num.length scn, .slice sd s.den.length scd]), .val (.pointer (some ⟨w3.heap.size, 7, none⟩)), .val (.slice (some ⟨bw, ow, none⟩) l.weights.length d1), .val (.int .i64 (k : Int)), .val (.int .i64 (n : Int)), .val (.int .i64 (p0 : Int)), .val (.int .i64 (j : Int)), .val (.int .i64 ((p0 : Int) + (j : Int))), .val (.pointer (some ⟨bw, ow + (p0 + j) * 3, none⟩)), .val (.agg #[.bool v.neg, .slice vn v.num.length vcn, .slice vd v.den.length vcd]), .val (.slice (some ⟨bx, ox, none⟩) L.length cx), .val (.int .i64 (dn : Int)), .val (.pointer (some ⟨bx, ox + dn * 3, none⟩)), .val (.agg #[.bool y.neg, .slice yn y.num.length ycn, .slice yd y.den.length ycd]), .rat pr, .rat s1]) (fun i v w w' h hb => GR_below h hb) (From.start (Nat.le_refl _)) ?_ ?_
        ·intro ops
         simp only [List.take_succ_cons, List.take_zero, Shows]
         refine ⟨?_, ?_, ?_, ?_, ?_, ?_, ?_, ?_, ?_, ?_, ?_, ?_, ?_, ?_, ?_, ?_, trivial⟩
         all_goals (intro g W hR hL; have hB := hR.base; obtain ⟨x0, x1, x2, f7, wc0, wc1, wc2, yc0, yc1, yc2⟩ := HCe.out W hR.be; simp only [Laid, Region.binds, forall_const, Bool.false_eq_true, false_implies, GR, List.getElem?_cons_zero, List.getElem?_cons_succ] at hL; simp [fillFrom, Act.put])
         ·clear hL
          have HR := hid hR
          clear hR
          go_wp2
          exact ⟨_, rfl, HR.out, Below.refl _ _, rfl⟩
         ·clear hL
          have HR := hid hR
          clear hR
          go_wp2
          exact ⟨_, rfl, HR.out, Below.refl _ _, rfl⟩
         ·generalize g 1 = y1 at hL ⊢
          obtain ⟨rfl, _⟩ := hL
          have HR := hid hR
          clear hR
          go_wp2
          exact ⟨_, rfl, HR.out, Below.refl _ _, rfl⟩
         ·clear hL
          have HR := hid hR
          clear hR
          go_wp2
          exact ⟨_, rfl, HR.out, Below.refl _ _, rfl⟩
         ·clear hL
          have HR := hid hR
          clear hR
          go_wp2
          exact ⟨_, rfl, HR.out, Below.refl _ _, rfl⟩
         ·generalize g 3 = y3 at hL ⊢
          generalize g 4 = y4 at hL ⊢
          obtain ⟨rfl, rfl, _⟩ := hL
          have HR := hid hR
          clear hR
          go_wp2
          exact ⟨_, rfl, HR.out, Below.refl _ _, rfl⟩
         ·clear hL
          have HR := hid hR
          clear hR
          go_wp2
          exact ⟨_, rfl, HR.out, Below.refl _ _, rfl⟩
         ·generalize g 5 = y5 at hL ⊢
          generalize g 6 = y6 at hL ⊢
          obtain ⟨rfl, rfl, _⟩ := hL
          have HR := hid hR
          clear hR
          go_wp2
          exact ⟨_, rfl, HR.out, Below.refl _ _, rfl⟩
         ·generalize g 2 = y2 at hL ⊢
          generalize g 7 = y7 at hL ⊢
          obtain ⟨rfl, rfl, _⟩ := hL
          have HR := hid hR
          clear hR
          go_wp2
          exact ⟨_, rfl, HR.out, Below.refl _ _, rfl⟩
         ·generalize g 8 = y8 at hL ⊢
          obtain ⟨rfl, _⟩ := hL
          have HR := hid hR
          clear hR
          go_wp2
          exact ⟨_, rfl, HR.out, Below.refl _ _, rfl⟩
         ·clear hL
          have HR := hid hR
          clear hR
          go_wp2
          exact ⟨_, rfl, HR.out, Below.refl _ _, rfl⟩
         ·clear hL
          have HR := hid hR
          clear hR
          go_wp2
          exact ⟨_, rfl, HR.out, Below.refl _ _, rfl⟩
         ·generalize g 10 = y10 at hL ⊢
          generalize g 11 = y11 at hL ⊢
          obtain ⟨rfl, rfl, _⟩ := hL
          have HR := hid hR
          clear hR
          go_wp2
          exact ⟨_, rfl, HR.out, Below.refl _ _, rfl⟩
         ·generalize g 12 = y12 at hL ⊢
          obtain ⟨rfl, _⟩ := hL
          have HR := hid hR
          clear hR
          go_wp2
          exact ⟨_, rfl, HR.out, Below.refl _ _, rfl⟩
         ·generalize g 9 = y9 at hL ⊢
          generalize g 13 = y13 at hL ⊢
          obtain ⟨rfl, rfl, _⟩ := hL
          have HR := hid hR
          clear hR
          have HCt := hid (HMul.out W HR.out.be)
          go_wp2_with fail
          refine HCt.out.mono ?_
          rintro e w1 ⟨v1, rfl, kv, kb⟩
          have KV := hid kv
          have KB := hid kb
          clear kv kb HCt
          go_wp2
          exact ⟨_, rfl, ⟨Nat.le_trans HR.out.base KB.out.size, HR.out.be.trans (KB.out.mono HR.out.base)⟩, KB.out, KV.out⟩
         ·generalize g 0 = y0 at hL ⊢
          generalize g 14 = y14 at hL ⊢
          obtain ⟨rfl, H14, _, _⟩ := hL
          have K14 := hid H14
          have HR := hid hR
          clear hR H14
          have HCt := hid (HAdd.out W HR.out.be _ K14.out)
          go_wp2_with fail
          refine HCt.out.mono ?_
          rintro e w1 ⟨v1, rfl, kv, kb⟩
          have KV := hid kv
          have KB := hid kb
          clear kv kb HCt
          go_wp2
          exact ⟨_, rfl, ⟨Nat.le_trans HR.out.base KB.out.size, HR.out.be.trans (KB.out.mono HR.out.base)⟩, KB.out, KV.out⟩
        ·intro ops g W hR hL
         have hB := hR.base
         have J15 := hL.2
         simp only [GR, List.getElem?_cons_zero, List.getElem?_cons_succ] at J15
         obtain ⟨x0, x1, x2, f7, wc0, wc1, wc2, yc0, yc1, yc2⟩ := HCe.out W hR.be
         clear hL
         simp only [List.take_succ_cons, List.take_zero, List.drop_succ_cons, List.drop_zero]
         simp [fillFrom, Act.put]
         generalize g 15 = y15 at J15 ⊢
         have HR := hid hR
         clear hR
         obtain ⟨bn', bd', dn', dd', rfl, g2, g3, g4, g5⟩ := J15.ex
         have HBe := hid (show Below wr.heap.size wr W from HR.out.be)
         have HBy := hid (HI2.out.box.below HBe.out)
         obtain ⟨_, _, _, _, ⟨_, _, _, zf, zlt⟩, _⟩ := HBy.out.ex
         have HStep := hid (HI2.out.step HBe.out g2 g3 g4 g5)
         clear g4 g5 J15
         go_wp2
         go_roundw
         case rel => exact ⟨j + 1, hlj, by go_num, by rw [HS1.out]; exact HStep.out⟩
         case measure => simp [intOf]; omega
       ·have t6 : decide (0 <= d) = false := decide_eq_false hd0
        have HNx2 : Hid (AcI wo wr wo.heap.size (ratL (psum ((bq l).getD k 0) (partL (wq l) (k * n) n) 0 (q.all.getD i []) (L.map ratOf) (j + 1)))) := by
         unfold Hid
         rw [psum_skip (by rw [hdg]; exact hd0)]
         exact HI.out
        clear hp hdg hdx hd hp0 hd0
        go_wp2
        go_roundw
        case rel => exact ⟨j + 1, hlj, by go_num, HNx2.out⟩
        case measure => simp [intOf]; omega
      ·obtain rfl : j = n := by omega
       obtain ⟨s, hs⟩ : ∃ s, s = ratL (convAt (bq l) (wq l) j q.all (L.map ratOf) k i) := ⟨_, rfl⟩
       have hbx : AcI wo wr wo.heap.size s := by
        have h := HI.out
        rw [hs]
        unfold convAt sumQ
        rw [show (q.all.getD i []).length = j from by rw [List.getD_eq_getElem?_getD, List.getElem?_eq_getElem (by rw [<- HMc.out.hT]; exact hi)]; exact HMc.out.lens _ (List.getElem_mem _)]
        exact h
       have HStep : Hid _ := flatQ_succ (convAt (bq l) (wq l) j q.all (L.map ratOf)) T k i
       rw [<- hs] at HStep
       obtain ⟨sn, sd, scn, scd, ⟨x0, x1, x2, _, xlt⟩, s2, s3, s4, s5⟩ := hbx.box.ex
       have HRow := hid (Row1.alloc s2 s3 s4 s5 37)
       have HOw := hid ((HOut.out.below hbx.bl).below ((Below.refl wr.heap.size wr).alloc (Nat.le_refl _) (ratO s sn scn sd scd 37)))
       have HLn := hid ((flatQ_len (convAt (bq l) (wq l) j q.all (L.map ratOf)) T k i).trans HM1.out.symm)
       have hmm : mm + 1 <= 1000000 := by
        have h1 : (k + 1) * T <= O * T := Nat.mul_le_mul_right _ hlt
        rw [Nat.succ_mul, <- HP2.out] at h1
        have h3 := HM1.out
        omega
       clear hbx s4 s5 hs
       go_wp2_with (at_builtin; refine wpList_appR rfl (.tmp 173) (.tmp 175) 26 rfl w6.heap.size Tryz.underlying26 Tryz.infoRat (.slice b0 mm k0) mm _ HLn.out rfl HOw.out.own _ s HRow.out rfl (by omega) HOw.out.bl.size ?_; intro b3 k3 w7 hown hk3 hg hbe; have HOut3 := hid (show OutI w6 w7 (.slice b3 (mm + 1) k3) ((flatQ (convAt (bq l) (wq l) j q.all (L.map ratOf)) T k (i + 1)).map ratL) from ⟨by rw [HStep.out]; exact hown, HOw.out.bl.trans hbe⟩); clear hown hg hbe)
       go_roundw
       case rel => exact ⟨i + 1, mm + 1, b3, k3, hi, by unfold Hid; have := HM1.out; omega, rfl, by go_num, HOut3.out⟩
       case measure => simp [intOf]; omega
    ·obtain rfl : i = T := by omega
     go_wp2
     go_roundw
     case rel => exact ⟨k + 1, mm, b0, k0, hlt, by unfold Hid; rw [Nat.succ_mul]; exact HM1.out, rfl, by go_num, by rw [<- flatQ_next]; exact HOut.out⟩
     case measure => simp [intOf]; omega
  ·obtain rfl : k = O := by omega
   obtain rfl : mm = P2 := by rw [HM1.out, HP2.out]
   have hl2 : ((flatQ (convAt (bq l) (wq l) n q.all (L.map ratOf)) T k 0).map ratL).length = mm := (flatQ_len (convAt (bq l) (wq l) n q.all (L.map ratOf)) T k 0).trans HM1.out.symm
   have HY7 := HY6.out.below HOut.out.bl
   rw [HEnd.out] at HY7
   have HRs := r12Rats cY k0 HY7 (HOut.out.own.rats (by rw [hl2]; have := HP2b.out; omega))
   rw [decide_eq_true rfl, hl2] at HRs
   have HRs := hid HRs
   have HBe := hid (HB6.out.trans (HOut.out.bl.mono HB6.out.size))
   clear HY7 hl2
   go_wp2_with fail
   refine HRs.out.mono ?_
   rintro e w8 ⟨rfl, hb8⟩
   have HB8 := hid (HBe.out.trans (hb8.mono HBe.out.size))
   clear hb8
   go_wp2
   go_ret
   exact ⟨rfl, HB8.out⟩
end Go.Proofs.YtoppijdedkdjeaaGreat
