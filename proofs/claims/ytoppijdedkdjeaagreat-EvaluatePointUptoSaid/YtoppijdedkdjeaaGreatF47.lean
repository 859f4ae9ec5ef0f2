/-
  Contracts of the functions that the statement reaches: LwP.
-/
import Derived.Test.YtoppijdedkdjeaaGreatF45
set_option linter.unusedVariables false
set_option linter.unusedSimpArgs false
set_option linter.constructorNameAsVariable false
set_option linter.deprecated false
set_option maxRecDepth 100000
set_option maxHeartbeats 3200000
namespace Go.Proofs.YtoppijdedkdjeaaGreat
open Go.RowKit
open Go.Lib (hid)
theorem img_nat {m : ModL} (h : imgB m = true) : (shapesL m).2.2 = 0 /\ ∃ C H W : Nat, currL m.input (shapesL m).1 = [(C : Int), (H : Int), (W : Int)] /\ validL [(C : Int), (H : Int), (W : Int)] = true := by
 unfold imgB at h
 rw [Bool.and_eq_true, decide_eq_true_eq, decide_eq_true_eq] at h
 obtain ⟨h0, h3⟩ := h
 obtain ⟨T, hf⟩ := fits_of (m := m) [] h0
 obtain ⟨v1, v2, _⟩ := hf.valid
 have hv := curr_ok v1 v2
 have e : (shapesL m).1 = T := by rw [hf.sh]
 rw [e] at h3 ⊢
 generalize currL m.input T = l at h3 hv ⊢
 match l, h3 with
 | [a, b, c], _ =>
  have hm := validL_mem hv
  have e1 := (hm a (by simp)).1
  have e2 := (hm b (by simp)).1
  have e3 := (hm c (by simp)).1
  have q1 : ((a.toNat : Nat) : Int) = a := by omega
  have q2 : ((b.toNat : Nat) : Int) = b := by omega
  have q3 : ((c.toNat : Nat) : Int) = c := by omega
  exact ⟨h0, a.toNat, b.toNat, c.toNat, by rw [q1, q2, q3], by rw [q1, q2, q3]; exact hv⟩
theorem lays_pt {W : World} {bv : RatL} {ws : List RatL} {bw ow C cw : Nat} (hV : RatsAt W (some ⟨bw, ow, none⟩) (bv :: ws)) (hC : ws.length = C) (T : Nat) :
  LaysAt (W.alloc (.cells #[.int .i64 2, .int .i64 0, .int .i64 1, .int .i64 1, .int .i64 1, .int .i64 1, .int .i64 0, .slice (some ⟨bw, ow + 3, none⟩) C (cw - 1), .slice (some ⟨bw, ow, none⟩) 1 cw] T)) (some ⟨W.heap.size, 0, none⟩) [ptL bv ws] := by
 have hal : Below W.heap.size W (W.alloc (.cells #[.int .i64 2, .int .i64 0, .int .i64 1, .int .i64 1, .int .i64 1, .int .i64 1, .int .i64 0, .slice (some ⟨bw, ow + 3, none⟩) C (cw - 1), .slice (some ⟨bw, ow, none⟩) 1 cw] T)) := (Below.refl _ _).alloc (Nat.le_refl _) _
 have s1 := hV.sub (lo := 1) (n := C) (by rw [List.length_cons]; omega)
 have s0 := hV.sub (lo := 0) (n := 1) (by rw [List.length_cons]; omega)
 rw [show partL (bv :: ws) 1 C = ws by unfold partL; rw [List.drop_succ_cons, List.drop_zero, List.take_of_length_le (by omega)], Nat.one_mul] at s1
 rw [show partL (bv :: ws) 0 1 = [bv] from rfl, Nat.zero_mul, Nat.add_zero] at s0
 refine ⟨by simp, .inr ⟨W.heap.size, 0, rfl, by simp, fun j x hj => ?_⟩⟩
 match j, hj with
 | 0, hj =>
  simp at hj
  subst hj
  refine ⟨some ⟨bw, ow + 3, none⟩, some ⟨bw, ow, none⟩, cw - 1, cw, ?_, s1.below hal, s0.below hal⟩
  rw [show (ptL bv ws).weights.length = C from hC]
  refine ⟨?_, ?_, ?_, ?_, ?_, ?_, ?_, ?_, ?_⟩ <;> (rw [World.cell?_alloc_at _ _ _ _ rfl]; rfl)
def RunOK (w : World) (N : Nat) (Y : List RatL) (e : Ending) (w' : World) : Prop := ∃ a c, e = .returned (.tuple #[.slice a N c, .int .i64 0]) /\ RatsAt w' a Y /\ Below w.heap.size w w'
theorem run_ok {w w' : World} {e : Ending} {Y : List RatL} {N : Nat} (h : RunPost w (Y, 0) e w') (hn : Y.length = N) : RunOK w N Y e w' := by
 obtain ⟨a, c, h1, h2, h3, h4⟩ := h
 subst hn
 exact ⟨a, c, h1, h3, h4⟩
structure PtI (wr wz : World) (s : RatL) : Prop where
 box : RBox wz wr.heap.size s
 bl : Below wr.heap.size wr wz
theorem PtI.step {wr wz W : World} {s y : RatL} {bn bd : Option Addr} {dn dd : Nat} (h : PtI wr wz s) (hb : Below wz.heap.size wz W) (g2 : y.num.length <= dn) (g3 : y.den.length <= dd) (g4 : U32s W bn y.num) (g5 : U32s W bd y.den) :
  PtI wr (((W.setCell ⟨wr.heap.size, 0, none⟩ (.bool y.neg)).setCell ⟨wr.heap.size, 1, none⟩ (.slice bn y.num.length dn)).setCell ⟨wr.heap.size, 2, none⟩ (.slice bd y.den.length dd)) y :=
 ⟨(h.box.below hb).store g2 g3 g4 g5, keep_store3 (h.bl.trans (hb.mono h.bl.size)) _ _ _⟩
theorem img_chan {m : ModL} {L : List RatL} {C H W : Nat} (hf : fairE m L = true) (h0 : (shapesL m).2.2 = 0) (hc : currL m.input (shapesL m).1 = [(C : Int), (H : Int), (W : Int)]) : C <= 60 := by
 obtain ⟨T, hF⟩ := fits_of (m := m) [] h0
 obtain ⟨v1, v2, _⟩ := hF.valid
 unfold fairE at hf
 simp only [Bool.and_eq_true, decide_eq_true_eq] at hf
 obtain ⟨h1, h2, h3, h4, h5, h6⟩ := hf
 have e : (shapesL m).1 = T := by rw [hF.sh]
 rw [e] at hc
 refine chan_le hF.ch v1 h2 (fun l hl => ?_) T.length (Nat.le_refl _) C H W (by rw [List.take_length]; exact hc)
 have := List.all_eq_true.1 h5 l hl
 unfold okLay at this
 simp only [Bool.and_eq_true, decide_eq_true_eq] at this
 exact this.2.1
theorem lawPoint {w : World} {m : ModL} {L : List RatL} {V : List RatL} {a1 a2 ax aw : Option Addr} (c1 c2 cx cw : Nat) (h1 : Ints w Any a1 m.input) (h2 : LaysAt w a2 m.layers) (hr : ∀ l ∈ m.layers, LayRange l) (hs : ∀ l ∈ m.layers, LayLe l) (hX : RatsAt w ax L) (hL : ∀ x ∈ L, RatLe x 1048576) (hW : RatsAt w aw V) (hV : ∀ x ∈ V, RatLe x 1048576) (hcw : V.length <= cw) :
  Calls Tryz.prog 6 #[.agg #[.slice a1 m.input.length c1, .slice a2 m.layers.length c2], .slice ax L.length cx, .slice aw V.length cw] w fun e w' => e = .returned (.bool true) /\ Below w.heap.size w w' := by
 have q1 := h1.len
 have q2 := h2.len
 have q3 := hX.len
 have q4 := hW.len
 have HW0 := hid hW
 have HVl := hid hV
 have HLi := hid (fun (W : World) (hb : Below w.heap.size w W) => kLittle cw (hW.below hb) hV)
 have H1 := hid h1
 have H2 := hid h2
 have HRg := hid hr
 have HSh := hid hs
 have HX0 := hid hX
 have HL := hid hL
 have hb0 : Below w.heap.size w (w.alloc (.cells #[.slice a1 m.input.length c1, .slice a2 m.layers.length c2] 25)) := (Below.refl _ _).alloc (Nat.le_refl _) _
 have hx0 := Box2.alloc w (.slice a1 m.input.length c1) (.slice a2 m.layers.length c2) 25
 have hs0 : (w.alloc (.cells #[.slice a1 m.input.length c1, .slice a2 m.layers.length c2] 25)).heap.size = w.heap.size + 1 := by simp
 clear h1 h2 hr hs hX hL hW hV
 go_enter Tryz.func6, Tryz.ntmps6
 go_upto_region 1 with fail
 generalize w.alloc (.cells #[.slice a1 m.input.length c1, .slice a2 m.layers.length c2] 25) = W at *
 have HX := hid hx0
 have HB := hid hb0
 clear hb0 hx0 hs0
 obtain ⟨x0, x1, xf, xlt⟩ := HX.out
 have HIm := hid (kImage c1 c2 (H1.out.below HB.out) (H2.out.below HB.out) HRg.out HSh.out)
 go_wp2_with fail
 refine HIm.out.mono ?_
 rintro e w1 ⟨aS, cS, rfl, hIs, hb1⟩
 have HB1 := hid (HB.out.trans (hb1.mono HB.out.size))
 have HX1 := hid (HX.out.below hb1)
 have HIs := hid hIs
 clear hb1 hIs HIm HX x0 x1 xf xlt
 generalize hok : imgB m = ok
 obtain ⟨ns, hns⟩ : ∃ ns, ns = (currL m.input (shapesL m).1).length := ⟨_, rfl⟩
 rw [<- hns]
 have HNs := hid hns
 clear hns
 have HOk := hid hok
 clear hok
 go_wp2_with fail
 refine (awake14 w1).mono ?_
 rintro e w2 ⟨rfl, hb2⟩
 have HW2 := hid hb2
 have HB2 := hid (HB1.out.trans (hb2.mono HB1.out.size))
 have HX2 := hid (HX1.out.below hb2)
 clear hb2 HX1
 obtain ⟨x0, x1, xf, xlt⟩ := HX2.out
 have HF := hid (kFair14 c1 c2 cx (H1.out.below HB2.out) (H2.out.below HB2.out) (HX0.out.below HB2.out) HSh.out HL.out)
 cases hf : fairE m L with
 | false =>
  rw [hf] at HF
  clear hf
  go_wp2_with fail
  refine HF.out.mono ?_
  rintro e w3 ⟨rfl, hb3⟩
  have HB3 := hid (HB2.out.trans (hb3.mono HB2.out.size))
  clear hb3 x0 x1 xf xlt
  go_wp2_with fail
  refine (awake14 w3).mono ?_
  rintro e w4 ⟨rfl, hb4⟩
  have HB4 := hid (HB3.out.trans (hb4.mono HB3.out.size))
  clear hb4
  go_wp2
  go_ret
  exact ⟨rfl, HB4.out⟩
 | true =>
  rw [hf] at HF
  have HP := hid (fair_paid hf)
  have HFa := hid hf
  clear hf
  go_wp2_with fail
  refine HF.out.mono ?_
  rintro e w3 ⟨rfl, hb3⟩
  have HW3 := hid (HW2.out.trans (hb3.mono HW2.out.size))
  have HB3 := hid (HB2.out.trans (hb3.mono HB2.out.size))
  have HX3 := hid (HX2.out.below hb3)
  clear hb3 HF x0 x1 xf xlt HX2
  cases ok with
  | false =>
   go_wp2_with fail
   refine (awake14 w3).mono ?_
   rintro e w4 ⟨rfl, hb4⟩
   have HB4 := hid (HB3.out.trans (hb4.mono HB3.out.size))
   clear hb4
   go_wp2
   go_ret
   exact ⟨rfl, HB4.out⟩
  | true =>
   obtain ⟨hsz, C, H, Wd, hcur, hvl⟩ := img_nat HOk.out
   have hl8 := HP.out.lens
   have hn3 : ns = 3 := by rw [HNs.out, hcur]; rfl
   subst hn3
   have hw13 : Below w1.heap.size w1 w3 := HW3.out
   have hIs := HIs.out
   rw [hcur] at hIs
   obtain ⟨bS, oS, d, haS, sc0, hd, _, hbS, _, _, _⟩ := hIs.pick2 (k := 0) (by simp)
   have hd : (C : Int) = d := by simpa using hd
   subst hd
   obtain ⟨bS', oS', d, haS', sc1, hd, _, _, _, _, _⟩ := hIs.pick2 (k := 1) (by simp)
   have hd : (H : Int) = d := by simpa using hd
   subst hd
   rw [haS] at haS'
   cases haS'
   obtain ⟨bS', oS', d, haS', sc2, hd, _, _, _, _, _⟩ := hIs.pick2 (k := 2) (by simp)
   have hd : (Wd : Int) = d := by simpa using hd
   subst hd
   rw [haS] at haS'
   cases haS'
   subst haS
   have sc0 := (hw13.cell (p := ⟨bS, oS + 0, none⟩) hbS).trans sc0
   have sc1 := (hw13.cell (p := ⟨bS, oS + 1, none⟩) hbS).trans sc1
   have sc2 := (hw13.cell (p := ⟨bS, oS + 2, none⟩) hbS).trans sc2
   have hbS2 := Nat.lt_of_lt_of_le hbS hw13.size
   simp only [Nat.add_zero] at sc0
   have HS3 : Hid (bS < w3.heap.size /\ w3.cell? ⟨bS, oS, none⟩ = some (.int .i64 (C : Int)) /\ w3.cell? ⟨bS, oS + 1, none⟩ = some (.int .i64 (H : Int)) /\ w3.cell? ⟨bS, oS + 2, none⟩ = some (.int .i64 (Wd : Int))) := ⟨hbS2, sc0, sc1, sc2⟩
   have hC60 := img_chan HFa.out hsz hcur
   obtain ⟨C1, H1', W1', hCA, hA⟩ := valid3 hvl
   have HLt := hid (HLi.out w3 HB3.out)
   have HCur := hid hcur
   have HSz := hid hsz
   clear hIs hw13 hbS sc0 sc1 sc2 hbS2 hcur hsz hvl
   cases hlit : littleL V with
   | false =>
    rw [hlit] at HLt
    go_wp2_with fail
    refine HLt.out.mono ?_
    rintro e w4 ⟨rfl, hb4⟩
    have HB4 := hid (HB3.out.trans (hb4.mono HB3.out.size))
    clear hb4 HLt hlit
    go_wp2_with fail
    refine (awake14 w4).mono ?_
    rintro e w5 ⟨rfl, hb5⟩
    have HB5 := hid (HB4.out.trans (hb5.mono HB4.out.size))
    clear hb5
    go_wp2
    go_ret
    exact ⟨rfl, HB5.out⟩
   | true =>
    rw [hlit] at HLt
    have HLit := hid hlit
    clear hlit
    go_wp2_with fail
    refine HLt.out.mono ?_
    rintro e w4 ⟨rfl, hb4⟩
    have HB4 := hid (HB3.out.trans (hb4.mono HB3.out.size))
    have HX4 := hid (HX3.out.below hb4)
    have HS4 : Hid (bS < w4.heap.size /\ w4.cell? ⟨bS, oS, none⟩ = some (.int .i64 (C : Int)) /\ w4.cell? ⟨bS, oS + 1, none⟩ = some (.int .i64 (H : Int)) /\ w4.cell? ⟨bS, oS + 2, none⟩ = some (.int .i64 (Wd : Int))) := by
     obtain ⟨s0, s1, s2, s3⟩ := HS3.out
     exact ⟨Nat.lt_of_lt_of_le s0 hb4.size, (hb4.cell (p := ⟨bS, oS, none⟩) s0).trans s1, (hb4.cell (p := ⟨bS, oS + 1, none⟩) s0).trans s2, (hb4.cell (p := ⟨bS, oS + 2, none⟩) s0).trans s3⟩
    clear hb4 HLt HS3
    obtain ⟨slt, sc0, sc1, sc2⟩ := HS4.out
    by_cases hlen : V.length = C + 1
    case neg =>
     have t1 : ((V.length : Int) != (C : Int) + 1) = true := by rw [bne_iff_ne]; omega
     go_wp2_with fail
     refine (awake14 w4).mono ?_
     rintro e w5 ⟨rfl, hb5⟩
     have HB5 := hid (HB4.out.trans (hb5.mono HB4.out.size))
     clear hb5
     go_wp2
     go_ret
     exact ⟨rfl, HB5.out⟩
    have t1 : ((V.length : Int) != (C : Int) + 1) = false := by
     rw [hlen]
     simp
    obtain ⟨bw, ow, _, _, _, _, _, hbw, _⟩ := HW0.out.pick (k := 0) (by omega)
    subst hbw
    rw [hlen] at hcw
    go_upto_region 4 with fail
    obtain ⟨bv, ws, rfl⟩ : ∃ bv ws, V = bv :: ws := by
     cases V with
     | nil => simp at hlen
     | cons b l => exact ⟨b, l, rfl⟩
    have hwl : ws.length = C := by simpa using hlen
    have hlt2 := HLit.out
    unfold littleL at hlt2
    simp only [List.all_cons, Bool.and_eq_true] at hlt2
    obtain ⟨A, hAe⟩ : ∃ A, A = H * Wd := ⟨_, rfl⟩
    rw [<- hAe] at hCA hA
    obtain ⟨Y, hY⟩ : ∃ Y, Y = currQ (L.map ratOf) (traceQ m (L.map ratOf)) := ⟨_, rfl⟩
    have r0 := runL_eq m (L.map ratOf)
    rw [if_pos HSz.out, <- hY, List.length_map] at r0
    have r1 := pt_run hlt2.2.1 hlt2.2.2 (L.map ratOf) hl8 HSz.out HCur.out hwl
    rw [<- hY, <- hAe, List.length_map] at r1
    have hex := pt_extra HLit.out (by omega)
    have hal5 : Below w4.heap.size w4 ((w4.alloc (.cells #[.int .i64 2, .int .i64 0, .int .i64 1, .int .i64 1, .int .i64 1, .int .i64 1, .int .i64 0, .slice (some ⟨bw, ow + 3, none⟩) C (cw - 1), .slice (some ⟨bw, ow, none⟩) 1 cw] 42)).drew) := ((Below.refl _ _).alloc (Nat.le_refl _) _).drew
    have HBx5 := hid ((Box9.alloc w4 (.int .i64 2) (.int .i64 0) (.int .i64 1) (.int .i64 1) (.int .i64 1) (.int .i64 1) (.int .i64 0) (.slice (some ⟨bw, ow + 3, none⟩) C (cw - 1)) (.slice (some ⟨bw, ow, none⟩) 1 cw) 42).below (Below.refl _ _).drew)
    have HX5 := hid (HX4.out.below hal5)
    have HB5 := hid (HB4.out.trans (hal5.mono HB4.out.size))
    have HS5 : Hid (bS < ((w4.alloc (.cells #[.int .i64 2, .int .i64 0, .int .i64 1, .int .i64 1, .int .i64 1, .int .i64 1, .int .i64 0, .slice (some ⟨bw, ow + 3, none⟩) C (cw - 1), .slice (some ⟨bw, ow, none⟩) 1 cw] 42)).drew).heap.size /\ ((w4.alloc (.cells #[.int .i64 2, .int .i64 0, .int .i64 1, .int .i64 1, .int .i64 1, .int .i64 1, .int .i64 0, .slice (some ⟨bw, ow + 3, none⟩) C (cw - 1), .slice (some ⟨bw, ow, none⟩) 1 cw] 42)).drew).cell? ⟨bS, oS, none⟩ = some (.int .i64 (C : Int)) /\ ((w4.alloc (.cells #[.int .i64 2, .int .i64 0, .int .i64 1, .int .i64 1, .int .i64 1, .int .i64 1, .int .i64 0, .slice (some ⟨bw, ow + 3, none⟩) C (cw - 1), .slice (some ⟨bw, ow, none⟩) 1 cw] 42)).drew).cell? ⟨bS, oS + 1, none⟩ = some (.int .i64 (H : Int)) /\ ((w4.alloc (.cells #[.int .i64 2, .int .i64 0, .int .i64 1, .int .i64 1, .int .i64 1, .int .i64 1, .int .i64 0, .slice (some ⟨bw, ow + 3, none⟩) C (cw - 1), .slice (some ⟨bw, ow, none⟩) 1 cw] 42)).drew).cell? ⟨bS, oS + 2, none⟩ = some (.int .i64 (Wd : Int))) :=
     ⟨Nat.lt_of_lt_of_le slt hal5.size, (hal5.cell (p := ⟨bS, oS, none⟩) slt).trans sc0, (hal5.cell (p := ⟨bS, oS + 1, none⟩) slt).trans sc1, (hal5.cell (p := ⟨bS, oS + 2, none⟩) slt).trans sc2⟩
    have HR0 := hid r0
    have HR1 := hid r1
    have HEx := hid hex
    have HYe := hid hY
    have HAe := hid hAe
    have HWl := hid hwl
    clear hal5 HX4 HS4 slt sc0 sc1 sc2 hwl hlt2 r0 r1 hex hY hAe hlen t1
    go_region
    generalize (w4.alloc (.cells #[.int .i64 2, .int .i64 0, .int .i64 1, .int .i64 1, .int .i64 1, .int .i64 1, .int .i64 0, .slice (some ⟨bw, ow + 3, none⟩) C (cw - 1), .slice (some ⟨bw, ow, none⟩) 1 cw] 42)).drew = w5 at *
    by_cases hx : (L.length : Int) = sizeL m.input
    case neg =>
     have r0 := HR0.out
     have r1 := HR1.out
     rw [if_neg hx] at r0 r1
     have HRu := evRunX (R := []) c1 c2 cx (H1.out.below HB5.out) (by rw [List.append_nil]; exact H2.out.below HB5.out) HRg.out HSh.out (by simp) (by simp) (HX0.out.below HB5.out) HP.out
     rw [List.append_nil, r0] at HRu
     have HRu := hid HRu
     have HR1n := hid r1
     obtain ⟨x0, x1, xf, xlt⟩ := HX5.out
     clear r0 r1 hx
     go_wp2_with fail
     refine HRu.out.mono ?_
     rintro e w6 ⟨a6, c6, rfl, hc6, hR6, hb6⟩
     have HB6 := hid (HB5.out.trans (hb6.mono HB5.out.size))
     have HX6 := hid (HX5.out.below hb6)
     have HBx6 := hid (HBx5.out.below hb6)
     clear hR6 hb6 HRu x0 x1 xf xlt
     obtain ⟨x0, x1, xf, xlt⟩ := HX6.out
     obtain ⟨l0, l1, l2, l3, l4, l5, l6, l7, l8, l9⟩ := HBx6.out
     have hal7 : Below w6.heap.size w6 (w6.alloc (.cells #[.int .i64 2, .int .i64 0, .int .i64 1, .int .i64 1, .int .i64 1, .int .i64 1, .int .i64 0, .slice (some ⟨bw, ow + 3, none⟩) C (cw - 1), .slice (some ⟨bw, ow, none⟩) 1 cw] 42)) := (Below.refl _ _).alloc (Nat.le_refl _) _
     have hb7 := HB6.out.trans (hal7.mono HB6.out.size)
     have HW7 := hid (kWith (a1 := a1) m.input.length c1 c2 1 (H2.out.below hb7) (lays_pt (cw := cw) (HW0.out.below HB6.out) HWl.out 42) (by omega) (by simp))
     have HB7 := hid hb7
     clear hb7 hal7
     simp only [List.length_cons, List.length_nil] at HW7
     go_wp2_with fail
     refine HW7.out.mono ?_
     rintro e w8 ⟨a8, c8, rfl, hla, hb8⟩
     have HB8 := hid (HB7.out.trans (hb8.mono HB7.out.size))
     have HRv := evRunX c1 c8 cx (H1.out.below HB8.out) hla HRg.out HSh.out (fun l hl => by simp at hl; subst hl; exact HEx.out) (by simp) (HX0.out.below HB8.out) HP.out
     rw [HR1n.out] at HRv
     have HRv := hid HRv
     generalize (m.layers ++ [ptL bv ws]).length = n7 at *
     clear hla hb8 HW7 x0 x1 xf xlt l0 l1 l2 l3 l4 l5 l6 l7 l8 l9
     go_wp2_with fail
     refine HRv.out.mono ?_
     rintro e w9 ⟨a9, c9, rfl, hc9, hR9, hb9⟩
     have HB9 := hid (HB8.out.trans (hb9.mono HB8.out.size))
     clear hR9 hb9 HRv
     go_wp2
     go_ret
     exact ⟨rfl, HB9.out⟩
    have hrm := pt_room HP.out HSz.out hx HCur.out HEx.out.2.2
    rw [<- HYe.out, <- HAe.out] at hrm
    obtain ⟨hyl, hy1, hw1, hp1, hs1⟩ := hrm
    obtain ⟨hvb, _⟩ := little_back HLit.out
    obtain ⟨bq, hbq⟩ : ∃ bq, bq = ratOf bv := ⟨_, rfl⟩
    obtain ⟨wq, hwq⟩ : ∃ wq, wq = ws.map ratOf := ⟨_, rfl⟩
    have hVq : RatsAt w (some ⟨bw, ow, none⟩) ((bq :: wq).map ratL) := by
     have h := HW0.out
     rw [hvb] at h
     rw [hbq, hwq]
     exact h
    have hwql : wq.length = C := by rw [hwq, List.length_map]; exact HWl.out
    rw [<- hwq] at hw1 hp1
    have r0 := HR0.out
    have r1 := HR1.out
    rw [if_pos hx] at r0 r1
    rw [<- hbq, <- hwq] at r1
    rw [<- hbq, <- hwq] at hs1
    obtain ⟨N0, hN0⟩ : ∃ N0, N0 = C * A := ⟨_, rfl⟩
    rw [<- hN0] at hyl
    obtain ⟨Z, hZ⟩ : ∃ Z, Z = ptQ bq wq C A Y := ⟨_, rfl⟩
    rw [<- hZ] at r1
    have hZl : Z.length = A := by rw [hZ]; simp [ptQ]
    have hN16 : N0 <= 16384 := by rw [hN0]; exact hCA
    have HRu := evRunX (R := []) c1 c2 cx (H1.out.below HB5.out) (by rw [List.append_nil]; exact H2.out.below HB5.out) HRg.out HSh.out (by simp) (by simp) (HX0.out.below HB5.out) HP.out
    rw [List.append_nil, r0] at HRu
    have HRu := hid (HRu.mono (fun e w' h => run_ok h (N := N0) (by rw [<- hyl]; exact List.length_map ..)))
    have HR1p := hid r1
    have HVq := hid hVq
    have HY1 := hid hy1
    have HW1 := hid hw1
    have HP1 := hid hp1
    have HS1 := hid hs1
    have HZe := hid hZ
    have HN0 := hid hN0
    obtain ⟨x0, x1, xf, xlt⟩ := HX5.out
    clear r0 r1 hx hy1 hw1 hp1 hs1 hvb hVq hZ hbq hwq hN0 hCA
    go_wp2_with fail
    refine HRu.out.mono ?_
    rintro e w6 ⟨a6, c6, rfl, hR6, hb6⟩
    have HB6 := hid (HB5.out.trans (hb6.mono HB5.out.size))
    have HX6 := hid (HX5.out.below hb6)
    have HBx6 := hid (HBx5.out.below hb6)
    have HQ6 := hid hR6
    have HW56 := hid hb6
    clear hR6 hb6 HRu x0 x1 xf xlt
    obtain ⟨x0, x1, xf, xlt⟩ := HX6.out
    obtain ⟨l0, l1, l2, l3, l4, l5, l6, l7, l8, l9⟩ := HBx6.out
    have hal7 : Below w6.heap.size w6 (w6.alloc (.cells #[.int .i64 2, .int .i64 0, .int .i64 1, .int .i64 1, .int .i64 1, .int .i64 1, .int .i64 0, .slice (some ⟨bw, ow + 3, none⟩) C (cw - 1), .slice (some ⟨bw, ow, none⟩) 1 cw] 42)) := (Below.refl _ _).alloc (Nat.le_refl _) _
    have hb7 := HB6.out.trans (hal7.mono HB6.out.size)
    have HW7 := hid (kWith (a1 := a1) m.input.length c1 c2 1 (H2.out.below hb7) (lays_pt (cw := cw) (HW0.out.below HB6.out) HWl.out 42) (by omega) (by simp))
    have HB7 := hid hb7
    have HQ7 := hid (HQ6.out.below hal7)
    have HW57 := hid (HW56.out.trans (hal7.mono HW56.out.size))
    clear hb7 hal7
    simp only [List.length_cons, List.length_nil] at HW7
    go_wp2_with fail
    refine HW7.out.mono ?_
    rintro e w8 ⟨a8, c8, rfl, hla, hb8⟩
    have HB8 := hid (HB7.out.trans (hb8.mono HB7.out.size))
    have HQ8 := hid (HQ7.out.below hb8)
    have HW58 := hid (HW57.out.trans (hb8.mono HW57.out.size))
    have HRv := evRunX c1 c8 cx (H1.out.below HB8.out) hla HRg.out HSh.out (fun l hl => by simp at hl; subst hl; exact HEx.out) (by simp) (HX0.out.below HB8.out) HP.out
    rw [HR1p.out] at HRv
    have HRv := hid (HRv.mono (fun e w' h => run_ok h (N := A) (by rw [<- hZl]; exact List.length_map ..)))
    generalize (m.layers ++ [ptL bv ws]).length = n7 at *
    clear hla hb8 HW7 x0 x1 xf xlt l0 l1 l2 l3 l4 l5 l6 l7 l8 l9
    go_wp2_with fail
    refine HRv.out.mono ?_
    rintro e w9 ⟨a9, c9, rfl, hR9, hb9⟩
    have HB9 := hid (HB8.out.trans (hb9.mono HB8.out.size))
    have HQ9 := hid (HQ8.out.below hb9)
    have HZ9 := hid hR9
    have hw59 := HW58.out.trans (hb9.mono HW58.out.size)
    have HS9 : Hid (bS < w9.heap.size /\ w9.cell? ⟨bS, oS, none⟩ = some (.int .i64 (C : Int)) /\ w9.cell? ⟨bS, oS + 1, none⟩ = some (.int .i64 (H : Int)) /\ w9.cell? ⟨bS, oS + 2, none⟩ = some (.int .i64 (Wd : Int))) := by
     obtain ⟨s0, s1, s2, s3⟩ := HS5.out
     exact ⟨Nat.lt_of_lt_of_le s0 hw59.size, (hw59.cell (p := ⟨bS, oS, none⟩) s0).trans s1, (hw59.cell (p := ⟨bS, oS + 1, none⟩) s0).trans s2, (hw59.cell (p := ⟨bS, oS + 2, none⟩) s0).trans s3⟩
    clear hR9 hb9 HRv HS5 hw59
    go_upto_region 9 with fail
    obtain ⟨slt, sc0, sc1, sc2⟩ := HS9.out
    have m1 : IntKind.i64.wrap ((H : Int) * (Wd : Int)) = (A : Int) := by rw [<- Int.natCast_mul, <- HAe.out]; exact IntWalk.i64_in _ (by omega)
    go_quiet (fail)
    have hdn : Below w9.heap.size w9 (w9.drewN nq) := below_drewN (Below.refl _ _) nq
    have HB0 := hid (HB9.out.trans (hdn.mono HB9.out.size))
    have HQ0 := hid (HQ9.out.below hdn)
    have HZ0 := hid (HZ9.out.below hdn)
    have HS0 : Hid (bS < (w9.drewN nq).heap.size /\ (w9.drewN nq).cell? ⟨bS, oS, none⟩ = some (.int .i64 (C : Int))) := ⟨Nat.lt_of_lt_of_le slt hdn.size, (hdn.cell (p := ⟨bS, oS, none⟩) slt).trans sc0⟩
    clear hdn HQ9 HZ9 HS9 slt sc0 sc1 sc2 m1
    generalize w9.drewN nq = W0 at *
    go_wp2
    go_loopw [15] (fun i wr => ∃ k : Nat, k <= A /\ i = .int .i64 (k : Int) /\ Hid (Below W0.heap.size W0 wr)) (fun i _ => A - (intOf i).toNat)
    case atStart => exact ⟨0, Nat.zero_le _, rfl, Below.refl _ _⟩
    case round =>
     obtain ⟨k, hk, rfl, HBr⟩ := hrel
     generalize wr = wo at *
     by_cases hlt : k < A
     ·have hbw := HB0.out.trans (HBr.out.mono HB0.out.size)
      obtain ⟨bw', ow', v0, vn, vd, vcn, vcd, hba, hbw0, hv0, vc0, vc1, vc2, hvv⟩ := HVq.out.pick (k := 0) (by simp)
      cases hba
      have hv0 : ratL bq = v0 := by simpa using hv0
      subst hv0
      obtain ⟨vv1, vv2, vv3, vv4⟩ := (hvv.below hbw).parts
      have vc0 := (hbw.cell hbw0).trans vc0
      have vc1 := (hbw.cell hbw0).trans vc1
      have vc2 := (hbw.cell hbw0).trans vc2
      have hbwl := Nat.lt_of_lt_of_le hbw0 hbw.size
      simp only [Nat.zero_mul, Nat.add_zero] at vc0 vc1 vc2
      have hst : PtI wo (wo.alloc (.cells #[.bool (ratL bq).neg, .slice vn (ratL bq).num.length vcn, .slice vd (ratL bq).den.length vcd] 37)) (ratL (psum bq wq 0 (ixP C A k) Y 0)) :=
       ⟨RBox.alloc vv1 vv2 vv3 vv4 _, (Below.refl _ _).alloc (Nat.le_refl _) _⟩
      have HSt := hid hst
      have HBw := hid hbw
      clear hst hvv vv3 vv4 hbw
      go_wp2
      generalize wo.alloc (.cells #[.bool (ratL bq).neg, .slice vn (ratL bq).num.length vcn, .slice vd (ratL bq).den.length vcd] 37) = wa at *
      clear vc0 vc1 vc2 hbwl
      go_loopw [17] (fun i wr => ∃ j : Nat, j <= C /\ i = .int .i64 (j : Int) /\ Hid (PtI wo wr (ratL (psum bq wq 0 (ixP C A k) Y j)))) (fun i _ => C - (intOf i).toNat)
      case atStart => exact ⟨0, Nat.zero_le _, rfl, HSt.out⟩
      case round =>
       obtain ⟨j, hjC, rfl, HI⟩ := hrel
       obtain ⟨s, hs⟩ : ∃ s, s = ratL (psum bq wq 0 (ixP C A k) Y j) := ⟨_, rfl⟩
       have hI := HI.out
       rw [<- hs] at hI
       have hbz := HBw.out.trans (hI.bl.mono HBw.out.size)
       have hbz0 := HBr.out.trans (hI.bl.mono HBr.out.size)
       have slt := Nat.lt_of_lt_of_le HS0.out.1 hbz0.size
       have sc0 := (hbz0.cell (p := ⟨bS, oS, none⟩) HS0.out.1).trans HS0.out.2
       clear HI HSt
       have HI := hid hI
       obtain ⟨sn, sd, scn, scd, hbxs, s2, s3, s4, s5⟩ := hI.box.ex
       by_cases hj : j < C
       ·obtain ⟨bw', ow', u, un, ud, ucn, ucd, hba, hbw0, hu, wc0, wc1, wc2, huv⟩ := HVq.out.pick (k := j + 1) (by simp; omega)
        cases hba
        obtain ⟨j1, hj1⟩ : ∃ j1, j1 = j + 1 := ⟨_, rfl⟩
        obtain ⟨p, hp⟩ : ∃ p, p = j * A := ⟨_, rfl⟩
        obtain ⟨t, ht⟩ : ∃ t, t = p + k := ⟨_, rfl⟩
        have hpC : p + A <= N0 := by
         have h1 : (j + 1) * A <= C * A := Nat.mul_le_mul_right _ hj
         rw [Nat.succ_mul] at h1
         rw [HN0.out, hp]
         exact h1
        have htN : t < N0 := by omega
        obtain ⟨bY, oY, y, yn, yd, ycn, ycd, hya, hbY, hyy, yc0, yc1, yc2, hyv⟩ := HQ0.out.pick (k := t) (by rw [List.length_map, hyl]; exact htN)
        subst hya
        rw [<- hj1] at hu wc0 wc1 wc2
        obtain ⟨hu1, hu2⟩ := map_get hu
        obtain ⟨hy1, hy2⟩ := map_get hyy
        rw [hj1, List.getD_cons_succ] at hu1 hu2
        obtain ⟨s1, hs1⟩ : ∃ s1, s1 = ratL (psum bq wq 0 (ixP C A k) Y (j + 1)) := ⟨_, rfl⟩
        obtain ⟨pr, hpr⟩ : ∃ pr, pr = ratL (ratOf u * ratOf y) := ⟨_, rfl⟩
        have hq : ratL (ratOf s + ratOf pr) = s1 := by
         rw [hs, hpr, hs1, ratOf_ratL, ratOf_ratL, psum_step (ixP_at hj), hu1, hy1, Nat.zero_add, <- hp, <- ht]
        have hmem : wq.getD j 0 ∈ wq := by
         rw [List.getD_eq_getElem?_getD, List.getElem?_eq_getElem (by omega)]; exact List.getElem_mem _
        have hmex : Y.getD t 0 ∈ Y := by
         rw [List.getD_eq_getElem?_getD, List.getElem?_eq_getElem (by omega)]; exact List.getElem_mem _
        have HMul : Hid (∀ W, Below wr.heap.size wr W -> Calls Tryz.prog 23 #[(.agg #[.bool u.neg, .slice un u.num.length ucn, .slice ud u.den.length ucd]), (.agg #[.bool y.neg, .slice yn y.num.length ycn, .slice yd y.den.length ycd])] W (RetR W pr)) := fun W hb => by
         rw [hpr]
         exact r3Mul (huv.below (hbz.trans (hb.mono hbz.size))) (hyv.below (hbz0.trans (hb.mono hbz0.size))) (by rw [hu2]; exact (HW1.out _ hmem).mono (by omega)) (by rw [hy2]; exact (HY1.out _ hmex).mono (by omega))
        have HAdd : Hid (∀ W, Below wr.heap.size wr W -> ∀ v, RatV W v pr -> Calls Tryz.prog 22 #[(.agg #[.bool s.neg, .slice sn s.num.length scn, .slice sd s.den.length scd]), v] W (RetR W s1)) := fun W hb v hv => by
         have h := r3Add (x := s) ⟨sn, sd, scn, scd, rfl, s2, s3, s4.below hb, s5.below hb⟩ hv (by rw [hs]; exact (HS1.out k j (by omega)).mono (by omega)) (by rw [hpr, hu1, hy1]; exact (HP1.out _ hmem _ hmex).mono (by omega))
         rw [hq] at h
         exact h
        have HCe : Hid (∀ W, Below wr.heap.size wr W -> W.cell? ⟨wo.heap.size, 0, none⟩ = some (.bool s.neg) /\ W.cell? ⟨wo.heap.size, 1, none⟩ = some (.slice sn s.num.length scn) /\ W.cell? ⟨wo.heap.size, 2, none⟩ = some (.slice sd s.den.length scd) /\
          W.cell? ⟨bw, ow + j1 * 3, none⟩ = some (.bool u.neg) /\ W.cell? ⟨bw, ow + j1 * 3 + 1, none⟩ = some (.slice un u.num.length ucn) /\ W.cell? ⟨bw, ow + j1 * 3 + 2, none⟩ = some (.slice ud u.den.length ucd) /\
          W.cell? ⟨bY, oY + t * 3, none⟩ = some (.bool y.neg) /\ W.cell? ⟨bY, oY + t * 3 + 1, none⟩ = some (.slice yn y.num.length ycn) /\ W.cell? ⟨bY, oY + t * 3 + 2, none⟩ = some (.slice yd y.den.length ycd)) := fun W hb => by
         have hbw2 := hbz.trans (hb.mono hbz.size)
         have hby2 := hbz0.trans (hb.mono hbz0.size)
         exact ⟨(hb.cell hbxs.lt).trans hbxs.c0, (hb.cell hbxs.lt).trans hbxs.c1, (hb.cell hbxs.lt).trans hbxs.c2, (hbw2.cell hbw0).trans wc0, (hbw2.cell hbw0).trans wc1, (hbw2.cell hbw0).trans wc2, (hby2.cell hbY).trans yc0, (hby2.cell hbY).trans yc1, (hby2.cell hbY).trans yc2⟩
        have HS1e : Hid (ratL (psum bq wq 0 (ixP C A k) Y (j + 1)) = s1) := hs1.symm
        have m2 : IntKind.i64.wrap ((j : Int) * (A : Int)) = (p : Int) := by rw [<- Int.natCast_mul, <- hp]; exact IntWalk.i64_in _ (by omega)
        have hj1b : j1 < C + 1 := by omega
        have HJ1 := hid hj1
        have HT := hid ht
        clear hj1 ht
        clear hu hyy hu1 hu2 hy1 hy2 hs hs1 hpr hq hmem hmex hbxs s4 s5 huv hyv wc0 wc1 wc2 yc0 yc1 yc2 hI hbz hbz0 hp
        go_upto_region 17 with fail
        clear sc0 slt
        refine wp_region_slots_tail 16 (by kernel_rfl) (by kernel_rfl) (by kernel_rfl) (by kernel_rfl) (by decide) (From wr.heap.size wr) (fun w w' => Below w.heap.size w w') (GR [.val (.agg #[.bool s.neg, .slice sn s.num.length scn, .slice sd s.den.length scd]), .val (.slice (some ⟨bw, ow, none⟩) (C + 1) cw), .val (.int .i64 (j : Int)), .val (.int .i64 (j1 : Int)), .val (.pointer (some ⟨bw, ow + j1 * 3, none⟩)), .val (.agg #[.bool u.neg, .slice un u.num.length ucn, .slice ud u.den.length ucd]), .val (.slice (some ⟨bY, oY, none⟩) N0 c6), .val (.int .i64 (j : Int)), .val (.int .i64 (A : Int)), .val (.int .i64 (p : Int)), .val (.int .i64 (k : Int)), .val (.int .i64 (t : Int)), .val (.pointer (some ⟨bY, oY + t * 3, none⟩)), .val (.agg #[.bool y.neg, .slice yn y.num.length ycn, .slice yd y.den.length ycd]), .rat pr, .rat s1]) (fun i v w w' h hb => GR_below h hb) (From.start (Nat.le_refl _)) ?_ ?_
        ·intro ops
         simp only [List.take_succ_cons, List.take_zero, Shows]
         refine ⟨?_, ?_, ?_, ?_, ?_, ?_, ?_, ?_, ?_, ?_, ?_, ?_, ?_, ?_, ?_, ?_, trivial⟩
         all_goals (intro g W hR hL; have hB := hR.base; obtain ⟨x0, x1, x2, wc0, wc1, wc2, yc0, yc1, yc2⟩ := HCe.out W hR.be; simp only [Laid, Region.binds, forall_const, Bool.false_eq_true, false_implies, GR, List.getElem?_cons_zero, List.getElem?_cons_succ] at hL; simp [fillFrom, Act.put])
         ·clear hL
          have HR := hid hR
          clear hR
          go_wp2
          exact ⟨_, rfl, HR.out, Below.refl _ _, rfl⟩
         ·clear hL
          have HR := hid hR
          clear hR
          go_wp2
          exact ⟨_, rfl, HR.out, Below.refl _ _, rfl⟩
         ·clear hL
          have HR := hid hR
          clear hR
          go_wp2
          exact ⟨_, rfl, HR.out, Below.refl _ _, rfl⟩
         ·generalize g 2 = y2 at hL ⊢
          obtain ⟨rfl, _⟩ := hL
          have HR := hid hR
          clear hR
          go_wp2
          exact ⟨_, rfl, HR.out, Below.refl _ _, by have := HJ1.out; show Value.int _ _ = Value.int _ _; congr 1; omega⟩
         ·generalize g 1 = y1 at hL ⊢
          generalize g 3 = y3 at hL ⊢
          obtain ⟨rfl, rfl, _⟩ := hL
          have HR := hid hR
          clear hR
          go_wp2
          exact ⟨_, rfl, HR.out, Below.refl _ _, rfl⟩
         ·generalize g 4 = y4 at hL ⊢
          obtain ⟨rfl, _⟩ := hL
          have HR := hid hR
          clear hR
          go_wp2
          exact ⟨_, rfl, HR.out, Below.refl _ _, rfl⟩
         ·clear hL
          have HR := hid hR
          clear hR
          go_wp2
          exact ⟨_, rfl, HR.out, Below.refl _ _, rfl⟩
         ·clear hL
          have HR := hid hR
          clear hR
          go_wp2
          exact ⟨_, rfl, HR.out, Below.refl _ _, rfl⟩
         ·clear hL
          have HR := hid hR
          clear hR
          go_wp2
          exact ⟨_, rfl, HR.out, Below.refl _ _, rfl⟩
         ·generalize g 7 = y7 at hL ⊢
          generalize g 8 = y8 at hL ⊢
          obtain ⟨rfl, rfl, _⟩ := hL
          have HR := hid hR
          clear hR
          go_wp2
          exact ⟨_, rfl, HR.out, Below.refl _ _, rfl⟩
         ·clear hL
          have HR := hid hR
          clear hR
          go_wp2
          exact ⟨_, rfl, HR.out, Below.refl _ _, rfl⟩
         ·generalize g 9 = y9 at hL ⊢
          generalize g 10 = y10 at hL ⊢
          obtain ⟨rfl, rfl, _⟩ := hL
          have HR := hid hR
          clear hR
          go_wp2
          exact ⟨_, rfl, HR.out, Below.refl _ _, by have := HT.out; show Value.int _ _ = Value.int _ _; congr 1; omega⟩
         ·generalize g 6 = y6 at hL ⊢
          generalize g 11 = y11 at hL ⊢
          obtain ⟨rfl, rfl, _⟩ := hL
          have HR := hid hR
          clear hR
          go_wp2
          exact ⟨_, rfl, HR.out, Below.refl _ _, rfl⟩
         ·generalize g 12 = y12 at hL ⊢
          obtain ⟨rfl, _⟩ := hL
          have HR := hid hR
          clear hR
          go_wp2
          exact ⟨_, rfl, HR.out, Below.refl _ _, rfl⟩
         ·generalize g 5 = y5 at hL ⊢
          generalize g 13 = y13 at hL ⊢
          obtain ⟨rfl, rfl, _⟩ := hL
          have HR := hid hR
          clear hR
          have HCt := hid (HMul.out W HR.out.be)
          go_wp2_with fail
          refine HCt.out.mono ?_
          rintro e w1 ⟨v1, rfl, kv, kb⟩
          have KV := hid kv
          have KB := hid kb
          clear kv kb HCt
          go_wp2
          exact ⟨_, rfl, ⟨Nat.le_trans HR.out.base KB.out.size, HR.out.be.trans (KB.out.mono HR.out.base)⟩, KB.out, KV.out⟩
         ·generalize g 0 = y0 at hL ⊢
          generalize g 14 = y14 at hL ⊢
          obtain ⟨rfl, H14, _, _⟩ := hL
          have K14 := hid H14
          have HR := hid hR
          clear hR H14
          have HCt := hid (HAdd.out W HR.out.be _ K14.out)
          go_wp2_with fail
          refine HCt.out.mono ?_
          rintro e w1 ⟨v1, rfl, kv, kb⟩
          have KV := hid kv
          have KB := hid kb
          clear kv kb HCt
          go_wp2
          exact ⟨_, rfl, ⟨Nat.le_trans HR.out.base KB.out.size, HR.out.be.trans (KB.out.mono HR.out.base)⟩, KB.out, KV.out⟩
        ·intro ops g W hR hL
         have hB := hR.base
         have J15 := hL.2
         simp only [GR, List.getElem?_cons_zero, List.getElem?_cons_succ] at J15
         obtain ⟨x0, x1, x2, wc0, wc1, wc2, yc0, yc1, yc2⟩ := HCe.out W hR.be
         clear hL
         simp only [List.take_succ_cons, List.take_zero, List.drop_succ_cons, List.drop_zero]
         simp [fillFrom, Act.put]
         generalize g 15 = y15 at J15 ⊢
         have HR := hid hR
         clear hR
         obtain ⟨bn', bd', dn', dd', rfl, g2, g3, g4, g5⟩ := J15.ex
         have HBe := hid (show Below wr.heap.size wr W from HR.out.be)
         have HBx := hid (HI.out.box.below HBe.out)
         obtain ⟨_, _, _, _, ⟨_, _, _, zf, zlt⟩, _⟩ := HBx.out.ex
         have HStep := hid (HI.out.step HBe.out g2 g3 g4 g5)
         clear g4 g5 J15
         go_wp2
         go_roundw
         case rel => exact ⟨j + 1, hj, by go_num, by rw [HS1e.out]; exact HStep.out⟩
         case measure => simp [intOf]; omega
       ·have hjC' : j = C := by omega
        rw [hjC'] at hs
        obtain ⟨bZ, oZ, z, zn, zd, zcn, zcd, hza, hbZ, hzz, zc0, zc1, zc2, hzv⟩ := HZ0.out.pick (k := k) (by rw [List.length_map, hZl]; exact hlt)
        subst hza
        obtain ⟨_, hz2⟩ := map_get hzz
        have hzs : s = z := by
         rw [hs, hz2, HZe.out]
         congr 1
         unfold ptQ
         rw [List.getD_eq_getElem?_getD, List.getElem?_map, List.getElem?_range hlt]
         show _ = sumQ bq wq 0 (ixP C A k) Y
         unfold sumQ
         rw [ixP_len]
        have zc0 := (hbz0.cell (p := ⟨bZ, oZ + k * 3, none⟩) hbZ).trans zc0
        have zc1 := (hbz0.cell (p := ⟨bZ, oZ + k * 3 + 1, none⟩) hbZ).trans zc1
        have zc2 := (hbz0.cell (p := ⟨bZ, oZ + k * 3 + 2, none⟩) hbZ).trans zc2
        have hbZ2 := Nat.lt_of_lt_of_le hbZ hbz0.size
        have HSame : Hid (∀ e, Calls Tryz.prog 24 #[(.agg #[.bool s.neg, .slice sn s.num.length scn, .slice sd s.den.length scd]), (.agg #[.bool z.neg, .slice zn z.num.length zcn, .slice zd z.den.length zcd])] (ext wr e) fun x w' => x = .returned (.bool true) /\ Below (ext wr e).heap.size (ext wr e) w') := fun e => by
         have h := r3Same (x := s) (y := z) ⟨sn, sd, scn, scd, rfl, s2, s3, s4.below (ext_below wr e), s5.below (ext_below wr e)⟩ (hzv.below (hbz0.trans ((ext_below wr e).mono hbz0.size)))
         rw [decide_eq_true hzs] at h
         exact h
        have f0 := ext_cell hbxs.c0 hbxs.lt
        have f1 := ext_cell hbxs.c1 hbxs.lt
        have f2 := ext_cell hbxs.c2 hbxs.lt
        have g0 := ext_cell zc0 hbZ2
        have g1 := ext_cell zc1 hbZ2
        have g2 := ext_cell zc2 hbZ2
        have t2 : decide ((A : Int) <= (k : Int)) = false := decide_eq_false (by omega)
        have t3 : decide (A <= k) = false := decide_eq_false (by omega)
        have HBn0 := hid hbz0
        clear hjC'
        clear hs hzz hz2 hzs hzv hbxs s4 s5 zc0 zc1 zc2 hI hbz hbz0 hbZ hbZ2
        go_upto_region 18 with fail
        clear sc0 slt
        refine wp_region_quiet_ext (by kernel_rfl) (by kernel_rfl) ?_
        repeat (go_big_quiet_step (first | (go_at_call 24; exact Calls.ext_of (HSame.out _))))
        refine wpQuiet_nil ?_
        intro _ hw'
        obtain ⟨nq, hw''⟩ := hw'
        subst hw''
        have HB10 := hid (HBn0.out.trans ((ext_below wr nq).mono HBn0.out.size))
        generalize ext wr nq = we at *
        clear f0 f1 f2 g0 g1 g2 t2 t3
        go_wp2
        go_roundw
        case rel => exact ⟨k + 1, hlt, by go_num, HB10.out⟩
        case measure => simp [intOf]; omega
     ·have HBe := hid (HB0.out.trans (HBr.out.mono HB0.out.size))
      go_wp2
      go_ret
      exact ⟨rfl, HBe.out⟩
end Go.Proofs.YtoppijdedkdjeaaGreat
