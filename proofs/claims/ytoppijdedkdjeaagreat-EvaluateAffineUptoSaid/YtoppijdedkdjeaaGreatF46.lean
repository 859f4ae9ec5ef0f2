/-
  Contracts of the functions that the statement reaches: AfA.
-/
import Derived.Test.YtoppijdedkdjeaaGreatF42
import Derived.Test.YtoppijdedkdjeaaGreatF45
set_option linter.unusedVariables false
set_option linter.unusedSimpArgs false
set_option linter.constructorNameAsVariable false
set_option linter.deprecated false
set_option maxRecDepth 100000
set_option maxHeartbeats 3200000
namespace Go.Proofs.YtoppijdedkdjeaaGreat
open Go.RowKit
open Go.Lib (hid)
structure Box7 (w : World) (g : Nat) (p0 p1 p2 p3 p4 p5 p6 : Value) : Prop where
 c0 : w.cell? ⟨g, 0, none⟩ = some p0
 c1 : w.cell? ⟨g, 1, none⟩ = some p1
 c2 : w.cell? ⟨g, 2, none⟩ = some p2
 c3 : w.cell? ⟨g, 3, none⟩ = some p3
 c4 : w.cell? ⟨g, 4, none⟩ = some p4
 c5 : w.cell? ⟨g, 5, none⟩ = some p5
 c6 : w.cell? ⟨g, 6, none⟩ = some p6
 lt : g < w.heap.size
theorem Box7.below {w w' : World} {g : Nat} {p0 p1 p2 p3 p4 p5 p6 : Value} (h : Box7 w g p0 p1 p2 p3 p4 p5 p6) (hb : Below w.heap.size w w') : Box7 w' g p0 p1 p2 p3 p4 p5 p6 :=
 ⟨(hb.cell h.lt).trans h.c0, (hb.cell h.lt).trans h.c1, (hb.cell h.lt).trans h.c2, (hb.cell h.lt).trans h.c3, (hb.cell h.lt).trans h.c4, (hb.cell h.lt).trans h.c5, (hb.cell h.lt).trans h.c6, Nat.lt_of_lt_of_le h.lt hb.size⟩
theorem Box7.alloc (w : World) (p0 p1 p2 p3 p4 p5 p6 : Value) (T : Nat) : Box7 (w.alloc (.cells #[p0, p1, p2, p3, p4, p5, p6] T)) w.heap.size p0 p1 p2 p3 p4 p5 p6 := by
 refine ⟨?_, ?_, ?_, ?_, ?_, ?_, ?_, by simp⟩ <;> (rw [World.cell?_alloc_at _ _ _ _ rfl]; rfl)
def AfG (V : Nat -> Value) (M : List RatL) (N : Nat) (R : List RatL × Int) (NR : Nat) (er : Int) (i : Nat) (v : Value) (w : World) : Prop :=
 match i with
 | 8 => ∃ a c, v = .slice a N c /\ RatsAt w a M
 | 9 => ∃ a c, v = .tuple #[.slice a NR c, .int .i64 er] /\ RatsAt w a R.1
 | 10 => ∃ a c, v = .tuple #[.slice a NR c, .int .i64 er] /\ RatsAt w a R.1
 | 11 => ∃ a c, v = .slice a NR c /\ RatsAt w a R.1
 | 12 => v = .int .i64 er
 | 13 => ∃ a c, v = .slice a NR c /\ RatsAt w a R.1
 | 14 => v = .int .i64 er
 | i => v = V i
theorem AfG_below {V : Nat -> Value} {M : List RatL} {N : Nat} {R : List RatL × Int} {NR : Nat} {er : Int} {i : Nat} {v : Value} {w w' : World} (h : AfG V M N R NR er i v w) (hb : Below w.heap.size w w') : AfG V M N R NR er i v w' := by
 unfold AfG at h ⊢
 split at h
 ·obtain ⟨a, c, e, k⟩ := h; exact ⟨a, c, e, k.below hb⟩
 ·obtain ⟨a, c, e, k⟩ := h; exact ⟨a, c, e, k.below hb⟩
 ·obtain ⟨a, c, e, k⟩ := h; exact ⟨a, c, e, k.below hb⟩
 ·obtain ⟨a, c, e, k⟩ := h; exact ⟨a, c, e, k.below hb⟩
 ·exact h
 ·obtain ⟨a, c, e, k⟩ := h; exact ⟨a, c, e, k.below hb⟩
 ·exact h
 ·exact h
theorem evRunM {w : World} {m : ModL} {X Y : List RatL} {tr : RatL} {a1 a2 ax : Option Addr} {n : Nat} (c1 c2 cx : Nat) (h1 : Ints w Any a1 m.input) (h2 : LaysAt w a2 m.layers) (hr : ∀ l ∈ m.layers, LayRange l) (hs : ∀ l ∈ m.layers, LayLe l) (hp : Paid m X) (hl : Line m X Y tr)
  (hX : RatsAt w ax ((mixQ (ratOf tr) (X.map ratOf) (Y.map ratOf)).map ratL)) (hn : (mixQ (ratOf tr) (X.map ratOf) (Y.map ratOf)).length = n) (hnb : n <= 1000000) :
  Calls Tryz.prog 17 #[.agg #[.slice a1 m.input.length c1, .slice a2 m.layers.length c2], .slice ax n cx] w (RunPost w (runL m (mixQ (ratOf tr) (X.map ratOf) (Y.map ratOf)))) := by
 obtain ⟨D, B, hD, hB, hBd, hR⟩ := hl.run
 have hln := hp.lens
 have hR' : RoomK ((12 - m.layers.length) + m.layers.length) D B := by rw [Nat.sub_add_cancel (by omega)]; exact hR
 have h := evRun c1 c2 cx h1 h2 hr hs hX hp.sm hBd hD hB (by omega) hR (by omega) (fun l hl => Nat.le_trans (trace_len hR' hBd hD hB hp.sm l hl) (by omega))
 rw [hn] at h
 exact h
def RunE (w : World) (R : List RatL) (n : Nat) (er : Int) (e : Ending) (w' : World) : Prop := ∃ a c, e = .returned (.tuple #[.slice a n c, .int .i64 er]) /\ RatsAt w' a R /\ Below w.heap.size w w'
theorem run_e {w w' : World} {e : Ending} {R : List RatL × Int} {n : Nat} {er : Int} (h : RunPost w R e w') (hn : R.1.length = n) (he : R.2 = er) : RunE w R.1 n er e w' := by
 obtain ⟨a, c, h1, h2, h3, h4⟩ := h
 subst hn he
 exact ⟨a, c, h1, h3, h4⟩
theorem allA_take {L : List LayL} {j : Nat} {x : LayL} (hx : L[j]? = some x) (h : ∀ l ∈ L.take j, affL l) (g : affL x) : ∀ l ∈ L.take (j + 1), affL l := by
 rw [take_succ_at hx]
 intro l hl
 rcases List.mem_append.1 hl with k | k
 ·exact h l k
 ·simp at k; subst k; exact g
theorem lawAffine {w : World} {m : ModL} {X Y : List RatL} {tr : RatL} {a1 a2 ax ay tn td : Option Addr} (c1 c2 cx cy tcn tcd : Nat) (h1 : Ints w Any a1 m.input) (h2 : LaysAt w a2 m.layers) (hr : ∀ l ∈ m.layers, LayRange l) (hs : ∀ l ∈ m.layers, LayLe l)
  (hX : RatsAt w ax X) (hXl : ∀ x ∈ X, RatLe x 1048576) (hY : RatsAt w ay Y) (hYl : ∀ x ∈ Y, RatLe x 1048576) (hT : RatV w (.agg #[.bool tr.neg, .slice tn tr.num.length tcn, .slice td tr.den.length tcd]) tr) (hTl : RatLe tr 1048576) (hTc : tr.num.length <= tcn /\ tr.den.length <= tcd /\ U32s w tn tr.num /\ U32s w td tr.den) :
  Calls Tryz.prog 4 #[.agg #[.slice a1 m.input.length c1, .slice a2 m.layers.length c2, .slice ax X.length cx, .slice ay Y.length cy, .bool tr.neg, .slice tn tr.num.length tcn, .slice td tr.den.length tcd]] w fun e w' => e = .returned (.bool true) /\ Below w.heap.size w w' := by
 have q1 := h1.len
 have q2 := h2.len
 have q3 := hX.len
 have q4 := hY.len
 have H1 := hid h1
 have H2 := hid h2
 have HX0 := hid hX
 have HY0 := hid hY
 have HT0 := hid hT
 have HTc := hid hTc
 have HTl := hid hTl
 have HRg := hid hr
 have HSh := hid hs
 have HXl := hid hXl
 have HYl := hid hYl
 have hb0 : Below w.heap.size w (w.alloc (.cells #[.slice a1 m.input.length c1, .slice a2 m.layers.length c2, .slice ax X.length cx, .slice ay Y.length cy, .bool tr.neg, .slice tn tr.num.length tcn, .slice td tr.den.length tcd] 39)) := (Below.refl _ _).alloc (Nat.le_refl _) _
 have HQ0 := hid (Box7.alloc w (.slice a1 m.input.length c1) (.slice a2 m.layers.length c2) (.slice ax X.length cx) (.slice ay Y.length cy) (.bool tr.neg) (.slice tn tr.num.length tcn) (.slice td tr.den.length tcd) 39)
 have HB0 := hid hb0
 clear h1 h2 hr hs hX hXl hY hYl hT hTl hTc hb0
 go_enter Tryz.func4, Tryz.ntmps4
 go_upto_region 1 with fail
 generalize w.alloc (.cells #[.slice a1 m.input.length c1, .slice a2 m.layers.length c2, .slice ax X.length cx, .slice ay Y.length cy, .bool tr.neg, .slice tn tr.num.length tcn, .slice td tr.den.length tcd] 39) = W at *
 obtain ⟨x0, x1, x2, x3, x4, x5, x6, xlt⟩ := HQ0.out
 go_wp2_with fail
 refine (awake14 W).mono ?_
 rintro e w1 ⟨rfl, hb1⟩
 have HB1 := hid (HB0.out.trans (hb1.mono HB0.out.size))
 have HQ1 := hid (HQ0.out.below hb1)
 clear hb1 x0 x1 x2 x3 x4 x5 x6 xlt
 obtain ⟨x0, x1, x2, x3, x4, x5, x6, xlt⟩ := HQ1.out
 have HF1 := hid (kFair14 c1 c2 cx (H1.out.below HB1.out) (H2.out.below HB1.out) (HX0.out.below HB1.out) HSh.out HXl.out)
 go_wp2_with fail
 cases hf1 : fairE m X with
 | false =>
  rw [hf1] at HF1
  clear hf1
  refine HF1.out.mono ?_
  rintro e w2 ⟨rfl, hb2⟩
  have HB2 := hid (HB1.out.trans (hb2.mono HB1.out.size))
  clear hb2
  go_wp2_with fail
  refine (awake14 _).mono ?_
  rintro e wz ⟨rfl, hbz⟩
  have HBz := hid (HB2.out.trans (hbz.mono HB2.out.size))
  clear hbz
  go_wp2
  go_ret
  exact ⟨rfl, HBz.out⟩
 | true =>
  rw [hf1] at HF1
  have Hf1 := hid hf1
  clear hf1
  refine HF1.out.mono ?_
  rintro e w2 ⟨rfl, hb2⟩
  have HB2 := hid (HB1.out.trans (hb2.mono HB1.out.size))
  have HQ2 := hid (HQ1.out.below hb2)
  clear hb2 HF1 x0 x1 x2 x3 x4 x5 x6 xlt
  obtain ⟨x0, x1, x2, x3, x4, x5, x6, xlt⟩ := HQ2.out
  have HF2 := hid (kFair14 c1 c2 cy (H1.out.below HB2.out) (H2.out.below HB2.out) (HY0.out.below HB2.out) HSh.out HYl.out)
  go_wp2_with fail
  cases hf2 : fairE m Y with
  | false =>
   rw [hf2] at HF2
   clear hf2
   refine HF2.out.mono ?_
   rintro e w3 ⟨rfl, hb3⟩
   have HB3 := hid (HB2.out.trans (hb3.mono HB2.out.size))
   clear hb3
   go_wp2_with fail
   refine (awake14 _).mono ?_
   rintro e wz ⟨rfl, hbz⟩
   have HBz := hid (HB3.out.trans (hbz.mono HB3.out.size))
   clear hbz
   go_wp2
   go_ret
   exact ⟨rfl, HBz.out⟩
  | true =>
   rw [hf2] at HF2
   have Hf2 := hid hf2
   clear hf2
   refine HF2.out.mono ?_
   rintro e w3 ⟨rfl, hb3⟩
   have HB3 := hid (HB2.out.trans (hb3.mono HB2.out.size))
   have HQ3 := hid (HQ2.out.below hb3)
   clear hb3 HF2 x0 x1 x2 x3 x4 x5 x6 xlt
   obtain ⟨x0, x1, x2, x3, x4, x5, x6, xlt⟩ := HQ3.out
   have hal : Below w3.heap.size w3 (w3.alloc (ratO tr tn tcn td tcd 37)) := (Below.refl _ _).alloc (Nat.le_refl _) _
   have HRo : Hid (RatsAt (w3.alloc (ratO tr tn tcn td tcd 37)) (some ⟨w3.heap.size, 0, none⟩) [tr]) :=
    rats1_alloc HTc.out.1 HTc.out.2.1 (HTc.out.2.2.1.below HB3.out) (HTc.out.2.2.2.below HB3.out) 37
   have HB4 := hid (HB3.out.trans (hal.mono HB3.out.size))
   have HQ4 := hid (HQ3.out.below hal)
   have HLi := hid (kLittle 1 HRo.out (fun x hx => by simp at hx; subst hx; exact HTl.out))
   simp only [List.length_cons, List.length_nil] at HLi
   clear hal
   go_wp2_with fail
   generalize w3.alloc (ratO tr tn tcn td tcd 37) = w4 at *
   clear x0 x1 x2 x3 x4 x5 x6 xlt
   obtain ⟨x0, x1, x2, x3, x4, x5, x6, xlt⟩ := HQ4.out
   cases hf3 : littleL [tr] with
   | false =>
    rw [hf3] at HLi
    clear hf3
    refine HLi.out.mono ?_
    rintro e w5 ⟨rfl, hb5⟩
    have HB5 := hid (HB4.out.trans (hb5.mono HB4.out.size))
    clear hb5
    go_wp2_with fail
    refine (awake14 _).mono ?_
    rintro e wz ⟨rfl, hbz⟩
    have HBz := hid (HB5.out.trans (hbz.mono HB5.out.size))
    clear hbz
    go_wp2
    go_ret
    exact ⟨rfl, HBz.out⟩
   | true =>
    rw [hf3] at HLi
    have Hf3 := hid hf3
    clear hf3
    refine HLi.out.mono ?_
    rintro e w5 ⟨rfl, hb5⟩
    have HB5 := hid (HB4.out.trans (hb5.mono HB4.out.size))
    have HQ5 := hid (HQ4.out.below hb5)
    clear hb5 HLi HRo x0 x1 x2 x3 x4 x5 x6 xlt
    obtain ⟨x0, x1, x2, x3, x4, x5, x6, xlt⟩ := HQ5.out
    by_cases hxy : X.length = Y.length
    case neg =>
     have t1 : ((X.length : Int) != (Y.length : Int)) = true := by rw [bne_iff_ne]; omega
     go_wp2_with fail
     refine (awake14 _).mono ?_
     rintro e wz ⟨rfl, hbz⟩
     have HBz := hid (HB5.out.trans (hbz.mono HB5.out.size))
     clear hbz
     go_wp2
     go_ret
     exact ⟨rfl, HBz.out⟩
    have t1 : ((X.length : Int) != (Y.length : Int)) = false := by rw [hxy]; simp
    have HXY := hid hxy
    clear hxy
    go_wp2
    clear t1 x0 x1 x2 x3 x4 x5 x6 xlt
    go_loopw [3] (fun i wr => ∃ j : Nat, j <= m.layers.length /\ i = .int .i64 (j : Int) /\ Hid (∀ l ∈ m.layers.take j, affL l) /\ Hid (Below w5.heap.size w5 wr)) (fun i _ => m.layers.length - (intOf i).toNat)
    case atStart => exact ⟨0, Nat.zero_le _, rfl, by simp [Hid], Below.refl _ _⟩
    case round =>
     obtain ⟨j, hj, rfl, HA, HW⟩ := hrel
     have HBw := hid (HB5.out.trans (HW.out.mono HB5.out.size))
     obtain ⟨x0, x1, x2, x3, x4, x5, x6, xlt⟩ := HQ5.out.below HW.out
     by_cases hlt : j < m.layers.length
     ·obtain ⟨bl, ol, l, ha2, hbl, hl, b1, b2, d1, d2, ⟨l0, l1, l2, l3, l4, l5, l6, l7, l8⟩, r1, r2⟩ := (H2.out.below HBw.out).pick hlt
      have HT := hid (allA_take hl HA.out)
      subst ha2
      clear hl r1 r2 l1 l2 l3 l4 l5 l6 l7 l8
      by_cases k5 : l.kind = 5
      ·have t5 : (l.kind == 5) = true := by simp [k5]
       clear k5
       go_wp2
       go_ret
       exact ⟨rfl, HBw.out⟩
      ·have t5 : (l.kind == 5) = false := by rw [beq_eq_false_iff_ne]; exact k5
       by_cases k3 : l.kind = 3
       ·have t3 : (l.kind == 3) = true := by simp [k3]
        clear k3 k5
        go_wp2
        go_ret
        exact ⟨rfl, HBw.out⟩
       ·have t3 : (l.kind == 3) = false := by rw [beq_eq_false_iff_ne]; exact k3
        have HT2 := hid (HT.out ⟨k5, k3⟩)
        clear k3 k5
        go_wp2
        go_roundw
        case rel => exact ⟨j + 1, hlt, by go_num, HT2.out, HW.out⟩
        case measure => simp [intOf]; omega
     ·obtain rfl : j = m.layers.length := by omega
      have hA := HA.out
      rw [List.take_length] at hA
      have HP1 := fair_paid Hf1.out
      have HP2 := fair_paid Hf2.out
      have HLine := line_of Hf1.out Hf2.out Hf3.out
      have hg : (X.map ratOf).length = (Y.map ratOf).length := by rw [List.length_map, List.length_map, HXY.out]
      obtain ⟨er, her⟩ : ∃ er, er = (runL m (X.map ratOf)).2 := ⟨_, rfl⟩
      obtain ⟨u1, u2, u3⟩ := affine_run (t := ratOf tr) hA hg
      rw [<- her] at u1 u2 u3
      have hmn : (mixQ (ratOf tr) (X.map ratOf) (Y.map ratOf)).length = X.length := by rw [mix_len hg, List.length_map]
      have hXb : X.length <= 30 := HP1.xl
      obtain ⟨nx, hnx⟩ : ∃ nx, (runL m (X.map ratOf)).1.length = nx := ⟨_, rfl⟩
      obtain ⟨ny, hny⟩ : ∃ ny, (runL m (Y.map ratOf)).1.length = ny := ⟨_, rfl⟩
      obtain ⟨nm, hnm⟩ : ∃ nm, (runL m (mixQ (ratOf tr) (X.map ratOf) (Y.map ratOf))).1.length = nm := ⟨_, rfl⟩
      have HRx := hid ((evRunP c1 c2 cx (H1.out.below HBw.out) (H2.out.below HBw.out) HRg.out HSh.out (HX0.out.below HBw.out) HP1).mono (fun e w' h => run_e h hnx her.symm))
      have HRy : Hid (∀ W', Below wr.heap.size wr W' -> Calls Tryz.prog 17 #[.agg #[.slice a1 m.input.length c1, .slice a2 m.layers.length c2], .slice ay Y.length cy] W' (RunE W' (runL m (Y.map ratOf)).1 ny er)) := fun W' hb => by
       have hb2 := HBw.out.trans (hb.mono HBw.out.size)
       exact (evRunP c1 c2 cy (H1.out.below hb2) (H2.out.below hb2) HRg.out HSh.out (HY0.out.below hb2) HP2).mono (fun e w' h => run_e h hny u1.symm)
      have HRm : Hid (∀ W' am cm, Below wr.heap.size wr W' -> RatsAt W' am ((mixQ (ratOf tr) (X.map ratOf) (Y.map ratOf)).map ratL) -> Calls Tryz.prog 17 #[.agg #[.slice a1 m.input.length c1, .slice a2 m.layers.length c2], .slice am X.length cm] W' (RunE W' (runL m (mixQ (ratOf tr) (X.map ratOf) (Y.map ratOf))).1 nm er)) := fun W' am cm hb hM => by
       have hb2 := HBw.out.trans (hb.mono HBw.out.size)
       exact (evRunM c1 c2 cm (H1.out.below hb2) (H2.out.below hb2) HRg.out HSh.out HP1 HLine hM hmn (by omega)).mono (fun e w' h => run_e h hnm u2)
      have HMx : Hid (∀ W', Below wr.heap.size wr W' -> Calls Tryz.prog 18 #[.agg #[.bool tr.neg, .slice tn tr.num.length tcn, .slice td tr.den.length tcd], .slice ax X.length cx, .slice ay Y.length cy] W' (RowRet W' ((mixQ (ratOf tr) (X.map ratOf) (Y.map ratOf)).map ratL))) := fun W' hb => by
       have hb2 := HBw.out.trans (hb.mono HBw.out.size)
       have hX' := HX0.out.below hb2
       have hY' := HY0.out.below hb2
       rw [HLine.bx] at hX'
       rw [HLine.by'] at hY'
       have h := kMix (n := X.length) cx cy (HT0.out.below hb2) HLine.bt hX' hY' (List.length_map ..) (by rw [List.length_map, HXY.out]) (by omega) HLine.ok
       rw [HXY.out] at h ⊢
       exact h
      have HU3 := hid u3
      have HLn := hid HLine
      have HMn := hid hmn
      have Hnx := hid hnx
      have Hny := hid hny
      have Hnm := hid hnm
      have HQr := hid (HQ5.out.below HW.out)
      have HXb := hid hXb
      clear hA HP1 HP2 HLine hg her u1 u2 u3 hmn hnx hny hnm hXb hlt hj
      generalize hj2 : m.layers.length = nl at *
      clear hj2
      go_wp2_with fail
      refine HRx.out.mono ?_
      rintro e w6 ⟨aA, cA, rfl, hA6, hb6⟩
      have HB6 := hid (HBw.out.trans (hb6.mono HBw.out.size))
      have HR6 := hid hb6
      have HQ6 := hid (HQr.out.below hb6)
      have HA6 := hid hA6
      clear hA6 hb6 HRx x0 x1 x2 x3 x4 x5 x6 xlt
      obtain ⟨x0, x1, x2, x3, x4, x5, x6, xlt⟩ := HQ6.out
      go_wp2_with fail
      refine (HRy.out w6 HR6.out).mono ?_
      rintro e w7 ⟨aB, cB, rfl, hB7, hb7⟩
      have HB7 := hid (HB6.out.trans (hb7.mono HB6.out.size))
      have HR7 := hid (HR6.out.trans (hb7.mono HR6.out.size))
      have HQ7 := hid (HQ6.out.below hb7)
      have HA7 := hid (HA6.out.below hb7)
      have HBB7 := hid hB7
      clear hB7 hb7 HRy x0 x1 x2 x3 x4 x5 x6 xlt HA6
      have HCe : Hid (∀ W', Below w7.heap.size w7 W' -> Below wr.heap.size wr W' /\ Box7 W' w.heap.size (.slice a1 m.input.length c1) (.slice a2 nl c2) (.slice ax X.length cx) (.slice ay Y.length cy) (.bool tr.neg) (.slice tn tr.num.length tcn) (.slice td tr.den.length tcd)) := fun W' hb =>
       ⟨HR7.out.trans (hb.mono HR7.out.size), HQ7.out.below hb⟩
      go_upto_region 10 with fail
      go_cut [8, 9] (fun s8 s9 wx => ∃ a c, s8 = .slice a nm c /\ s9 = .int .i64 er /\ RatsAt wx a (runL m (mixQ (ratOf tr) (X.map ratOf) (Y.map ratOf))).1 /\ Below w7.heap.size w7 wx)
      case first =>
       refine wp_region_slots_all (by kernel_rfl) (by kernel_rfl) (by kernel_rfl) (AllJ w7 (AfG (fun i => match i with | 0 => .pointer (some ⟨w.heap.size, 0, none⟩) | 1 => .agg #[.slice a1 m.input.length c1, .slice a2 nl c2] | 2 => .pointer (some ⟨w.heap.size, 4, none⟩) | 3 => .agg #[.bool tr.neg, .slice tn tr.num.length tcn, .slice td tr.den.length tcd] | 4 => .pointer (some ⟨w.heap.size, 2, none⟩) | 5 => .slice ax X.length cx | 6 => .pointer (some ⟨w.heap.size, 3, none⟩) | 7 => .slice ay Y.length cy | _ => .bool false) ((mixQ (ratOf tr) (X.map ratOf) (Y.map ratOf)).map ratL) X.length (runL m (mixQ (ratOf tr) (X.map ratOf) (Y.map ratOf))) nm er)) (fun g => AllJ.start g) ?_ ?_
       ·intro ops
        simp only [ShowsJ]
        refine ⟨?_, ?_, ?_, ?_, ?_, ?_, ?_, ?_, ?_, ?_, ?_, ?_, ?_, ?_, ?_, trivial⟩
        all_goals (intro d g W hJ hd hW; obtain ⟨hBW, x0, x1, x2, x3, x4, x5, x6, xlt⟩ := HCe.out W hJ.be; simp only [Waits, Region.binds, forall_const, Bool.false_eq_true, false_implies, and_true, true_and] at hW)
        ·simp [fillFrom, Act.put]
         have HJ := hid hJ
         clear hJ hd hW
         go_wp2
         first | exact ⟨_, rfl, HJ.out.here (fun i v w w' h hb => AfG_below h hb) rfl⟩ | exact ⟨rfl, _, HJ.out.here (fun i v w w' h hb => AfG_below h hb) rfl⟩ | exact HJ.out.here (fun i v w w' h hb => AfG_below h hb) rfl
        ·have h0 : d 0 = true := by first | exact hW | exact hW.1 | exact hW.2 | exact hW.2.1 | exact hW.2.2 | exact hW.2.2.1 | exact hW.2.2.2 | exact hW.2.2.2.1 | exact hW.2.2.2.2
         have J0 := hJ.all 0 h0
         simp only [AfG] at J0
         simp [fillFrom, Act.put]
         generalize hg0 : g 0 = y0
         rw [hg0] at J0
         obtain rfl := J0
         have HJ := hid hJ
         clear hJ hd hW h0
         go_wp2
         first | exact ⟨_, rfl, HJ.out.here (fun i v w w' h hb => AfG_below h hb) rfl⟩ | exact ⟨rfl, _, HJ.out.here (fun i v w w' h hb => AfG_below h hb) rfl⟩ | exact HJ.out.here (fun i v w w' h hb => AfG_below h hb) rfl
        ·simp [fillFrom, Act.put]
         have HJ := hid hJ
         clear hJ hd hW
         go_wp2
         first | exact ⟨_, rfl, HJ.out.here (fun i v w w' h hb => AfG_below h hb) rfl⟩ | exact ⟨rfl, _, HJ.out.here (fun i v w w' h hb => AfG_below h hb) rfl⟩ | exact HJ.out.here (fun i v w w' h hb => AfG_below h hb) rfl
        ·have h2 : d 2 = true := by first | exact hW | exact hW.1 | exact hW.2 | exact hW.2.1 | exact hW.2.2 | exact hW.2.2.1 | exact hW.2.2.2 | exact hW.2.2.2.1 | exact hW.2.2.2.2
         have J2 := hJ.all 2 h2
         simp only [AfG] at J2
         simp [fillFrom, Act.put]
         generalize hg2 : g 2 = y2
         rw [hg2] at J2
         obtain rfl := J2
         have HJ := hid hJ
         clear hJ hd hW h2
         go_wp2
         first | exact ⟨_, rfl, HJ.out.here (fun i v w w' h hb => AfG_below h hb) rfl⟩ | exact ⟨rfl, _, HJ.out.here (fun i v w w' h hb => AfG_below h hb) rfl⟩ | exact HJ.out.here (fun i v w w' h hb => AfG_below h hb) rfl
        ·simp [fillFrom, Act.put]
         have HJ := hid hJ
         clear hJ hd hW
         go_wp2
         first | exact ⟨_, rfl, HJ.out.here (fun i v w w' h hb => AfG_below h hb) rfl⟩ | exact ⟨rfl, _, HJ.out.here (fun i v w w' h hb => AfG_below h hb) rfl⟩ | exact HJ.out.here (fun i v w w' h hb => AfG_below h hb) rfl
        ·have h4 : d 4 = true := by first | exact hW | exact hW.1 | exact hW.2 | exact hW.2.1 | exact hW.2.2 | exact hW.2.2.1 | exact hW.2.2.2 | exact hW.2.2.2.1 | exact hW.2.2.2.2
         have J4 := hJ.all 4 h4
         simp only [AfG] at J4
         simp [fillFrom, Act.put]
         generalize hg4 : g 4 = y4
         rw [hg4] at J4
         obtain rfl := J4
         have HJ := hid hJ
         clear hJ hd hW h4
         go_wp2
         first | exact ⟨_, rfl, HJ.out.here (fun i v w w' h hb => AfG_below h hb) rfl⟩ | exact ⟨rfl, _, HJ.out.here (fun i v w w' h hb => AfG_below h hb) rfl⟩ | exact HJ.out.here (fun i v w w' h hb => AfG_below h hb) rfl
        ·simp [fillFrom, Act.put]
         have HJ := hid hJ
         clear hJ hd hW
         go_wp2
         first | exact ⟨_, rfl, HJ.out.here (fun i v w w' h hb => AfG_below h hb) rfl⟩ | exact ⟨rfl, _, HJ.out.here (fun i v w w' h hb => AfG_below h hb) rfl⟩ | exact HJ.out.here (fun i v w w' h hb => AfG_below h hb) rfl
        ·have h6 : d 6 = true := by first | exact hW | exact hW.1 | exact hW.2 | exact hW.2.1 | exact hW.2.2 | exact hW.2.2.1 | exact hW.2.2.2 | exact hW.2.2.2.1 | exact hW.2.2.2.2
         have J6 := hJ.all 6 h6
         simp only [AfG] at J6
         simp [fillFrom, Act.put]
         generalize hg6 : g 6 = y6
         rw [hg6] at J6
         obtain rfl := J6
         have HJ := hid hJ
         clear hJ hd hW h6
         go_wp2
         first | exact ⟨_, rfl, HJ.out.here (fun i v w w' h hb => AfG_below h hb) rfl⟩ | exact ⟨rfl, _, HJ.out.here (fun i v w w' h hb => AfG_below h hb) rfl⟩ | exact HJ.out.here (fun i v w w' h hb => AfG_below h hb) rfl
        ·have h3 : d 3 = true := by first | exact hW | exact hW.1 | exact hW.2 | exact hW.2.1 | exact hW.2.2 | exact hW.2.2.1 | exact hW.2.2.2 | exact hW.2.2.2.1 | exact hW.2.2.2.2
         have h5 : d 5 = true := by first | exact hW | exact hW.1 | exact hW.2 | exact hW.2.1 | exact hW.2.2 | exact hW.2.2.1 | exact hW.2.2.2 | exact hW.2.2.2.1 | exact hW.2.2.2.2
         have h7 : d 7 = true := by first | exact hW | exact hW.1 | exact hW.2 | exact hW.2.1 | exact hW.2.2 | exact hW.2.2.1 | exact hW.2.2.2 | exact hW.2.2.2.1 | exact hW.2.2.2.2
         have J3 := hJ.all 3 h3
         have J5 := hJ.all 5 h5
         have J7 := hJ.all 7 h7
         simp only [AfG] at J3 J5 J7
         simp [fillFrom, Act.put]
         generalize hg3 : g 3 = y3
         rw [hg3] at J3
         generalize hg5 : g 5 = y5
         rw [hg5] at J5
         generalize hg7 : g 7 = y7
         rw [hg7] at J7
         obtain rfl := J3
         obtain rfl := J5
         obtain rfl := J7
         have HJ := hid hJ
         clear hJ hd hW h3 h5 h7
         have HCt := hid (HMx.out W hBW)
         go_wp2_with fail
         refine HCt.out.mono ?_
         rintro e w1 ⟨a', c', rfl, _, hI, kb⟩
         have KB := hid kb
         have HI := hid hI
         rw [List.length_map, HMn.out]
         clear hI
         clear kb HCt
         go_wp2
         first | exact ⟨_, rfl, HJ.out.step (fun i v w w' h hb => AfG_below h hb) KB.out ⟨_, _, rfl, HI.out⟩⟩ | exact HJ.out.step (fun i v w w' h hb => AfG_below h hb) KB.out ⟨_, _, rfl, HI.out⟩
        ·have h1 : d 1 = true := by first | exact hW | exact hW.1 | exact hW.2 | exact hW.2.1 | exact hW.2.2 | exact hW.2.2.1 | exact hW.2.2.2 | exact hW.2.2.2.1 | exact hW.2.2.2.2
         have h8 : d 8 = true := by first | exact hW | exact hW.1 | exact hW.2 | exact hW.2.1 | exact hW.2.2 | exact hW.2.2.1 | exact hW.2.2.2 | exact hW.2.2.2.1 | exact hW.2.2.2.2
         have J1 := hJ.all 1 h1
         have J8 := hJ.all 8 h8
         simp only [AfG] at J1 J8
         simp [fillFrom, Act.put]
         generalize hg1 : g 1 = y1
         rw [hg1] at J1
         generalize hg8 : g 8 = y8
         rw [hg8] at J8
         obtain rfl := J1
         obtain ⟨a8, c8, rfl, H8⟩ := J8
         have HJ := hid hJ
         clear hJ hd hW h1 h8
         have HCt := hid (HRm.out W a8 c8 hBW H8)
         go_wp2_with fail
         refine HCt.out.mono ?_
         rintro e w1 ⟨a', c', rfl, hI, kb⟩
         have KB := hid kb
         have HI := hid hI
         clear hI H8
         clear kb HCt
         go_wp2
         first | exact ⟨_, rfl, HJ.out.step (fun i v w w' h hb => AfG_below h hb) KB.out ⟨_, _, rfl, HI.out⟩⟩ | exact HJ.out.step (fun i v w w' h hb => AfG_below h hb) KB.out ⟨_, _, rfl, HI.out⟩
        ·have h9 : d 9 = true := by first | exact hW | exact hW.1 | exact hW.2 | exact hW.2.1 | exact hW.2.2 | exact hW.2.2.1 | exact hW.2.2.2 | exact hW.2.2.2.1 | exact hW.2.2.2.2
         have J9 := hJ.all 9 h9
         simp only [AfG] at J9
         simp [fillFrom, Act.put]
         generalize hg9 : g 9 = y9
         rw [hg9] at J9
         obtain ⟨a9, c9, rfl, H9⟩ := J9
         have HJ := hid hJ
         clear hJ hd hW h9
         have K9 := hid H9
         clear H9
         go_wp2
         first | exact ⟨_, rfl, HJ.out.here (fun i v w w' h hb => AfG_below h hb) ⟨_, _, rfl, K9.out⟩⟩ | exact ⟨rfl, _, HJ.out.here (fun i v w w' h hb => AfG_below h hb) ⟨_, _, rfl, K9.out⟩⟩ | exact HJ.out.here (fun i v w w' h hb => AfG_below h hb) ⟨_, _, rfl, K9.out⟩
        ·have h10 : d 10 = true := by first | exact hW | exact hW.1 | exact hW.2 | exact hW.2.1 | exact hW.2.2 | exact hW.2.2.1 | exact hW.2.2.2 | exact hW.2.2.2.1 | exact hW.2.2.2.2
         have J10 := hJ.all 10 h10
         simp only [AfG] at J10
         simp [fillFrom, Act.put]
         generalize hg10 : g 10 = y10
         rw [hg10] at J10
         obtain ⟨a10, c10, rfl, H10⟩ := J10
         have HJ := hid hJ
         clear hJ hd hW h10
         have K10 := hid H10
         clear H10
         go_wp2
         first | exact ⟨_, rfl, HJ.out.here (fun i v w w' h hb => AfG_below h hb) ⟨_, _, rfl, K10.out⟩⟩ | exact ⟨rfl, _, HJ.out.here (fun i v w w' h hb => AfG_below h hb) ⟨_, _, rfl, K10.out⟩⟩ | exact HJ.out.here (fun i v w w' h hb => AfG_below h hb) ⟨_, _, rfl, K10.out⟩
        ·have h10 : d 10 = true := by first | exact hW | exact hW.1 | exact hW.2 | exact hW.2.1 | exact hW.2.2 | exact hW.2.2.1 | exact hW.2.2.2 | exact hW.2.2.2.1 | exact hW.2.2.2.2
         have J10 := hJ.all 10 h10
         simp only [AfG] at J10
         simp [fillFrom, Act.put]
         generalize hg10 : g 10 = y10
         rw [hg10] at J10
         obtain ⟨a10, c10, rfl, H10⟩ := J10
         have HJ := hid hJ
         clear hJ hd hW h10
         clear H10
         go_wp2
         first | exact ⟨_, rfl, HJ.out.here (fun i v w w' h hb => AfG_below h hb) rfl⟩ | exact ⟨rfl, _, HJ.out.here (fun i v w w' h hb => AfG_below h hb) rfl⟩ | exact HJ.out.here (fun i v w w' h hb => AfG_below h hb) rfl
        ·have h11 : d 11 = true := by first | exact hW | exact hW.1 | exact hW.2 | exact hW.2.1 | exact hW.2.2 | exact hW.2.2.1 | exact hW.2.2.2 | exact hW.2.2.2.1 | exact hW.2.2.2.2
         have J11 := hJ.all 11 h11
         simp only [AfG] at J11
         simp [fillFrom, Act.put]
         generalize hg11 : g 11 = y11
         rw [hg11] at J11
         obtain ⟨a11, c11, rfl, H11⟩ := J11
         have HJ := hid hJ
         clear hJ hd hW h11
         have K11 := hid H11
         clear H11
         go_wp2
         first | exact ⟨_, rfl, HJ.out.here (fun i v w w' h hb => AfG_below h hb) ⟨_, _, rfl, K11.out⟩⟩ | exact ⟨rfl, _, HJ.out.here (fun i v w w' h hb => AfG_below h hb) ⟨_, _, rfl, K11.out⟩⟩ | exact HJ.out.here (fun i v w w' h hb => AfG_below h hb) ⟨_, _, rfl, K11.out⟩
        ·have h12 : d 12 = true := by first | exact hW | exact hW.1 | exact hW.2 | exact hW.2.1 | exact hW.2.2 | exact hW.2.2.1 | exact hW.2.2.2 | exact hW.2.2.2.1 | exact hW.2.2.2.2
         have J12 := hJ.all 12 h12
         simp only [AfG] at J12
         simp [fillFrom, Act.put]
         generalize hg12 : g 12 = y12
         rw [hg12] at J12
         obtain rfl := J12
         have HJ := hid hJ
         clear hJ hd hW h12
         go_wp2
         first | exact ⟨_, rfl, HJ.out.here (fun i v w w' h hb => AfG_below h hb) rfl⟩ | exact ⟨rfl, _, HJ.out.here (fun i v w w' h hb => AfG_below h hb) rfl⟩ | exact HJ.out.here (fun i v w w' h hb => AfG_below h hb) rfl
       ·intro d g W hA hJ
        have J13 := hJ.all 13 (hA 13 (by decide))
        have J14 := hJ.all 14 (hA 14 (by decide))
        have HBe := hid hJ.be
        simp only [AfG] at J13 J14
        simp [fillFrom, Act.put]
        generalize g 13 = y13 at J13 ⊢
        generalize g 14 = y14 at J14 ⊢
        obtain ⟨a9, c9, rfl, H9⟩ := J13
        obtain rfl := J14
        clear hJ hA
        have K9 := hid H9
        clear H9
        go_wp2
        go_meet
        exact ⟨_, _, rfl, rfl, K9.out, HBe.out⟩
      case rest =>
       obtain ⟨aM, cM, rfl, rfl, hM, hb8⟩ := hcut
       have HB8 := hid (HB7.out.trans (hb8.mono HB7.out.size))
       have HQ8 := hid (HQ7.out.below hb8)
       have HA8 := hid (HA7.out.below hb8)
       have HBB8 := hid (HBB7.out.below hb8)
       have HM8 := hid hM
       clear hM hb8 HA7 HBB7 HCe HRm HMx
       by_cases he : er = 0
       ·subst he
        obtain ⟨a, b, ea, eb, r1, r2, r3, hab, g0, gx⟩ := HU3.out rfl
        rw [List.length_map] at gx
        obtain ⟨hok, hal⟩ := HLn.out.out g0 gx (by rw [<- HXY.out]; exact gx) a b ea eb
        have hA8 := HA8.out
        have hB8 := HBB8.out
        have hM8 := HM8.out
        have e1 := Hnx.out
        have e2 := Hny.out
        have e3 := Hnm.out
        rw [r1] at hA8 e1
        rw [r2] at hB8 e2
        rw [r3] at hM8 e3
        simp only [List.length_map] at hA8 hB8 hM8 e1 e2 e3
        rw [mix_len hab] at e3
        subst e1
        obtain rfl : a.length = ny := by rw [hab]; exact e2
        obtain rfl : a.length = nm := e3
        have HMx2 := hid (kMix (n := a.length) cA cB (HT0.out.below HB8.out) HLn.out.bt hA8 hB8 rfl hab.symm (by omega) hok)
        have HMl : Hid (((mixQ (ratOf tr) a b).map ratL).length = a.length) := by unfold Hid; rw [List.length_map, mix_len hab]
        have HM9 := hid hM8
        obtain ⟨x0, x1, x2, x3, x4, x5, x6, xlt⟩ := HQ8.out
        have HLnb := hid hal
        obtain ⟨na, hna⟩ : ∃ na, na = a.length := ⟨_, rfl⟩
        rw [<- hna] at HMx2 HMl ⊢
        clear ea eb r1 r2 r3 hok hal hA8 hB8 hM8 e2 g0 gx HA8 HBB8 HM8 HU3 HLn Hnx Hny Hnm hab hna
        go_wp2_with fail
        refine HMx2.out.mono ?_
        rintro e w9 ⟨aN, cN, rfl, _, hN, hb9⟩
        have HB9 := hid (HB8.out.trans (hb9.mono HB8.out.size))
        have HRs := r12Rats cM cN (HM9.out.below hb9) hN
        rw [decide_eq_true rfl, HMl.out] at HRs
        have HRs := hid HRs
        rw [HMl.out]
        clear hN hb9 x0 x1 x2 x3 x4 x5 x6 xlt
        go_wp2_with fail
        refine HRs.out.mono ?_
        rintro e w10 ⟨rfl, hb10⟩
        have HB10 := hid (HB9.out.trans (hb10.mono HB9.out.size))
        clear hb10
        go_wp2
        go_ret
        exact ⟨rfl, HB10.out⟩
       ·have t1 : (er != 0) = true := by rw [bne_iff_ne]; exact he
        clear he
        go_wp2
        go_ret
        exact ⟨rfl, HB8.out⟩
end Go.Proofs.YtoppijdedkdjeaaGreat
