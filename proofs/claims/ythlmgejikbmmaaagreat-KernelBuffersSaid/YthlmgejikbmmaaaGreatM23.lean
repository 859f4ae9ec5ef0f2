/-
  Contracts of the functions that the statements reach, in the order in which they are built: RKG.
-/
import Derived.Test.YthlmgejikbmmaaaGreatM16
import Derived.Test.YthlmgejikbmmaaaGreatM20
import Derived.Test.YthlmgejikbmmaaaGreatM21
import Derived.Test.YthlmgejikbmmaaaGreatM22
import Derived.Test.YthlmgejikbmmaaaGreatM4
set_option linter.unusedVariables false
set_option linter.unusedSimpArgs false
set_option linter.constructorNameAsVariable false
set_option linter.deprecated false

/-
  The reference's Valid of layer 54: by contract.
-/
namespace Go.Proofs.YthlmgejikbmmaaaGreat
open Go.RowKit

/-- A block of truth values, known whole. -/
def rowB (l : List Bool) : Array Value := (l.map Value.bool).toArray
def BBlk (w : World) (g : Nat) (l : List Bool) : Prop := ∃ T, w.heap[g]? = some (.cells (rowB l) T (0, 0))
theorem BBlk.lt {w : World} {g : Nat} {l : List Bool} (h : BBlk w g l) : g < w.heap.size := let ⟨_, h1⟩ := h; (Array.getElem?_eq_some_iff.1 h1).1
theorem BBlk.cell {w : World} {g : Nat} {l : List Bool} (h : BBlk w g l) {x : Nat} {b : Bool} (hx : l[x]? = some b) : w.cell? ⟨g, x, none⟩ = some (.bool b) := by
  obtain ⟨T, h⟩ := h
  simp [World.cell?, h, rowB, hx]
theorem BBlk.free {w : World} {g : Nat} {l : List Bool} (h : BBlk w g l) (x : Nat) : w.frozen? ⟨g, x, none⟩ = false := by
  obtain ⟨T, h⟩ := h
  simp [World.frozen?, h]
theorem BBlk.set {w : World} {g : Nat} {l : List Bool} (h : BBlk w g l) (x : Nat) (v : Bool) : BBlk (w.setCell ⟨g, x, none⟩ (.bool v)) g (l.set x v) := by
  obtain ⟨T, h⟩ := h
  refine ⟨T, ?_⟩
  have e : rowB (l.set x v) = (rowB l).setIfInBounds x (.bool v) := by
    unfold rowB
    rw [List.setIfInBounds_toArray, List.map_set]
  rw [e]
  simp [World.setCell, Array.getElem?_modify, h]
theorem BBlk.below {w w' : World} {g : Nat} {l : List Bool} (h : BBlk w g l) (hb : Below w.heap.size w w') : BBlk w' g l := by
  have hlt := h.lt
  obtain ⟨T, h⟩ := h
  exact ⟨T, (hb.block g hlt).trans h⟩
theorem madeCells_false (n : Nat) : madeCells #[.bool false] n = rowB (List.replicate n false) := by
  apply Array.ext
  · simp [madeCells, rowB]
  · intro i h1 h2
    simp [madeCells, rowB, Nat.mod_one]
theorem BBlk.made (w : World) (n T : Nat) : BBlk (w.alloc (.cells (madeCells #[.bool false] n) T)) w.heap.size (List.replicate n false) := by
  refine ⟨T, ?_⟩
  show (w.heap.push _)[w.heap.size]? = _
  rw [Array.getElem?_push, if_pos rfl, madeCells_false]
theorem Tryz.infoBool : (Tryz.prog.info? 4).map (fun i => (i.zero, i.size, i.bytes)) = some (some (.bool false), 1, 1) := by kernel_rfl
theorem mkBools (n : Nat) (hn : n ≤ 1000000) (w : World) : (Instr.makeSlice 54 (.int .i64 (n : Int)) (.int .i64 (n : Int))).run Tryz.prog w = .ok (.slice (some ⟨w.heap.size, 0, none⟩) n n) (w.alloc (.cells (madeCells #[.bool false] n) 4)) := by
  obtain ⟨i0, hi0, hz0, hz1, hz2⟩ := info_parts Tryz.infoBool
  have h := run_makeSlice (P := Tryz.prog) (w := w) 54 4 i0 (.bool false) Tryz.underlying54 hi0 hz0 .i64 .i64 (n : Int) (n : Int) (by omega) (Int.le_refl _) (by rw [hz1, Int.toNat_natCast]; omega) (by rw [hz2]; omega) (by omega)
  rw [hz1, Int.toNat_natCast, Nat.mul_one] at h
  exact h

theorem BBlk.made1 (w : World) (n T : Nat) : BBlk (w.alloc (.cells ((madeCells #[.bool false] n).setIfInBounds 0 (.bool true)) T)) w.heap.size ((List.replicate n false).set 0 true) := by
  refine ⟨T, ?_⟩
  show (w.heap.push _)[w.heap.size]? = _
  rw [Array.getElem?_push, if_pos rfl, madeCells_false]
  unfold rowB
  rw [List.setIfInBounds_toArray, List.map_set]
def cmpOK (p : RatL × RatL) : Bool := !decide (0 < cmpQ (ratOf p.1) (ratOf p.2))
def signOK (e : RatL) : Bool := !decide (signQ (ratOf e) < 0)
theorem bounds_ref {k : KerL} (h1 : (k.lo.length : Int) = k.sizes.getD 0 0) (h2 : (k.hi.length : Int) = k.sizes.getD 0 0) (h3 : (k.err.length : Int) = k.sizes.getD k.output.toNat 0) :
    boundsL k = ((k.lo.zip k.hi).all cmpOK && (k.err.all signOK && (k.lo.all validR && (k.hi.all validR && k.err.all validR)))) := by
  unfold boundsL
  rw [decide_eq_true ⟨h1, h2, h3⟩, Bool.true_and, Bool.eq_iff_iff]
  have hl : k.lo.length = k.hi.length := by omega
  simp only [Bool.and_eq_true, List.all_eq_true, pairOK_eq, errOK_eq]
  constructor
  · rintro ⟨g1, g2⟩
    refine ⟨fun p hp => (g1 p hp).2.2, fun e he => (g2 e he).2, fun x hx => ?_, fun x hx => ?_, fun e he => (g2 e he).1⟩
    · obtain ⟨i, hi⟩ := List.getElem?_of_mem hx
      have hil := (List.getElem?_eq_some_iff.1 hi).1
      exact (g1 (x, k.hi[i]'(by omega)) (zip_mem hi (List.getElem?_eq_getElem (by omega)))).1
    · obtain ⟨i, hi⟩ := List.getElem?_of_mem hx
      have hil := (List.getElem?_eq_some_iff.1 hi).1
      exact (g1 (k.lo[i]'(by omega), x) (zip_mem (List.getElem?_eq_getElem (by omega)) hi)).2.1
  · rintro ⟨g1, g2, g3, g4, g5⟩
    exact ⟨fun p hp => ⟨g3 _ (List.of_mem_zip hp).1, g4 _ (List.of_mem_zip hp).2, g1 p hp⟩, fun e he => ⟨g5 e he, g2 e he⟩⟩

theorem validK_need {k : KerL} (h : validK k = true) : wthn k.sizes.length 1 1024 = true ∧ k.ops.length ≤ 1024 ∧ wthn k.inShift 0 62 = true ∧ wthn k.outShift 0 62 = true ∧ k.sizes.all (fun n => wthn n 1 262144) = true := by
  obtain ⟨h1, h2, h3, S, h4, h5⟩ := validK_parts h
  unfold tailOK at h5
  simp only [Bool.and_eq_true] at h5
  exact ⟨h1, h2, h5.2.1, h5.2.2.1, h3⟩
theorem not_valid {k : KerL} (h : validK k = true → False) : validK k = false := by rw [← Bool.not_eq_true]; exact h

set_option maxRecDepth 100000 in
set_option maxHeartbeats 6400000 in
theorem xValid {w : World} {v : Value} {k : KerL} (hv : KerV w v k) (hwf : k.WF) (hs1 : ∀ x ∈ k.lo, RatLe x 4) (hs2 : ∀ x ∈ k.hi, RatLe x 4) (hs3 : ∀ x ∈ k.err, RatLe x 4) :
    Calls Tryz.prog 13 #[v] w fun e w' => e = .returned (.bool (validK k)) ∧ Below w.heap.size w w' := by
  have HKV := Lib.hid hv
  obtain ⟨a1, a2, a3, a4, a5, c1, c2, c3, c4, c5, rfl, H1, H2, H3, H4, H5⟩ := hv.ex
  have HN := Lib.hid (validK_need (k := k))
  have HWF := Lib.hid hwf
  have HS1 := Lib.hid hs1
  have HS2 := Lib.hid hs2
  have HS3 := Lib.hid hs3
  have HR : Hid (validK k = validK k) := rfl
  generalize hvk : validK k = R at HN HR ⊢
  have HVK := Lib.hid hvk
  have q1 := H1.len
  have q2 := H2.len
  have q3 := H3.len
  have q4 := H4.len
  have q5 := H5.len
  have hnotr : Hid ((R = true → False) → R = false) := fun h => by rw [← Bool.not_eq_true]; exact h
  clear hv hwf hs1 hs2 hs3 H1 H2 H3 H4 H5 hvk HR
  go_enter Tryz.func13, Tryz.ntmps13
  go_upto_region 1 with fail
  have hbx := Box8.alloc w (.slice a1 k.sizes.length c1) (.slice a2 k.ops.length c2) (.int .i64 k.output) (.int .i64 k.inShift) (.int .i64 k.outShift) (.slice a3 k.lo.length c3) (.slice a4 k.hi.length c4) (.slice a5 k.err.length c5) 26
  have hb1 : Below w.heap.size w (w.alloc (.cells #[.slice a1 k.sizes.length c1, .slice a2 k.ops.length c2, .int .i64 k.output, .int .i64 k.inShift, .int .i64 k.outShift, .slice a3 k.lo.length c3, .slice a4 k.hi.length c4, .slice a5 k.err.length c5] 26)) := (Below.refl _ w).alloc (Nat.le_refl _) _
  generalize w.alloc (.cells #[.slice a1 k.sizes.length c1, .slice a2 k.ops.length c2, .int .i64 k.output, .int .i64 k.inShift, .int .i64 k.outShift, .slice a3 k.lo.length c3, .slice a4 k.hi.length c4, .slice a5 k.err.length c5] 26) = W at *
  have HBx := Lib.hid hbx
  have HB1 := Lib.hid hb1
  have HK := Lib.hid (HKV.out.below hb1)
  obtain ⟨x0, x1, x2, x3, x4, x5, x6, x7, xlt⟩ := hbx
  have K1 := Lib.hid (fun wv => xWithin k.sizes.length 1 1024 wv)
  have K3 := Lib.hid (fun wv => xWithin k.inShift 0 62 wv)
  have K4 := Lib.hid (fun wv => xWithin k.outShift 0 62 wv)
  clear hb1 HKV
  by_cases g1 : wthn k.sizes.length 1 1024 = true
  · rw [g1] at K1
    obtain ⟨g1a, g1b⟩ := wthn_iff.1 g1
    have HG1 := Lib.hid g1
    clear g1
    by_cases g2 : k.ops.length ≤ 1024
    · have d2 : decide (1024 < (k.ops.length : Int)) = false := decide_eq_false (by omega)
      by_cases g3 : wthn k.inShift 0 62 = true
      · rw [g3] at K3
        have HG3 := Lib.hid g3
        clear g3
        by_cases g4 : wthn k.outShift 0 62 = true
        · rw [g4] at K4
          have HG4 := Lib.hid g4
          clear g4
          go_upto_region 3 with (go_at_call 19; first | ((with_reducible refine (K1.out _).mono ?_); rintro e w' ⟨rfl, rfl⟩) | ((with_reducible refine (K3.out _).mono ?_); rintro e w' ⟨rfl, rfl⟩) | ((with_reducible refine (K4.out _).mono ?_); rintro e w' ⟨rfl, rfl⟩))
          clear K1 K3 K4
          obtain ⟨b1, b2, b3, b4, b5, e1, e2, e3, e4, e5, ee, I1, I2, I3, I4, I5⟩ := HK.out.ex
          cases ee
          have J1 := Lib.hid I1
          have J2 := Lib.hid I2
          have J3 := Lib.hid I3
          have J4 := Lib.hid I4
          have J5 := Lib.hid I5
          clear I1 I2 I3 I4 I5
          go_wp2
          go_loop [3] (fun i => ∃ j : Nat, j ≤ k.sizes.length ∧ i = .int .i64 (j : Int) ∧ Hid ((k.sizes.take j).all (fun n => wthn n 1 262144) = true)) (fun i => k.sizes.length - (intOf i).toNat)
          case atStart => exact ⟨0, Nat.zero_le _, rfl, rfl⟩
          case round =>
            obtain ⟨j, hj, rfl, HA⟩ := hrel
            by_cases hlt : j < k.sizes.length
            · obtain ⟨b, off, x, rfl, hcell, hx, _, _, _⟩ := J1.out.pick hlt
              have HT := Lib.hid (take_succ_at hx)
              have HM := Lib.hid (List.mem_of_getElem? hx)
              have KX := Lib.hid (fun wv => xWithin x 1 262144 wv)
              clear hx
              by_cases hw : wthn x 1 262144 = true
              · rw [hw] at KX
                have HA2 : Hid ((k.sizes.take (j + 1)).all (fun n => wthn n 1 262144) = true) := by unfold Hid; rw [HT.out, List.all_append, HA.out]; simp [hw]
                clear hw
                go_wp2_with fail
                refine (KX.out _).mono ?_
                rintro e w' ⟨rfl, rfl⟩
                go_wp2
                go_round
                case rel => exact ⟨j + 1, hlt, by go_num, HA2.out⟩
                case measure => simp [intOf]; omega
              · have hw' : wthn x 1 262144 = false := by rw [← Bool.not_eq_true]; exact hw
                rw [hw'] at KX
                have HF := Lib.hid (hnotr.out (fun h => hw (List.all_eq_true.1 (HN.out h).2.2.2.2 x HM.out)))
                clear hw hw'
                go_wp2_with fail
                refine (KX.out _).mono ?_
                rintro e w' ⟨rfl, rfl⟩
                go_wp2
                go_ret
                exact ⟨ret_bool HF.out.symm, HB1.out⟩
            · obtain rfl : j = k.sizes.length := by omega
              have HAll : Hid (k.sizes.all (fun n => wthn n 1 262144) = true) := by
                have h := HA.out
                rw [List.take_of_length_le (by omega)] at h
                exact h
              have HTail : Hid (∀ S, opsRun k.sizes k.ops = some S → R = tailOK k S) := fun S hS => by rw [← HVK.out]; exact validK_tail HG1.out g2 HAll.out hS
              have HStop : Hid (∀ (S : Int → Bool) (j : Nat) (o : OpL), opsRun k.sizes (k.ops.take j) = some S → k.ops[j]? = some o → opOK k.sizes S o = false → R = false) := fun S j o h1 h2 h3 => by rw [← HVK.out]; exact validK_stop h1 h2 h3
              have hmk := mkBools k.sizes.length (by omega)
              have hpos : 0 < k.sizes.length := by omega
              clear HA hj HN HVK hnotr
              go_upto_region 9 with fail
              have HM1 := Lib.hid (BBlk.made1 W k.sizes.length 4)
              have HB2 : Hid (Below W.heap.size W (W.alloc (.cells ((madeCells #[.bool false] k.sizes.length).setIfInBounds 0 (.bool true)) 4))) := (Below.refl _ _).alloc (Nat.le_refl _) _
              have HB3 : Hid (Below W.heap.size W (W.alloc (.cells (madeCells #[.bool false] k.sizes.length) 4))) := (Below.refl _ _).alloc (Nat.le_refl _) _
              have hM := BBlk.made W k.sizes.length 4
              have hM0 : (W.alloc (.cells (madeCells #[.bool false] k.sizes.length) 4)).cell? ⟨W.heap.size, 0, none⟩ = some (.bool false) := hM.cell (by simp [hpos])
              have hMf := hM.free 0
              have hMlt := hM.lt
              clear hM
              go_upto_region 10 with fail
              clear hM0 hMf hMlt HB3 hmk x0 x1 x2 x3 x4 x5 x6 x7
              generalize hMB : W.alloc (.cells ((madeCells #[.bool false] k.sizes.length).setIfInBounds 0 (.bool true)) 4) = W1 at *
              clear hMB
              obtain ⟨y0, y1, y2, y3, y4, y5, y6, y7, ylt⟩ := HBx.out.below HB2.out
              go_wp2
              go_loopw [5] (fun i wr => ∃ (j : Nat) (S : Int → Bool) (Wr : List Bool), j ≤ k.ops.length ∧ i = .int .i64 (j : Int) ∧ Hid (opsRun k.sizes (k.ops.take j) = some S) ∧ Hid (Wrt k.sizes S Wr) ∧ Hid (BBlk wr W.heap.size Wr) ∧ Hid (Below W.heap.size W wr)) (fun i _ => k.ops.length - (intOf i).toNat)
              case atStart => exact ⟨0, _, _, Nat.zero_le _, rfl, rfl, Wrt.start hpos, HM1.out, HB2.out⟩
              case round =>
                clear HM1 HB2 y0 y1 y2 y3 y4 y5 y6 y7 ylt
                obtain ⟨j, S, Wr, hj, rfl, HRun, HWrt, HBl, hb⟩ := hrel
                obtain ⟨y0, y1, y2, y3, y4, y5, y6, y7, ylt⟩ := HBx.out.below hb
                by_cases hlt : j < k.ops.length
                · obtain ⟨bo, oo, x, o1, o2, o3, d1', d2', d3', rfl, hbo, hx, ⟨l0, l1, l2, l3, l4, l5, l6, l7, l8, l9, l10⟩, hov⟩ := (J2.out.below hb).pick hlt
                  have HX := Lib.hid hx
                  have HBad : Hid (refOp k.sizes S x = false → R = false) := fun h => HStop.out S j x HRun.out HX.out (by rw [← refOp_eq HWrt.out hpos]; exact h)
                  have HNext : Hid (refOp k.sizes S x = true → opsRun k.sizes (k.ops.take (j + 1)) = some (putS S x.dst)) := fun h => opsRun_next HRun.out HX.out (by rw [← refOp_eq HWrt.out hpos]; exact h)
                  obtain ⟨wf1, wf2, wf3, wf4⟩ := HWF.out.ops x (List.mem_of_getElem? hx)
                  go_upto_region 14 with fail
                  have hbA : Below wr.heap.size wr (wr.alloc (.cells #[.int .i64 x.kind, .int .i64 x.dst, .int .i64 x.src, .int .i64 x.other, .int .i64 x.cols, .int .i64 x.inner, .slice o1 x.index.length d1', .slice o2 x.weights.length d2', .slice o3 x.bias.length d3', .int .i64 x.mul, .int .i64 x.shift] 40)) := (Below.refl _ _).alloc (Nat.le_refl _) _
                  have hbx11 := Box11.alloc wr (.int .i64 x.kind) (.int .i64 x.dst) (.int .i64 x.src) (.int .i64 x.other) (.int .i64 x.cols) (.int .i64 x.inner) (.slice o1 x.index.length d1') (.slice o2 x.weights.length d2') (.slice o3 x.bias.length d3') (.int .i64 x.mul) (.int .i64 x.shift) 40
                  have HBW := Lib.hid (hb.trans (hbA.mono hb.size))
                  have HBA := Lib.hid (HB1.out.trans (HBW.out.mono HB1.out.size))
                  have HOv := Lib.hid (hov.below hbA)
                  have HBlA := Lib.hid (HBl.out.below hbA)
                  clear y0 y1 y2 y3 y4 y5 y6 y7 ylt l0 l1 l2 l3 l4 l5 l6 l7 l8 l9 l10 hov hb hbA hx HBl
                  generalize hgr : wr.heap.size = gx at *
                  generalize wr.alloc (.cells #[.int .i64 x.kind, .int .i64 x.dst, .int .i64 x.src, .int .i64 x.other, .int .i64 x.cols, .int .i64 x.inner, .slice o1 x.index.length d1', .slice o2 x.weights.length d2', .slice o3 x.bias.length d3', .int .i64 x.mul, .int .i64 x.shift] 40) = wA at *
                  clear hgr
                  have HX11 := Lib.hid hbx11
                  obtain ⟨l0, l1, l2, l3, l4, l5, l6, l7, l8, l9, l10, llt⟩ := hbx11
                  obtain ⟨y0, y1, y2, y3, y4, y5, y6, y7, ylt⟩ := HBx.out.below HBW.out
                  have KD := Lib.hid (fun wv => xWithin x.dst 1 ((k.sizes.length : Int) - 1) wv)
                  have KS := Lib.hid (fun wv => xWithin x.src 0 ((k.sizes.length : Int) - 1) wv)
                  have KO := Lib.hid (fun wv => xWithin x.other 0 ((k.sizes.length : Int) - 1) wv)
                  by_cases p1 : wthn x.dst 1 ((k.sizes.length : Int) - 1) = true
                  · rw [p1] at KD
                    obtain ⟨da, db⟩ := wthn_iff.1 p1
                    obtain ⟨d, hd⟩ : ∃ d : Nat, x.dst = (d : Int) := ⟨x.dst.toNat, by omega⟩
                    have hdl : d < k.sizes.length := by omega
                    have cD := HBlA.out.cell (HWrt.out.at_ d hdl)
                    rw [hd] at l1 KD
                    by_cases p2 : S x.dst = true
                    · rw [← hd, p2] at cD
                      have HF := Lib.hid (HBad.out (by unfold refOp; rw [p1, p2]; rfl))
                      go_wp2_with (go_at_call 19; first | ((with_reducible refine (KD.out _).mono ?_); rintro e w' ⟨rfl, rfl⟩) | ((with_reducible refine (KS.out _).mono ?_); rintro e w' ⟨rfl, rfl⟩) | ((with_reducible refine (KO.out _).mono ?_); rintro e w' ⟨rfl, rfl⟩))
                      go_ret
                      exact ⟨ret_bool HF.out.symm, HBA.out⟩
                    · rw [Bool.not_eq_true] at p2
                      rw [← hd, p2] at cD
                      by_cases p3 : wthn x.src 0 ((k.sizes.length : Int) - 1) = true
                      · rw [p3] at KS
                        obtain ⟨sa, sb⟩ := wthn_iff.1 p3
                        obtain ⟨s, hs⟩ : ∃ s : Nat, x.src = (s : Int) := ⟨x.src.toNat, by omega⟩
                        have hsl : s < k.sizes.length := by omega
                        have cS := HBlA.out.cell (HWrt.out.at_ s hsl)
                        rw [hs] at l2 KS
                        by_cases p4 : S x.src = true
                        · rw [← hs, p4] at cS
                          by_cases p5 : wthn x.other 0 ((k.sizes.length : Int) - 1) = true
                          · rw [p5] at KO
                            obtain ⟨oa, ob⟩ := wthn_iff.1 p5
                            obtain ⟨o, ho⟩ : ∃ o : Nat, x.other = (o : Int) := ⟨x.other.toNat, by omega⟩
                            have hol : o < k.sizes.length := by omega
                            have cO := HBlA.out.cell (HWrt.out.at_ o hol)
                            rw [ho] at l3 KO
                            by_cases p6 : x.kind = 6
                            · have t6 : (x.kind == 6) = true := by rw [beq_iff_eq]; exact p6
                              by_cases p7 : S x.other = true
                              · rw [← ho, p7] at cO
                                have HRef : Hid (refOp k.sizes S x = fitsL x (k.sizes.getD d 0) (k.sizes.getD s 0) (k.sizes.getD o 0)) := by
                                  unfold Hid refOp
                                  rw [p1, p2, p3, p4, p5, p7]
                                  simp only [Bool.true_and, Bool.not_false, Bool.or_true, Bool.true_or, Bool.not_true, Bool.false_or, decide_true, decide_false]
                                  rw [hd, hs, ho]
                                  simp only [Int.toNat_natCast]
                                rw [HRef.out] at HBad HNext
                                clear p6
                                have hSz := HAll.out
                                have rd := sizes_range hSz (d : Int) (by omega) (by omega)
                                have rs := sizes_range hSz (s : Int) (by omega) (by omega)
                                rw [Int.toNat_natCast] at rd rs
                                obtain ⟨bz, oz, rfl, _, hbz, hcz⟩ := (J1.out.below HBW.out).cells hdl
                                have zD := ext_cell (hcz d hdl) hbz
                                have zS := ext_cell (hcz s hsl) hbz
                                have zO := ext_cell (hcz o hol) hbz
                                have HFt := Lib.hid (fun e => xFits (HOv.out.below (ext_below wA e)) (k.sizes.getD d 0) (k.sizes.getD s 0) (k.sizes.getD o 0) rd.1 rd.2 rs.1 rs.2)
                                have hkx : Hid (x.dst = (d : Int)) := hd
                                rw [hd, hs, ho] at HFt
                                have f0 := ext_cell l0 llt
                                have f1 := ext_cell l1 llt
                                have f2 := ext_cell l2 llt
                                have f3 := ext_cell l3 llt
                                have f4 := ext_cell l4 llt
                                have f5 := ext_cell l5 llt
                                have f6 := ext_cell l6 llt
                                have f7 := ext_cell l7 llt
                                have f8 := ext_cell l8 llt
                                have f9 := ext_cell l9 llt
                                have f10 := ext_cell l10 llt
                                have f11 := ext_cell y0 ylt
                                clear hcz
                                go_upto_region 17 with (go_at_call 19; first | ((with_reducible refine (KD.out _).mono ?_); rintro e w' ⟨rfl, rfl⟩) | ((with_reducible refine (KS.out _).mono ?_); rintro e w' ⟨rfl, rfl⟩) | ((with_reducible refine (KO.out _).mono ?_); rintro e w' ⟨rfl, rfl⟩))
                                generalize hFb : fitsL x (k.sizes.getD d 0) (k.sizes.getD s 0) (k.sizes.getD o 0) = Fb at *
                                clear hFb
                                generalize k.sizes.getD d 0 = vd at *
                                generalize k.sizes.getD s 0 = vs at *
                                generalize k.sizes.getD o 0 = vo at *
                                refine wp_region_quiet_ext (by kernel_rfl) (by kernel_rfl) ?_
                                repeat (go_big_quiet_step (first | (go_at_call 20; with_reducible exact Calls.ext_of (HFt.out _))))
                                refine wpQuiet_nil ?_
                                intro _ hw'
                                obtain ⟨nq, hw''⟩ := hw'
                                subst hw''
                                have HBW3 := Lib.hid (HBW.out.trans ((ext_below wA nq).mono HBW.out.size))
                                have hB3 := HBlA.out.below (ext_below wA nq)
                                have hX3 := HX11.out.below (ext_below wA nq)
                                have HBl3 := Lib.hid hB3
                                have u0 := hB3.cell (HWrt.out.at_ d hdl)
                                have uf := hB3.free d
                                have ult := hB3.lt
                                obtain ⟨m0, m1, m2, m3, m4, m5, m6, m7, m8, m9, m10, mlt⟩ := hX3
                                rw [hd] at m1
                                generalize ext wA nq = w3 at *
                                clear hB3 l0 l1 l2 l3 l4 l5 l6 l7 l8 l9 l10 y0 y1 y2 y3 y4 y5 y6 y7 f0 f1 f2 f3 f4 f5 f6 f7 f8 f9 f10 f11 zD zS zO HFt HOv HBlA
                                cases Fb with
                                | false =>
                                  have HF := Lib.hid (HBad.out rfl)
                                  go_wp2
                                  go_ret
                                  exact ⟨ret_bool HF.out.symm, HB1.out.trans (HBW3.out.mono HB1.out.size)⟩
                                | true =>
                                  have HNx := Lib.hid (HNext.out rfl)
                                  go_wp2
                                  go_roundw
                                  case rel => exact ⟨j + 1, putS S x.dst, Wr.set d true, hlt, by go_num, HNx.out, by rw [hkx.out]; exact HWrt.out.put hdl, HBl3.out.set d true, HBW3.out.setCell (p := ⟨W.heap.size, d, none⟩) (Nat.le_refl _) _⟩
                                  case measure => simp [intOf]; omega
                              · rw [Bool.not_eq_true] at p7
                                rw [← ho, p7] at cO
                                have HF := Lib.hid (HBad.out (by unfold refOp; rw [p1, p2, p3, p4, p5, p7, decide_eq_true p6]; rfl))
                                go_wp2_with (go_at_call 19; first | ((with_reducible refine (KD.out _).mono ?_); rintro e w' ⟨rfl, rfl⟩) | ((with_reducible refine (KS.out _).mono ?_); rintro e w' ⟨rfl, rfl⟩) | ((with_reducible refine (KO.out _).mono ?_); rintro e w' ⟨rfl, rfl⟩))
                                go_ret
                                exact ⟨ret_bool HF.out.symm, HBA.out⟩
                            · have t6 : (x.kind == 6) = false := by rw [beq_eq_false_iff_ne]; exact p6
                              have HRef : Hid (refOp k.sizes S x = fitsL x (k.sizes.getD d 0) (k.sizes.getD s 0) (k.sizes.getD o 0)) := by
                                unfold Hid refOp
                                rw [p1, p2, p3, p4, p5]
                                simp only [Bool.true_and, Bool.not_false, Bool.or_true, Bool.true_or, Bool.not_true, Bool.false_or, decide_true, decide_false, p6]
                                rw [hd, hs, ho]
                                simp only [Int.toNat_natCast]
                              rw [HRef.out] at HBad HNext
                              have hSz := HAll.out
                              have rd := sizes_range hSz (d : Int) (by omega) (by omega)
                              have rs := sizes_range hSz (s : Int) (by omega) (by omega)
                              rw [Int.toNat_natCast] at rd rs
                              obtain ⟨bz, oz, rfl, _, hbz, hcz⟩ := (J1.out.below HBW.out).cells hdl
                              have zD := ext_cell (hcz d hdl) hbz
                              have zS := ext_cell (hcz s hsl) hbz
                              have zO := ext_cell (hcz o hol) hbz
                              have HFt := Lib.hid (fun e => xFits (HOv.out.below (ext_below wA e)) (k.sizes.getD d 0) (k.sizes.getD s 0) (k.sizes.getD o 0) rd.1 rd.2 rs.1 rs.2)
                              have hkx : Hid (x.dst = (d : Int)) := hd
                              rw [hd, hs, ho] at HFt
                              have f0 := ext_cell l0 llt
                              have f1 := ext_cell l1 llt
                              have f2 := ext_cell l2 llt
                              have f3 := ext_cell l3 llt
                              have f4 := ext_cell l4 llt
                              have f5 := ext_cell l5 llt
                              have f6 := ext_cell l6 llt
                              have f7 := ext_cell l7 llt
                              have f8 := ext_cell l8 llt
                              have f9 := ext_cell l9 llt
                              have f10 := ext_cell l10 llt
                              have f11 := ext_cell y0 ylt
                              clear hcz
                              go_upto_region 17 with (go_at_call 19; first | ((with_reducible refine (KD.out _).mono ?_); rintro e w' ⟨rfl, rfl⟩) | ((with_reducible refine (KS.out _).mono ?_); rintro e w' ⟨rfl, rfl⟩) | ((with_reducible refine (KO.out _).mono ?_); rintro e w' ⟨rfl, rfl⟩))
                              generalize hFb : fitsL x (k.sizes.getD d 0) (k.sizes.getD s 0) (k.sizes.getD o 0) = Fb at *
                              clear hFb
                              generalize k.sizes.getD d 0 = vd at *
                              generalize k.sizes.getD s 0 = vs at *
                              generalize k.sizes.getD o 0 = vo at *
                              refine wp_region_quiet_ext (by kernel_rfl) (by kernel_rfl) ?_
                              repeat (go_big_quiet_step (first | (go_at_call 20; with_reducible exact Calls.ext_of (HFt.out _))))
                              refine wpQuiet_nil ?_
                              intro _ hw'
                              obtain ⟨nq, hw''⟩ := hw'
                              subst hw''
                              have HBW3 := Lib.hid (HBW.out.trans ((ext_below wA nq).mono HBW.out.size))
                              have hB3 := HBlA.out.below (ext_below wA nq)
                              have hX3 := HX11.out.below (ext_below wA nq)
                              have HBl3 := Lib.hid hB3
                              have u0 := hB3.cell (HWrt.out.at_ d hdl)
                              have uf := hB3.free d
                              have ult := hB3.lt
                              obtain ⟨m0, m1, m2, m3, m4, m5, m6, m7, m8, m9, m10, mlt⟩ := hX3
                              rw [hd] at m1
                              generalize ext wA nq = w3 at *
                              clear hB3 l0 l1 l2 l3 l4 l5 l6 l7 l8 l9 l10 y0 y1 y2 y3 y4 y5 y6 y7 f0 f1 f2 f3 f4 f5 f6 f7 f8 f9 f10 f11 zD zS zO HFt HOv HBlA
                              cases Fb with
                              | false =>
                                have HF := Lib.hid (HBad.out rfl)
                                go_wp2
                                go_ret
                                exact ⟨ret_bool HF.out.symm, HB1.out.trans (HBW3.out.mono HB1.out.size)⟩
                              | true =>
                                have HNx := Lib.hid (HNext.out rfl)
                                go_wp2
                                go_roundw
                                case rel => exact ⟨j + 1, putS S x.dst, Wr.set d true, hlt, by go_num, HNx.out, by rw [hkx.out]; exact HWrt.out.put hdl, HBl3.out.set d true, HBW3.out.setCell (p := ⟨W.heap.size, d, none⟩) (Nat.le_refl _) _⟩
                                case measure => simp [intOf]; omega
                          · rw [Bool.not_eq_true] at p5
                            rw [p5] at KO
                            have HF := Lib.hid (HBad.out (by unfold refOp; rw [p1, p2, p3, p4, p5]; rfl))
                            go_wp2_with (go_at_call 19; first | ((with_reducible refine (KD.out _).mono ?_); rintro e w' ⟨rfl, rfl⟩) | ((with_reducible refine (KS.out _).mono ?_); rintro e w' ⟨rfl, rfl⟩) | ((with_reducible refine (KO.out _).mono ?_); rintro e w' ⟨rfl, rfl⟩))
                            go_ret
                            exact ⟨ret_bool HF.out.symm, HBA.out⟩
                        · rw [Bool.not_eq_true] at p4
                          rw [← hs, p4] at cS
                          have HF := Lib.hid (HBad.out (by unfold refOp; rw [p1, p2, p3, p4]; rfl))
                          go_wp2_with (go_at_call 19; first | ((with_reducible refine (KD.out _).mono ?_); rintro e w' ⟨rfl, rfl⟩) | ((with_reducible refine (KS.out _).mono ?_); rintro e w' ⟨rfl, rfl⟩) | ((with_reducible refine (KO.out _).mono ?_); rintro e w' ⟨rfl, rfl⟩))
                          go_ret
                          exact ⟨ret_bool HF.out.symm, HBA.out⟩
                      · rw [Bool.not_eq_true] at p3
                        rw [p3] at KS
                        have HF := Lib.hid (HBad.out (by unfold refOp; rw [p1, p2, p3]; rfl))
                        go_wp2_with (go_at_call 19; first | ((with_reducible refine (KD.out _).mono ?_); rintro e w' ⟨rfl, rfl⟩) | ((with_reducible refine (KS.out _).mono ?_); rintro e w' ⟨rfl, rfl⟩) | ((with_reducible refine (KO.out _).mono ?_); rintro e w' ⟨rfl, rfl⟩))
                        go_ret
                        exact ⟨ret_bool HF.out.symm, HBA.out⟩
                  · rw [Bool.not_eq_true] at p1
                    rw [p1] at KD
                    have HF := Lib.hid (HBad.out (by unfold refOp; rw [p1]; rfl))
                    go_wp2_with (go_at_call 19; first | ((with_reducible refine (KD.out _).mono ?_); rintro e w' ⟨rfl, rfl⟩) | ((with_reducible refine (KS.out _).mono ?_); rintro e w' ⟨rfl, rfl⟩) | ((with_reducible refine (KO.out _).mono ?_); rintro e w' ⟨rfl, rfl⟩))
                    go_ret
                    exact ⟨ret_bool HF.out.symm, HBA.out⟩
                · obtain rfl : j = k.ops.length := by omega
                  have hRun := HRun.out
                  rw [List.take_length] at hRun
                  have HRt : Hid (R = (S k.output && boundsL k)) := by unfold Hid; rw [HTail.out S hRun]; unfold tailOK; rw [HG3.out, HG4.out, Bool.true_and, Bool.true_and]
                  have HBW := Lib.hid hb
                  have KO := Lib.hid (fun wv => xWithin k.output 0 ((k.sizes.length : Int) - 1) wv)
                  have f0 := ext_cell y0 ylt
                  have f2 := ext_cell y2 ylt
                  have f5 := ext_cell y5 ylt
                  have f6 := ext_cell y6 ylt
                  have f7 := ext_cell y7 ylt
                  clear HTail HStop hRun
                  by_cases p1 : wthn k.output 0 ((k.sizes.length : Int) - 1) = true
                  · rw [p1] at KO
                    obtain ⟨pa, pb⟩ := wthn_iff.1 p1
                    obtain ⟨n, hn⟩ : ∃ n : Nat, k.output = (n : Int) := ⟨k.output.toNat, by omega⟩
                    have hnl : n < k.sizes.length := by omega
                    have cO := HBl.out.cell (HWrt.out.at_ n hnl)
                    rw [← hn] at cO
                    have hBlt := HBl.out.lt
                    rw [hn] at f2 KO
                    obtain ⟨bz, oz, rfl, _, hbz, hcz⟩ := (J1.out.below HBW.out).cells hnl
                    have z0 := hcz 0 hpos
                    have zn := hcz n hnl
                    have fz0 := ext_cell z0 hbz
                    have fzn := ext_cell zn hbz
                    rw [Nat.add_zero] at fz0
                    clear hcz z0 zn
                    have HBd : Hid (boundsL k = true → (k.lo.length : Int) = k.sizes.getD 0 0 ∧ (k.hi.length : Int) = k.sizes.getD 0 0 ∧ (k.err.length : Int) = k.sizes.getD n 0) := by
                      intro h
                      unfold boundsL at h
                      rw [Bool.and_eq_true, decide_eq_true_eq, hn, Int.toNat_natCast] at h
                      exact h.1
                    have HBr : Hid ((k.lo.length : Int) = k.sizes.getD 0 0 → (k.hi.length : Int) = k.sizes.getD 0 0 → (k.err.length : Int) = k.sizes.getD n 0 → boundsL k = ((k.lo.zip k.hi).all cmpOK && (k.err.all signOK && (k.lo.all validR && (k.hi.all validR && k.err.all validR))))) := fun h1 h2 h3 => bounds_ref h1 h2 (by rw [hn, Int.toNat_natCast]; exact h3)
                    generalize hs0 : k.sizes.getD 0 0 = s0 at *
                    generalize hsn : k.sizes.getD n 0 = sn at *
                    clear hs0 hsn
                    have hnb : Hid ((boundsL k = true → False) → R = false) := fun h => by
                      rw [HRt.out]
                      cases hbk : boundsL k with
                      | false => exact Bool.and_false _
                      | true => exact (h hbk).elim
                    by_cases p2 : S k.output = true
                    · rw [p2] at cO
                      rw [p2, Bool.true_and] at HRt
                      have fO := ext_cell cO hBlt
                      by_cases p3 : (k.lo.length : Int) = s0
                      · by_cases p4 : (k.hi.length : Int) = s0
                        · by_cases p5 : (k.err.length : Int) = sn
                          · have hRb := HRt.out.trans (HBr.out p3 p4 p5)
                            have HRb := Lib.hid hRb
                            have HLen : Hid (k.lo.length = k.hi.length) := by unfold Hid; omega
                            have HNn := Lib.hid hn
                            clear hn
                            clear hRb HBr HBd hnb HRt
                            have n3 : ((k.lo.length : Int) != s0) = false := by rw [p3]; simp
                            have e3 : decide (¬ (k.lo.length : Int) = s0) = false := by simp only [p3, not_true_eq_false, decide_false]
                            have n4 : ((k.hi.length : Int) != s0) = false := by rw [p4]; simp
                            have e4 : decide (¬ (k.hi.length : Int) = s0) = false := by simp only [p4, not_true_eq_false, decide_false]
                            have n5 : ((k.err.length : Int) != sn) = false := by rw [p5]; simp
                            have e5 : decide (¬ (k.err.length : Int) = sn) = false := by simp only [p5, not_true_eq_false, decide_false]
                            clear p3 p4 p5
                            go_wp2
                            refine wp_region_quiet_ext (by kernel_rfl) (by kernel_rfl) ?_
                            repeat (go_big_quiet_step (first | (go_at_call 19; with_reducible exact Calls.ext_of_same (KO.out _))))
                            refine wpQuiet_nil ?_
                            intro _ hw'
                            obtain ⟨nq, hw''⟩ := hw'
                            subst hw''
                            have HB3 := Lib.hid (HBW.out.trans ((ext_below wr nq).mono HBW.out.size))
                            generalize ext wr nq = w3 at *
                            clear f0 f2 f5 f6 f7 fz0 fzn fO y0 y1 y2 y3 y4 y5 y6 y7 n3 n4 n5 e3 e4 e5 KO cO
                            obtain ⟨y0, y1, y2, y3, y4, y5, y6, y7, ylt⟩ := HBx.out.below HB3.out
                            go_wp2
                            go_loopw [8] (fun i wr => ∃ j : Nat, j ≤ k.lo.length ∧ i = .int .i64 (j : Int) ∧ Hid (((k.lo.zip k.hi).take j).all cmpOK = true) ∧ Hid (Below W.heap.size W wr)) (fun i _ => k.lo.length - (intOf i).toNat)
                            case atStart => exact ⟨0, Nat.zero_le _, rfl, rfl, HB3.out⟩
                            case round =>
                              clear y0 y1 y2 y3 y4 y5 y6 y7 ylt HB3
                              obtain ⟨j, hj, rfl, HA, hb⟩ := hrel
                              obtain ⟨y0, y1, y2, y3, y4, y5, y6, y7, ylt⟩ := HBx.out.below hb
                              have HBr := Lib.hid hb
                              by_cases hlt : j < k.lo.length
                              · obtain ⟨b1', f1', x1, an, ad, cn, cd, rfl, hbl, hx1, l0, l1, l2, hv1⟩ := (J3.out.below hb).pick hlt
                                obtain ⟨b2', f2', x2, bn, bd, dn, dd, rfl, hbh, hx2, m0, m1, m2, hv2⟩ := (J4.out.below hb).pick (show j < k.hi.length by have := HLen.out; omega)
                                have HT := Lib.hid (zip_take_succ hx1 hx2)
                                have HZ := Lib.hid (zip_mem hx1 hx2)
                                have HCm := Lib.hid (fun e => r3Cmp (hv1.below (ext_below wr e)) (hv2.below (ext_below wr e)) ((HS1.out _ (List.mem_of_getElem? hx1)).mono (by omega)) ((HS2.out _ (List.mem_of_getElem? hx2)).mono (by omega)))
                                have HOK : Hid (cmpOK (x1, x2) = !decide (0 < cmpQ (ratOf x1) (ratOf x2))) := rfl
                                generalize cmpQ (ratOf x1) (ratOf x2) = cq at *
                                have f5 := ext_cell y5 ylt
                                have f6 := ext_cell y6 ylt
                                have g0 := ext_cell l0 hbl
                                have g1 := ext_cell l1 hbl
                                have g2 := ext_cell l2 hbl
                                have h0 := ext_cell m0 hbh
                                have h1 := ext_cell m1 hbh
                                have h2 := ext_cell m2 hbh
                                have hjh : j < k.hi.length := by have := HLen.out; omega
                                clear hx1 hx2 hv1 hv2 hb y0 y1 y2 y3 y4 y7 l0 l1 l2 m0 m1 m2
                                by_cases hc : 0 < cq
                                · have tc : decide (0 < cq) = true := decide_eq_true hc
                                  have HF : Hid (R = false) := by
                                    have h1 : cmpOK (x1, x2) = false := by rw [HOK.out, tc]; rfl
                                    have h2 : (k.lo.zip k.hi).all cmpOK = false := by rw [List.all_eq_false]; exact ⟨_, HZ.out, by rw [h1]; exact Bool.false_ne_true⟩
                                    unfold Hid; rw [HRb.out, h2]; rfl
                                  clear hc
                                  go_wp2
                                  refine wp_region_quiet_ext (by kernel_rfl) (by kernel_rfl) ?_
                                  repeat (go_big_quiet_step (first | (go_at_call 21; with_reducible exact Calls.ext_of (HCm.out _))))
                                  refine wpQuiet_nil ?_
                                  intro _ hw'
                                  obtain ⟨nq, hw''⟩ := hw'
                                  subst hw''
                                  have HBN := Lib.hid (HBr.out.trans ((ext_below wr nq).mono HBr.out.size))
                                  generalize ext wr nq = w5 at *
                                  go_wp2
                                  go_ret
                                  exact ⟨ret_bool HF.out.symm, HB1.out.trans (HBN.out.mono HB1.out.size)⟩
                                · have tc : decide (0 < cq) = false := decide_eq_false hc
                                  have HA2 : Hid (((k.lo.zip k.hi).take (j + 1)).all cmpOK = true) := by
                                    unfold Hid; rw [HT.out, List.all_append, HA.out, List.all_cons, HOK.out, tc]; rfl
                                  clear hc
                                  go_wp2
                                  refine wp_region_quiet_ext (by kernel_rfl) (by kernel_rfl) ?_
                                  repeat (go_big_quiet_step (first | (go_at_call 21; with_reducible exact Calls.ext_of (HCm.out _))))
                                  refine wpQuiet_nil ?_
                                  intro _ hw'
                                  obtain ⟨nq, hw''⟩ := hw'
                                  subst hw''
                                  have HBN := Lib.hid (HBr.out.trans ((ext_below wr nq).mono HBr.out.size))
                                  generalize ext wr nq = w5 at *
                                  go_wp2
                                  exact ⟨⟨j + 1, hlt, by go_num, HA2.out, HBN.out⟩, by simp [intOf]; omega⟩
                              · obtain rfl : j = k.lo.length := by omega
                                have HRc : Hid (R = (k.err.all signOK && (k.lo.all validR && (k.hi.all validR && k.err.all validR)))) := by
                                  have h := HA.out
                                  rw [List.take_of_length_le (by rw [List.length_zip]; omega)] at h
                                  unfold Hid; rw [HRb.out, h, Bool.true_and]
                                clear HA HRb hj
                                go_wp2
                                go_loopw [9] (fun i wr => ∃ j : Nat, j ≤ k.err.length ∧ i = .int .i64 (j : Int) ∧ Hid ((k.err.take j).all signOK = true) ∧ Hid (Below W.heap.size W wr)) (fun i _ => k.err.length - (intOf i).toNat)
                                case atStart => exact ⟨0, Nat.zero_le _, rfl, rfl, hb⟩
                                case round =>
                                  clear y0 y1 y2 y3 y4 y5 y6 y7 ylt HBr hb hlt
                                  obtain ⟨j, hj, rfl, HA, hb⟩ := hrel
                                  obtain ⟨y0, y1, y2, y3, y4, y5, y6, y7, ylt⟩ := HBx.out.below hb
                                  have HBr := Lib.hid hb
                                  by_cases hlt : j < k.err.length
                                  · obtain ⟨b1', f1', x1, an, ad, cn, cd, rfl, hbl, hx1, l0, l1, l2, hv1⟩ := (J5.out.below hb).pick hlt
                                    have HT := Lib.hid (take_succ_at hx1)
                                    have HZ := Lib.hid (List.mem_of_getElem? hx1)
                                    have HSg := Lib.hid (r3Sign hv1 (Nat.le_trans (HS3.out _ (List.mem_of_getElem? hx1)).num (by omega)))
                                    have HOK : Hid (signOK x1 = !decide (signQ (ratOf x1) < 0)) := rfl
                                    generalize signQ (ratOf x1) = sq at *
                                    clear hx1 hv1 hb
                                    go_wp2_with fail
                                    refine HSg.out.mono ?_
                                    rintro e w5 ⟨rfl, hb5⟩
                                    have HBN := Lib.hid (HBr.out.trans (hb5.mono HBr.out.size))
                                    clear hb5 l0 l1 l2 y0 y1 y2 y3 y4 y5 y6 y7 ylt
                                    by_cases hc : sq < 0
                                    · have tc : decide (sq < 0) = true := decide_eq_true hc
                                      have HF : Hid (R = false) := by
                                        have h1 : signOK x1 = false := by rw [HOK.out, tc]; rfl
                                        have h2 : k.err.all signOK = false := by rw [List.all_eq_false]; exact ⟨_, HZ.out, by rw [h1]; exact Bool.false_ne_true⟩
                                        unfold Hid; rw [HRc.out, h2]; rfl
                                      clear hc
                                      go_wp2
                                      go_ret
                                      exact ⟨ret_bool HF.out.symm, HB1.out.trans (HBN.out.mono HB1.out.size)⟩
                                    · have tc : decide (sq < 0) = false := decide_eq_false hc
                                      have HA2 : Hid ((k.err.take (j + 1)).all signOK = true) := by
                                        unfold Hid; rw [HT.out, List.all_append, HA.out, List.all_cons, HOK.out, tc]; rfl
                                      clear hc
                                      go_wp2
                                      exact ⟨⟨j + 1, hlt, by go_num, HA2.out, HBN.out⟩, by simp [intOf]; omega⟩
                                  · obtain rfl : j = k.err.length := by omega
                                    have HRd : Hid (R = (k.lo.all validR && (k.hi.all validR && k.err.all validR))) := by
                                      have h := HA.out
                                      rw [List.take_of_length_le (Nat.le_refl _)] at h
                                      unfold Hid; rw [HRc.out, h, Bool.true_and]
                                    have HV3 := Lib.hid (fun w' c (hb' : Below W.heap.size W w') => r3ValidAll c (J3.out.below hb') (fun x hx => (HS1.out x hx).mono (by omega)))
                                    have HV4 := Lib.hid (fun w' c (hb' : Below W.heap.size W w') => r3ValidAll c (J4.out.below hb') (fun x hx => (HS2.out x hx).mono (by omega)))
                                    have HV5 := Lib.hid (fun w' c (hb' : Below W.heap.size W w') => r3ValidAll c (J5.out.below hb') (fun x hx => (HS3.out x hx).mono (by omega)))
                                    generalize k.lo.all validR = A3 at *
                                    generalize k.hi.all validR = A4 at *
                                    generalize k.err.all validR = A5 at *
                                    clear HA HRc hj hb
                                    go_wp2_with fail
                                    refine (HV3.out _ _ HBr.out).mono ?_
                                    rintro e w5 ⟨rfl, hb5⟩
                                    have hB5 := HBr.out.trans (hb5.mono HBr.out.size)
                                    have HB5 := Lib.hid hB5
                                    obtain ⟨z0, z1, z2, z3, z4, z5, z6, z7, zlt⟩ := HBx.out.below hB5
                                    clear hB5 hb5 HV3 y0 y1 y2 y3 y4 y5 y6 y7 ylt
                                    cases A3 with
                                    | false =>
                                      go_wp2
                                      go_ret
                                      exact ⟨ret_bool HRd.out.symm, HB1.out.trans (HB5.out.mono HB1.out.size)⟩
                                    | true =>
                                      go_wp2_with fail
                                      refine (HV4.out _ _ HB5.out).mono ?_
                                      rintro e w6 ⟨rfl, hb6⟩
                                      have hB6 := HB5.out.trans (hb6.mono HB5.out.size)
                                      have HB6 := Lib.hid hB6
                                      obtain ⟨y0, y1, y2, y3, y4, y5, y6, y7, ylt⟩ := HBx.out.below hB6
                                      clear hB6 hb6 HV4 z0 z1 z2 z3 z4 z5 z6 z7 zlt HB5
                                      cases A4 with
                                      | false =>
                                        go_wp2
                                        go_ret
                                        exact ⟨ret_bool HRd.out.symm, HB1.out.trans (HB6.out.mono HB1.out.size)⟩
                                      | true =>
                                        go_wp2_with fail
                                        refine (HV5.out _ _ HB6.out).mono ?_
                                        rintro e w7 ⟨rfl, hb7⟩
                                        have HB7 := Lib.hid (HB6.out.trans (hb7.mono HB6.out.size))
                                        clear hb7 HV5 y0 y1 y2 y3 y4 y5 y6 y7 ylt
                                        go_wp2
                                        go_ret
                                        exact ⟨ret_bool HRd.out.symm, HB1.out.trans (HB7.out.mono HB1.out.size)⟩
                          · have HF := Lib.hid (hnb.out (fun h => p5 (HBd.out h).2.2))
                            have n3 : ((k.lo.length : Int) != s0) = false := by rw [p3]; simp
                            have e3 : decide (¬ (k.lo.length : Int) = s0) = false := by simp only [p3, not_true_eq_false, decide_false]
                            have n4 : ((k.hi.length : Int) != s0) = false := by rw [p4]; simp
                            have e4 : decide (¬ (k.hi.length : Int) = s0) = false := by simp only [p4, not_true_eq_false, decide_false]
                            have n5 : ((k.err.length : Int) != sn) = true := by rw [bne_iff_ne]; exact p5
                            have e5 : decide (¬ (k.err.length : Int) = sn) = true := decide_eq_true p5
                            clear p3 p4 p5
                            go_wp2
                            refine wp_region_quiet_ext (by kernel_rfl) (by kernel_rfl) ?_
                            repeat (go_big_quiet_step (first | (go_at_call 19; with_reducible exact Calls.ext_of_same (KO.out _))))
                            refine wpQuiet_nil ?_
                            intro _ hw'
                            obtain ⟨nq, hw''⟩ := hw'
                            subst hw''
                            have HB3 := Lib.hid (HBW.out.trans ((ext_below wr nq).mono HBW.out.size))
                            generalize ext wr nq = w3 at *
                            go_wp2
                            go_ret
                            exact ⟨ret_bool HF.out.symm, HB1.out.trans (HB3.out.mono HB1.out.size)⟩
                        · have HF := Lib.hid (hnb.out (fun h => p4 (HBd.out h).2.1))
                          have n3 : ((k.lo.length : Int) != s0) = false := by rw [p3]; simp
                          have e3 : decide (¬ (k.lo.length : Int) = s0) = false := by simp only [p3, not_true_eq_false, decide_false]
                          have n4 : ((k.hi.length : Int) != s0) = true := by rw [bne_iff_ne]; exact p4
                          have e4 : decide (¬ (k.hi.length : Int) = s0) = true := decide_eq_true p4
                          clear p3 p4
                          go_wp2
                          refine wp_region_quiet_ext (by kernel_rfl) (by kernel_rfl) ?_
                          repeat (go_big_quiet_step (first | (go_at_call 19; with_reducible exact Calls.ext_of_same (KO.out _))))
                          refine wpQuiet_nil ?_
                          intro _ hw'
                          obtain ⟨nq, hw''⟩ := hw'
                          subst hw''
                          have HB3 := Lib.hid (HBW.out.trans ((ext_below wr nq).mono HBW.out.size))
                          generalize ext wr nq = w3 at *
                          go_wp2
                          go_ret
                          exact ⟨ret_bool HF.out.symm, HB1.out.trans (HB3.out.mono HB1.out.size)⟩
                      · have HF := Lib.hid (hnb.out (fun h => p3 (HBd.out h).1))
                        have n3 : ((k.lo.length : Int) != s0) = true := by rw [bne_iff_ne]; exact p3
                        have e3 : decide (¬ (k.lo.length : Int) = s0) = true := decide_eq_true p3
                        clear p3
                        go_wp2
                        refine wp_region_quiet_ext (by kernel_rfl) (by kernel_rfl) ?_
                        repeat (go_big_quiet_step (first | (go_at_call 19; with_reducible exact Calls.ext_of_same (KO.out _))))
                        refine wpQuiet_nil ?_
                        intro _ hw'
                        obtain ⟨nq, hw''⟩ := hw'
                        subst hw''
                        have HB3 := Lib.hid (HBW.out.trans ((ext_below wr nq).mono HBW.out.size))
                        generalize ext wr nq = w3 at *
                        go_wp2
                        go_ret
                        exact ⟨ret_bool HF.out.symm, HB1.out.trans (HB3.out.mono HB1.out.size)⟩
                    · rw [Bool.not_eq_true] at p2
                      rw [p2] at cO
                      have fO := ext_cell cO hBlt
                      have HF : Hid (R = false) := by unfold Hid; rw [HRt.out, p2]; rfl
                      go_wp2
                      refine wp_region_quiet_ext (by kernel_rfl) (by kernel_rfl) ?_
                      repeat (go_big_quiet_step (first | (go_at_call 19; with_reducible exact Calls.ext_of_same (KO.out _))))
                      refine wpQuiet_nil ?_
                      intro _ hw'
                      obtain ⟨nq, hw''⟩ := hw'
                      subst hw''
                      have HB3 := Lib.hid (HBW.out.trans ((ext_below wr nq).mono HBW.out.size))
                      generalize ext wr nq = w3 at *
                      go_wp2
                      go_ret
                      exact ⟨ret_bool HF.out.symm, HB1.out.trans (HB3.out.mono HB1.out.size)⟩
                  · rw [Bool.not_eq_true] at p1
                    rw [p1] at KO
                    have HF : Hid (R = false) := by
                      unfold Hid
                      rw [HRt.out]
                      cases hso : S k.output with
                      | false => rfl
                      | true =>
                        have := HWrt.out.rng _ hso
                        rw [← Bool.not_eq_true, wthn_iff] at p1
                        omega
                    go_wp2
                    refine wp_region_quiet_ext (by kernel_rfl) (by kernel_rfl) ?_
                    repeat (go_big_quiet_step (first | (go_at_call 19; with_reducible exact Calls.ext_of_same (KO.out _))))
                    refine wpQuiet_nil ?_
                    intro _ hw'
                    obtain ⟨nq, hw''⟩ := hw'
                    subst hw''
                    have HB3 := Lib.hid (HBW.out.trans ((ext_below wr nq).mono HBW.out.size))
                    generalize ext wr nq = w3 at *
                    go_wp2
                    go_ret
                    exact ⟨ret_bool HF.out.symm, HB1.out.trans (HB3.out.mono HB1.out.size)⟩
        · have HF := Lib.hid (hnotr.out (fun h => g4 (HN.out h).2.2.2.1))
          have g4' : wthn k.outShift 0 62 = false := by rw [← Bool.not_eq_true]; exact g4
          rw [g4'] at K4
          clear g4 g4'
          go_wp2_with (go_at_call 19; first | ((with_reducible refine (K1.out _).mono ?_); rintro e w' ⟨rfl, rfl⟩) | ((with_reducible refine (K3.out _).mono ?_); rintro e w' ⟨rfl, rfl⟩) | ((with_reducible refine (K4.out _).mono ?_); rintro e w' ⟨rfl, rfl⟩))
          go_ret
          exact ⟨ret_bool HF.out.symm, HB1.out⟩
      · have HF := Lib.hid (hnotr.out (fun h => g3 (HN.out h).2.2.1))
        have g3' : wthn k.inShift 0 62 = false := by rw [← Bool.not_eq_true]; exact g3
        rw [g3'] at K3
        clear g3 g3'
        go_wp2_with (go_at_call 19; first | ((with_reducible refine (K1.out _).mono ?_); rintro e w' ⟨rfl, rfl⟩) | ((with_reducible refine (K3.out _).mono ?_); rintro e w' ⟨rfl, rfl⟩))
        go_ret
        exact ⟨ret_bool HF.out.symm, HB1.out⟩
    · have HF := Lib.hid (hnotr.out (fun h => g2 (HN.out h).2.1))
      have d2 : decide (1024 < (k.ops.length : Int)) = true := decide_eq_true (by omega)
      clear g2
      go_wp2_with (go_at_call 19; ((with_reducible refine (K1.out _).mono ?_); rintro e w' ⟨rfl, rfl⟩))
      go_ret
      exact ⟨ret_bool HF.out.symm, HB1.out⟩
  · have HF := Lib.hid (hnotr.out (fun h => g1 (HN.out h).1))
    have g1' : wthn k.sizes.length 1 1024 = false := by rw [← Bool.not_eq_true]; exact g1
    rw [g1'] at K1
    clear g1 g1'
    go_wp2_with (go_at_call 19; ((with_reducible refine (K1.out _).mono ?_); rintro e w' ⟨rfl, rfl⟩))
    go_ret
    exact ⟨ret_bool HF.out.symm, HB1.out⟩

end Go.Proofs.YthlmgejikbmmaaaGreat
