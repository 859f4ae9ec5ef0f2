/-
  Contracts of the functions that the statements reach, in the order in which they are built: ModT.
-/
import Derived.Test.YthlmgejikbmmaaaS26
set_option linter.unusedVariables false
set_option linter.unusedSimpArgs false
set_option linter.constructorNameAsVariable false
set_option linter.deprecated false

/-
  The reference of layer 13: Out, by groups of kinds. By contract. Printed by genModT.py.
-/
namespace Go.Proofs.Ythlmgejikbmmaaa
open Go.RowKit

theorem resL_raw {r : List Int × Bool} (h : r.2 = true) {R : List Int × Int} (hR : (if r.2 && validL r.1 then (r.1, 0) else ([], 7)) = R) : R = resL r.1 := by
  rw [← hR, h, Bool.true_and]; rfl
theorem resL_no {r : List Int × Bool} (h : r.2 = false) {R : List Int × Int} (hR : (if r.2 && validL r.1 then (r.1, 0) else ([], 7)) = R) : R = ([], 7) := by
  rw [← hR, h, Bool.false_and]; rfl
theorem currL_take {input s : List Int} {S : List (List Int)} {j : Nat} (h : S[j]? = some s) : currL input (S.take (j + 1)) = s := by
  have hlt := (List.getElem?_eq_some_iff.1 h).1
  exact currL_last (k := j) (by rw [List.length_take]; omega) (by rw [List.getElem?_take, if_pos (by omega)]; exact h)
theorem OutPost.up {w w1 w' : World} {p : List Int × Int} {e : Ending} (h : OutPost w1 p e w') (hb : Below w.heap.size w w1) : OutPost w p e w' :=
  let ⟨⟨a, c, h1, h2, h3⟩, h4⟩ := h; ⟨⟨a, c, h1, h2.mono (fun _ _ hx => Nat.le_trans hb.size hx), h3⟩, hb.trans (h4.mono hb.size)⟩
theorem ints1_alloc (w : World) (x : Int) (T : Nat) (hx : I64 x) : Ints (w.alloc (.cells #[.int .i64 x] T)) Any (some ⟨w.heap.size, 0, none⟩) [x] := ints1_of hx (by rw [World.cell?_alloc_at _ _ _ _ rfl]; rfl) (by simp)

set_option maxRecDepth 100000 in
set_option maxHeartbeats 6400000 in
theorem r13OutA {w : World} {u : Value} {input : List Int} {S : List (List Int)} {l : LayL} {ai ash : Option Addr} (ci cs : Nat) (hi : Ints w Any ai input) (hS : Intss w Any ash S) (hu : LayV w u l) (hr : LayRange l) (hle : LayLe l) (hn : S.length ≤ 1000) (hk : l.kind = 1 ∨ l.kind = 5 ∨ l.kind = 6) :
    Calls Try.prog 16 #[.slice ai input.length ci, .slice ash S.length cs, u] w (OutPost w (outSL input S l)) := by
  obtain ⟨b1, b2, d1, d2, rfl, r1, r2⟩ := hu.ex
  have q1 := hi.len
  have q2 := hS.len
  have q3 := r1.len
  have q4 := r2.len
  have HI := Lib.hid hi
  have HS := Lib.hid hS
  have HU := Lib.hid hu
  have HRg := Lib.hid hr
  have HLe := Lib.hid hle
  have HN := Lib.hid hn
  have HKD := Lib.hid hk
  have HVi := Lib.hid (fun W (hb : Below w.heap.size w W) => r11Valid ci (hi.below hb))
  generalize hR : outSL input S l = RR
  have HR := Lib.hid hR
  unfold outSL at hR
  have HRd := Lib.hid hR
  clear hi hS hu r1 r2 hr hle hR hk
  go_enter Try.func16, Try.ntmps16
  go_upto_region 1 with fail
  have hb0 : Below w.heap.size w (w.alloc (.cells #[.int .i64 l.kind, .int .i64 l.frm, .int .i64 l.out, .int .i64 l.kh, .int .i64 l.kw, .int .i64 l.stride, .int .i64 l.pad, .slice b1 l.weights.length d1, .slice b2 l.bias.length d2] 26)) := (Below.refl _ _).alloc (Nat.le_refl _) _
  have hx := Box9.alloc w (.int .i64 l.kind) (.int .i64 l.frm) (.int .i64 l.out) (.int .i64 l.kh) (.int .i64 l.kw) (.int .i64 l.stride) (.int .i64 l.pad) (.slice b1 l.weights.length d1) (.slice b2 l.bias.length d2) 26
  generalize w.alloc (.cells #[.int .i64 l.kind, .int .i64 l.frm, .int .i64 l.out, .int .i64 l.kh, .int .i64 l.kw, .int .i64 l.stride, .int .i64 l.pad, .slice b1 l.weights.length d1, .slice b2 l.bias.length d2] 26) = W at *
  have HB0 := Lib.hid hb0
  have HX := Lib.hid hx
  have HVi2 := Lib.hid (HVi.out W hb0)
  clear hb0 hx HVi
  obtain ⟨x0, x1, x2, x3, x4, x5, x6, x7, x8, xlt⟩ := HX.out
  cases hvi : validL input with
  | false =>
    have HF : Hid (RR = ([], 1)) := by unfold Hid; rw [← HRd.out, hvi]; rfl
    rw [hvi] at HVi2
    clear hvi
    go_wp2_with fail
    refine HVi2.out.mono ?_
    rintro e w' ⟨rfl, rfl⟩
    go_wp2
    go_ret2
    exact outPost_err HF.out HB0.out
  | true =>
    rw [hvi] at HVi2
    have HVI := Lib.hid hvi
    clear hvi
    go_wp2_with fail
    refine HVi2.out.mono ?_
    rintro e w' ⟨rfl, rfl⟩
    go_wp2_with fail
    refine (r13valid (HU.out.below HB0.out) HRg.out HLe.out S.length HN.out).mono ?_
    rintro e w1 ⟨rfl, hb1⟩
    have HB1 := Lib.hid (HB0.out.trans (hb1.mono HB0.out.size))
    have HX1 := Lib.hid (HX.out.below hb1)
    clear hb1 x0 x1 x2 x3 x4 x5 x6 x7 x8 xlt HVi2
    cases hok : (decide (S.length + 1 ≤ 64) && layOK l S.length) with
    | false =>
      have HF : Hid (RR = ([], 1)) := by unfold Hid; rw [← HRd.out, hok, Bool.and_false]; rfl
      clear hok
      go_wp2
      go_ret2
      exact outPost_err HF.out HB1.out
    | true =>
      have HOK := Lib.hid hok
      clear hok
      go_wp2
      go_loopw [8, 9] (fun u i wr => ∃ (j : Nat) (a : Option Addr) (c : Nat), j ≤ S.length ∧ i = .int .i64 (j : Int) ∧ u = .slice a (currL input (S.take j)).length c ∧ Hid (Ints w1 Any a (currL input (S.take j))) ∧ Hid ((S.take j).all validL = true) ∧ Hid (w1 = wr)) (fun _ i _ => S.length - (intOf i).toNat)
      case atStart => exact ⟨0, ai, ci, Nat.zero_le _, rfl, rfl, HI.out.below HB1.out, rfl, rfl⟩
      case round =>
        obtain ⟨j, a, c, hj, rfl, rfl, HA, HV, HW⟩ := hrel
        have ew := HW.out
        clear HW
        subst ew
        by_cases hlt : j < S.length
        · obtain ⟨bb, off, s, aj, cj, rfl, hcell, hs, _, hIs, hbb, _⟩ := (HS.out.below HB1.out).pickc hlt
          have HTk := Lib.hid (allV_takeS hs)
          have HMem := Lib.hid (List.mem_of_getElem? hs)
          have HCu := Lib.hid (currL_take (input := input) hs)
          have HVs := Lib.hid (r11Valid cj hIs)
          have HIs := Lib.hid hIs
          have ql := hIs.len
          clear hs hIs
          cases hv : validL s with
          | false =>
            rw [hv] at HVs
            have HF : Hid (RR = ([], 1)) := by
              unfold Hid
              have : S.all validL = false := by rw [List.all_eq_false]; exact ⟨s, HMem.out, by simp [hv]⟩
              rw [← HRd.out, this, Bool.and_false]; rfl
            clear hv
            go_wp2_with fail
            refine HVs.out.mono ?_
            rintro e w' ⟨rfl, rfl⟩
            go_wp2
            go_ret2
            exact outPost_err HF.out HB1.out
          | true =>
            rw [hv] at HVs
            have HA2 : Hid ((S.take (j + 1)).all validL = true) := by unfold Hid; rw [HTk.out, HV.out, hv]; rfl
            clear hv
            go_wp2_with fail
            refine HVs.out.mono ?_
            rintro e w' ⟨rfl, rfl⟩
            go_wp2
            go_roundw
            case rel => exact ⟨j + 1, aj, cj, hlt, by go_num, by rw [HCu.out], by unfold Hid; rw [HCu.out]; exact HIs.out, HA2.out, by first | rfl | exact True.intro⟩
            case measure => simp [intOf]; omega
        · obtain rfl : j = S.length := by omega
          have HAl : Hid (S.all validL = true) := by have := HV.out; rwa [List.take_length] at this
          rw [List.take_length] at HA ⊢
          have hcur : validL (currL input S) = true := by
            unfold currL
            cases hg : S.getLast? with
            | none => exact HVI.out
            | some s => exact List.all_eq_true.1 HAl.out s (List.mem_of_getLast? hg)
          have HRe : Hid ((if (rawL input S l).2 && validL (rawL input S l).1 then ((rawL input S l).1, 0) else ([], 7)) = RR) := by
            have h := HRd.out
            rw [HVI.out, HOK.out, HAl.out, Bool.true_and, Bool.true_and, if_pos rfl] at h
            exact h
          have hok2 : layOK l S.length = true := by have := HOK.out; rw [Bool.and_eq_true] at this; exact this.2
          have HOk2 := Lib.hid hok2
          have HCur := Lib.hid hcur
          have hcs := validL_size hcur
          obtain ⟨z1, z2⟩ := hcs
          have qc := HA.out.len
          have HSz := Lib.hid (rSize c HA.out)
          obtain ⟨x0, x1, x2, x3, x4, x5, x6, x7, x8, xlt⟩ := HX1.out
          generalize hz : sizeL (currL input S) = sz at *
          have HZ := Lib.hid hz
          clear hcur hok2 hz
          go_wp2_with fail
          refine HSz.out.mono ?_
          rintro e w' ⟨rfl, rfl⟩
          have hk := HKD.out
          rcases hk with hk | hk | hk
          · have hraw : rawL input S l = ([l.out], decide ((l.weights.length : Int) = l.out * sz)) := by unfold rawL; rw [if_pos hk, HZ.out]
            obtain ⟨o1, o2⟩ := ok_one HOk2.out hk
            rw [hraw] at HRe
            obtain ⟨m1, m2⟩ := mul_bd11 o1 o2 z1 z2
            by_cases he : (l.weights.length : Int) = l.out * sz
            · have HF : Hid (RR = resL [l.out]) := resL_raw (r := ([l.out], decide ((l.weights.length : Int) = l.out * sz))) (decide_eq_true he) HRe.out
              have t1 : ((l.weights.length : Int) != l.out * sz) = false := by rw [he]; simp
              have t2 : decide (¬ (l.weights.length : Int) = l.out * sz) = false := by simp [he]
              have HAl1 : Hid (∀ W : World, Ints (W.alloc (.cells #[.int .i64 l.out] 3)) Any (some ⟨W.heap.size, 0, none⟩) [l.out]) := fun W => ints1_alloc W l.out _ ⟨by omega, by omega⟩
              clear hraw he HRe
              have k1 : (l.kind == 1) = true := by rw [beq_iff_eq]; omega
              clear hk
              go_wp2_with fail
              refine (rResult 1 (HAl1.out _)).mono ?_
              rintro e w3 ⟨⟨a5, c5, rfl, hI5, hc5⟩, hb5⟩
              have HI5 := Lib.hid hI5
              have HC5 := Lib.hid hc5
              have HB5 := Lib.hid hb5
              clear hI5 hc5 hb5
              go_wp2
              go_ret2
              rw [HF.out]
              exact OutPost.up (w1 := w1.alloc (.cells #[.int .i64 l.out] 3)) ⟨⟨a5, c5, rfl, HI5.out, HC5.out⟩, HB5.out⟩ (HB1.out.alloc HB1.out.size _)
            · have HF : Hid (RR = ([], 7)) := resL_no (r := ([l.out], decide ((l.weights.length : Int) = l.out * sz))) (decide_eq_false he) HRe.out
              have t1 : ((l.weights.length : Int) != l.out * sz) = true := by rw [bne_iff_ne]; exact he
              have t2 : decide (¬ (l.weights.length : Int) = l.out * sz) = true := by simp [he]
              clear hraw he HRe
              have k1 : (l.kind == 1) = true := by rw [beq_iff_eq]; omega
              clear hk
              go_wp2
              go_ret2
              exact outPost_err HF.out HB1.out
          · have hraw : rawL input S l = (currL input S, true) := by unfold rawL; rw [if_neg (by omega), if_neg (by omega), if_neg (by omega), if_neg (by omega), if_neg (by omega)]
            have HF : Hid (RR = resL (currL input S)) := resL_raw (r := (currL input S, true)) rfl (by have h := HRe.out; rw [hraw] at h; exact h)
            clear hraw HRe
            have k1 : (l.kind == 1) = false := by rw [beq_eq_false_iff_ne]; omega
            have k2 : (l.kind == 2) = false := by rw [beq_eq_false_iff_ne]; omega
            have k3 : (l.kind == 3) = false := by rw [beq_eq_false_iff_ne]; omega
            have k4 : (l.kind == 4) = false := by rw [beq_eq_false_iff_ne]; omega
            have k6 : (l.kind == 6) = false := by rw [beq_eq_false_iff_ne]; omega
            have k7 : (l.kind == 7) = false := by rw [beq_eq_false_iff_ne]; omega
            clear hk
            go_wp2_with fail
            refine (rResult c HA.out).mono ?_
            rintro e w3 ⟨⟨a5, c5, rfl, hI5, hc5⟩, hb5⟩
            have HI5 := Lib.hid hI5
            have HC5 := Lib.hid hc5
            have HB5 := Lib.hid hb5
            clear hI5 hc5 hb5
            go_wp2
            go_ret2
            rw [HF.out]
            exact OutPost.up (w1 := w1) ⟨⟨a5, c5, rfl, HI5.out, HC5.out⟩, HB5.out⟩ HB1.out
          · have hraw : rawL input S l = ([sz], true) := by unfold rawL; rw [if_neg (by omega), if_neg (by omega), if_neg (by omega), if_pos hk, HZ.out]
            have HF : Hid (RR = resL [sz]) := resL_raw (r := ([sz], true)) rfl (by have h := HRe.out; rw [hraw] at h; exact h)
            have HAl1 : Hid (∀ W : World, Ints (W.alloc (.cells #[.int .i64 sz] 3)) Any (some ⟨W.heap.size, 0, none⟩) [sz]) := fun W => ints1_alloc W sz _ ⟨by omega, by omega⟩
            clear hraw HRe
            have k1 : (l.kind == 1) = false := by rw [beq_eq_false_iff_ne]; omega
            have k2 : (l.kind == 2) = false := by rw [beq_eq_false_iff_ne]; omega
            have k3 : (l.kind == 3) = false := by rw [beq_eq_false_iff_ne]; omega
            have k4 : (l.kind == 4) = false := by rw [beq_eq_false_iff_ne]; omega
            have k6 : (l.kind == 6) = true := by rw [beq_iff_eq]; omega
            clear hk
            go_wp2_with fail
            refine (rResult 1 (HAl1.out _)).mono ?_
            rintro e w3 ⟨⟨a5, c5, rfl, hI5, hc5⟩, hb5⟩
            have HI5 := Lib.hid hI5
            have HC5 := Lib.hid hc5
            have HB5 := Lib.hid hb5
            clear hI5 hc5 hb5
            go_wp2
            go_ret2
            rw [HF.out]
            exact OutPost.up (w1 := w1.alloc (.cells #[.int .i64 sz] 3)) ⟨⟨a5, c5, rfl, HI5.out, HC5.out⟩, HB5.out⟩ (HB1.out.alloc HB1.out.size _)

set_option maxRecDepth 100000 in
set_option maxHeartbeats 6400000 in
theorem r13OutC {w : World} {u : Value} {input : List Int} {S : List (List Int)} {l : LayL} {ai ash : Option Addr} (ci cs : Nat) (hi : Ints w Any ai input) (hS : Intss w Any ash S) (hu : LayV w u l) (hr : LayRange l) (hle : LayLe l) (hn : S.length ≤ 1000) (hk : l.kind = 7) :
    Calls Try.prog 16 #[.slice ai input.length ci, .slice ash S.length cs, u] w (OutPost w (outSL input S l)) := by
  obtain ⟨b1, b2, d1, d2, rfl, r1, r2⟩ := hu.ex
  have q1 := hi.len
  have q2 := hS.len
  have q3 := r1.len
  have q4 := r2.len
  have HI := Lib.hid hi
  have HS := Lib.hid hS
  have HU := Lib.hid hu
  have HRg := Lib.hid hr
  have HLe := Lib.hid hle
  have HN := Lib.hid hn
  have HKD := Lib.hid hk
  have HVi := Lib.hid (fun W (hb : Below w.heap.size w W) => r11Valid ci (hi.below hb))
  generalize hR : outSL input S l = RR
  have HR := Lib.hid hR
  unfold outSL at hR
  have HRd := Lib.hid hR
  clear hi hS hu r1 r2 hr hle hR hk
  go_enter Try.func16, Try.ntmps16
  go_upto_region 1 with fail
  have hb0 : Below w.heap.size w (w.alloc (.cells #[.int .i64 l.kind, .int .i64 l.frm, .int .i64 l.out, .int .i64 l.kh, .int .i64 l.kw, .int .i64 l.stride, .int .i64 l.pad, .slice b1 l.weights.length d1, .slice b2 l.bias.length d2] 26)) := (Below.refl _ _).alloc (Nat.le_refl _) _
  have hx := Box9.alloc w (.int .i64 l.kind) (.int .i64 l.frm) (.int .i64 l.out) (.int .i64 l.kh) (.int .i64 l.kw) (.int .i64 l.stride) (.int .i64 l.pad) (.slice b1 l.weights.length d1) (.slice b2 l.bias.length d2) 26
  generalize w.alloc (.cells #[.int .i64 l.kind, .int .i64 l.frm, .int .i64 l.out, .int .i64 l.kh, .int .i64 l.kw, .int .i64 l.stride, .int .i64 l.pad, .slice b1 l.weights.length d1, .slice b2 l.bias.length d2] 26) = W at *
  have HB0 := Lib.hid hb0
  have HX := Lib.hid hx
  have HVi2 := Lib.hid (HVi.out W hb0)
  clear hb0 hx HVi
  obtain ⟨x0, x1, x2, x3, x4, x5, x6, x7, x8, xlt⟩ := HX.out
  cases hvi : validL input with
  | false =>
    have HF : Hid (RR = ([], 1)) := by unfold Hid; rw [← HRd.out, hvi]; rfl
    rw [hvi] at HVi2
    clear hvi
    go_wp2_with fail
    refine HVi2.out.mono ?_
    rintro e w' ⟨rfl, rfl⟩
    go_wp2
    go_ret2
    exact outPost_err HF.out HB0.out
  | true =>
    rw [hvi] at HVi2
    have HVI := Lib.hid hvi
    clear hvi
    go_wp2_with fail
    refine HVi2.out.mono ?_
    rintro e w' ⟨rfl, rfl⟩
    go_wp2_with fail
    refine (r13valid (HU.out.below HB0.out) HRg.out HLe.out S.length HN.out).mono ?_
    rintro e w1 ⟨rfl, hb1⟩
    have HB1 := Lib.hid (HB0.out.trans (hb1.mono HB0.out.size))
    have HX1 := Lib.hid (HX.out.below hb1)
    clear hb1 x0 x1 x2 x3 x4 x5 x6 x7 x8 xlt HVi2
    cases hok : (decide (S.length + 1 ≤ 64) && layOK l S.length) with
    | false =>
      have HF : Hid (RR = ([], 1)) := by unfold Hid; rw [← HRd.out, hok, Bool.and_false]; rfl
      clear hok
      go_wp2
      go_ret2
      exact outPost_err HF.out HB1.out
    | true =>
      have HOK := Lib.hid hok
      clear hok
      go_wp2
      go_loopw [8, 9] (fun u i wr => ∃ (j : Nat) (a : Option Addr) (c : Nat), j ≤ S.length ∧ i = .int .i64 (j : Int) ∧ u = .slice a (currL input (S.take j)).length c ∧ Hid (Ints w1 Any a (currL input (S.take j))) ∧ Hid ((S.take j).all validL = true) ∧ Hid (w1 = wr)) (fun _ i _ => S.length - (intOf i).toNat)
      case atStart => exact ⟨0, ai, ci, Nat.zero_le _, rfl, rfl, HI.out.below HB1.out, rfl, rfl⟩
      case round =>
        obtain ⟨j, a, c, hj, rfl, rfl, HA, HV, HW⟩ := hrel
        have ew := HW.out
        clear HW
        subst ew
        by_cases hlt : j < S.length
        · obtain ⟨bb, off, s, aj, cj, rfl, hcell, hs, _, hIs, hbb, _⟩ := (HS.out.below HB1.out).pickc hlt
          have HTk := Lib.hid (allV_takeS hs)
          have HMem := Lib.hid (List.mem_of_getElem? hs)
          have HCu := Lib.hid (currL_take (input := input) hs)
          have HVs := Lib.hid (r11Valid cj hIs)
          have HIs := Lib.hid hIs
          have ql := hIs.len
          clear hs hIs
          cases hv : validL s with
          | false =>
            rw [hv] at HVs
            have HF : Hid (RR = ([], 1)) := by
              unfold Hid
              have : S.all validL = false := by rw [List.all_eq_false]; exact ⟨s, HMem.out, by simp [hv]⟩
              rw [← HRd.out, this, Bool.and_false]; rfl
            clear hv
            go_wp2_with fail
            refine HVs.out.mono ?_
            rintro e w' ⟨rfl, rfl⟩
            go_wp2
            go_ret2
            exact outPost_err HF.out HB1.out
          | true =>
            rw [hv] at HVs
            have HA2 : Hid ((S.take (j + 1)).all validL = true) := by unfold Hid; rw [HTk.out, HV.out, hv]; rfl
            clear hv
            go_wp2_with fail
            refine HVs.out.mono ?_
            rintro e w' ⟨rfl, rfl⟩
            go_wp2
            go_roundw
            case rel => exact ⟨j + 1, aj, cj, hlt, by go_num, by rw [HCu.out], by unfold Hid; rw [HCu.out]; exact HIs.out, HA2.out, by first | rfl | exact True.intro⟩
            case measure => simp [intOf]; omega
        · obtain rfl : j = S.length := by omega
          have HAl : Hid (S.all validL = true) := by have := HV.out; rwa [List.take_length] at this
          rw [List.take_length] at HA ⊢
          have hcur : validL (currL input S) = true := by
            unfold currL
            cases hg : S.getLast? with
            | none => exact HVI.out
            | some s => exact List.all_eq_true.1 HAl.out s (List.mem_of_getLast? hg)
          have HRe : Hid ((if (rawL input S l).2 && validL (rawL input S l).1 then ((rawL input S l).1, 0) else ([], 7)) = RR) := by
            have h := HRd.out
            rw [HVI.out, HOK.out, HAl.out, Bool.true_and, Bool.true_and, if_pos rfl] at h
            exact h
          have hok2 : layOK l S.length = true := by have := HOK.out; rw [Bool.and_eq_true] at this; exact this.2
          have HOk2 := Lib.hid hok2
          have HCur := Lib.hid hcur
          have hcs := validL_size hcur
          obtain ⟨z1, z2⟩ := hcs
          have qc := HA.out.len
          have HSz := Lib.hid (rSize c HA.out)
          obtain ⟨x0, x1, x2, x3, x4, x5, x6, x7, x8, xlt⟩ := HX1.out
          generalize hz : sizeL (currL input S) = sz at *
          have HZ := Lib.hid hz
          clear hcur hok2 hz
          go_wp2_with fail
          refine HSz.out.mono ?_
          rintro e w' ⟨rfl, rfl⟩
          have hk := HKD.out
          have hraw : rawL input S l = (currL input S, sameL (if 0 ≤ l.frm then S.getD l.frm.toNat [] else input) (currL input S)) := by unfold rawL; rw [if_neg (by omega), if_neg (by omega), if_neg (by omega), if_neg (by omega), if_pos hk]
          have o1 := ok_seven HOk2.out hk
          rw [hraw] at HRe
          clear hraw
          have k1 : (l.kind == 1) = false := by rw [beq_eq_false_iff_ne]; omega
          have k2 : (l.kind == 2) = false := by rw [beq_eq_false_iff_ne]; omega
          have k3 : (l.kind == 3) = false := by rw [beq_eq_false_iff_ne]; omega
          have k4 : (l.kind == 4) = false := by rw [beq_eq_false_iff_ne]; omega
          have k6 : (l.kind == 6) = false := by rw [beq_eq_false_iff_ne]; omega
          have k7 : (l.kind == 7) = true := by rw [beq_iff_eq]; omega
          clear hk
          have HIn9 : Hid (∀ {x : List Int} {ax : Option Addr} (cx : Nat), Ints w1 Any ax x → Calls Try.prog 17 #[.slice ax x.length cx, .slice a (currL input S).length c] w1 fun e w' => e = .returned (.bool (sameL x (currL input S))) ∧ Below w1.heap.size w1 w') := fun cx hx => (rInts cx c hx HA.out).mono fun e1 w' ⟨h1, n, h2⟩ => ⟨h1, h2 ▸ Below.drewN_refl _ _⟩
          by_cases hf : 0 ≤ l.frm
          · obtain ⟨k, hkk⟩ : ∃ k : Nat, l.frm = (k : Int) := ⟨l.frm.toNat, by omega⟩
            have hkl : k < S.length := by omega
            obtain ⟨bb, off, o, aj, cj, rfl, hcell, hl, hcj, hIo, hbb, _⟩ := (HS.out.below HB1.out).pickc hkl
            have hcs0 : (if 0 ≤ l.frm then S.getD l.frm.toNat [] else input) = o := by rw [if_pos hf, hkk, Int.toNat_natCast, List.getD_eq_getElem?_getD, hl]; rfl
            have HIo := Lib.hid hIo
            have qo := hIo.len
            have hf2 : (0 : Int) ≤ (k : Int) := by omega
            rw [hkk] at x1
            have HKK := Lib.hid hkk
            clear hl hIo hkk hf o1
            have HIt := Lib.hid (HIn9.out cj HIo.out)
            cases hs : sameL o (currL input S) with
            | false =>
              have HF : Hid (RR = ([], 7)) := resL_no (r := (currL input S, sameL (if 0 ≤ l.frm then S.getD l.frm.toNat [] else input) (currL input S))) (by show sameL _ _ = false; rw [hcs0]; exact hs) HRe.out
              rw [hs] at HIt
              clear hs hcs0
              go_wp2_with fail
              refine HIt.out.mono ?_
              rintro e w' ⟨rfl, hb9⟩
              have HB9 := Lib.hid (HB1.out.trans (hb9.mono HB1.out.size))
              clear hb9 x0 x1 x2 x3 x4 x5 x6 x7 x8
              go_wp2
              go_ret2
              exact outPost_err HF.out HB9.out
            | true =>
              have HF : Hid (RR = resL (currL input S)) := resL_raw (r := (currL input S, sameL (if 0 ≤ l.frm then S.getD l.frm.toNat [] else input) (currL input S))) (by show sameL _ _ = true; rw [hcs0]; exact hs) HRe.out
              rw [hs] at HIt
              clear hs hcs0
              go_wp2_with fail
              refine HIt.out.mono ?_
              rintro e w9 ⟨rfl, hb9⟩
              have HB9 := Lib.hid (HB1.out.trans (hb9.mono HB1.out.size))
              have HA9 := Lib.hid (HA.out.below hb9)
              clear hb9 x0 x1 x2 x3 x4 x5 x6 x7 x8
              go_wp2_with fail
              refine (rResult c HA9.out).mono ?_
              rintro e w3 ⟨⟨a5, c5, rfl, hI5, hc5⟩, hb5⟩
              have HI5 := Lib.hid hI5
              have HC5 := Lib.hid hc5
              have HB5 := Lib.hid hb5
              clear hI5 hc5 hb5
              go_wp2
              go_ret2
              rw [HF.out]
              exact OutPost.up (w1 := w9) ⟨⟨a5, c5, rfl, HI5.out, HC5.out⟩, HB5.out⟩ HB9.out
          · have hcs0 : (if 0 ≤ l.frm then S.getD l.frm.toNat [] else input) = input := if_neg hf
            have HIi := Lib.hid (HI.out.below HB1.out)
            clear o1
            have HIt := Lib.hid (HIn9.out ci HIi.out)
            cases hs : sameL input (currL input S) with
            | false =>
              have HF : Hid (RR = ([], 7)) := resL_no (r := (currL input S, sameL (if 0 ≤ l.frm then S.getD l.frm.toNat [] else input) (currL input S))) (by show sameL _ _ = false; rw [hcs0]; exact hs) HRe.out
              rw [hs] at HIt
              clear hs hcs0
              go_wp2_with fail
              refine HIt.out.mono ?_
              rintro e w' ⟨rfl, hb9⟩
              have HB9 := Lib.hid (HB1.out.trans (hb9.mono HB1.out.size))
              clear hb9 x0 x1 x2 x3 x4 x5 x6 x7 x8
              go_wp2
              go_ret2
              exact outPost_err HF.out HB9.out
            | true =>
              have HF : Hid (RR = resL (currL input S)) := resL_raw (r := (currL input S, sameL (if 0 ≤ l.frm then S.getD l.frm.toNat [] else input) (currL input S))) (by show sameL _ _ = true; rw [hcs0]; exact hs) HRe.out
              rw [hs] at HIt
              clear hs hcs0
              go_wp2_with fail
              refine HIt.out.mono ?_
              rintro e w9 ⟨rfl, hb9⟩
              have HB9 := Lib.hid (HB1.out.trans (hb9.mono HB1.out.size))
              have HA9 := Lib.hid (HA.out.below hb9)
              clear hb9 x0 x1 x2 x3 x4 x5 x6 x7 x8
              go_wp2_with fail
              refine (rResult c HA9.out).mono ?_
              rintro e w3 ⟨⟨a5, c5, rfl, hI5, hc5⟩, hb5⟩
              have HI5 := Lib.hid hI5
              have HC5 := Lib.hid hc5
              have HB5 := Lib.hid hb5
              clear hI5 hc5 hb5
              go_wp2
              go_ret2
              rw [HF.out]
              exact OutPost.up (w1 := w9) ⟨⟨a5, c5, rfl, HI5.out, HC5.out⟩, HB5.out⟩ HB9.out

end Go.Proofs.Ythlmgejikbmmaaa
