/-
  Contracts of the functions that the statement reaches: ModT, ModU, ModV, EvO.
-/
import Derived.Test.YtoppijdedkdjeaaGreatE37
set_option linter.unusedVariables false
set_option linter.unusedSimpArgs false
set_option linter.constructorNameAsVariable false
set_option linter.deprecated false
set_option maxRecDepth 100000
set_option maxHeartbeats 3200000
namespace Go.Proofs.YtoppijdedkdjeaaGreat
open Go.RowKit
open Go.Lib (hid)
theorem resL_raw {r : List Int × Bool} (h : r.2 = true) {R : List Int × Int} (hR : (if r.2 && validL r.1 then (r.1, 0) else ([], 7)) = R) : R = resL r.1 := by
 rw [<- hR, h, Bool.true_and]; rfl
theorem resL_no {r : List Int × Bool} (h : r.2 = false) {R : List Int × Int} (hR : (if r.2 && validL r.1 then (r.1, 0) else ([], 7)) = R) : R = ([], 7) := by
 rw [<- hR, h, Bool.false_and]; rfl
theorem currL_take {input s : List Int} {S : List (List Int)} {j : Nat} (h : S[j]? = some s) : currL input (S.take (j + 1)) = s := by
 have hlt := (List.getElem?_eq_some_iff.1 h).1
 exact currL_last (k := j) (by rw [List.length_take]; omega) (by rw [List.getElem?_take, if_pos (by omega)]; exact h)
theorem OutPost.up {w w1 w' : World} {p : List Int × Int} {e : Ending} (h : OutPost w1 p e w') (hb : Below w.heap.size w w1) : OutPost w p e w' :=
 let ⟨⟨a, c, h1, h2, h3⟩, h4⟩ := h; ⟨⟨a, c, h1, h2.mono (fun _ _ hx => Nat.le_trans hb.size hx), h3⟩, hb.trans (h4.mono hb.size)⟩
theorem ints1_alloc (w : World) (x : Int) (T : Nat) (hx : I64 x) : Ints (w.alloc (.cells #[.int .i64 x] T)) Any (some ⟨w.heap.size, 0, none⟩) [x] := ints1_of hx (by rw [World.cell?_alloc_at _ _ _ _ rfl]; rfl) (by simp)
theorem r13OutA {w : World} {u : Value} {input : List Int} {S : List (List Int)} {l : LayL} {ai ash : Option Addr} (ci cs : Nat) (hi : Ints w Any ai input) (hS : Intss w Any ash S) (hu : LayV w u l) (hr : LayRange l) (hle : LayLe l) (hn : S.length <= 1000) (hk : l.kind = 1 ∨ l.kind = 5 ∨ l.kind = 6) :
  Calls Tryz.prog 54 #[.slice ai input.length ci, .slice ash S.length cs, u] w (OutPost w (outSL input S l)) := by
 obtain ⟨b1, b2, d1, d2, rfl, r1, r2⟩ := hu.ex
 have q1 := hi.len
 have q2 := hS.len
 have q3 := r1.len
 have q4 := r2.len
 have HI := hid hi
 have HS := hid hS
 have HU := hid hu
 have HRg := hid hr
 have HLe := hid hle
 have HN := hid hn
 have HKD := hid hk
 have HVi := hid (fun W (hb : Below w.heap.size w W) => r11Valid ci (hi.below hb))
 generalize hR : outSL input S l = RR
 have HR := hid hR
 unfold outSL at hR
 have HRd := hid hR
 clear hi hS hu r1 r2 hr hle hR hk
 go_enter Tryz.func54, Tryz.ntmps54
 go_upto_region 1 with fail
 have hb0 : Below w.heap.size w (w.alloc (layO l b1 d1 b2 d2 42)) := (Below.refl _ _).alloc (Nat.le_refl _) _
 have hx := Box9.alloc w (.int .i64 l.kind) (.int .i64 l.frm) (.int .i64 l.out) (.int .i64 l.kh) (.int .i64 l.kw) (.int .i64 l.stride) (.int .i64 l.pad) (.slice b1 l.weights.length d1) (.slice b2 l.bias.length d2) 42
 generalize w.alloc (layO l b1 d1 b2 d2 42) = W at *
 have HB0 := hid hb0
 have HX := hid hx
 have HVi2 := hid (HVi.out W hb0)
 clear hb0 hx HVi
 obtain ⟨x0, x1, x2, x3, x4, x5, x6, x7, x8, xlt⟩ := HX.out
 cases hvi : validL input with
 | false =>
  have HF : Hid (RR = ([], 1)) := by unfold Hid; rw [<- HRd.out, hvi]; rfl
  rw [hvi] at HVi2
  clear hvi
  go_wp2_with fail
  refine HVi2.out.mono ?_
  rintro e w' ⟨rfl, rfl⟩
  go_wp2
  go_ret2
  exact outPost_err HF.out HB0.out
 | true =>
  rw [hvi] at HVi2
  have HVI := hid hvi
  clear hvi
  go_wp2_with fail
  refine HVi2.out.mono ?_
  rintro e w' ⟨rfl, rfl⟩
  go_wp2_with fail
  refine (r13valid (HU.out.below HB0.out) HRg.out HLe.out S.length HN.out).mono ?_
  rintro e w1 ⟨rfl, hb1⟩
  have HB1 := hid (HB0.out.trans (hb1.mono HB0.out.size))
  have HX1 := hid (HX.out.below hb1)
  clear hb1 x0 x1 x2 x3 x4 x5 x6 x7 x8 xlt HVi2
  cases hok : (decide (S.length + 1 <= 64) && layOK l S.length) with
  | false =>
   have HF : Hid (RR = ([], 1)) := by unfold Hid; rw [<- HRd.out, hok, Bool.and_false]; rfl
   clear hok
   go_wp2
   go_ret2
   exact outPost_err HF.out HB1.out
  | true =>
   have HOK := hid hok
   clear hok
   go_wp2
   go_loopw [8, 9] (fun u i wr => ∃ (j : Nat) (a : Option Addr) (c : Nat), j <= S.length /\ i = .int .i64 (j : Int) /\ u = .slice a (currL input (S.take j)).length c /\ Hid (Ints w1 Any a (currL input (S.take j))) /\ Hid ((S.take j).all validL = true) /\ Hid (w1 = wr)) (fun _ i _ => S.length - (intOf i).toNat)
   case atStart => exact ⟨0, ai, ci, Nat.zero_le _, rfl, rfl, HI.out.below HB1.out, rfl, rfl⟩
   case round =>
    obtain ⟨j, a, c, hj, rfl, rfl, HA, HV, HW⟩ := hrel
    have ew := HW.out
    clear HW
    subst ew
    by_cases hlt : j < S.length
    ·obtain ⟨bb, off, s, aj, cj, rfl, hcell, hs, _, hIs, hbb, _⟩ := (HS.out.below HB1.out).pickc hlt
     have HTk := hid (allV_takeS hs)
     have HMem := hid (List.mem_of_getElem? hs)
     have HCu := hid (currL_take (input := input) hs)
     have HVs := hid (r11Valid cj hIs)
     have HIs := hid hIs
     have ql := hIs.len
     clear hs hIs
     cases hv : validL s with
     | false =>
      rw [hv] at HVs
      have HF : Hid (RR = ([], 1)) := by
       unfold Hid
       have : S.all validL = false := by rw [List.all_eq_false]; exact ⟨s, HMem.out, by simp [hv]⟩
       rw [<- HRd.out, this, Bool.and_false]; rfl
      clear hv
      go_wp2_with fail
      refine HVs.out.mono ?_
      rintro e w' ⟨rfl, rfl⟩
      go_wp2
      go_ret2
      exact outPost_err HF.out HB1.out
     | true =>
      rw [hv] at HVs
      have HA2 : Hid ((S.take (j + 1)).all validL = true) := by unfold Hid; rw [HTk.out, HV.out, hv]; rfl
      clear hv
      go_wp2_with fail
      refine HVs.out.mono ?_
      rintro e w' ⟨rfl, rfl⟩
      go_wp2
      go_roundw
      case rel => exact ⟨j + 1, aj, cj, hlt, by go_num, by rw [HCu.out], by unfold Hid; rw [HCu.out]; exact HIs.out, HA2.out, by first | rfl | exact True.intro⟩
      case measure => simp [intOf]; omega
    ·obtain rfl : j = S.length := by omega
     have HAl : Hid (S.all validL = true) := by have := HV.out; rwa [List.take_length] at this
     rw [List.take_length] at HA ⊢
     have hcur : validL (currL input S) = true := by
      unfold currL
      cases hg : S.getLast? with
      | none => exact HVI.out
      | some s => exact List.all_eq_true.1 HAl.out s (List.mem_of_getLast? hg)
     have HRe : Hid ((if (rawL input S l).2 && validL (rawL input S l).1 then ((rawL input S l).1, 0) else ([], 7)) = RR) := by
      have h := HRd.out
      rw [HVI.out, HOK.out, HAl.out, Bool.true_and, Bool.true_and, if_pos rfl] at h
      exact h
     have hok2 : layOK l S.length = true := by have := HOK.out; rw [Bool.and_eq_true] at this; exact this.2
     have HOk2 := hid hok2
     have HCur := hid hcur
     have hcs := validL_size hcur
     obtain ⟨z1, z2⟩ := hcs
     have qc := HA.out.len
     have HSz := hid (rSize c HA.out)
     obtain ⟨x0, x1, x2, x3, x4, x5, x6, x7, x8, xlt⟩ := HX1.out
     generalize hz : sizeL (currL input S) = sz at *
     have HZ := hid hz
     clear hcur hok2 hz
     go_wp2_with fail
     refine HSz.out.mono ?_
     rintro e w' ⟨rfl, rfl⟩
     have hk := HKD.out
     rcases hk with hk | hk | hk
     ·have hraw : rawL input S l = ([l.out], decide ((l.weights.length : Int) = l.out * sz)) := by unfold rawL; rw [if_pos hk, HZ.out]
      obtain ⟨o1, o2⟩ := ok_one HOk2.out hk
      rw [hraw] at HRe
      obtain ⟨m1, m2⟩ := mul_bd11 o1 o2 z1 z2
      by_cases he : (l.weights.length : Int) = l.out * sz
      ·have HF : Hid (RR = resL [l.out]) := resL_raw (r := ([l.out], decide ((l.weights.length : Int) = l.out * sz))) (decide_eq_true he) HRe.out
       have t1 : ((l.weights.length : Int) != l.out * sz) = false := by rw [he]; simp
       have t2 : decide (¬ (l.weights.length : Int) = l.out * sz) = false := by simp [he]
       have HAl1 : Hid (∀ W : World, Ints (W.alloc (.cells #[.int .i64 l.out] 3)) Any (some ⟨W.heap.size, 0, none⟩) [l.out]) := fun W => ints1_alloc W l.out _ ⟨by omega, by omega⟩
       clear hraw he HRe
       have k1 : (l.kind == 1) = true := by rw [beq_iff_eq]; omega
       clear hk
       go_wp2_with fail
       refine (rResult 1 (HAl1.out _)).mono ?_
       rintro e w3 ⟨⟨a5, c5, rfl, hI5, hc5⟩, hb5⟩
       have HI5 := hid hI5
       have HC5 := hid hc5
       have HB5 := hid hb5
       clear hI5 hc5 hb5
       go_wp2
       go_ret2
       rw [HF.out]
       exact OutPost.up (w1 := w1.alloc (.cells #[.int .i64 l.out] 3)) ⟨⟨a5, c5, rfl, HI5.out, HC5.out⟩, HB5.out⟩ (HB1.out.alloc HB1.out.size _)
      ·have HF : Hid (RR = ([], 7)) := resL_no (r := ([l.out], decide ((l.weights.length : Int) = l.out * sz))) (decide_eq_false he) HRe.out
       have t1 : ((l.weights.length : Int) != l.out * sz) = true := by rw [bne_iff_ne]; exact he
       have t2 : decide (¬ (l.weights.length : Int) = l.out * sz) = true := by simp [he]
       clear hraw he HRe
       have k1 : (l.kind == 1) = true := by rw [beq_iff_eq]; omega
       clear hk
       go_wp2
       go_ret2
       exact outPost_err HF.out HB1.out
     ·have hraw : rawL input S l = (currL input S, true) := by unfold rawL; rw [if_neg (by omega), if_neg (by omega), if_neg (by omega), if_neg (by omega), if_neg (by omega)]
      have HF : Hid (RR = resL (currL input S)) := resL_raw (r := (currL input S, true)) rfl (by have h := HRe.out; rw [hraw] at h; exact h)
      clear hraw HRe
      have k1 : (l.kind == 1) = false := by rw [beq_eq_false_iff_ne]; omega
      have k2 : (l.kind == 2) = false := by rw [beq_eq_false_iff_ne]; omega
      have k3 : (l.kind == 3) = false := by rw [beq_eq_false_iff_ne]; omega
      have k4 : (l.kind == 4) = false := by rw [beq_eq_false_iff_ne]; omega
      have k6 : (l.kind == 6) = false := by rw [beq_eq_false_iff_ne]; omega
      have k7 : (l.kind == 7) = false := by rw [beq_eq_false_iff_ne]; omega
      clear hk
      go_wp2_with fail
      refine (rResult c HA.out).mono ?_
      rintro e w3 ⟨⟨a5, c5, rfl, hI5, hc5⟩, hb5⟩
      have HI5 := hid hI5
      have HC5 := hid hc5
      have HB5 := hid hb5
      clear hI5 hc5 hb5
      go_wp2
      go_ret2
      rw [HF.out]
      exact OutPost.up (w1 := w1) ⟨⟨a5, c5, rfl, HI5.out, HC5.out⟩, HB5.out⟩ HB1.out
     ·have hraw : rawL input S l = ([sz], true) := by unfold rawL; rw [if_neg (by omega), if_neg (by omega), if_neg (by omega), if_pos hk, HZ.out]
      have HF : Hid (RR = resL [sz]) := resL_raw (r := ([sz], true)) rfl (by have h := HRe.out; rw [hraw] at h; exact h)
      have HAl1 : Hid (∀ W : World, Ints (W.alloc (.cells #[.int .i64 sz] 3)) Any (some ⟨W.heap.size, 0, none⟩) [sz]) := fun W => ints1_alloc W sz _ ⟨by omega, by omega⟩
      clear hraw HRe
      have k1 : (l.kind == 1) = false := by rw [beq_eq_false_iff_ne]; omega
      have k2 : (l.kind == 2) = false := by rw [beq_eq_false_iff_ne]; omega
      have k3 : (l.kind == 3) = false := by rw [beq_eq_false_iff_ne]; omega
      have k4 : (l.kind == 4) = false := by rw [beq_eq_false_iff_ne]; omega
      have k6 : (l.kind == 6) = true := by rw [beq_iff_eq]; omega
      clear hk
      go_wp2_with fail
      refine (rResult 1 (HAl1.out _)).mono ?_
      rintro e w3 ⟨⟨a5, c5, rfl, hI5, hc5⟩, hb5⟩
      have HI5 := hid hI5
      have HC5 := hid hc5
      have HB5 := hid hb5
      clear hI5 hc5 hb5
      go_wp2
      go_ret2
      rw [HF.out]
      exact OutPost.up (w1 := w1.alloc (.cells #[.int .i64 sz] 3)) ⟨⟨a5, c5, rfl, HI5.out, HC5.out⟩, HB5.out⟩ (HB1.out.alloc HB1.out.size _)
theorem r13OutC {w : World} {u : Value} {input : List Int} {S : List (List Int)} {l : LayL} {ai ash : Option Addr} (ci cs : Nat) (hi : Ints w Any ai input) (hS : Intss w Any ash S) (hu : LayV w u l) (hr : LayRange l) (hle : LayLe l) (hn : S.length <= 1000) (hk : l.kind = 7) :
  Calls Tryz.prog 54 #[.slice ai input.length ci, .slice ash S.length cs, u] w (OutPost w (outSL input S l)) := by
 obtain ⟨b1, b2, d1, d2, rfl, r1, r2⟩ := hu.ex
 have q1 := hi.len
 have q2 := hS.len
 have q3 := r1.len
 have q4 := r2.len
 have HI := hid hi
 have HS := hid hS
 have HU := hid hu
 have HRg := hid hr
 have HLe := hid hle
 have HN := hid hn
 have HKD := hid hk
 have HVi := hid (fun W (hb : Below w.heap.size w W) => r11Valid ci (hi.below hb))
 generalize hR : outSL input S l = RR
 have HR := hid hR
 unfold outSL at hR
 have HRd := hid hR
 clear hi hS hu r1 r2 hr hle hR hk
 go_enter Tryz.func54, Tryz.ntmps54
 go_upto_region 1 with fail
 have hb0 : Below w.heap.size w (w.alloc (layO l b1 d1 b2 d2 42)) := (Below.refl _ _).alloc (Nat.le_refl _) _
 have hx := Box9.alloc w (.int .i64 l.kind) (.int .i64 l.frm) (.int .i64 l.out) (.int .i64 l.kh) (.int .i64 l.kw) (.int .i64 l.stride) (.int .i64 l.pad) (.slice b1 l.weights.length d1) (.slice b2 l.bias.length d2) 42
 generalize w.alloc (layO l b1 d1 b2 d2 42) = W at *
 have HB0 := hid hb0
 have HX := hid hx
 have HVi2 := hid (HVi.out W hb0)
 clear hb0 hx HVi
 obtain ⟨x0, x1, x2, x3, x4, x5, x6, x7, x8, xlt⟩ := HX.out
 cases hvi : validL input with
 | false =>
  have HF : Hid (RR = ([], 1)) := by unfold Hid; rw [<- HRd.out, hvi]; rfl
  rw [hvi] at HVi2
  clear hvi
  go_wp2_with fail
  refine HVi2.out.mono ?_
  rintro e w' ⟨rfl, rfl⟩
  go_wp2
  go_ret2
  exact outPost_err HF.out HB0.out
 | true =>
  rw [hvi] at HVi2
  have HVI := hid hvi
  clear hvi
  go_wp2_with fail
  refine HVi2.out.mono ?_
  rintro e w' ⟨rfl, rfl⟩
  go_wp2_with fail
  refine (r13valid (HU.out.below HB0.out) HRg.out HLe.out S.length HN.out).mono ?_
  rintro e w1 ⟨rfl, hb1⟩
  have HB1 := hid (HB0.out.trans (hb1.mono HB0.out.size))
  have HX1 := hid (HX.out.below hb1)
  clear hb1 x0 x1 x2 x3 x4 x5 x6 x7 x8 xlt HVi2
  cases hok : (decide (S.length + 1 <= 64) && layOK l S.length) with
  | false =>
   have HF : Hid (RR = ([], 1)) := by unfold Hid; rw [<- HRd.out, hok, Bool.and_false]; rfl
   clear hok
   go_wp2
   go_ret2
   exact outPost_err HF.out HB1.out
  | true =>
   have HOK := hid hok
   clear hok
   go_wp2
   go_loopw [8, 9] (fun u i wr => ∃ (j : Nat) (a : Option Addr) (c : Nat), j <= S.length /\ i = .int .i64 (j : Int) /\ u = .slice a (currL input (S.take j)).length c /\ Hid (Ints w1 Any a (currL input (S.take j))) /\ Hid ((S.take j).all validL = true) /\ Hid (w1 = wr)) (fun _ i _ => S.length - (intOf i).toNat)
   case atStart => exact ⟨0, ai, ci, Nat.zero_le _, rfl, rfl, HI.out.below HB1.out, rfl, rfl⟩
   case round =>
    obtain ⟨j, a, c, hj, rfl, rfl, HA, HV, HW⟩ := hrel
    have ew := HW.out
    clear HW
    subst ew
    by_cases hlt : j < S.length
    ·obtain ⟨bb, off, s, aj, cj, rfl, hcell, hs, _, hIs, hbb, _⟩ := (HS.out.below HB1.out).pickc hlt
     have HTk := hid (allV_takeS hs)
     have HMem := hid (List.mem_of_getElem? hs)
     have HCu := hid (currL_take (input := input) hs)
     have HVs := hid (r11Valid cj hIs)
     have HIs := hid hIs
     have ql := hIs.len
     clear hs hIs
     cases hv : validL s with
     | false =>
      rw [hv] at HVs
      have HF : Hid (RR = ([], 1)) := by
       unfold Hid
       have : S.all validL = false := by rw [List.all_eq_false]; exact ⟨s, HMem.out, by simp [hv]⟩
       rw [<- HRd.out, this, Bool.and_false]; rfl
      clear hv
      go_wp2_with fail
      refine HVs.out.mono ?_
      rintro e w' ⟨rfl, rfl⟩
      go_wp2
      go_ret2
      exact outPost_err HF.out HB1.out
     | true =>
      rw [hv] at HVs
      have HA2 : Hid ((S.take (j + 1)).all validL = true) := by unfold Hid; rw [HTk.out, HV.out, hv]; rfl
      clear hv
      go_wp2_with fail
      refine HVs.out.mono ?_
      rintro e w' ⟨rfl, rfl⟩
      go_wp2
      go_roundw
      case rel => exact ⟨j + 1, aj, cj, hlt, by go_num, by rw [HCu.out], by unfold Hid; rw [HCu.out]; exact HIs.out, HA2.out, by first | rfl | exact True.intro⟩
      case measure => simp [intOf]; omega
    ·obtain rfl : j = S.length := by omega
     have HAl : Hid (S.all validL = true) := by have := HV.out; rwa [List.take_length] at this
     rw [List.take_length] at HA ⊢
     have hcur : validL (currL input S) = true := by
      unfold currL
      cases hg : S.getLast? with
      | none => exact HVI.out
      | some s => exact List.all_eq_true.1 HAl.out s (List.mem_of_getLast? hg)
     have HRe : Hid ((if (rawL input S l).2 && validL (rawL input S l).1 then ((rawL input S l).1, 0) else ([], 7)) = RR) := by
      have h := HRd.out
      rw [HVI.out, HOK.out, HAl.out, Bool.true_and, Bool.true_and, if_pos rfl] at h
      exact h
     have hok2 : layOK l S.length = true := by have := HOK.out; rw [Bool.and_eq_true] at this; exact this.2
     have HOk2 := hid hok2
     have HCur := hid hcur
     have hcs := validL_size hcur
     obtain ⟨z1, z2⟩ := hcs
     have qc := HA.out.len
     have HSz := hid (rSize c HA.out)
     obtain ⟨x0, x1, x2, x3, x4, x5, x6, x7, x8, xlt⟩ := HX1.out
     generalize hz : sizeL (currL input S) = sz at *
     have HZ := hid hz
     clear hcur hok2 hz
     go_wp2_with fail
     refine HSz.out.mono ?_
     rintro e w' ⟨rfl, rfl⟩
     have hk := HKD.out
     have hraw : rawL input S l = (currL input S, sameL (if 0 <= l.frm then S.getD l.frm.toNat [] else input) (currL input S)) := by unfold rawL; rw [if_neg (by omega), if_neg (by omega), if_neg (by omega), if_neg (by omega), if_pos hk]
     have o1 := ok_seven HOk2.out hk
     rw [hraw] at HRe
     clear hraw
     have k1 : (l.kind == 1) = false := by rw [beq_eq_false_iff_ne]; omega
     have k2 : (l.kind == 2) = false := by rw [beq_eq_false_iff_ne]; omega
     have k3 : (l.kind == 3) = false := by rw [beq_eq_false_iff_ne]; omega
     have k4 : (l.kind == 4) = false := by rw [beq_eq_false_iff_ne]; omega
     have k6 : (l.kind == 6) = false := by rw [beq_eq_false_iff_ne]; omega
     have k7 : (l.kind == 7) = true := by rw [beq_iff_eq]; omega
     clear hk
     have HIn9 : Hid (∀ {x : List Int} {ax : Option Addr} (cx : Nat), Ints w1 Any ax x -> Calls Tryz.prog 50 #[.slice ax x.length cx, .slice a (currL input S).length c] w1 fun e w' => e = .returned (.bool (sameL x (currL input S))) /\ Below w1.heap.size w1 w') := fun cx hx => (rInts cx c hx HA.out).mono fun e1 w' ⟨h1, n, h2⟩ => ⟨h1, h2 ▸ Below.drewN_refl _ _⟩
     by_cases hf : 0 <= l.frm
     ·obtain ⟨k, hkk⟩ : ∃ k : Nat, l.frm = (k : Int) := ⟨l.frm.toNat, by omega⟩
      have hkl : k < S.length := by omega
      obtain ⟨bb, off, o, aj, cj, rfl, hcell, hl, hcj, hIo, hbb, _⟩ := (HS.out.below HB1.out).pickc hkl
      have hcs0 : (if 0 <= l.frm then S.getD l.frm.toNat [] else input) = o := by rw [if_pos hf, hkk, Int.toNat_natCast, List.getD_eq_getElem?_getD, hl]; rfl
      have HIo := hid hIo
      have qo := hIo.len
      have hf2 : (0 : Int) <= (k : Int) := by omega
      rw [hkk] at x1
      have HKK := hid hkk
      clear hl hIo hkk hf o1
      have HIt := hid (HIn9.out cj HIo.out)
      cases hs : sameL o (currL input S) with
      | false =>
       have HF : Hid (RR = ([], 7)) := resL_no (r := (currL input S, sameL (if 0 <= l.frm then S.getD l.frm.toNat [] else input) (currL input S))) (by show sameL _ _ = false; rw [hcs0]; exact hs) HRe.out
       rw [hs] at HIt
       clear hs hcs0
       go_wp2_with fail
       refine HIt.out.mono ?_
       rintro e w' ⟨rfl, hb9⟩
       have HB9 := hid (HB1.out.trans (hb9.mono HB1.out.size))
       clear hb9 x0 x1 x2 x3 x4 x5 x6 x7 x8
       go_wp2
       go_ret2
       exact outPost_err HF.out HB9.out
      | true =>
       have HF : Hid (RR = resL (currL input S)) := resL_raw (r := (currL input S, sameL (if 0 <= l.frm then S.getD l.frm.toNat [] else input) (currL input S))) (by show sameL _ _ = true; rw [hcs0]; exact hs) HRe.out
       rw [hs] at HIt
       clear hs hcs0
       go_wp2_with fail
       refine HIt.out.mono ?_
       rintro e w9 ⟨rfl, hb9⟩
       have HB9 := hid (HB1.out.trans (hb9.mono HB1.out.size))
       have HA9 := hid (HA.out.below hb9)
       clear hb9 x0 x1 x2 x3 x4 x5 x6 x7 x8
       go_wp2_with fail
       refine (rResult c HA9.out).mono ?_
       rintro e w3 ⟨⟨a5, c5, rfl, hI5, hc5⟩, hb5⟩
       have HI5 := hid hI5
       have HC5 := hid hc5
       have HB5 := hid hb5
       clear hI5 hc5 hb5
       go_wp2
       go_ret2
       rw [HF.out]
       exact OutPost.up (w1 := w9) ⟨⟨a5, c5, rfl, HI5.out, HC5.out⟩, HB5.out⟩ HB9.out
     ·have hcs0 : (if 0 <= l.frm then S.getD l.frm.toNat [] else input) = input := if_neg hf
      have HIi := hid (HI.out.below HB1.out)
      clear o1
      have HIt := hid (HIn9.out ci HIi.out)
      cases hs : sameL input (currL input S) with
      | false =>
       have HF : Hid (RR = ([], 7)) := resL_no (r := (currL input S, sameL (if 0 <= l.frm then S.getD l.frm.toNat [] else input) (currL input S))) (by show sameL _ _ = false; rw [hcs0]; exact hs) HRe.out
       rw [hs] at HIt
       clear hs hcs0
       go_wp2_with fail
       refine HIt.out.mono ?_
       rintro e w' ⟨rfl, hb9⟩
       have HB9 := hid (HB1.out.trans (hb9.mono HB1.out.size))
       clear hb9 x0 x1 x2 x3 x4 x5 x6 x7 x8
       go_wp2
       go_ret2
       exact outPost_err HF.out HB9.out
      | true =>
       have HF : Hid (RR = resL (currL input S)) := resL_raw (r := (currL input S, sameL (if 0 <= l.frm then S.getD l.frm.toNat [] else input) (currL input S))) (by show sameL _ _ = true; rw [hcs0]; exact hs) HRe.out
       rw [hs] at HIt
       clear hs hcs0
       go_wp2_with fail
       refine HIt.out.mono ?_
       rintro e w9 ⟨rfl, hb9⟩
       have HB9 := hid (HB1.out.trans (hb9.mono HB1.out.size))
       have HA9 := hid (HA.out.below hb9)
       clear hb9 x0 x1 x2 x3 x4 x5 x6 x7 x8
       go_wp2_with fail
       refine (rResult c HA9.out).mono ?_
       rintro e w3 ⟨⟨a5, c5, rfl, hI5, hc5⟩, hb5⟩
       have HI5 := hid hI5
       have HC5 := hid hc5
       have HB5 := hid hb5
       clear hI5 hc5 hb5
       go_wp2
       go_ret2
       rw [HF.out]
       exact OutPost.up (w1 := w9) ⟨⟨a5, c5, rfl, HI5.out, HC5.out⟩, HB5.out⟩ HB9.out
theorem r13OutB {w : World} {u : Value} {input : List Int} {S : List (List Int)} {l : LayL} {ai ash : Option Addr} (ci cs : Nat) (hi : Ints w Any ai input) (hS : Intss w Any ash S) (hu : LayV w u l) (hr : LayRange l) (hle : LayLe l) (hn : S.length <= 1000) (hk : l.kind = 2 ∨ l.kind = 3 ∨ l.kind = 4) :
  Calls Tryz.prog 54 #[.slice ai input.length ci, .slice ash S.length cs, u] w (OutPost w (outSL input S l)) := by
 obtain ⟨b1, b2, d1, d2, rfl, r1, r2⟩ := hu.ex
 have q1 := hi.len
 have q2 := hS.len
 have q3 := r1.len
 have q4 := r2.len
 have HI := hid hi
 have HS := hid hS
 have HU := hid hu
 have HRg := hid hr
 have HLe := hid hle
 have HN := hid hn
 have HKD := hid hk
 have HVi := hid (fun W (hb : Below w.heap.size w W) => r11Valid ci (hi.below hb))
 generalize hR : outSL input S l = RR
 have HR := hid hR
 unfold outSL at hR
 have HRd := hid hR
 clear hi hS hu r1 r2 hr hle hR hk
 go_enter Tryz.func54, Tryz.ntmps54
 go_upto_region 1 with fail
 have hb0 : Below w.heap.size w (w.alloc (layO l b1 d1 b2 d2 42)) := (Below.refl _ _).alloc (Nat.le_refl _) _
 have hx := Box9.alloc w (.int .i64 l.kind) (.int .i64 l.frm) (.int .i64 l.out) (.int .i64 l.kh) (.int .i64 l.kw) (.int .i64 l.stride) (.int .i64 l.pad) (.slice b1 l.weights.length d1) (.slice b2 l.bias.length d2) 42
 generalize w.alloc (layO l b1 d1 b2 d2 42) = W at *
 have HB0 := hid hb0
 have HX := hid hx
 have HVi2 := hid (HVi.out W hb0)
 clear hb0 hx HVi
 obtain ⟨x0, x1, x2, x3, x4, x5, x6, x7, x8, xlt⟩ := HX.out
 cases hvi : validL input with
 | false =>
  have HF : Hid (RR = ([], 1)) := by unfold Hid; rw [<- HRd.out, hvi]; rfl
  rw [hvi] at HVi2
  clear hvi
  go_wp2_with fail
  refine HVi2.out.mono ?_
  rintro e w' ⟨rfl, rfl⟩
  go_wp2
  go_ret2
  exact outPost_err HF.out HB0.out
 | true =>
  rw [hvi] at HVi2
  have HVI := hid hvi
  clear hvi
  go_wp2_with fail
  refine HVi2.out.mono ?_
  rintro e w' ⟨rfl, rfl⟩
  go_wp2_with fail
  refine (r13valid (HU.out.below HB0.out) HRg.out HLe.out S.length HN.out).mono ?_
  rintro e w1 ⟨rfl, hb1⟩
  have HB1 := hid (HB0.out.trans (hb1.mono HB0.out.size))
  have HX1 := hid (HX.out.below hb1)
  clear hb1 x0 x1 x2 x3 x4 x5 x6 x7 x8 xlt HVi2
  cases hok : (decide (S.length + 1 <= 64) && layOK l S.length) with
  | false =>
   have HF : Hid (RR = ([], 1)) := by unfold Hid; rw [<- HRd.out, hok, Bool.and_false]; rfl
   clear hok
   go_wp2
   go_ret2
   exact outPost_err HF.out HB1.out
  | true =>
   have HOK := hid hok
   clear hok
   go_wp2
   go_loopw [8, 9] (fun u i wr => ∃ (j : Nat) (a : Option Addr) (c : Nat), j <= S.length /\ i = .int .i64 (j : Int) /\ u = .slice a (currL input (S.take j)).length c /\ Hid (Ints w1 Any a (currL input (S.take j))) /\ Hid ((S.take j).all validL = true) /\ Hid (w1 = wr)) (fun _ i _ => S.length - (intOf i).toNat)
   case atStart => exact ⟨0, ai, ci, Nat.zero_le _, rfl, rfl, HI.out.below HB1.out, rfl, rfl⟩
   case round =>
    obtain ⟨j, a, c, hj, rfl, rfl, HA, HV, HW⟩ := hrel
    have ew := HW.out
    clear HW
    subst ew
    by_cases hlt : j < S.length
    ·obtain ⟨bb, off, s, aj, cj, rfl, hcell, hs, _, hIs, hbb, _⟩ := (HS.out.below HB1.out).pickc hlt
     have HTk := hid (allV_takeS hs)
     have HMem := hid (List.mem_of_getElem? hs)
     have HCu := hid (currL_take (input := input) hs)
     have HVs := hid (r11Valid cj hIs)
     have HIs := hid hIs
     have ql := hIs.len
     clear hs hIs
     cases hv : validL s with
     | false =>
      rw [hv] at HVs
      have HF : Hid (RR = ([], 1)) := by
       unfold Hid
       have : S.all validL = false := by rw [List.all_eq_false]; exact ⟨s, HMem.out, by simp [hv]⟩
       rw [<- HRd.out, this, Bool.and_false]; rfl
      clear hv
      go_wp2_with fail
      refine HVs.out.mono ?_
      rintro e w' ⟨rfl, rfl⟩
      go_wp2
      go_ret2
      exact outPost_err HF.out HB1.out
     | true =>
      rw [hv] at HVs
      have HA2 : Hid ((S.take (j + 1)).all validL = true) := by unfold Hid; rw [HTk.out, HV.out, hv]; rfl
      clear hv
      go_wp2_with fail
      refine HVs.out.mono ?_
      rintro e w' ⟨rfl, rfl⟩
      go_wp2
      go_roundw
      case rel => exact ⟨j + 1, aj, cj, hlt, by go_num, by rw [HCu.out], by unfold Hid; rw [HCu.out]; exact HIs.out, HA2.out, by first | rfl | exact True.intro⟩
      case measure => simp [intOf]; omega
    ·obtain rfl : j = S.length := by omega
     have HAl : Hid (S.all validL = true) := by have := HV.out; rwa [List.take_length] at this
     rw [List.take_length] at HA ⊢
     have hcur : validL (currL input S) = true := by
      unfold currL
      cases hg : S.getLast? with
      | none => exact HVI.out
      | some s => exact List.all_eq_true.1 HAl.out s (List.mem_of_getLast? hg)
     have HRe : Hid ((if (rawL input S l).2 && validL (rawL input S l).1 then ((rawL input S l).1, 0) else ([], 7)) = RR) := by
      have h := HRd.out
      rw [HVI.out, HOK.out, HAl.out, Bool.true_and, Bool.true_and, if_pos rfl] at h
      exact h
     have hok2 : layOK l S.length = true := by have := HOK.out; rw [Bool.and_eq_true] at this; exact this.2
     have HOk2 := hid hok2
     have HCur := hid hcur
     have hcs := validL_size hcur
     obtain ⟨z1, z2⟩ := hcs
     have qc := HA.out.len
     have HSz := hid (rSize c HA.out)
     obtain ⟨x0, x1, x2, x3, x4, x5, x6, x7, x8, xlt⟩ := HX1.out
     generalize hz : sizeL (currL input S) = sz at *
     have HZ := hid hz
     clear hcur hok2 hz
     go_wp2_with fail
     refine HSz.out.mono ?_
     rintro e w' ⟨rfl, rfl⟩
     have hk := HKD.out
     have HWn := hid (rWin c l.kh l.kw l.stride l.pad HA.out)
     obtain ⟨⟨y1, y2⟩, y3, y4⟩ := winsL_bd (currL input S) l
     have hlen := (validL_len HCur.out).1
     obtain ⟨bs, os, s0, rfl, cs0, hx0, _, hbs, _, s1, s2⟩ := HA.out.pick2 (k := 0) (by omega)
     have hs0 : (currL input S).getD 0 0 = s0 := by rw [List.getD_eq_getElem?_getD, hx0]; rfl
     have HS0 := hid hs0
     have hs12 : 1 <= s0 /\ s0 <= 16384 := validL_mem HCur.out _ (List.mem_of_getElem? hx0)
     rw [Nat.add_zero] at cs0
     have HC0 := hid cs0
     have HCl := hid hbs
     have HP : Hid (∀ e w', WinPost w1 (currL input S) l.kh l.kw l.stride l.pad e w' -> (∃ a c, e = .returned (.tuple #[.slice a (windowsL (currL input S) l.kh l.kw l.stride l.pad).1.length c, .int .i64 (winsL (currL input S) l).1, .int .i64 (winsL (currL input S) l).2.1, .int .i64 (winsL (currL input S) l).2.2])) /\ Below w1.heap.size w1 w') := fun e w' ⟨a, c, h1, _, h3⟩ => ⟨⟨a, c, h1⟩, h3⟩
     have HWin := hid (HWn.out.mono fun e w' h => HP.out e w' h)
     generalize hZ : winsL (currL input S) l = Z at *
     have HZ2 := hid hZ
     obtain ⟨zR, zC, zE⟩ := Z
     simp only at y1 y2 y3 y4 HWin
     generalize (windowsL (currL input S) l.kh l.kw l.stride l.pad).1.length = wl at *
     have hpos : 0 < (currL input S).length := hlen
     have HP0 := hid hpos
     clear hZ hs0 hx0 cs0 hbs hlen HP HWn
     rcases hk with hk | hk | hk
     ·have hraw : rawL input S l = ([l.out, zR, zC], decide (zE = 0) && decide ((l.weights.length : Int) = l.out * s0 * l.kh * l.kw)) := by unfold rawL; rw [if_neg (by omega), if_pos hk, HZ2.out, HS0.out]
      obtain ⟨⟨o1, o2⟩, ⟨g1, g2⟩, g3, g4⟩ := ok_two HOk2.out hk
      rw [hraw] at HRe
      clear hraw
      have k1 : (l.kind == 1) = false := by rw [beq_eq_false_iff_ne]; omega
      have k2 : (l.kind == 2) = true := by rw [beq_iff_eq]; omega
      clear hk
      by_cases hE : zE = 0
      ·have t1 : (zE != 0) = false := by rw [hE]; rfl
       have t2 : (zE == 0) = true := by rw [hE]; rfl
       have t3 : decide (¬ zE = 0) = false := by simp [hE]
       go_wp2_with fail
       refine HWin.out.mono ?_
       rintro e w2 ⟨⟨aw, cw, rfl⟩, hb2⟩
       have HB2 := hid (HB1.out.trans (hb2.mono HB1.out.size))
       have HX2 := hid (HX1.out.below hb2)
       have hc2 := (hb2.cell (p := ⟨bs, os, none⟩) HCl.out).trans HC0.out
       have hl2 : bs < w2.heap.size := Nat.lt_of_lt_of_le HCl.out hb2.size
       clear hb2 x0 x1 x2 x3 x4 x5 x6 x7 x8 xlt
       obtain ⟨x0, x1, x2, x3, x4, x5, x6, x7, x8, xlt⟩ := HX2.out
       have f0 := ext_cell x0 xlt
       have f2 := ext_cell x2 xlt
       have f3 := ext_cell x3 xlt
       have f4 := ext_cell x4 xlt
       have f7 := ext_cell x7 xlt
       have fs := ext_cell hc2 hl2
       have HHE := hid hE
       clear hE
       obtain ⟨⟨m1, m2⟩, ⟨m3, m4⟩, m5, m6⟩ := conv_bd2 o1 o2 hs12.1 hs12.2 g1 g2 g3 g4
       obtain ⟨p1, hp1⟩ : ∃ p1, l.out * s0 = p1 := ⟨_, rfl⟩
       obtain ⟨p2, hp2⟩ : ∃ p2, p1 * l.kh = p2 := ⟨_, rfl⟩
       obtain ⟨p3, hp3⟩ : ∃ p3, p2 * l.kw = p3 := ⟨_, rfl⟩
       rw [hp1] at m1 m2 m3 m4 m5 m6
       rw [hp2] at m3 m4 m5 m6
       rw [hp3] at m5 m6
       have u1 : IntKind.i64.wrap (l.out * s0) = p1 := by rw [hp1]; exact IntWalk.i64_in _ (by omega)
       have u2 : IntKind.i64.wrap (p1 * l.kh) = p2 := by rw [hp2]; exact IntWalk.i64_in _ (by omega)
       have u3 : IntKind.i64.wrap (p2 * l.kw) = p3 := by rw [hp3]; exact IntWalk.i64_in _ (by omega)
       rw [hp1, hp2, hp3, HHE.out] at HRe
       clear hp1 hp2 hp3 m1 m2 m3 m4 m5 m6
       by_cases he : (l.weights.length : Int) = p3
       ·have HF : Hid (RR = resL [l.out, zR, zC]) := resL_raw (r := ([l.out, zR, zC], decide ((0 : Int) = 0) && decide ((l.weights.length : Int) = p3))) (by simp [he]) HRe.out
        have v1 : ((l.weights.length : Int) != p3) = false := by rw [he]; simp
        have HAl3 : Hid (∀ W : World, Ints (W.alloc (.cells #[.int .i64 l.out, .int .i64 zR, .int .i64 zC] 3)) Any (some ⟨W.heap.size, 0, none⟩) [l.out, zR, zC]) := fun W => ints3_alloc W l.out zR zC _ ⟨by omega, by omega⟩ ⟨by omega, by omega⟩ ⟨by omega, by omega⟩
        clear he HRe
        go_wp2
        refine wp_region_quiet_ext (by kernel_rfl) (by kernel_rfl) ?_
        repeat (go_big_quiet_step (fail))
        refine wpQuiet_nil ?_
        intro _ hw'
        obtain ⟨nq, hw''⟩ := hw'
        subst hw''
        have HB3 := hid (HB2.out.trans ((ext_below w2 nq).mono HB2.out.size))
        have HX3 := hid (HX2.out.below (ext_below w2 nq))
        have hc3 := ((ext_below w2 nq).cell (p := ⟨bs, os, none⟩) hl2).trans hc2
        clear f0 f2 f3 f4 f7 fs x0 x1 x2 x3 x4 x5 x6 x7 x8 xlt hc2 hl2
        generalize ext w2 nq = w8 at *
        obtain ⟨x0, x1, x2, x3, x4, x5, x6, x7, x8, xlt⟩ := HX3.out
        go_wp2_with fail
        refine (rResult 3 (HAl3.out _)).mono ?_
        rintro e w3 ⟨⟨a5, c5, rfl, hI5, hc5⟩, hb5⟩
        have HI5 := hid hI5
        have HC5 := hid hc5
        have HB5 := hid hb5
        clear hI5 hc5 hb5
        go_wp2
        go_ret2
        rw [HF.out]
        exact OutPost.up (w1 := w8.alloc (.cells #[.int .i64 l.out, .int .i64 zR, .int .i64 zC] 3)) ⟨⟨a5, c5, rfl, HI5.out, HC5.out⟩, HB5.out⟩ (HB3.out.alloc HB3.out.size _)
       ·have HF : Hid (RR = ([], 7)) := resL_no (r := ([l.out, zR, zC], decide ((0 : Int) = 0) && decide ((l.weights.length : Int) = p3))) (by simp [he]) HRe.out
        have v1 : ((l.weights.length : Int) != p3) = true := by rw [bne_iff_ne]; exact he
        clear he HRe
        go_wp2
        refine wp_region_quiet_ext (by kernel_rfl) (by kernel_rfl) ?_
        repeat (go_big_quiet_step (fail))
        refine wpQuiet_nil ?_
        intro _ hw'
        obtain ⟨nq, hw''⟩ := hw'
        subst hw''
        have HB3 := hid (HB2.out.trans ((ext_below w2 nq).mono HB2.out.size))
        have HX3 := hid (HX2.out.below (ext_below w2 nq))
        have hc3 := ((ext_below w2 nq).cell (p := ⟨bs, os, none⟩) hl2).trans hc2
        clear f0 f2 f3 f4 f7 fs x0 x1 x2 x3 x4 x5 x6 x7 x8 xlt hc2 hl2
        generalize ext w2 nq = w8 at *
        obtain ⟨x0, x1, x2, x3, x4, x5, x6, x7, x8, xlt⟩ := HX3.out
        go_wp2
        go_ret2
        exact outPost_err HF.out HB3.out
      ·have t1 : (zE != 0) = true := by rw [bne_iff_ne]; exact hE
       have t2 : (zE == 0) = false := by rw [beq_eq_false_iff_ne]; exact hE
       have t3 : decide (¬ zE = 0) = true := by simp [hE]
       have HF : Hid (RR = ([], 7)) := resL_no (r := ([l.out, zR, zC], decide (zE = 0) && decide ((l.weights.length : Int) = l.out * s0 * l.kh * l.kw))) (by simp [hE]) HRe.out
       go_wp2_with fail
       refine HWin.out.mono ?_
       rintro e w2 ⟨⟨aw, cw, rfl⟩, hb2⟩
       have HB2 := hid (HB1.out.trans (hb2.mono HB1.out.size))
       have HX2 := hid (HX1.out.below hb2)
       clear hb2 x0 x1 x2 x3 x4 x5 x6 x7 x8 xlt hE HRe
       go_wp2
       refine wp_region_quiet_ext (by kernel_rfl) (by kernel_rfl) ?_
       repeat (go_big_quiet_step (fail))
       refine wpQuiet_nil ?_
       intro _ hw'
       obtain ⟨nq, hw''⟩ := hw'
       subst hw''
       have HB3 := hid (HB2.out.trans ((ext_below w2 nq).mono HB2.out.size))
       generalize ext w2 nq = w8 at *
       go_wp2
       go_ret2
       exact outPost_err HF.out HB3.out
     ·have hraw : rawL input S l = ([s0, zR, zC], decide (zE = 0)) := by unfold rawL; rw [if_neg (by omega), if_neg (by omega), if_pos (by omega), HZ2.out, HS0.out]
      rw [hraw] at HRe
      clear hraw
      have k1 : (l.kind == 1) = false := by rw [beq_eq_false_iff_ne]; omega
      have k2 : (l.kind == 2) = false := by rw [beq_eq_false_iff_ne]; omega
      have k3 : (l.kind == 3) = true := by rw [beq_iff_eq]; omega
      clear hk
      by_cases hE : zE = 0
      ·have t1 : (zE != 0) = false := by rw [hE]; rfl
       have t2 : (zE == 0) = true := by rw [hE]; rfl
       have t3 : decide (¬ zE = 0) = false := by simp [hE]
       go_wp2_with fail
       refine HWin.out.mono ?_
       rintro e w2 ⟨⟨aw, cw, rfl⟩, hb2⟩
       have HB2 := hid (HB1.out.trans (hb2.mono HB1.out.size))
       have HX2 := hid (HX1.out.below hb2)
       have hc2 := (hb2.cell (p := ⟨bs, os, none⟩) HCl.out).trans HC0.out
       have hl2 : bs < w2.heap.size := Nat.lt_of_lt_of_le HCl.out hb2.size
       clear hb2 x0 x1 x2 x3 x4 x5 x6 x7 x8 xlt
       obtain ⟨x0, x1, x2, x3, x4, x5, x6, x7, x8, xlt⟩ := HX2.out
       have f0 := ext_cell x0 xlt
       have f2 := ext_cell x2 xlt
       have f3 := ext_cell x3 xlt
       have f4 := ext_cell x4 xlt
       have f7 := ext_cell x7 xlt
       have fs := ext_cell hc2 hl2
       have HHE := hid hE
       clear hE
       have HF : Hid (RR = resL [s0, zR, zC]) := resL_raw (r := ([s0, zR, zC], decide (zE = 0))) (decide_eq_true HHE.out) HRe.out
       have HAl3 : Hid (∀ W : World, Ints (W.alloc (.cells #[.int .i64 s0, .int .i64 zR, .int .i64 zC] 3)) Any (some ⟨W.heap.size, 0, none⟩) [s0, zR, zC]) := fun W => ints3_alloc W s0 zR zC _ ⟨s1, s2⟩ ⟨by omega, by omega⟩ ⟨by omega, by omega⟩
       clear HRe
       go_wp2
       refine wp_region_quiet_ext (by kernel_rfl) (by kernel_rfl) ?_
       repeat (go_big_quiet_step (fail))
       refine wpQuiet_nil ?_
       intro _ hw'
       obtain ⟨nq, hw''⟩ := hw'
       subst hw''
       have HB3 := hid (HB2.out.trans ((ext_below w2 nq).mono HB2.out.size))
       have HX3 := hid (HX2.out.below (ext_below w2 nq))
       have hc3 := ((ext_below w2 nq).cell (p := ⟨bs, os, none⟩) hl2).trans hc2
       clear f0 f2 f3 f4 f7 fs x0 x1 x2 x3 x4 x5 x6 x7 x8 xlt hc2 hl2
       generalize ext w2 nq = w8 at *
       obtain ⟨x0, x1, x2, x3, x4, x5, x6, x7, x8, xlt⟩ := HX3.out
       go_wp2_with fail
       refine (rResult 3 (HAl3.out _)).mono ?_
       rintro e w3 ⟨⟨a5, c5, rfl, hI5, hc5⟩, hb5⟩
       have HI5 := hid hI5
       have HC5 := hid hc5
       have HB5 := hid hb5
       clear hI5 hc5 hb5
       go_wp2
       go_ret2
       rw [HF.out]
       exact OutPost.up (w1 := w8.alloc (.cells #[.int .i64 s0, .int .i64 zR, .int .i64 zC] 3)) ⟨⟨a5, c5, rfl, HI5.out, HC5.out⟩, HB5.out⟩ (HB3.out.alloc HB3.out.size _)
      ·have t1 : (zE != 0) = true := by rw [bne_iff_ne]; exact hE
       have t2 : (zE == 0) = false := by rw [beq_eq_false_iff_ne]; exact hE
       have t3 : decide (¬ zE = 0) = true := by simp [hE]
       have HF : Hid (RR = ([], 7)) := resL_no (r := ([s0, zR, zC], decide (zE = 0))) (by simp [hE]) HRe.out
       go_wp2_with fail
       refine HWin.out.mono ?_
       rintro e w2 ⟨⟨aw, cw, rfl⟩, hb2⟩
       have HB2 := hid (HB1.out.trans (hb2.mono HB1.out.size))
       have HX2 := hid (HX1.out.below hb2)
       clear hb2 x0 x1 x2 x3 x4 x5 x6 x7 x8 xlt hE HRe
       go_wp2
       refine wp_region_quiet_ext (by kernel_rfl) (by kernel_rfl) ?_
       repeat (go_big_quiet_step (fail))
       refine wpQuiet_nil ?_
       intro _ hw'
       obtain ⟨nq, hw''⟩ := hw'
       subst hw''
       have HB3 := hid (HB2.out.trans ((ext_below w2 nq).mono HB2.out.size))
       generalize ext w2 nq = w8 at *
       go_wp2
       go_ret2
       exact outPost_err HF.out HB3.out
     ·have hraw : rawL input S l = ([s0, zR, zC], decide (zE = 0)) := by unfold rawL; rw [if_neg (by omega), if_neg (by omega), if_pos (by omega), HZ2.out, HS0.out]
      rw [hraw] at HRe
      clear hraw
      have k1 : (l.kind == 1) = false := by rw [beq_eq_false_iff_ne]; omega
      have k2 : (l.kind == 2) = false := by rw [beq_eq_false_iff_ne]; omega
      have k3 : (l.kind == 3) = false := by rw [beq_eq_false_iff_ne]; omega
      have k4 : (l.kind == 4) = true := by rw [beq_iff_eq]; omega
      clear hk
      by_cases hE : zE = 0
      ·have t1 : (zE != 0) = false := by rw [hE]; rfl
       have t2 : (zE == 0) = true := by rw [hE]; rfl
       have t3 : decide (¬ zE = 0) = false := by simp [hE]
       go_wp2_with fail
       refine HWin.out.mono ?_
       rintro e w2 ⟨⟨aw, cw, rfl⟩, hb2⟩
       have HB2 := hid (HB1.out.trans (hb2.mono HB1.out.size))
       have HX2 := hid (HX1.out.below hb2)
       have hc2 := (hb2.cell (p := ⟨bs, os, none⟩) HCl.out).trans HC0.out
       have hl2 : bs < w2.heap.size := Nat.lt_of_lt_of_le HCl.out hb2.size
       clear hb2 x0 x1 x2 x3 x4 x5 x6 x7 x8 xlt
       obtain ⟨x0, x1, x2, x3, x4, x5, x6, x7, x8, xlt⟩ := HX2.out
       have f0 := ext_cell x0 xlt
       have f2 := ext_cell x2 xlt
       have f3 := ext_cell x3 xlt
       have f4 := ext_cell x4 xlt
       have f7 := ext_cell x7 xlt
       have fs := ext_cell hc2 hl2
       have HHE := hid hE
       clear hE
       have HF : Hid (RR = resL [s0, zR, zC]) := resL_raw (r := ([s0, zR, zC], decide (zE = 0))) (decide_eq_true HHE.out) HRe.out
       have HAl3 : Hid (∀ W : World, Ints (W.alloc (.cells #[.int .i64 s0, .int .i64 zR, .int .i64 zC] 3)) Any (some ⟨W.heap.size, 0, none⟩) [s0, zR, zC]) := fun W => ints3_alloc W s0 zR zC _ ⟨s1, s2⟩ ⟨by omega, by omega⟩ ⟨by omega, by omega⟩
       clear HRe
       go_wp2
       refine wp_region_quiet_ext (by kernel_rfl) (by kernel_rfl) ?_
       repeat (go_big_quiet_step (fail))
       refine wpQuiet_nil ?_
       intro _ hw'
       obtain ⟨nq, hw''⟩ := hw'
       subst hw''
       have HB3 := hid (HB2.out.trans ((ext_below w2 nq).mono HB2.out.size))
       have HX3 := hid (HX2.out.below (ext_below w2 nq))
       have hc3 := ((ext_below w2 nq).cell (p := ⟨bs, os, none⟩) hl2).trans hc2
       clear f0 f2 f3 f4 f7 fs x0 x1 x2 x3 x4 x5 x6 x7 x8 xlt hc2 hl2
       generalize ext w2 nq = w8 at *
       obtain ⟨x0, x1, x2, x3, x4, x5, x6, x7, x8, xlt⟩ := HX3.out
       go_wp2_with fail
       refine (rResult 3 (HAl3.out _)).mono ?_
       rintro e w3 ⟨⟨a5, c5, rfl, hI5, hc5⟩, hb5⟩
       have HI5 := hid hI5
       have HC5 := hid hc5
       have HB5 := hid hb5
       clear hI5 hc5 hb5
       go_wp2
       go_ret2
       rw [HF.out]
       exact OutPost.up (w1 := w8.alloc (.cells #[.int .i64 s0, .int .i64 zR, .int .i64 zC] 3)) ⟨⟨a5, c5, rfl, HI5.out, HC5.out⟩, HB5.out⟩ (HB3.out.alloc HB3.out.size _)
      ·have t1 : (zE != 0) = true := by rw [bne_iff_ne]; exact hE
       have t2 : (zE == 0) = false := by rw [beq_eq_false_iff_ne]; exact hE
       have t3 : decide (¬ zE = 0) = true := by simp [hE]
       have HF : Hid (RR = ([], 7)) := resL_no (r := ([s0, zR, zC], decide (zE = 0))) (by simp [hE]) HRe.out
       go_wp2_with fail
       refine HWin.out.mono ?_
       rintro e w2 ⟨⟨aw, cw, rfl⟩, hb2⟩
       have HB2 := hid (HB1.out.trans (hb2.mono HB1.out.size))
       have HX2 := hid (HX1.out.below hb2)
       clear hb2 x0 x1 x2 x3 x4 x5 x6 x7 x8 xlt hE HRe
       go_wp2
       refine wp_region_quiet_ext (by kernel_rfl) (by kernel_rfl) ?_
       repeat (go_big_quiet_step (fail))
       refine wpQuiet_nil ?_
       intro _ hw'
       obtain ⟨nq, hw''⟩ := hw'
       subst hw''
       have HB3 := hid (HB2.out.trans ((ext_below w2 nq).mono HB2.out.size))
       generalize ext w2 nq = w8 at *
       go_wp2
       go_ret2
       exact outPost_err HF.out HB3.out
theorem r13OutN {w : World} {u : Value} {input : List Int} {S : List (List Int)} {l : LayL} {ai ash : Option Addr} (ci cs : Nat) (hi : Ints w Any ai input) (hS : Intss w Any ash S) (hu : LayV w u l) (hr : LayRange l) (hle : LayLe l) (hn : S.length <= 1000) (hk : ¬ (1 <= l.kind /\ l.kind <= 7)) :
  Calls Tryz.prog 54 #[.slice ai input.length ci, .slice ash S.length cs, u] w (OutPost w (outSL input S l)) := by
 obtain ⟨b1, b2, d1, d2, rfl, r1, r2⟩ := hu.ex
 have q1 := hi.len
 have q2 := hS.len
 have q3 := r1.len
 have q4 := r2.len
 have HI := hid hi
 have HS := hid hS
 have HU := hid hu
 have HRg := hid hr
 have HLe := hid hle
 have HN := hid hn
 have HKD := hid hk
 have HVi := hid (fun W (hb : Below w.heap.size w W) => r11Valid ci (hi.below hb))
 generalize hR : outSL input S l = RR
 have HR := hid hR
 unfold outSL at hR
 have HRd := hid hR
 clear hi hS hu r1 r2 hr hle hR hk
 go_enter Tryz.func54, Tryz.ntmps54
 go_upto_region 1 with fail
 have hb0 : Below w.heap.size w (w.alloc (layO l b1 d1 b2 d2 42)) := (Below.refl _ _).alloc (Nat.le_refl _) _
 have hx := Box9.alloc w (.int .i64 l.kind) (.int .i64 l.frm) (.int .i64 l.out) (.int .i64 l.kh) (.int .i64 l.kw) (.int .i64 l.stride) (.int .i64 l.pad) (.slice b1 l.weights.length d1) (.slice b2 l.bias.length d2) 42
 generalize w.alloc (layO l b1 d1 b2 d2 42) = W at *
 have HB0 := hid hb0
 have HX := hid hx
 have HVi2 := hid (HVi.out W hb0)
 clear hb0 hx HVi
 obtain ⟨x0, x1, x2, x3, x4, x5, x6, x7, x8, xlt⟩ := HX.out
 cases hvi : validL input with
 | false =>
  have HF : Hid (RR = ([], 1)) := by unfold Hid; rw [<- HRd.out, hvi]; rfl
  rw [hvi] at HVi2
  clear hvi
  go_wp2_with fail
  refine HVi2.out.mono ?_
  rintro e w' ⟨rfl, rfl⟩
  go_wp2
  go_ret2
  exact outPost_err HF.out HB0.out
 | true =>
  rw [hvi] at HVi2
  have HVI := hid hvi
  clear hvi
  go_wp2_with fail
  refine HVi2.out.mono ?_
  rintro e w' ⟨rfl, rfl⟩
  go_wp2_with fail
  refine (r13valid (HU.out.below HB0.out) HRg.out HLe.out S.length HN.out).mono ?_
  rintro e w1 ⟨rfl, hb1⟩
  have HB1 := hid (HB0.out.trans (hb1.mono HB0.out.size))
  have HX1 := hid (HX.out.below hb1)
  clear hb1 x0 x1 x2 x3 x4 x5 x6 x7 x8 xlt HVi2
  have hok : (decide (S.length + 1 <= 64) && layOK l S.length) = false := by unfold layOK; rw [condL_none l _ HKD.out]; simp
  have HF : Hid (RR = ([], 1)) := by unfold Hid; rw [<- HRd.out, hok, Bool.and_false]; rfl
  rw [hok]
  clear hok
  go_wp2
  go_ret2
  exact outPost_err HF.out HB1.out
theorem r13Out {w : World} {u : Value} {input : List Int} {S : List (List Int)} {l : LayL} {ai ash : Option Addr} (ci cs : Nat) (hi : Ints w Any ai input) (hS : Intss w Any ash S) (hu : LayV w u l) (hr : LayRange l) (hle : LayLe l) (hn : S.length <= 1000) :
  Calls Tryz.prog 54 #[.slice ai input.length ci, .slice ash S.length cs, u] w (OutPost w (outSL input S l)) := by
 by_cases hk : 1 <= l.kind /\ l.kind <= 7
 ·have : (l.kind = 1 ∨ l.kind = 5 ∨ l.kind = 6) ∨ (l.kind = 2 ∨ l.kind = 3 ∨ l.kind = 4) ∨ l.kind = 7 := by omega
  rcases this with h | h | h
  ·exact r13OutA ci cs hi hS hu hr hle hn h
  ·exact r13OutB ci cs hi hS hu hr hle hn h
  ·exact r13OutC ci cs hi hS hu hr hle hn h
 ·exact r13OutN ci cs hi hS hu hr hle hn hk
theorem S11_keep {W w1 : World} {p bl o : Nat} {q0 q1 p0 p1 p2 p3 p4 p5 p6 p7 p8 : Value} (hh : Box2 W p q0 q1) (hbl : bl < W.heap.size)
  (hc : W.cell? ⟨bl, o, none⟩ = some p0 /\ W.cell? ⟨bl, o + 1, none⟩ = some p1 /\ W.cell? ⟨bl, o + 2, none⟩ = some p2 /\ W.cell? ⟨bl, o + 3, none⟩ = some p3 /\ W.cell? ⟨bl, o + 4, none⟩ = some p4 /\ W.cell? ⟨bl, o + 5, none⟩ = some p5 /\ W.cell? ⟨bl, o + 6, none⟩ = some p6 /\ W.cell? ⟨bl, o + 7, none⟩ = some p7 /\ W.cell? ⟨bl, o + 8, none⟩ = some p8) (hb : Below W.heap.size W w1) :
  w1.cell? ⟨p, 0, none⟩ = some q0 /\ w1.cell? ⟨p, 1, none⟩ = some q1 /\ w1.cell? ⟨bl, o, none⟩ = some p0 /\ w1.cell? ⟨bl, o + 1, none⟩ = some p1 /\ w1.cell? ⟨bl, o + 2, none⟩ = some p2 /\ w1.cell? ⟨bl, o + 3, none⟩ = some p3 /\ w1.cell? ⟨bl, o + 4, none⟩ = some p4 /\ w1.cell? ⟨bl, o + 5, none⟩ = some p5 /\ w1.cell? ⟨bl, o + 6, none⟩ = some p6 /\ w1.cell? ⟨bl, o + 7, none⟩ = some p7 /\ w1.cell? ⟨bl, o + 8, none⟩ = some p8 := by
 obtain ⟨h0, h1, h2, h3, h4, h5, h6, h7, h8⟩ := hc
 exact ⟨(hb.cell hh.lt).trans hh.c0, (hb.cell hh.lt).trans hh.c1, (hb.cell hbl).trans h0, (hb.cell hbl).trans h1, (hb.cell hbl).trans h2, (hb.cell hbl).trans h3, (hb.cell hbl).trans h4, (hb.cell hbl).trans h5, (hb.cell hbl).trans h6, (hb.cell hbl).trans h7, (hb.cell hbl).trans h8⟩
theorem r13Of {w : World} {m : ModL} {a1 a2 : Option Addr} (c1 c2 : Nat) (h1 : Ints w Any a1 m.input) (h2 : LaysAt w a2 m.layers) (hr : ∀ l ∈ m.layers, LayRange l) (hs : ∀ l ∈ m.layers, LayLe l) :
  Calls Tryz.prog 29 #[.agg #[.slice a1 m.input.length c1, .slice a2 m.layers.length c2]] w (OfPost w (shapesL m)) := by
 have q1 := h1.len
 have q2 := h2.len
 have H1 := hid h1
 have H2 := hid h2
 have HRg := hid hr
 have HSh := hid hs
 generalize hR : shapesL m = RR
 have HR := hid hR
 unfold shapesL at hR
 have HRd := hid hR
 clear h1 h2 hr hs hR
 go_enter Tryz.func29, Tryz.ntmps29
 go_upto_region 1 with fail
 have hb0 : Below w.heap.size w (w.alloc (.cells #[.slice a1 m.input.length c1, .slice a2 m.layers.length c2] 25)) := (Below.refl _ _).alloc (Nat.le_refl _) _
 have hx := Box2.alloc w (.slice a1 m.input.length c1) (.slice a2 m.layers.length c2) 25
 generalize w.alloc (.cells #[.slice a1 m.input.length c1, .slice a2 m.layers.length c2] 25) = W at *
 have HB0 := hid hb0
 have HX := hid hx
 obtain ⟨x0, x1, xf, xlt⟩ := hx
 clear hb0
 go_wp2_with fail
 refine (r12Valid c1 c2 (H1.out.below HB0.out) (H2.out.below HB0.out) HRg.out HSh.out).mono ?_
 rintro e w1 ⟨rfl, hb1⟩
 have HX1 := hid (HX.out.below hb1)
 have HB1 := hid (HB0.out.trans (hb1.mono HB0.out.size))
 clear hb1 x0 x1 xf xlt
 cases hvm : validM m with
 | false =>
  have HF : Hid (RR = ([], 0, 1)) := by unfold Hid; rw [<- HRd.out, hvm]; rfl
  clear hvm
  go_wp2
  refine bodyPost_ret (results_tmp3 rfl _ _ _) rfl ?_
  exact ofPost_err HF.out HB1.out
 | true =>
  have HRe : Hid (shapesFrom m.input [] m.layers = RR) := by have := HRd.out; rw [hvm, if_pos rfl] at this; exact this
  have hv := validM_at hvm
  have HL64 := hid hv.2.1
  have hl64 := hv.2.1
  have HVI := hid hv.1
  have HAt := hid hv.2.2
  obtain ⟨x0, x1, xf, xlt⟩ := HX1.out
  clear hvm hv
  go_wp2
  clear x0 x1 xf xlt
  go_loopw [5, 6] (fun u i wr => ∃ (j : Nat) (xs : List Value) (T : List (List Int)), j <= m.layers.length /\ i = .int .i64 (j : Int) /\ Hid (T.length = j) /\ Hid (shapesFrom m.input T (m.layers.drop j) = RR) /\ Hid (T.all validL = true) /\ Hid (OwnSS wr w1.heap.size 22 u xs T) /\ Hid (Below w1.heap.size w1 wr)) (fun _ i _ => m.layers.length - (intOf i).toNat)
  case atStart => exact ⟨0, [], [], Nat.zero_le _, rfl, rfl, HRe.out, rfl, OwnSS.nil _ _ _, Below.refl _ _⟩
  case round =>
   obtain ⟨j, xs, T, hj, rfl, HTl, HS, HTv, HOw, HB⟩ := hrel
   have hbw := HB1.out.trans (HB.out.mono HB1.out.size)
   obtain ⟨av, cv, hu, hT⟩ := HOw.out.intss (by rw [HTl.out]; omega)
   rw [HTl.out] at hu
   subst hu
   by_cases hlt : j < m.layers.length
   ·obtain ⟨x0, x1, xf, xlt⟩ := HX1.out.below HB.out
    obtain ⟨bl, ol, l, rfl, hbl, hl, b1, b2, d1, d2, ⟨l0, l1, l2, l3, l4, l5, l6, l7, l8⟩, r1, r2⟩ := (H2.out.below hbw).pick hlt
    have hmem := List.mem_of_getElem? hl
    have hdrop : m.layers.drop j = l :: m.layers.drop (j + 1) := by
     rw [List.drop_eq_getElem_cons hlt]
     congr 1
     rw [List.getElem?_eq_getElem hlt] at hl
     exact Option.some.inj hl
    have HStep : Hid ((if (outSL m.input T l).2 = 0 then shapesFrom m.input (T ++ [(outSL m.input T l).1]) (m.layers.drop (j + 1)) else ([], (j : Int), (outSL m.input T l).2)) = RR) := by
     have := HS.out
     rw [hdrop, shapesFrom_cons, HTl.out] at this
     exact this
    have HO := hid (fun W (hb : Below wr.heap.size wr W) => r13Out (w := W) (u := .agg #[.int .i64 l.kind, .int .i64 l.frm, .int .i64 l.out, .int .i64 l.kh, .int .i64 l.kw, .int .i64 l.stride, .int .i64 l.pad, .slice b1 l.weights.length d1, .slice b2 l.bias.length d2]) c1 cv (H1.out.below (hbw.trans (hb.mono hbw.size))) ((hT.mono (F' := Any) (fun _ _ _ => trivial)).below hb) ⟨b1, b2, d1, d2, rfl, r1.below hb, r2.below hb⟩ (HRg.out l hmem) (HSh.out l hmem) (by rw [HTl.out]; omega))
    have hlay := HAt.out j l hl
    have HSev : Hid ((outSL m.input T l).2 ≠ 0 -> (outSL m.input T l).2 = 7) := fun h => outSL_seven HVI.out (by rw [HTl.out]; omega) (by rw [HTl.out]; exact hlay) HTv.out h
    have HVal : Hid ((outSL m.input T l).2 = 0 -> validL (outSL m.input T l).1 = true) := fun h => outSL_valid h
    have p1 := r1.len
    have p2 := r2.len
    have HLy : Hid (LayAt wr bl (ol + j * 9) l /\ bl < wr.heap.size /\ Box2 wr w.heap.size (.slice a1 m.input.length c1) (.slice (some ⟨bl, ol, none⟩) m.layers.length c2)) := ⟨⟨b1, b2, d1, d2, ⟨l0, l1, l2, l3, l4, l5, l6, l7, l8⟩, r1, r2⟩, hbl, HX1.out.below HB.out⟩
    have HCe : Hid (wr.cell? ⟨bl, ol + j * 9, none⟩ = some (.int .i64 l.kind) /\ wr.cell? ⟨bl, ol + j * 9 + 1, none⟩ = some (.int .i64 l.frm) /\ wr.cell? ⟨bl, ol + j * 9 + 2, none⟩ = some (.int .i64 l.out) /\ wr.cell? ⟨bl, ol + j * 9 + 3, none⟩ = some (.int .i64 l.kh) /\ wr.cell? ⟨bl, ol + j * 9 + 4, none⟩ = some (.int .i64 l.kw) /\ wr.cell? ⟨bl, ol + j * 9 + 5, none⟩ = some (.int .i64 l.stride) /\ wr.cell? ⟨bl, ol + j * 9 + 6, none⟩ = some (.int .i64 l.pad) /\ wr.cell? ⟨bl, ol + j * 9 + 7, none⟩ = some (.slice b1 l.weights.length d1) /\ wr.cell? ⟨bl, ol + j * 9 + 8, none⟩ = some (.slice b2 l.bias.length d2)) := ⟨l0, l1, l2, l3, l4, l5, l6, l7, l8⟩
    rw [HTl.out] at HO
    have HO2 := hid (fun W (hb : Below wr.heap.size wr W) => (HO.out W hb).mono fun e w' (h : OutPost W (outSL m.input T l) e w') => (⟨h, hb.trans (h.2.mono hb.size)⟩ : OutPost W (outSL m.input T l) e w' /\ Below wr.heap.size wr w'))
    have xbl : Below wr.heap.size wr wr.drew := (Below.refl _ _).drew
    have hli : (0 : Int) <= (j : Int) := by omega
    have hli2 : (j : Int) < (m.layers.length : Int) := by omega
    generalize outSL m.input T l = P at *
    obtain ⟨o, er⟩ := P
    simp only at HStep HSev HVal
    have hjm : j * 9 = j * 9 := rfl
    clear hmem hl hdrop hbw hT r1 r2 HS hlay HO l0 l1 l2 l3 l4 l5 l6 l7 l8 hjm
    go_upto_region 7 with fail
    clear x0 x1 xf xlt
    go_region_held3 (fun w' => w'.cell? ⟨w.heap.size, 0, none⟩ = some (.slice a1 m.input.length c1) /\ w'.cell? ⟨w.heap.size, 1, none⟩ = some (.slice (some ⟨bl, ol, none⟩) m.layers.length c2) /\ w'.cell? ⟨bl, ol + j * 9, none⟩ = some (.int .i64 l.kind) /\ w'.cell? ⟨bl, ol + j * 9 + 1, none⟩ = some (.int .i64 l.frm) /\ w'.cell? ⟨bl, ol + j * 9 + 2, none⟩ = some (.int .i64 l.out) /\ w'.cell? ⟨bl, ol + j * 9 + 3, none⟩ = some (.int .i64 l.kh) /\ w'.cell? ⟨bl, ol + j * 9 + 4, none⟩ = some (.int .i64 l.kw) /\ w'.cell? ⟨bl, ol + j * 9 + 5, none⟩ = some (.int .i64 l.stride) /\ w'.cell? ⟨bl, ol + j * 9 + 6, none⟩ = some (.int .i64 l.pad) /\ w'.cell? ⟨bl, ol + j * 9 + 7, none⟩ = some (.slice b1 l.weights.length d1) /\ w'.cell? ⟨bl, ol + j * 9 + 8, none⟩ = some (.slice b2 l.bias.length d2))
     (first | exact S11_keep HLy.out.2.2 HLy.out.2.1 HCe.out (by assumption))
     (first
      | (go_at_call 54; refine (HO2.out _ ?hb).mono ?_
         case hb => assumption
         rintro e w2 ⟨⟨⟨a5, c5, rfl, hI5, hc5⟩, hb9⟩, p3⟩))
    all_goals
    have hb2 : Below wr.heap.size wr w2 := p3
    have HB2 := hid (HB.out.trans (hb2.mono HB.out.size))
    have HOw2 := hid (HOw.out.frame hb2)
    have HI5 := hid hI5
    have HC5 := hid hc5
    have HLt : Hid (∀ b, (Value.slice av j cv).ownBlock = some b -> b < wr.heap.size) := fun b hb => HOw.out.lt b hb
    have hgeV : Hid (w1.heap.size <= wr.heap.size) := HB.out.size
    have HX2 := hid (HX1.out.below HB2.out)
    clear hI5 hc5 hb2 p3 hb9 HO2 xbl HLy HCe
    by_cases he : er = 0
    ·have HStep2 : Hid (shapesFrom m.input (T ++ [o]) (m.layers.drop (j + 1)) = RR) := by have := HStep.out; rw [if_pos he] at this; exact this
     have t1 : (er != 0) = false := by rw [he]; rfl
     have t2 : (er == 0) = true := by rw [he]; rfl
     have t3 : decide (¬ er = 0) = false := by simp [he]
     have HTj := hid (show j < 64 by omega)
     have HV2 := hid (HVal.out he)
     clear he
     go_wp2_with (at_builtin; refine wpList_app1 rfl (.tmp 34) (.tmp 36) 59 rfl w1.heap.size 22 (.slice none 0 0) 24 Tryz.underlying59 (by kernel_rfl) rfl (.slice av j cv) j xs rfl (by have h := HOw2.out.own; rw [HTl.out] at h; exact h) (.slice a5 o.length c5) rfl rfl (by have := HTj.out; omega) (by have := HTj.out; unfold maxLen; omega) (by exact HB2.out.size) ?_; intro v' w' hown hg hn2; have HOwn := hid hown; have HG := hid hg; have HN2 := hid hn2; clear hown hg hn2)
     have happ := HOw2.out.app (l := o) HI5.out HC5.out (fun b hb => ⟨Nat.le_trans hgeV.out hb, fun e => by have := HLt.out b e; have h2 : wr.heap.size <= b := hb; omega⟩) (by rw [HTl.out]; exact HOwn.out) HG.out HN2.out
     have HApp := hid happ
     have HB3 := hid (HB2.out.grown HG.out HB2.out.size (fun k hk => (HOw2.out.own.lt k hk).1))
     clear happ
     go_roundw
     case rel => exact ⟨j + 1, _, T ++ [o], hlt, by go_num, by unfold Hid; rw [List.length_append, HTl.out]; rfl, HStep2.out, by unfold Hid; rw [List.all_append, HTv.out, List.all_cons, List.all_nil, HV2.out]; rfl, HApp.out, HB3.out⟩
     case measure => simp [intOf]; omega
    ·have HF : Hid (RR = ([], (j : Int), 7)) := by unfold Hid; rw [<- HStep.out, if_neg he, HSev.out he]
     have t1 : (er != 0) = true := by rw [bne_iff_ne]; exact he
     have t2 : (er == 0) = false := by rw [beq_eq_false_iff_ne]; exact he
     have t3 : decide (¬ er = 0) = true := by simp [he]
     clear he
     go_wp2
     refine bodyPost_ret (results_tmp3 rfl _ _ _) rfl ?_
     exact ofPost_err HF.out (HB1.out.trans (HB2.out.mono HB1.out.size))
   ·obtain rfl : j = m.layers.length := by omega
    have HF : Hid (RR = (T, 0, 0)) := by
     have h := HS.out
     rw [List.drop_length] at h
     exact h.symm
    have HT := hid hT
    have HBw := hid hbw
    obtain ⟨x0, x1, xf, xlt⟩ := HX1.out.below HB.out
    clear hT hbw
    go_wp2
    refine bodyPost_ret (results_tmp3 rfl _ _ _) rfl ?_
    rw [HF.out]
    exact ⟨⟨av, cv, by simp only [HTl.out]; rfl, HT.out.mono (fun b _ hb => Nat.le_trans HB1.out.size hb)⟩, HBw.out⟩
theorem results_tmp2 {fn : Func} {t u : Tmp} (h : fn.results = #[.tmp t, .tmp u]) (tmps : Array Value) (P : Program) (w : World) :
  (results fn tmps).run P w = .ok (.tuple #[tmps.getD t undef, tmps.getD u undef]) w := by
 simp [results, h]
end Go.Proofs.YtoppijdedkdjeaaGreat
