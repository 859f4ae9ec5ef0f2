/-
  Contracts of the functions that the statements reach, in the order in which they are built: RKA.
-/
import Derived.Test.YthlmgejikbmmaaaM29
import Derived.Test.YthlmgejikbmmaaaM14
set_option linter.unusedVariables false
set_option linter.unusedSimpArgs false
set_option linter.constructorNameAsVariable false
set_option linter.deprecated false

/-
  Plain laws for the reference of layer 54: comparing numbers by their fields and by their values; one operation of a kernel, checked. No program in sight.
-/
namespace Go.Proofs.Ythlmgejikbmmaaa
open Go.RowKit

theorem ratOf_lt (x y : RatL) : ratOf x < ratOf y ↔ sgn x.neg (lval x.num * underN y.den) < sgn y.neg (lval y.num * underN x.den) := by
  have h : ratOf y - ratOf x = mkRat (sgn y.neg (lval y.num * underN x.den) + sgn (!x.neg) (lval x.num * underN y.den)) (underN y.den * underN x.den) := by
    rw [addQ _ _ _ _ (underN_pos _) (underN_pos _), negQ, ← Rat.sub_eq_add_neg]
    rfl
  have h1 : ratOf x < ratOf y ↔ 0 < ratOf y - ratOf x := by
    generalize ratOf x = p
    generalize ratOf y = q
    grind
  rw [h1, h, mkRat_pos_iff (Nat.mul_pos (underN_pos _) (underN_pos _)), sgn_not]
  omega
theorem cmpR_cmpQ (x y : RatL) : cmpR x y = cmpQ (ratOf x) (ratOf y) := by
  unfold cmpR cmpQ cmpI
  simp only [ratOf_lt]
theorem errOK_eq (e : RatL) : errOK e = (validR e && !decide (signQ (ratOf e) < 0)) := by
  unfold errOK
  cases hv : validR e with
  | false => rfl
  | true =>
    have h1 : e = ratL (ratOf e) := by rw [← canonL_ratL]; exact of_decide_eq_true hv
    have h2 : e.neg = decide (ratOf e < 0) := by
      have := neg_ratL (ratOf e)
      rw [← h1] at this
      exact this
    rw [h2]
    simp only [Bool.true_and]
    unfold signQ
    by_cases h : ratOf e < 0
    · simp [h]
    · simp only [h, if_false]
      split <;> simp
theorem cmpQ_pos {p q : Rat} : (0 < cmpQ p q) ↔ q < p := by
  unfold cmpQ
  by_cases h1 : p < q
  · rw [if_pos h1]
    have : ¬ q < p := by grind
    simp [this]
  · rw [if_neg h1]
    by_cases h2 : q < p
    · rw [if_pos h2]; simp [h2]
    · rw [if_neg h2]; simp [h2]
theorem pairOK_eq (a b : RatL) : pairOK a b = (validR a && (validR b && !decide (0 < cmpQ (ratOf a) (ratOf b)))) := by
  unfold pairOK; rw [cmpR_cmpQ]

/-- What is so of the reference's marks. -/
structure Wrt (sizes : List Int) (S : Int → Bool) (W : List Bool) : Prop where
  len : W.length = sizes.length
  at_ : ∀ i : Nat, i < sizes.length → W[i]? = some (S (i : Int))
  rng : ∀ y, S y = true → 0 ≤ y ∧ y < (sizes.length : Int)
theorem Wrt.put {sizes : List Int} {S : Int → Bool} {W : List Bool} (h : Wrt sizes S W) {d : Nat} (hd : d < sizes.length) : Wrt sizes (putS S (d : Int)) (W.set d true) := by
  refine ⟨by rw [List.length_set, h.len], fun i hi => ?_, fun y hy => ?_⟩
  · unfold putS
    by_cases hid : d = i
    · subst hid
      rw [List.getElem?_set_self (by rw [h.len]; exact hd)]
      simp
    · rw [List.getElem?_set_ne hid, h.at_ i hi]
      have : ((i : Int) == (d : Int)) = false := by rw [beq_eq_false_iff_ne]; omega
      rw [this, Bool.false_or]
  · unfold putS at hy
    rw [Bool.or_eq_true, beq_iff_eq] at hy
    rcases hy with rfl | hy
    · omega
    · exact h.rng y hy
theorem Wrt.start {sizes : List Int} (hn : 0 < sizes.length) : Wrt sizes (putS (fun _ => false) 0) ((List.replicate sizes.length false).set 0 true) := by
  have h0 : Wrt sizes (fun _ => false) (List.replicate sizes.length false) := ⟨by simp, fun i hi => by simp [hi], fun y hy => by cases hy⟩
  exact h0.put hn

/-- kind apart, what fits does not look at the other. -/
theorem fitsL_other {o : OpL} {n m t t' : Int} (h : o.kind ≠ 6) : fitsL o n m t = fitsL o n m t' := by
  unfold fitsL
  simp only [h, if_false]
theorem fitsL_other0 {o : OpL} {n m t : Int} (h : o.kind ≠ 6) (hf : fitsL o n m t = true) : o.other = 0 := by
  unfold fitsL at hf
  by_cases k1 : o.kind = 1
  · rw [if_pos k1, Bool.and_eq_true, decide_eq_true_eq] at hf; exact hf.1.1
  rw [if_neg k1] at hf
  by_cases k2 : o.kind = 2
  · rw [if_pos k2, decide_eq_true_eq] at hf; exact hf.1
  rw [if_neg k2] at hf
  by_cases k3 : o.kind = 3
  · rw [if_pos k3, decide_eq_true_eq] at hf; exact hf.1
  rw [if_neg k3] at hf
  by_cases k4 : o.kind = 4 ∨ o.kind = 5
  · rw [if_pos k4, decide_eq_true_eq] at hf; exact hf.1
  rw [if_neg k4, if_neg h] at hf
  by_cases k7 : o.kind = 7
  · rw [if_pos k7, decide_eq_true_eq] at hf; exact hf.1
  rw [if_neg k7] at hf; cases hf

/-- The reference's test of an operation, in the order of its text. -/
def refOp (sizes : List Int) (S : Int → Bool) (o : OpL) : Bool :=
  wthn o.dst 1 ((sizes.length : Int) - 1) && (!S o.dst && (wthn o.src 0 ((sizes.length : Int) - 1) && (S o.src && (wthn o.other 0 ((sizes.length : Int) - 1) && ((!decide (o.kind = 6) || S o.other) && fitsL o (sizes.getD o.dst.toNat 0) (sizes.getD o.src.toNat 0) (sizes.getD o.other.toNat 0))))))
theorem refOp_eq {sizes : List Int} {S : Int → Bool} {W : List Bool} (h : Wrt sizes S W) (hn : 0 < sizes.length) (o : OpL) : refOp sizes S o = opOK sizes S o := by
  unfold refOp opOK otherOf
  rw [Bool.eq_iff_iff]
  simp only [Bool.and_eq_true, Bool.not_eq_true', Bool.or_eq_true, decide_eq_false_iff_not, wthn_iff]
  by_cases k6 : o.kind = 6
  · simp only [k6, not_true_eq_false, false_or, if_true]
    constructor
    · rintro ⟨h1, h2, _, h4, _, h6, h7⟩
      exact ⟨h1, h2, h4, h6, h7⟩
    · rintro ⟨h1, h2, h4, h6, h7⟩
      have r1 := h.rng _ h4
      have r2 := h.rng _ h6
      exact ⟨h1, h2, by omega, h4, by omega, h6, h7⟩
  · simp only [k6, not_false_eq_true, true_or, true_and, if_false]
    rw [fitsL_other (t := sizes.getD o.other.toNat 0) (t' := 0) k6]
    constructor
    · rintro ⟨h1, h2, _, h4, _, h7⟩
      exact ⟨h1, h2, h4, h7⟩
    · rintro ⟨h1, h2, h4, h7⟩
      have r1 := h.rng _ h4
      have r2 := fitsL_other0 k6 h7
      exact ⟨h1, h2, by omega, h4, by omega, h7⟩

/-- One operation that is not permitted: the kernel is not valid. -/
theorem validK_stop {k : KerL} {S : Int → Bool} {j : Nat} {o : OpL} (hS : opsRun k.sizes (k.ops.take j) = some S) (ho : k.ops[j]? = some o) (hb : opOK k.sizes S o = false) : validK k = false := by
  have h1 : opsRun k.sizes k.ops = none := by
    refine opsRun_fail (j := j + 1) ?_
    rw [opsRun_succ ho, hS]
    simp [opStep, hb]
  unfold validK
  rw [h1]
  simp
theorem opsRun_next {sizes : List Int} {L : List OpL} {S : Int → Bool} {j : Nat} {o : OpL} (hS : opsRun sizes (L.take j) = some S) (ho : L[j]? = some o) (hb : opOK sizes S o = true) : opsRun sizes (L.take (j + 1)) = some (putS S o.dst) := by
  rw [opsRun_succ ho, hS]
  simp [opStep, hb]
theorem validK_tail {k : KerL} {S : Int → Bool} (h1 : wthn k.sizes.length 1 1024 = true) (h2 : k.ops.length ≤ 1024) (h3 : k.sizes.all (fun n => wthn n 1 262144) = true) (hS : opsRun k.sizes k.ops = some S) : validK k = tailOK k S := by
  unfold validK
  rw [h1, h3, hS, decide_eq_true h2]
  rfl

/-- Element i of what an operation lays. -/
def elemL (o : OpL) (S O : List Int) (i : Nat) : Int :=
  if o.kind = 1 then (if o.index.getD i 0 < 0 then 0 else S.getD (o.index.getD i 0).toNat 0)
  else if o.kind = 2 then gemmAt o.weights o.bias S o.inner.toNat o.cols.toNat i
  else if o.kind = 3 then max 0 (S.getD i 0)
  else if o.kind = 4 then mxAt S (i * o.inner.toNat) o.inner.toNat
  else if o.kind = 5 then smAt S (i * o.inner.toNat) 0 o.inner.toNat
  else if o.kind = 6 then wrap64 (S.getD i 0 + O.getD i 0)
  else scaleL (S.getD i 0) o.mul o.shift.toNat
theorem list_ext_getD {a b : List Int} (hl : a.length = b.length) (h : ∀ i, i < a.length → a.getD i 0 = b.getD i 0) : a = b := by
  apply List.ext_getElem hl
  intro i h1 h2
  have := h i h1
  rw [List.getD_eq_getElem?_getD, List.getD_eq_getElem?_getD, List.getElem?_eq_getElem h1, List.getElem?_eq_getElem h2] at this
  exact this
theorem rangeMap_getD {f : Nat → Int} {n i : Nat} (h : i < n) : ((List.range n).map f).getD i 0 = f i := by
  rw [List.getD_eq_getElem?_getD, List.getElem?_map, List.getElem?_range h]; rfl
theorem repl_getD (n i : Nat) : (List.replicate n (0 : Int)).getD i 0 = 0 := by
  rw [List.getD_eq_getElem?_getD, List.getElem?_replicate]; split <;> rfl
theorem zipWith_getD {f : Int → Int → Int} {a b : List Int} {i : Nat} (ha : i < a.length) (hb : i < b.length) : (List.zipWith f a b).getD i 0 = f (a.getD i 0) (b.getD i 0) := by
  simp only [List.getD_eq_getElem?_getD, List.getElem?_zipWith, List.getElem?_eq_getElem ha, List.getElem?_eq_getElem hb, Option.getD_some]
theorem map_getD {f : Int → Int} {a : List Int} {i : Nat} (ha : i < a.length) : (a.map f).getD i 0 = f (a.getD i 0) := by
  simp only [List.getD_eq_getElem?_getD, List.getElem?_map, List.getElem?_eq_getElem ha, Option.map_some, Option.getD_some]
theorem doL_elem {o : OpL} {sizes : List Int} {S : Int → Bool} (hop : opOK sizes S o = true) {n : Nat} {Sr O : List Int} (hd : (n : Int) = sizes.getD o.dst.toNat 0) (hs : (Sr.length : Int) = sizes.getD o.src.toNat 0) (ho : o.kind = 6 → (O.length : Int) = sizes.getD o.other.toNat 0) :
    doL o (List.replicate n 0) Sr O = (List.range n).map (elemL o Sr O) := by
  unfold opOK at hop
  simp only [Bool.and_eq_true] at hop
  obtain ⟨_, _, _, _, hf⟩ := hop
  unfold fitsL at hf
  unfold doL elemL
  by_cases k1 : o.kind = 1
  · simp only [k1, if_true, Bool.and_eq_true, decide_eq_true_eq] at hf ⊢
    have hl : o.index.length = n := by omega
    refine list_ext_getD (by simp [hl]) fun i hi => ?_
    have hin : i < n := by simp [hl] at hi; omega
    rw [rangeMap_getD hin, zipWith_getD (by omega) (by simpa using hin), repl_getD]
    by_cases hx : o.index.getD i 0 < 0
    · rw [if_neg (by omega), if_pos hx]
    · rw [if_pos (by omega), if_neg hx]
  simp only [k1, if_false] at hf ⊢
  by_cases k2 : o.kind = 2
  · simp only [k2, if_true] at hf ⊢
    unfold gemmL
    rw [List.length_replicate]
  simp only [k2, if_false] at hf ⊢
  by_cases k3 : o.kind = 3
  · simp only [k3, if_true, decide_eq_true_eq] at hf ⊢
    have hl : Sr.length = n := by omega
    refine list_ext_getD (by simp [hl]) fun i hi => ?_
    have hin : i < n := by simp [hl] at hi; omega
    rw [rangeMap_getD hin, map_getD (by omega)]
  simp only [k3, if_false] at hf ⊢
  by_cases k4 : o.kind = 4
  · simp only [k4, if_true] at hf ⊢
    unfold maxL
    rw [List.length_replicate]
  simp only [k4, if_false, false_or] at hf ⊢
  by_cases k5 : o.kind = 5
  · simp only [k5, if_true] at hf ⊢
    unfold sumL
    rw [List.length_replicate]
    simp only [repl_getD]
  simp only [k5, if_false] at hf ⊢
  by_cases k6 : o.kind = 6
  · have h6 := ho k6
    unfold otherOf at hf
    simp only [k6, if_true, decide_eq_true_eq] at hf ⊢
    have hl : Sr.length = n := by omega
    have hl2 : O.length = n := by omega
    refine list_ext_getD (by simp [hl, hl2]) fun i hi => ?_
    have hin : i < n := by simp [hl, hl2] at hi; omega
    rw [rangeMap_getD hin, zipWith_getD (by omega) (by omega)]
  simp only [k6, if_false] at hf ⊢
  by_cases k7 : o.kind = 7
  · simp only [k7, if_true, decide_eq_true_eq] at hf
    have hl : Sr.length = n := by omega
    refine list_ext_getD (by simp [hl]) fun i hi => ?_
    have hin : i < n := by simp [hl] at hi; omega
    rw [rangeMap_getD hin, map_getD (by omega)]
  · simp only [k7, if_false] at hf
    cases hf

/-- Where nothing was written, zeros lie. -/
theorem run_zero {k : KerL} {inp : List Int} : ∀ (j : Nat) (S : Int → Bool), j ≤ k.ops.length → opsRun k.sizes (k.ops.take j) = some S → ∀ i : Nat, i < k.sizes.length → S (i : Int) = false → (runL k inp j)[i]? = some (List.replicate (k.sizes.getD i 0).toNat 0) := by
  intro j
  induction j with
  | zero =>
    intro S _ hS i hi hf
    simp only [List.take_zero, opsRun, List.foldl_nil, Option.some.injEq] at hS
    subst hS
    have hi0 : i ≠ 0 := by rintro rfl; simp [putS] at hf
    unfold runL
    simp only [List.take_zero, List.foldl_nil]
    rw [List.getElem?_set_ne (Ne.symm hi0), List.getElem?_map, getD_at hi]
    rfl
  | succ j ih =>
    intro S hj hS i hi hf
    have hlt : j < k.ops.length := hj
    obtain ⟨o, ho⟩ : ∃ o, k.ops[j]? = some o := ⟨k.ops[j], List.getElem?_eq_getElem hlt⟩
    have hS' := hS
    rw [opsRun_succ ho] at hS'
    cases hq : opsRun k.sizes (k.ops.take j) with
    | none => rw [hq] at hS'; cases hS'
    | some S0 =>
      rw [hq] at hS'
      unfold opStep at hS'
      rw [Option.bind_some] at hS'
      by_cases hop : opOK k.sizes S0 o = true
      · rw [if_pos hop, Option.some.injEq] at hS'
        subst hS'
        unfold putS at hf
        rw [Bool.or_eq_false_iff, beq_eq_false_iff_ne] at hf
        rw [runL_succ ho]
        unfold stepL
        have hd : 1 ≤ o.dst := by
          unfold opOK at hop
          rw [Bool.and_eq_true] at hop
          exact (wthn_iff.1 hop.1).1
        rw [List.getElem?_set_ne (by omega)]
        exact ih S0 (by omega) hq i hi hf.2
      · rw [if_neg hop] at hS'; cases hS'

end Go.Proofs.Ythlmgejikbmmaaa
