/-
  The walks of layer 11's small and few, and of the statement TensorInverse.
-/
import Derived.Test.YtcgpidicegbnoaaTenL
namespace Go.Proofs.Ytcgpidicegbnoaa
open Go.RowKit

/-- A kernel with its shape, as the value of a parameter. -/
abbrev kernelV (a : Option Addr) (n c : Nat) (kh kw s p : Int) : Value := .agg #[.slice a n c, .int .i64 kh, .int .i64 kw, .int .i64 s, .int .i64 p]

def smallB (l : List Int) (kh kw : Int) : Bool := decide (sizeL l ≤ 100 ∧ kh ≤ 70 ∧ kw ≤ 70)

set_option maxHeartbeats 800000 in
theorem tSmall {w : World} {F : Nat → Prop} {a : Option Addr} {l : List Int} (c : Nat) (kh kw s p : Int) (h : Ints w F a l) :
    Calls Try.prog 19 #[kernelV a l.length c kh kw s p] w fun e w' => e = .returned (.bool (smallB l kh kw)) ∧ Below w.heap.size w w' := by
  have h1 := h.below ((Below.refl _ w).alloc (Nat.le_refl _) (.cells #[.slice a l.length c, .int .i64 kh, .int .i64 kw, .int .i64 s, .int .i64 p] 29))
  have HZ := Lib.hid (rSize c h1)
  clear h h1
  by_cases h1 : sizeL l ≤ 100
  · by_cases h2 : kh ≤ 70
    · by_cases h3 : kw ≤ 70
      · have HS := Lib.hid (show smallB l kh kw = true by simp [smallB, h1, h2, h3])
        go_enter Try.func19, Try.ntmps19
        go_wp2_with (go_at_call 24; refine HZ.out.mono ?_; rintro e w' ⟨rfl, rfl⟩)
        go_ret
        exact ⟨ret_bool HS.out.symm, (Below.refl _ _).alloc (Nat.le_refl _) _⟩
      · have HS := Lib.hid (show smallB l kh kw = false by simp [smallB, h3])
        go_enter Try.func19, Try.ntmps19
        go_wp2_with (go_at_call 24; refine HZ.out.mono ?_; rintro e w' ⟨rfl, rfl⟩)
        go_ret
        exact ⟨ret_bool (by rw [HS.out]; simp; omega), (Below.refl _ _).alloc (Nat.le_refl _) _⟩
    · have HS := Lib.hid (show smallB l kh kw = false by simp [smallB, h2])
      go_enter Try.func19, Try.ntmps19
      go_wp2_with (go_at_call 24; refine HZ.out.mono ?_; rintro e w' ⟨rfl, rfl⟩)
      go_ret
      exact ⟨ret_bool HS.out.symm, (Below.refl _ _).alloc (Nat.le_refl _) _⟩
  · have HS := Lib.hid (show smallB l kh kw = false by simp [smallB, h1])
    go_enter Try.func19, Try.ntmps19
    go_wp2_with (go_at_call 24; refine HZ.out.mono ?_; rintro e w' ⟨rfl, rfl⟩)
    go_ret
    exact ⟨ret_bool HS.out.symm, (Below.refl _ _).alloc (Nat.le_refl _) _⟩

/-- Coordinates and index: the plain law. -/
def prodL : List Int → Int
  | [] => 1
  | d :: r => d * prodL r
theorem prodFrom_eq (l : List Int) (s : Int) : prodFrom l s = s * prodL l := by
  induction l generalizing s with
  | nil => simp [prodFrom, prodL]
  | cons d r ih => rw [prodFrom, ih, prodL, Int.mul_assoc]
theorem prodL_pos {l : List Int} (hv : ∀ d ∈ l, 1 ≤ d) : 1 ≤ prodL l := by
  induction l with
  | nil => simp [prodL]
  | cons d r ih =>
    have h1 := ih (fun x hx => hv x (by simp [hx]))
    have h2 := hv d (by simp)
    have : 1 * 1 ≤ d * prodL r := Int.mul_le_mul h2 h1 (by omega) (by omega)
    rw [prodL]; omega
theorem coordsFrom_fst {l : List Int} (hv : ∀ d ∈ l, 1 ≤ d) (i : Int) : (coordsFrom l i).1 = i / prodL l := by
  induction l with
  | nil => simp [coordsFrom, prodL]
  | cons d r ih =>
    have h1 := prodL_pos (l := r) (fun x hx => hv x (by simp [hx]))
    have h2 := hv d (by simp)
    rw [coordsFrom, ih (fun x hx => hv x (by simp [hx])), prodL, Int.mul_comm d, Int.ediv_ediv_of_nonneg (by omega)]
theorem emod_split (i a b : Int) (ha : 0 < a) (hb : 0 < b) : i % (b * a) = (i / a) % b * a + i % a := by
  have h1 := Int.emod_add_mul_ediv i a
  have h2 := Int.emod_add_mul_ediv (i / a) b
  have e : i = (b * a) * (i / a / b) + ((i / a) % b * a + i % a) := by
    have h3 : (i / a) * a = ((i / a) % b + b * (i / a / b)) * a := by rw [h2]
    rw [Int.add_mul] at h3
    have h4 : b * (i / a / b) * a = (b * a) * (i / a / b) := by rw [Int.mul_assoc, Int.mul_comm (i / a / b), ← Int.mul_assoc]
    have h5 : a * (i / a) = (i / a) * a := Int.mul_comm _ _
    omega
  have p1 := Int.emod_nonneg (i / a) (show b ≠ 0 by omega)
  have p2 := Int.emod_lt_of_pos (i / a) hb
  have p3 := Int.emod_nonneg i (show a ≠ 0 by omega)
  have p4 := Int.emod_lt_of_pos i ha
  have p5 : 0 ≤ (i / a) % b * a := Int.mul_nonneg p1 (by omega)
  have p6 : ((i / a) % b + 1) * a ≤ b * a := Int.mul_le_mul_of_nonneg_right (by omega) (by omega)
  rw [Int.add_mul] at p6
  conv => lhs; rw [e]
  rw [Int.mul_add_emod_self_left]
  exact Int.emod_eq_of_lt (by omega) (by omega)
theorem indexFrom_coords {l : List Int} (hv : ∀ d ∈ l, 1 ≤ d) (i s : Int) : indexFrom l (coordsFrom l i).2 s = (s * prodL l + i % prodL l, 0) := by
  induction l generalizing s with
  | nil => simp [indexFrom, prodL]
  | cons d r ih =>
    have hr : ∀ x ∈ r, 1 ≤ x := fun x hx => hv x (by simp [hx])
    have h1 := prodL_pos hr
    have h2 := hv d (by simp)
    simp only [coordsFrom]
    have q1 := Int.emod_nonneg (coordsFrom r i).1 (show d ≠ 0 by omega)
    have q2 := Int.emod_lt_of_pos (coordsFrom r i).1 (show 0 < d by omega)
    rw [indexFrom_yes (by omega) (by omega), ih hr, coordsFrom_fst hr, prodL, emod_split i (prodL r) d (by omega) (by omega), Int.add_mul, Int.mul_assoc, Int.add_assoc]
theorem index_at {l : List Int} (hv : validL l = true) {i : Int} (h0 : 0 ≤ i) (h1 : i < sizeL l) : atL l i = ((coordsFrom l i).2, 0) ∧ indexL l (atL l i).1 = (i, 0) := by
  have e := atL_in hv (by omega) (show ¬ sizeL l ≤ i by omega)
  refine ⟨e, ?_⟩
  have hm : ∀ d ∈ l, 1 ≤ d := fun d hd => (validL_mem hv d hd).1
  rw [e]
  simp only [indexL, hv, coordsFrom_len, and_self, if_true]
  rw [indexFrom_coords hm, Int.zero_mul, Int.zero_add]
  have : sizeL l = prodL l := by simp [sizeL, hv, prodFrom_eq]
  rw [Int.emod_eq_of_lt h0 (by omega)]

set_option maxHeartbeats 1600000 in
theorem lawTensorInverse {w : World} {a : Option Addr} {l : List Int} (cap : Nat) (h : Ints w Any a l) :
    Calls Try.prog 9 #[.slice a l.length cap] w fun e w' => e = .returned (.bool true) ∧ Below w.heap.size w w' := by
  have HA := Lib.hid (awake11 w)
  have hsz := sizeL_bd l
  by_cases hbig : 200 < sizeL l
  · go_enter Try.func9, Try.ntmps9
    go_wp2_with fail
    refine HA.out.mono ?_
    rintro e w1 ⟨rfl, hb⟩
    have HZ := Lib.hid (rSize cap (h.below hb))
    go_wp2_with fail
    refine HZ.out.mono ?_
    rintro e w2 ⟨rfl, rfl⟩
    go_wp2_with fail
    refine (awake11 w1).mono ?_
    rintro e w2 ⟨rfl, hb2⟩
    go_wp2
    go_ret
    exact ⟨rfl, hb.trans (hb2.mono hb.size)⟩
  · go_enter Try.func9, Try.ntmps9
    go_wp2_with fail
    refine HA.out.mono ?_
    rintro e w1 ⟨rfl, hb⟩
    have HZ := Lib.hid (rSize cap (h.below hb))
    go_wp2_with fail
    refine HZ.out.mono ?_
    rintro e w2 ⟨rfl, rfl⟩
    go_wp2_with fail
    go_loopw [3] (fun i wr => ∃ k : Nat, (k : Int) ≤ sizeL l ∧ i = .int .i64 k ∧ Below w.heap.size w wr) (fun i _ => (sizeL l - intOf i).toNat)
    case atStart => exact ⟨0, by omega, rfl, hb⟩
    case round =>
      obtain ⟨k, hk, rfl, hbr⟩ := hrel
      have hI := h.below hbr
      have HZ := Lib.hid (rSize cap hI)
      by_cases hlt : (k : Int) < sizeL l
      · have hv : validL l = true := by
          cases hv : validL l
          · simp [sizeL, hv] at hlt; omega
          · rfl
        obtain ⟨e1, e2⟩ := index_at hv (by omega) hlt
        have E1 := Lib.hid e1
        have E2 := Lib.hid e2
        have HT := Lib.hid (tAt cap (k : Int) hI)
        have HIr := Lib.hid hI
        clear hv e1 e2 h hI
        go_wp2_with fail
        refine HZ.out.mono ?_
        rintro e w2 ⟨rfl, rfl⟩
        go_wp2_with fail
        refine HT.out.mono ?_
        rintro e w3 ⟨v, rfl, a2, c2, rfl, hj, hb3⟩
        have HN := Lib.hid (tIndex_as cap c2 (HIr.out.below hb3) hj E2.out)
        rw [E1.out]
        clear hj
        go_wp2_with fail
        rw [E1.out] at HN
        refine HN.out.mono ?_
        rintro e w4 ⟨rfl, rfl⟩
        go_wp2
        go_roundw
        case rel => exact ⟨k + 1, by omega, by go_num, hbr.trans (hb3.mono hbr.size)⟩
        case measure => simp [intOf]; omega
      · go_wp2_with fail
        refine HZ.out.mono ?_
        rintro e w2 ⟨rfl, rfl⟩
        go_wp2
        go_ret
        exact ⟨rfl, hbr⟩

end Go.Proofs.Ytcgpidicegbnoaa
