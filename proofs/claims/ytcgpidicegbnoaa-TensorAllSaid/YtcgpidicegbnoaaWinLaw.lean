/-
  Plain laws of windows: which window stands where, which element; without padding all elements are there and increase; with stride 1 a window's columns are the next one's.
-/
import Derived.Test.YtcgpidicegbnoaaWinSpec
namespace Go.Proofs.Ytcgpidicegbnoaa
open Go.RowKit

theorem flat_get {α : Type} (f : Nat → List α) (n m i j : Nat) (h : ∀ i, i < n → (f i).length = m) (hi : i < n) (hj : j < m) : ((List.range n).flatMap f)[i * m + j]? = (f i)[j]? := by
  induction n with
  | zero => omega
  | succ n ih =>
    have hlen := flat_len f n m (fun i hi => h i (by omega))
    rw [List.range_succ, List.flatMap_append]
    by_cases hin : i < n
    · have h1 : i * m + j < n * m := by
        have : (i + 1) * m ≤ n * m := Nat.mul_le_mul_right _ hin
        rw [Nat.add_mul] at this; omega
      rw [List.getElem?_append_left (by omega)]
      exact ih (fun i hi => h i (by omega)) hin
    · obtain rfl : i = n := by omega
      rw [List.getElem?_append_right (by omega), hlen, show i * m + j - i * m = j by omega]
      simp

theorem Win.all_get (q : Win) {r c : Nat} (hr : r < q.R) (hc : c < q.Q) : q.all[r * q.Q + c]? = some (q.one r c) := by
  unfold Win.all
  rw [flat_get q.rowOf q.R q.Q r c (fun r _ => q.rowOf_len r) hr hc]
  simp [Win.rowOf, hc]

theorem Win.all_pos (q : Win) {i : Nat} (hi : i < q.all.length) : 0 < q.Q ∧ i / q.Q < q.R ∧ i % q.Q < q.Q ∧ q.all[i]? = some (q.one (i / q.Q) (i % q.Q)) := by
  rw [q.all_len] at hi
  have hQ : 0 < q.Q := by
    rcases Nat.eq_zero_or_pos q.Q with h | h
    · rw [h] at hi; simp at hi
    · exact h
  have h1 : i / q.Q < q.R := (Nat.div_lt_iff_lt_mul hQ).2 hi
  have h2 := Nat.mod_lt i hQ
  refine ⟨hQ, h1, h2, ?_⟩
  have := q.all_get h1 h2
  rw [Nat.mul_comm, Nat.div_add_mod] at this
  exact this

theorem Win.one_get (q : Win) (r c : Nat) {n : Nat} (hn : n < q.C * (q.kh * q.kw)) :
    (q.one r c)[n]? = some (q.at r c (n / q.kw / q.kh) (n / q.kw % q.kh) (n % q.kw)) := by
  have hpos : 0 < q.kh * q.kw := by
    rcases Nat.eq_zero_or_pos (q.kh * q.kw) with h | h
    · rw [h] at hn; simp at hn
    · exact h
  have hkw : 0 < q.kw := Nat.pos_of_mul_pos_left hpos
  have hkh : 0 < q.kh := Nat.pos_of_mul_pos_right hpos
  have e1 : n / (q.kh * q.kw) < q.C := (Nat.div_lt_iff_lt_mul hpos).2 hn
  have e2 : n % (q.kh * q.kw) < q.kh * q.kw := Nat.mod_lt _ hpos
  have h1 := flat_get (q.chan r c) q.C (q.kh * q.kw) (n / (q.kh * q.kw)) (n % (q.kh * q.kw)) (fun ch _ => q.chan_len r c ch) e1 e2
  rw [Nat.div_add_mod'] at h1
  have e3 : n % (q.kh * q.kw) / q.kw < q.kh := (Nat.div_lt_iff_lt_mul hkw).2 e2
  have e4 : n % (q.kh * q.kw) % q.kw < q.kw := Nat.mod_lt _ hkw
  have h2 := flat_get (q.line r c (n / (q.kh * q.kw))) q.kh q.kw (n % (q.kh * q.kw) / q.kw) (n % (q.kh * q.kw) % q.kw) (fun i _ => q.line_len r c _ i) e3 e4
  rw [Nat.div_add_mod'] at h2
  show ((List.range q.C).flatMap (q.chan r c))[n]? = _
  rw [h1]
  show ((List.range q.kh).flatMap (q.line r c (n / (q.kh * q.kw))))[n % (q.kh * q.kw)]? = _
  rw [h2]
  have m1 : n % (q.kh * q.kw) % q.kw = n % q.kw := Nat.mod_mul_left_mod n q.kh q.kw
  have m2 : n % (q.kh * q.kw) / q.kw = n / q.kw % q.kh := by rw [Nat.mul_comm, Nat.mod_mul_right_div_self]
  have m3 : n / (q.kh * q.kw) = n / q.kw / q.kh := by rw [Nat.div_div_eq_div_mul, Nat.mul_comm]
  rw [m1, m2, m3]
  simp [Win.line, Nat.mod_lt n hkw]

/-- With stride 1 the columns of a window but the first are the next window's but the last. -/
theorem Win.next (q : Win) (hs : q.s = 1) (r c : Nat) {n : Nat} (hn : n < q.C * (q.kh * q.kw)) (hk : 0 < n % q.kw) : (q.one r c)[n]? = (q.one r (c + 1))[n - 1]? := by
  have hkw : 0 < q.kw := by
    rcases Nat.eq_zero_or_pos q.kw with h | h
    · rw [h] at hn; simp at hn
    · exact h
  have hn1 : 1 ≤ n := by
    rcases Nat.eq_zero_or_pos n with h | h
    · subst h; simp at hk
    · exact h
  rw [q.one_get r c hn, q.one_get r (c + 1) (by omega)]
  have e := Nat.div_add_mod n q.kw
  have hd : (n - 1) / q.kw = n / q.kw := by
    rw [show n - 1 = (n % q.kw - 1) + q.kw * (n / q.kw) by omega, Nat.add_mul_div_left _ _ hkw, Nat.div_eq_of_lt (by have := Nat.mod_lt n hkw; omega), Nat.zero_add]
  have hm : (n - 1) % q.kw = n % q.kw - 1 := by
    rw [show n - 1 = (n % q.kw - 1) + q.kw * (n / q.kw) by omega, Nat.add_mul_mod_self_left, Nat.mod_eq_of_lt (by have := Nat.mod_lt n hkw; omega)]
  rw [hd, hm]
  unfold Win.at
  rw [hs]
  congr 2
  omega

/-- Without padding every element is there. -/
theorem Win.Ok.bare {q : Win} (h : q.Ok) (hp : q.p = 0) {r c ch i k : Nat} (hr : r < q.R) (hc : c < q.Q) (hi : i < q.kh) (hk : k < q.kw) :
    q.at r c ch i k = ((ch : Int) * q.H + ((r : Int) * q.s + i)) * q.W + ((c : Int) * q.s + k) ∧ (r : Int) * q.s + i < q.H ∧ (c : Int) * q.s + k < q.W := by
  have f1 := h.fh; have f2 := h.fw; have s1 := h.s1
  rw [hp] at f1 f2
  have a1 : r * q.s ≤ q.H - q.kh := by
    have : r ≤ (q.H - q.kh) / q.s := by unfold Win.R at hr; rw [hp] at hr; simp at hr; omega
    exact Nat.le_trans (Nat.mul_le_mul_right _ this) (Nat.div_mul_le_self _ _)
  have a2 : c * q.s ≤ q.W - q.kw := by
    have : c ≤ (q.W - q.kw) / q.s := by unfold Win.Q at hc; rw [hp] at hc; simp at hc; omega
    exact Nat.le_trans (Nat.mul_le_mul_right _ this) (Nat.div_mul_le_self _ _)
  have b1 : ((r * q.s : Nat) : Int) = (r : Int) * q.s := by simp
  have b2 : ((c * q.s : Nat) : Int) = (c : Int) * q.s := by simp
  refine ⟨?_, by omega, by omega⟩
  unfold Win.at cellW
  rw [if_pos (by rw [hp]; omega), hp]
  simp

theorem pair_range (n : Nat) : (List.range n).Pairwise (· < ·) := List.pairwise_lt_range

theorem Win.Ok.inc {q : Win} (h : q.Ok) (hp : q.p = 0) {r c : Nat} (hr : r < q.R) (hc : c < q.Q) : (q.one r c).Pairwise (· < ·) := by
  have hW : (0 : Int) < q.W := by have := h.w1; omega
  -- within a line, a channel: by the formula
  have form : ∀ ch i k, i < q.kh → k < q.kw → q.at r c ch i k = ((ch : Int) * q.H + ((r : Int) * q.s + i)) * q.W + ((c : Int) * q.s + k) := fun ch i k hi hk => (h.bare hp hr hc hi hk).1
  have r0 : (0 : Int) ≤ (r : Int) * q.s := Int.mul_nonneg (by omega) (by omega)
  have c0 : (0 : Int) ≤ (c : Int) * q.s := Int.mul_nonneg (by omega) (by omega)
  have step : ∀ (x y : Int) (u v : Int), x < y → 0 ≤ v → u < q.W → x * q.W + u < y * q.W + v := by
    intro x y u v hxy hv hu
    have : (x + 1) * q.W ≤ y * q.W := Int.mul_le_mul_of_nonneg_right (by omega) (by omega)
    rw [Int.add_mul] at this
    omega
  unfold Win.one
  rw [List.pairwise_flatMap]
  refine ⟨fun ch _ => ?_, (pair_range q.C).imp ?_⟩
  · unfold Win.chan
    rw [List.pairwise_flatMap]
    refine ⟨fun i hi => ?_, ?_⟩
    · unfold Win.line
      rw [List.pairwise_map]
      refine List.Pairwise.imp_of_mem ?_ (pair_range q.kw)
      intro x y hx hy hxy
      have hi' := List.mem_range.1 hi
      rw [form ch i x hi' (List.mem_range.1 hx), form ch i y hi' (List.mem_range.1 hy)]
      omega
    · refine List.Pairwise.imp_of_mem ?_ (pair_range q.kh)
      intro i j hi hj hij x hx y hy
      simp only [Win.line, List.mem_map, List.mem_range] at hx hy
      obtain ⟨k, hk, rfl⟩ := hx
      obtain ⟨k', hk', rfl⟩ := hy
      have hi' := List.mem_range.1 hi
      have hj' := List.mem_range.1 hj
      rw [form ch i k hi' hk, form ch j k' hj' hk']
      exact step _ _ _ _ (by omega) (by omega) (h.bare hp hr hc (ch := ch) hi' hk).2.2
  · intro ch ch' hlt x hx y hy
    simp only [Win.chan, Win.line, List.mem_flatMap, List.mem_map, List.mem_range] at hx hy
    obtain ⟨i, hi, k, hk, rfl⟩ := hx
    obtain ⟨j, hj, k', hk', rfl⟩ := hy
    rw [form ch i k hi hk, form ch' j k' hj hk']
    have b1 := (h.bare hp hr hc (ch := ch) hi hk).2.1
    have b2 : ((ch : Int) + 1) * q.H ≤ (ch' : Int) * q.H := Int.mul_le_mul_of_nonneg_right (by omega) (by omega)
    rw [Int.add_mul] at b2
    exact step _ _ _ _ (by omega) (by omega) (h.bare hp hr hc (ch := ch) hi hk).2.2

/-- Elements without padding: none is -1. -/
theorem Win.Ok.bare_bd {q : Win} (h : q.Ok) (hp : q.p = 0) {r c : Nat} (hr : r < q.R) (hc : c < q.Q) : ∀ x ∈ q.one r c, 0 ≤ x ∧ x < q.C * q.H * q.W := by
  intro x hx
  simp only [Win.one, Win.chan, Win.line, List.mem_flatMap, List.mem_map, List.mem_range] at hx
  obtain ⟨ch, hch, i, hi, k, hk, rfl⟩ := hx
  have h1 := h.at_bd (r := r) (c := c) (i := i) (k := k) hch
  refine ⟨?_, h1.2⟩
  obtain ⟨e, _, _⟩ := h.bare hp hr hc (ch := ch) hi hk
  rw [e]
  have r0 : (0 : Int) ≤ (r : Int) * q.s := Int.mul_nonneg (by omega) (by omega)
  have c0 : (0 : Int) ≤ (c : Int) * q.s := Int.mul_nonneg (by omega) (by omega)
  have t0 : (0 : Int) ≤ (ch : Int) * q.H := Int.mul_nonneg (by omega) (by omega)
  have := Int.mul_nonneg (a := (ch : Int) * q.H + ((r : Int) * q.s + i)) (b := q.W) (by omega) (by omega)
  omega

/-- Kernels of one element with stride 1: the windows are the elements of each channel in order. -/
theorem Win.units {q : Win} (h : q.Ok) (hk : q.kh = 1) (hw : q.kw = 1) (hs : q.s = 1) (hp : q.p = 0) : q.R = q.H ∧ q.Q = q.W ∧ q.total = q.H * q.W * q.C ∧
    ∀ {i ch : Nat}, i < q.H * q.W → ch < q.C → (q.one (i / q.W) (i % q.W))[ch]? = some ((ch : Int) * (q.H * q.W) + i) := by
  have h1 := h.h1; have w1 := h.w1
  have hR : q.R = q.H := by simp [Win.R, hk, hs, hp]; omega
  have hQ : q.Q = q.W := by simp [Win.Q, hw, hs, hp]; omega
  refine ⟨hR, hQ, by simp [Win.total, hR, hQ, hk, hw], ?_⟩
  intro i ch hi hch
  have e1 : i / q.W < q.H := (Nat.div_lt_iff_lt_mul (by omega)).2 hi
  have e2 : i % q.W < q.W := Nat.mod_lt _ (by omega)
  rw [q.one_get _ _ (by rw [hk, hw]; omega), hk, hw]
  simp only [Nat.div_one, Nat.mod_one]
  have hb := h.bare (r := i / q.W) (c := i % q.W) (ch := ch) (i := 0) (k := 0) hp (by omega) (by omega) (by omega) (by omega)
  rw [hb.1, hs]
  have e3 := Nat.div_add_mod i q.W
  have e4 : ((i / q.W : Nat) : Int) * q.W + (i % q.W : Nat) = i := by
    have : ((q.W * (i / q.W) + i % q.W : Nat) : Int) = i := by rw [e3]
    rw [Int.natCast_add, Int.natCast_mul, Int.mul_comm] at this
    exact this
  congr 1
  simp only [Int.natCast_one, Int.mul_one, Int.natCast_zero, Int.add_zero]
  rw [Int.add_mul, Int.mul_assoc, Int.add_assoc, e4]

end Go.Proofs.Ytcgpidicegbnoaa
