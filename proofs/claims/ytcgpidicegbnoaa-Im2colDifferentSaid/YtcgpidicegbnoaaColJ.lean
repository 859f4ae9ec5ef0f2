/-
  The plain law of Im2colDifferent: without padding a column of the matrix of windows rises, and so does each group of a pooling, which is of one channel.
-/
import Derived.Test.YtcgpidicegbnoaaColSpec
import Derived.Test.YtcgpidicegbnoaaWinLaw
namespace Go.Proofs.Ytcgpidicegbnoaa
open Go.RowKit

/-- A column of the matrix. -/
theorem gather_rise {q : Win} (hq : q.Ok) (hp : q.p = 0) {c i k : Nat} (hc : c < q.all.length) (hi : i < (q.one 0 0).length) (hk : k < i) :
    ∃ x y : Int, (gatherOf q.all)[i * q.all.length + c]? = some x ∧ (gatherOf q.all)[k * q.all.length + c]? = some y ∧ 0 ≤ x ∧ x < 16384 ∧ y < x ∧ 0 ≤ y := by
  obtain ⟨_, h1, h2, h3⟩ := q.all_pos hc
  have hl : (q.one (c / q.Q) (c % q.Q)).length = (q.one 0 0).length := by rw [q.one_len, q.one_len]
  have e1 : (q.one (c / q.Q) (c % q.Q))[i]? = some (q.one (c / q.Q) (c % q.Q))[i] := List.getElem?_eq_getElem (by omega)
  have e2 : (q.one (c / q.Q) (c % q.Q))[k]? = some (q.one (c / q.Q) (c % q.Q))[k] := List.getElem?_eq_getElem (by omega)
  have hr := List.pairwise_iff_getElem.1 (hq.inc hp h1 h2) k i (by omega) (by omega) hk
  have b1 := hq.bare_bd hp h1 h2 _ (List.getElem_mem (show i < (q.one (c / q.Q) (c % q.Q)).length by omega))
  have b2 := hq.bare_bd hp h1 h2 _ (List.getElem_mem (show k < (q.one (c / q.Q) (c % q.Q)).length by omega))
  have b3 := hq.one_bd (c / q.Q) (c % q.Q) _ (List.getElem_mem (show i < (q.one (c / q.Q) (c % q.Q)).length by omega))
  exact ⟨_, _, gather_get hq hi hc h3 e1, gather_get hq (by omega) hc h3 e2, b1.1, b3.2, hr, b2.1⟩

theorem flatMap_range {α β : Type} (L : List α) (f : α → List β) (d : α) : L.flatMap f = (List.range L.length).flatMap fun i => f (L.getD i d) := by
  have h : L = (List.range L.length).map fun i => L.getD i d := by
    apply List.ext_getElem
    · simp
    · intro i h1 h2; simp [List.getD, h1]
  conv => lhs; rw [h]
  rw [List.flatMap_map]

theorem pool_len {q : Win} : (poolOf q.all q.C (q.kh * q.kw)).length = q.C * (q.all.length * (q.kh * q.kw)) := by
  unfold poolOf
  refine flat_len _ _ _ (fun ch hch => ?_)
  rw [flatMap_range _ _ []]
  refine flat_len _ _ _ (fun c hc => ?_)
  obtain ⟨_, h1, h2, h3⟩ := q.all_pos hc
  have : q.all.getD c [] = q.one (c / q.Q) (c % q.Q) := by simp [List.getD, h3]
  rw [this]
  simp only [List.length_take, List.length_drop, q.one_len]
  have : (ch + 1) * (q.kh * q.kw) ≤ q.C * (q.kh * q.kw) := Nat.mul_le_mul_right _ hch
  rw [Nat.succ_mul] at this
  omega

/-- An element of a group. -/
theorem pool_get {q : Win} {ch c t : Nat} (hch : ch < q.C) (hc : c < q.all.length) (ht : t < q.kh * q.kw) :
    (poolOf q.all q.C (q.kh * q.kw))[(ch * q.all.length + c) * (q.kh * q.kw) + t]? = (q.one (c / q.Q) (c % q.Q))[ch * (q.kh * q.kw) + t]? := by
  have inner : ∀ c, c < q.all.length → ∀ ch, ch < q.C → (((q.all.getD c []).drop (ch * (q.kh * q.kw))).take (q.kh * q.kw)).length = q.kh * q.kw := by
    intro c hc ch hch
    obtain ⟨_, h1, h2, h3⟩ := q.all_pos hc
    have : q.all.getD c [] = q.one (c / q.Q) (c % q.Q) := by simp [List.getD, h3]
    rw [this]
    simp only [List.length_take, List.length_drop, q.one_len]
    have : (ch + 1) * (q.kh * q.kw) ≤ q.C * (q.kh * q.kw) := Nat.mul_le_mul_right _ hch
    rw [Nat.succ_mul] at this
    omega
  have hlen : ∀ ch, ch < q.C → ((q.all).flatMap fun x => (x.drop (ch * (q.kh * q.kw))).take (q.kh * q.kw)).length = q.all.length * (q.kh * q.kw) := by
    intro ch hch
    rw [flatMap_range _ _ []]
    exact flat_len _ _ _ (fun c hc => inner c hc ch hch)
  have e : (ch * q.all.length + c) * (q.kh * q.kw) + t = ch * (q.all.length * (q.kh * q.kw)) + (c * (q.kh * q.kw) + t) := by
    rw [Nat.add_mul, Nat.mul_assoc, Nat.add_assoc]
  have hlt : c * (q.kh * q.kw) + t < q.all.length * (q.kh * q.kw) := by
    have : (c + 1) * (q.kh * q.kw) ≤ q.all.length * (q.kh * q.kw) := Nat.mul_le_mul_right _ hc
    rw [Nat.succ_mul] at this
    omega
  unfold poolOf
  rw [e, flat_get _ _ _ ch _ hlen hch hlt, flatMap_range _ _ [], flat_get _ _ _ c t (fun c hc => inner c hc ch hch) hc ht]
  obtain ⟨_, h1, h2, h3⟩ := q.all_pos hc
  have : q.all.getD c [] = q.one (c / q.Q) (c % q.Q) := by simp [List.getD, h3]
  rw [this, List.getElem?_take_of_lt ht, List.getElem?_drop]

/-- The channel of an element. -/
theorem one_channel {q : Win} (hq : q.Ok) (hp : q.p = 0) {r c n : Nat} (hr : r < q.R) (hc : c < q.Q) (hn : n < q.C * (q.kh * q.kw)) :
    ∃ x : Int, (q.one r c)[n]? = some x ∧ 0 ≤ x ∧ x < 16384 ∧ x / ((q.H : Int) * q.W) = ((n / (q.kh * q.kw) : Nat) : Int) := by
  have hkh := hq.kh1; have hkw := hq.kw1
  rw [q.one_get r c hn]
  have e1 : n / q.kw % q.kh < q.kh := Nat.mod_lt _ (by omega)
  have e2 : n % q.kw < q.kw := Nat.mod_lt _ (by omega)
  obtain ⟨e, h1, h2⟩ := hq.bare hp (ch := n / q.kw / q.kh) hr hc e1 e2
  have hch : n / q.kw / q.kh < q.C := by
    rw [Nat.div_div_eq_div_mul, Nat.mul_comm q.kw]
    exact (Nat.div_lt_iff_lt_mul (Nat.mul_pos (by omega) (by omega))).2 hn
  have hb := hq.at_bd (r := r) (c := c) (i := n / q.kw % q.kh) (k := n % q.kw) hch
  have h3 : ((q.C * q.H * q.W : Nat) : Int) ≤ 16384 := by have := hq.chw; omega
  simp only [Int.natCast_mul] at h3
  have hm : n / (q.kh * q.kw) = n / q.kw / q.kh := by rw [Nat.div_div_eq_div_mul, Nat.mul_comm]
  rw [hm]
  generalize n / q.kw / q.kh = ch at *
  generalize n / q.kw % q.kh = i at *
  generalize n % q.kw = k at *
  have r0 : (0 : Int) ≤ (r : Int) * q.s := Int.mul_nonneg (by omega) (by omega)
  have c0 : (0 : Int) ≤ (c : Int) * q.s := Int.mul_nonneg (by omega) (by omega)
  have t0 : (0 : Int) ≤ (ch : Int) * q.H := Int.mul_nonneg (by omega) (by omega)
  have t1 := Int.mul_nonneg (a := (ch : Int) * q.H + ((r : Int) * q.s + i)) (b := q.W) (by omega) (by omega)
  refine ⟨_, rfl, by rw [e]; omega, by omega, ?_⟩
  rw [e]
  have hHW : (0 : Int) < (q.H : Int) * q.W := Int.mul_pos (by have := hq.h1; omega) (by have := hq.w1; omega)
  have s1 : ((ch : Int) * q.H + ((r : Int) * q.s + i)) * q.W + ((c : Int) * q.s + k) = (((r : Int) * q.s + i) * q.W + ((c : Int) * q.s + k)) + (ch : Int) * ((q.H : Int) * q.W) := by
    rw [Int.add_mul, Int.mul_assoc]; omega
  rw [s1, Int.add_mul_ediv_right _ _ (by omega), Int.ediv_eq_zero_of_lt, Int.zero_add]
  · have := Int.mul_nonneg (a := (r : Int) * q.s + i) (b := q.W) (by omega) (by omega)
    omega
  · have s2 : (((r : Int) * q.s + i) + 1) * q.W ≤ q.H * q.W := Int.mul_le_mul_of_nonneg_right (by omega) (by omega)
    rw [Int.add_mul] at s2
    omega

/-- A group: it rises, and is of one channel. -/
theorem pool_rise {q : Win} (hq : q.Ok) (hp : q.p = 0) {g t u : Nat} (hg : g < q.C * q.all.length) (ht : t < q.kh * q.kw) (hu : u < t) :
    ∃ x y : Int, (poolOf q.all q.C (q.kh * q.kw))[g * (q.kh * q.kw) + t]? = some x ∧ (poolOf q.all q.C (q.kh * q.kw))[g * (q.kh * q.kw) + u]? = some y ∧ 0 ≤ x ∧ x < 16384 ∧ 0 ≤ y ∧ y < x ∧
      x / ((q.H : Int) * q.W) = y / ((q.H : Int) * q.W) := by
  have hN : 0 < q.all.length := by rw [q.all_len]; exact Nat.mul_pos hq.r2.1 hq.q2.1
  have hch : g / q.all.length < q.C := (Nat.div_lt_iff_lt_mul hN).2 hg
  have hc : g % q.all.length < q.all.length := Nat.mod_lt _ hN
  obtain ⟨_, h1, h2, h3⟩ := q.all_pos hc
  have e := Nat.div_add_mod' g q.all.length
  have hn : ∀ t, t < q.kh * q.kw → g / q.all.length * (q.kh * q.kw) + t < q.C * (q.kh * q.kw) := by
    intro t ht
    have : (g / q.all.length + 1) * (q.kh * q.kw) ≤ q.C * (q.kh * q.kw) := Nat.mul_le_mul_right _ hch
    rw [Nat.succ_mul] at this
    omega
  obtain ⟨x, x1, x2, x3, x4⟩ := one_channel hq hp h1 h2 (hn t ht)
  obtain ⟨y, y1, y2, y3, y4⟩ := one_channel hq hp h1 h2 (hn u (by omega))
  have g1 := pool_get hch hc ht
  have g2 := pool_get hch hc (show u < q.kh * q.kw by omega)
  rw [e] at g1 g2
  refine ⟨x, y, by rw [g1]; exact x1, by rw [g2]; exact y1, x2, x3, y2, ?_, ?_⟩
  · have l1 := (List.getElem?_eq_some_iff.1 x1)
    have l2 := (List.getElem?_eq_some_iff.1 y1)
    obtain ⟨p1, q1⟩ := l1
    obtain ⟨p2, q2⟩ := l2
    have := List.pairwise_iff_getElem.1 (hq.inc hp h1 h2) _ _ p2 p1 (by omega)
    rw [q1, q2] at this
    exact this
  · rw [x4, y4]
    have z : ∀ t, t < q.kh * q.kw → (g / q.all.length * (q.kh * q.kw) + t) / (q.kh * q.kw) = g / q.all.length := by
      intro t ht
      rw [Nat.mul_comm, Nat.mul_add_div (by omega), Nat.div_eq_of_lt ht, Nat.add_zero]
    rw [z t ht, z u (by omega)]

end Go.Proofs.Ytcgpidicegbnoaa
