/-
  The plain law of Windows: which indices the windows of a shape hold. No Go in sight.
-/
import Derived.Test.YtcgpidicegbnoaaTenSpec
namespace Go.Proofs.Ytcgpidicegbnoaa
open Go.RowKit

/-- The index of an element of a window, -1 for padding. H, W: the sides; y, x: line and position. -/
def cellW (H W : Int) (ch y x : Int) : Int := if 0 ≤ y ∧ y < H ∧ 0 ≤ x ∧ x < W then (ch * H + y) * W + x else -1

structure Win where
  C : Nat
  H : Nat
  W : Nat
  kh : Nat
  kw : Nat
  s : Nat
  p : Nat

def Win.R (q : Win) : Nat := (q.H + 2 * q.p - q.kh) / q.s + 1
def Win.Q (q : Win) : Nat := (q.W + 2 * q.p - q.kw) / q.s + 1
def Win.at (q : Win) (r c ch i k : Nat) : Int := cellW q.H q.W ch ((r : Int) * q.s + i - q.p) ((c : Int) * q.s + k - q.p)
def Win.line (q : Win) (r c ch i : Nat) : List Int := (List.range q.kw).map (q.at r c ch i)
def Win.chan (q : Win) (r c ch : Nat) : List Int := (List.range q.kh).flatMap (q.line r c ch)
def Win.one (q : Win) (r c : Nat) : List Int := (List.range q.C).flatMap (q.chan r c)
def Win.rowOf (q : Win) (r : Nat) : List (List Int) := (List.range q.Q).map (q.one r)
def Win.all (q : Win) : List (List Int) := (List.range q.R).flatMap q.rowOf
def Win.total (q : Win) : Nat := q.R * q.Q * q.C * q.kh * q.kw

/-- What the shape and the numbers of an accepted call are like. -/
structure Win.Ok (q : Win) : Prop where
  c1 : 1 ≤ q.C
  h1 : 1 ≤ q.H
  w1 : 1 ≤ q.W
  chw : q.C * q.H * q.W ≤ 16384
  kh1 : 1 ≤ q.kh
  kh2 : q.kh ≤ 64
  kw1 : 1 ≤ q.kw
  kw2 : q.kw ≤ 64
  s1 : 1 ≤ q.s
  s2 : q.s ≤ 64
  ph : q.p < q.kh
  pw : q.p < q.kw
  fh : q.kh ≤ q.H + 2 * q.p
  fw : q.kw ≤ q.W + 2 * q.p

theorem flat_snoc {α : Type} (P : List α) (f : Nat → List α) (i : Nat) : P ++ (List.range (i + 1)).flatMap f = (P ++ (List.range i).flatMap f) ++ f i := by
  rw [List.range_succ]; simp
theorem map_snoc {α : Type} (P : List α) (f : Nat → α) (i : Nat) : P ++ (List.range (i + 1)).map f = (P ++ (List.range i).map f) ++ [f i] := by
  rw [List.range_succ]; simp

theorem le_of_mul {a b c : Nat} (hb : 1 ≤ b) (h : a * b ≤ c) : a ≤ c := Nat.le_trans (Nat.le_mul_of_pos_right a hb) h
theorem Win.Ok.c2 {q : Win} (h : q.Ok) : q.C ≤ 16384 := le_of_mul h.h1 (le_of_mul h.w1 h.chw)
theorem Win.Ok.h2 {q : Win} (h : q.Ok) : q.H ≤ 16384 := by
  have := le_of_mul h.w1 h.chw; rw [Nat.mul_comm] at this; exact le_of_mul h.c1 this
theorem Win.Ok.w2 {q : Win} (h : q.Ok) : q.W ≤ 16384 := by
  have := h.chw; rw [Nat.mul_comm] at this; exact le_of_mul (Nat.mul_le_mul h.c1 h.h1) this
theorem Win.Ok.r2 {q : Win} (h : q.Ok) : 1 ≤ q.R ∧ q.R ≤ 16600 := by
  have := h.h2; have := h.ph; have := h.kh2
  have h3 := Nat.div_le_self (q.H + 2 * q.p - q.kh) q.s
  unfold Win.R
  generalize (q.H + 2 * q.p - q.kh) / q.s = z at *
  omega
theorem Win.Ok.q2 {q : Win} (h : q.Ok) : 1 ≤ q.Q ∧ q.Q ≤ 16600 := by
  have := h.w2; have := h.pw; have := h.kw2
  have h3 := Nat.div_le_self (q.W + 2 * q.p - q.kw) q.s
  unfold Win.Q
  generalize (q.W + 2 * q.p - q.kw) / q.s = z at *
  omega

/-- The numbers of rows and columns as Go computes them. -/
theorem Win.Ok.rInt {q : Win} (h : q.Ok) : ((q.H : Int) + 2 * (q.p : Int) - (q.kh : Int)) / (q.s : Int) + 1 = (q.R : Int) := by
  have := h.fh
  unfold Win.R
  rw [Int.natCast_add, Int.natCast_ediv, Int.ofNat_sub (by omega)]
  simp
theorem Win.Ok.qInt {q : Win} (h : q.Ok) : ((q.W : Int) + 2 * (q.p : Int) - (q.kw : Int)) / (q.s : Int) + 1 = (q.Q : Int) := by
  have := h.fw
  unfold Win.Q
  rw [Int.natCast_add, Int.natCast_ediv, Int.ofNat_sub (by omega)]
  simp

theorem prod_bd {a b A B : Int} (a0 : 0 ≤ a) (a1 : a ≤ A) (b0 : 0 ≤ b) (b1 : b ≤ B) : 0 ≤ a * b ∧ a * b ≤ A * B :=
  ⟨Int.mul_nonneg a0 b0, Int.mul_le_mul a1 b1 b0 (by omega)⟩

/-- The products of the test on the number of elements fit. -/
theorem Win.Ok.prods {q : Win} (h : q.Ok) :
    (0 ≤ (q.R : Int) * q.Q ∧ (q.R : Int) * q.Q ≤ 275560000) ∧ (0 ≤ (q.R : Int) * q.Q * q.C ∧ (q.R : Int) * q.Q * q.C ≤ 4514775040000) ∧
    (0 ≤ (q.R : Int) * q.Q * q.C * q.kh ∧ (q.R : Int) * q.Q * q.C * q.kh ≤ 288945602560000) ∧ (0 ≤ (q.R : Int) * q.Q * q.C * q.kh * q.kw ∧ (q.R : Int) * q.Q * q.C * q.kh * q.kw ≤ 18492518563840000) := by
  have hr := h.r2.2; have hq := h.q2.2; have hc := h.c2; have h1 := h.kh2; have h2 := h.kw2
  have a1 := prod_bd (a := q.R) (b := q.Q) (A := 16600) (B := 16600) (by omega) (by omega) (by omega) (by omega)
  have a2 := prod_bd (b := q.C) (B := 16384) a1.1 a1.2 (by omega) (by omega)
  have a3 := prod_bd (b := q.kh) (B := 64) a2.1 a2.2 (by omega) (by omega)
  have a4 := prod_bd (b := q.kw) (B := 64) a3.1 a3.2 (by omega) (by omega)
  refine ⟨⟨a1.1, by omega⟩, ⟨a2.1, by omega⟩, ⟨a3.1, by omega⟩, ⟨a4.1, by omega⟩⟩

/-- The line and the position of an element. -/
theorem Win.Ok.pos {q : Win} (h : q.Ok) {r c : Nat} (hr : r < q.R) (hc : c < q.Q) : (0 ≤ (r : Int) * q.s ∧ (r : Int) * q.s ≤ 1062400) ∧ (0 ≤ (c : Int) * q.s ∧ (c : Int) * q.s ≤ 1062400) := by
  have := h.r2; have := h.q2; have := h.s2
  have a1 := prod_bd (a := r) (b := q.s) (A := 16600) (B := 64) (by omega) (by omega) (by omega) (by omega)
  have a2 := prod_bd (a := c) (b := q.s) (A := 16600) (B := 64) (by omega) (by omega) (by omega) (by omega)
  exact ⟨⟨a1.1, by omega⟩, ⟨a2.1, by omega⟩⟩

/-- The index of an element that is there. -/
theorem Win.Ok.idx {q : Win} (h : q.Ok) {ch : Nat} (hch : ch < q.C) {y x : Int} (y0 : 0 ≤ y) (y1 : y < q.H) (x0 : 0 ≤ x) (x1 : x < q.W) :
    (0 ≤ (ch : Int) * q.H ∧ (ch : Int) * q.H ≤ 268435456) ∧ (0 ≤ ((ch : Int) * q.H + y) * q.W ∧ ((ch : Int) * q.H + y) * q.W ≤ 8796093022208) ∧ 0 ≤ ((ch : Int) * q.H + y) * q.W + x ∧ ((ch : Int) * q.H + y) * q.W + x < q.C * q.H * q.W := by
  have := h.c2; have := h.h2; have := h.w2
  have a1 := prod_bd (a := ch) (b := q.H) (A := 16384) (B := 16384) (by omega) (by omega) (by omega) (by omega)
  have a2 := prod_bd (a := (ch : Int) * q.H + y) (b := q.W) (A := 268451840) (B := 16384) (by omega) (by omega) (by omega) (by omega)
  refine ⟨⟨a1.1, by omega⟩, ⟨a2.1, by omega⟩, by omega, ?_⟩
  have b1 : ((ch : Int) + 1) * q.H ≤ q.C * q.H := Int.mul_le_mul_of_nonneg_right (by omega) (by omega)
  rw [Int.add_mul] at b1
  have b2 : ((ch : Int) * q.H + y + 1) * q.W ≤ (q.C * q.H) * q.W := Int.mul_le_mul_of_nonneg_right (by omega) (by omega)
  rw [Int.add_mul] at b2
  omega

theorem Win.Ok.at_bd {q : Win} (h : q.Ok) {r c ch i k : Nat} (hch : ch < q.C) : -1 ≤ q.at r c ch i k ∧ q.at r c ch i k < q.C * q.H * q.W := by
  unfold Win.at cellW
  split
  · rename_i hin
    have := h.idx hch hin.1 hin.2.1 hin.2.2.1 hin.2.2.2
    omega
  · have h1 := prod_bd (a := q.C) (b := q.H) (A := q.C) (B := q.H) (by omega) (by omega) (by omega) (by omega)
    have h2 := prod_bd (b := q.W) (B := q.W) h1.1 h1.2 (by omega) (by omega)
    omega

theorem Win.Ok.one_bd {q : Win} (h : q.Ok) (r c : Nat) : ∀ x ∈ q.one r c, -1 ≤ x ∧ x < 16384 := by
  intro x hx
  simp only [Win.one, Win.chan, Win.line, List.mem_flatMap, List.mem_map, List.mem_range] at hx
  obtain ⟨ch, hch, i, _, k, _, rfl⟩ := hx
  have := h.at_bd (r := r) (c := c) (i := i) (k := k) hch
  have h2 : ((q.C * q.H * q.W : Nat) : Int) ≤ 16384 := by have := h.chw; omega
  simp only [Int.natCast_mul] at h2
  omega

theorem flat_len {α : Type} (f : Nat → List α) (n m : Nat) (h : ∀ i, i < n → (f i).length = m) : ((List.range n).flatMap f).length = n * m := by
  induction n with
  | zero => simp
  | succ n ih =>
    rw [List.range_succ, List.flatMap_append, List.length_append, ih (fun i hi => h i (by omega))]
    simp [h n (by omega), Nat.add_mul]
theorem Win.line_len (q : Win) (r c ch i : Nat) : (q.line r c ch i).length = q.kw := by simp [Win.line]
theorem Win.chan_len (q : Win) (r c ch : Nat) : (q.chan r c ch).length = q.kh * q.kw := flat_len _ _ _ (fun i _ => q.line_len r c ch i)
theorem Win.one_len (q : Win) (r c : Nat) : (q.one r c).length = q.C * (q.kh * q.kw) := flat_len _ _ _ (fun ch _ => q.chan_len r c ch)
theorem Win.rowOf_len (q : Win) (r : Nat) : (q.rowOf r).length = q.Q := by simp [Win.rowOf]
theorem Win.all_len (q : Win) : q.all.length = q.R * q.Q := flat_len _ _ _ (fun r _ => q.rowOf_len r)

end Go.Proofs.Ytcgpidicegbnoaa
