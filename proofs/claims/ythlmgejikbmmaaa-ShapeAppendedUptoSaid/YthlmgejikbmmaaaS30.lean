/-
  Contracts of the functions that the statements reach, in the order in which they are built: LitB.
-/
import Derived.Test.YthlmgejikbmmaaaS8
import Derived.Test.YthlmgejikbmmaaaS15
set_option linter.unusedVariables false
set_option linter.unusedSimpArgs false
set_option linter.constructorNameAsVariable false
set_option linter.deprecated false

/-
  What composite literals leave, piece by piece: rows, variables, numbers that were just made. No function in sight.
-/
namespace Go.Proofs.Ythlmgejikbmmaaa
open Go.RowKit

def zeroR : RatL := ⟨false, [], []⟩
/-- Rationals that were just made. -/
theorem RatsAt.zeros {w : World} {g T n : Nat} (h : w.heap[g]? = some (.cells (madeCells #[.bool false, .slice none 0 0, .slice none 0 0] (n * 3)) T (0, 0))) (hn : n ≤ 9223372036854775807) : RatsAt w (some ⟨g, 0, none⟩) (List.replicate n zeroR) := by
  refine ⟨by simpa using hn, .inr ⟨g, 0, rfl, (Array.getElem?_eq_some_iff.1 h).1, fun j x hj => ?_⟩⟩
  obtain ⟨hl, hx⟩ := List.getElem?_eq_some_iff.1 hj
  rw [List.length_replicate] at hl
  rw [List.getElem_replicate] at hx
  subst hx
  have hc : ∀ r, r < 3 → w.cell? ⟨g, 0 + j * 3 + r, none⟩ = some ((#[.bool false, .slice none 0 0, .slice none 0 0] : Array Value).getD r undef) := by
    intro r hr
    have h1 : j * 3 + r < n * 3 := by omega
    have h2 : (j * 3 + r) % 3 = r := by omega
    match r, hr with
    | 0, _ => simp [World.cell?, h, madeCells]; exact ⟨j * 3, by rw [Array.getElem?_eq_getElem (by rw [Array.size_range]; omega), Array.getElem_range], by rw [Nat.mul_mod_left]; rfl⟩
    | 1, _ => simp [World.cell?, h, madeCells, h1, h2]
    | 2, _ => simp [World.cell?, h, madeCells, h1, h2]
  have c0 := hc 0 (by omega)
  have c1 := hc 1 (by omega)
  have c2 := hc 2 (by omega)
  exact ⟨none, none, 0, 0, c0, c1, c2, ⟨none, none, 0, 0, rfl, Nat.le_refl _, Nat.le_refl _, U32s.nil _ _, U32s.nil _ _⟩⟩
def zero3 (n : Nat) : Array Value := madeCells #[.bool false, .slice none 0 0, .slice none 0 0] (n * 3)
theorem Try.infoRat : (Try.prog.info? 78).map (fun i => (i.zero, i.size, i.bytes)) = some (some (.agg #[.bool false, .slice none 0 0, .slice none 0 0]), 3, 56) := by kernel_rfl
theorem mkRats (n : Nat) (hn : n ≤ 1000000) (w : World) : (Instr.makeSlice 24 (.int .i64 (n : Int)) (.int .i64 (n : Int))).run Try.prog w = .ok (.slice (some ⟨w.heap.size, 0, none⟩) n n) (w.alloc (.cells (zero3 n) 78)) := by
  obtain ⟨i0, hi0, hz0, hz1, hz2⟩ := info_parts Try.infoRat
  have h := run_makeSlice (P := Try.prog) (w := w) 24 78 i0 (.agg #[.bool false, .slice none 0 0, .slice none 0 0]) Try.underlying24 hi0 hz0 .i64 .i64 (n : Int) (n : Int) (by omega) (Int.le_refl _) (by rw [hz1, Int.toNat_natCast]; omega) (by rw [hz2]; omega) (by omega)
  rw [hz1, Int.toNat_natCast] at h
  exact h
/-- Worlds behind W0 as seen from B on. -/
structure From (B : Nat) (W0 w : World) : Prop where
  base : B ≤ w.heap.size
  be : Below B W0 w
theorem From.start {B : Nat} {W0 : World} (h : B ≤ W0.heap.size) : From B W0 W0.drew := ⟨h, (Below.refl _ _).drew⟩
theorem From.alloc {B : Nat} {W0 w : World} (h : From B W0 w) (o : Obj) : From B W0 (w.alloc o) := ⟨by have := h.base; simp; omega, h.be.alloc h.base o⟩
/-- A block of the call's own, of type T, from B on, known whole. -/
def RowT (B T : Nat) (xs : Array Value) (n : Nat) (v : Value) (w : World) : Prop := ∃ g, B ≤ g ∧ v = .slice (some ⟨g, 0, none⟩) n n ∧ w.heap[g]? = some (.cells xs T (0, 0))
theorem RowT.below {B T : Nat} {xs : Array Value} {n : Nat} {v : Value} {w w' : World} (h : RowT B T xs n v w) (hh : Below w.heap.size w w') : RowT B T xs n v w' := by
  obtain ⟨g, h1, h2, h3⟩ := h
  exact ⟨g, h1, h2, (hh.block g (Array.getElem?_eq_some_iff.1 h3).1).trans h3⟩
theorem RowT.alloc {B : Nat} {w : World} (h : B ≤ w.heap.size) (T : Nat) (xs : Array Value) (n : Nat) : RowT B T xs n (.slice (some ⟨w.heap.size, 0, none⟩) n n) (w.alloc (.cells xs T)) := by
  refine ⟨w.heap.size, h, rfl, ?_⟩
  show (w.heap.push _)[w.heap.size]? = _
  rw [Array.getElem?_push, if_pos rfl]
/-- A variable of the call's own, of type T. -/
def CellT (B T : Nat) (xs : Array Value) (v : Value) (w : World) : Prop := ∃ g, B ≤ g ∧ v = .pointer (some ⟨g, 0, none⟩) ∧ w.heap[g]? = some (.cells xs T (0, 0))
theorem CellT.below {B T : Nat} {xs : Array Value} {v : Value} {w w' : World} (h : CellT B T xs v w) (hh : Below w.heap.size w w') : CellT B T xs v w' := by
  obtain ⟨g, h1, h2, h3⟩ := h
  exact ⟨g, h1, h2, (hh.block g (Array.getElem?_eq_some_iff.1 h3).1).trans h3⟩
theorem CellT.alloc {B : Nat} {w : World} (h : B ≤ w.heap.size) (T : Nat) (xs : Array Value) : CellT B T xs (.pointer (some ⟨w.heap.size, 0, none⟩)) (w.alloc (.cells xs T)) := by
  refine ⟨w.heap.size, h, rfl, ?_⟩
  show (w.heap.push _)[w.heap.size]? = _
  rw [Array.getElem?_push, if_pos rfl]
/-- The cells of block g from o on, laid one by one. -/
def setRow (g : Nat) : World → Nat → List Value → World
  | w, _, [] => w
  | w, o, v :: l => setRow g (w.setCell ⟨g, o, none⟩ v) (o + 1) l
theorem setRow_below {g B : Nat} (hB : B ≤ g) {W0 : World} : ∀ (l : List Value) (w : World) (o : Nat), Below B W0 w → Below B W0 (setRow g w o l) := by
  intro l
  induction l with
  | nil => intro w o h; exact h
  | cons v l ih => intro w o h; exact ih _ _ (h.setCell hB v)
theorem setRow_apart {g k : Nat} (hk : k ≠ g) : ∀ (l : List Value) (w : World) (o : Nat), (setRow g w o l).heap[k]? = w.heap[k]? := by
  intro l
  induction l with
  | nil => intro w o; rfl
  | cons v l ih => intro w o; exact (ih _ _).trans (Below.heap_setCell w ⟨g, o, none⟩ v k hk)
theorem setRow_size {g : Nat} : ∀ (l : List Value) (w : World) (o : Nat), (setRow g w o l).heap.size = w.heap.size := by
  intro l
  induction l with
  | nil => intro w o; rfl
  | cons v l ih => intro w o; exact (ih _ _).trans (by simp [World.setCell])
theorem setRow_block {g T : Nat} {p : Nat × Nat} : ∀ (l : List Value) (w : World) (o : Nat) (cs : List Value), w.heap[g]? = some (.cells cs.toArray T p) → (setRow g w o l).heap[g]? = some (.cells ((cs.take o ++ l ++ cs.drop (o + l.length)).take cs.length).toArray T p) := by
  intro l
  induction l with
  | nil =>
    intro w o cs h
    simp only [setRow, List.append_nil, List.length_nil, Nat.add_zero, List.take_append_drop, List.take_length]
    exact h
  | cons v l ih =>
    intro w o cs h
    have h1 : (w.setCell ⟨g, o, none⟩ v).heap[g]? = some (.cells (cs.set o v).toArray T p) := by
      simp [World.setCell, Array.getElem?_modify, h]
    have h2 := ih _ (o + 1) _ h1
    simp only [setRow]
    rw [h2]
    congr 2
    by_cases ho : o < cs.length
    · have e1 : (cs.set o v).take (o + 1) = cs.take o ++ [v] := by
        rw [List.take_succ_eq_append_getElem (by simpa using ho), List.take_set_of_le (Nat.le_refl o)]
        simp
      have e2 : (cs.set o v).drop (o + 1 + l.length) = cs.drop (o + (v :: l).length) := by
        rw [List.drop_set_of_lt (by omega)]
        congr 1
        simp only [List.length_cons]; omega
      rw [e1, e2, List.length_set]
      simp
    · have e1 : cs.set o v = cs := List.set_eq_of_length_le (by omega)
      rw [e1, List.take_of_length_le (show cs.length ≤ o + 1 by omega), List.take_of_length_le (show cs.length ≤ o by omega)]
      simp
theorem setRow_all {g T : Nat} {l : List Value} {w : World} {cs : Array Value} (h : w.heap[g]? = some (.cells cs T (0, 0))) (hl : l.length = cs.size) : (setRow g w 0 l).heap[g]? = some (.cells l.toArray T (0, 0)) := by
  have h1 := setRow_block (g := g) (T := T) (p := (0, 0)) l w 0 cs.toList (by simpa using h)
  rw [h1]
  have e : (cs.toList.take 0 ++ l ++ cs.toList.drop (0 + l.length)).take cs.toList.length = l := by
    rw [List.take_zero, List.nil_append, List.drop_of_length_le (by simp; omega), List.append_nil, List.take_of_length_le (by simp; omega)]
  rw [e]
theorem RowT.setRow {B T T' g : Nat} {xs ys : Array Value} {n : Nat} {v : Value} {w : World} (h : RowT B T xs n v w) (hg : w.heap[g]? = some (.cells ys T' (0, 0))) (hT : T ≠ T') (l : List Value) : RowT B T xs n v (setRow g w 0 l) := by
  obtain ⟨b, h1, h2, h3⟩ := h
  refine ⟨b, h1, h2, (setRow_apart ?_ l w 0).trans h3⟩
  rintro rfl
  rw [hg] at h3
  cases h3
  exact hT rfl

end Go.Proofs.Ythlmgejikbmmaaa
