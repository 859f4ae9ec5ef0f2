/-
  Contracts of the functions that the statements reach, in the order in which they are built: DecB.
-/
import Derived.Test.YtfmhedfiklidhaaM6
import Derived.Test.YtfmhedfiklidhaaM3
import Derived.Laws.BytesArg
import Derived.Laws.Concat
import Derived.RegionTactic
import Derived.ChangeAlike
import Derived.BigRegion
set_option linter.unusedVariables false
set_option linter.unusedSimpArgs false
set_option linter.constructorNameAsVariable false
set_option linter.deprecated false

/-
  Rows of bytes in memory, strings as lists of bytes; the walk of slices.Reverse at bytes: by contract.
-/
namespace Go.Proofs.Ytfmhedfiklidhaa
open Go.RowKit

/-- A text of bytes as a string. -/
def Str (l : List UInt8) : ByteArray := ⟨l.toArray⟩
theorem Str_size (l : List UInt8) : (Str l).size = l.length := by simp [Str, ByteArray.size]
theorem Str_toList (l : List UInt8) : (Str l).toList = l := by unfold Str; exact ByteArray.toList_mk l
theorem Str_data (l : List UInt8) : (Str l).data.toList = l := rfl
theorem Str_append (l m : List UInt8) : Str l ++ Str m = Str (l ++ m) := ByteArray.mk_append_mk l m
theorem Str_of (s : ByteArray) : s = Str s.data.toList := rfl
theorem Str_extract (l : List UInt8) (a b : Nat) : (Str l).extract a b = Str ((l.drop a).take (b - a)) := ByteArray.extract_mk l a b
theorem Str_get {l : List UInt8} {k : Nat} (h : k < (Str l).size) : (Str l)[k] = l[k]'(by rw [← Str_size]; exact h) := rfl
def u8v (c : UInt8) : Value := .int .u8 (c.toNat : Int)
theorem strOf_u8 (l : List UInt8) : strOfNums (l.map fun c => (c.toNat : Int)) = Str l := by
  unfold strOfNums Str
  congr 2
  rw [List.map_map]
  conv => rhs; rw [← List.map_id l]
  apply List.map_congr_left
  intro c _
  simp

/-- The bytes f 0 .. f (n - 1) at the beginning of block g. -/
structure RowU8 (w : World) (g n : Nat) (f : Nat → UInt8) : Prop where
  lt : g < w.heap.size
  at_ : ∀ x, x < n → w.cell? ⟨g, x, none⟩ = some (u8v (f x))
  free : ∀ x, x < n → w.frozen? ⟨g, x, none⟩ = false
theorem RowU8.congr {w : World} {g n : Nat} {f f' : Nat → UInt8} (h : RowU8 w g n f) (he : ∀ x, x < n → f x = f' x) : RowU8 w g n f' :=
  ⟨h.lt, fun x hx => by rw [← he x hx]; exact h.at_ x hx, h.free⟩
theorem RowU8.less {w : World} {g n m : Nat} {f : Nat → UInt8} (h : RowU8 w g n f) (hm : m ≤ n) : RowU8 w g m f := ⟨h.lt, fun x hx => h.at_ x (by omega), fun x hx => h.free x (by omega)⟩
theorem RowU8.below {w w' : World} {g n : Nat} {f : Nat → UInt8} (h : RowU8 w g n f) (hb : Below w.heap.size w w') : RowU8 w' g n f :=
  ⟨Nat.lt_of_lt_of_le h.lt hb.size, fun x hx => (hb.cell (p := ⟨g, x, none⟩) h.lt).trans (h.at_ x hx), fun x hx => (hb.frozen (p := ⟨g, x, none⟩) h.lt).trans (h.free x hx)⟩
theorem RowU8.set {w : World} {g n : Nat} {f : Nat → UInt8} (h : RowU8 w g n f) (x : Nat) (c : UInt8) : RowU8 (w.setCell ⟨g, x, none⟩ (u8v c)) g n (fun y => if y = x then c else f y) := by
  refine ⟨by simpa using h.lt, fun y hy => ?_, fun y hy => by simp [World.frozen?_setCell, h.free y hy]⟩
  by_cases hxy : y = x
  · subst hxy
    rw [if_pos rfl, World.cell?_setCell_same _ _ _ (h.at_ y hy)]
  · rw [if_neg hxy, World.cell?_setCell_other _ _ _ _ (by intro e; cases e; exact hxy rfl), h.at_ y hy]
theorem RowU8.alike {w w' : World} {g n : Nat} {f : Nat → UInt8} (h : RowU8 w g n f) (ha : w'.heap = w.heap) : RowU8 w' g n f :=
  ⟨by rw [ha]; exact h.lt, fun x hx => by rw [← h.at_ x hx]; simp [World.cell?, ha], fun x hx => by rw [← h.free x hx]; simp [World.frozen?, ha]⟩

theorem Only.drewB {g : Nat} {a w : World} (h : Only g a w) : Only g a w.drew := ⟨h.os, h.tape, h.output, h.size, h.block⟩
/-- The bytes while their ends are exchanged. -/
def revF (n i : Nat) (f : Nat → UInt8) : Nat → UInt8 := fun x => if x < i ∨ n - i ≤ x then f (n - 1 - x) else f x
theorem revF_zero {n : Nat} {f : Nat → UInt8} {x : Nat} (h : x < n) : revF n 0 f x = f x := by unfold revF; rw [if_neg (by omega)]
theorem revF_end {n i : Nat} {f : Nat → UInt8} (h : n - 1 ≤ 2 * i) {x : Nat} (hx : x < n) : revF n i f x = f (n - 1 - x) := by
  unfold revF
  by_cases h1 : x < i ∨ n - i ≤ x
  · rw [if_pos h1]
  · rw [if_neg h1]; congr 1; omega
theorem revF_step {n i : Nat} {f : Nat → UInt8} (h : 2 * i + 1 < n) {x : Nat} (hx : x < n) : revF n (i + 1) f x = if x = n - 1 - i then f i else if x = i then f (n - 1 - i) else revF n i f x := by
  unfold revF
  by_cases h1 : x = n - 1 - i
  · subst h1; rw [if_pos (by omega), if_pos rfl]; congr 1; omega
  · rw [if_neg h1]
    by_cases h2 : x = i
    · subst h2; rw [if_pos (by omega), if_pos rfl]
    · rw [if_neg h2]
      by_cases h3 : x < i ∨ n - i ≤ x
      · rw [if_pos h3, if_pos (by omega)]
      · rw [if_neg h3, if_neg (by omega)]
theorem revF_lo {n i : Nat} {f : Nat → UInt8} (h : 2 * i + 1 < n) : revF n i f i = f i := by unfold revF; rw [if_neg (by omega)]
theorem revF_hi {n i : Nat} {f : Nat → UInt8} (h : 2 * i + 1 < n) : revF n i f (n - 1 - i) = f (n - 1 - i) := by unfold revF; rw [if_neg (by omega)]

set_option maxRecDepth 100000 in
set_option maxHeartbeats 1600000 in
theorem sReverse {w : World} {g n : Nat} {f : Nat → UInt8} (c : Nat) (h : RowU8 w g n f) (hn : 0 < n) (hn2 : n ≤ 9223372036854775807) :
    Calls Try.prog 57 #[.slice (some ⟨g, 0, none⟩) n c] w fun e w' => (∃ v, e = .returned v) ∧ Only g w w' ∧ RowU8 w' g n (fun x => f (n - 1 - x)) := by
  have H := Lib.hid h
  clear h
  go_enter Try.func57, Try.ntmps57
  go_wp2
  go_loopw [2, 3] (fun i j wr => ∃ k : Nat, 2 * k ≤ n ∧ i = .int .i64 (k : Int) ∧ j = .int .i64 ((n : Int) - 1 - (k : Int)) ∧ Only g w wr ∧ Hid (RowU8 wr g n (revF n k f))) (fun i _ _ => n - (intOf i).toNat)
  case atStart => exact ⟨0, by omega, rfl, by go_num, Only.refl _ _, H.out.congr fun x hx => (revF_zero hx).symm⟩
  case round =>
    obtain ⟨k, hk, rfl, rfl, hO, HR⟩ := hrel
    have HO := Lib.hid hO
    clear hO
    by_cases hlt : 2 * k + 1 < n
    · obtain ⟨q, hq⟩ : ∃ q : Nat, q = n - 1 - k := ⟨_, rfl⟩
      have hqi : (n : Int) - 1 - (k : Int) = (q : Int) := by omega
      have c1 := HR.out.at_ k (by omega)
      have c2 := HR.out.at_ q (by omega)
      have f1 := HR.out.free k (by omega)
      have f2 := HR.out.free q (by omega)
      have e1 : revF n k f k = f k := revF_lo hlt
      have e2 : revF n k f q = f q := by rw [hq]; exact revF_hi hlt
      rw [e1] at c1
      rw [e2] at c2
      unfold u8v at c1 c2
      rw [hqi]
      have hkq : k ≠ q := by omega
      have hk1 : k < n := by omega
      have hq1 : q < n := by omega
      have hd1 : decide (k < q) = true := decide_eq_true (by omega)
      have HStep : Hid (RowU8 ((wr.setCell ⟨g, k, none⟩ (.int .u8 ((f q).toNat : Int))).setCell ⟨g, q, none⟩ (.int .u8 ((f k).toNat : Int))) g n (revF n (k + 1) f)) := by
        refine ((HR.out.set k (f q)).set q (f k)).congr fun x hx => ?_
        rw [revF_step hlt hx, ← hq]
      have HQ := Lib.hid hq
      have HQi := Lib.hid hqi
      have c3 : ((wr.drew.setCell ⟨g, k, none⟩ (.int .u8 ((f q).toNat : Int))).cell? ⟨g, q, none⟩) = some (.int .u8 ((f q).toNat : Int)) := by
        rw [World.cell?_setCell_other _ _ _ _ (by intro e; cases e; exact hkq rfl)]; exact c2
      clear e1 e2 hq hqi
      go_wp2
      go_region
      all_goals
        go_wp2
        go_roundw
        case rel => exact ⟨k + 1, by omega, by go_num, by have := HQi.out; go_num, ((HO.out.setCell _ _).setCell _ _).drewB, HStep.out.alike rfl⟩
        case measure => simp [intOf]; omega
    · have hd1 : decide ((k : Int) < (n : Int) - 1 - (k : Int)) = false := decide_eq_false (by omega)
      go_wp2
      go_end0
      exact ⟨⟨_, rfl⟩, HO.out, HR.out.congr fun x hx => revF_end (by omega) hx⟩

end Go.Proofs.Ytfmhedfiklidhaa
