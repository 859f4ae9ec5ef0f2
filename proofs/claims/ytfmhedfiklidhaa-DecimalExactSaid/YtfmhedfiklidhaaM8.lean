/-
  Contracts of the functions that the statements reach, in the order in which they are built: KerH, KerI.
-/
import Derived.Test.YtfmhedfiklidhaaM7
import Derived.Maps.OwnOps
import Derived.Maps.Views
set_option linter.unusedVariables false
set_option linter.unusedSimpArgs false
set_option linter.constructorNameAsVariable false
set_option linter.deprecated false

/-
  Maps from integers to truth that the call makes: what they hold. No function in sight.
-/
namespace Go.Proofs.Ytfmhedfiklidhaa
open Go.RowKit

theorem Try.mapKeyed : Go.Maps.Keyed Try.prog 3 := Go.Maps.int_keyed Try.underlying3
theorem Try.zeroBool (w : World) : (zeroValue 4).run Try.prog w = .ok (.bool false) w := by kernel_rfl

/-- In the range of the kind int. -/
def I64 (x : Int) : Prop := -9223372036854775808 ≤ x ∧ x ≤ 9223372036854775807
theorem key_int' {P : Program} {k : TypeId} (hk : P.underlying k = some (.int .i64)) {x : Int} (h : I64 x) : keyOf P k (.int .i64 x) = some (.int .i64 x) := by
  have hw : (Lit.int .i64 x).wf = true := by
    unfold I64 at h
    show (decide (IntKind.i64.min ≤ x) && decide (x ≤ IntKind.i64.max)) = true
    rw [Bool.and_eq_true, decide_eq_true_eq, decide_eq_true_eq]
    exact h
  unfold keyOf
  rw [hk]
  simp only
  unfold mapKey
  rw [hk]
  simp [hw]
theorem key_int {x : Int} (h : I64 x) : keyOf Try.prog 3 (.int .i64 x) = some (.int .i64 x) := key_int' Try.underlying3 h

/-- Block b is a map that holds 'true' at the numbers of S. -/
def SetM (w : World) (b n : Nat) (S : Int → Bool) : Prop := ∃ D : DataW Unit, w.ownsMap Try.prog 3 (plainElem Try.prog 4) b n D ∧ Go.Maps.IsMap D ∧ ∀ x, I64 x → D.atKey (.int .i64 x) (.lit (.bool false)) = .lit (.bool (S x))

theorem SetM.lt {w : World} {b n : Nat} {S : Int → Bool} (h : SetM w b n S) : b < w.heap.size := let ⟨_, h1, _⟩ := h; h1.lt
theorem SetM.made (w : World) : SetM (w.alloc (.map #[] 0)) w.heap.size 0 (fun _ => false) := ⟨.map [], World.ownsMap_made _ _ _ _, Go.Maps.isMap_empty, fun x _ => rfl⟩
theorem SetM.kept {w w' : World} {b n : Nat} {S : Int → Bool} (h : SetM w b n S) (hb : Below w.heap.size w w') : SetM w' b n S := by
  obtain ⟨D, h1, h2, h3⟩ := h
  exact ⟨D, h1.kept (row := none) ⟨hb.os, hb.tape, hb.output, hb.size, fun k hk _ => hb.block k hk⟩ (by simp), h2, h3⟩
theorem plain_bool_inv {P : Program} {e : TypeId} (he : P.underlying e = some .bool) {v : Value} {z : DataW Unit × List MemPlace} (h : plainElem P e v = some z) : ∃ x, v = .bool x ∧ z = (.lit (.bool x), []) := by
  unfold plainElem at h
  rw [he] at h
  cases v <;> simp at h
  exact ⟨_, rfl, h.symm⟩
end Go.Proofs.Ytfmhedfiklidhaa

/-
  The walk of kernel.Valid: by contract. First: what it says; the early ends.
-/
namespace Go.Proofs.Ytfmhedfiklidhaa
open Go.RowKit

def putS (S : Int → Bool) (x : Int) : Int → Bool := fun y => y == x || S y
def otherOf (sizes : List Int) (o : OpL) : Int := if o.kind = 6 then sizes.getD o.other.toNat 0 else 0
/-- An operation is valid where the buffers of S are written. -/
def opOK (sizes : List Int) (S : Int → Bool) (o : OpL) : Bool :=
  wthn o.dst 1 ((sizes.length : Int) - 1) && (!S o.dst && (S o.src && ((!decide (o.kind = 6) || S o.other) && fitsL o (sizes.getD o.dst.toNat 0) (sizes.getD o.src.toNat 0) (otherOf sizes o))))
def opStep (sizes : List Int) (acc : Option (Int → Bool)) (o : OpL) : Option (Int → Bool) := acc.bind fun S => if opOK sizes S o then some (putS S o.dst) else none
def opsRun (sizes : List Int) (L : List OpL) : Option (Int → Bool) := L.foldl (opStep sizes) (some (putS (fun _ => false) 0))
def tailOK (k : KerL) (S : Int → Bool) : Bool := S k.output && (wthn k.inShift 0 62 && (wthn k.outShift 0 62 && boundsL k))
/-- What Valid says. -/
def validK (k : KerL) : Bool :=
  wthn k.sizes.length 1 1024 && (decide (k.ops.length ≤ 1024) && (k.sizes.all (fun n => wthn n 1 262144) && (match opsRun k.sizes k.ops with | none => false | some S => tailOK k S)))

theorem opStep_none (sizes : List Int) (L : List OpL) : L.foldl (opStep sizes) none = none := by
  induction L with
  | nil => rfl
  | cons o L ih => exact ih
theorem opsRun_succ {sizes : List Int} {L : List OpL} {j : Nat} {o : OpL} (h : L[j]? = some o) : opsRun sizes (L.take (j + 1)) = opStep sizes (opsRun sizes (L.take j)) o := by
  unfold opsRun
  rw [take_succ_at h, List.foldl_append]; rfl
theorem opsRun_fail {sizes : List Int} {L : List OpL} {j : Nat} (h : opsRun sizes (L.take j) = none) : opsRun sizes L = none := by
  unfold opsRun at *
  rw [← List.take_append_drop j L, List.foldl_append, h, opStep_none]

/-- The integers of a kernel are integers. -/
structure KerL.WF (k : KerL) : Prop where
  ops : ∀ o ∈ k.ops, I64 o.src ∧ I64 o.other ∧ I64 o.dst ∧ I64 o.mul
  out : I64 k.output
  s1 : ∀ x ∈ k.lo, x.Short
  s2 : ∀ x ∈ k.hi, x.Short
  s3 : ∀ x ∈ k.err, x.Short

theorem OpsAt.pick {w : World} {a : Option Addr} {L : List OpL} (h : OpsAt w a L) {j : Nat} (hj : j < L.length) :
    ∃ b off x a1 a2 a3 c1 c2 c3, a = some ⟨b, off, none⟩ ∧ b < w.heap.size ∧ L[j]? = some x ∧
    (w.cell? ⟨b, off + j * 11, none⟩ = some (.int .i64 x.kind) ∧ w.cell? ⟨b, off + j * 11 + 1, none⟩ = some (.int .i64 x.dst) ∧ w.cell? ⟨b, off + j * 11 + 2, none⟩ = some (.int .i64 x.src) ∧ w.cell? ⟨b, off + j * 11 + 3, none⟩ = some (.int .i64 x.other) ∧
      w.cell? ⟨b, off + j * 11 + 4, none⟩ = some (.int .i64 x.cols) ∧ w.cell? ⟨b, off + j * 11 + 5, none⟩ = some (.int .i64 x.inner) ∧ w.cell? ⟨b, off + j * 11 + 6, none⟩ = some (.slice a1 x.index.length c1) ∧ w.cell? ⟨b, off + j * 11 + 7, none⟩ = some (.slice a2 x.weights.length c2) ∧
      w.cell? ⟨b, off + j * 11 + 8, none⟩ = some (.slice a3 x.bias.length c3) ∧ w.cell? ⟨b, off + j * 11 + 9, none⟩ = some (.int .i64 x.mul) ∧ w.cell? ⟨b, off + j * 11 + 10, none⟩ = some (.int .i64 x.shift)) ∧
    OpV w (.agg #[.int .i64 x.kind, .int .i64 x.dst, .int .i64 x.src, .int .i64 x.other, .int .i64 x.cols, .int .i64 x.inner, .slice a1 x.index.length c1, .slice a2 x.weights.length c2, .slice a3 x.bias.length c3, .int .i64 x.mul, .int .i64 x.shift]) x := by
  rcases h.row with rfl | ⟨b, off, rfl, hb, hc⟩
  · simp at hj
  · have hd : L[j]? = some L[j] := by simp [hj]
    obtain ⟨a1, a2, a3, c1, c2, c3, h1, h2⟩ := hc j _ hd
    exact ⟨b, off, L[j], a1, a2, a3, c1, c2, c3, rfl, hb, hd, h1, h2⟩
/-- All that are marked written are buffers. -/
theorem opOK_range {sizes : List Int} {S : Int → Bool} {o : OpL} (h : opOK sizes S o = true) (hS : ∀ y, S y = true → 0 ≤ y ∧ y < (sizes.length : Int)) : ∀ y, putS S o.dst y = true → 0 ≤ y ∧ y < (sizes.length : Int) := by
  intro y hy
  unfold putS at hy
  rw [Bool.or_eq_true, beq_iff_eq] at hy
  rcases hy with rfl | hy
  · unfold opOK at h
    rw [Bool.and_eq_true] at h
    have := wthn_iff.1 h.1
    omega
  · exact hS y hy

theorem sizes_range {l : List Int} (h : l.all (fun n => wthn n 1 262144) = true) : ∀ y : Int, 0 ≤ y → y < (l.length : Int) → 1 ≤ l.getD y.toNat 0 ∧ l.getD y.toNat 0 ≤ 262144 := by
  intro y h0 h1
  obtain ⟨n, rfl⟩ := Int.eq_ofNat_of_zero_le h0
  have hn : n < l.length := by omega
  rw [Int.toNat_natCast, List.getD_eq_getElem?_getD, List.getElem?_eq_getElem hn]
  exact wthn_iff.1 (List.all_eq_true.1 h _ (List.getElem_mem hn))

theorem Ints.at_int {w : World} {F : Nat → Prop} {b off : Nat} {l : List Int} (h : Ints w F (some ⟨b, off, none⟩) l) {i : Int} (h0 : 0 ≤ i) (h1 : i < l.length) : w.cell? ⟨b, off + i.toNat, none⟩ = some (.int .i64 (l.getD i.toNat 0)) := by
  obtain ⟨n, rfl⟩ := Int.eq_ofNat_of_zero_le h0
  obtain ⟨b', off', x, he, hc, hx, _⟩ := h.pick2 (k := n) (by omega)
  cases he
  rw [Int.toNat_natCast, List.getD_eq_getElem?_getD, hx]; exact hc

end Go.Proofs.Ytfmhedfiklidhaa
