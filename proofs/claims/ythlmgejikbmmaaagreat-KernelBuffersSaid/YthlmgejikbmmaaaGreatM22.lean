/-
  Contracts of the functions that the statements reach, in the order in which they are built: KerV, KerW, Lit, KerY, MadeZ, RKI, RKM.
-/
import Derived.Test.YthlmgejikbmmaaaGreatM21
import Derived.Test.YthlmgejikbmmaaaGreatM16
import Derived.Test.YthlmgejikbmmaaaGreatM4
set_option linter.unusedVariables false
set_option linter.unusedSimpArgs false
set_option linter.constructorNameAsVariable false
set_option linter.deprecated false

/-
  The example of layer 54: by contract (under way).
-/
namespace Go.Proofs.YthlmgejikbmmaaaGreat
open Go.RowKit

/-- The kernel of the document's example. -/
def exOps : List OpL := [⟨2, 1, 0, 0, 1, 2, [], [1, 2, 3, 4], [5, 6], 0, 0⟩, ⟨7, 2, 1, 0, 0, 0, [], [], [], 1, 1⟩]
def exK : KerL := ⟨[2, 2, 2], exOps, 2, 0, 0, List.replicate 2 zeroR, List.replicate 2 zeroR, List.replicate 2 zeroR⟩
theorem exK_valid : validK exK = true := by decide +kernel
theorem exK_out : outL exK [1, -1] = [2, 3] := by decide +kernel
theorem exK_mid : (runL exK [1, -1] exK.ops.length).getD 1 [] = [4, 5] := by decide +kernel

/-- One operation in a row of its own. -/
theorem OpsAt.one {w : World} {g T : Nat} {o : OpL} {a1 a2 a3 : Option Addr} {c1 c2 c3 : Nat} (h : w.heap[g]? = some (.cells #[.int .i64 o.kind, .int .i64 o.dst, .int .i64 o.src, .int .i64 o.other, .int .i64 o.cols, .int .i64 o.inner, .slice a1 o.index.length c1, .slice a2 o.weights.length c2, .slice a3 o.bias.length c3, .int .i64 o.mul, .int .i64 o.shift] T (0, 0))) (h1 : OpV w (.agg #[.int .i64 o.kind, .int .i64 o.dst, .int .i64 o.src, .int .i64 o.other, .int .i64 o.cols, .int .i64 o.inner, .slice a1 o.index.length c1, .slice a2 o.weights.length c2, .slice a3 o.bias.length c3, .int .i64 o.mul, .int .i64 o.shift]) o) : OpsAt w (some ⟨g, 0, none⟩) [o] := by
  refine ⟨by simp, .inr ⟨g, 0, rfl, (Array.getElem?_eq_some_iff.1 h).1, fun j x hj => ?_⟩⟩
  match j, hj with
  | 0, hj =>
    simp at hj
    subst hj
    exact ⟨a1, a2, a3, c1, c2, c3, ⟨by simp [World.cell?, h], by simp [World.cell?, h], by simp [World.cell?, h], by simp [World.cell?, h], by simp [World.cell?, h], by simp [World.cell?, h], by simp [World.cell?, h], by simp [World.cell?, h], by simp [World.cell?, h], by simp [World.cell?, h], by simp [World.cell?, h]⟩, h1⟩
  | j + 1, hj => simp at hj
/-- Two. -/
theorem OpsAt.two {w : World} {g T : Nat} {o p : OpL} {a1 a2 a3 a4 a5 a6 : Option Addr} {c1 c2 c3 c4 c5 c6 : Nat} (h : w.heap[g]? = some (.cells #[.int .i64 o.kind, .int .i64 o.dst, .int .i64 o.src, .int .i64 o.other, .int .i64 o.cols, .int .i64 o.inner, .slice a1 o.index.length c1, .slice a2 o.weights.length c2, .slice a3 o.bias.length c3, .int .i64 o.mul, .int .i64 o.shift, .int .i64 p.kind, .int .i64 p.dst, .int .i64 p.src, .int .i64 p.other, .int .i64 p.cols, .int .i64 p.inner, .slice a4 p.index.length c4, .slice a5 p.weights.length c5, .slice a6 p.bias.length c6, .int .i64 p.mul, .int .i64 p.shift] T (0, 0))) (h1 : OpV w (.agg #[.int .i64 o.kind, .int .i64 o.dst, .int .i64 o.src, .int .i64 o.other, .int .i64 o.cols, .int .i64 o.inner, .slice a1 o.index.length c1, .slice a2 o.weights.length c2, .slice a3 o.bias.length c3, .int .i64 o.mul, .int .i64 o.shift]) o) (h2 : OpV w (.agg #[.int .i64 p.kind, .int .i64 p.dst, .int .i64 p.src, .int .i64 p.other, .int .i64 p.cols, .int .i64 p.inner, .slice a4 p.index.length c4, .slice a5 p.weights.length c5, .slice a6 p.bias.length c6, .int .i64 p.mul, .int .i64 p.shift]) p) : OpsAt w (some ⟨g, 0, none⟩) [o, p] := by
  refine ⟨by simp, .inr ⟨g, 0, rfl, (Array.getElem?_eq_some_iff.1 h).1, fun j x hj => ?_⟩⟩
  match j, hj with
  | 0, hj =>
    simp at hj
    subst hj
    exact ⟨a1, a2, a3, c1, c2, c3, ⟨by simp [World.cell?, h], by simp [World.cell?, h], by simp [World.cell?, h], by simp [World.cell?, h], by simp [World.cell?, h], by simp [World.cell?, h], by simp [World.cell?, h], by simp [World.cell?, h], by simp [World.cell?, h], by simp [World.cell?, h], by simp [World.cell?, h]⟩, h1⟩
  | 1, hj =>
    simp at hj
    subst hj
    exact ⟨a4, a5, a6, c4, c5, c6, ⟨by simp [World.cell?, h], by simp [World.cell?, h], by simp [World.cell?, h], by simp [World.cell?, h], by simp [World.cell?, h], by simp [World.cell?, h], by simp [World.cell?, h], by simp [World.cell?, h], by simp [World.cell?, h], by simp [World.cell?, h], by simp [World.cell?, h]⟩, h2⟩
  | j + 2, hj => simp at hj

end Go.Proofs.YthlmgejikbmmaaaGreat

/-
  The example of layer 54: by contract.
-/
namespace Go.Proofs.YthlmgejikbmmaaaGreat
open Go.RowKit

/-- A block of the call's own, from B on, known whole. -/
def Row (B : Nat) (xs : Array Value) (n : Nat) (v : Value) (w : World) : Prop := ∃ g T, B ≤ g ∧ v = .slice (some ⟨g, 0, none⟩) n n ∧ w.heap[g]? = some (.cells xs T (0, 0))
theorem Row.below {B : Nat} {xs : Array Value} {n : Nat} {v : Value} {w w' : World} (h : Row B xs n v w) (hh : Below w.heap.size w w') : Row B xs n v w' := by
  obtain ⟨g, T, h1, h2, h3⟩ := h
  exact ⟨g, T, h1, h2, (hh.block g (Array.getElem?_eq_some_iff.1 h3).1).trans h3⟩
theorem Row.alloc {B : Nat} {w : World} (h : B ≤ w.heap.size) (xs : Array Value) (n T : Nat) : Row B xs n (.slice (some ⟨w.heap.size, 0, none⟩) n n) (w.alloc (.cells xs T)) := by
  refine ⟨w.heap.size, T, h, rfl, ?_⟩
  show (w.heap.push _)[w.heap.size]? = _
  rw [Array.getElem?_push, if_pos rfl]
/-- Behind a store into a block before B. -/
theorem Row.apart {B : Nat} {xs : Array Value} {n : Nat} {v : Value} {w w' : World} (h : Row B xs n v w) (hh : ∀ k, B ≤ k → w'.heap[k]? = w.heap[k]?) : Row B xs n v w' := by
  obtain ⟨g, T, h1, h2, h3⟩ := h
  exact ⟨g, T, h1, h2, (hh g h1).trans h3⟩
theorem Row.ints {B : Nat} {l : List Int} {n : Nat} {v : Value} {w : World} (h : Row B (rowI l) n v w) (hn : n = l.length) (hw : ∀ x ∈ l, I64 x) (hl : l.length ≤ 9223372036854775807) : ∃ a, v = .slice a l.length l.length ∧ Ints w Any a l := by
  obtain ⟨g, T, h1, h2, h3⟩ := h
  subst hn
  exact ⟨_, h2, IBlk.ints ⟨T, h3⟩ trivial hw hl⟩

theorem Row.rats {B n : Nat} {v : Value} {w : World} (h : Row B (zero3 n) n v w) (hn : n ≤ 9223372036854775807) : ∃ a, v = .slice a n n ∧ RatsAt w a (List.replicate n zeroR) := by
  obtain ⟨g, T, h1, h2, h3⟩ := h
  exact ⟨_, h2, RatsAt.zeros h3 hn⟩

/-- The cells of an operation. -/
def opCells (o : OpL) (v1 v2 v3 : Value) : Array Value := #[.int .i64 o.kind, .int .i64 o.dst, .int .i64 o.src, .int .i64 o.other, .int .i64 o.cols, .int .i64 o.inner, v1, v2, v3, .int .i64 o.mul, .int .i64 o.shift]

def exG (B : Nat) (i : Nat) (v : Value) (w : World) : Prop :=
  match i with
  | 0 => Row B (rowI [2, 2, 2]) 3 v w
  | 1 => Row B (rowI [1, 2, 3, 4]) 4 v w
  | 2 => Row B (rowI [5, 6]) 2 v w
  | 3 => ∃ v1 v2, Row B (rowI [1, 2, 3, 4]) 4 v1 w ∧ Row B (rowI [5, 6]) 2 v2 w ∧ v = .agg #[.int .i64 2, .int .i64 1, .int .i64 0, .int .i64 0, .int .i64 1, .int .i64 2, .slice none 0 0, v1, v2, .int .i64 0, .int .i64 0]
  | 4 => v = .agg #[.int .i64 7, .int .i64 2, .int .i64 1, .int .i64 0, .int .i64 0, .int .i64 0, .slice none 0 0, .slice none 0 0, .slice none 0 0, .int .i64 1, .int .i64 1]
  | 5 => ∃ v1 v2, Row B (rowI [1, 2, 3, 4]) 4 v1 w ∧ Row B (rowI [5, 6]) 2 v2 w ∧ Row B #[.int .i64 2, .int .i64 1, .int .i64 0, .int .i64 0, .int .i64 1, .int .i64 2, .slice none 0 0, v1, v2, .int .i64 0, .int .i64 0, .int .i64 7, .int .i64 2, .int .i64 1, .int .i64 0, .int .i64 0, .int .i64 0, .slice none 0 0, .slice none 0 0, .slice none 0 0, .int .i64 1, .int .i64 1] 2 v w
  | 6 => Row B (zero3 2) 2 v w
  | 7 => Row B (zero3 2) 2 v w
  | 8 => Row B (zero3 2) 2 v w
  | 9 => ∃ v0 v1 v2 v5 v6 v7 v8, Row B (rowI [2, 2, 2]) 3 v0 w ∧ Row B (rowI [1, 2, 3, 4]) 4 v1 w ∧ Row B (rowI [5, 6]) 2 v2 w ∧ Row B #[.int .i64 2, .int .i64 1, .int .i64 0, .int .i64 0, .int .i64 1, .int .i64 2, .slice none 0 0, v1, v2, .int .i64 0, .int .i64 0, .int .i64 7, .int .i64 2, .int .i64 1, .int .i64 0, .int .i64 0, .int .i64 0, .slice none 0 0, .slice none 0 0, .slice none 0 0, .int .i64 1, .int .i64 1] 2 v5 w ∧
      Row B (zero3 2) 2 v6 w ∧ Row B (zero3 2) 2 v7 w ∧ Row B (zero3 2) 2 v8 w ∧ v = .agg #[v0, v5, .int .i64 2, .int .i64 0, .int .i64 0, v6, v7, v8]
  | _ => True
theorem exG_below {B i : Nat} {v : Value} {w w' : World} (h : exG B i v w) (hb : Below w.heap.size w w') : exG B i v w' := by
  match i, h with
  | 0, h => exact Row.below h hb
  | 1, h => exact Row.below h hb
  | 2, h => exact Row.below h hb
  | 3, ⟨v1, v2, h1, h2, h3⟩ => exact ⟨v1, v2, h1.below hb, h2.below hb, h3⟩
  | 4, h => exact h
  | 5, ⟨v1, v2, h1, h2, h3⟩ => exact ⟨v1, v2, h1.below hb, h2.below hb, h3.below hb⟩
  | 6, h => exact Row.below h hb
  | 7, h => exact Row.below h hb
  | 8, h => exact Row.below h hb
  | 9, ⟨v0, v1, v2, v5, v6, v7, v8, h0, h1, h2, h5, h6, h7, h8, h9⟩ => exact ⟨v0, v1, v2, v5, v6, v7, v8, h0.below hb, h1.below hb, h2.below hb, h5.below hb, h6.below hb, h7.below hb, h8.below hb, h9⟩
  | _ + 10, _ => trivial

set_option maxRecDepth 100000 in
set_option maxHeartbeats 1600000 in
theorem kExample (w : World) : Calls Tryz.prog 10 #[] w fun e w' => (∃ v, e = .returned v ∧ KerV w' v exK) ∧ Below w.heap.size w w' := by
  go_enter Tryz.func10, Tryz.ntmps10
  go_upto_region 1 with fail
  have hsz : (w.alloc (.cells #[.slice none 0 0, .slice none 0 0, .int .i64 0, .int .i64 0, .int .i64 0, .slice none 0 0, .slice none 0 0, .slice none 0 0] 26)).heap.size = w.heap.size + 1 := by simp
  refine wp_region_slots_lit (by kernel_rfl) (by kernel_rfl) (by kernel_rfl) (by kernel_rfl) (by kernel_rfl) (fun w' => Below (w.heap.size + 1) (w.alloc (.cells #[.slice none 0 0, .slice none 0 0, .int .i64 0, .int .i64 0, .int .i64 0, .slice none 0 0, .slice none 0 0, .slice none 0 0] 26)) w') (fun w w' => Below w.heap.size w w') (exG (w.heap.size + 1)) (fun i v w w' h hb => exG_below h hb) ((Below.refl _ _).drew) ?_ ?_
  · intro ops
    simp only [List.dropLast, Shows]
    generalize w.alloc (.cells #[.slice none 0 0, .slice none 0 0, .int .i64 0, .int .i64 0, .int .i64 0, .slice none 0 0, .slice none 0 0, .slice none 0 0] 26) = W0 at *
    refine ⟨?_, ?_, ?_, ?_, ?_, ?_, ?_, ?_, ?_, ?_, trivial⟩
    · intro g W hR hL
      have hB : w.heap.size + 1 ≤ W.heap.size := hsz ▸ hR.size
      have HR := Lib.hid hR
      clear hR hL hsz
      simp [fillFrom, Act.put]
      go_wp2
      exact ⟨_, rfl, HR.out.alloc hB _, (Below.refl _ _).alloc (Nat.le_refl _) _, Row.alloc hB _ _ _⟩
    · intro g W hR hL
      have hB : w.heap.size + 1 ≤ W.heap.size := hsz ▸ hR.size
      have HR := Lib.hid hR
      clear hR hL hsz
      simp [fillFrom, Act.put]
      go_wp2
      exact ⟨_, rfl, HR.out.alloc hB _, (Below.refl _ _).alloc (Nat.le_refl _) _, Row.alloc hB _ _ _⟩
    · intro g W hR hL
      have hB : w.heap.size + 1 ≤ W.heap.size := hsz ▸ hR.size
      have HR := Lib.hid hR
      clear hR hL hsz
      simp [fillFrom, Act.put]
      go_wp2
      exact ⟨_, rfl, HR.out.alloc hB _, (Below.refl _ _).alloc (Nat.le_refl _) _, Row.alloc hB _ _ _⟩
    · intro g W hR hL
      simp only [Laid, Region.binds, forall_const, exG] at hL
      obtain ⟨H1, H2, _⟩ := hL
      have K1 := Lib.hid H1
      have K2 := Lib.hid H2
      obtain ⟨b1, T1, p1, e1, q1⟩ := H1
      obtain ⟨b2, T2, p2, e2, q2⟩ := H2
      have HR := Lib.hid hR
      clear hR hsz q1 q2 p1 p2
      simp [fillFrom, Act.put]
      go_wp2
      exact ⟨_, rfl, HR.out, Below.refl _ _, _, _, e1 ▸ K1.out, e2 ▸ K2.out, rfl⟩
    · intro g W hR hL
      have HR := Lib.hid hR
      clear hR hsz hL
      simp [fillFrom, Act.put]
      go_wp2
      exact ⟨_, rfl, HR.out, Below.refl _ _, rfl⟩
    · intro g W hR hL
      have hB : w.heap.size + 1 ≤ W.heap.size := hsz ▸ hR.size
      simp only [Laid, Region.binds, forall_const, exG] at hL
      obtain ⟨⟨v1, v2, H1, H2, e3⟩, e4, _⟩ := hL
      have K1 := Lib.hid H1
      have K2 := Lib.hid H2
      obtain ⟨b1, T1, p1, rfl, q1⟩ := H1
      obtain ⟨b2, T2, p2, rfl, q2⟩ := H2
      have HR := Lib.hid hR
      clear hR hsz q1 q2 p1 p2
      simp [fillFrom, Act.put]
      go_wp2
      have hal := (Below.refl W.heap.size W).alloc (Nat.le_refl _)
      exact ⟨_, rfl, HR.out.alloc hB _, hal _, _, _, K1.out.below (hal _), K2.out.below (hal _), Row.alloc hB _ _ _⟩
    · intro g W hR hL
      have hB : w.heap.size + 1 ≤ W.heap.size := hsz ▸ hR.size
      have HR := Lib.hid hR
      clear hR hL hsz
      simp [fillFrom, Act.put]
      have hmk := mkRats 2 (by omega)
      simp only [show ((2 : Nat) : Int) = 2 from rfl] at hmk
      go_wp2
      exact ⟨_, rfl, HR.out.alloc hB _, (Below.refl _ _).alloc (Nat.le_refl _) _, Row.alloc hB _ _ _⟩
    · intro g W hR hL
      have hB : w.heap.size + 1 ≤ W.heap.size := hsz ▸ hR.size
      have HR := Lib.hid hR
      clear hR hL hsz
      simp [fillFrom, Act.put]
      have hmk := mkRats 2 (by omega)
      simp only [show ((2 : Nat) : Int) = 2 from rfl] at hmk
      go_wp2
      exact ⟨_, rfl, HR.out.alloc hB _, (Below.refl _ _).alloc (Nat.le_refl _) _, Row.alloc hB _ _ _⟩
    · intro g W hR hL
      have hB : w.heap.size + 1 ≤ W.heap.size := hsz ▸ hR.size
      have HR := Lib.hid hR
      clear hR hL hsz
      simp [fillFrom, Act.put]
      have hmk := mkRats 2 (by omega)
      simp only [show ((2 : Nat) : Int) = 2 from rfl] at hmk
      go_wp2
      exact ⟨_, rfl, HR.out.alloc hB _, (Below.refl _ _).alloc (Nat.le_refl _) _, Row.alloc hB _ _ _⟩
    · intro g W hR hL
      simp only [Laid, Region.binds, forall_const, exG] at hL
      obtain ⟨H0, ⟨v1, v2, H1, H2, H5⟩, H6, H7, H8, _⟩ := hL
      have K0 := Lib.hid H0
      have K1 := Lib.hid H1
      have K2 := Lib.hid H2
      have K5 := Lib.hid H5
      have K6 := Lib.hid H6
      have K7 := Lib.hid H7
      have K8 := Lib.hid H8
      obtain ⟨b0, T0, p0, e0, q0⟩ := H0
      obtain ⟨b5, T5, p5, e5, q5⟩ := H5
      obtain ⟨b6, T6, p6, e6, q6⟩ := H6
      obtain ⟨b7, T7, p7, e7, q7⟩ := H7
      obtain ⟨b8, T8, p8, e8, q8⟩ := H8
      have HR := Lib.hid hR
      clear hR hsz q0 q5 q6 q7 q8 p0 p5 p6 p7 p8 H1 H2
      simp [fillFrom, Act.put]
      go_wp2
      exact ⟨_, rfl, HR.out, Below.refl _ _, _, v1, v2, _, _, _, _, e0 ▸ K0.out, K1.out, K2.out, e5 ▸ K5.out, e6 ▸ K6.out, e7 ▸ K7.out, e8 ▸ K8.out, rfl⟩
  · intro ops g W hR hL
    simp only [List.dropLast, List.getLastD_cons, List.getLastD_nil, fillFrom, Act.put, List.length_cons, List.length_nil, Nat.reduceAdd, LaidAll] at hL ⊢
    have hB : w.heap.size + 1 ≤ W.heap.size := hsz ▸ hR.size
    have H9 := hL.2
    simp only [exG] at H9
    obtain ⟨v0, v1, v2, v5, v6, v7, v8, h0, h1, h2, h5, h6, h7, h8, h9⟩ := H9
    have hblk : W.heap[w.heap.size]? = some (.cells #[.slice none 0 0, .slice none 0 0, .int .i64 0, .int .i64 0, .int .i64 0, .slice none 0 0, .slice none 0 0, .slice none 0 0] 26 (0, 0)) := by
      rw [hR.block w.heap.size (by omega)]
      show (w.heap.push _)[w.heap.size]? = _
      rw [Array.getElem?_push, if_pos rfl]
    have HR := Lib.hid hR
    have K0 := Lib.hid h0
    have K1 := Lib.hid h1
    have K2 := Lib.hid h2
    have K5 := Lib.hid h5
    have K6 := Lib.hid h6
    have K7 := Lib.hid h7
    have K8 := Lib.hid h8
    clear hL hR hsz h1 h2
    obtain ⟨b0, T0, p0, rfl, q0⟩ := h0
    obtain ⟨b5, T5, p5, rfl, q5⟩ := h5
    obtain ⟨b6, T6, p6, rfl, q6⟩ := h6
    obtain ⟨b7, T7, p7, rfl, q7⟩ := h7
    obtain ⟨b8, T8, p8, rfl, q8⟩ := h8
    clear q0 q5 q6 q7 q8 p0 p5 p6 p7 p8
    have c0 : W.cell? ⟨w.heap.size, 0, none⟩ = some (.slice none 0 0) := by simp [World.cell?, hblk]
    have c1 : W.cell? ⟨w.heap.size, 1, none⟩ = some (.slice none 0 0) := by simp [World.cell?, hblk]
    have c2 : W.cell? ⟨w.heap.size, 2, none⟩ = some (.int .i64 0) := by simp [World.cell?, hblk]
    have c3 : W.cell? ⟨w.heap.size, 3, none⟩ = some (.int .i64 0) := by simp [World.cell?, hblk]
    have c4 : W.cell? ⟨w.heap.size, 4, none⟩ = some (.int .i64 0) := by simp [World.cell?, hblk]
    have c5 : W.cell? ⟨w.heap.size, 5, none⟩ = some (.slice none 0 0) := by simp [World.cell?, hblk]
    have c6 : W.cell? ⟨w.heap.size, 6, none⟩ = some (.slice none 0 0) := by simp [World.cell?, hblk]
    have c7 : W.cell? ⟨w.heap.size, 7, none⟩ = some (.slice none 0 0) := by simp [World.cell?, hblk]
    have fz : ∀ o, W.frozen? ⟨w.heap.size, o, none⟩ = false := fun o => by simp [World.frozen?, hblk]
    have HBk := Lib.hid hblk
    clear hblk
    go_wp2
    clear fz h9
    refine bodyPost_ret (v := .agg #[.slice (some ⟨b0, 0, none⟩) 3 3, .slice (some ⟨b5, 0, none⟩) 2 2, .int .i64 2, .int .i64 0, .int .i64 0, .slice (some ⟨b6, 0, none⟩) 2 2, .slice (some ⟨b7, 0, none⟩) 2 2, .slice (some ⟨b8, 0, none⟩) 2 2]) (by simp [results, Tryz.results10, go_sem, c0, c1, c2, c3, c4, c5, c6, c7]) rfl ?_
    clear c0 c1 c2 c3 c4 c5 c6 c7
    have hap : ∀ k, w.heap.size + 1 ≤ k → ((((((((W.setCell ⟨w.heap.size, 0, none⟩ (.slice (some ⟨b0, 0, none⟩) 3 3)).setCell ⟨w.heap.size, 1, none⟩ (.slice (some ⟨b5, 0, none⟩) 2 2)).setCell ⟨w.heap.size, 2, none⟩ (.int .i64 2)).setCell ⟨w.heap.size, 3, none⟩ (.int .i64 0)).setCell ⟨w.heap.size, 4, none⟩ (.int .i64 0)).setCell ⟨w.heap.size, 5, none⟩ (.slice (some ⟨b6, 0, none⟩) 2 2)).setCell ⟨w.heap.size, 6, none⟩ (.slice (some ⟨b7, 0, none⟩) 2 2)).setCell ⟨w.heap.size, 7, none⟩ (.slice (some ⟨b8, 0, none⟩) 2 2)).heap[k]? = W.heap[k]? := by
      intro k hk
      have hne : ∀ o, k ≠ (⟨w.heap.size, o, none⟩ : Addr).block := fun o => by simp only; omega
      rw [Below.heap_setCell _ _ _ _ (hne _), Below.heap_setCell _ _ _ _ (hne _), Below.heap_setCell _ _ _ _ (hne _), Below.heap_setCell _ _ _ _ (hne _), Below.heap_setCell _ _ _ _ (hne _), Below.heap_setCell _ _ _ _ (hne _), Below.heap_setCell _ _ _ _ (hne _), Below.heap_setCell _ _ _ _ (hne _)]
    have hbw : Below w.heap.size w ((((((((W.setCell ⟨w.heap.size, 0, none⟩ (.slice (some ⟨b0, 0, none⟩) 3 3)).setCell ⟨w.heap.size, 1, none⟩ (.slice (some ⟨b5, 0, none⟩) 2 2)).setCell ⟨w.heap.size, 2, none⟩ (.int .i64 2)).setCell ⟨w.heap.size, 3, none⟩ (.int .i64 0)).setCell ⟨w.heap.size, 4, none⟩ (.int .i64 0)).setCell ⟨w.heap.size, 5, none⟩ (.slice (some ⟨b6, 0, none⟩) 2 2)).setCell ⟨w.heap.size, 6, none⟩ (.slice (some ⟨b7, 0, none⟩) 2 2)).setCell ⟨w.heap.size, 7, none⟩ (.slice (some ⟨b8, 0, none⟩) 2 2)) :=
      (((((((((((Below.refl _ w).alloc (Nat.le_refl _) _).trans (HR.out.mono (Nat.le_succ _))).setCell (Nat.le_refl _) _).setCell (Nat.le_refl _) _).setCell (Nat.le_refl _) _).setCell (Nat.le_refl _) _).setCell (Nat.le_refl _) _).setCell (Nat.le_refl _) _).setCell (Nat.le_refl _) _).setCell (Nat.le_refl _) _)
    generalize ((((((((W.setCell ⟨w.heap.size, 0, none⟩ (.slice (some ⟨b0, 0, none⟩) 3 3)).setCell ⟨w.heap.size, 1, none⟩ (.slice (some ⟨b5, 0, none⟩) 2 2)).setCell ⟨w.heap.size, 2, none⟩ (.int .i64 2)).setCell ⟨w.heap.size, 3, none⟩ (.int .i64 0)).setCell ⟨w.heap.size, 4, none⟩ (.int .i64 0)).setCell ⟨w.heap.size, 5, none⟩ (.slice (some ⟨b6, 0, none⟩) 2 2)).setCell ⟨w.heap.size, 6, none⟩ (.slice (some ⟨b7, 0, none⟩) 2 2)).setCell ⟨w.heap.size, 7, none⟩ (.slice (some ⟨b8, 0, none⟩) 2 2)) = W' at hap hbw ⊢
    refine ⟨⟨_, rfl, ?_⟩, hbw⟩
    obtain ⟨a0, e0, i0⟩ := (K0.out.apart hap).ints rfl (by simp [I64]) (by simp)
    obtain ⟨a1, rfl, i1⟩ := (K1.out.apart hap).ints rfl (by simp [I64]) (by simp)
    obtain ⟨a2, rfl, i2⟩ := (K2.out.apart hap).ints rfl (by simp [I64]) (by simp)
    obtain ⟨a6, e6, i6⟩ := (K6.out.apart hap).rats (by omega)
    obtain ⟨a7, e7, i7⟩ := (K7.out.apart hap).rats (by omega)
    obtain ⟨a8, e8, i8⟩ := (K8.out.apart hap).rats (by omega)
    obtain ⟨g5, T5', _, e5, hg5⟩ := K5.out.apart hap
    cases e0; cases e5; cases e6; cases e7; cases e8
    have h5 : OpsAt W' (some ⟨b5, 0, none⟩) exOps := OpsAt.two (o := ⟨2, 1, 0, 0, 1, 2, [], [1, 2, 3, 4], [5, 6], 0, 0⟩) (p := ⟨7, 2, 1, 0, 0, 0, [], [], [], 1, 1⟩) (a1 := none) (c1 := 0) (a4 := none) (a5 := none) (a6 := none) (c4 := 0) (c5 := 0) (c6 := 0) hg5
      ⟨none, a1, a2, 0, 4, 2, rfl, Ints.nil _ _ _, i1, i2, by simp⟩ ⟨none, none, none, 0, 0, 0, rfl, Ints.nil _ _ _, Ints.nil _ _ _, Ints.nil _ _ _, by simp⟩
    exact ⟨_, _, _, _, _, _, _, _, _, _, rfl, i0, h5, i6, i7, i8⟩

end Go.Proofs.YthlmgejikbmmaaaGreat

/-
  Composite literals: what a region that makes one leaves, piece by piece. No program in sight.
-/
namespace Go.Proofs.YthlmgejikbmmaaaGreat
open Go.RowKit

theorem RowT.row {B T : Nat} {xs : Array Value} {n : Nat} {v : Value} {w : World} (h : RowT B T xs n v w) : Row B xs n v w := let ⟨g, h1, h2, h3⟩ := h; ⟨g, T, h1, h2, h3⟩
end Go.Proofs.YthlmgejikbmmaaaGreat

/-
  The awake of layer 54: by contract.
-/
namespace Go.Proofs.YthlmgejikbmmaaaGreat
open Go.RowKit

theorem exK_WF : KerL.WF exK := by
  have hz : ∀ x ∈ List.replicate 2 zeroR, x.Short := by
    intro x hx
    rw [List.eq_of_mem_replicate hx]
    exact ⟨by simp [zeroR], by simp [zeroR]⟩
  refine ⟨?_, by simp [exK, I64], hz, hz, hz⟩
  intro o ho
  simp only [exK, exOps, List.mem_cons, List.not_mem_nil, or_false] at ho
  rcases ho with rfl | rfl <;> simp [I64]
theorem newInts {w : World} (l : List Int) (T : Nat) (hw : ∀ x ∈ l, I64 x) (hl : l.length ≤ 9223372036854775807) : Ints (w.alloc (.cells (rowI l) T)) Any (some ⟨w.heap.size, 0, none⟩) l := by
  refine IBlk.ints ⟨T, ?_⟩ trivial hw hl
  show (w.heap.push _)[w.heap.size]? = _
  rw [Array.getElem?_push, if_pos rfl]

set_option maxRecDepth 100000 in
set_option maxHeartbeats 3200000 in
theorem kAwake (w : World) : Calls Tryz.prog 4 #[] w fun e w' => e = .returned (.bool true) ∧ Below w.heap.size w w' := by
  go_enter Tryz.func4, Tryz.ntmps4
  go_wp2_with fail
  refine (kExample w).mono ?_
  rintro e w1 ⟨⟨k1, rfl, hk1⟩, hb1⟩
  have HB1 := Lib.hid hb1
  have HK1 := Lib.hid hk1
  clear hb1 hk1
  go_wp2_with fail
  refine (kBuffers (HK1.out.below ((Below.refl _ _).alloc (Nat.le_refl _) _)) exK_WF (newInts [1, -1] _ (by simp [I64]) (by simp))).mono ?_
  intro e w2 hp
  rcases hp with ⟨_, ⟨_, hb2, M, B, cap, gs, rfl, hm, hgl⟩ | ⟨hc, _, _⟩⟩ | ⟨hc, _, _⟩
  · have HB2 := Lib.hid (((HB1.out.alloc HB1.out.size _)).trans (hb2.mono (Nat.le_trans HB1.out.size (by simp))))
    have HM := Lib.hid hm
    have HGL := Lib.hid hgl
    clear hb2 hm hgl
    go_wp2_with fail
    refine (kExample w2).mono ?_
    rintro e w3 ⟨⟨k2, rfl, hk2⟩, hb3⟩
    have HB3 := Lib.hid (HB2.out.trans (hb3.mono HB2.out.size))
    have HK2 := Lib.hid hk2
    have HM3 := Lib.hid (HM.out.below hb3)
    clear hb3 hk2 HM HB2 HK1 HB1
    go_wp2_with fail
    refine (kOut (HK2.out.below ((Below.refl _ _).alloc (Nat.le_refl _) _)) exK_WF (newInts [1, -1] _ (by simp [I64]) (by simp))).mono ?_
    intro e w4 hp
    rcases hp with ⟨_, _, hb4, a4, c4, rfl, h4⟩ | ⟨_, hc, _⟩ | ⟨hc, _⟩
    · have hal := (Below.refl w3.heap.size w3).alloc (Nat.le_refl _)
      have HM4 := Lib.hid ((HM3.out.below (hal _)).below hb4)
      have HB4 := Lib.hid (((HB3.out.alloc HB3.out.size _)).trans (hb4.mono (Nat.le_trans HB3.out.size (by simp))))
      have HA := Lib.hid h4
      clear hb4 h4 HM3 HB3 HK2 hal
      go_wp2_with fail
      refine (kExample w4).mono ?_
      rintro e w5 ⟨⟨k3, rfl, hk3⟩, hb5⟩
      have HB5 := Lib.hid (HB4.out.trans (hb5.mono HB4.out.size))
      have HM5 := Lib.hid (HM4.out.below hb5)
      have HA5 := Lib.hid (HA.out.below hb5)
      have HK3 := Lib.hid hk3
      clear hb5 hk3 HM4 HB4 HA
      go_wp2_with fail
      refine (kValid HK3.out exK_WF).mono ?_
      rintro e w6 ⟨rfl, hb6⟩
      have HM6 := Lib.hid (HM5.out.below hb6)
      have HA6 := Lib.hid (HA5.out.below hb6)
      have HB6 := Lib.hid (HB5.out.trans (hb6.mono HB5.out.size))
      have hval := exK_valid
      have hlen : exK.sizes.length = 3 := rfl
      have hg1 : 1 < gs.length := by rw [HGL.out]; exact (by decide : 1 < 3)
      obtain ⟨g, hg⟩ : ∃ g, gs[1]? = some g := ⟨gs[1], List.getElem?_eq_getElem hg1⟩
      obtain ⟨r1, rb1⟩ := HM6.out.row 1 g [4, 5] hg (by decide +kernel)
      simp only [List.length_cons, List.length_nil, Nat.zero_add, Nat.reduceAdd] at r1
      have HI1 := Lib.hid (rb1.ints (F := Any) trivial (by simp [I64]) (by simp))
      have HA7 : Hid (Ints w6 Any a4 [2, 3]) := by have h := HA6.out; rw [exK_out] at h; exact h
      have hol : (outL exK [1, -1]).length = 2 := by rw [exK_out]; rfl
      clear hb6 HM5 HA5 HB5 HK3 HM6 HGL hg1 hg rb1 HA6
      generalize outL exK [1, -1] = OL at *
      go_wp2_with fail
      have hal := fun (T : TypeId) => (Below.refl w6.heap.size w6).alloc (Nat.le_refl _) (.cells (rowI [4, 5]) T)
      refine (rSameInts (HI1.out.below (hal _)) (newInts [4, 5] _ (by simp [I64]) (by simp)) 2 2).mono ?_
      rintro e w7 ⟨rfl, hb7⟩
      have HB7 := Lib.hid ((HB6.out.alloc HB6.out.size _).trans (hb7.mono (Nat.le_trans HB6.out.size (by simp))))
      have HA8 := Lib.hid ((HA7.out.below (hal _)).below hb7)
      clear hb7 hal HB6 HA7 HI1 r1
      go_wp2_with fail
      have hal := fun (T : TypeId) => (Below.refl w7.heap.size w7).alloc (Nat.le_refl _) (.cells (rowI [2, 3]) T)
      refine (rSameInts (HA8.out.below (hal _)) (newInts [2, 3] _ (by simp [I64]) (by simp)) c4 2).mono ?_
      rintro e w8 ⟨rfl, hb8⟩
      have HB8 := Lib.hid ((HB7.out.alloc HB7.out.size _).trans (hb8.mono (Nat.le_trans HB7.out.size (by simp))))
      clear hb8 hal HB7 HA8
      go_wp2
      go_ret
      exact ⟨rfl, HB8.out⟩
    · exact absurd (show (([1, -1] : List Int).length : Int) = exK.sizes.getD 0 0 from rfl) hc
    · rw [exK_valid] at hc; cases hc
  · exact absurd (show (([1, -1] : List Int).length : Int) = exK.sizes.getD 0 0 from rfl) hc
  · rw [exK_valid] at hc; cases hc

end Go.Proofs.YthlmgejikbmmaaaGreat

/-
  Rows that 'make' lays: integers, rational numbers.
-/
namespace Go.Proofs.YthlmgejikbmmaaaGreat
open Go.RowKit

theorem mkI64 (n : Nat) (hn : n ≤ 1000000) (w : World) : (Instr.makeSlice 27 (.int .i64 (n : Int)) (.int .i64 (n : Int))).run Tryz.prog w = .ok (.slice (some ⟨w.heap.size, 0, none⟩) n n) (w.alloc (.cells (madeCells #[.int .i64 0] n) 2)) := by
  obtain ⟨i0, hi0, hz0, hz1, hz2⟩ := info_parts Tryz.infoI64'
  have h := run_makeSlice (P := Tryz.prog) (w := w) 27 2 i0 (.int .i64 0) Tryz.underlying27 hi0 hz0 .i64 .i64 (n : Int) (n : Int) (by omega) (Int.le_refl _) (by rw [hz1, Int.toNat_natCast]; omega) (by rw [hz2]; omega) (by omega)
  rw [hz1, Int.toNat_natCast, Nat.mul_one] at h
  exact h
theorem mkRatsM (n : Nat) (hn : n ≤ 1000000) (w : World) : (Instr.makeSlice 24 (.int .i64 (n : Int)) (.int .i64 (n : Int))).run Tryz.prog w = .ok (.slice (some ⟨w.heap.size, 0, none⟩) n n) (w.alloc (.cells (madeCells #[.bool false, .slice none 0 0, .slice none 0 0] (n * 3)) 44)) := mkRats n hn w
theorem madeCells_zero (n : Nat) : madeCells #[.int .i64 0] n = rowI (List.replicate n 0) := by
  apply Array.ext
  · simp [madeCells, rowI]
  · intro i h1 h2
    simp [madeCells, rowI, Nat.mod_one]

end Go.Proofs.YthlmgejikbmmaaaGreat

/-
  Rows of integers in memory, held by a row of slices: what the reference's Buffers of layer 54 makes. No function in sight.
-/
namespace Go.Proofs.YthlmgejikbmmaaaGreat
open Go.RowKit

/-- A row of integers at the beginning of block g. -/
structure RBlk (w : World) (g : Nat) (l : List Int) : Prop where
  lt : g < w.heap.size
  at_ : ∀ x, x < l.length → w.cell? ⟨g, x, none⟩ = some (.int .i64 (l.getD x 0))
  free : ∀ x, w.frozen? ⟨g, x, none⟩ = false
theorem RBlk.below {w w' : World} {g : Nat} {l : List Int} (h : RBlk w g l) (hb : Below w.heap.size w w') : RBlk w' g l :=
  ⟨Nat.lt_of_lt_of_le h.lt hb.size, fun x hx => (hb.cell (p := ⟨g, x, none⟩) h.lt).trans (h.at_ x hx), fun x => (hb.frozen (p := ⟨g, x, none⟩) h.lt).trans (h.free x)⟩
theorem RBlk.of {w : World} {g : Nat} {l : List Int} (h : IBlk w g l) : RBlk w g l := ⟨h.lt, fun _ hx => h.cell hx, fun x => h.free x⟩
theorem RBlk.far {w : World} {g p o : Nat} {l : List Int} (h : RBlk w g l) (hne : p ≠ g) (u : Value) : RBlk (w.setCell ⟨p, o, none⟩ u) g l :=
  ⟨by simpa using h.lt, fun x hx => (far2 hne).trans (h.at_ x hx), fun x => by simp [World.frozen?_setCell, h.free]⟩
theorem RBlk.set {w : World} {g x : Nat} {l : List Int} (h : RBlk w g l) (hx : x < l.length) (v : Int) : RBlk (w.setCell ⟨g, x, none⟩ (.int .i64 v)) g (l.set x v) := by
  refine ⟨by simpa using h.lt, fun y hy => ?_, fun y => by simp [World.frozen?_setCell, h.free]⟩
  rw [List.length_set] at hy
  by_cases hxy : x = y
  · subst hxy
    rw [World.cell?_setCell_same _ _ _ (h.at_ x hx)]
    simp [List.getD_eq_getElem?_getD, hx]
  · rw [World.cell?_setCell_other _ _ _ _ (by intro e; cases e; exact hxy rfl), h.at_ y hy]
    simp [List.getD_eq_getElem?_getD, List.getElem?_set_ne hxy]
theorem RBlk.ints {w : World} {g : Nat} {l : List Int} (h : RBlk w g l) (hw : ∀ x ∈ l, I64 x) (hl : l.length ≤ 9223372036854775807) : Ints w Any (some ⟨g, 0, none⟩) l := by
  refine ⟨hw, hl, .inr ⟨g, 0, rfl, trivial, h.lt, fun j d hj => ?_⟩⟩
  have hlt := (List.getElem?_eq_some_iff.1 hj).1
  have := h.at_ j hlt
  rw [List.getD_eq_getElem?_getD, hj] at this
  rw [Nat.zero_add]; exact this

/-- The rows vs in the blocks gs, held by block B. -/
structure RowsM (w : World) (B : Nat) (gs : List Nat) (vs : List (List Int)) : Prop where
  blt : B < w.heap.size
  bfree : ∀ x, w.frozen? ⟨B, x, none⟩ = false
  len : gs.length = vs.length
  row : ∀ (j g : Nat) (v : List Int), gs[j]? = some g → vs[j]? = some v → (∃ c, v.length ≤ c ∧ w.cell? ⟨B, j, none⟩ = some (.slice (some ⟨g, 0, none⟩) v.length c)) ∧ RBlk w g v
  nodup : gs.Nodup
  nB : B ∉ gs
theorem RowsM.below {w w' : World} {B : Nat} {gs : List Nat} {vs : List (List Int)} (h : RowsM w B gs vs) (hb : Below w.heap.size w w') : RowsM w' B gs vs :=
  ⟨Nat.lt_of_lt_of_le h.blt hb.size, fun x => (hb.frozen (p := ⟨B, x, none⟩) h.blt).trans (h.bfree x), h.len,
   fun j g v h1 h2 => let ⟨⟨c, q1, q2⟩, q3⟩ := h.row j g v h1 h2; ⟨⟨c, q1, (hb.cell (p := ⟨B, j, none⟩) h.blt).trans q2⟩, q3.below hb⟩, h.nodup, h.nB⟩
/-- One element of one row is laid. -/
theorem RowsM.put {w : World} {B : Nat} {gs : List Nat} {vs : List (List Int)} (h : RowsM w B gs vs) {d gd x : Nat} {v : List Int} (h1 : gs[d]? = some gd) (h2 : vs[d]? = some v) (hx : x < v.length) (y : Int) :
    RowsM (w.setCell ⟨gd, x, none⟩ (.int .i64 y)) B gs (vs.set d (v.set x y)) := by
  have hBg : gd ≠ B := fun e => h.nB (e ▸ List.mem_of_getElem? h1)
  refine ⟨by simpa using h.blt, fun x => by simp [World.frozen?_setCell, h.bfree], by rw [List.length_set]; exact h.len, ?_, h.nodup, h.nB⟩
  intro j g u hg hu
  by_cases hdj : d = j
  · subst hdj
    rw [h1] at hg
    cases hg
    have hlt := (List.getElem?_eq_some_iff.1 h2).1
    rw [List.getElem?_set_self hlt, Option.some.injEq] at hu
    subst hu
    obtain ⟨⟨c, q1, q2⟩, q3⟩ := h.row d gd v h1 h2
    rw [List.length_set]
    exact ⟨⟨c, q1, (far2 hBg).trans q2⟩, q3.set hx y⟩
  · rw [List.getElem?_set_ne hdj] at hu
    obtain ⟨⟨c, q1, q2⟩, q3⟩ := h.row j g u hg hu
    have hne : gd ≠ g := fun e => hdj (nodup_inj h.nodup h1 (e ▸ hg))
    exact ⟨⟨c, q1, (far2 hBg).trans q2⟩, q3.far hne _⟩

/-- The row d while its first m elements are laid: those of N, and behind them the old ones. -/
theorem RowsM.turn {w : World} {B : Nat} {gs : List Nat} {vs : List (List Int)} {d gd m : Nat} {N D : List Int} (h : RowsM w B gs (vs.set d (N.take m ++ D.drop m))) (h1 : gs[d]? = some gd) (hd : d < vs.length) (hl : N.length = D.length) (hm : m < D.length) {y : Int} (hy : N.getD m 0 = y) :
    RowsM (w.setCell ⟨gd, m, none⟩ (.int .i64 y)) B gs (vs.set d (N.take (m + 1) ++ D.drop (m + 1))) := by
  have h2 : (vs.set d (N.take m ++ D.drop m))[d]? = some (N.take m ++ D.drop m) := List.getElem?_set_self hd
  have hp := h.put h1 h2 (x := m) (by simp; omega) y
  rw [List.set_set] at hp
  have e : (N.take m ++ D.drop m).set m y = N.take (m + 1) ++ D.drop (m + 1) := laid_set hm hl (by rw [← hy]; exact getD_at (by omega))
  rwa [e] at hp

theorem RBlk.grown {w w' : World} {g : Nat} {l : List Int} {row : Option Nat} (h : RBlk w g l) (hg : w.grownBy w' row) (hne : row ≠ some g) : RBlk w' g l := by
  have hb : w'.heap[g]? = w.heap[g]? := hg.block g h.lt (fun e => hne e.symm)
  exact ⟨Nat.lt_of_lt_of_le h.lt hg.size, fun x hx => (World.cell?_of_block (w := w) (a := ⟨g, x, none⟩) hb).trans (h.at_ x hx), fun x => (World.frozen?_of_block (w := w) (a := ⟨g, x, none⟩) hb).trans (h.free x)⟩

/-- The slices of rows: their blocks and lengths. -/
def sliceRow (gs : List Nat) (ns : List Nat) : List Value := List.zipWith (fun g n => Value.slice (some ⟨g, 0, none⟩) n n) gs ns
/-- While the rows are made: j rows of zeros. -/
structure MkI (w0 w : World) (E : TypeId) (v : Value) (gs : List Nat) (ns : List Nat) (j : Nat) : Prop where
  gl : gs.length = j
  nl : j ≤ ns.length
  own : w.ownsRow w0.heap.size E 1 v j (sliceRow gs ns)
  row : ∀ (i g n : Nat), gs[i]? = some g → ns[i]? = some n → RBlk w g (List.replicate n 0)
  lt : ∀ g ∈ gs, w0.heap.size ≤ g ∧ g < w.heap.size ∧ v.ownBlock ≠ some g
  nodup : gs.Nodup
  bl : Below w0.heap.size w0 w
theorem MkI.start (w0 : World) (E : TypeId) (ns : List Nat) : MkI w0 w0 E (.slice none 0 0) [] ns 0 :=
  ⟨rfl, Nat.zero_le _, World.ownsRow_nil _ _ _ _, by simp, by simp, List.nodup_nil, Below.refl _ _⟩
theorem sliceRow_take {gs ns : List Nat} {g n j : Nat} (hg : gs.length = j) (hn : ns[j]? = some n) : sliceRow (gs ++ [g]) ns = sliceRow gs ns ++ [.slice (some ⟨g, 0, none⟩) n n] := by
  subst hg
  have hlt := (List.getElem?_eq_some_iff.1 hn).1
  have hl : (sliceRow gs ns).length = gs.length := by unfold sliceRow; rw [List.length_zipWith]; omega
  apply List.ext_getElem?
  intro i
  rcases Nat.lt_trichotomy i gs.length with h | h | h
  · rw [List.getElem?_append_left (by omega)]
    unfold sliceRow
    rw [List.getElem?_zipWith, List.getElem?_zipWith, List.getElem?_append_left h]
  · subst h
    rw [List.getElem?_append_right (by omega), hl, Nat.sub_self]
    unfold sliceRow
    rw [List.getElem?_zipWith, List.getElem?_append_right (Nat.le_refl _), Nat.sub_self, hn]
    rfl
  · rw [List.getElem?_eq_none (by unfold sliceRow; rw [List.length_zipWith, List.length_append]; simp; omega), List.getElem?_eq_none (by rw [List.length_append, hl]; simp; omega)]
theorem MkI.step {w0 w w' : World} {E T : TypeId} {v v' : Value} {gs ns : List Nat} {j n : Nat} (h : MkI w0 w E v gs ns j) (hn : ns[j]? = some n) (ho : w'.ownsRow w0.heap.size E 1 v' (j + 1) (sliceRow gs ns ++ [.slice (some ⟨w.heap.size, 0, none⟩) n n]))
    (hg : (w.alloc (.cells (madeCells #[.int .i64 0] n) T)).grownBy w' v.ownBlock) (hx : Next (w.alloc (.cells (madeCells #[.int .i64 0] n) T)) v v') : MkI w0 w' E v' (gs ++ [w.heap.size]) ns (j + 1) := by
  have hal : Below w.heap.size w (w.alloc (.cells (madeCells #[.int .i64 0] n) T)) := (Below.refl _ _).alloc (Nat.le_refl _) _
  have hsz : (w.alloc (.cells (madeCells #[.int .i64 0] n) T)).heap.size = w.heap.size + 1 := by simp
  have hob : v.ownBlock ≠ some w.heap.size := fun e => by have := (h.own.lt _ e).2; omega
  have hnew : RBlk (w.alloc (.cells (madeCells #[.int .i64 0] n) T)) w.heap.size (List.replicate n 0) := by
    refine RBlk.of ⟨T, ?_⟩
    show (w.heap.push _)[w.heap.size]? = _
    rw [Array.getElem?_push, if_pos rfl, madeCells_zero]
  have hlt := (List.getElem?_eq_some_iff.1 hn).1
  refine ⟨by simp [h.gl], hlt, ?_, ?_, ?_, ?_, ?_⟩
  · rw [sliceRow_take h.gl hn]; exact ho
  · intro i g m hi hm
    by_cases hij : i < gs.length
    · rw [List.getElem?_append_left hij] at hi
      exact ((h.row i g m hi hm).below hal).grown hg (h.lt g (List.mem_of_getElem? hi)).2.2
    · rw [List.getElem?_append_right (by omega)] at hi
      have hi0 := (List.getElem?_eq_some_iff.1 hi).1
      simp at hi0
      have e0 : i = gs.length := by omega
      subst e0
      simp at hi
      subst hi
      rw [h.gl, hn, Option.some.injEq] at hm
      subst hm
      exact hnew.grown hg hob
  · intro g hgm
    have hvn : ∀ k, k < w.heap.size + 1 → v.ownBlock ≠ some k → v'.ownBlock ≠ some k := by
      intro k hk hne e
      rcases hx with h1 | ⟨q, h1, h2⟩
      · rw [h1] at e; exact hne e
      · rw [h1] at e; cases e; omega
    have hgs := hg.size
    rcases List.mem_append.1 hgm with h1 | h1
    · obtain ⟨q1, q2, q3⟩ := h.lt g h1
      exact ⟨q1, by omega, hvn g (by omega) q3⟩
    · simp at h1
      subst h1
      exact ⟨h.bl.size, by omega, hvn _ (by omega) hob⟩
  · rw [List.nodup_append]
    refine ⟨h.nodup, by simp, ?_⟩
    intro a ha b hb
    simp at hb
    subst hb
    have := (h.lt a ha).2.1
    omega
  · exact ((h.bl.trans (hal.mono h.bl.size))).grown hg (by have := h.bl.size; omega) (fun k hk => (h.own.lt k hk).1)
/-- When they are made. -/
theorem MkI.rows {w0 w : World} {E : TypeId} {v : Value} {gs ns : List Nat} (h : MkI w0 w E v gs ns ns.length) (hpos : 0 < ns.length) : ∃ B cap, v = .slice (some ⟨B, 0, none⟩) ns.length cap ∧ w0.heap.size ≤ B ∧ ns.length ≤ cap ∧ RowsM w B gs (ns.map fun n => List.replicate n 0) := by
  rcases h.own.2 with ⟨_, hn⟩ | ⟨B, cap, cur, rfl, hb, hB, hnc, _⟩
  · omega
  · refine ⟨B, cap, rfl, hb, hnc, (Array.getElem?_eq_some_iff.1 hB).1, fun x => by simp [World.frozen?, hB], by rw [List.length_map]; exact h.gl, ?_, h.nodup, fun hm => (h.lt B hm).2.2 rfl⟩
    intro j g u hg hu
    rw [List.getElem?_map] at hu
    obtain ⟨n, hn, rfl⟩ := Option.map_eq_some_iff.1 hu
    refine ⟨⟨n, by simp, ?_⟩, h.row j g n hg hn⟩
    have := h.own.cells (g := B) rfl j (.slice (some ⟨g, 0, none⟩) n n) (by unfold sliceRow; rw [List.getElem?_zipWith, hg, hn])
    simpa [Addr.add_lit] using this
/-- Another row at place d. -/
theorem RowsM.swap {w : World} {B : Nat} {gs : List Nat} {vs : List (List Int)} (h : RowsM w B gs vs) {d g c : Nat} {v : List Int} (hd : d < gs.length) (hv : RBlk w g v) (hc : v.length ≤ c) (hB : g ≠ B) (hn : g ∉ gs) {old : Value} (hold : w.cell? ⟨B, d, none⟩ = some old) :
    RowsM (w.setCell ⟨B, d, none⟩ (.slice (some ⟨g, 0, none⟩) v.length c)) B (gs.set d g) (vs.set d v) := by
  have hall : ∀ k ∈ gs, B ≠ k := fun k hk e => h.nB (e ▸ hk)
  refine ⟨by simpa using h.blt, fun x => by simp [World.frozen?_setCell, h.bfree], by simp [h.len], ?_, ?_, ?_⟩
  · intro j g' u hg hu
    by_cases hdj : d = j
    · subst hdj
      rw [List.getElem?_set_self hd, Option.some.injEq] at hg
      rw [List.getElem?_set_self (by rw [← h.len]; exact hd), Option.some.injEq] at hu
      subst hg hu
      exact ⟨⟨c, hc, World.cell?_setCell_same _ _ _ hold⟩, hv.far (Ne.symm hB) _⟩
    · rw [List.getElem?_set_ne hdj] at hg hu
      obtain ⟨⟨c', q1, q2⟩, q3⟩ := h.row j g' u hg hu
      exact ⟨⟨c', q1, (World.cell?_setCell_other _ _ _ _ (by intro e; cases e; exact hdj rfl)).trans q2⟩, q3.far (hall g' (List.mem_of_getElem? hg)) _⟩
  · unfold List.Nodup
    rw [List.pairwise_iff_getElem]
    intro i j hi hj hij e
    rw [List.length_set] at hi hj
    rw [List.getElem_set, List.getElem_set] at e
    by_cases h1 : d = i
    · rw [if_pos h1, if_neg (by omega)] at e
      exact hn (e ▸ List.getElem_mem hj)
    · rw [if_neg h1] at e
      by_cases h2 : d = j
      · rw [if_pos h2] at e
        exact hn (e ▸ List.getElem_mem hi)
      · rw [if_neg h2] at e
        have := nodup_inj h.nodup (List.getElem?_eq_getElem hi) ((List.getElem?_eq_getElem hj).trans (congrArg some e.symm))
        omega
  · intro hm
    rcases List.mem_or_eq_of_mem_set hm with h1 | h1
    · exact h.nB h1
    · exact hB h1.symm

end Go.Proofs.YthlmgejikbmmaaaGreat

/-
  What is so of an operation of a valid kernel when it is its turn. Plain; no program in sight.
-/
namespace Go.Proofs.YthlmgejikbmmaaaGreat
open Go.RowKit

structure OpFx (k : KerL) (inp : List Int) (j : Nat) (o : OpL) (T : Int → Bool) (d s t n : Nat) (Sr O : List Int) : Prop where
  ok : opOK k.sizes T o = true
  dst : o.dst = (d : Int)
  src : o.src = (s : Int)
  oth : o.other = (t : Int)
  dl : d < k.sizes.length
  sl : s < k.sizes.length
  tl : t < k.sizes.length
  sd : s ≠ d
  td : t ≠ d
  size : k.sizes.getD d 0 = (n : Int)
  n1 : 1 ≤ n
  n2 : n ≤ 262144
  rd : (runL k inp j)[d]? = some (List.replicate n 0)
  rs : (runL k inp j)[s]? = some Sr
  rt : (runL k inp j)[t]? = some O
  ls : (Sr.length : Int) = k.sizes.getD s 0
  lt : (O.length : Int) = k.sizes.getD t 0
  bs : Sr.length ≤ 262144
  bt : O.length ≤ 262144
  ws : ∀ x ∈ Sr, I64 x
  wt : ∀ x ∈ O, I64 x
  next : runL k inp (j + 1) = (runL k inp j).set d ((List.range n).map (elemL o Sr O))
  len : (runL k inp j).length = k.sizes.length
  wall : ∀ v ∈ runL k inp j, ∀ x ∈ v, I64 x

theorem opFacts {k : KerL} (hval : validK k = true) {inp : List Int} (hw : ∀ x ∈ inp, I64 x) (hi : (inp.length : Int) = k.sizes.getD 0 0) {j : Nat} {o : OpL} (ho : k.ops[j]? = some o) :
    ∃ T d s t n Sr O, OpFx k inp j o T d s t n Sr O := by
  obtain ⟨h1, h2, h3, Q, h4, _⟩ := validK_parts hval
  have hs := wthn_iff.1 h1
  have hlt := (List.getElem?_eq_some_iff.1 ho).1
  obtain ⟨T, g1, g2, g3, g4⟩ := run_inv h3 (by omega) h4 hi hw j (by omega)
  have hop := g4 o ho
  have hop0 := hop
  unfold opOK at hop
  simp only [Bool.and_eq_true, Bool.not_eq_true', Bool.or_eq_true] at hop
  obtain ⟨hd, hnd, hsr, hot, hf⟩ := hop
  have hd' := wthn_iff.1 hd
  have hs' := g2 _ hsr
  have hne : o.dst ≠ o.src := fun e => by rw [e, hsr] at hnd; cases hnd
  have ht' : 0 ≤ o.other ∧ o.other < (k.sizes.length : Int) ∧ o.other ≠ o.dst := by
    by_cases k6 : o.kind = 6
    · have hto : T o.other = true := by
        rcases hot with h0 | h0
        · simp [k6] at h0
        · exact h0
      have := g2 _ hto
      exact ⟨this.1, this.2, fun e => by rw [← e, hto] at hnd; cases hnd⟩
    · have h0 := fitsL_other0 k6 hf
      rw [h0]; omega
  obtain ⟨d, ed⟩ : ∃ d : Nat, o.dst = (d : Int) := ⟨o.dst.toNat, by omega⟩
  obtain ⟨s, es⟩ : ∃ d : Nat, o.src = (d : Int) := ⟨o.src.toNat, by omega⟩
  obtain ⟨t, et⟩ : ∃ d : Nat, o.other = (d : Int) := ⟨o.other.toNat, by omega⟩
  rw [ed] at hd' hne ht' hnd
  rw [es] at hs' hne
  rw [et] at ht'
  have dl : d < k.sizes.length := by omega
  have rdn := sizes_range h3 (d : Int) (by omega) (by omega)
  rw [Int.toNat_natCast] at rdn
  obtain ⟨n, en⟩ : ∃ n : Nat, k.sizes.getD d 0 = (n : Int) := ⟨(k.sizes.getD d 0).toNat, by omega⟩
  have rd := run_zero (inp := inp) j T (by omega) g1 d dl hnd
  rw [en, Int.toNat_natCast] at rd
  obtain ⟨Sr, s2, sD, sl, sw⟩ := g3.pick (i := s) (by omega)
  obtain ⟨O, t2, tD, tl, tw⟩ := g3.pick (i := t) (by omega)
  have rsn := sizes_range h3 (s : Int) (by omega) (by omega)
  have rtn := sizes_range h3 (t : Int) (by omega) (by omega)
  rw [Int.toNat_natCast] at rsn rtn
  have hdo := doL_elem (o := o) hop0 (n := n) (Sr := Sr) (O := O) (by rw [ed, Int.toNat_natCast]; exact en.symm) (by rw [es, Int.toNat_natCast]; exact sl) (fun _ => by rw [et, Int.toNat_natCast]; exact tl)
  refine ⟨T, d, s, t, n, Sr, O, hop0, ed, es, et, dl, by omega, by omega, by omega, by omega, en, by omega, by omega, rd, s2, t2, sl, tl, by omega, by omega, sw, tw, ?_, g3.len, g3.wf⟩
  rw [runL_succ ho]
  unfold stepL
  have rdD : (runL k inp j).getD d [] = List.replicate n 0 := by rw [List.getD_eq_getElem?_getD, rd]; rfl
  rw [ed, es, et, Int.toNat_natCast, Int.toNat_natCast, Int.toNat_natCast, rdD, sD, tD, hdo]

end Go.Proofs.YthlmgejikbmmaaaGreat
