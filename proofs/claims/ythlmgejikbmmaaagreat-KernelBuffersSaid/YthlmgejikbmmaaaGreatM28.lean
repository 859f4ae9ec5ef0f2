/-
  Contracts of the functions that the statements reach, in the order in which they are built: KerSm.
-/
import Derived.Test.YthlmgejikbmmaaaGreatM17
import Derived.Test.YthlmgejikbmmaaaGreatM22
import Derived.Test.YthlmgejikbmmaaaGreatM4
set_option linter.unusedVariables false
set_option linter.unusedSimpArgs false
set_option linter.constructorNameAsVariable false
set_option linter.deprecated false

/-
  The reference's Small of layer 54: by contract.
-/
namespace Go.Proofs.YthlmgejikbmmaaaGreat
open Go.RowKit

def smallR (x : RatL) : Bool := decide (x.num.length ≤ 4 ∧ x.den.length ≤ 4)
def smallO (o : OpL) : Bool := decide (o.index.length ≤ 300 ∧ o.weights.length ≤ 300 ∧ o.bias.length ≤ 100)
def smallL (k : KerL) : Bool :=
  decide (k.sizes.length ≤ 10 ∧ k.ops.length ≤ 10 ∧ k.lo.length ≤ 100 ∧ k.hi.length ≤ 100 ∧ k.err.length ≤ 100) && (k.ops.all smallO && (k.sizes.all (fun n => decide (n ≤ 300)) && (k.lo ++ (k.hi ++ k.err)).all smallR))

/-- The cells of rationals. -/
theorem RatsAt.src {w : World} {a : Option Addr} {L : List RatL} (h : RatsAt w a L) : ∃ news, SrcOK w a L.length 3 news ∧ ∀ (j : Nat) (x : RatL), L[j]? = some x → ∃ (an ad : Option Addr) (cn cd : Nat), news[j * 3]? = some (.bool x.neg) ∧ news[j * 3 + 1]? = some (.slice an x.num.length cn) ∧ news[j * 3 + 2]? = some (.slice ad x.den.length cd) := by
  rcases h.row with rfl | ⟨b, off, rfl, hb, hc⟩
  · exact ⟨[], ⟨rfl, by simp, fun h => absurd h (by simp)⟩, by simp⟩
  · have hall : ∀ p, p < L.length * 3 → ∃ u, w.cell? ⟨b, off + p, none⟩ = some u ∧ u.oneCell' = true := by
      intro p hp
      have hj : p / 3 < L.length := by omega
      obtain ⟨an, ad, cn, cd, h0, h1, h2, _⟩ := hc (p / 3) _ (List.getElem?_eq_getElem hj)
      have hm : p % 3 = 0 ∨ p % 3 = 1 ∨ p % 3 = 2 := by omega
      rcases hm with hm | hm | hm
      · rw [show off + p = off + p / 3 * 3 by omega]; exact ⟨_, h0, rfl⟩
      · rw [show off + p = off + p / 3 * 3 + 1 by omega]; exact ⟨_, h1, rfl⟩
      · rw [show off + p = off + p / 3 * 3 + 2 by omega]; exact ⟨_, h2, rfl⟩
    refine ⟨(List.range (L.length * 3)).map (fun p => (w.cell? ⟨b, off + p, none⟩).getD (.bool false)), ⟨by simp, ?_, fun _ => ⟨b, off, rfl, hb, ?_⟩⟩, ?_⟩
    · intro u hu
      obtain ⟨p, hp, rfl⟩ := List.mem_map.1 hu
      obtain ⟨u', h1, h2⟩ := hall p (List.mem_range.1 hp)
      rw [h1]; exact h2
    · intro j u hj
      rw [List.getElem?_map] at hj
      obtain ⟨p, hp, rfl⟩ := Option.map_eq_some_iff.1 hj
      have hpl := (List.getElem?_eq_some_iff.1 hp).1
      have hpe : p = j := by rw [List.getElem?_range (by simpa using hpl)] at hp; exact (Option.some.inj hp).symm
      subst hpe
      obtain ⟨u', h1, _⟩ := hall p (by simpa using hpl)
      rw [h1]; rfl
    · intro j x hx
      have hj := (List.getElem?_eq_some_iff.1 hx).1
      obtain ⟨an, ad, cn, cd, h0, h1, h2, _⟩ := hc j x hx
      refine ⟨an, ad, cn, cd, ?_, ?_, ?_⟩
      · rw [List.getElem?_map, List.getElem?_range (by omega)]; simp [h0]
      · rw [List.getElem?_map, List.getElem?_range (by omega)]; simp only [Option.map_some, ← Nat.add_assoc, h1, Option.getD_some]
      · rw [List.getElem?_map, List.getElem?_range (by omega)]; simp only [Option.map_some, ← Nat.add_assoc, h2, Option.getD_some]

theorem all_false {α : Type} {p : α → Bool} {l : List α} {x : α} (hx : x ∈ l) (h : p x = false) : l.all p = false := by
  rw [List.all_eq_false]; exact ⟨x, hx, by simp [h]⟩

theorem hp1 (w : World) (o : Obj) : (w.alloc o).drew.heap[w.heap.size]? = some o := by
  show (w.heap.push o)[w.heap.size]? = _
  rw [Array.getElem?_push, if_pos rfl]
theorem hp2 (w : World) (o o' : Obj) : ((w.alloc o).alloc o').drew.heap[w.heap.size]? = some o := by
  show ((w.heap.push o).push o')[w.heap.size]? = _
  rw [Array.getElem?_push, if_neg (by simp), Array.getElem?_push, if_pos rfl]
theorem hp3 (w : World) (o o' : Obj) : ((w.alloc o').alloc o).drew.heap[w.heap.size + 1]? = some o := by
  show ((w.heap.push o').push o)[w.heap.size + 1]? = _
  rw [Array.getElem?_push, if_pos (by simp)]
theorem hp0 (w : World) (o : Obj) : (w.alloc o).heap[w.heap.size]? = some o := by
  show (w.heap.push o)[w.heap.size]? = _
  rw [Array.getElem?_push, if_pos rfl]
theorem chain1 {w w3 : World} {v v3 : Value} {p : Nat} {o : Obj} (h3 : Keeps w w3 v v3) (hn : v.ownBlock ≠ some p) (hp : w.heap[p]? = some o) : w3.heap[p]? = some o := (h3 p o hn hp).1
theorem chain2 {w w2 w3 : World} {v v2 v3 : Value} {p : Nat} {o : Obj} (h2 : Keeps w w2 v v2) (h3 : Keeps w2 w3 v2 v3) (hn : v.ownBlock ≠ some p) (hp : w.heap[p]? = some o) : w3.heap[p]? = some o :=
  chain1 h3 (h2 p o hn hp).2 (h2 p o hn hp).1
theorem chain3 {w w1 w2 w3 : World} {v v1 v2 v3 : Value} {p : Nat} {o : Obj} (h1 : Keeps w w1 v v1) (h2 : Keeps w1 w2 v1 v2) (h3 : Keeps w2 w3 v2 v3) (hn : v.ownBlock ≠ some p) (hp : w.heap[p]? = some o) : w3.heap[p]? = some o :=
  chain2 h2 h3 (h1 p o hn hp).2 (h1 p o hn hp).1
theorem own_ne {w : World} {base T size n : Nat} {v : Value} {xs : List Value} (h : w.ownsRow base T size v n xs) : v.ownBlock ≠ some w.heap.size := fun e => by have := (h.lt _ e).2; omega
theorem cells3 {w : World} {p T : Nat} {a b c : Value} (h : w.heap[p]? = some (.cells #[a, b, c] T (0, 0))) : w.cell? ⟨p, 0, none⟩ = some a ∧ w.cell? ⟨p, 1, none⟩ = some b ∧ w.cell? ⟨p, 2, none⟩ = some c ∧ ∀ o, w.frozen? ⟨p, o, none⟩ = false := by
  refine ⟨?_, ?_, ?_, fun o => ?_⟩ <;> simp [World.cell?, World.frozen?, h]
theorem boxS {W wc : World} {p0 p1 p2 p3 p4 p5 p6 p7 : Value} {g : Nat} (h : Box8 W g p0 p1 p2 p3 p4 p5 p6 p7) (hb : Below W.heap.size W wc) : wc.cell? ⟨g, 5, none⟩ = some p5 ∧ wc.cell? ⟨g, 6, none⟩ = some p6 ∧ wc.cell? ⟨g, 7, none⟩ = some p7 :=
  ⟨(h.below hb).c5, (h.below hb).c6, (h.below hb).c7⟩

theorem keeps_of {w w' : World} {v v' : Value} (h2 : w.grownBy w' v.ownBlock) (h3 : Next w v v') : Keeps w w' v v' := by
  intro p ob hne hp
  have hlt := (Array.getElem?_eq_some_iff.1 hp).1
  refine ⟨(h2.block p hlt (fun e => hne e.symm)).trans hp, fun e => ?_⟩
  rcases h3 with h4 | ⟨g, h4, h5⟩
  · rw [h4] at e; exact hne e
  · rw [h4] at e; cases e; omega
/-- What is so while the rows are joined: what is done (d), the slots (g), the world. -/
structure SmJ (W : World) (bx : Nat) (a3 a4 a5 : Option Addr) (c3 c4 c5 : Nat) (n3 n4 n5 : List Value) (l3 l4 l5 j : Nat) (x : RatL) (an ad : Option Addr) (cn cd T : Nat) (d : Nat → Bool) (g : Nat → Value) (w : World) : Prop where
  bl : Below W.heap.size W w
  e0 : d 3 = true → d 0 = true
  e3 : d 6 = true → d 3 = true
  e6 : d 9 = true → d 6 = true
  e9 : d 11 = true → d 9 = true
  v1 : d 1 = true → g 1 = .pointer (some ⟨bx, 5, none⟩)
  v2 : d 2 = true → g 2 = .slice a3 l3 c3
  v4 : d 4 = true → g 4 = .pointer (some ⟨bx, 6, none⟩)
  v5 : d 5 = true → g 5 = .slice a4 l4 c4
  v7 : d 7 = true → g 7 = .pointer (some ⟨bx, 7, none⟩)
  v8 : d 8 = true → g 8 = .slice a5 l5 c5
  v10 : d 10 = true → g 10 = .int .i64 (j : Int)
  c0 : d 0 = true → d 3 = false → w.ownsRow W.heap.size T 3 (g 0) 0 []
  c3 : d 3 = true → d 6 = false → w.ownsRow W.heap.size T 3 (g 3) (0 + l3) ([] ++ n3)
  c6 : d 6 = true → d 9 = false → w.ownsRow W.heap.size T 3 (g 6) (0 + l3 + l4) ([] ++ n3 ++ n4)
  c9 : d 9 = true → w.ownsRow W.heap.size T 3 (g 9) (0 + l3 + l4 + l5) ([] ++ n3 ++ n4 ++ n5)
  c11 : d 11 = true → ∃ gb cap, g 9 = .slice (some ⟨gb, 0, none⟩) (0 + l3 + l4 + l5) cap ∧ g 11 = .pointer (some ⟨gb, j * 3, none⟩)
  c12 : d 12 = true → g 12 = .agg #[.bool x.neg, .slice an x.num.length cn, .slice ad x.den.length cd]
  c13 : d 13 = true → ∃ p, g 13 = .pointer (some ⟨p, 0, none⟩) ∧ W.heap.size ≤ p ∧ w.heap[p]? = some (.cells #[.bool false, .slice none 0 0, .slice none 0 0] T (0, 0)) ∧ (d 0 = true → d 3 = false → (g 0).ownBlock ≠ some p) ∧ (d 3 = true → d 6 = false → (g 3).ownBlock ≠ some p) ∧ (d 6 = true → d 9 = false → (g 6).ownBlock ≠ some p) ∧ (d 9 = true → (g 9).ownBlock ≠ some p)
theorem heap_alloc_lt {w : World} {p : Nat} {o o' : Obj} (h : w.heap[p]? = some o) : (w.alloc o').heap[p]? = some o := by
  have hlt := (Array.getElem?_eq_some_iff.1 h).1
  show (w.heap.push o')[p]? = some o
  rw [Array.getElem?_push_lt hlt]
  exact (Array.getElem?_eq_getElem hlt).symm.trans h
section
variable {W w : World} {bx : Nat} {a3 a4 a5 : Option Addr} {c3 c4 c5 : Nat} {n3 n4 n5 : List Value} {l3 l4 l5 j : Nat} {x : RatL} {an ad : Option Addr} {cn cd T : Nat} {d : Nat → Bool} {g : Nat → Value}
theorem SmJ.start (hb : Below W.heap.size W w) (g : Nat → Value) : SmJ W bx a3 a4 a5 c3 c4 c5 n3 n4 n5 l3 l4 l5 j x an ad cn cd T (fun _ => false) g w :=
  ⟨hb, fun h => absurd h (by decide), fun h => absurd h (by decide), fun h => absurd h (by decide), fun h => absurd h (by decide), fun h => absurd h (by decide), fun h => absurd h (by decide), fun h => absurd h (by decide), fun h => absurd h (by decide), fun h => absurd h (by decide), fun h => absurd h (by decide), fun h => absurd h (by decide), fun h => absurd h (by decide), fun h => absurd h (by decide), fun h => absurd h (by decide), fun h => absurd h (by decide), fun h => absurd h (by decide), fun h => absurd h (by decide), fun h => absurd h (by decide)⟩
theorem SmJ.s1 (h : SmJ W bx a3 a4 a5 c3 c4 c5 n3 n4 n5 l3 l4 l5 j x an ad cn cd T d g w)  : SmJ W bx a3 a4 a5 c3 c4 c5 n3 n4 n5 l3 l4 l5 j x an ad cn cd T (mark d 1) (upd g 1 (.pointer (some ⟨bx, 5, none⟩))) w :=
  ⟨h.bl, h.e0, h.e3, h.e6, h.e9, fun _ => rfl, h.v2, h.v4, h.v5, h.v7, h.v8, h.v10, h.c0, h.c3, h.c6, h.c9, h.c11, h.c12, h.c13⟩
theorem SmJ.s2 (h : SmJ W bx a3 a4 a5 c3 c4 c5 n3 n4 n5 l3 l4 l5 j x an ad cn cd T d g w)  : SmJ W bx a3 a4 a5 c3 c4 c5 n3 n4 n5 l3 l4 l5 j x an ad cn cd T (mark d 2) (upd g 2 (.slice a3 l3 c3)) w :=
  ⟨h.bl, h.e0, h.e3, h.e6, h.e9, h.v1, fun _ => rfl, h.v4, h.v5, h.v7, h.v8, h.v10, h.c0, h.c3, h.c6, h.c9, h.c11, h.c12, h.c13⟩
theorem SmJ.s4 (h : SmJ W bx a3 a4 a5 c3 c4 c5 n3 n4 n5 l3 l4 l5 j x an ad cn cd T d g w)  : SmJ W bx a3 a4 a5 c3 c4 c5 n3 n4 n5 l3 l4 l5 j x an ad cn cd T (mark d 4) (upd g 4 (.pointer (some ⟨bx, 6, none⟩))) w :=
  ⟨h.bl, h.e0, h.e3, h.e6, h.e9, h.v1, h.v2, fun _ => rfl, h.v5, h.v7, h.v8, h.v10, h.c0, h.c3, h.c6, h.c9, h.c11, h.c12, h.c13⟩
theorem SmJ.s5 (h : SmJ W bx a3 a4 a5 c3 c4 c5 n3 n4 n5 l3 l4 l5 j x an ad cn cd T d g w)  : SmJ W bx a3 a4 a5 c3 c4 c5 n3 n4 n5 l3 l4 l5 j x an ad cn cd T (mark d 5) (upd g 5 (.slice a4 l4 c4)) w :=
  ⟨h.bl, h.e0, h.e3, h.e6, h.e9, h.v1, h.v2, h.v4, fun _ => rfl, h.v7, h.v8, h.v10, h.c0, h.c3, h.c6, h.c9, h.c11, h.c12, h.c13⟩
theorem SmJ.s7 (h : SmJ W bx a3 a4 a5 c3 c4 c5 n3 n4 n5 l3 l4 l5 j x an ad cn cd T d g w)  : SmJ W bx a3 a4 a5 c3 c4 c5 n3 n4 n5 l3 l4 l5 j x an ad cn cd T (mark d 7) (upd g 7 (.pointer (some ⟨bx, 7, none⟩))) w :=
  ⟨h.bl, h.e0, h.e3, h.e6, h.e9, h.v1, h.v2, h.v4, h.v5, fun _ => rfl, h.v8, h.v10, h.c0, h.c3, h.c6, h.c9, h.c11, h.c12, h.c13⟩
theorem SmJ.s8 (h : SmJ W bx a3 a4 a5 c3 c4 c5 n3 n4 n5 l3 l4 l5 j x an ad cn cd T d g w)  : SmJ W bx a3 a4 a5 c3 c4 c5 n3 n4 n5 l3 l4 l5 j x an ad cn cd T (mark d 8) (upd g 8 (.slice a5 l5 c5)) w :=
  ⟨h.bl, h.e0, h.e3, h.e6, h.e9, h.v1, h.v2, h.v4, h.v5, h.v7, fun _ => rfl, h.v10, h.c0, h.c3, h.c6, h.c9, h.c11, h.c12, h.c13⟩
theorem SmJ.s10 (h : SmJ W bx a3 a4 a5 c3 c4 c5 n3 n4 n5 l3 l4 l5 j x an ad cn cd T d g w)  : SmJ W bx a3 a4 a5 c3 c4 c5 n3 n4 n5 l3 l4 l5 j x an ad cn cd T (mark d 10) (upd g 10 (.int .i64 (j : Int))) w :=
  ⟨h.bl, h.e0, h.e3, h.e6, h.e9, h.v1, h.v2, h.v4, h.v5, h.v7, h.v8, fun _ => rfl, h.c0, h.c3, h.c6, h.c9, h.c11, h.c12, h.c13⟩
theorem SmJ.s12 (h : SmJ W bx a3 a4 a5 c3 c4 c5 n3 n4 n5 l3 l4 l5 j x an ad cn cd T d g w)  : SmJ W bx a3 a4 a5 c3 c4 c5 n3 n4 n5 l3 l4 l5 j x an ad cn cd T (mark d 12) (upd g 12 (.agg #[.bool x.neg, .slice an x.num.length cn, .slice ad x.den.length cd])) w :=
  ⟨h.bl, h.e0, h.e3, h.e6, h.e9, h.v1, h.v2, h.v4, h.v5, h.v7, h.v8, h.v10, h.c0, h.c3, h.c6, h.c9, h.c11, fun _ => rfl, h.c13⟩
theorem SmJ.s11 (h : SmJ W bx a3 a4 a5 c3 c4 c5 n3 n4 n5 l3 l4 l5 j x an ad cn cd T d g w) {gb cap : Nat} (h9 : d 9 = true) (he : g 9 = .slice (some ⟨gb, 0, none⟩) (0 + l3 + l4 + l5) cap) : SmJ W bx a3 a4 a5 c3 c4 c5 n3 n4 n5 l3 l4 l5 j x an ad cn cd T (mark d 11) (upd g 11 (.pointer (some ⟨gb, j * 3, none⟩))) w :=
  ⟨h.bl, h.e0, h.e3, h.e6, fun _ => h9, h.v1, h.v2, h.v4, h.v5, h.v7, h.v8, h.v10, h.c0, h.c3, h.c6, h.c9, fun _ => ⟨gb, cap, he, rfl⟩, h.c12, h.c13⟩
theorem SmJ.s0 (h : SmJ W bx a3 a4 a5 c3 c4 c5 n3 n4 n5 l3 l4 l5 j x an ad cn cd T d g w) : SmJ W bx a3 a4 a5 c3 c4 c5 n3 n4 n5 l3 l4 l5 j x an ad cn cd T (mark d 0) (upd g 0 (.slice (some ⟨w.heap.size, 0, none⟩) 0 0)) (w.alloc (.cells #[] T)) :=
  ⟨h.bl.alloc h.bl.size _, fun _ => rfl, h.e3, h.e6, h.e9, h.v1, h.v2, h.v4, h.v5, h.v7, h.v8, h.v10, fun _ _ => own_empty (hp0 w _) h.bl.size, fun k1 k2 => (h.c3 k1 k2).alloc _, fun k1 k2 => (h.c6 k1 k2).alloc _, fun k1 => (h.c9 k1).alloc _, h.c11, h.c12, fun k => let ⟨p, q1, q2, q3, _, q5, q6, q7⟩ := h.c13 k; ⟨p, q1, q2, heap_alloc_lt q3, fun _ _ e => absurd (Option.some.inj e) (Nat.ne_of_gt (Array.getElem?_eq_some_iff.1 q3).1), q5, q6, q7⟩⟩
theorem SmJ.s13 (h : SmJ W bx a3 a4 a5 c3 c4 c5 n3 n4 n5 l3 l4 l5 j x an ad cn cd T d g w) : SmJ W bx a3 a4 a5 c3 c4 c5 n3 n4 n5 l3 l4 l5 j x an ad cn cd T (mark d 13) (upd g 13 (.pointer (some ⟨w.heap.size, 0, none⟩))) (w.alloc (.cells #[.bool false, .slice none 0 0, .slice none 0 0] T)) :=
  ⟨h.bl.alloc h.bl.size _, h.e0, h.e3, h.e6, h.e9, h.v1, h.v2, h.v4, h.v5, h.v7, h.v8, h.v10, fun k1 k2 => (h.c0 k1 k2).alloc _, fun k1 k2 => (h.c3 k1 k2).alloc _, fun k1 k2 => (h.c6 k1 k2).alloc _, fun k1 => (h.c9 k1).alloc _, h.c11, h.c12, fun _ => ⟨w.heap.size, rfl, h.bl.size, hp0 w _, fun k1 k2 => own_ne (h.c0 k1 k2), fun k1 k2 => own_ne (h.c3 k1 k2), fun k1 k2 => own_ne (h.c6 k1 k2), fun k1 => own_ne (h.c9 k1)⟩⟩
theorem SmJ.s3 {v : Value} {w' : World} (h : SmJ W bx a3 a4 a5 c3 c4 c5 n3 n4 n5 l3 l4 l5 j x an ad cn cd T d g w) (h3 : d 3 = false) (h0 : d 0 = true) (ho : w'.ownsRow W.heap.size T 3 v (0 + l3) ([] ++ n3)) (hb : Below W.heap.size W w') (hk : Keeps w w' (g 0) v) : SmJ W bx a3 a4 a5 c3 c4 c5 n3 n4 n5 l3 l4 l5 j x an ad cn cd T (mark d 3) (upd g 3 v) w' :=
  have no6 : ∀ {p : Prop}, d 6 = true → p := fun k => absurd ((h.e3 k).symm.trans h3) (by decide)
  ⟨hb, fun _ => h0, fun _ => rfl, h.e6, h.e9, h.v1, h.v2, h.v4, h.v5, h.v7, h.v8, h.v10, fun _ k => Bool.noConfusion (show true = false from k), fun _ _ => ho, fun k1 _ => no6 k1, fun k1 => no6 (h.e6 k1), h.c11, h.c12, fun k => let ⟨p, q1, q2, q3, q4, q5, q6, q7⟩ := h.c13 k; ⟨p, q1, q2, (hk p _ (q4 h0 h3) q3).1, fun _ k => Bool.noConfusion (show true = false from k), fun _ _ => (hk p _ (q4 h0 h3) q3).2, q6, q7⟩⟩
theorem SmJ.s6 {v : Value} {w' : World} (h : SmJ W bx a3 a4 a5 c3 c4 c5 n3 n4 n5 l3 l4 l5 j x an ad cn cd T d g w) (h6 : d 6 = false) (h3 : d 3 = true) (ho : w'.ownsRow W.heap.size T 3 v (0 + l3 + l4) ([] ++ n3 ++ n4)) (hb : Below W.heap.size W w') (hk : Keeps w w' (g 3) v) : SmJ W bx a3 a4 a5 c3 c4 c5 n3 n4 n5 l3 l4 l5 j x an ad cn cd T (mark d 6) (upd g 6 v) w' :=
  have no9 : ∀ {p : Prop}, d 9 = true → p := fun k => absurd ((h.e6 k).symm.trans h6) (by decide)
  have no3 : ∀ {p : Prop}, d 3 = false → p := fun k => absurd (h3.symm.trans k) (by decide)
  ⟨hb, h.e0, fun _ => h3, fun _ => rfl, h.e9, h.v1, h.v2, h.v4, h.v5, h.v7, h.v8, h.v10, fun _ k => no3 k, fun _ k => Bool.noConfusion (show true = false from k), fun _ _ => ho, fun k1 => no9 k1, h.c11, h.c12, fun k => let ⟨p, q1, q2, q3, q4, q5, q6, q7⟩ := h.c13 k; ⟨p, q1, q2, (hk p _ (q5 h3 h6) q3).1, q4, fun _ k => Bool.noConfusion (show true = false from k), fun _ _ => (hk p _ (q5 h3 h6) q3).2, q7⟩⟩
theorem SmJ.s9 {v : Value} {w' : World} (h : SmJ W bx a3 a4 a5 c3 c4 c5 n3 n4 n5 l3 l4 l5 j x an ad cn cd T d g w) (h9 : d 9 = false) (h6 : d 6 = true) (ho : w'.ownsRow W.heap.size T 3 v (0 + l3 + l4 + l5) ([] ++ n3 ++ n4 ++ n5)) (hb : Below W.heap.size W w') (hk : Keeps w w' (g 6) v) : SmJ W bx a3 a4 a5 c3 c4 c5 n3 n4 n5 l3 l4 l5 j x an ad cn cd T (mark d 9) (upd g 9 v) w' :=
  have no11 : ∀ {p : Prop}, d 11 = true → p := fun k => absurd ((h.e9 k).symm.trans h9) (by decide)
  have no6 : ∀ {p : Prop}, d 6 = false → p := fun k => absurd (h6.symm.trans k) (by decide)
  have no3 : ∀ {p : Prop}, d 3 = false → p := fun k => absurd ((h.e3 h6).symm.trans k) (by decide)
  ⟨hb, h.e0, h.e3, fun _ => h6, fun _ => rfl, h.v1, h.v2, h.v4, h.v5, h.v7, h.v8, h.v10, fun _ k => no3 k, fun _ k => no6 k, fun _ k => Bool.noConfusion (show true = false from k), fun _ => ho, fun k => no11 k, h.c12, fun k => let ⟨p, q1, q2, q3, q4, q5, q6, q7⟩ := h.c13 k; ⟨p, q1, q2, (hk p _ (q6 h6 h9) q3).1, q4, q5, fun _ k => Bool.noConfusion (show true = false from k), fun _ => (hk p _ (q6 h6 h9) q3).2⟩⟩
end

/-- Element j of the three rows, one behind the other. -/
def PickOK (xs : List Value) (n j : Nat) (x : RatL) (an ad : Option Addr) (cn cd : Nat) : Prop := j < n ∧ xs[j * 3]? = some (.bool x.neg) ∧ xs[j * 3 + 1]? = some (.slice an x.num.length cn) ∧ xs[j * 3 + 2]? = some (.slice ad x.den.length cd)
theorem rowPick {w : World} {base T n j : Nat} {v : Value} {xs : List Value} {x : RatL} {an ad : Option Addr} {cn cd : Nat} (hp : PickOK xs n j x an ad cn cd) (hown : w.ownsRow base T 3 v n xs) :
    ∃ g cap, v = .slice (some ⟨g, 0, none⟩) n cap ∧ base ≤ g ∧ w.cell? ⟨g, j * 3, none⟩ = some (.bool x.neg) ∧ w.cell? ⟨g, j * 3 + 1, none⟩ = some (.slice an x.num.length cn) ∧ w.cell? ⟨g, j * 3 + 2, none⟩ = some (.slice ad x.den.length cd) ∧ g < w.heap.size := by
  obtain ⟨h0, h1, h2, h3⟩ := hp
  have hform : ∃ g cap, v = .slice (some ⟨g, 0, none⟩) n cap ∧ base ≤ g ∧ g < w.heap.size := by
    rcases hown.2 with ⟨_, hn⟩ | ⟨g, cap, cur, hv, hg, hb, _⟩
    · omega
    · exact ⟨g, cap, hv, hg, (Array.getElem?_eq_some_iff.1 hb).1⟩
  obtain ⟨g, cap, hv, hg, hlt⟩ := hform
  have hc := hown.cells (g := g) (by rw [hv]; rfl)
  have e : ∀ p u, xs[p]? = some u → w.cell? ⟨g, p, none⟩ = some u := fun p u hu => by
    have := hc p u hu
    rw [Addr.add_lit] at this
    simpa using this
  exact ⟨g, cap, hv, hg, e _ _ h1, e _ _ h2, e _ _ h3, hlt⟩
theorem pick_mk {lo hi err : List RatL} {n3 n4 n5 : List Value} (l3 : n3.length = lo.length * 3) (l4 : n4.length = hi.length * 3)
    (t3 : ∀ (j : Nat) (x : RatL), lo[j]? = some x → ∃ (an ad : Option Addr) (cn cd : Nat), n3[j * 3]? = some (.bool x.neg) ∧ n3[j * 3 + 1]? = some (.slice an x.num.length cn) ∧ n3[j * 3 + 2]? = some (.slice ad x.den.length cd))
    (t4 : ∀ (j : Nat) (x : RatL), hi[j]? = some x → ∃ (an ad : Option Addr) (cn cd : Nat), n4[j * 3]? = some (.bool x.neg) ∧ n4[j * 3 + 1]? = some (.slice an x.num.length cn) ∧ n4[j * 3 + 2]? = some (.slice ad x.den.length cd))
    (t5 : ∀ (j : Nat) (x : RatL), err[j]? = some x → ∃ (an ad : Option Addr) (cn cd : Nat), n5[j * 3]? = some (.bool x.neg) ∧ n5[j * 3 + 1]? = some (.slice an x.num.length cn) ∧ n5[j * 3 + 2]? = some (.slice ad x.den.length cd))
    {j : Nat} {x : RatL} (hx : (lo ++ (hi ++ err))[j]? = some x) : ∃ an ad cn cd, PickOK ([] ++ n3 ++ n4 ++ n5) (0 + lo.length + hi.length + err.length) j x an ad cn cd := by
  have hlt := (List.getElem?_eq_some_iff.1 hx).1
  simp only [List.length_append] at hlt
  have e : ([] ++ n3 ++ n4 ++ n5) = n3 ++ (n4 ++ n5) := by simp
  by_cases h1 : j < lo.length
  · rw [List.getElem?_append_left h1] at hx
    obtain ⟨an, ad, cn, cd, g0, g1, g2⟩ := t3 j x hx
    refine ⟨an, ad, cn, cd, by omega, ?_, ?_, ?_⟩ <;> rw [e, List.getElem?_append_left (by omega)] <;> assumption
  · rw [List.getElem?_append_right (by omega)] at hx
    by_cases h2 : j - lo.length < hi.length
    · rw [List.getElem?_append_left h2] at hx
      obtain ⟨an, ad, cn, cd, g0, g1, g2⟩ := t4 _ x hx
      have e0 : j * 3 - n3.length = (j - lo.length) * 3 := by omega
      refine ⟨an, ad, cn, cd, by omega, ?_, ?_, ?_⟩
      · rw [e, List.getElem?_append_right (by omega), List.getElem?_append_left (by omega), e0]; exact g0
      · rw [e, List.getElem?_append_right (by omega), List.getElem?_append_left (by omega), show j * 3 + 1 - n3.length = (j - lo.length) * 3 + 1 by omega]; exact g1
      · rw [e, List.getElem?_append_right (by omega), List.getElem?_append_left (by omega), show j * 3 + 2 - n3.length = (j - lo.length) * 3 + 2 by omega]; exact g2
    · rw [List.getElem?_append_right (by omega)] at hx
      obtain ⟨an, ad, cn, cd, g0, g1, g2⟩ := t5 _ x hx
      refine ⟨an, ad, cn, cd, by omega, ?_, ?_, ?_⟩
      · rw [e, List.getElem?_append_right (by omega), List.getElem?_append_right (by omega), show j * 3 - n3.length - n4.length = (j - lo.length - hi.length) * 3 by omega]; exact g0
      · rw [e, List.getElem?_append_right (by omega), List.getElem?_append_right (by omega), show j * 3 + 1 - n3.length - n4.length = (j - lo.length - hi.length) * 3 + 1 by omega]; exact g1
      · rw [e, List.getElem?_append_right (by omega), List.getElem?_append_right (by omega), show j * 3 + 2 - n3.length - n4.length = (j - lo.length - hi.length) * 3 + 2 by omega]; exact g2

/-- Behind the statement: the variable. -/
def SmCut (W : World) (x : RatL) (an ad : Option Addr) (cn cd : Nat) (s : Value) (wx : World) : Prop :=
  ∃ p, s = .pointer (some ⟨p, 0, none⟩) ∧ wx.cell? ⟨p, 1, none⟩ = some (.slice an x.num.length cn) ∧ wx.cell? ⟨p, 2, none⟩ = some (.slice ad x.den.length cd) ∧ Below W.heap.size W wx
theorem SmCut.mkA {W w3 : World} {x : RatL} {an ad : Option Addr} {cn cd T : Nat} (hb : Below W.heap.size W w3) : Hid (SmCut W x an ad cn cd (.pointer (some ⟨w3.heap.size, 0, none⟩)) (w3.alloc (.cells #[.bool x.neg, .slice an x.num.length cn, .slice ad x.den.length cd] T))) :=
  let h := cells3 (hp0 w3 (.cells #[.bool x.neg, .slice an x.num.length cn, .slice ad x.den.length cd] T))
  ⟨w3.heap.size, rfl, h.2.1, h.2.2.1, hb.alloc hb.size _⟩
theorem SmCut.mkB {W w3 : World} {x : RatL} {an ad : Option Addr} {cn cd T p : Nat} {a b c : Value} (hb : Below W.heap.size W w3) (ht : w3.heap[p]? = some (.cells #[a, b, c] T (0, 0))) (hp : W.heap.size ≤ p) :
    Hid (SmCut W x an ad cn cd (.pointer (some ⟨p, 0, none⟩)) (setRow p w3 0 [.bool x.neg, .slice an x.num.length cn, .slice ad x.den.length cd])) :=
  let h := cells3 (setRow_all (l := [.bool x.neg, .slice an x.num.length cn, .slice ad x.den.length cd]) ht rfl)
  ⟨p, rfl, h.2.1, h.2.2.1, setRow_below hp _ _ _ hb⟩

set_option maxRecDepth 100000 in
set_option maxHeartbeats 3200000 in
theorem kSmall {w : World} {v : Value} {k : KerL} (hv : KerV w v k) : Calls Tryz.prog 5 #[v] w fun e w' => e = .returned (.bool (smallL k)) ∧ Below w.heap.size w w' := by
  obtain ⟨a1, a2, a3, a4, a5, c1, c2, c3, c4, c5, rfl, h1, h2, h3, h4, h5⟩ := hv.ex
  obtain ⟨sizes, ops, output, is, os, lo, hi, err⟩ := k
  simp only at *
  have q1 := h1.len
  have q2 := h2.len
  have q3 := h3.len
  have q4 := h4.len
  have q5 := h5.len
  have H1 := Lib.hid h1
  have H2 := Lib.hid h2
  have H3 := Lib.hid h3
  have H4 := Lib.hid h4
  have H5 := Lib.hid h5
  have HS : Hid (smallL ⟨sizes, ops, output, is, os, lo, hi, err⟩ = (decide (sizes.length ≤ 10 ∧ ops.length ≤ 10 ∧ lo.length ≤ 100 ∧ hi.length ≤ 100 ∧ err.length ≤ 100) && (ops.all smallO && (sizes.all (fun n => decide (n ≤ 300)) && (lo ++ (hi ++ err)).all smallR)))) := rfl
  generalize smallL ⟨sizes, ops, output, is, os, lo, hi, err⟩ = R at *
  clear hv h1 h2 h3 h4 h5
  go_enter Tryz.func5, Tryz.ntmps5
  go_upto_region 1 with fail
  have hbx := Box8.alloc w (.slice a1 sizes.length c1) (.slice a2 ops.length c2) (.int .i64 output) (.int .i64 is) (.int .i64 os) (.slice a3 lo.length c3) (.slice a4 hi.length c4) (.slice a5 err.length c5) 26
  have hb1 : Below w.heap.size w (w.alloc (.cells #[.slice a1 sizes.length c1, .slice a2 ops.length c2, .int .i64 output, .int .i64 is, .int .i64 os, .slice a3 lo.length c3, .slice a4 hi.length c4, .slice a5 err.length c5] 26)) := (Below.refl _ w).alloc (Nat.le_refl _) _
  generalize w.alloc (.cells #[.slice a1 sizes.length c1, .slice a2 ops.length c2, .int .i64 output, .int .i64 is, .int .i64 os, .slice a3 lo.length c3, .slice a4 hi.length c4, .slice a5 err.length c5] 26) = W at *
  have HBx := Lib.hid hbx
  have HB1 := Lib.hid hb1
  obtain ⟨x0, x1, x2, x3, x4, x5, x6, x7, xlt⟩ := hbx
  have hbs := hb1.size
  clear hb1
  by_cases hl : sizes.length ≤ 10 ∧ ops.length ≤ 10 ∧ lo.length ≤ 100 ∧ hi.length ≤ 100 ∧ err.length ≤ 100
  · obtain ⟨hl1, hl2, hl3, hl4, hl5⟩ := hl
    have d1 : decide (10 < (sizes.length : Int)) = false := decide_eq_false (by omega)
    have d2 : decide (10 < (ops.length : Int)) = false := decide_eq_false (by omega)
    have d3 : decide (100 < (lo.length : Int)) = false := decide_eq_false (by omega)
    have d4 : decide (100 < (hi.length : Int)) = false := decide_eq_false (by omega)
    have d5 : decide (100 < (err.length : Int)) = false := decide_eq_false (by omega)
    have HR1 : Hid (R = (ops.all smallO && (sizes.all (fun n => decide (n ≤ 300)) && (lo ++ (hi ++ err)).all smallR))) := by
      unfold Hid; rw [HS.out, decide_eq_true ⟨hl1, hl2, hl3, hl4, hl5⟩, Bool.true_and]
    go_wp2
    go_loop [3] (fun i => ∃ j : Nat, j ≤ ops.length ∧ i = .int .i64 (j : Int) ∧ Hid ((ops.take j).all smallO = true)) (fun i => ops.length - (intOf i).toNat)
    case atStart => exact ⟨0, Nat.zero_le _, rfl, rfl⟩
    case round =>
      obtain ⟨j, hj, rfl, HA⟩ := hrel
      by_cases hlt : j < ops.length
      · obtain ⟨b, off, x, b1, b2, b3, e1, e2, e3, rfl, hb, hx, ⟨o0, o1, o2, o3, o4, o5, o6, o7, o8, o9, o10⟩, _⟩ := (H2.out.below HB1.out).pick hlt
        have HT := Lib.hid (take_succ_at hx)
        have HM := Lib.hid (List.mem_of_getElem? hx)
        clear hx o0 o1 o2 o3 o4 o5 o9 o10
        by_cases f1 : x.index.length ≤ 300
        · have g1 : decide (300 < (x.index.length : Int)) = false := decide_eq_false (by omega)
          by_cases f2 : x.weights.length ≤ 300
          · have g2 : decide (300 < (x.weights.length : Int)) = false := decide_eq_false (by omega)
            by_cases f3 : x.bias.length ≤ 100
            · have g3 : decide (100 < (x.bias.length : Int)) = false := decide_eq_false (by omega)
              have HO : Hid (smallO x = true) := by unfold Hid smallO; exact decide_eq_true ⟨f1, f2, f3⟩
              go_wp2
              go_round
              case rel => exact ⟨j + 1, hlt, by go_num, by unfold Hid; rw [HT.out, List.all_append, HA.out]; simp [HO.out]⟩
              case measure => simp [intOf]; omega
            · have g3 : decide (100 < (x.bias.length : Int)) = true := decide_eq_true (by omega)
              have HO : Hid (R = false) := by
                unfold Hid; rw [HR1.out, all_false HM.out (show smallO x = false from decide_eq_false fun h => f3 h.2.2), Bool.false_and]
              go_wp2
              go_ret
              exact ⟨ret_bool HO.out.symm, HB1.out⟩
          · have g2 : decide (300 < (x.weights.length : Int)) = true := decide_eq_true (by omega)
            have HO : Hid (R = false) := by
              unfold Hid; rw [HR1.out, all_false HM.out (show smallO x = false from decide_eq_false fun h => f2 h.2.1), Bool.false_and]
            go_wp2
            go_ret
            exact ⟨ret_bool HO.out.symm, HB1.out⟩
        · have g1 : decide (300 < (x.index.length : Int)) = true := decide_eq_true (by omega)
          have HO : Hid (R = false) := by
            unfold Hid; rw [HR1.out, all_false HM.out (show smallO x = false from decide_eq_false fun h => f1 h.1), Bool.false_and]
          go_wp2
          go_ret
          exact ⟨ret_bool HO.out.symm, HB1.out⟩
      · have HR2 : Hid (R = (sizes.all (fun n => decide (n ≤ 300)) && (lo ++ (hi ++ err)).all smallR)) := by
          have h := HA.out
          rw [List.take_of_length_le (by omega)] at h
          unfold Hid; rw [HR1.out, h, Bool.true_and]
        clear HA HR1
        go_wp2
        go_loop [4] (fun i => ∃ j : Nat, j ≤ sizes.length ∧ i = .int .i64 (j : Int) ∧ Hid ((sizes.take j).all (fun n => decide (n ≤ 300)) = true)) (fun i => sizes.length - (intOf i).toNat)
        case atStart => exact ⟨0, Nat.zero_le _, rfl, rfl⟩
        case round =>
          clear hj hlt
          obtain ⟨j, hj, rfl, HA⟩ := hrel
          by_cases hlt : j < sizes.length
          · obtain ⟨b, off, x, rfl, hcell, hx, _, _, _⟩ := (H1.out.below HB1.out).pick hlt
            have HT := Lib.hid (take_succ_at hx)
            have HM := Lib.hid (List.mem_of_getElem? hx)
            clear hx
            by_cases f1 : x ≤ 300
            · have g1 : decide (300 < x) = false := decide_eq_false (by omega)
              have HO : Hid (decide (x ≤ 300) = true) := decide_eq_true f1
              go_wp2
              go_round
              case rel => exact ⟨j + 1, hlt, by go_num, by unfold Hid; rw [HT.out, List.all_append, HA.out]; simp [HO.out]⟩
              case measure => simp [intOf]; omega
            · have g1 : decide (300 < x) = true := decide_eq_true (by omega)
              have HO : Hid (R = false) := by
                unfold Hid; rw [HR2.out, all_false HM.out (decide_eq_false f1), Bool.false_and]
              go_wp2
              go_ret
              exact ⟨ret_bool HO.out.symm, HB1.out⟩
          · have HR3 : Hid (R = (lo ++ (hi ++ err)).all smallR) := by
              have h := HA.out
              rw [List.take_of_length_le (by omega)] at h
              unfold Hid; rw [HR2.out, h, Bool.true_and]
            clear HA HR2
            obtain ⟨n3, s3, t3⟩ := (H3.out.below HB1.out).src
            obtain ⟨n4, s4, t4⟩ := (H4.out.below HB1.out).src
            obtain ⟨n5, s5, t5⟩ := (H5.out.below HB1.out).src
            have S3 := Lib.hid s3
            have S4 := Lib.hid s4
            have S5 := Lib.hid s5
            have T3 := Lib.hid t3
            have T4 := Lib.hid t4
            have T5 := Lib.hid t5
            clear s3 s4 s5 t3 t4 t5
            go_wp2
            clear d1 d2 d3 d4 d5 hj hlt x0 x1 x2 x3 x4 x5 x6 x7
            go_loopw [5] (fun i wr => ∃ j : Nat, j ≤ lo.length + (hi.length + err.length) ∧ i = .int .i64 (j : Int) ∧ Hid (((lo ++ (hi ++ err)).take j).all smallR = true) ∧ Below W.heap.size W wr) (fun i _ => lo.length + (hi.length + err.length) - (intOf i).toNat)
            case atStart => exact ⟨0, Nat.zero_le _, rfl, rfl, Below.refl _ _⟩
            case round =>
              obtain ⟨j, hj, rfl, HA, hb⟩ := hrel
              obtain ⟨x0, x1, x2, x3, x4, x5, x6, x7, _⟩ := HBx.out.below hb
              have HB := Lib.hid hb
              have hs := hb.size
              clear hb x0 x1 x2 x3 x4
              by_cases hlt : j < lo.length + (hi.length + err.length)
              · obtain ⟨x, hx⟩ : ∃ x, (lo ++ (hi ++ err))[j]? = some x := ⟨(lo ++ (hi ++ err))[j]'(by simp; omega), List.getElem?_eq_getElem _⟩
                obtain ⟨an, ad, cn, cd, hpick⟩ := pick_mk S3.out.len S4.out.len T3.out T4.out T5.out hx
                have HPick := Lib.hid hpick
                have HX := Lib.hid hx
                clear hpick hx
                go_upto_region 16 with fail
                go_cut [6] (fun s6 wx => Hid (SmCut W x an ad cn cd s6 wx))
                case first =>
                  have hjd : decide ((j : Int) < (lo.length : Int) + hi.length + err.length) = true := decide_eq_true (by omega)
                  have HSx := Lib.hid (fun (wc : World) (hb : Below W.heap.size W wc) => boxS HBx.out hb)
                  refine wp_region_slots_gen 14 (by kernel_rfl) (by kernel_rfl) (by kernel_rfl) (by kernel_rfl) (by decide) (SmJ W w.heap.size a3 a4 a5 c3 c4 c5 n3 n4 n5 lo.length hi.length err.length j x an ad cn cd 44) (fun g => SmJ.start HB.out.drew g) ?_ ?_
                  · intro ops
                    simp only [List.take_succ_cons, List.take_zero, ShowsJ]
                    refine ⟨?_, ?_, ?_, ?_, ?_, ?_, ?_, ?_, ?_, ?_, ?_, ?_, ?_, ?_, trivial⟩
                    · intro d g wc hJ hd hW
                      simp only [Waits, Region.binds, forall_const, Bool.false_eq_true, false_implies, and_true, true_and] at hW
                      simp [fillFrom, Act.put]
                      have HJ := Lib.hid hJ
                      clear hJ
                      go_wp2
                      exact ⟨_, rfl, HJ.out.s0⟩
                    · intro d g wc hJ hd hW
                      simp only [Waits, Region.binds, forall_const, Bool.false_eq_true, false_implies, and_true, true_and] at hW
                      simp [fillFrom, Act.put]
                      have HJ := Lib.hid hJ
                      clear hJ
                      go_wp2
                      exact ⟨_, rfl, HJ.out.s1⟩
                    · intro d g wc hJ hd hW
                      simp only [Waits, Region.binds, forall_const, Bool.false_eq_true, false_implies, and_true, true_and] at hW
                      simp [fillFrom, Act.put]
                      have HJ := Lib.hid hJ
                      generalize hg1 : g 1 = y1
                      obtain rfl := hg1.symm.trans (hJ.v1 hW)
                      obtain ⟨z5, z6, z7⟩ := boxS HBx.out hJ.bl
                      clear hJ
                      go_wp2
                      exact ⟨_, rfl, HJ.out.s2⟩
                    · intro d g wc hJ hd hW
                      simp only [Waits, Region.binds, forall_const, Bool.false_eq_true, false_implies, and_true, true_and] at hW
                      simp [fillFrom, Act.put]
                      have HJ := Lib.hid hJ
                      have hx := hJ.v2 hW.2
                      rw [hx]
                      refine wpList_append_src (by rfl) (.tmp 98) (.tmp 100) 24 24 (by rfl) W.heap.size 44 (.agg #[.bool false, .slice none 0 0, .slice none 0 0]) 3 56 Tryz.underlying24 Tryz.underlying24 Tryz.infoRat rfl (by omega) (g 0) (0) _ (by rfl) (hJ.c0 hW.1 hd) a3 lo.length c3 n3 (by rfl) (S3.out.below hJ.bl) (by omega) (by unfold maxLen; omega) hJ.bl.size ?_
                      intro v' w' h1 h2 h3
                      have hb' : Below W.heap.size W w' := hJ.bl.grown h2 hJ.bl.size (fun k hk => ((hJ.c0 hW.1 hd).lt k hk).1)
                      exact ⟨_, rfl, HJ.out.s3 hd hW.1 h1 hb' (keeps_of h2 h3)⟩
                    · intro d g wc hJ hd hW
                      simp only [Waits, Region.binds, forall_const, Bool.false_eq_true, false_implies, and_true, true_and] at hW
                      simp [fillFrom, Act.put]
                      have HJ := Lib.hid hJ
                      clear hJ
                      go_wp2
                      exact ⟨_, rfl, HJ.out.s4⟩
                    · intro d g wc hJ hd hW
                      simp only [Waits, Region.binds, forall_const, Bool.false_eq_true, false_implies, and_true, true_and] at hW
                      simp [fillFrom, Act.put]
                      have HJ := Lib.hid hJ
                      generalize hg4 : g 4 = y4
                      obtain rfl := hg4.symm.trans (hJ.v4 hW)
                      obtain ⟨z5, z6, z7⟩ := boxS HBx.out hJ.bl
                      clear hJ
                      go_wp2
                      exact ⟨_, rfl, HJ.out.s5⟩
                    · intro d g wc hJ hd hW
                      simp only [Waits, Region.binds, forall_const, Bool.false_eq_true, false_implies, and_true, true_and] at hW
                      simp [fillFrom, Act.put]
                      have HJ := Lib.hid hJ
                      have hx := hJ.v5 hW.2.1
                      rw [hx]
                      refine wpList_append_src (by rfl) (.tmp 101) (.tmp 103) 24 24 (by rfl) W.heap.size 44 (.agg #[.bool false, .slice none 0 0, .slice none 0 0]) 3 56 Tryz.underlying24 Tryz.underlying24 Tryz.infoRat rfl (by omega) (g 3) (0 + lo.length) _ (by rfl) (hJ.c3 hW.1 hd) a4 hi.length c4 n4 (by rfl) (S4.out.below hJ.bl) (by omega) (by unfold maxLen; omega) hJ.bl.size ?_
                      intro v' w' h1 h2 h3
                      have hb' : Below W.heap.size W w' := hJ.bl.grown h2 hJ.bl.size (fun k hk => ((hJ.c3 hW.1 hd).lt k hk).1)
                      exact ⟨_, rfl, HJ.out.s6 hd hW.1 h1 hb' (keeps_of h2 h3)⟩
                    · intro d g wc hJ hd hW
                      simp only [Waits, Region.binds, forall_const, Bool.false_eq_true, false_implies, and_true, true_and] at hW
                      simp [fillFrom, Act.put]
                      have HJ := Lib.hid hJ
                      clear hJ
                      go_wp2
                      exact ⟨_, rfl, HJ.out.s7⟩
                    · intro d g wc hJ hd hW
                      simp only [Waits, Region.binds, forall_const, Bool.false_eq_true, false_implies, and_true, true_and] at hW
                      simp [fillFrom, Act.put]
                      have HJ := Lib.hid hJ
                      generalize hg7 : g 7 = y7
                      obtain rfl := hg7.symm.trans (hJ.v7 hW)
                      obtain ⟨z5, z6, z7⟩ := boxS HBx.out hJ.bl
                      clear hJ
                      go_wp2
                      exact ⟨_, rfl, HJ.out.s8⟩
                    · intro d g wc hJ hd hW
                      simp only [Waits, Region.binds, forall_const, Bool.false_eq_true, false_implies, and_true, true_and] at hW
                      simp [fillFrom, Act.put]
                      have HJ := Lib.hid hJ
                      have hx := hJ.v8 hW.2.1
                      rw [hx]
                      refine wpList_append_src (by rfl) (.tmp 104) (.tmp 106) 24 24 (by rfl) W.heap.size 44 (.agg #[.bool false, .slice none 0 0, .slice none 0 0]) 3 56 Tryz.underlying24 Tryz.underlying24 Tryz.infoRat rfl (by omega) (g 6) (0 + lo.length + hi.length) _ (by rfl) (hJ.c6 hW.1 hd) a5 err.length c5 n5 (by rfl) (S5.out.below hJ.bl) (by omega) (by unfold maxLen; omega) hJ.bl.size ?_
                      intro v' w' h1 h2 h3
                      have hb' : Below W.heap.size W w' := hJ.bl.grown h2 hJ.bl.size (fun k hk => ((hJ.c6 hW.1 hd).lt k hk).1)
                      exact ⟨_, rfl, HJ.out.s9 hd hW.1 h1 hb' (keeps_of h2 h3)⟩
                    · intro d g wc hJ hd hW
                      simp only [Waits, Region.binds, forall_const, Bool.false_eq_true, false_implies, and_true, true_and] at hW
                      simp [fillFrom, Act.put]
                      have HJ := Lib.hid hJ
                      clear hJ
                      go_wp2
                      exact ⟨_, rfl, HJ.out.s10⟩
                    · intro d g wc hJ hd hW
                      simp only [Waits, Region.binds, forall_const, Bool.false_eq_true, false_implies, and_true, true_and] at hW
                      simp [fillFrom, Act.put]
                      have HJ := Lib.hid hJ
                      obtain ⟨gb, cap, he, _, cc0, cc1, cc2, hgg⟩ := rowPick HPick.out (hJ.c9 hW.1)
                      have HE := Lib.hid he
                      generalize hg9 : g 9 = y9
                      obtain rfl := hg9.symm.trans he
                      generalize hg10 : g 10 = y10
                      obtain rfl := hg10.symm.trans (hJ.v10 hW.2)
                      have hjn : j < 0 + lo.length + hi.length + err.length := HPick.out.1
                      have h9 := hW.1
                      clear hJ cc0 cc1 cc2
                      go_wp2
                      exact ⟨_, rfl, HJ.out.s11 h9 HE.out⟩
                    · intro d g wc hJ hd hW
                      simp only [Waits, Region.binds, forall_const, Bool.false_eq_true, false_implies, and_true, true_and] at hW
                      simp [fillFrom, Act.put]
                      have HJ := Lib.hid hJ
                      obtain ⟨gb, cap, he, hp11⟩ := hJ.c11 hW
                      obtain ⟨gb', cap', he', _, cc0, cc1, cc2, hgg⟩ := rowPick HPick.out (hJ.c9 (hJ.e9 hW))
                      rw [he] at he'
                      cases he'
                      generalize hg11 : g 11 = y11
                      obtain rfl := hg11.symm.trans hp11
                      clear hJ
                      go_wp2
                      exact ⟨_, rfl, HJ.out.s12⟩
                    · intro d g wc hJ hd hW
                      simp only [Waits, Region.binds, forall_const, Bool.false_eq_true, false_implies, and_true, true_and] at hW
                      simp [fillFrom, Act.put]
                      have HJ := Lib.hid hJ
                      clear hJ
                      go_wp2
                      exact ⟨_, rfl, HJ.out.s13⟩
                  · intro ops d g wc hall hJ
                    simp only [List.take_succ_cons, List.take_zero, List.drop_succ_cons, List.drop_zero]
                    simp [fillFrom, Act.put]
                    have hv12 := hJ.c12 (hall 12 (by decide))
                    obtain ⟨p, hp1, hp2, hp3, _⟩ := hJ.c13 (hall 13 (by decide))
                    have hb3 := Lib.hid hJ.bl
                    generalize hg12 : g 12 = y12
                    obtain rfl := hg12.symm.trans hv12
                    generalize hg13 : g 13 = y13
                    obtain rfl := hg13.symm.trans hp1
                    obtain ⟨tt0, tt1, tt2, ttf⟩ := cells3 hp3
                    have HT3 := Lib.hid hp3
                    clear hJ hall hv12 hp1 hp3 hg12 hg13
                    go_wp2_with fail
                    go_meet
                    exact SmCut.mkB hb3.out HT3.out hp2
                case rest =>
                  obtain ⟨pp, rfl, z1, z2, hbx⟩ := hcut.out
                  have HBx2 := Lib.hid hbx
                  have HT := Lib.hid (take_succ_at HX.out)
                  have HM := Lib.hid (List.mem_of_getElem? HX.out)
                  clear hcut hbx x5 x6 x7
                  by_cases f1 : x.num.length ≤ 4
                  · have g1 : decide (4 < (x.num.length : Int)) = false := decide_eq_false (by omega)
                    by_cases f2 : x.den.length ≤ 4
                    · have g2 : decide (4 < (x.den.length : Int)) = false := decide_eq_false (by omega)
                      have HO : Hid (smallR x = true) := by unfold Hid smallR; exact decide_eq_true ⟨f1, f2⟩
                      go_wp2
                      go_roundw
                      case rel => exact ⟨j + 1, hlt, by go_num, by unfold Hid; rw [HT.out, List.all_append, HA.out]; simp [HO.out], HBx2.out⟩
                      case measure => simp [intOf]; omega
                    · have g2 : decide (4 < (x.den.length : Int)) = true := decide_eq_true (by omega)
                      have HO : Hid (R = false) := by
                        unfold Hid; rw [HR3.out, all_false HM.out (show smallR x = false from decide_eq_false fun h => f2 h.2)]
                      go_wp2
                      go_ret
                      exact ⟨ret_bool HO.out.symm, HB1.out.trans (HBx2.out.mono HB1.out.size)⟩
                  · have g1 : decide (4 < (x.num.length : Int)) = true := decide_eq_true (by omega)
                    have HO : Hid (R = false) := by
                      unfold Hid; rw [HR3.out, all_false HM.out (show smallR x = false from decide_eq_false fun h => f1 h.1)]
                    go_wp2
                    go_ret
                    exact ⟨ret_bool HO.out.symm, HB1.out.trans (HBx2.out.mono HB1.out.size)⟩
              · have HR4 : Hid (R = true) := by
                  have h := HA.out
                  rw [List.take_of_length_le (by simp; omega)] at h
                  unfold Hid; rw [HR3.out, h]
                go_wp2
                go_ret
                exact ⟨ret_bool HR4.out.symm, HB1.out.trans (HB.out.mono HB1.out.size)⟩
  · have HR0 : Hid (R = false) := by unfold Hid; rw [HS.out, decide_eq_false hl, Bool.false_and]
    clear HS
    by_cases e1 : sizes.length ≤ 10
    · have d1 : decide (10 < (sizes.length : Int)) = false := decide_eq_false (by omega)
      by_cases e2 : ops.length ≤ 10
      · have d2 : decide (10 < (ops.length : Int)) = false := decide_eq_false (by omega)
        by_cases e3 : lo.length ≤ 100
        · have d3 : decide (100 < (lo.length : Int)) = false := decide_eq_false (by omega)
          by_cases e4 : hi.length ≤ 100
          · have d4 : decide (100 < (hi.length : Int)) = false := decide_eq_false (by omega)
            have d5 : decide (100 < (err.length : Int)) = true := decide_eq_true (by omega)
            go_wp2
            go_ret
            exact ⟨ret_bool HR0.out.symm, HB1.out⟩
          · have d4 : decide (100 < (hi.length : Int)) = true := decide_eq_true (by omega)
            go_wp2
            go_ret
            exact ⟨ret_bool HR0.out.symm, HB1.out⟩
        · have d3 : decide (100 < (lo.length : Int)) = true := decide_eq_true (by omega)
          go_wp2
          go_ret
          exact ⟨ret_bool HR0.out.symm, HB1.out⟩
      · have d2 : decide (10 < (ops.length : Int)) = true := decide_eq_true (by omega)
        go_wp2
        go_ret
        exact ⟨ret_bool HR0.out.symm, HB1.out⟩
    · have d1 : decide (10 < (sizes.length : Int)) = true := decide_eq_true (by omega)
      go_wp2
      go_ret
      exact ⟨ret_bool HR0.out.symm, HB1.out⟩

end Go.Proofs.YthlmgejikbmmaaaGreat
