/-
  Contracts of the functions that the statements reach, in the order in which they are built: Base, BaseB, Draw, Slots.
-/
import Derived.Test.YthlmgejikbmmaaaRows
import Derived.WalkKit
import Derived.WalkSmall
import Derived.WalkSpells
import Derived.Lib.Hide
import Derived.Deep.Draws
import Derived.Deep.QuietTactic
import Derived.BigQuiet
import Derived.Deep.LoopGhost
import Derived.Deep.DeepCutAuto
import Derived.WalkLawsBesides
set_option linter.unusedVariables false
set_option linter.unusedSimpArgs false
set_option linter.constructorNameAsVariable false
set_option linter.deprecated false

/-
  Plain predicates on memory (slices of integers, rows that a call owns) and the small lemmas that the walks use. No program in sight.
-/
namespace Go.Proofs.Ythlmgejikbmmaaa
open Go.RowKit

/-- The slice at a reads as the integers l, all of its cells in blocks of F. -/
structure Ints (w : World) (F : Nat → Prop) (a : Option Addr) (l : List Int) : Prop where
  wf : ∀ x ∈ l, -9223372036854775808 ≤ x ∧ x ≤ 9223372036854775807
  len : l.length ≤ 9223372036854775807
  row : l = [] ∨ ∃ b off, a = some ⟨b, off, none⟩ ∧ F b ∧ b < w.heap.size ∧ ∀ j d, l[j]? = some d → w.cell? ⟨b, off + j, none⟩ = some (.int .i64 d)

theorem Ints.nil (w : World) (F : Nat → Prop) (a : Option Addr) : Ints w F a [] := ⟨by simp, by simp, .inl rfl⟩

theorem Ints.frame {w w' : World} {F : Nat → Prop} {a : Option Addr} {l : List Int} (h : Ints w F a l) (hs : w.heap.size ≤ w'.heap.size)
    (hf : ∀ b, F b → b < w.heap.size → w'.heap[b]? = w.heap[b]?) : Ints w' F a l := by
  refine ⟨h.wf, h.len, h.row.imp id ?_⟩
  rintro ⟨b, off, rfl, hF, hb, hc⟩
  exact ⟨b, off, rfl, hF, by omega, fun j d hj => (World.cell?_of_block (w := w) (hf b hF hb)).trans (hc j d hj)⟩

theorem Ints.mono {w : World} {F F' : Nat → Prop} {a : Option Addr} {l : List Int} (h : Ints w F a l) (hF : ∀ b, b < w.heap.size → F b → F' b) : Ints w F' a l := by
  refine ⟨h.wf, h.len, h.row.imp id ?_⟩
  rintro ⟨b, off, rfl, hb, hs, hc⟩
  exact ⟨b, off, rfl, hF b hs hb, hs, hc⟩

/-- Any block. -/
def Any : Nat → Prop := fun _ => True

theorem Ints.below {w w' : World} {F : Nat → Prop} {a : Option Addr} {l : List Int} (h : Ints w F a l) (hb : Below w.heap.size w w') : Ints w' F a l :=
  h.frame hb.size (fun b _ hs => hb.block b hs)

/-- What a round of a loop over the list reads. -/
theorem Ints.pick {w : World} {F : Nat → Prop} {a : Option Addr} {l : List Int} (h : Ints w F a l) {k : Nat} (hk : k < l.length) :
    ∃ b off d, a = some ⟨b, off, none⟩ ∧ w.cell? ⟨b, off + k, none⟩ = some (.int .i64 d) ∧ l[k]? = some d ∧ l.drop k = d :: l.drop (k + 1) ∧ -9223372036854775808 ≤ d ∧ d ≤ 9223372036854775807 := by
  rcases h.row with rfl | ⟨b, off, rfl, _, _, hc⟩
  · simp at hk
  · have hd : l[k]? = some l[k] := by simp [hk]
    exact ⟨b, off, l[k], rfl, hc k _ hd, hd, List.drop_eq_getElem_cons hk, h.wf _ (List.getElem_mem hk)⟩

/-- .. and the block that it reads is one of those that were there. -/
theorem Ints.pick2 {w : World} {F : Nat → Prop} {a : Option Addr} {l : List Int} (h : Ints w F a l) {k : Nat} (hk : k < l.length) :
    ∃ b off d, a = some ⟨b, off, none⟩ ∧ w.cell? ⟨b, off + k, none⟩ = some (.int .i64 d) ∧ l[k]? = some d ∧ l.drop k = d :: l.drop (k + 1) ∧ b < w.heap.size ∧ F b ∧ -9223372036854775808 ≤ d ∧ d ≤ 9223372036854775807 := by
  rcases h.row with rfl | ⟨b, off, rfl, hF, hb, hc⟩
  · simp at hk
  · have hd : l[k]? = some l[k] := by simp [hk]
    exact ⟨b, off, l[k], rfl, hc k _ hd, hd, List.drop_eq_getElem_cons hk, hb, hF, h.wf _ (List.getElem_mem hk)⟩

/-- A store into another block. -/
theorem cell_other {w : World} {p q : Addr} {u : Value} (h : p.block ≠ q.block) : (w.setCell q u).cell? p = w.cell? p :=
  World.cell?_setCell_other _ _ _ _ (fun e => h (by rw [e]))

theorem Ints.three {w : World} {F : Nat → Prop} {a : Option Addr} {l : List Int} (h : Ints w F a l) (hl : l.length = 3) :
    ∃ b off c x y, a = some ⟨b, off, none⟩ ∧ w.cell? ⟨b, off, none⟩ = some (.int .i64 c) ∧ w.cell? ⟨b, off + 1, none⟩ = some (.int .i64 x) ∧ w.cell? ⟨b, off + 2, none⟩ = some (.int .i64 y) ∧
      l[0]? = some c ∧ l[1]? = some x ∧ l[2]? = some y := by
  rcases h.row with rfl | ⟨b, off, rfl, _, _, hc⟩
  · simp at hl
  · have e0 : l[0]? = some l[0] := by simp
    have e1 : l[1]? = some l[1] := by simp
    have e2 : l[2]? = some l[2] := by simp
    exact ⟨b, off, _, _, _, rfl, hc 0 _ e0, hc 1 _ e1, hc 2 _ e2, e0, e1, e2⟩

theorem drop_end {α : Type} {l : List α} {k : Nat} (hk : k ≤ l.length) (h : ¬ k < l.length) : l.drop k = [] := List.drop_of_length_le (by omega)

theorem ret_bool {a b : Bool} (h : a = b) : Ending.returned (.bool a) = .returned (.bool b) := by rw [h]
theorem ret_int {k : IntKind} {a b : Int} (h : a = b) : Ending.returned (.int k a) = .returned (.int k b) := by rw [h]

theorem drew2 (w : World) (n m : Nat) : ∃ k, (w.drewN n).drewN m = w.drewN k := ⟨n + m, by simp⟩
theorem Ints.drewN {w : World} {F : Nat → Prop} {a : Option Addr} {l : List Int} (h : Ints w F a l) (n : Nat) : Ints (w.drewN n) F a l := ⟨h.wf, h.len, h.row⟩
theorem ret_ie {a b c d : Int} (h : (a, c) = (b, d)) : Ending.returned (.tuple #[.int .i64 a, .int .i64 c]) = .returned (.tuple #[.int .i64 b, .int .i64 d]) := by
  cases h; rfl

/-- A row of integers of the call's own reads as integers. -/
theorem Ints.own_cap {w : World} {base E : Nat} {v : Value} {n : Nat} {xs : List Value} (h : w.ownsRow base E 1 v n xs) {a : Option Addr} {m c : Nat} (hv : v = .slice a m c) : n ≤ c := by
  rcases h.2 with ⟨rfl, hn⟩ | ⟨g, cap, cur, rfl, hb, hg, hnc, hcm, hcs, htake⟩
  · cases hv; omega
  · cases hv; exact hnc
theorem Ints.own {w : World} {base E : Nat} {v : Value} {l : List Int} (h : w.ownsRow base E 1 v l.length (l.map (Value.int .i64)))
    (hw : ∀ x ∈ l, -9223372036854775808 ≤ x ∧ x ≤ 9223372036854775807) (hl : l.length ≤ 9223372036854775807) :
    ∃ a c, v = .slice a l.length c ∧ Ints w (fun b => v.ownBlock = some b) a l := by
  rcases h.2 with ⟨rfl, hn⟩ | ⟨g, cap, cur, rfl, hb, hg, hnc, hcm, hcs, htake⟩
  · rw [hn]
    exact ⟨none, 0, rfl, by rw [List.eq_nil_of_length_eq_zero hn]; exact Ints.nil _ _ _⟩
  · refine ⟨_, cap, rfl, hw, hl, .inr ⟨g, 0, rfl, rfl, (Array.getElem?_eq_some_iff.1 hg).1, ?_⟩⟩
    intro j d hj
    have := h.cells (g := g) rfl j (.int .i64 d) (by simp [hj])
    simpa [Addr.add_lit] using this

/-- Where an append of the call's own leads: to the same block, or to a new one. -/
def Next (w : World) (v v' : Value) : Prop := v'.ownBlock = v.ownBlock ∨ ∃ g, v'.ownBlock = some g ∧ w.heap.size ≤ g

theorem run_append_next {P : Program} (w : World) (base : Nat) (t ty e : TypeId) (i : TypeInfo) (z : Value) (size bytes : Nat) (ht : P.underlying t = some (.slice e)) (hi : P.info? e = some i) (hz : i.zero = some z)
    (hsize : i.size = size) (hby : i.bytes = bytes) (hzs : z.cells.size = size) (hsz : 0 < size)
    (v : Value) (n : Nat) (xs : List Value) (hown : w.ownsRow base e size v n xs)
    (a : Addr) (m c : Nat) (news : List Value) (hl : news.length = m * size) (hnews : ∀ j u, news[j]? = some u → w.cell? (a.add j) = some u) (h1 : ∀ u ∈ news, u.oneCell' = true)
    (hm : 0 < m) (h63 : n + m ≤ maxLen) (hbytes : (n + m) * bytes ≤ 140737488355328) (hbase : base ≤ w.heap.size) :
    ∃ v' w', (Builtin.append_ #[t, t] ty #[v, .slice (some a) m c]).run P w = .ok v' w' ∧ w'.ownsRow base e size v' (n + m) (xs ++ news) ∧ w.grownBy w' v.ownBlock ∧ Next w v v' := by
  obtain ⟨v', w', hr, h2, h3, _⟩ := run_append_own (P := P) w base t ty e i z size bytes ht hi hz hsize hby hzs hsz v n xs hown a m c news hl hnews h1 h63 hbytes hbase
  refine ⟨v', w', hr, h2, h3, ?_⟩
  subst hsize
  subst hby
  have hsmall : n + m ≤ 9223372036854775807 := by simp only [maxLen] at h63; omega
  rcases hown.2 with ⟨rfl, rfl⟩ | ⟨g, cap, cur, rfl, hbg, hg, hnc, hcm, hcs, htake⟩
  · have hr' := run_append_nil (P := P) w t ty e i z ht hi hz a m c news hl hnews hm (by omega) (by simp only [Nat.zero_add] at hbytes; omega)
    rw [hr'] at hr
    cases hr
    exact .inr ⟨_, rfl, Nat.le_refl _⟩
  · by_cases hroom : n + m ≤ cap
    · have hfit : n * i.size + news.length ≤ cur.size := by rw [hl, hcs, ← Nat.add_mul]; exact Nat.mul_le_mul_right _ hroom
      have hr' := run_append_room (P := P) w t ty e i ht hi g n cap cur hg a m c news hl hnews h1 hroom hfit
      rw [hr'] at hr
      cases hr
      exact .inl rfl
    · have holds : ∀ j u, xs[j]? = some u → w.cell? ((⟨g, 0, none⟩ : Addr).add j) = some u := hown.cells (g := g) rfl
      have hr' := run_append_grow (P := P) w t ty e i z ht hi hz ⟨g, 0, none⟩ n cap xs hown.1 holds a m c news hl hnews (by omega) (by omega) (growslice_fits (by omega) hbytes)
      rw [hr'] at hr
      cases hr
      exact .inr ⟨_, rfl, Nat.le_refl _⟩

/-- 'v = append(v, u)', v the call's own, u of one cell: behind the making of u's row. -/
theorem wpList_app1 {P : Program} {w : World} {ops : Array Oper} {rest : List Oper} {o : Oper} {a : Act} {Q : Exit → Act → World → Prop} (hgd : o.guard = none) (s x : Operand) (t : TypeId)
    (ho : o.op = .call { callee := .builtin .append, args := #[s, x], argTypes := #[t, t] })
    (base : Nat) (e : TypeId) (z : Value) (bytes : Nat) (ht : P.underlying t = some (.slice e)) (hinfo : (P.info? e).map (fun i => (i.zero, i.size, i.bytes)) = some (some z, 1, bytes)) (hz1 : z.cells.size = 1)
    (v : Value) (n : Nat) (xs : List Value) (hs : a.eval s = v) (hown : w.ownsRow base e 1 v n xs) (u : Value) (hu : u.oneCell' = true)
    (hx : a.eval x = .slice (some ⟨w.heap.size, 0, none⟩) 1 1)
    (hbytes : (n + 1) * bytes ≤ 140737488355328) (h63 : n + 1 ≤ maxLen) (hbase : base ≤ w.heap.size)
    (h : ∀ v' w', w'.ownsRow base e 1 v' (n + 1) (xs ++ [u]) → w.grownBy w' v.ownBlock → Next w v v' → wpList P ops Q rest (a.put o.dst v') w') :
    wpList P ops Q (o :: rest) a (w.alloc (.cells #[u] e)) := by
  refine wpList_plain hgd fun K hK => ?_
  obtain ⟨i, hi, hz, hsize, hby⟩ := info_parts hinfo
  obtain ⟨v', w', hr, h2, h3, h4⟩ := run_append_next (P := P) (w.alloc (.cells #[u] e)) base t o.type e i z 1 bytes ht hi hz hsize hby hz1 (by omega) v n xs (hown.alloc _) ⟨w.heap.size, 0, none⟩ 1 1 [u] rfl
    (by intro j y hj; match j, hj with | 0, hj => simp at hj; subst hj; simp [Addr.add]) (by intro y hy; simp at hy; subst hy; exact hu) (by omega) h63 hbytes (by simp; omega)
  unfold Oper.wp execOp
  simp only [ho, resolve, invoke, builtin, Sem.run_bind, Sem.run_pure, Result.andThen_ok, List.map_toArray, List.map_cons, List.map_nil, hs, hx, hr]
  refine hK _ _ (h v' w' h2 ?_ ?_)
  · have h0 := World.grownBy_alloc w (.cells #[u] e) v.ownBlock
    exact ⟨h3.os.trans h0.os, h3.tape.trans h0.tape, h3.output.trans h0.output, Nat.le_trans h0.size h3.size, fun k hk hne => (h3.block k (by simp; omega) hne).trans (h0.block k hk hne)⟩
  · exact h4.imp id (fun ⟨g, hg, hle⟩ => ⟨g, hg, by simp at hle; omega⟩)

theorem Ints.grown {w w' : World} {F : Nat → Prop} {a : Option Addr} {l : List Int} {row : Option Nat} (h : Ints w F a l) (hg : w.grownBy w' row) (hF : ∀ b, F b → row ≠ some b) : Ints w' F a l :=
  h.frame hg.size (fun b hb hs => hg.block b hs (fun e => hF b hb e.symm))

/-- A slice of slices of integers: all rows lie in blocks of F. -/
structure Intss (w : World) (F : Nat → Prop) (a : Option Addr) (L : List (List Int)) : Prop where
  len : L.length ≤ 9223372036854775807
  row : L = [] ∨ ∃ b off, a = some ⟨b, off, none⟩ ∧ F b ∧ b < w.heap.size ∧ ∀ j l, L[j]? = some l → ∃ aj cj, w.cell? ⟨b, off + j, none⟩ = some (.slice aj l.length cj) ∧ Ints w F aj l ∧ l.length ≤ cj

theorem Intss.nil (w : World) (F : Nat → Prop) (a : Option Addr) : Intss w F a [] := ⟨by simp, .inl rfl⟩
theorem Intss.frame {w w' : World} {F : Nat → Prop} {a : Option Addr} {L : List (List Int)} (h : Intss w F a L) (hs : w.heap.size ≤ w'.heap.size)
    (hf : ∀ b, F b → b < w.heap.size → w'.heap[b]? = w.heap[b]?) : Intss w' F a L := by
  refine ⟨h.len, h.row.imp id ?_⟩
  rintro ⟨b, off, rfl, hF, hb, hc⟩
  refine ⟨b, off, rfl, hF, by omega, fun j l hj => ?_⟩
  obtain ⟨aj, cj, h1, h2, h3⟩ := hc j l hj
  exact ⟨aj, cj, (World.cell?_of_block (w := w) (hf b hF hb)).trans h1, h2.frame hs hf, h3⟩
theorem Intss.below {w w' : World} {F : Nat → Prop} {a : Option Addr} {L : List (List Int)} (h : Intss w F a L) (hb : Below w.heap.size w w') : Intss w' F a L :=
  h.frame hb.size (fun b _ hs => hb.block b hs)
theorem Intss.mono {w : World} {F F' : Nat → Prop} {a : Option Addr} {L : List (List Int)} (h : Intss w F a L) (hF : ∀ b, b < w.heap.size → F b → F' b) : Intss w F' a L := by
  refine ⟨h.len, h.row.imp id ?_⟩
  rintro ⟨b, off, rfl, hb, hs, hc⟩
  refine ⟨b, off, rfl, hF b hs hb, hs, fun j l hj => ?_⟩
  obtain ⟨aj, cj, h1, h2, h3⟩ := hc j l hj
  exact ⟨aj, cj, h1, h2.mono hF, h3⟩
theorem Intss.drewN {w : World} {F : Nat → Prop} {a : Option Addr} {L : List (List Int)} (h : Intss w F a L) (n : Nat) : Intss (w.drewN n) F a L :=
  h.frame (Nat.le_refl _) (fun _ _ _ => rfl)
theorem Intss.pick {w : World} {F : Nat → Prop} {a : Option Addr} {L : List (List Int)} (h : Intss w F a L) {k : Nat} (hk : k < L.length) :
    ∃ b off l aj cj, a = some ⟨b, off, none⟩ ∧ w.cell? ⟨b, off + k, none⟩ = some (.slice aj l.length cj) ∧ L[k]? = some l ∧ L.drop k = l :: L.drop (k + 1) ∧ Ints w F aj l ∧ b < w.heap.size ∧ F b := by
  rcases h.row with rfl | ⟨b, off, rfl, hF, hb, hc⟩
  · simp at hk
  · have hd : L[k]? = some L[k] := by simp [hk]
    obtain ⟨aj, cj, h1, h2, _⟩ := hc k _ hd
    exact ⟨b, off, L[k], aj, cj, rfl, h1, hd, List.drop_eq_getElem_cons hk, h2, hb, hF⟩
theorem Intss.pickc {w : World} {F : Nat → Prop} {a : Option Addr} {L : List (List Int)} (h : Intss w F a L) {k : Nat} (hk : k < L.length) :
    ∃ b off l aj cj, a = some ⟨b, off, none⟩ ∧ w.cell? ⟨b, off + k, none⟩ = some (.slice aj l.length cj) ∧ L[k]? = some l ∧ l.length ≤ cj ∧ Ints w F aj l ∧ b < w.heap.size ∧ F b := by
  rcases h.row with rfl | ⟨b, off, rfl, hF, hb, hc⟩
  · simp at hk
  · have hd : L[k]? = some L[k] := by simp [hk]
    obtain ⟨aj, cj, h1, h2, h3⟩ := hc k _ hd
    exact ⟨b, off, L[k], aj, cj, rfl, h1, hd, h3, h2, hb, hF⟩

/-- While it is made: the row of rows is the call's own, and each row lies in a block of the call's own beside it. -/
structure OwnSS (w : World) (base E : Nat) (v : Value) (xs : List Value) (L : List (List Int)) : Prop where
  own : w.ownsRow base E 1 v L.length xs
  elem : ∀ (j : Nat) (l : List Int), L[j]? = some l → ∃ aj cj, xs[j]? = some (Value.slice aj l.length cj) ∧ Ints w (fun b => base ≤ b ∧ v.ownBlock ≠ some b) aj l ∧ l.length ≤ cj

theorem OwnSS.nil (w : World) (base E : Nat) : OwnSS w base E (.slice none 0 0) [] [] := ⟨World.ownsRow_nil _ _ _ _, by simp⟩
theorem OwnSS.frame {w w' : World} {base E : Nat} {v : Value} {xs : List Value} {L : List (List Int)} (h : OwnSS w base E v xs L) (hb : Below w.heap.size w w') : OwnSS w' base E v xs L :=
  ⟨h.own.kept (row := none) ⟨hb.os, hb.tape, hb.output, hb.size, fun k hk _ => hb.block k hk⟩ (by cases hv : v.ownBlock <;> simp),
   fun j l hj => let ⟨aj, cj, h1, h2, h3⟩ := h.elem j l hj; ⟨aj, cj, h1, h2.below hb, h3⟩⟩
theorem OwnSS.app {w w' : World} {base E : Nat} {v v' : Value} {xs : List Value} {L : List (List Int)} (h : OwnSS w base E v xs L) {G : Nat → Prop} {aj : Option Addr} {l : List Int} {cj : Nat}
    (hI : Ints w G aj l) (hcj : l.length ≤ cj) (hG : ∀ b, G b → base ≤ b ∧ v.ownBlock ≠ some b) (ho : w'.ownsRow base E 1 v' (L.length + 1) (xs ++ [.slice aj l.length cj])) (hg : w.grownBy w' v.ownBlock) (hn : Next w v v') :
    OwnSS w' base E v' (xs ++ [.slice aj l.length cj]) (L ++ [l]) := by
  have key : ∀ {a m}, Ints w (fun b => base ≤ b ∧ v.ownBlock ≠ some b) a m → Ints w' (fun b => base ≤ b ∧ v'.ownBlock ≠ some b) a m := by
    intro a m hm
    have h1 := hm.mono (F' := fun b => base ≤ b ∧ v.ownBlock ≠ some b ∧ b < w.heap.size) (fun b hb ⟨x, y⟩ => ⟨x, y, hb⟩)
    refine (h1.grown hg (fun b hb => hb.2.1)).mono (fun b _ ⟨x, y, z⟩ => ⟨x, ?_⟩)
    rcases hn with e | ⟨g, e, hge⟩
    · rw [e]; exact y
    · rw [e]; intro e2; cases e2; omega
  have hlen : xs.length = L.length := by simpa using h.own.1
  refine ⟨by simpa using ho, fun j m hj => ?_⟩
  by_cases hlt : j < L.length
  · rw [List.getElem?_append_left hlt] at hj
    obtain ⟨a2, c2, h1, h2, h3⟩ := h.elem j m hj
    exact ⟨a2, c2, by rw [List.getElem?_append_left (by omega)]; exact h1, key h2, h3⟩
  · rw [List.getElem?_append_right (by omega)] at hj
    have hj0 : j - L.length = 0 := by
      have := (List.getElem?_eq_some_iff.1 hj).1
      simp at this; omega
    rw [hj0] at hj
    simp at hj
    subst hj
    refine ⟨aj, cj, ?_, key (hI.mono (fun b _ hb => hG b hb)), hcj⟩
    rw [List.getElem?_append_right (by omega), show j - xs.length = 0 by omega]
    rfl
/-- .. and when it is made it reads as the rows. -/
theorem OwnSS.intss {w : World} {base E : Nat} {v : Value} {xs : List Value} {L : List (List Int)} (h : OwnSS w base E v xs L) (hl : L.length ≤ 9223372036854775807) :
    ∃ a c, v = .slice a L.length c ∧ Intss w (fun b => base ≤ b) a L := by
  rcases h.own.2 with ⟨rfl, hn⟩ | ⟨g, cap, cur, rfl, hb, hg, hnc, hcm, hcs, htake⟩
  · rw [hn]
    exact ⟨none, 0, rfl, by rw [List.eq_nil_of_length_eq_zero hn]; exact Intss.nil _ _ _⟩
  · refine ⟨_, cap, rfl, hl, .inr ⟨g, 0, rfl, hb, (Array.getElem?_eq_some_iff.1 hg).1, fun j l hj => ?_⟩⟩
    obtain ⟨aj, cj, h1, h2, h3⟩ := h.elem j l hj
    have := h.own.cells (g := g) rfl j _ h1
    exact ⟨aj, cj, by simpa [Addr.add_lit] using this, h2.mono (fun b _ hb => hb.1), h3⟩

theorem Try.info3 : (Try.prog.info? 3).map (fun i => (i.zero, i.size, i.bytes)) = some (some (.int .i64 0), 1, 8) := by kernel_rfl

theorem Try.info22 : (Try.prog.info? 22).map (fun i => (i.zero, i.size, i.bytes)) = some (some (.slice none 0 0), 1, 24) := by kernel_rfl

end Go.Proofs.Ythlmgejikbmmaaa

/-
  More laws for the walks: an append of a whole slice of integers to a row of the call's own.
-/
namespace Go.Proofs.Ythlmgejikbmmaaa
open Go.RowKit

theorem run_append_whatever {P : Program} (w : World) (base : Nat) (t ty e : TypeId) (i : TypeInfo) (z : Value) (size bytes : Nat) (ht : P.underlying t = some (.slice e)) (hi : P.info? e = some i) (hz : i.zero = some z)
    (hsize : i.size = size) (hby : i.bytes = bytes) (hzs : z.cells.size = size) (hsz : 0 < size)
    (v : Value) (n : Nat) (xs : List Value) (hown : w.ownsRow base e size v n xs)
    (a : Option Addr) (m c : Nat) (news : List Value) (hl : news.length = m * size) (ha : a = none → m = 0) (hnews : ∀ ad, a = some ad → ∀ j u, news[j]? = some u → w.cell? (ad.add j) = some u) (h1 : ∀ u ∈ news, u.oneCell' = true)
    (h63 : n + m ≤ maxLen) (hbytes : (n + m) * bytes ≤ 140737488355328) (hbase : base ≤ w.heap.size) :
    ∃ v' w', (Builtin.append_ #[t, t] ty #[v, .slice a m c]).run P w = .ok v' w' ∧ w'.ownsRow base e size v' (n + m) (xs ++ news) ∧ w.grownBy w' v.ownBlock ∧ Next w v v' := by
  cases a with
  | none =>
    obtain rfl := ha rfl
    have hnil : news = [] := List.eq_nil_of_length_eq_zero (by simpa using hl)
    subst hnil
    refine ⟨v, w, ?_, by simpa using hown, ⟨rfl, rfl, rfl, Nat.le_refl _, fun _ _ _ => rfl⟩, .inl rfl⟩
    rcases hown.2 with ⟨rfl, rfl⟩ | ⟨g, cap, cur, rfl, _, hg, hnc, _⟩
    · simp [Builtin.append_, run_underlying ht, sizeOf, typeInfo, hi, Builtin.lenOf, Builtin.firstCells]
    · simp [Builtin.append_, run_underlying ht, sizeOf, typeInfo, hi, Builtin.lenOf, Builtin.firstCells, hnc, storeCells]
  | some ad =>
    by_cases hm : 0 < m
    · exact run_append_next w base t ty e i z size bytes ht hi hz hsize hby hzs hsz v n xs hown ad m c news hl (hnews ad rfl) h1 hm h63 hbytes hbase
    · obtain rfl : m = 0 := by omega
      have hnil : news = [] := List.eq_nil_of_length_eq_zero (by simpa using hl)
      subst hnil
      refine ⟨v, w, ?_, by simpa using hown, ⟨rfl, rfl, rfl, Nat.le_refl _, fun _ _ _ => rfl⟩, .inl rfl⟩
      rcases hown.2 with ⟨rfl, rfl⟩ | ⟨g, cap, cur, rfl, _, hg, hnc, _⟩
      · simp [Builtin.append_, run_underlying ht, sizeOf, typeInfo, hi, Builtin.lenOf, Builtin.firstCells, loadCells, loadCellsFrom]
      · simp [Builtin.append_, run_underlying ht, sizeOf, typeInfo, hi, Builtin.lenOf, Builtin.firstCells, hnc, storeCells, loadCells, loadCellsFrom]

/-- 'v = append(v, x...)', v the call's own, x a slice of integers that reads as l. -/
theorem wpList_appInts {P : Program} {w : World} {ops : Array Oper} {rest : List Oper} {o : Oper} {a : Act} {Q : Exit → Act → World → Prop} (hgd : o.guard = none) (s x : Operand) (t : TypeId)
    (ho : o.op = .call { callee := .builtin .append, args := #[s, x], argTypes := #[t, t] })
    (base : Nat) (e : TypeId) (z : Value) (bytes : Nat) (ht : P.underlying t = some (.slice e)) (hinfo : (P.info? e).map (fun i => (i.zero, i.size, i.bytes)) = some (some z, 1, bytes)) (hz1 : z.cells.size = 1)
    (v : Value) (n : Nat) (xs : List Value) (hs : a.eval s = v) (hown : w.ownsRow base e 1 v n xs) {F : Nat → Prop} {ad : Option Addr} {l : List Int} (c : Nat) (hl : Ints w F ad l)
    (hx : a.eval x = .slice ad l.length c)
    (hbytes : (n + l.length) * bytes ≤ 140737488355328) (h63 : n + l.length ≤ maxLen) (hbase : base ≤ w.heap.size)
    (h : ∀ v' w', w'.ownsRow base e 1 v' (n + l.length) (xs ++ l.map (Value.int .i64)) → w.grownBy w' v.ownBlock → Next w v v' → wpList P ops Q rest (a.put o.dst v') w') :
    wpList P ops Q (o :: rest) a w := by
  refine wpList_plain hgd fun K hK => ?_
  obtain ⟨i, hi, hz, hsize, hby⟩ := info_parts hinfo
  obtain ⟨v', w', hr, h2, h3, h4⟩ := run_append_whatever (P := P) w base t o.type e i z 1 bytes ht hi hz hsize hby hz1 (by omega) v n xs hown ad l.length c (l.map (Value.int .i64)) (by simp)
    (by rintro rfl; rcases hl.row with rfl | ⟨_, _, h, _⟩ <;> simp_all) (by
      rintro x rfl j u hu
      rcases hl.row with rfl | ⟨b, off, hx, _, _, hc⟩
      · simp at hu
      · cases hx
        simp only [List.getElem?_map, Option.map_eq_some_iff] at hu
        obtain ⟨d, hd, rfl⟩ := hu
        rw [Addr.add_lit]
        exact hc j d hd) (ints_oneCell _ _) h63 hbytes hbase
  unfold Oper.wp execOp
  simp only [ho, resolve, invoke, builtin, Sem.run_bind, Sem.run_pure, Result.andThen_ok, List.map_toArray, List.map_cons, List.map_nil, hs, hx, hr]
  exact hK _ _ (h v' w' h2 h3 h4)

end Go.Proofs.Ythlmgejikbmmaaa

/-
  A region that draws its order, by an invariant over what is listed: each operation is shown once, whatever came before it. No program in sight.
-/
namespace Go.Proofs.Ythlmgejikbmmaaa
open Go.RowKit

section
variable {P : Program} {ops : Array Oper} {Q : Exit → Act → World → Prop} {md : Region.Mode}

theorem ready_unlisted {listed : Array Bool} {i : Nat} (h : i ∈ Region.ready md ops listed) : listed.getD i true = false := by
  unfold Region.ready at h
  have := (List.mem_filter.1 h).2
  simp only [Bool.and_eq_true, Bool.not_eq_true'] at this
  exact this.1
theorem count_step {listed : Array Bool} {i : Nat} (h : listed.getD i true = false) : (listed.setIfInBounds i true).toList.count false + 1 = listed.toList.count false := by
  have hi : i < listed.size := by
    rcases Nat.lt_or_ge i listed.size with h1 | h1
    · exact h1
    · simp [h1] at h
  have hv : listed.toList[i]'(by simpa using hi) = false := by simpa [hi] using h
  rw [Array.toList_setIfInBounds, List.count_set (by simpa using hi), hv]
  have hp : 0 < listed.toList.count false := by
    rw [List.count_pos_iff, ← hv]
    exact List.getElem_mem _
  rw [if_pos (by rfl), if_neg (by decide)]
  omega

/-- THE LAW: whatever order is picked. -/
theorem wpAny_inv (Inv : Array Bool → Act → World → Prop) (hdone : ∀ listed a w, Inv listed a w → Region.ready md ops listed = [] → Q .normal a w)
    (hstep : ∀ listed a w i, Inv listed a w → i ∈ Region.ready md ops listed → wpOp P ops Q i (fun a' w' => Inv (listed.setIfInBounds i true) a' w') a w) :
    ∀ (fuel : Nat) (listed : Array Bool) (a : Act) (w : World), Inv listed a w → listed.toList.count false ≤ fuel → wpAny P md ops Q fuel listed a w := by
  intro fuel
  induction fuel with
  | zero =>
    intro listed a w hI hc
    have hr : Region.ready md ops listed = [] := by
      rw [List.eq_nil_iff_forall_not_mem]
      intro i hi
      have := count_step (ready_unlisted hi)
      omega
    exact ⟨hr, hdone _ _ _ hI hr⟩
  | succ fuel ih =>
    intro listed a w hI hc
    refine ⟨fun hr => hdone _ _ _ hI hr, fun i hi => ?_⟩
    have h1 := count_step (ready_unlisted hi)
    exact wpOp_mono (fun a' w' h => ih _ a' w' h (by omega)) (hstep _ _ _ i hI hi)

/-- The beginning. -/
theorem wp_region_inv {id : Nat} {a : Act} {w : World} (hm : P.follows .mixedOrders = true) (Inv : Array Bool → Act → World → Prop) (h0 : Inv (Array.replicate ops.size false) a w.drew)
    (hdone : ∀ listed a w, Inv listed a w → Region.ready .any ops listed = [] → Q .normal a w)
    (hstep : ∀ listed a w i, Inv listed a w → i ∈ Region.ready .any ops listed → wpOp P ops Q i (fun a' w' => Inv (listed.setIfInBounds i true) a' w') a w) :
    (Code.region id ops true).wp P Q a w :=
  wp_region_any hm (wpAny_inv Inv hdone hstep _ _ _ _ h0 (by simp))
end

end Go.Proofs.Ythlmgejikbmmaaa

/-
  A region that draws its order, slot by slot: each operation is shown once, with what it waits for laid. No program in sight.
-/
namespace Go.Proofs.Ythlmgejikbmmaaa
open Go.RowKit

/-- The frame with the value g i in the slot of operation i. -/
def fillFrom : List Oper → Nat → (Nat → Value) → Act → Act
  | [], _, _, a => a
  | o :: l, k, g, a => fillFrom l (k + 1) g (a.put o.dst (g k))
/-- No slot is written twice. -/
def aparts : List Oper → Bool
  | [] => true
  | o :: l => (match o.dst with | none => true | some d => l.all fun p => !(p.dst == some d)) && aparts l
/-- Each waits for earlier ones alone. -/
def backs : List Oper → Nat → Bool
  | [], _ => true
  | o :: l, k => o.after.all (fun e => !Region.binds .any e || decide (e.on < k)) && backs l (k + 1)
def upd (g : Nat → Value) (i : Nat) (v : Value) : Nat → Value := fun j => if j = i then v else g j

section
theorem put_put (a : Act) (x : Option Tmp) (v u : Value) : (a.put x v).put x u = a.put x u := by
  cases x with
  | none => rfl
  | some d => simp [Act.put, Array.setIfInBounds_setIfInBounds]
theorem fillFrom_congr {g g' : Nat → Value} : ∀ (l : List Oper) (k : Nat) (a : Act), (∀ j, k ≤ j → g j = g' j) → fillFrom l k g a = fillFrom l k g' a := by
  intro l
  induction l with
  | nil => intro _ _ _; rfl
  | cons o l ih =>
    intro k a h
    simp only [fillFrom]
    rw [h k (Nat.le_refl _)]
    exact ih _ _ (fun j hj => h j (by omega))
theorem fillFrom_put {x : Option Tmp} {v : Value} {g : Nat → Value} : ∀ (l : List Oper) (k : Nat) (a : Act), (∀ d, x = some d → ∀ p ∈ l, p.dst ≠ some d) → (fillFrom l k g a).put x v = fillFrom l k g (a.put x v) := by
  intro l
  induction l with
  | nil => intro _ _ _; rfl
  | cons o l ih =>
    intro k a h
    simp only [fillFrom]
    rw [ih _ _ (fun d hd p hp => h d hd p (List.mem_cons_of_mem _ hp)), Act.put_comm a v (g k) (fun d hd => h d hd o List.mem_cons_self)]
theorem aparts_cons {o : Oper} {l : List Oper} (h : aparts (o :: l) = true) : (∀ d, o.dst = some d → ∀ p ∈ l, p.dst ≠ some d) ∧ aparts l = true := by
  unfold aparts at h
  rw [Bool.and_eq_true] at h
  refine ⟨fun d hd p hp e => ?_, h.2⟩
  have h1 := h.1
  rw [hd] at h1
  have h2 := List.all_eq_true.1 h1 p hp
  rw [e] at h2
  simp at h2
theorem fillFrom_upd {g : Nat → Value} {v : Value} : ∀ (l : List Oper) (k i : Nat) (a : Act), aparts l = true → i < l.length → (fillFrom l k g a).put ((l[i]?).bind (·.dst)) v = fillFrom l k (upd g (k + i) v) a := by
  intro l
  induction l with
  | nil => intro k i a _ hi; simp at hi
  | cons o l ih =>
    intro k i a ha hi
    obtain ⟨h1, h2⟩ := aparts_cons ha
    cases i with
    | zero =>
      simp only [fillFrom, List.getElem?_cons_zero, Option.bind_some, Nat.add_zero]
      rw [fillFrom_put l _ _ h1, put_put, fillFrom_congr (g' := upd g k v) l (k + 1) _ (fun j hj => by unfold upd; rw [if_neg (by omega)])]
      unfold upd
      rw [if_pos rfl]
    | succ i =>
      simp only [fillFrom, List.getElem?_cons_succ]
      rw [ih (k + 1) i _ h2 (by simpa using hi)]
      have e : k + 1 + i = k + (i + 1) := by omega
      rw [e]
      congr 2
      unfold upd
      rw [if_neg (by omega)]
theorem put_self (a : Act) (x : Option Tmp) : a.put x (match x with | some d => a.tmps.getD d undef | none => undef) = a := by
  cases x with
  | none => rfl
  | some d =>
    obtain ⟨t, df⟩ := a
    unfold Act.put
    simp only
    congr 1
    apply Array.ext_getElem?
    intro i
    rw [Array.getElem?_setIfInBounds]
    split
    · subst_vars
      split
      · simp [Array.getD_eq_getD_getElem?, *]
      · simp [*]
    · rfl
def slotsOf (ops : List Oper) (a : Act) : Nat → Value := fun i => match (ops[i]?).bind (·.dst) with | some d => a.tmps.getD d undef | none => undef
theorem fillFrom_self {a : Act} : ∀ (l : List Oper) (k : Nat) (g : Nat → Value), (∀ i, i < l.length → g (k + i) = slotsOf l a i) → fillFrom l k g a = a := by
  intro l
  induction l with
  | nil => intro _ _ _; rfl
  | cons o l ih =>
    intro k g h
    simp only [fillFrom]
    have h0 := h 0 (by simp)
    rw [Nat.add_zero] at h0
    have e : a.put o.dst (g k) = a := by
      rw [h0]
      unfold slotsOf
      simp only [List.getElem?_cons_zero, Option.bind_some]
      exact put_self a o.dst
    rw [e]
    exact ih _ _ (fun i hi => by
      have h1 := h (i + 1) (by simpa using hi)
      rw [show k + 1 + i = k + (i + 1) by omega, h1]
      unfold slotsOf
      simp)

variable {P : Program} {Q : Exit → Act → World → Prop}

/-- What operation i waits for is laid. -/
def Laid (G : Nat → Value → World → Prop) (g : Nat → Value) (w : World) : List Edge → Prop
  | [] => True
  | e :: es => (Region.binds .any e = true → G e.on (g e.on) w) ∧ Laid G g w es
theorem Laid.of {G : Nat → Value → World → Prop} {g : Nat → Value} {w : World} : ∀ (es : List Edge), (∀ e ∈ es, Region.binds .any e = true → G e.on (g e.on) w) → Laid G g w es := by
  intro es
  induction es with
  | nil => intro _; trivial
  | cons e es ih => intro h; exact ⟨h e List.mem_cons_self, ih (fun x hx => h x (List.mem_cons_of_mem _ hx))⟩

/-- What each operation must show. -/
def Shows (P : Program) (ops : Array Oper) (Q : Exit → Act → World → Prop) (a0 : Act) (fl : List Oper) (R : World → Prop) (S : World → World → Prop) (G : Nat → Value → World → Prop) : List Oper → Nat → Prop
  | [], _ => True
  | o :: l, i => (∀ g w, R w → Laid G g w o.after.toList → wpList P ops (Exit.then (fun a' w' => ∃ v, a' = (fillFrom fl 0 g a0).put o.dst v ∧ R w' ∧ S w w' ∧ G i v w') Q) [o] (fillFrom fl 0 g a0) w) ∧ Shows P ops Q a0 fl R S G l (i + 1)
theorem Shows.at {ops : Array Oper} {a0 : Act} {fl : List Oper} {R : World → Prop} {S : World → World → Prop} {G : Nat → Value → World → Prop} : ∀ (l : List Oper) (k : Nat), Shows P ops Q a0 fl R S G l k → ∀ i o, l[i]? = some o →
    ∀ g w, R w → Laid G g w o.after.toList → wpList P ops (Exit.then (fun a' w' => ∃ v, a' = (fillFrom fl 0 g a0).put o.dst v ∧ R w' ∧ S w w' ∧ G (k + i) v w') Q) [o] (fillFrom fl 0 g a0) w := by
  intro l
  induction l with
  | nil => intro k _ i o h; simp at h
  | cons p l ih =>
    intro k h i o ho
    cases i with
    | zero => simp at ho; subst ho; exact h.1
    | succ i =>
      have := ih (k + 1) h.2 i o (by simpa using ho)
      rw [show k + (i + 1) = k + 1 + i by omega]
      exact this

theorem upon_then {o : Oper} {a : Act} {K : Act → World → Prop} {r : Result Go.Next} {K' : Act → World → Prop} (hK : ∀ a w, K' a w → K a w) (h : o.upon P a K' (Exit.then K Q) r) : o.upon P a K Q r := by
  cases r with
  | ok n w =>
    cases n <;> simp only [Oper.upon] at h ⊢ <;> first
      | exact hK _ _ h
      | exact Calls.mono h (fun e w'' he => by
          cases e
          · exact hK _ _ he
          · exact he
          · exact he)
      | exact Rows.mono h (fun _ _ he => hK _ _ he)
  | halt x w => cases x <;> simp only [Oper.upon] at h ⊢ <;> exact h
theorem wpList_then {ops : Array Oper} {o : Oper} {a : Act} {w : World} (h : wpList P ops Q [o] a w) : wpList P ops (Exit.then (Q .normal) Q) [o] a w := by
  have e : Exit.then (Q .normal) Q = Q := by funext e a w; cases e <;> rfl
  rw [e]; exact h
theorem wpOp_of_list {ops : Array Oper} {K : Act → World → Prop} {i : Nat} {o : Oper} (ho : ops[i]? = some o) {a : Act} {w : World} (h : wpList P ops (Exit.then K Q) [o] a w) : wpOp P ops Q i K a w := by
  unfold wpOp
  rw [ho]
  simp only
  unfold wpList at h
  split
  · rename_i hw
    rw [if_pos hw] at h
    rcases h with h | ⟨h1, h2⟩
    · exact .inl (upon_then (fun _ _ h => h) h)
    · exact .inr ⟨h1, h2⟩
  · rename_i hw
    rw [if_neg hw] at h
    exact h

theorem backs_at : ∀ (l : List Oper) (k : Nat), backs l k = true → ∀ i o, l[i]? = some o → ∀ e ∈ o.after, Region.binds .any e = true → e.on < k + i := by
  intro l
  induction l with
  | nil => intro k _ i o h; simp at h
  | cons p l ih =>
    intro k h i o ho e he hb
    unfold backs at h
    rw [Bool.and_eq_true] at h
    cases i with
    | zero =>
      simp at ho
      subst ho
      have h1 := Array.all_eq_true_iff_forall_mem.1 h.1 e he
      rw [hb] at h1
      simpa using h1
    | succ i =>
      have := ih (k + 1) h.2 i o (by simpa using ho) e he hb
      omega
theorem all_listed {ops : Array Oper} {listed : Array Bool} (hs : listed.size = ops.size) (hbk : backs ops.toList 0 = true) (hr : Region.ready .any ops listed = []) : ∀ i, i < ops.size → listed.getD i false = true := by
  intro i
  induction i using Nat.strongRecOn with
  | _ i ih =>
    intro hi
    cases hc : listed.getD i false with
    | true => rfl
    | false =>
      exfalso
      have hc2 : listed.getD i true = false := by
        have hl : i < listed.size := by omega
        simpa [hl] using hc
      have : i ∈ Region.ready .any ops listed := mem_ready.2 ⟨hc2, ops[i], Array.getElem?_eq_getElem hi, fun e he hb => by
        have hlt := backs_at _ _ hbk i ops[i] (by simp [hi]) e he hb
        rw [Nat.zero_add] at hlt
        exact ih _ hlt (by omega)⟩
      rw [hr] at this
      simp at this

/-- Each operation but the last is waited for by a later one. -/
def usedBy (ops : Array Oper) (n i : Nat) : Bool := (List.range n).any fun k => decide (i < k) && (ops.getD k default).after.toList.any fun e => Region.binds .any e && e.on == i
def usedAll (ops : Array Oper) : Bool := (List.range (ops.size - 1)).all fun i => usedBy ops ops.size i
theorem usedAll_at {ops : Array Oper} (h : usedAll ops = true) {i : Nat} (hi : i + 1 < ops.size) : ∃ (k : Nat) (o : Oper), i < k ∧ ops[k]? = some o ∧ ∃ e ∈ o.after, Region.binds .any e = true ∧ e.on = i := by
  have h1 := List.all_eq_true.1 h i (List.mem_range.2 (by omega))
  obtain ⟨k, hk, h2⟩ := List.any_eq_true.1 h1
  rw [List.mem_range] at hk
  rw [Bool.and_eq_true, decide_eq_true_eq] at h2
  obtain ⟨e, he, h3⟩ := List.any_eq_true.1 h2.2
  rw [Bool.and_eq_true, beq_iff_eq] at h3
  have e1 : ops.getD k default = ops[k] := by simp [hk]
  rw [e1, Array.mem_toList_iff] at he
  exact ⟨k, ops[k], h2.1, Array.getElem?_eq_getElem hk, e, he, h3.1, h3.2⟩
/-- The last is ready when all others are listed. -/
theorem last_ready {ops : Array Oper} {listed : Array Bool} (hu : usedAll ops = true) (hc : ∀ i o, ops[i]? = some o → listed.getD i false = true → ∀ e ∈ o.after, Region.binds .any e = true → listed.getD e.on false = true)
    (hr : ops.size - 1 ∈ Region.ready .any ops listed) : ∀ i, i + 1 < ops.size → listed.getD i false = true := by
  have key : ∀ m i, ops.size - 1 - i = m → i + 1 < ops.size → listed.getD i false = true := by
    intro m
    induction m using Nat.strongRecOn with
    | _ m ih =>
      intro i hm hi
      obtain ⟨k, o, hik, ho, e, he, hb, rfl⟩ := usedAll_at hu hi
      have hk := (Array.getElem?_eq_some_iff.1 ho).1
      by_cases hl : k + 1 < ops.size
      · exact hc k o ho (ih (ops.size - 1 - k) (by omega) k rfl hl) e he hb
      · obtain rfl : k = ops.size - 1 := by omega
        obtain ⟨_, o', ho', hd⟩ := mem_ready.1 hr
        rw [ho] at ho'
        cases ho'
        exact hd e he hb
  exact fun i hi => key _ i rfl hi

/-- The values of the operations but the last, laid. -/
def LaidAll (G : Nat → Value → World → Prop) (g : Nat → Value) (w : World) : Nat → Prop
  | 0 => True
  | n + 1 => LaidAll G g w n ∧ G n (g n) w
theorem LaidAll.of {G : Nat → Value → World → Prop} {g : Nat → Value} {w : World} : ∀ (n : Nat), (∀ i, i < n → G i (g i) w) → LaidAll G g w n := by
  intro n
  induction n with
  | zero => intro _; trivial
  | succ n ih => intro h; exact ⟨ih (fun i hi => h i (by omega)), h n (by omega)⟩

/-- THE LAW: all but the last in whatever order, each shown once; the last behind them all. -/
theorem wp_region_slots {init : List Oper} {last : Oper} {id : Nat} {a : Act} {w : World} (hm : P.follows .mixedOrders = true) (hap : aparts init = true) (hbk : backs (init ++ [last]) 0 = true) (hus : usedAll (init ++ [last]).toArray = true) (R : World → Prop) (S : World → World → Prop) (G : Nat → Value → World → Prop)
    (hG : ∀ i v w w', G i v w → S w w' → G i v w') (h0 : R w.drew) (hshow : Shows P (init ++ [last]).toArray Q a init R S G init 0)
    (hlast : ∀ (g : Nat → Value) (w' : World), R w' → LaidAll G g w' init.length → wpList P (init ++ [last]).toArray Q [last] (fillFrom init 0 g a) w') : (Code.region id (init ++ [last]).toArray true).wp P Q a w := by
  have hsz : (init ++ [last]).toArray.size = init.length + 1 := by simp
  refine wp_region_inv hm (fun listed a' w' => listed.size = init.length + 1 ∧ (∀ i o, (init ++ [last]).toArray[i]? = some o → listed.getD i false = true → ∀ e ∈ o.after, Region.binds .any e = true → listed.getD e.on false = true) ∧
    ((listed.getD init.length false = false ∧ ∃ g, a' = fillFrom init 0 g a ∧ R w' ∧ ∀ i, i < init.length → listed.getD i false = true → G i (g i) w') ∨ ((∀ i, i < init.length + 1 → listed.getD i false = true) ∧ Q .normal a' w'))) ?_ ?_ ?_
  · have hrep : ∀ i, (Array.replicate (init ++ [last]).toArray.size false).getD i false = false := by
      intro i
      simp only [Array.getD_eq_getD_getElem?, Array.getElem?_replicate]
      split <;> rfl
    refine ⟨by simp, ?_, .inl ⟨hrep _, slotsOf init a, (fillFrom_self _ _ _ (fun i _ => by rw [Nat.zero_add])).symm, h0, ?_⟩⟩
    · intro i o _ hi; rw [hrep] at hi; cases hi
    · intro i _ hi; rw [hrep] at hi; cases hi
  · rintro listed a' w' ⟨hs, hc, ⟨hl, _⟩ | ⟨_, hq⟩⟩ hr
    · have := all_listed (by rw [hs, hsz]) hbk hr init.length (by rw [hsz]; omega)
      rw [this] at hl
      cases hl
    · exact hq
  · rintro listed a' w' i ⟨hs, hc, hI⟩ hi
    obtain ⟨hu, o, ho, hdep⟩ := mem_ready.1 hi
    have hlt : i < init.length + 1 := by have := (Array.getElem?_eq_some_iff.1 ho).1; rw [hsz] at this; exact this
    have hclo : ∀ k o', (init ++ [last]).toArray[k]? = some o' → (listed.setIfInBounds i true).getD k false = true → ∀ e ∈ o'.after, Region.binds .any e = true → (listed.setIfInBounds i true).getD e.on false = true := by
      have hup : ∀ j, listed.getD j false = true → (listed.setIfInBounds i true).getD j false = true := by
        intro j hj
        by_cases hij : i = j
        · subst hij
          simp [Array.getD_eq_getD_getElem?, Array.getElem?_setIfInBounds, hs, hlt]
        · rw [getD_set_ne _ hij]; exact hj
      intro k o' ho' hk e he hb
      by_cases hik : i = k
      · subst hik
        rw [ho] at ho'
        cases ho'
        exact hup _ (hdep e he hb)
      · rw [getD_set_ne _ hik] at hk
        exact hup _ (hc k o' ho' hk e he hb)
    rcases hI with ⟨hl, g, rfl, hR, hall⟩ | ⟨hall, _⟩
    · by_cases hil : i = init.length
      · subst hil
        have e0 : o = last := by simp at ho; exact ho.symm
        subst e0
        have hA : ∀ j, j < init.length → listed.getD j false = true := fun j hj => last_ready hus hc (by rw [hsz]; exact hi) j (by rw [hsz]; omega)
        have hs1 := hlast g w' hR (LaidAll.of _ fun j hj => hall j hj (hA j hj))
        refine wpOp_mono ?_ (wpOp_of_list ho (K := Q .normal) (wpList_then hs1))
        intro a2 w2 hq
        refine ⟨by simp [hs], hclo, .inr ⟨fun j hj => ?_, hq⟩⟩
        by_cases hij : init.length = j
        · subst hij
          simp [Array.getD_eq_getD_getElem?, Array.getElem?_setIfInBounds, hs]
        · rw [getD_set_ne _ hij]; exact hA j (by omega)
      · have hil' : i < init.length := by omega
        have ho' : init[i]? = some o := by
          rw [List.getElem?_toArray, List.getElem?_append_left hil'] at ho
          exact ho
        have hL : Laid G g w' o.after.toList := Laid.of _ fun e he hb => hall _ (by
          have := backs_at _ _ hbk i o (by simpa using ho) e (by simpa using he) hb
          omega) (hdep e (by simpa using he) hb)
        have hs1 := hshow.at _ _ i o ho' g w' hR hL
        rw [Nat.zero_add] at hs1
        refine wpOp_mono ?_ (wpOp_of_list ho hs1)
        rintro a2 w2 ⟨v, rfl, hR2, hS2, hG2⟩
        refine ⟨by simp [hs], hclo, .inl ⟨by rw [getD_set_ne _ hil]; exact hl, upd g i v, ?_, hR2, fun j hjl hj => ?_⟩⟩
        · have := fillFrom_upd (g := g) (v := v) init 0 i a hap hil'
          rw [Nat.zero_add] at this
          rw [← this]
          simp [ho']
        · by_cases hij : j = i
          · subst hij; unfold upd; rw [if_pos rfl]; exact hG2
          · unfold upd; rw [if_neg hij]
            refine hG _ _ _ _ (hall j hjl ?_) hS2
            rw [getD_set_ne _ (Ne.symm hij)] at hj
            exact hj
    · exfalso
      have h1 := hall i hlt
      rw [Array.getD_eq_getD_getElem?] at h1 hu
      cases hx : listed[i]? with
      | none => rw [hx] at h1; cases h1
      | some b => rw [hx] at h1 hu; simp at h1 hu; rw [h1] at hu; cases hu
/-- .. at a literal region. -/
theorem wp_region_slots_lit {l : List Oper} {id : Nat} {a : Act} {w : World} (hm : P.follows .mixedOrders = true) (hl : l = l.dropLast ++ [l.getLastD default]) (hap : aparts l.dropLast = true) (hbk : backs l 0 = true) (hus : usedAll l.toArray = true) (R : World → Prop) (S : World → World → Prop) (G : Nat → Value → World → Prop)
    (hG : ∀ i v w w', G i v w → S w w' → G i v w') (h0 : R w.drew) (hshow : ∀ ops, Shows P ops Q a l.dropLast R S G l.dropLast 0)
    (hlast : ∀ ops (g : Nat → Value) (w' : World), R w' → LaidAll G g w' l.dropLast.length → wpList P ops Q [l.getLastD default] (fillFrom l.dropLast 0 g a) w') : (Code.region id l.toArray true).wp P Q a w := by
  have h1 := wp_region_slots (P := P) (Q := Q) (init := l.dropLast) (last := l.getLastD default) (id := id) (a := a) (w := w) hm hap (by rw [← hl]; exact hbk) (by rw [← hl]; exact hus) R S G hG h0 (hshow _) (hlast _)
  rw [← hl] at h1
  exact h1
end

end Go.Proofs.Ythlmgejikbmmaaa
