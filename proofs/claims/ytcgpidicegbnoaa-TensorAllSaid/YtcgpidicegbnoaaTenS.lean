/-
  Rows of rows of the call's own while a range over a function runs; the append of a row inside a fence.
-/
import Derived.Test.YtcgpidicegbnoaaTenR
import Derived.Test.YtcgpidicegbnoaaColE
namespace Go.Proofs.Ytcgpidicegbnoaa
open Go.RowKit Go.Shelf

/-- What is no block of cells may turn. -/
theorem Ints.other {A B : World} {F : Nat → Prop} {a : Option Addr} {l : List Int} {row : Option Nat} (h : Ints A F a l) (hg : A.grownBy B row) (hr : ∀ r, row = some r → ∃ o : Obj, A.heap[r]? = some o ∧ o.isCells = false) : Ints B F a l := by
  refine ⟨h.wf, h.len, ?_⟩
  rcases h.row with rfl | ⟨b, off, rfl, hF, hb, hc⟩
  · exact .inl rfl
  · by_cases h0 : l = []
    · exact .inl h0
    · have hl : 0 < l.length := List.length_pos_iff.2 h0
      have hc0 := hc 0 l[0] (List.getElem?_eq_getElem hl)
      have hne : row ≠ some b := by
        intro e
        obtain ⟨o, ho, hno⟩ := hr b e
        cases o with
        | cells _ _ _ => cases hno
        | _ => simp [World.cell?, ho] at hc0
      exact .inr ⟨b, off, rfl, hF, Nat.lt_of_lt_of_le hb hg.size, fun j d hj => (World.cell?_of_block (w := A) (hg.block b hb (fun e => hne e.symm))).trans (hc j d hj)⟩

theorem OwnSS.other {A B : World} {base E : Nat} {v : Value} {xs : List Value} {L : List (List Int)} {row : Option Nat} (h : OwnSS A base E v xs L) (hg : A.grownBy B row) (hr : ∀ r, row = some r → ∃ o : Obj, A.heap[r]? = some o ∧ o.isCells = false) :
    OwnSS B base E v xs L := by
  refine ⟨h.own.kept hg ?_, fun j l hj => let ⟨aj, cj, h1, h2, h3⟩ := h.elem j l hj; ⟨aj, cj, h1, h2.other hg hr, h3⟩⟩
  rcases h.own.2 with ⟨rfl, hn⟩ | ⟨g, cap, cur, rfl, hb, hgb, _⟩
  · exact .inl rfl
  · refine .inr fun e => ?_
    have e' : row = some g := e.symm
    obtain ⟨o, ho, hno⟩ := hr g e'
    rw [hgb] at ho
    cases ho
    cases hno

/-- 'v = append(v, u)' inside a fence, v the call's own, u of one cell: behind the making of u's row. -/
theorem wpListIn_app1 {F : Fence} {nf : Nat} {P : Program} {w : World} {ops : Array Oper} {rest : List Oper} {o : Oper} {a : Act} {Q : Exit → Act → World → Prop} (hgd : o.guard = none) (s x : Operand) (t : TypeId)
    (ho : o.op = .call { callee := .builtin .append, args := #[s, x], argTypes := #[t, t] })
    (base : Nat) (e : TypeId) (z : Value) (bytes : Nat) (ht : P.underlying t = some (.slice e)) (hinfo : (P.info? e).map (fun i => (i.zero, i.size, i.bytes)) = some (some z, 1, bytes)) (hz1 : z.cells.size = 1)
    (v : Value) (n : Nat) (xs : List Value) (hs : a.eval s = v) (hown : w.ownsRow base e 1 v n xs) (u : Value) (hu : u.oneCell' = true)
    (hx : a.eval x = .slice (some ⟨w.heap.size, 0, none⟩) 1 1)
    (hbytes : (n + 1) * bytes ≤ 140737488355328) (h63 : n + 1 ≤ maxLen) (hbase : base ≤ w.heap.size)
    (h : ∀ v' w', w'.ownsRow base e 1 v' (n + 1) (xs ++ [u]) → w.grownBy w' v.ownBlock → Next w v v' → wpListIn F nf P ops Q rest (a.put o.dst v') w') :
    wpListIn F nf P ops Q (o :: rest) a (w.alloc (.cells #[u] e)) := by
  refine wpListIn_plain hgd fun K hK => ?_
  obtain ⟨i, hi, hz, hsize, hby⟩ := info_parts hinfo
  obtain ⟨v', w', hr, h2, h3, h4⟩ := run_append_next (P := P) (w.alloc (.cells #[u] e)) base t o.type e i z 1 bytes ht hi hz hsize hby hz1 (by omega) v n xs (hown.alloc _) ⟨w.heap.size, 0, none⟩ 1 1 [u] rfl
    (by intro j y hj; match j, hj with | 0, hj => simp at hj; subst hj; simp [Addr.add]) (by intro y hy; simp at hy; subst hy; exact hu) (by omega) h63 hbytes (by simp; omega)
  unfold Oper.wpIn
  refine ⟨?_, ?_⟩
  · simp [Oper.about, ho, resolve, Target.leads, Sem.run_pure]
  · rw [Oper.semAt_plain F _ _ (by rw [ho]; intro c hc'; cases hc')]
    simp only [execOp, ho, resolve, invoke, builtin, Sem.run_bind, Sem.run_pure, Result.andThen_ok, List.map_toArray, List.map_cons, List.map_nil, hs, hx, hr]
    refine hK _ _ (h v' w' h2 ?_ ?_)
    · have h0 := World.grownBy_alloc w (.cells #[u] e) v.ownBlock
      exact ⟨h3.os.trans h0.os, h3.tape.trans h0.tape, h3.output.trans h0.output, Nat.le_trans h0.size h3.size, fun k hk hne => (h3.block k (by simp; omega) hne).trans (h0.block k hk hne)⟩
    · exact h4.imp id (fun ⟨g, hg, hle⟩ => ⟨g, hg, by simp at hle; omega⟩)

/-- What lies below the rows may turn. -/
theorem OwnSS.high {A C : World} {base E : Nat} {v : Value} {xs : List Value} {L : List (List Int)} (h : OwnSS A base E v xs L) (hs : A.heap.size ≤ C.heap.size) (hb : ∀ b, base ≤ b → C.heap[b]? = A.heap[b]?) : OwnSS C base E v xs L :=
  ⟨⟨h.own.1, h.own.2.imp id (fun ⟨g, cap, cur, hv, hg, hgb, hr⟩ => ⟨g, cap, cur, hv, hg, (hb g hg).trans hgb, hr⟩)⟩,
    fun j l hj => let ⟨aj, cj, h1, h2, h3⟩ := h.elem j l hj; ⟨aj, cj, h1, h2.frame hs (fun b hF _ => hb b hF.1), h3⟩⟩

/-- The rows that have been kept after k rounds. -/
def rowsL (l : List Int) (k : Nat) : List (List Int) := (List.range k).map fun j : Nat => (coordsFrom l (j : Int)).2
theorem rowsL_len (l : List Int) (k : Nat) : (rowsL l k).length = k := by simp [rowsL]
theorem rowsL_succ (l : List Int) (k : Nat) : rowsL l (k + 1) = rowsL l k ++ [(coordsFrom l (k : Int)).2] := by simp [rowsL, List.range_succ]
theorem rowsL_get (l : List Int) {k j : Nat} (hj : j < k) : (rowsL l k)[j]? = some (coordsFrom l (j : Int)).2 := by simp [rowsL, hj]

/-- The counter, the header of what is kept, and what is kept. B: the counter's block. -/
def Kept (l : List Int) (B : Nat) (k : Nat) (W : World) : Prop :=
  B + 3 ≤ W.heap.size ∧ W.heap[B]? = some (.cells #[.int .i64 (k : Int)] 3 (0, 0)) ∧ ∃ v xs, W.heap[B + 1]? = some (.cells #[v] 31 (0, 0)) ∧ OwnSS W (B + 3) 22 v xs (rowsL l k)

theorem Kept.own {l : List Int} {B : Nat} : ∀ (k : Nat) (A C : World) (row : Option Nat), Kept l B k A → A.grownBy C row → (∀ r, row = some r → ∃ o : Obj, A.heap[r]? = some o ∧ o.isCells = false) → Kept l B k C := by
  rintro k A C row ⟨h0, h1, v, xs, h2, h3⟩ hg hr
  exact ⟨Nat.le_trans h0 hg.size, own_block A C row h1 hg hr, v, xs, own_block A C row h2 hg hr, h3.other hg hr⟩

end Go.Proofs.Ytcgpidicegbnoaa
