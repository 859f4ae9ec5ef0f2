/-
  Layer 53's plain law: the matrix of windows and the groups of a pooling, as lists.
-/
import Derived.Test.YtcgpidicegbnoaaTenO
namespace Go.Proofs.Ytcgpidicegbnoaa
open Go.RowKit

def gatherOf (L : List (List Int)) : List Int := (List.range (L.getD 0 []).length).flatMap fun r => (List.range L.length).map fun c => (L.getD c []).getD r 0
def gatherL (l : List Int) (kind kh kw s p : Int) : List Int × Int × Int × Int :=
  if kind ≠ 2 then ([], 0, 0, 1) else if (windowsL l kh kw s p).2.2.2 ≠ 0 then ([], 0, 0, (windowsL l kh kw s p).2.2.2)
  else (gatherOf (windowsL l kh kw s p).1, (((windowsL l kh kw s p).1.getD 0 []).length : Int), ((windowsL l kh kw s p).1.length : Int), 0)
def poolOf (L : List (List Int)) (C n : Nat) : List Int := (List.range C).flatMap fun ch => L.flatMap fun x => (x.drop (ch * n)).take n
def poolL (l : List Int) (kind kh kw s : Int) : List Int × Int × Int :=
  if kind ≠ 3 ∧ kind ≠ 4 then ([], 0, 1) else if (windowsL l kh kw s 0).2.2.2 ≠ 0 then ([], 0, (windowsL l kh kw s 0).2.2.2)
  else (poolOf (windowsL l kh kw s 0).1 (l.getD 0 0).toNat (kh.toNat * kw.toNat), kh * kw, 0)

theorem gatherL_kind {l : List Int} {kind kh kw s p : Int} (h : kind ≠ 2) : gatherL l kind kh kw s p = ([], 0, 0, 1) := by simp [gatherL, h]
theorem gatherL_err {l : List Int} {kh kw s p e : Int} (h : windowsL l kh kw s p = ([], 0, 0, e)) (he : e ≠ 0) : gatherL l 2 kh kw s p = ([], 0, 0, e) := by simp [gatherL, h, he]
theorem gatherL_ok {l : List Int} {kh kw s p : Int} {q : Win} (hq : q.Ok) (h : windowsL l kh kw s p = (q.all, (q.R : Int), (q.Q : Int), 0)) :
    gatherL l 2 kh kw s p = (gatherOf q.all, ((q.one 0 0).length : Int), (q.all.length : Int), 0) := by
  simp [gatherL, h, List.getD, hq.first]

theorem gatherOf_eq {q : Win} (hq : q.Ok) : gatherOf q.all = (List.range (q.one 0 0).length).flatMap fun r => (List.range q.all.length).map fun c => (q.all.getD c []).getD r 0 := by
  simp [gatherOf, List.getD, hq.first]
theorem gather_len {q : Win} (hq : q.Ok) : (gatherOf q.all).length = (q.one 0 0).length * q.all.length := by
  rw [gatherOf_eq hq]; exact flat_len _ _ _ (fun i _ => by simp)
theorem gather_get {q : Win} (hq : q.Ok) {r c : Nat} (hr : r < (q.one 0 0).length) (hc : c < q.all.length) {x : List Int} {d : Int} (hx : q.all[c]? = some x) (hd : x[r]? = some d) :
    (gatherOf q.all)[r * q.all.length + c]? = some d := by
  rw [gatherOf_eq hq, flat_get _ _ _ r c (fun i _ => by simp) hr hc]
  have hx' : q.all.getD c [] = x := by simp [List.getD, hx]
  simp only [List.getElem?_map, List.getElem?_range hc, Option.map_some, hx']
  simp [List.getD, hd]
theorem all_one_len (q : Win) {c : Nat} {x : List Int} (hx : q.all[c]? = some x) : x.length = (q.one 0 0).length := by
  have hlt : c < q.all.length := (List.getElem?_eq_some_iff.1 hx).1
  obtain ⟨_, _, _, h⟩ := q.all_pos hlt
  rw [hx] at h
  rw [Option.some.inj h, q.one_len, q.one_len]
theorem gather_wf {q : Win} (hq : q.Ok) : ∀ x ∈ gatherOf q.all, -1 ≤ x ∧ x < 16384 := by
  intro x hx
  rw [gatherOf_eq hq] at hx
  simp only [List.mem_flatMap, List.mem_map, List.mem_range] at hx
  obtain ⟨r, hr, c, hc, rfl⟩ := hx
  obtain ⟨_, _, _, h⟩ := q.all_pos hc
  have hl : r < (q.one (c / q.Q) (c % q.Q)).length := by rw [q.one_len]; rw [q.one_len] at hr; exact hr
  have hg : (q.one (c / q.Q) (c % q.Q))[r]? = some (q.one (c / q.Q) (c % q.Q))[r] := List.getElem?_eq_getElem hl
  simp only [List.getD, h, Option.getD_some, hg]
  exact hq.one_bd _ _ _ (List.getElem_mem hl)

/-- A row that is filled from its head. -/
def fillRow (G : List Int) (k : Nat) : List Int := G.take k ++ List.replicate (G.length - k) 0
theorem fillRow_zero (G : List Int) : fillRow G 0 = List.replicate G.length 0 := by simp [fillRow]
theorem fillRow_all (G : List Int) : fillRow G G.length = G := by simp [fillRow]
theorem fillRow_len (G : List Int) {k : Nat} (hk : k ≤ G.length) : (fillRow G k).length = G.length := by simp [fillRow]; omega
theorem fillRow_set {G : List Int} {k : Nat} {d : Int} (hd : G[k]? = some d) : (fillRow G k).set k d = fillRow G (k + 1) := by
  have hk : k < G.length := (List.getElem?_eq_some_iff.1 hd).1
  unfold fillRow
  have h1 : (G.take k).length = k := by simp; omega
  rw [List.set_append_right _ _ (by omega), h1, Nat.sub_self, List.take_add_one, hd, show G.length - k = (G.length - (k + 1)) + 1 by omega, List.replicate_succ]
  simp

/-- A layer as the value of a parameter. -/
abbrev layerV (kind fr o kh kw s p : Int) (aw : Option Addr) (nw cw : Nat) (ab : Option Addr) (nb cb : Nat) : Value :=
  .agg #[.int .i64 kind, .int .i64 fr, .int .i64 o, .int .i64 kh, .int .i64 kw, .int .i64 s, .int .i64 p, .slice aw nw cw, .slice ab nb cb]

/-- Gather's contract. -/
def GatherPost (w : World) (R : List Int × Int × Int × Int) (e : Ending) (w' : World) : Prop :=
  ∃ a c, e = .returned (.tuple #[.slice a R.1.length c, .int .i64 R.2.1, .int .i64 R.2.2.1, .int .i64 R.2.2.2]) ∧ Ints w' (fun b => w.heap.size ≤ b) a R.1 ∧ Below w.heap.size w w'
theorem gatherPost_err {w w' : World} {R : List Int × Int × Int × Int} {e : Int} (h : R = ([], 0, 0, e)) (hb : Below w.heap.size w w') :
    GatherPost w R (.returned (.tuple #[.slice none 0 0, .int .i64 0, .int .i64 0, .int .i64 e])) w' := by
  subst h; exact ⟨none, 0, rfl, Ints.nil _ _ _, hb⟩
/-- Pool's contract. -/
def PoolPost (w : World) (R : List Int × Int × Int) (e : Ending) (w' : World) : Prop :=
  ∃ a c, e = .returned (.tuple #[.slice a R.1.length c, .int .i64 R.2.1, .int .i64 R.2.2]) ∧ Ints w' (fun b => w.heap.size ≤ b) a R.1 ∧ Below w.heap.size w w'
theorem poolPost_err {w w' : World} {R : List Int × Int × Int} {e : Int} (h : R = ([], 0, e)) (hb : Below w.heap.size w w') :
    PoolPost w R (.returned (.tuple #[.slice none 0 0, .int .i64 0, .int .i64 e])) w' := by
  subst h; exact ⟨none, 0, rfl, Ints.nil _ _ _, hb⟩

end Go.Proofs.Ytcgpidicegbnoaa
