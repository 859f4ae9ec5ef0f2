/-
  Contracts of the functions that the statements reach, in the order in which they are built: ModAp, ModAq.
-/
import Derived.Test.YthlmgejikbmmaaaS31
import Derived.Test.YthlmgejikbmmaaaS33
set_option linter.unusedVariables false
set_option linter.unusedSimpArgs false
set_option linter.constructorNameAsVariable false
set_option linter.deprecated false

/-
  A row of layers as a source of an append, and the row that the append leaves. No function in sight.
-/
namespace Go.Proofs.Ythlmgejikbmmaaa
open Go.RowKit

theorem bal {W w : World} (h : Below W.heap.size W w) (o : Obj) : Below W.heap.size W (w.alloc o) := h.alloc h.size o
theorem srcOK_heap {w : World} {g T : Nat} {c : List Value} (h : w.heap[g]? = some (.cells c.toArray T (0, 0))) (h9 : c.length = 9) (h1 : ∀ u ∈ c, u.oneCell' = true) : SrcOK w (some ⟨g, 0, none⟩) 1 9 c := by
  refine ⟨by omega, h1, fun _ => ⟨g, 0, rfl, (Array.getElem?_eq_some_iff.1 h).1, fun j u hj => ?_⟩⟩
  simp [World.cell?, h]
  simpa using hj
theorem flat9_inv : ∀ {CL : List (List Value)} {k : Nat} {u : Value}, (∀ c ∈ CL, c.length = 9) → CL.flatten[k]? = some u → ∃ c, CL[k / 9]? = some c ∧ c[k % 9]? = some u := by
  intro CL
  induction CL with
  | nil => intro k u _ h; simp at h
  | cons d r ih =>
    intro k u h9 h
    have hd := h9 d (by simp)
    rw [List.flatten_cons] at h
    by_cases hk : k < 9
    · rw [List.getElem?_append_left (by omega)] at h
      exact ⟨d, by rw [Nat.div_eq_of_lt hk]; rfl, by rw [Nat.mod_eq_of_lt hk]; exact h⟩
    · rw [List.getElem?_append_right (by omega), hd] at h
      obtain ⟨c, e1, e2⟩ := ih (fun c hc => h9 c (by simp [hc])) h
      refine ⟨c, ?_, ?_⟩
      · rw [show k / 9 = (k - 9) / 9 + 1 by omega]; simpa using e1
      · rw [show k % 9 = (k - 9) % 9 by omega]; exact e2
/-- What is known of the cells of a row of layers. -/
structure Lays9 (w : World) (CL : List (List Value)) (L : List LayL) : Prop where
  len : CL.length = L.length
  nine : ∀ c ∈ CL, c.length = 9
  row : ∀ (j : Nat) (c : List Value) (l : LayL), CL[j]? = some c → L[j]? = some l → ∃ a1 a2 c1 c2, c = layC l a1 a2 c1 c2 ∧ RatsAt w a1 l.weights ∧ RatsAt w a2 l.bias
theorem LaysAt.src {w : World} {a : Option Addr} {L : List LayL} (h : LaysAt w a L) : ∃ CL, Lays9 w CL L ∧ SrcOK w a L.length 9 CL.flatten := by
  rcases h.row with rfl | ⟨b, off, rfl, hb, hc⟩
  · exact ⟨[], ⟨rfl, by simp, by simp⟩, ⟨by simp, by simp, by simp⟩⟩
  · have hcell : ∀ j, ∃ c : List Value, ∀ l, L[j]? = some l → ∃ a1 a2 c1 c2, c = layC l a1 a2 c1 c2 ∧ RatsAt w a1 l.weights ∧ RatsAt w a2 l.bias ∧ ∀ (i : Nat) (u : Value), c[i]? = some u → w.cell? ⟨b, off + j * 9 + i, none⟩ = some u := by
      intro j
      cases hj : L[j]? with
      | none => exact ⟨[], fun l h => by cases h⟩
      | some l =>
        obtain ⟨a1, a2, c1, c2, ⟨h0, h1, h2, h3, h4, h5, h6, h7, h8⟩, k1, k2⟩ := hc j l hj
        refine ⟨layC l a1 a2 c1 c2, fun l' h => ?_⟩
        cases h
        refine ⟨a1, a2, c1, c2, rfl, k1, k2, fun i u hu => ?_⟩
        have hi : i < 9 := by have := (List.getElem?_eq_some_iff.1 hu).1; rw [layC_len] at this; exact this
        have : i = 0 ∨ i = 1 ∨ i = 2 ∨ i = 3 ∨ i = 4 ∨ i = 5 ∨ i = 6 ∨ i = 7 ∨ i = 8 := by omega
        rcases this with rfl | rfl | rfl | rfl | rfl | rfl | rfl | rfl | rfl <;> (cases hu; assumption)
    have hex : ∃ f : Nat → List Value, ∀ j l, L[j]? = some l → ∃ a1 a2 c1 c2, f j = layC l a1 a2 c1 c2 ∧ RatsAt w a1 l.weights ∧ RatsAt w a2 l.bias ∧ ∀ (i : Nat) (u : Value), (f j)[i]? = some u → w.cell? ⟨b, off + j * 9 + i, none⟩ = some u :=
      ⟨fun j => (hcell j).choose, fun j => (hcell j).choose_spec⟩
    obtain ⟨f, hf⟩ := hex
    have hget : ∀ j c, ((List.range L.length).map f)[j]? = some c → j < L.length ∧ c = f j := by
      intro j c hj
      have hlt := (List.getElem?_eq_some_iff.1 hj).1
      simp at hlt
      rw [List.getElem?_map, List.getElem?_range hlt] at hj
      exact ⟨hlt, (Option.some.inj hj).symm⟩
    have h9 : ∀ c ∈ (List.range L.length).map f, c.length = 9 := by
      intro c hm
      obtain ⟨j, hj⟩ := List.getElem?_of_mem hm
      obtain ⟨hlt, rfl⟩ := hget j c hj
      obtain ⟨a1, a2, c1, c2, e, _⟩ := hf j L[j] (List.getElem?_eq_getElem hlt)
      rw [e]; rfl
    have hrow : Lays9 w ((List.range L.length).map f) L := by
      refine ⟨by simp, h9, fun j c l hj hl => ?_⟩
      obtain ⟨_, rfl⟩ := hget j c hj
      obtain ⟨a1, a2, c1, c2, e, r1, r2, _⟩ := hf j l hl
      exact ⟨a1, a2, c1, c2, e, r1, r2⟩
    refine ⟨_, hrow, ⟨?_, ?_, fun _ => ⟨b, off, rfl, hb, fun k u hk => ?_⟩⟩⟩
    · have : ∀ (CL : List (List Value)), (∀ c ∈ CL, c.length = 9) → CL.flatten.length = CL.length * 9 := by
        intro CL
        induction CL with
        | nil => intro _; rfl
        | cons d r ih => intro h; rw [List.flatten_cons, List.length_append, ih (fun c hc => h c (by simp [hc])), h d (by simp), List.length_cons]; omega
      rw [this _ h9]; simp
    · intro u hu
      obtain ⟨c, hc1, hc2⟩ := List.mem_flatten.1 hu
      obtain ⟨j, hj⟩ := List.getElem?_of_mem hc1
      obtain ⟨hlt, rfl⟩ := hget j c hj
      obtain ⟨a1, a2, c1, c2, e, _⟩ := hf j L[j] (List.getElem?_eq_getElem hlt)
      rw [e] at hc2
      exact layC_one _ _ _ _ _ u hc2
    · obtain ⟨c, e1, e2⟩ := flat9_inv h9 hk
      obtain ⟨hlt, rfl⟩ := hget _ c e1
      obtain ⟨_, _, _, _, _, _, _, hcl⟩ := hf (k / 9) L[k / 9] (List.getElem?_eq_getElem hlt)
      have := hcl _ u e2
      rw [show off + k / 9 * 9 + k % 9 = off + k by omega] at this
      exact this
/-- Behind the appends. -/
theorem lays_app {W w : World} {base : Nat} {v : Value} {CL : List (List Value)} {L : List LayL} {l : LayL} {b1 b2 : Option Addr} {d1 d2 : Nat} (hr : Lays9 W CL L) (h1 : RatsAt W b1 l.weights) (h2 : RatsAt W b2 l.bias) (hb : Below W.heap.size W w) (hL : L.length ≤ 1000)
    (hown : w.ownsRow base 26 9 v (0 + L.length + 1) ([] ++ CL.flatten ++ layC l b1 b2 d1 d2)) : ∃ a cap, v = .slice a (L.length + 1) cap ∧ LaysAt w a (L ++ [l]) := by
  have e : ([] ++ CL.flatten ++ layC l b1 b2 d1 d2) = (CL ++ [layC l b1 b2 d1 d2]).flatten := by simp
  rw [e, Nat.zero_add] at hown
  obtain ⟨a, cap, hv, hl⟩ := own_lays (L := L ++ [l]) hown (by simp) (by omega) (by simp [hr.len]) (fun j c x hc hx => by
    by_cases hj : j < L.length
    · rw [List.getElem?_append_left (by rw [hr.len]; exact hj)] at hc
      rw [List.getElem?_append_left hj] at hx
      obtain ⟨a1, a2, c1, c2, e, r1, r2⟩ := hr.row j c x hc hx
      exact ⟨a1, a2, c1, c2, e, r1.below hb, r2.below hb⟩
    · have hlt := (List.getElem?_eq_some_iff.1 hx).1
      rw [List.length_append] at hlt
      simp at hlt
      obtain rfl : j = L.length := by omega
      have e1 : c = layC l b1 b2 d1 d2 := by rw [← hr.len] at hc; simpa using hc.symm
      have e2 : x = l := by simpa using hx.symm
      subst e1 e2
      exact ⟨b1, b2, d1, d2, rfl, h1.below hb, h2.below hb⟩)
    (fun c hc => by
      rcases List.mem_append.1 hc with h | h
      · exact hr.nine c h
      · simp at h; subst h; rfl)
  exact ⟨a, cap, by rw [hv]; simp, hl⟩
/-- An append as a step of a region: the source lies in the world at hand. -/
theorem step_append_srcN {P : Program} {ops : Array Oper} {W w : World} {o : Oper} {a : Act} {K : Act → World → Prop} {Q : Exit → Act → World → Prop} {E : Prop} (hgd : o.guard = none) (s x : Operand) (t : TypeId)
    (ho : o.op = .call { callee := .builtin .append, args := #[s, x], argTypes := #[t, t] })
    (e : TypeId) (z : Value) (size bytes : Nat) (ht : P.underlying t = some (.slice e)) (hinfo : (P.info? e).map (fun i => (i.zero, i.size, i.bytes)) = some (some z, size, bytes)) (hz1 : z.cells.size = size) (hsz : 0 < size)
    (v : Value) (n : Nat) (xs : List Value) (hs : a.eval s = v) (A : Option Addr) (m c : Nat) (news : List Value)
    (hx : a.eval x = .slice A m c) (hsrc : SrcOK w A m size news) (hb : Below W.heap.size W w) (hown : w.ownsRow W.heap.size e size v n xs)
    (hbytes : (n + m) * bytes ≤ 140737488355328) (h63 : n + m ≤ maxLen)
    (h : ∀ v' w', w'.ownsRow W.heap.size e size v' (n + m) (xs ++ news) → Below W.heap.size W w' → Keeps w w' v v' → K (a.put o.dst v') w') :
    if Region.wanted o (yielded ops a.tmps) = true then Oper.wp P o a w K Q else E := by
  have hw : Region.wanted o (yielded ops a.tmps) = true := by simp [Region.wanted, hgd]
  rw [if_pos hw]
  obtain ⟨v', w', hr, h2, h3, h4⟩ := run_append_src (ty := o.type) (c := c) ht hinfo hz1 hsz hown hsrc hbytes h63 hb.size
  unfold Oper.wp execOp
  simp only [ho, resolve, invoke, builtin, Sem.run_bind, Sem.run_pure, Result.andThen_ok, List.map_toArray, List.map_cons, List.map_nil, hs, hx, hr]
  have hb' : Below W.heap.size W w' := hb.grown h3 hb.size (fun k hk => (hown.lt k hk).1)
  refine h v' w' h2 hb' fun p ob hne hp => ?_
  have hlt := (Array.getElem?_eq_some_iff.1 hp).1
  refine ⟨(h3.block p hlt (fun e => hne e.symm)).trans hp, fun e => ?_⟩
  rcases h4 with h4 | ⟨g, h4, h5⟩
  · rw [h4] at e; exact hne e
  · rw [h4] at e; cases e; omega

end Go.Proofs.Ythlmgejikbmmaaa

/-
  The walk of ShapeAppended: by contract. Printed by genModAq.py.
-/
namespace Go.Proofs.Ythlmgejikbmmaaa
open Go.RowKit

theorem PBox.below {w W W' : World} {g : Nat} {q0 q1 p0 p1 p2 p3 p4 p5 p6 p7 p8 : Value} (h : PBox w W g q0 q1 p0 p1 p2 p3 p4 p5 p6 p7 p8) (hb : Below W.heap.size W W') : PBox w W' g q0 q1 p0 p1 p2 p3 p4 p5 p6 p7 p8 :=
  ⟨h.a.below hb, h.b.below hb, h.bl.trans (hb.mono (by have := h.a.lt; omega))⟩
theorem S11A_keep {W w1 : World} {g p : Nat} {p0 p1 p2 p3 p4 p5 p6 p7 p8 q0 q1 : Value} (hh : Box2 W p q0 q1) (hg : Box9 W g p0 p1 p2 p3 p4 p5 p6 p7 p8) (hb : Below W.heap.size W w1) :
    w1.cell? ⟨p, 0, none⟩ = some q0 ∧ w1.cell? ⟨p, 1, none⟩ = some q1 ∧ w1.cell? ⟨g, 0, none⟩ = some p0 ∧ w1.cell? ⟨g, 1, none⟩ = some p1 ∧ w1.cell? ⟨g, 2, none⟩ = some p2 ∧ w1.cell? ⟨g, 3, none⟩ = some p3 ∧ w1.cell? ⟨g, 4, none⟩ = some p4 ∧ w1.cell? ⟨g, 5, none⟩ = some p5 ∧ w1.cell? ⟨g, 6, none⟩ = some p6 ∧ w1.cell? ⟨g, 7, none⟩ = some p7 ∧ w1.cell? ⟨g, 8, none⟩ = some p8 :=
  let h := hg.below hb
  ⟨(hb.cell hh.lt).trans hh.c0, (hb.cell hh.lt).trans hh.c1, h.c0, h.c1, h.c2, h.c3, h.c4, h.c5, h.c6, h.c7, h.c8⟩

theorem own_emptyA (w : World) (T : Nat) : (w.drew.alloc (.cells #[] T)).ownsRow w.heap.size T 9 (.slice (some ⟨w.heap.size, 0, none⟩) 0 0) 0 [] := own_empty (empty_new w.drew T) (Nat.le_refl _)
theorem own_emptyB (w : World) (T : Nat) (o : Obj) : ((w.drew.alloc o).alloc (.cells #[] T)).ownsRow w.heap.size T 9 (.slice (some ⟨w.heap.size + 1, 0, none⟩) 0 0) 0 [] := by
  have h := empty_new (w.drew.alloc o) T
  have h2 : (w.drew.alloc o).heap.size = w.heap.size + 1 := by simp
  rw [h2] at h
  exact own_empty h (by omega)
theorem hpA (w : World) (o : Obj) : (w.alloc o).heap[w.heap.size]? = some o := by
  show (w.heap.push o)[w.heap.size]? = _
  rw [Array.getElem?_push, if_pos rfl]
/-- The cells behind the empty row .. -/
theorem hpB (w : World) (o o' : Obj) : ((w.drew.alloc o).alloc o').heap[w.heap.size + 1]? = some o' := by
  have h := hpA (w.drew.alloc o) o'
  have h2 : (w.drew.alloc o).heap.size = w.heap.size + 1 := by simp
  rw [h2] at h
  exact h
/-- .. and ahead of it. -/
theorem hpC (w : World) (o o' : Obj) : ((w.drew.alloc o).alloc o').heap[w.heap.size]? = some o := by
  have h := hpA w.drew o
  show ((w.drew.alloc o).heap.push o')[w.heap.size]? = _
  rw [Array.getElem?_push_lt (by simp)]
  rw [← h]
  exact (Array.getElem?_eq_getElem (by simp)).symm
theorem neA (w : World) (n : Nat) : (Value.slice (some ⟨w.heap.size, 0, none⟩) 0 n).ownBlock ≠ some (w.heap.size + 1) := by simp [Value.ownBlock]
theorem neB (w : World) (n : Nat) : (Value.slice (some ⟨w.heap.size + 1, 0, none⟩) 0 n).ownBlock ≠ some w.heap.size := by simp [Value.ownBlock]

set_option maxRecDepth 100000 in
set_option maxHeartbeats 12800000 in
theorem lawAppended {w : World} {u : Value} {m : ModL} {l : LayL} {a1 a2 : Option Addr} (c1 c2 : Nat) (h1 : Ints w Any a1 m.input) (h2 : LaysAt w a2 m.layers) (hr : ∀ l ∈ m.layers, LayRange l) (hs : ∀ l ∈ m.layers, LayLe l) (hu : LayV w u l) (hrl : LayRange l) (hll : LayLe l) :
    Calls Try.prog 7 #[.agg #[.slice a1 m.input.length c1, .slice a2 m.layers.length c2], u] w fun e w' => e = .returned (.bool true) ∧ Below w.heap.size w w' := by
  obtain ⟨b1, b2, d1, d2, rfl, r1, r2⟩ := hu.ex
  have q1 := h1.len
  have q2 := h2.len
  have q3 := r1.len
  have q4 := r2.len
  have H1 := Lib.hid h1
  have H2 := Lib.hid h2
  have HRg := Lib.hid hr
  have HSh := Lib.hid hs
  have HU := Lib.hid hu
  have HRl := Lib.hid hrl
  have HLl := Lib.hid hll
  have HW := Lib.hid (And.intro r1 r2)
  have hT := PBox.mk' w (.slice a1 m.input.length c1) (.slice a2 m.layers.length c2) (.int .i64 l.kind) (.int .i64 l.frm) (.int .i64 l.out) (.int .i64 l.kh) (.int .i64 l.kw) (.int .i64 l.stride) (.int .i64 l.pad) (.slice b1 l.weights.length d1) (.slice b2 l.bias.length d2) 36 26
  clear h1 h2 hr hs hu hrl hll r1 r2
  go_enter Try.func7, Try.ntmps7
  go_upto_region 1 with fail
  generalize (w.alloc (.cells #[.slice a1 m.input.length c1, .slice a2 m.layers.length c2] 36)).alloc (.cells #[.int .i64 l.kind, .int .i64 l.frm, .int .i64 l.out, .int .i64 l.kh, .int .i64 l.kw, .int .i64 l.stride, .int .i64 l.pad, .slice b1 l.weights.length d1, .slice b2 l.bias.length d2] 26) = W at *
  have HX := Lib.hid hT
  have HB := Lib.hid hT.bl
  clear hT
  go_wp2_with fail
  refine (awake13 W).mono ?_
  rintro e w1 ⟨rfl, hb1⟩
  have HB1 := Lib.hid (HB.out.trans (hb1.mono HB.out.size))
  have HX1 := Lib.hid (HX.out.below hb1)
  clear hb1
  obtain ⟨⟨x0, x1, xf, xlt⟩, ⟨y0, y1, y2, y3, y4, y5, y6, y7, y8, ylt⟩, _⟩ := HX1.out
  have HF := Lib.hid (kFair c1 c2 (H1.out.below HB1.out) (H2.out.below HB1.out))
  cases hf : fairL m with
  | false =>
    rw [hf] at HF
    clear hf
    go_wp2_with fail
    refine HF.out.mono ?_
    rintro e w2 ⟨rfl, hb2⟩
    have HB2 := Lib.hid (HB1.out.trans (hb2.mono HB1.out.size))
    clear hb2 x0 x1 xf xlt y0 y1 y2 y3 y4 y5 y6 y7 y8 ylt
    go_wp2_with fail
    refine (awake13 w2).mono ?_
    rintro e w3 ⟨rfl, hb3⟩
    have HB3 := Lib.hid (HB2.out.trans (hb3.mono HB2.out.size))
    clear hb3
    go_wp2
    go_ret
    exact ⟨rfl, HB3.out⟩
  | true =>
    have h12 : m.layers.length ≤ 12 := by
      rw [fairL_eq] at hf
      simp only [Bool.and_eq_true, decide_eq_true_eq] at hf
      exact hf.2.1
    have H12 := Lib.hid h12
    rw [hf] at HF
    clear hf
    have e64 : ((m.layers.length : Int) == 64) = false := by rw [beq_eq_false_iff_ne]; omega
    have n64 : ¬ (m.layers.length : Int) = 64 := by omega
    go_wp2_with fail
    refine HF.out.mono ?_
    rintro e w2 ⟨rfl, hb2⟩
    have HB2 := Lib.hid (HB1.out.trans (hb2.mono HB1.out.size))
    have HX2 := Lib.hid (HX1.out.below hb2)
    clear hb2 x0 x1 xf xlt y0 y1 y2 y3 y4 y5 y6 y7 y8 ylt
    obtain ⟨⟨x0, x1, xf, xlt⟩, ⟨y0, y1, y2, y3, y4, y5, y6, y7, y8, ylt⟩, _⟩ := HX2.out
    by_cases g2 : l.weights.length ≤ 200
    · clear n64
      have HO := Lib.hid (sOfC c1 c2 (H1.out.below HB2.out) (H2.out.below HB2.out) HRg.out HSh.out)
      rcases shapesL_cases m with ⟨hv, hP⟩ | ⟨hv, ⟨T, hch, hP⟩ | ⟨hP, hQ⟩⟩
      · rw [hP] at HO
        clear hv hP
        go_wp2_with fail
        refine HO.out.mono ?_
        rintro e w3 ⟨⟨a, c, rfl, hT, hTc⟩, hb3⟩
        have HB5 := Lib.hid (HB2.out.trans (hb3.mono HB2.out.size))
        clear hb3 hT hTc HO x0 x1 xf xlt y0 y1 y2 y3 y4 y5 y6 y7 y8 ylt
        simp only
        go_wp2
        go_ret
        exact ⟨rfl, HB5.out⟩
      · have ha := shapesL_app l (m := m) (by rw [hP]) (by have := H12.out; omega)
        rw [hP] at ha HO
        simp only at ha
        have HA := Lib.hid ha
        have HTl := Lib.hid hch.1
        clear hv hP hch ha
        go_wp2_with fail
        refine HO.out.mono ?_
        rintro e w3 ⟨⟨a, c, rfl, hT, hTc⟩, hb3⟩
        have HB3 := Lib.hid (HB2.out.trans (hb3.mono HB2.out.size))
        have HX3 := Lib.hid (HX2.out.below hb3)
        have HT := Lib.hid (hT.mono (F' := Any) (fun _ _ _ => trivial))
        simp only at hTc
        clear hb3 hT HO x0 x1 xf xlt y0 y1 y2 y3 y4 y5 y6 y7 y8 ylt
        simp only
        obtain ⟨⟨x0, x1, xf, xlt⟩, ⟨y0, y1, y2, y3, y4, y5, y6, y7, y8, ylt⟩, _⟩ := HX3.out
        have HO := Lib.hid (sOut c1 c (H1.out.below HB3.out) HT.out (HU.out.below HB3.out) HRl.out HLl.out (by rw [HTl.out]; have := H12.out; omega))
        obtain ⟨P, hP⟩ : ∃ P, outSL m.input T l = P := ⟨_, rfl⟩
        rw [hP] at HO HA
        clear hP
        obtain ⟨o, er⟩ := P
        simp only at HA
        go_wp2_with fail
        refine HO.out.mono ?_
        rintro e w4 ⟨⟨a6, c6, rfl, hI6, hc6⟩, hb4⟩
        have HB4 := Lib.hid (HB3.out.trans (hb4.mono HB3.out.size))
        have HX4 := Lib.hid (HX3.out.below hb4)
        have HOo := Lib.hid (hI6.mono (F' := Any) (fun _ _ _ => trivial))
        have p6 := hI6.len
        simp only at p6
        clear hb4 hI6 hc6 HO x0 x1 xf xlt y0 y1 y2 y3 y4 y5 y6 y7 y8 ylt
        simp only
        obtain ⟨⟨x0, x1, xf, xlt⟩, ⟨y0, y1, y2, y3, y4, y5, y6, y7, y8, ylt⟩, _⟩ := HX4.out
        obtain ⟨CL, hRow, hSrc⟩ := (H2.out.below HB4.out).src
        have HSrc := Lib.hid hSrc
        have HRow : Hid (Lays9 w4 CL m.layers ∧ RatsAt w4 b1 l.weights ∧ RatsAt w4 b2 l.bias) := ⟨hRow, (HW.out.1.below HB4.out), (HW.out.2.below HB4.out)⟩
        clear hRow hSrc
        have HO : Hid (∀ W' a8 cap8, Below w4.heap.size w4 W' → LaysAt W' a8 (m.layers ++ [l]) → Calls Try.prog 19 #[.agg #[.slice a1 m.input.length c1, .slice a8 (m.layers.length + 1) cap8]] W' fun e w' => (∃ a c, e = .returned (.tuple #[.slice a (shapesL ⟨m.input, m.layers ++ [l]⟩).1.length c, .int .i64 (shapesL ⟨m.input, m.layers ++ [l]⟩).2.1, .int .i64 (shapesL ⟨m.input, m.layers ++ [l]⟩).2.2]) ∧ Intss w' Any a (shapesL ⟨m.input, m.layers ++ [l]⟩).1) ∧ Below w4.heap.size w4 w') := by
          intro W' a8 cap8 hb hl8
          have hbw := HB4.out.trans (hb.mono HB4.out.size)
          have h := sOf (m := ⟨m.input, m.layers ++ [l]⟩) c1 cap8 (H1.out.below hbw) hl8 (fun x hx => by
            rcases List.mem_append.1 hx with h | h
            · exact HRg.out x h
            · simp at h; subst h; exact HRl.out) (fun x hx => by
            rcases List.mem_append.1 hx with h | h
            · exact HSh.out x h
            · simp at h; subst h; exact HLl.out)
          rw [show (m.layers ++ [l]).length = m.layers.length + 1 by simp] at h
          refine h.mono ?_
          rintro e w' ⟨⟨a, c, rfl, hT⟩, hb2⟩
          exact ⟨⟨a, c, rfl, hT.mono (fun _ _ _ => trivial)⟩, hb.trans (hb2.mono hb.size)⟩
        have xbl : Below w4.heap.size w4 w4.drew := (Below.refl _ _).drew
        have ht12 : T.length ≤ 12 := by rw [HTl.out]; exact H12.out
        rcases HA.out with ⟨he, hs⟩ | ⟨he, hs⟩ | ⟨he, hs⟩
        · rw [hs] at HO
          simp only at HO
          subst he
          clear hs HA
          have hln : (T ++ [o]).length = T.length + 1 := by simp
          go_upto_region 7 with fail
          clear x0 x1 xf xlt y0 y1 y2 y3 y4 y5 y6 y7 y8 ylt
          go_region_held3 (fun w' => w'.cell? ⟨w.heap.size, 0, none⟩ = some (.slice a1 m.input.length c1) ∧ w'.cell? ⟨w.heap.size, 1, none⟩ = some (.slice a2 m.layers.length c2) ∧ w'.cell? ⟨w.heap.size + 1, 0, none⟩ = some (.int .i64 l.kind) ∧ w'.cell? ⟨w.heap.size + 1, 1, none⟩ = some (.int .i64 l.frm) ∧ w'.cell? ⟨w.heap.size + 1, 2, none⟩ = some (.int .i64 l.out) ∧ w'.cell? ⟨w.heap.size + 1, 3, none⟩ = some (.int .i64 l.kh) ∧ w'.cell? ⟨w.heap.size + 1, 4, none⟩ = some (.int .i64 l.kw) ∧ w'.cell? ⟨w.heap.size + 1, 5, none⟩ = some (.int .i64 l.stride) ∧ w'.cell? ⟨w.heap.size + 1, 6, none⟩ = some (.int .i64 l.pad) ∧ w'.cell? ⟨w.heap.size + 1, 7, none⟩ = some (.slice b1 l.weights.length d1) ∧ w'.cell? ⟨w.heap.size + 1, 8, none⟩ = some (.slice b2 l.bias.length d2))
            (first | exact S11A_keep HX4.out.a HX4.out.b (by (first | assumption | exact bal (by assumption) _ | exact bal (bal (by assumption) _) _)))
            (first
              | ((refine step_append_srcN (W := w4) rfl (.tmp 52) (.tmp 54) 34 rfl 26 (.agg #[.int .i64 0, .int .i64 0, .int .i64 0, .int .i64 0, .int .i64 0, .int .i64 0, .int .i64 0, .slice none 0 0, .slice none 0 0]) 9 104 Try.underlying34 Try.infoLay rfl (by omega) (.slice (some ⟨_, 0, none⟩) 0 0) 0 [] rfl a2 m.layers.length c2 CL.flatten rfl (HSrc.out.below (by (first | assumption | exact bal (by assumption) _ | exact bal (bal (by assumption) _) _))) (by (first | assumption | exact bal (by assumption) _ | exact bal (bal (by assumption) _) _)) (by first | exact own_emptyA w4 _ | exact (own_emptyA w4 _).alloc _ | exact own_emptyB w4 _ _) (by have := H12.out; omega) (by have := H12.out; unfold maxLen; omega) ?_; intro v5 w5 own5 hb5 hk5))
              | ((refine step_append_srcN (W := w4) rfl (.tmp 55) (.tmp 57) 34 rfl 26 (.agg #[.int .i64 0, .int .i64 0, .int .i64 0, .int .i64 0, .int .i64 0, .int .i64 0, .int .i64 0, .slice none 0 0, .slice none 0 0]) 9 104 Try.underlying34 Try.infoLay rfl (by omega) v5 (0 + m.layers.length) ([] ++ CL.flatten) rfl (some ⟨_, 0, none⟩) 1 1 (layC l b1 b2 d1 d2) rfl (by first | exact srcOK_alloc9 _ _ _ rfl (layC_one _ _ _ _ _) | exact srcOK_heap (hk5 _ _ (neA w4 _) (hpB w4 _ _)).1 rfl (layC_one _ _ _ _ _) | exact srcOK_heap (hk5 _ _ (neB w4 _) (hpC w4 _ _)).1 rfl (layC_one _ _ _ _ _)) (by (first | assumption | exact bal (by assumption) _ | exact bal (bal (by assumption) _) _)) (by first | exact own5 | exact own5.alloc _) (by have := H12.out; omega) (by have := H12.out; unfold maxLen; omega) ?_; intro v8 w8 own8 hb8 hk8; obtain ⟨a8, cap8, rfl, hL8⟩ := lays_app HRow.out.1 HRow.out.2.1 HRow.out.2.2 hb8 (by have := H12.out; omega) own8))
              | (go_at_call 19; refine (HO.out _ a8 cap8 hb8 hL8).mono ?_; rintro e w9 ⟨⟨a9, c9, rfl, hI9⟩, p3⟩))
          all_goals
          have hb9 : Below w4.heap.size w4 w9 := p3
          have HB9 := Lib.hid (HB4.out.trans (hb9.mono HB4.out.size))
          have HI9 := Lib.hid hI9
          have HO6' := Lib.hid (HOo.out.below hb9)
          clear hb9 p3 hI9 HO
          obtain ⟨b9, o9, rw9, aj, cj, rfl, hcl, hget, _, hrw, hlt9, _⟩ := HI9.out.pickc (k := T.length) (by simp)
          have erw : rw9 = o := by simpa using hget.symm
          subst erw
          have HC := Lib.hid (rInts_ok cj c6 hrw HO6'.out (sameL_self _))
          clear hrw hget
          go_wp2_with fail
          refine HC.out.mono ?_
          rintro e w5 ⟨rfl, hb5⟩
          have HB5 := Lib.hid (HB9.out.trans (hb5.mono HB9.out.size))
          clear hb5
          go_wp2
          go_ret
          exact ⟨rfl, HB5.out⟩
        · rw [hs] at HO
          simp only at HO
          subst he
          clear hs HA
          have t9 : ((m.layers.length : Int) == (T.length : Int)) = true := by rw [HTl.out]; simp
          go_upto_region 7 with fail
          clear x0 x1 xf xlt y0 y1 y2 y3 y4 y5 y6 y7 y8 ylt
          go_region_held3 (fun w' => w'.cell? ⟨w.heap.size, 0, none⟩ = some (.slice a1 m.input.length c1) ∧ w'.cell? ⟨w.heap.size, 1, none⟩ = some (.slice a2 m.layers.length c2) ∧ w'.cell? ⟨w.heap.size + 1, 0, none⟩ = some (.int .i64 l.kind) ∧ w'.cell? ⟨w.heap.size + 1, 1, none⟩ = some (.int .i64 l.frm) ∧ w'.cell? ⟨w.heap.size + 1, 2, none⟩ = some (.int .i64 l.out) ∧ w'.cell? ⟨w.heap.size + 1, 3, none⟩ = some (.int .i64 l.kh) ∧ w'.cell? ⟨w.heap.size + 1, 4, none⟩ = some (.int .i64 l.kw) ∧ w'.cell? ⟨w.heap.size + 1, 5, none⟩ = some (.int .i64 l.stride) ∧ w'.cell? ⟨w.heap.size + 1, 6, none⟩ = some (.int .i64 l.pad) ∧ w'.cell? ⟨w.heap.size + 1, 7, none⟩ = some (.slice b1 l.weights.length d1) ∧ w'.cell? ⟨w.heap.size + 1, 8, none⟩ = some (.slice b2 l.bias.length d2))
            (first | exact S11A_keep HX4.out.a HX4.out.b (by (first | assumption | exact bal (by assumption) _ | exact bal (bal (by assumption) _) _)))
            (first
              | ((refine step_append_srcN (W := w4) rfl (.tmp 52) (.tmp 54) 34 rfl 26 (.agg #[.int .i64 0, .int .i64 0, .int .i64 0, .int .i64 0, .int .i64 0, .int .i64 0, .int .i64 0, .slice none 0 0, .slice none 0 0]) 9 104 Try.underlying34 Try.infoLay rfl (by omega) (.slice (some ⟨_, 0, none⟩) 0 0) 0 [] rfl a2 m.layers.length c2 CL.flatten rfl (HSrc.out.below (by (first | assumption | exact bal (by assumption) _ | exact bal (bal (by assumption) _) _))) (by (first | assumption | exact bal (by assumption) _ | exact bal (bal (by assumption) _) _)) (by first | exact own_emptyA w4 _ | exact (own_emptyA w4 _).alloc _ | exact own_emptyB w4 _ _) (by have := H12.out; omega) (by have := H12.out; unfold maxLen; omega) ?_; intro v5 w5 own5 hb5 hk5))
              | ((refine step_append_srcN (W := w4) rfl (.tmp 55) (.tmp 57) 34 rfl 26 (.agg #[.int .i64 0, .int .i64 0, .int .i64 0, .int .i64 0, .int .i64 0, .int .i64 0, .int .i64 0, .slice none 0 0, .slice none 0 0]) 9 104 Try.underlying34 Try.infoLay rfl (by omega) v5 (0 + m.layers.length) ([] ++ CL.flatten) rfl (some ⟨_, 0, none⟩) 1 1 (layC l b1 b2 d1 d2) rfl (by first | exact srcOK_alloc9 _ _ _ rfl (layC_one _ _ _ _ _) | exact srcOK_heap (hk5 _ _ (neA w4 _) (hpB w4 _ _)).1 rfl (layC_one _ _ _ _ _) | exact srcOK_heap (hk5 _ _ (neB w4 _) (hpC w4 _ _)).1 rfl (layC_one _ _ _ _ _)) (by (first | assumption | exact bal (by assumption) _ | exact bal (bal (by assumption) _) _)) (by first | exact own5 | exact own5.alloc _) (by have := H12.out; omega) (by have := H12.out; unfold maxLen; omega) ?_; intro v8 w8 own8 hb8 hk8; obtain ⟨a8, cap8, rfl, hL8⟩ := lays_app HRow.out.1 HRow.out.2.1 HRow.out.2.2 hb8 (by have := H12.out; omega) own8))
              | (go_at_call 19; refine (HO.out _ a8 cap8 hb8 hL8).mono ?_; rintro e w9 ⟨⟨a9, c9, rfl, hI9⟩, p3⟩))
          all_goals
          have hb9 : Below w4.heap.size w4 w9 := p3
          have HB9 := Lib.hid (HB4.out.trans (hb9.mono HB4.out.size))
          have HI9 := Lib.hid hI9
          have HO6' := Lib.hid (HOo.out.below hb9)
          clear hb9 p3 hI9 HO
          have HB5 := HB9
          go_wp2
          go_ret
          exact ⟨rfl, HB5.out⟩
        · rw [hs] at HO
          simp only at HO
          subst he
          clear hs HA
          go_upto_region 7 with fail
          clear x0 x1 xf xlt y0 y1 y2 y3 y4 y5 y6 y7 y8 ylt
          go_region_held3 (fun w' => w'.cell? ⟨w.heap.size, 0, none⟩ = some (.slice a1 m.input.length c1) ∧ w'.cell? ⟨w.heap.size, 1, none⟩ = some (.slice a2 m.layers.length c2) ∧ w'.cell? ⟨w.heap.size + 1, 0, none⟩ = some (.int .i64 l.kind) ∧ w'.cell? ⟨w.heap.size + 1, 1, none⟩ = some (.int .i64 l.frm) ∧ w'.cell? ⟨w.heap.size + 1, 2, none⟩ = some (.int .i64 l.out) ∧ w'.cell? ⟨w.heap.size + 1, 3, none⟩ = some (.int .i64 l.kh) ∧ w'.cell? ⟨w.heap.size + 1, 4, none⟩ = some (.int .i64 l.kw) ∧ w'.cell? ⟨w.heap.size + 1, 5, none⟩ = some (.int .i64 l.stride) ∧ w'.cell? ⟨w.heap.size + 1, 6, none⟩ = some (.int .i64 l.pad) ∧ w'.cell? ⟨w.heap.size + 1, 7, none⟩ = some (.slice b1 l.weights.length d1) ∧ w'.cell? ⟨w.heap.size + 1, 8, none⟩ = some (.slice b2 l.bias.length d2))
            (first | exact S11A_keep HX4.out.a HX4.out.b (by (first | assumption | exact bal (by assumption) _ | exact bal (bal (by assumption) _) _)))
            (first
              | ((refine step_append_srcN (W := w4) rfl (.tmp 52) (.tmp 54) 34 rfl 26 (.agg #[.int .i64 0, .int .i64 0, .int .i64 0, .int .i64 0, .int .i64 0, .int .i64 0, .int .i64 0, .slice none 0 0, .slice none 0 0]) 9 104 Try.underlying34 Try.infoLay rfl (by omega) (.slice (some ⟨_, 0, none⟩) 0 0) 0 [] rfl a2 m.layers.length c2 CL.flatten rfl (HSrc.out.below (by (first | assumption | exact bal (by assumption) _ | exact bal (bal (by assumption) _) _))) (by (first | assumption | exact bal (by assumption) _ | exact bal (bal (by assumption) _) _)) (by first | exact own_emptyA w4 _ | exact (own_emptyA w4 _).alloc _ | exact own_emptyB w4 _ _) (by have := H12.out; omega) (by have := H12.out; unfold maxLen; omega) ?_; intro v5 w5 own5 hb5 hk5))
              | ((refine step_append_srcN (W := w4) rfl (.tmp 55) (.tmp 57) 34 rfl 26 (.agg #[.int .i64 0, .int .i64 0, .int .i64 0, .int .i64 0, .int .i64 0, .int .i64 0, .int .i64 0, .slice none 0 0, .slice none 0 0]) 9 104 Try.underlying34 Try.infoLay rfl (by omega) v5 (0 + m.layers.length) ([] ++ CL.flatten) rfl (some ⟨_, 0, none⟩) 1 1 (layC l b1 b2 d1 d2) rfl (by first | exact srcOK_alloc9 _ _ _ rfl (layC_one _ _ _ _ _) | exact srcOK_heap (hk5 _ _ (neA w4 _) (hpB w4 _ _)).1 rfl (layC_one _ _ _ _ _) | exact srcOK_heap (hk5 _ _ (neB w4 _) (hpC w4 _ _)).1 rfl (layC_one _ _ _ _ _)) (by (first | assumption | exact bal (by assumption) _ | exact bal (bal (by assumption) _) _)) (by first | exact own5 | exact own5.alloc _) (by have := H12.out; omega) (by have := H12.out; unfold maxLen; omega) ?_; intro v8 w8 own8 hb8 hk8; obtain ⟨a8, cap8, rfl, hL8⟩ := lays_app HRow.out.1 HRow.out.2.1 HRow.out.2.2 hb8 (by have := H12.out; omega) own8))
              | (go_at_call 19; refine (HO.out _ a8 cap8 hb8 hL8).mono ?_; rintro e w9 ⟨⟨a9, c9, rfl, hI9⟩, p3⟩))
          all_goals
          have hb9 : Below w4.heap.size w4 w9 := p3
          have HB9 := Lib.hid (HB4.out.trans (hb9.mono HB4.out.size))
          have HI9 := Lib.hid hI9
          have HO6' := Lib.hid (HOo.out.below hb9)
          clear hb9 p3 hI9 HO
          have HB5 := HB9
          go_wp2
          go_ret
          exact ⟨rfl, HB5.out⟩
      · obtain ⟨P, hR⟩ : ∃ P, shapesL m = P := ⟨_, rfl⟩
        rw [hR] at HO hP hQ
        obtain ⟨T, i, er⟩ := P
        simp only at hP hQ
        subst hP hQ
        clear hv hR
        go_wp2_with fail
        refine HO.out.mono ?_
        rintro e w3 ⟨⟨a, c, rfl, hT, hTc⟩, hb3⟩
        have HB5 := Lib.hid (HB2.out.trans (hb3.mono HB2.out.size))
        clear hb3 hT hTc HO x0 x1 xf xlt y0 y1 y2 y3 y4 y5 y6 y7 y8 ylt
        simp only
        go_wp2
        go_ret
        exact ⟨rfl, HB5.out⟩
    · go_wp2_with fail
      refine (awake13 w2).mono ?_
      rintro e w3 ⟨rfl, hb3⟩
      have HB3 := Lib.hid (HB2.out.trans (hb3.mono HB2.out.size))
      clear hb3
      go_wp2
      go_ret
      exact ⟨rfl, HB3.out⟩

end Go.Proofs.Ythlmgejikbmmaaa
