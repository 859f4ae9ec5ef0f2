/-
  Contracts of the functions that the statements reach, in the order in which they are built: KerP.
-/
import Derived.Test.YthlmgejikbmmaaaGreatM13
import Derived.Test.YthlmgejikbmmaaaGreatM9
import Derived.Deep.RegionLaw
import Derived.Laws.CopyOwn
set_option linter.unusedVariables false
set_option linter.unusedSimpArgs false
set_option linter.constructorNameAsVariable false
set_option linter.deprecated false

/-
  kernel.run: the buffers are made.
-/
namespace Go.Proofs.YthlmgejikbmmaaaGreat
open Go.RowKit

/-- Append, as one operation's step. -/
theorem wp_app1 {P : Program} {w : World} {o : Oper} {a : Act} {Q : Exit → Act → World → Prop} {K : Act → World → Prop} (s x : Operand) (t : TypeId)
    (ho : o.op = .call { callee := .builtin .append, args := #[s, x], argTypes := #[t, t] })
    (base : Nat) (e : TypeId) (z : Value) (bytes : Nat) (ht : P.underlying t = some (.slice e)) (hinfo : (P.info? e).map (fun i => (i.zero, i.size, i.bytes)) = some (some z, 1, bytes)) (hz1 : z.cells.size = 1)
    (v : Value) (n : Nat) (xs : List Value) (hs : a.eval s = v) (hown : w.ownsRow base e 1 v n xs) (u : Value) (hu : u.oneCell' = true)
    (hx : a.eval x = .slice (some ⟨w.heap.size, 0, none⟩) 1 1)
    (hbytes : (n + 1) * bytes ≤ 140737488355328) (h63 : n + 1 ≤ maxLen) (hbase : base ≤ w.heap.size)
    (h : ∀ v' w', w'.ownsRow base e 1 v' (n + 1) (xs ++ [u]) → w.grownBy w' v.ownBlock → Next w v v' → K (a.put o.dst v') w') :
    o.wp P a (w.alloc (.cells #[u] e)) K Q := by
  obtain ⟨i, hi, hz, hsize, hby⟩ := info_parts hinfo
  obtain ⟨v', w', hr, h2, h3, h4⟩ := run_append_next (P := P) (w.alloc (.cells #[u] e)) base t o.type e i z 1 bytes ht hi hz hsize hby hz1 (by omega) v n xs (hown.alloc _) ⟨w.heap.size, 0, none⟩ 1 1 [u] rfl
    (by intro j y hj; match j, hj with | 0, hj => simp at hj; subst hj; simp [Addr.add]) (by intro y hy; simp at hy; subst hy; exact hu) (by omega) h63 hbytes (by simp; omega)
  unfold Oper.wp execOp
  simp only [ho, resolve, invoke, builtin, Sem.run_bind, Sem.run_pure, Result.andThen_ok, List.map_toArray, List.map_cons, List.map_nil, hs, hx, hr]
  refine h v' w' h2 ?_ ?_
  · have h0 := World.grownBy_alloc w (.cells #[u] e) v.ownBlock
    exact ⟨h3.os.trans h0.os, h3.tape.trans h0.tape, h3.output.trans h0.output, Nat.le_trans h0.size h3.size, fun k hk hne => (h3.block k (by simp; omega) hne).trans (h0.block k hk hne)⟩
  · exact h4.imp id (fun ⟨g, hg, hle⟩ => ⟨g, hg, by simp at hle; omega⟩)

theorem step_app1 {P : Program} {ops : Array Oper} {w : World} {o : Oper} {a : Act} {Q : Exit → Act → World → Prop} {K : Act → World → Prop} {E : Prop} (hgd : o.guard = none) (s x : Operand) (t : TypeId)
    (ho : o.op = .call { callee := .builtin .append, args := #[s, x], argTypes := #[t, t] })
    (base : Nat) (e : TypeId) (z : Value) (bytes : Nat) (ht : P.underlying t = some (.slice e)) (hinfo : (P.info? e).map (fun i => (i.zero, i.size, i.bytes)) = some (some z, 1, bytes)) (hz1 : z.cells.size = 1)
    (v : Value) (n : Nat) (xs : List Value) (hs : a.eval s = v) (hown : w.ownsRow base e 1 v n xs) (u : Value) (hu : u.oneCell' = true)
    (hx : a.eval x = .slice (some ⟨w.heap.size, 0, none⟩) 1 1)
    (hbytes : (n + 1) * bytes ≤ 140737488355328) (h63 : n + 1 ≤ maxLen) (hbase : base ≤ w.heap.size)
    (h : ∀ v' w', w'.ownsRow base e 1 v' (n + 1) (xs ++ [u]) → w.grownBy w' v.ownBlock → Next w v v' → K (a.put o.dst v') w') :
    if Region.wanted o (yielded ops a.tmps) = true then Oper.wp P o a (w.alloc (.cells #[u] e)) K Q else E := by
  have hw : Region.wanted o (yielded ops a.tmps) = true := by simp [Region.wanted, hgd]
  rw [if_pos hw]
  exact wp_app1 s x t ho base e z bytes ht hinfo hz1 v n xs hs hown u hu hx hbytes h63 hbase h

theorem Tryz.infoI64' : (Tryz.prog.info? 2).map (fun i => (i.zero, i.size, i.bytes)) = some (some (.int .i64 0), 1, 8) := by kernel_rfl
theorem Tryz.infoSl64 : (Tryz.prog.info? 27).map (fun i => (i.zero, i.size, i.bytes)) = some (some (.slice none 0 0), 1, 24) := by kernel_rfl
/-- The machine while its buffers are made. -/
structure MakeI (w wr : World) (M : Nat) (h wd : Int) (L : List Int) (v : Value) (gs : List Nat) : Prop where
  m : wr.heap[M]? = some (.cells #[v, .int .i64 h, .int .i64 wd] 52 (0, 0))
  base : w.heap.size ≤ M
  len : gs.length = L.length
  own : wr.ownsRow w.heap.size 27 1 v L.length (List.zipWith (fun g (n : Int) => Value.slice (some ⟨g, 0, none⟩) n.toNat n.toNat) gs L)
  row : ∀ (j g : Nat) (n : Int), gs[j]? = some g → L[j]? = some n → IBlk wr g (List.replicate n.toNat 0) ∧ w.heap.size ≤ g ∧ v.ownBlock ≠ some g ∧ g ≠ M
  nodup : gs.Nodup
  nM : v.ownBlock ≠ some M
  be : Below w.heap.size w wr

theorem dsz (w : World) (o : Obj) : (w.drew.alloc o).heap.size = w.heap.size + 1 := World.size_alloc _ _
theorem own_form {w : World} {base E n : Nat} {v : Value} {xs : List Value} (h : w.ownsRow base E 1 v n xs) : ∃ a c, v = .slice a n c := by
  rcases h.2 with ⟨rfl, rfl⟩ | ⟨g, cap, cur, rfl, _⟩
  · exact ⟨_, _, rfl⟩
  · exact ⟨_, _, rfl⟩
theorem own_ge {w : World} {base E n : Nat} {v : Value} {xs : List Value} (h : w.ownsRow base E 1 v n xs) : ∀ b, v.ownBlock = some b → base ≤ b := by
  rcases h.2 with ⟨rfl, _⟩ | ⟨g, cap, cur, rfl, hb, _⟩
  · intro b hb; simp [Value.ownBlock] at hb
  · intro b hb'; simp [Value.ownBlock] at hb'; omega

theorem MakeI.step {W wr : World} {M : Nat} {h wd : Int} {L : List Int} {v : Value} {gs : List Nat} (I : MakeI W wr M h wd L v gs) (n : Nat) {w' : World} {v' : Value}
    (hown : w'.ownsRow W.heap.size 27 1 v' (L.length + 1) (List.zipWith (fun g (n : Int) => Value.slice (some ⟨g, 0, none⟩) n.toNat n.toNat) gs L ++ [.slice (some ⟨wr.heap.size, 0, none⟩) n n]))
    (hg : (wr.drew.alloc (.cells (madeCells #[.int .i64 0] n) 2)).grownBy w' v.ownBlock) (hn : Next (wr.drew.alloc (.cells (madeCells #[.int .i64 0] n) 2)) v v') :
    MakeI W (w'.setCell ⟨M, 0, none⟩ v') M h wd (L ++ [(n : Int)]) v' (gs ++ [wr.heap.size]) := by
  have hMl : M < wr.heap.size := (Array.getElem?_eq_some_iff.1 I.m).1
  have hbl : ∀ b, b < wr.heap.size → v.ownBlock ≠ some b → w'.heap[b]? = wr.heap[b]? := fun b hb hne =>
    (hg.block b (by rw [dsz]; omega) (fun e => hne e.symm)).trans (Below.heap_alloc wr.drew _ b hb)
  have hmM : w'.heap[M]? = some (.cells #[v, .int .i64 h, .int .i64 wd] 52 (0, 0)) := (hbl M hMl I.nM).trans I.m
  have hsc : ∀ b, b ≠ M → (w'.setCell ⟨M, 0, none⟩ v').heap[b]? = w'.heap[b]? := fun b hb => Below.heap_setCell _ _ _ _ (fun e => hb (by simpa using e))
  have hnv : ∀ b, b ≤ wr.heap.size → v.ownBlock ≠ some b → v'.ownBlock ≠ some b := by
    intro b hb hne
    rcases hn with e | ⟨g, e, hge⟩
    · rw [e]; exact hne
    · rw [e]; intro e2; cases e2; rw [dsz] at hge; omega
  have hge := own_ge I.own
  have hsz : wr.heap.size + 1 ≤ w'.heap.size := by have := hg.size; rwa [dsz] at this
  have hvw : v.ownBlock ≠ some wr.heap.size := by
    rcases I.own.2 with ⟨rfl, _⟩ | ⟨g, cap, cur, rfl, hb, hgb, _⟩
    · simp [Value.ownBlock]
    · have := (Array.getElem?_eq_some_iff.1 hgb).1
      simp [Value.ownBlock]; omega
  refine ⟨?_, I.base, by simp [I.len], ?_, ?_, ?_, hnv M (by omega) I.nM, ?_⟩
  · simp [World.setCell, Array.getElem?_modify, hmM]
  · have hw : w'.grownBy (w'.setCell ⟨M, 0, none⟩ v') (some M) := ⟨rfl, rfl, rfl, by simp [World.setCell], fun k hk hne => hsc k (fun e => hne (by rw [e]))⟩
    have h1 := hown.kept hw (.inr (hnv M (by omega) I.nM))
    rw [List.zipWith_append (by rw [I.len])]
    simpa using h1
  · intro j g m hj hm
    by_cases hlt : j < gs.length
    · rw [List.getElem?_append_left hlt] at hj
      rw [List.getElem?_append_left (by rw [← I.len]; exact hlt)] at hm
      obtain ⟨⟨T, hT⟩, h2, h3, h4⟩ := I.row j g m hj hm
      have hgl : g < wr.heap.size := (Array.getElem?_eq_some_iff.1 hT).1
      exact ⟨⟨T, (hsc g h4).trans ((hbl g hgl h3).trans hT)⟩, h2, hnv g (by omega) h3, h4⟩
    · have hje : j = gs.length := by
        have := (List.getElem?_eq_some_iff.1 hj).1
        simp at this; omega
      subst hje
      simp at hj
      rw [I.len] at hm
      simp at hm
      subst hj hm
      refine ⟨⟨2, ?_⟩, ?_, hnv _ (Nat.le_refl _) hvw, by omega⟩
      · rw [hsc _ (by omega), hg.block _ (by rw [dsz]; omega) (fun e => hvw e.symm)]
        have e1 : (wr.drew.alloc (.cells (madeCells #[.int .i64 0] n) 2)).heap[wr.heap.size]? = some (.cells (madeCells #[.int .i64 0] n) 2 (0, 0)) := World.alloc_heap_new wr.drew _
        rw [e1]
        congr 2
        apply Array.ext'
        rw [toList_madeCells_one]
        simp [rowI]
      · have := I.base; omega
  · rw [List.nodup_append]
    refine ⟨I.nodup, by simp, ?_⟩
    intro a ha b hb
    simp at hb
    subst hb
    obtain ⟨j, hj⟩ := List.getElem?_of_mem ha
    have hjl : j < L.length := by rw [← I.len]; exact (List.getElem?_eq_some_iff.1 hj).1
    obtain ⟨⟨T, hT⟩, _⟩ := I.row j a _ hj (List.getElem?_eq_getElem hjl)
    have := (Array.getElem?_eq_some_iff.1 hT).1
    omega
  · refine ⟨hg.os.trans I.be.os, hg.tape.trans I.be.tape, hg.output.trans I.be.output, ?_, fun k hk => ?_⟩
    · have := I.be.size; simp [World.setCell]; omega
    · have hb := I.base
      have hs := I.be.size
      rw [hsc k (by omega), hbl k (by omega) (fun e => by have := hge k e; omega)]
      exact I.be.block k hk

theorem MakeI.held9 {W wr : World} {M : Nat} {h wd : Int} {L : List Int} {v : Value} {gs : List Nat} (I : MakeI W wr M h wd L v gs) (n : Nat) {w' : World}
    (hg : (wr.drew.alloc (.cells (madeCells #[.int .i64 0] n) 2)).grownBy w' v.ownBlock) : w'.heap[M]? = some (.cells #[v, .int .i64 h, .int .i64 wd] 52 (0, 0)) := by
  have hMl : M < wr.heap.size := (Array.getElem?_eq_some_iff.1 I.m).1
  exact ((hg.block M (by rw [dsz]; omega) (fun e => I.nM e.symm)).trans (Below.heap_alloc wr.drew _ M hMl)).trans I.m
theorem MakeI.start (w W : World) (hb : Below w.heap.size w W) (h wd : Int) : MakeI w (W.alloc (.cells #[.slice none 0 0, .int .i64 h, .int .i64 wd] 52)) W.heap.size h wd [] (.slice none 0 0) [] :=
  ⟨World.alloc_heap_new W _, hb.size, rfl, World.ownsRow_nil _ _ _ _, by simp, by simp, by simp [Value.ownBlock], hb.alloc hb.size _⟩

theorem MakeI.mach {W wr : World} {M : Nat} {h wd : Int} {L : List Int} {v : Value} {gs : List Nat} (I : MakeI W wr M h wd L v gs) (hL : L ≠ []) :
    ∃ B cap, v = .slice (some ⟨B, 0, none⟩) L.length cap ∧ Mach wr M B cap gs (L.map fun n => List.replicate n.toNat 0) h wd ∧ (∀ g ∈ gs, W.heap.size ≤ g) ∧ W.heap.size ≤ B := by
  have hpos : 0 < L.length := List.length_pos_iff.2 hL
  rcases I.own.2 with ⟨_, hn⟩ | ⟨B, cap, cur, rfl, hb, hgb, hnc, _⟩
  · omega
  · have hBl := (Array.getElem?_eq_some_iff.1 hgb).1
    have hcs := I.own.cells (g := B) rfl
    have hmem : ∀ g ∈ gs, ∃ j n, gs[j]? = some g ∧ L[j]? = some n := fun g hg => by
      obtain ⟨j, hj⟩ := List.getElem?_of_mem hg
      have hjl : j < L.length := by rw [← I.len]; exact (List.getElem?_eq_some_iff.1 hj).1
      exact ⟨j, L[j], hj, List.getElem?_eq_getElem hjl⟩
    refine ⟨B, cap, rfl, ⟨?_, ?_, ?_, ?_, hBl, ?_, ?_, ?_, I.nodup, ?_, ?_⟩, ?_, hb⟩
    · simp [World.cell?, I.m, I.len]
    · simp [World.cell?, I.m]
    · simp [World.cell?, I.m]
    · exact (Array.getElem?_eq_some_iff.1 I.m).1
    · simp [I.len]
    · rw [I.len]; exact hnc
    · intro j g v hj hv
      rw [List.getElem?_map] at hv
      obtain ⟨n, hn, rfl⟩ := Option.map_eq_some_iff.1 hv
      refine ⟨?_, (I.row j g n hj hn).1⟩
      have := hcs j (.slice (some ⟨g, 0, none⟩) n.toNat n.toNat) (by rw [List.getElem?_zipWith, hj, hn])
      have e0 : ∀ (b j : Nat), (⟨b, 0, none⟩ : Addr).add j = ⟨b, j, none⟩ := fun b j => by by_cases h : j = 0 <;> simp [Addr.add, h]
      rw [e0] at this
      simpa using this
    · intro hg
      obtain ⟨j, n, h1, h2⟩ := hmem _ hg
      exact (I.row j _ n h1 h2).2.2.2 rfl
    · intro hg
      obtain ⟨j, n, h1, h2⟩ := hmem _ hg
      exact (I.row j _ n h1 h2).2.2.1 rfl
    · intro g hg
      obtain ⟨j, n, h1, h2⟩ := hmem _ hg
      exact (I.row j _ n h1 h2).2.1

/-- An operation as a value, its lists in blocks below base. -/
structure OpVF (w : World) (base : Nat) (v : Value) (o : OpL) : Prop where
  ex : ∃ (a1 a2 a3 : Option Addr) (c1 c2 c3 : Nat), v = .agg #[.int .i64 o.kind, .int .i64 o.dst, .int .i64 o.src, .int .i64 o.other, .int .i64 o.cols, .int .i64 o.inner, .slice a1 o.index.length c1, .slice a2 o.weights.length c2, .slice a3 o.bias.length c3, .int .i64 o.mul, .int .i64 o.shift] ∧
    Ints w (fun b => b < base) a1 o.index ∧ Ints w (fun b => b < base) a2 o.weights ∧ Ints w (fun b => b < base) a3 o.bias
theorem Ints.lt {w w' : World} {F : Nat → Prop} {a : Option Addr} {l : List Int} (h : Ints w F a l) (hb : Below w.heap.size w w') : Ints w' (fun b => b < w.heap.size) a l := by
  obtain ⟨h1, h2, h3⟩ := h
  refine ⟨h1, h2, h3.imp id ?_⟩
  rintro ⟨b, o, rfl, _, hlt, hc⟩
  exact ⟨b, o, rfl, hlt, Nat.lt_of_lt_of_le hlt hb.size, fun j d hj => (hb.cell (p := ⟨b, o + j, none⟩) hlt).trans (hc j d hj)⟩
theorem OpV.lt {w w' : World} {v : Value} {o : OpL} (h : OpV w v o) (hb : Below w.heap.size w w') : OpVF w' w.heap.size v o := by
  obtain ⟨a1, a2, a3, c1, c2, c3, e, h1, h2, h3, _⟩ := h.ex
  exact ⟨a1, a2, a3, c1, c2, c3, e, h1.lt hb, h2.lt hb, h3.lt hb⟩
/-- What do does at an operation: the buffers vs become vs'. -/
def StepOK (base : Nat) (o : OpL) (vs vs' : List (List Int)) (h wd : Int) : Prop :=
  ∀ (wr : World) (M B cap : Nat) (gs : List Nat) (v : Value), base ≤ wr.heap.size → OpVF wr base v o → Mach wr M B cap gs vs h wd → (∀ g ∈ gs, base ≤ g) →
    Calls Tryz.prog 18 #[.pointer (some ⟨M, 0, none⟩), v] wr fun e w' => (∃ u, e = .returned u) ∧ Below base wr w' ∧ Mach w' M B cap gs vs' h wd
/-- What run leaves. -/
def RunPost (w : World) (k : KerL) (inp : List Int) (vs : List (List Int)) (h wd : Int) (e : Ending) (w' : World) : Prop :=
  ((inp.length : Int) = k.sizes.getD 0 0 ∧ Below w.heap.size w w' ∧ ∃ M B cap gs, e = .returned (.tuple #[.slice (some ⟨B, 0, none⟩) k.sizes.length cap, .int .i64 0]) ∧ Mach w' M B cap gs vs h wd ∧ gs.length = k.sizes.length) ∨
  (¬ (inp.length : Int) = k.sizes.getD 0 0 ∧ Below w.heap.size w w' ∧ e = .returned (.tuple #[.slice none 0 0, .int .i64 11]))

set_option maxRecDepth 100000 in
set_option maxHeartbeats 6400000 in
theorem kRun {w : World} {v : Value} {k : KerL} (hv : KerV w v k) {inp : List Int} {ai : Option Addr} {ci : Nat} (hin : Ints w Any ai inp) (hs : wthn k.sizes.length 1 1024 = true) (hz : k.sizes.all (fun n => wthn n 1 262144) = true) (h wd : Int)
    (hol : k.ops.length ≤ 1024) (R : Nat → List (List Int)) (hR0 : R 0 = (k.sizes.map fun n => List.replicate n.toNat (0 : Int)).set 0 inp) (hR : (inp.length : Int) = k.sizes.getD 0 0 → ∀ j o, k.ops[j]? = some o → StepOK w.heap.size o (R j) (R (j + 1)) h wd) :
    Calls Tryz.prog 12 #[v, .slice ai inp.length ci, .int .i64 h, .int .i64 wd] w (RunPost w k inp (R k.ops.length) h wd) := by
  have HR0 := Lib.hid hR0
  have HR := Lib.hid hR
  clear hR0 hR
  obtain ⟨a1, a2, a3, a4, a5, c1, c2, c3, c4, c5, rfl, i1, o2, r3, r4, r5⟩ := hv.ex
  have hs' : 1 ≤ k.sizes.length ∧ k.sizes.length ≤ 1024 := by simp [wthn] at hs; omega
  obtain ⟨b1, of1, rfl, _, hlt1, hc1⟩ := i1.cells (show 0 < k.sizes.length by omega)
  have I1 := Lib.hid i1
  have O2 := Lib.hid o2
  have IN := Lib.hid hin
  have HZ := Lib.hid hz
  have e0 := hc1 0 (by omega)
  have hlw := hlt1
  obtain ⟨i0, hi0, hz0', hz1', hz2'⟩ := info_parts Tryz.infoI64'
  go_enter Tryz.func12, Tryz.ntmps12
  go_upto_region 1 with fail
  have hbx := Box8.alloc w (.slice (some ⟨b1, of1, none⟩) k.sizes.length c1) (.slice a2 k.ops.length c2) (.int .i64 k.output) (.int .i64 k.inShift) (.int .i64 k.outShift) (.slice a3 k.lo.length c3) (.slice a4 k.hi.length c4) (.slice a5 k.err.length c5) 26
  have hb1 : Below w.heap.size w (w.alloc (.cells #[.slice (some ⟨b1, of1, none⟩) k.sizes.length c1, .slice a2 k.ops.length c2, .int .i64 k.output, .int .i64 k.inShift, .int .i64 k.outShift, .slice a3 k.lo.length c3, .slice a4 k.hi.length c4, .slice a5 k.err.length c5] 26)) := (Below.refl _ w).alloc (Nat.le_refl _) _
  have hW1 : (w.alloc (.cells #[.slice (some ⟨b1, of1, none⟩) k.sizes.length c1, .slice a2 k.ops.length c2, .int .i64 k.output, .int .i64 k.inShift, .int .i64 k.outShift, .slice a3 k.lo.length c3, .slice a4 k.hi.length c4, .slice a5 k.err.length c5] 26)).heap.size = w.heap.size + 1 := by simp
  generalize w.alloc (.cells #[.slice (some ⟨b1, of1, none⟩) k.sizes.length c1, .slice a2 k.ops.length c2, .int .i64 k.output, .int .i64 k.inShift, .int .i64 k.outShift, .slice a3 k.lo.length c3, .slice a4 k.hi.length c4, .slice a5 k.err.length c5] 26) = W at *
  have y0 := (hb1.cell (p := ⟨b1, of1 + 0, none⟩) hlt1).trans e0
  rw [Nat.add_zero] at y0
  have z0 := hbx.c0
  have HC1 := Lib.hid hc1
  have HB1 := Lib.hid hb1
  have HBX := Lib.hid hbx
  have HW1 := Lib.hid hW1
  have hz0 : 1 ≤ k.sizes.getD 0 0 ∧ k.sizes.getD 0 0 ≤ 262144 := sizes_range HZ.out 0 (by omega) (by omega)
  clear e0 hbx hb1 hW1 hc1 i1 o2 r3 r4 r5
  by_cases hin0 : (inp.length : Int) = k.sizes.getD 0 0
  · have HEQ := Lib.hid hin0
    have HS0 : Hid (k.sizes[0]? = some (inp.length : Int)) := by unfold Hid; rw [getD_at (by omega), ← hin0]
    generalize k.sizes.getD 0 0 = s0 at y0 hz0 hin0
    subst hin0
    go_upto_region 4 with fail
    have hbM : Below W.heap.size W (W.alloc (.cells #[.slice none 0 0, .int .i64 h, .int .i64 wd] 52)) := (Below.refl _ W).alloc (Nat.le_refl _) _
    have hmk := MakeI.start W W (Below.refl _ _) h wd
    have hsM : (W.alloc (.cells #[.slice none 0 0, .int .i64 h, .int .i64 wd] 52)).heap.size = W.heap.size + 1 := by simp
    generalize W.alloc (.cells #[.slice none 0 0, .int .i64 h, .int .i64 wd] 52) = W1 at *
    have HBM := Lib.hid hbM
    have HMK := Lib.hid hmk
    have HSM := Lib.hid hsM
    have hwW : w.heap.size < W.heap.size := by have := HW1.out; omega
    have z1 := (hbM.cell (p := ⟨w.heap.size, 0, none⟩) hwW).trans z0
    have hMw : W.heap.size ≠ w.heap.size := by omega
    clear hbM hmk hsM z0 y0
    go_wp2
    go_loopw [29] (fun i wr => ∃ (j : Nat) (v : Value) (gs : List Nat), j ≤ k.sizes.length ∧ i = .int .i64 (j : Int) ∧ Hid (MakeI W wr W.heap.size h wd (k.sizes.take j) v gs)) (fun i _ => k.sizes.length - (intOf i).toNat)
    case atStart => exact ⟨0, _, _, Nat.zero_le _, rfl, HMK.out⟩
    case round =>
      obtain ⟨j, v, gs, hj, rfl, HI⟩ := hrel
      by_cases hlt : j < k.sizes.length
      · have hbw := HI.out.be
        have hjb := (hbw.cell (p := ⟨b1, of1 + j, none⟩) (by simp; omega)).trans ((HB1.out.cell (p := ⟨b1, of1 + j, none⟩) hlt1).trans (HC1.out j hlt))
        obtain ⟨hn1, hn2⟩ := sizes_range HZ.out j (by omega) (by omega)
        rw [Int.toNat_natCast] at hn1 hn2
        have HT := Lib.hid (take_succ_at (getD_at hlt))
        have hm0 : wr.cell? ⟨W.heap.size, 0, none⟩ = some v := by simp [World.cell?, HI.out.m]
        have hml : W.heap.size < wr.heap.size := (Array.getElem?_eq_some_iff.1 HI.out.m).1
        have hma : ∀ o, (wr.alloc o).drew.cell? ⟨W.heap.size, 0, none⟩ = some v := fun o => (((Below.refl wr.heap.size wr).alloc (Nat.le_refl _) o).drew.cell (p := ⟨W.heap.size, 0, none⟩) hml).trans hm0
        have hma2 : ∀ o o', ((wr.alloc o).alloc o').drew.cell? ⟨W.heap.size, 0, none⟩ = some v := fun o o' => ((((Below.refl wr.heap.size wr).alloc (Nat.le_refl _) o).alloc (by simp) o').drew.cell (p := ⟨W.heap.size, 0, none⟩) hml).trans hm0
        generalize hnn : k.sizes.getD j 0 = n at *
        obtain ⟨n', rfl⟩ : ∃ n' : Nat, n = n' := ⟨n.toNat, by omega⟩
        clear hbw hnn
        go_wp2
        have hmk := fun w => run_makeSlice (P := Tryz.prog) (w := w) 27 2 i0 (.int .i64 0) Tryz.underlying27 hi0 hz0' .i64 .i64 (n' : Int) (n' : Int) (by omega) (Int.le_refl _) (by rw [hz1']; simp; omega) (by rw [hz2']; omega) (by omega)
        simp only [Int.toNat_natCast, hz1', Nat.mul_one, show (Value.int IntKind.i64 0).cells = #[.int .i64 0] from rfl] at hmk
        have hM1 : ∀ o, (wr.drew.alloc o).cell? ⟨W.heap.size, 0, none⟩ = some v := fun o => (((Below.refl wr.heap.size wr.drew).alloc (Nat.le_refl _) o).cell (p := ⟨W.heap.size, 0, none⟩) hml).trans hm0
        have hM2 : ∀ o o', ((wr.drew.alloc o).alloc o').cell? ⟨W.heap.size, 0, none⟩ = some v := fun o o' => ((((Below.refl wr.heap.size wr.drew).alloc (Nat.le_refl _) o).alloc (by rw [dsz]; omega) o').cell (p := ⟨W.heap.size, 0, none⟩) hml).trans hm0
        have hjl : (k.sizes.take j).length = j := by simp; omega
        have hOwn := fun o => World.ownsRow.alloc (w := wr.drew) HI.out.own o
        go_region_law? (refine step_app1 rfl (.tmp 37) (.tmp 40) 30 rfl W.heap.size 27 (.slice none 0 0) 24 Tryz.underlying30 Tryz.infoSl64 rfl v (k.sizes.take j).length _ (by rfl) (hOwn _) _ (by rfl) (by simp [Act.eval, dsz]) (by rw [hjl]; omega) (by rw [hjl]; unfold maxLen; omega) (by rw [dsz]; omega) ?_; intro v' w' hown hg hn; obtain ⟨a9, c9, rfl⟩ := own_form hown; have HNew := Lib.hid (HI.out.step n' hown hg hn); have h9 := MakeI.held9 HI.out n' hg; have hc9 : w'.cell? ⟨W.heap.size, 0, none⟩ = some v := (by simp [World.cell?, h9]); have hf9 : w'.frozen? ⟨W.heap.size, 0, none⟩ = false := (by simp [World.frozen?, h9]); clear hown hg hn h9)
        all_goals (
          go_wp2
          go_roundw)
        all_goals first
          | exact ⟨j + 1, _, _, hlt, by go_num, by rw [HT.out]; have h5 := HNew.out; rw [hjl] at h5; exact h5⟩
          | (simp [intOf]; omega)
      · obtain rfl : j = k.sizes.length := by omega
        rw [List.take_length] at HI
        obtain ⟨B, cap, rfl, hma, hge, hgB⟩ := MakeI.mach HI.out (by intro e; rw [e] at hs'; simp at hs')
        have z1' := (HI.out.be.cell (p := ⟨w.heap.size, 1, none⟩) hwW).trans HBX.out.c1
        have z2' := (HI.out.be.cell (p := ⟨w.heap.size, 0, none⟩) hwW).trans HBX.out.c0
        have hmm0 := hma.m0
        have hgl : gs.length = k.sizes.length := by rw [hma.len]; simp
        rw [hgl] at hmm0
        obtain ⟨g0, hg0⟩ : ∃ g0, gs[0]? = some g0 := ⟨gs[0]'(by omega), List.getElem?_eq_getElem (by omega)⟩
        have hv0 : (k.sizes.map fun n => List.replicate n.toNat (0 : Int))[0]? = some (List.replicate inp.length 0) := by
          rw [List.getElem?_map, HS0.out]; rfl
        obtain ⟨r0, rb0⟩ := hma.row 0 g0 _ hg0 hv0
        rw [List.length_replicate] at r0
        obtain ⟨T0, hT0⟩ := rb0
        obtain ⟨bi, oi, rfl, _, hbi, hci⟩ := IN.out.cells (show 0 < inp.length by omega)
        have hbiW : bi < W.heap.size := by omega
        have hge0 := hge _ (List.mem_of_getElem? hg0)
        have hwr : Below w.heap.size w wr := HB1.out.trans (HI.out.be.mono (by omega))
        have hcw : ∀ j u, (inp.map (Value.int .i64))[j]? = some u → wr.cell? ((⟨bi, oi, none⟩ : Addr).add j) = some u := fun j u hj => by
          rw [List.getElem?_map] at hj
          obtain ⟨x, hx, rfl⟩ := Option.map_eq_some_iff.1 hj
          have hjl := (List.getElem?_eq_some_iff.1 hx).1
          have h5 := (hwr.cell (p := ⟨bi, oi + j, none⟩) hbi).trans (hci j hjl)
          rw [List.getD_eq_getElem?_getD, hx] at h5
          simpa [Addr.add_lit] using h5
        have HMA := Lib.hid hma
        have HCW := Lib.hid hcw
        clear hma hcw
        have hfit : 0 + (inp.map (Value.int .i64)).length ≤ (rowI (List.replicate inp.length 0)).size := by simp [rowI]
        have hmn : (inp.map (Value.int .i64)).length = Nat.min inp.length inp.length := by rw [List.length_map]; exact (Nat.min_self _).symm
        have hone : ∀ u ∈ inp.map (Value.int .i64), u.oneCell' = true := by intro u hu; obtain ⟨x, _, rfl⟩ := List.mem_map.1 hu; rfl
        have hsz1 : (Tryz.prog.info? 2).map (·.size) = some 1 := by kernel_rfl
        go_upto_region 10 with (refine wpList_copy_own rfl (.tmp 50) (.tmp 51) 27 27 rfl 2 Tryz.underlying27 hsz1 g0 0 inp.length inp.length ⟨bi, oi, none⟩ inp.length ci (by rfl) (by rfl) _ T0 hT0 (inp.map (Value.int .i64)) hmn HCW.out hfit hone ?_)
        have hrow : (List.take 0 (rowI (List.replicate inp.length 0)).toList ++ (inp.map (Value.int .i64) ++ List.drop (0 + (inp.map (Value.int .i64)).length) (rowI (List.replicate inp.length 0)).toList)).toArray = rowI inp := by
          simp [rowI]
        rw [hrow]
        have hOn : Only g0 wr (wr.setRow g0 (rowI inp)) := ⟨rfl, rfl, rfl, by simp [World.setRow], fun b hb => setRow_other wr g0 b _ hb⟩
        have hIn : IBlk (wr.setRow g0 (rowI inp)) g0 inp := ⟨T0, by simp [World.setRow, Array.getElem?_modify, hT0]⟩
        have hM0 := HMA.out.turn hg0 hv0 (v := inp) (by simp) hOn hIn
        have hB0 : Below W.heap.size W (wr.setRow g0 (rowI inp)) := HI.out.be.trans (hOn.below hge0)
        generalize wr.setRow g0 (rowI inp) = ws at *
        have HM0 := Lib.hid hM0
        have HB0 := Lib.hid hB0
        have x1 := (hB0.cell (p := ⟨w.heap.size, 1, none⟩) hwW).trans HBX.out.c1
        clear hM0 hB0 hOn hIn hT0 hfit hmn hone hrow r0 hmm0 z1' z2' hwr
        go_wp2
        go_loopw [56] (fun i wr => ∃ j : Nat, j ≤ k.ops.length ∧ i = .int .i64 (j : Int) ∧ Below w.heap.size w wr ∧ Hid (Mach wr W.heap.size B cap gs (R j) h wd)) (fun i _ => k.ops.length - (intOf i).toNat)
        case atStart => exact ⟨0, Nat.zero_le _, rfl, HB1.out.trans (HB0.out.mono (by omega)), by rw [HR0.out]; exact HM0.out⟩
        case round =>
          clear HI
          obtain ⟨j, hj, rfl, hB, HM⟩ := hrel
          by_cases hlt : j < k.ops.length
          · obtain ⟨bo, oo, x, o1, o2, o3, d1, d2, d3, rfl, hbo, hx, ⟨l0, l1, l2, l3, l4, l5, l6, l7, l8, l9, l10⟩, hov⟩ := O2.out.pick hlt
            replace l0 := (hB.cell (p := ⟨bo, oo + j * 11, none⟩) hbo).trans l0
            replace l1 := (hB.cell (p := ⟨bo, oo + j * 11 + 1, none⟩) hbo).trans l1
            replace l2 := (hB.cell (p := ⟨bo, oo + j * 11 + 2, none⟩) hbo).trans l2
            replace l3 := (hB.cell (p := ⟨bo, oo + j * 11 + 3, none⟩) hbo).trans l3
            replace l4 := (hB.cell (p := ⟨bo, oo + j * 11 + 4, none⟩) hbo).trans l4
            replace l5 := (hB.cell (p := ⟨bo, oo + j * 11 + 5, none⟩) hbo).trans l5
            replace l6 := (hB.cell (p := ⟨bo, oo + j * 11 + 6, none⟩) hbo).trans l6
            replace l7 := (hB.cell (p := ⟨bo, oo + j * 11 + 7, none⟩) hbo).trans l7
            replace l8 := (hB.cell (p := ⟨bo, oo + j * 11 + 8, none⟩) hbo).trans l8
            replace l9 := (hB.cell (p := ⟨bo, oo + j * 11 + 9, none⟩) hbo).trans l9
            replace l10 := (hB.cell (p := ⟨bo, oo + j * 11 + 10, none⟩) hbo).trans l10
            have HX := Lib.hid hx
            have HOV := Lib.hid hov
            have HBr := Lib.hid hB
            clear hx hov hB x1
            go_wp2_with fail
            have hbA : Below wr.heap.size wr (wr.alloc (.cells #[.int .i64 x.kind, .int .i64 x.dst, .int .i64 x.src, .int .i64 x.other, .int .i64 x.cols, .int .i64 x.inner, .slice o1 x.index.length d1, .slice o2 x.weights.length d2, .slice o3 x.bias.length d3, .int .i64 x.mul, .int .i64 x.shift] 40)) := (Below.refl _ _).alloc (Nat.le_refl _) _
            have hsw := HBr.out.size
            have hsA := hbA.size
            refine ((HR.out HEQ.out j x HX.out) _ W.heap.size B cap gs _ (Nat.le_trans hsw hsA) (HOV.out.lt (HBr.out.trans (hbA.mono hsw))) (HM.out.below hbA) (fun g hg => by have := hge g hg; omega)).mono ?_
            rintro e w2 ⟨⟨u, rfl⟩, hb2, hm2⟩
            have HB2 := Lib.hid (HBr.out.trans ((hbA.mono hsw).trans hb2))
            have HM2 := Lib.hid hm2
            clear hb2 hm2 hbA hsA
            go_wp2
            go_roundw
            case rel => exact ⟨j + 1, hlt, by go_num, HB2.out, HM2.out⟩
            case measure => simp [intOf]; omega
          · obtain rfl : j = k.ops.length := by omega
            have HBr := Lib.hid hB
            have hm0 := HM.out.m0
            rw [hgl] at hm0
            have HGL := Lib.hid hgl
            clear hB hgl
            go_wp2
            go_ret2
            exact .inl ⟨HEQ.out, HBr.out, _, _, _, _, rfl, HM.out, HGL.out⟩
  · have HNE := Lib.hid hin0
    generalize hs00 : k.sizes.getD 0 0 = s0 at y0 hz0 hin0
    go_wp2
    go_ret2
    exact .inr ⟨HNE.out, HB1.out, rfl⟩

end Go.Proofs.YthlmgejikbmmaaaGreat
