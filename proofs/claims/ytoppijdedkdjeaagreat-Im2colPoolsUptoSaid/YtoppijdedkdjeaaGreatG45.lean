/-
  Contracts of the functions that the statement reaches: ColE, ColF.
-/
import Derived.Test.YtoppijdedkdjeaaGreatG26
import Derived.Test.YtoppijdedkdjeaaGreatG44
set_option linter.unusedVariables false
set_option linter.unusedSimpArgs false
set_option linter.constructorNameAsVariable false
set_option linter.deprecated false
set_option maxRecDepth 100000
set_option maxHeartbeats 3200000
namespace Go.Proofs.YtoppijdedkdjeaaGreat
open Go.RowKit Go.Shelf
open Go.Lib (hid)
attribute [local go_sem] Oper.semAt_some
theorem tTiles (rows cols h wd : Int) (w : World) : Calls Tryz.prog 51 #[.int .i64 rows, .int .i64 cols, .int .i64 h, .int .i64 wd] w fun e w' =>
  e = .returned (.func (.func 91) #[] #[.pointer (some ⟨w.heap.size, 0, none⟩), .pointer (some ⟨w.heap.size + 1, 0, none⟩), .pointer (some ⟨w.heap.size + 2, 0, none⟩), .pointer (some ⟨w.heap.size + 3, 0, none⟩)]) /\
  w' = (((w.alloc (.cells #[.int .i64 rows] 3)).alloc (.cells #[.int .i64 cols] 3)).alloc (.cells #[.int .i64 h] 3)).alloc (.cells #[.int .i64 wd] 3) := by
 have hmf : ∀ (fn : Fn) (first cap : Array Value) (w : World), (Instr.makeFunc fn first cap).run Tryz.prog w = .ok (.func fn first cap) w := fun _ _ _ _ => rfl
 go_enter Tryz.func51, Tryz.ntmps51
 go_wp2
 go_ret
 exact ⟨rfl, rfl⟩
theorem Ints.made {w : World} {E : Nat} (l : List Int) (hl : ∀ x ∈ l, -9223372036854775808 <= x /\ x <= 9223372036854775807) (hn : l.length <= 9223372036854775807) :
  Ints (w.alloc (.cells (l.map (Value.int .i64)).toArray E)) Any (some ⟨w.heap.size, 0, none⟩) l := by
 refine ⟨hl, hn, .inr ⟨w.heap.size, 0, rfl, trivial, by simp, fun j d hj => ?_⟩⟩
 rw [World.cell?_alloc_at _ _ _ _ rfl]
 simp [hj]
theorem exTile0 : tileV 3 2 2 2 0 = .agg #[.int .i64 0, .int .i64 0, .int .i64 2, .int .i64 2] := by
 simp [tileV, cutAt, cutN]
theorem exTile1 : tileV 3 2 2 2 1 = .agg #[.int .i64 2, .int .i64 0, .int .i64 1, .int .i64 2] := by
 simp [tileV, cutAt, cutN]
theorem exTiles : tilesN 3 2 2 2 = 2 := by simp [tilesN, cutN]
theorem own_block {b : Nat} {c : Array Value} {t : TypeId} {f : Nat × Nat} : ∀ (A B : World) (row : Option Nat), A.heap[b]? = some (.cells c t f) -> A.grownBy B row -> (∀ r, row = some r -> ∃ o : Obj, A.heap[r]? = some o /\ o.isCells = false) ->
  B.heap[b]? = some (.cells c t f) := fun _ _ _ h hg hr => (grownBy_keeps_cells hg hr h rfl).trans h
theorem cellOf {w : World} {b : Nat} {v : Value} {t : TypeId} {f : Nat × Nat} (h : w.heap[b]? = some (.cells #[v] t f)) : w.cell? ⟨b, 0, none⟩ = some v := by
 simp [World.cell?, h]
theorem cellOf4 {w : World} {b : Nat} {v0 v1 v2 v3 : Value} {t : TypeId} {f : Nat × Nat} (h : w.heap[b]? = some (.cells #[v0, v1, v2, v3] t f)) :
  w.cell? ⟨b, 0, none⟩ = some v0 /\ w.cell? ⟨b, 0 + 1, none⟩ = some v1 /\ w.cell? ⟨b, 0 + 2, none⟩ = some v2 /\ w.cell? ⟨b, 0 + 3, none⟩ = some v3 := by
 simp [World.cell?, h]
theorem setHeap {w : World} {b : Nat} {u v : Value} {t : TypeId} {f : Nat × Nat} (h : w.heap[b]? = some (.cells #[v] t f)) : (w.setCell ⟨b, 0, none⟩ u).heap[b]? = some (.cells #[u] t f) := by
 simp [World.setCell, Array.getElem?_modify, h]
theorem frozenOf {w : World} {b : Nat} {v : Value} {t : TypeId} (h : w.heap[b]? = some (.cells #[v] t (0, 0))) : w.frozen? ⟨b, 0, none⟩ = false := by
 simp [World.frozen?, h]
def exRow : List Int := [0, 1, 1, 2, 3, 4, 4, 5]
theorem exGather : gatherL [1, 2, 3] 2 2 2 1 0 = (exRow, 4, 2, 0) := by decide +kernel
theorem exPool : poolL [1, 2, 3] 3 1 2 1 = (exRow, 2, 0) := by decide +kernel
theorem tGather_ex {w : World} {F : Nat -> Prop} {a : Option Addr} (h : Ints w F a [1, 2, 3]) :
  Calls Tryz.prog 31 #[.slice a 3 3, layerV 2 0 0 2 2 1 0 none 0 0 none 0 0] w fun e w' => ∃ a c, e = .returned (.tuple #[.slice a 8 c, .int .i64 4, .int .i64 2, .int .i64 0]) /\ Ints w' Any a exRow /\ Below w.heap.size w w' := by
 refine (tGather 3 2 0 0 2 2 1 0 none 0 0 none 0 0 h).mono ?_
 rintro e w' ⟨a', c', rfl, hI, hb⟩
 rw [exGather] at hI ⊢
 exact ⟨a', c', rfl, hI.mono (fun _ _ _ => trivial), hb⟩
theorem tPool_ex {w : World} {F : Nat -> Prop} {a : Option Addr} (h : Ints w F a [1, 2, 3]) :
  Calls Tryz.prog 32 #[.slice a 3 3, layerV 3 0 0 1 2 1 0 none 0 0 none 0 0] w fun e w' => ∃ a c, e = .returned (.tuple #[.slice a 8 c, .int .i64 2, .int .i64 0]) /\ Ints w' Any a exRow /\ Below w.heap.size w w' := by
 refine (tPool 3 3 0 0 1 2 1 0 none 0 0 none 0 0 h).mono ?_
 rintro e w' ⟨a', c', rfl, hI, hb⟩
 rw [exPool] at hI ⊢
 exact ⟨a', c', rfl, hI.mono (fun _ _ _ => trivial), hb⟩
theorem awake53 (w : World) : Calls Tryz.prog 26 #[] w fun e w' => e = .returned (.bool true) /\ Below w.heap.size w w' := by
 refine (callsIn_wide (n := 5)).1 ?_
 refine callsIn_of_wp_marks Tryz.func26 rfl trivial ?_ rfl
 simp only [Tryz.ntmps26, List.size_toArray, List.length_nil, Nat.reduceSub, Array.replicate_succ, Array.replicate_zero, List.push_toArray, List.append_toArray, List.nil_append, List.cons_append]
 have hB0 : Below w.heap.size w (w.alloc (.cells #[.bool false] 4)) := (Below.refl _ w).alloc (Nat.le_refl _) _
 have hsz0 : (w.alloc (.cells #[.bool false] 4)).heap.size = w.heap.size + 1 := by simp
 have hres0 : (w.alloc (.cells #[.bool false] 4)).cell? ⟨w.heap.size, 0, none⟩ = some (.bool false) /\ (w.alloc (.cells #[.bool false] 4)).frozen? ⟨w.heap.size, 0, none⟩ = false := by
  constructor <;> simp
 have HR0 := hid hres0
 have hI1 : Ints ((w.alloc (.cells #[.bool false] 4)).alloc (.cells #[.int .i64 1, .int .i64 2, .int .i64 3] 3)) Any (some ⟨w.heap.size + 1, 0, none⟩) [1, 2, 3] := by
  have := Ints.made3 (w := w.alloc (.cells #[.bool false] 4)) (E := 3) 1 2 3 (by omega) (by omega) (by omega)
  rwa [hsz0] at this
 have HI1 := hid hI1
 have HB0 := hid hB0
 clear hI1 hsz0 hB0 hres0
 gi_wp2_with fail
 refine ⟨trivial, (callsIn_wide.2 (tGather_ex HI1.out)).mono ?_⟩
 rintro e w1 ⟨aG, cG, rfl, hG, hb1⟩
 have hB1 : Below (w.heap.size + 1) (w.alloc (.cells #[.bool false] 4)) w1 := ((Below.refl _ (w.alloc (.cells #[.bool false] 4))).alloc (by simp) _).trans (hb1.mono (by simp))
 have HB1 := hid hB1
 have HG := hid hG
 clear hb1 hB1 hG
 gi_wp2_with fail
 refine ⟨trivial, (callsIn_wide.2 (tPool_ex (Ints.made3 (w := w1) (E := 3) 1 2 3 (by omega) (by omega) (by omega)))).mono ?_⟩
 rintro e w2 ⟨aP, cP, rfl, hP, hb2⟩
 have hw12 : Below w1.heap.size w1 w2 := ((Below.refl _ w1).alloc (Nat.le_refl _) _).trans (hb2.mono (by simp))
 have hs1 : w.heap.size + 1 <= w1.heap.size := by have := HB1.out.size; simpa using this
 have HB2 : Hid (Below (w.heap.size + 1) (w.alloc (.cells #[.bool false] 4)) w2) := HB1.out.trans (hw12.mono hs1)
 have HG2 := hid (HG.out.below hw12)
 have HP2 := hid hP
 clear hP hb2 hw12 HG
 have HW := hid (Ints.made (w := w2) (E := 3) exRow (by decide +kernel) (by decide +kernel))
 have hs2 : w.heap.size + 1 <= w2.heap.size := by have := HB2.out.size; simpa using this
 have HQ2 : Hid (∀ o : Obj, Below w2.heap.size w2 (w2.alloc o)) := fun o => (Below.refl _ w2).alloc (Nat.le_refl _) _
 gi_wp2_with fail
 refine ⟨trivial, (callsIn_wide.2 (rInts_as (l := exRow) (m := exRow) cG 8 (HG2.out.below (HQ2.out _)) HW.out (show sameL exRow exRow = true from by decide +kernel))).mono ?_⟩
 rintro e w3 ⟨rfl, hb3⟩
 have HP3 := hid ((HP2.out.below (HQ2.out _)).below hb3)
 have HW3 := hid (HW.out.below hb3)
 have hw23 : Below w2.heap.size w2 w3 := (HQ2.out _).trans (hb3.mono (by simp))
 have HB3 : Hid (Below (w.heap.size + 1) (w.alloc (.cells #[.bool false] 4)) w3) := HB2.out.trans (hw23.mono hs2)
 clear hb3 hw23 HW HQ2 hs1
 gi_wp2_with fail
 refine ⟨trivial, (callsIn_wide.2 (rInts_as (l := exRow) (m := exRow) cP 8 HP3.out HW3.out (show sameL exRow exRow = true from by decide +kernel))).mono ?_⟩
 rintro e w4 ⟨rfl, hb4⟩
 have hs3 : w.heap.size + 1 <= w3.heap.size := by have := HB3.out.size; simpa using this
 have HB4 : Hid (Below (w.heap.size + 1) (w.alloc (.cells #[.bool false] 4)) w4) := HB3.out.trans (hb4.mono hs3)
 clear hb4 hs3 hs2 HB3 HB2 HB1 HG2 HP2 HP3 HW3 HI1
 gi_wp2_with fail
 refine ⟨trivial, (callsIn_wide.2 (tTiles 3 2 2 2 _)).mono ?_⟩
 rintro e w5 ⟨rfl, hw5⟩
 have HW5 := hid hw5
 clear hw5
 gi_wp2_with fail
 have hs4 : w.heap.size + 1 <= w4.heap.size := by have := HB4.out.size; simpa using this
 have hsz5 : w5.heap.size = w4.heap.size + 5 := by rw [HW5.out]; simp
 have hb5 : Below w4.heap.size w4 w5 := by
  rw [HW5.out]
  exact ((((((Below.refl _ w4).alloc (Nat.le_refl _) _).alloc (by simp) _).alloc (by simp; omega) _).alloc (by simp; omega) _).alloc (by simp; omega) _)
 have hres : w5.heap[w.heap.size]? = some (.cells #[.bool false] 4 (0, 0)) := by
  rw [hb5.block _ (by omega), HB4.out.block _ (by omega)]
  exact heap_alloc_new w _
 have hcnt : w5.heap[w4.heap.size]? = some (.cells #[.int .i64 0] 3 (0, 0)) := by
  rw [HW5.out]
  show (((((w4.heap.push _).push _).push _).push _).push _)[w4.heap.size]? = _
  simp only [Array.getElem?_push, Array.size_push]
  rw [if_neg (by omega), if_neg (by omega), if_neg (by omega), if_neg (by omega), if_pos trivial]
 have hbx : w5.cell? ⟨w4.heap.size + 1, 0, none⟩ = some (.int .i64 3) /\ w5.cell? ⟨w4.heap.size + 1 + 1, 0, none⟩ = some (.int .i64 2) /\ w5.cell? ⟨w4.heap.size + 1 + 2, 0, none⟩ = some (.int .i64 2) /\ w5.cell? ⟨w4.heap.size + 1 + 3, 0, none⟩ = some (.int .i64 2) := by
  rw [HW5.out]
  refine ⟨?_, ?_, ?_, ?_⟩
  ·exact cellOf (show (((((w4.heap.push _).push _).push _).push _).push _)[_]? = _ from by simp only [Array.getElem?_push, Array.size_push]; rw [if_neg (by omega), if_neg (by omega), if_neg (by omega), if_pos (by first | trivial | omega)])
  ·exact cellOf (show (((((w4.heap.push _).push _).push _).push _).push _)[_]? = _ from by simp only [Array.getElem?_push, Array.size_push]; rw [if_neg (by omega), if_neg (by omega), if_pos (by first | trivial | omega)])
  ·exact cellOf (show (((((w4.heap.push _).push _).push _).push _).push _)[_]? = _ from by simp only [Array.getElem?_push, Array.size_push]; rw [if_neg (by omega), if_pos (by first | trivial | omega)])
  ·exact cellOf (show (((((w4.heap.push _).push _).push _).push _).push _)[_]? = _ from by simp only [Array.getElem?_push, Array.size_push]; rw [if_pos (by first | trivial | omega)])
 obtain ⟨x0, x1, x2, x3⟩ := hbx
 have hit := tilesIter Fence.wide (5 - 1) trivial rfl (by omega) (w4.heap.size + 1) 3 2 2 2 (by omega) (by omega) (by omega) (by omega) (by omega) (by omega) (by omega) (by omega)
  (fun b => b < w.heap.size ∨ w4.heap.size < b /\ b < w4.heap.size + 5) (.inr (by omega)) (.inr (by omega)) (.inr (by omega)) (.inr (by omega)) w5 x0 x1 x2 x3
 have HBW5 : Hid (Below w.heap.size w w5) := HB0.out.trans ((HB4.out.mono (by omega)).trans (hb5.mono (by omega)))
 refine wpIn_iter rfl (by omega) (gf := 91) (lb := _) rfl trivial (enters_of Tryz.func91 (by kernel_rfl) rfl) hit (fun b hb => by omega)
  (fun k xs _ h => by rw [h]; rfl)
  (fun k W => W.heap[w.heap.size]? = some (.cells #[.bool false] 4 (0, 0)) /\ W.heap[w4.heap.size]? = some (.cells #[.int .i64 (k : Int)] 3 (0, 0)))
  (fun _ _ => False)
  (fun k A B row h hg hr => ⟨own_block A B row h.1 hg hr, own_block A B row h.2 hg hr⟩)
  (fun _ _ _ _ _ h _ _ => h)
  ⟨hres, hcnt⟩ ?body ?done ?stop
 case stop => intro D c W _ h; exact h.elim
 case done =>
  rintro D W hD ⟨hr, hc⟩ hH hK
  have c0 := cellOf hr
  have f0 := frozenOf hr
  have c1 : W.cell? ⟨w4.heap.size, 0, none⟩ = some (.int .i64 2) := by have := cellOf hc; rwa [exTiles] at this
  have hne : ¬ w4.heap.size = w.heap.size := by omega
  have HKk := hid hK
  have HHh := hid hH
  have HRr := hid hr
  clear hK hH hr hc
  gi_wp2
  have hK' := (KeepsOthers.setCell W ⟨w.heap.size, 0, none⟩ (.bool true)).same D _ HKk.out rfl
  refine ⟨by simp, .inl ⟨_, _, rfl, run_takeDeferred hK', ?_⟩⟩
  have hc5 := cell_kept (World.cell?_setCell_same' W ⟨w.heap.size, 0, none⟩ (.bool true) (by rw [c0]; rfl)) (grownBy_putObj' _ D (.deferred none)) (fun r e => by cases e; exact ⟨_, hK', rfl⟩)
  refine ⟨.bool true, ?_, rfl, ?_⟩
  ·simp [results, Tryz.f26, go_sem, hc5]
  ·exact (((HBW5.out.trans (HHh.out.below (fun k hk => .inl hk))).setCell (p := ⟨w.heap.size, 0, none⟩) (by simp) _).trans (belowK_b (w := w) (Nat.le_refl _) _ D _ _ (by omega) hK' rfl rfl))
 case body =>
  rintro l k xs W ⟨hr0, hc0⟩ hk rfl hH
  have hk2 : k = 0 ∨ k = 1 := by rw [exTiles] at hk; omega
  have HI1 := hid hr0
  have HI2 := hid hc0
  have HH := hid hH
  clear hr0 hc0 hH
  rcases hk2 with rfl | rfl
  ·rw [exTile0]
   gi_wp2
   have hHa : Held (fun b => b < w.heap.size ∨ w4.heap.size < b /\ b < w4.heap.size + 5) W (W.alloc (.cells #[.int .i64 0, .int .i64 0, .int .i64 2, .int .i64 2] 87)) := (Held.refl _ W).alloc (fun b hb => by have := HH.out.size; omega) _
   refine ⟨KeepsOthers.alloc _ _, hHa, fun A => (A.heap[w.heap.size]? = some (.cells #[.bool false] 4 (0, 0)) /\ A.heap[w4.heap.size]? = some (.cells #[.int .i64 ((0 : Nat) : Int)] 3 (0, 0))) /\ A.heap[W.heap.size]? = some (.cells #[.int .i64 0, .int .i64 0, .int .i64 2, .int .i64 2] 87 (0, 0)),
    fun _ A B row h hg hr => ⟨⟨own_block A B row h.1.1 hg hr, own_block A B row h.1.2 hg hr⟩, own_block A B row h.2 hg hr⟩,
    ⟨⟨(Below.heap_alloc _ _ _ (Array.getElem?_eq_some_iff.1 HI1.out).1).trans HI1.out, (Below.heap_alloc _ _ _ (Array.getElem?_eq_some_iff.1 HI2.out).1).trans HI2.out⟩, heap_alloc_new W _⟩, ?_⟩
   rintro W2 ⟨⟨hr, hc⟩, hb⟩ hH2
   have c0 : W2.cell? ⟨w4.heap.size, 0, none⟩ = some (.int .i64 0) := cellOf hc
   have f0 := frozenOf hc
   obtain ⟨b0, b1, b2, b3⟩ := cellOf4 hb
   have hne : ¬ w.heap.size = w4.heap.size := by omega
   have hlr := (Array.getElem?_eq_some_iff.1 hc).1
   have HR := hid hr
   have HC := hid hc
   clear hr hc hb hH2
   gi_wp2
   refine ⟨KeepsOthers.setCell _ _ _, (Held.refl _ _).setCell (p := ⟨w4.heap.size, 0, none⟩) (by simp; omega) _, (Below.heap_setCell _ _ _ _ (by simpa using hne)).trans HR.out, ?_⟩
   exact setHeap HC.out
  ·rw [exTile1]
   gi_wp2
   have hHa : Held (fun b => b < w.heap.size ∨ w4.heap.size < b /\ b < w4.heap.size + 5) W (W.alloc (.cells #[.int .i64 2, .int .i64 0, .int .i64 1, .int .i64 2] 87)) := (Held.refl _ W).alloc (fun b hb => by have := HH.out.size; omega) _
   refine ⟨KeepsOthers.alloc _ _, hHa, fun A => (A.heap[w.heap.size]? = some (.cells #[.bool false] 4 (0, 0)) /\ A.heap[w4.heap.size]? = some (.cells #[.int .i64 ((1 : Nat) : Int)] 3 (0, 0))) /\ A.heap[W.heap.size]? = some (.cells #[.int .i64 2, .int .i64 0, .int .i64 1, .int .i64 2] 87 (0, 0)),
    fun _ A B row h hg hr => ⟨⟨own_block A B row h.1.1 hg hr, own_block A B row h.1.2 hg hr⟩, own_block A B row h.2 hg hr⟩,
    ⟨⟨(Below.heap_alloc _ _ _ (Array.getElem?_eq_some_iff.1 HI1.out).1).trans HI1.out, (Below.heap_alloc _ _ _ (Array.getElem?_eq_some_iff.1 HI2.out).1).trans HI2.out⟩, heap_alloc_new W _⟩, ?_⟩
   rintro W2 ⟨⟨hr, hc⟩, hb⟩ hH2
   have c0 : W2.cell? ⟨w4.heap.size, 0, none⟩ = some (.int .i64 1) := cellOf hc
   have f0 := frozenOf hc
   obtain ⟨b0, b1, b2, b3⟩ := cellOf4 hb
   have hne : ¬ w.heap.size = w4.heap.size := by omega
   have hlr := (Array.getElem?_eq_some_iff.1 hc).1
   have HR := hid hr
   have HC := hid hc
   clear hr hc hb hH2
   gi_wp2
   refine ⟨KeepsOthers.setCell _ _ _, (Held.refl _ _).setCell (p := ⟨w4.heap.size, 0, none⟩) (by simp; omega) _, (Below.heap_setCell _ _ _ _ (by simpa using hne)).trans HR.out, ?_⟩
   exact setHeap HC.out
end Go.Proofs.YtoppijdedkdjeaaGreat
