/-
  tensor.All: its iterator's contract; rows of rows while a range over a function runs.
-/
import Derived.Test.YtcgpidicegbnoaaRangeB
import Derived.Test.YtcgpidicegbnoaaTenM
namespace Go.Proofs.Ytcgpidicegbnoaa
open Go.RowKit Go.Shelf
attribute [local go_sem] Oper.semAt_some

theorem callsIn_round {F : Fence} {l n : Nat} {P : Program} {f : FuncId} {args : Array Value} {w : World} {R : Ending → World → Prop} (h : CallsIn F n P f args w R) : CallsIn (F.inRound l) n P f args w R := h

set_option maxHeartbeats 400000 in
theorem tAll (a : Option Addr) (n c : Nat) (w : World) : Calls Try.prog 30 #[.slice a n c] w fun e w' =>
    e = .returned (.func (.func 41) #[] #[.pointer (some ⟨w.heap.size, 0, none⟩)]) ∧ w' = w.alloc (.cells #[.slice a n c] 22) := by
  have hmf : ∀ (fn : Fn) (first cap : Array Value) (w : World), (Instr.makeFunc fn first cap).run Try.prog w = .ok (.func fn first cap) w := fun _ _ _ _ => rfl
  go_enter Try.func30, Try.ntmps30
  go_wp2
  go_ret
  exact ⟨rfl, rfl⟩

set_option maxHeartbeats 800000 in
theorem tCoordsC {w : World} {F : Nat → Prop} {a : Option Addr} {l : List Int} (ca : Nat) (i : Int) (h : Ints w F a l) (hv : validL l = true) (hi0 : 0 ≤ i) (hi1 : i ≤ 16384) :
    Calls Try.prog 40 #[.slice a l.length ca, .int .i64 i] w fun e w' => ∃ a c, e = .returned (.slice a (coordsFrom l i).2.length c) ∧ Ints w' (fun b => w.heap.size ≤ b) a (coordsFrom l i).2 ∧ (coordsFrom l i).2.length ≤ c ∧ Below w.heap.size w w' := by
  obtain ⟨hv1, hv4⟩ := validL_len hv
  have hmem := validL_mem hv
  have HM := Lib.hid hmem
  clear hv hmem
  obtain ⟨i0, hi, hz0, hz1, hz2⟩ := info_parts Try.info3
  go_enter Try.func40, Try.ntmps40
  go_wp2_with (at_make; refine wpList_make_full _ rfl _ _ 22 rfl w.heap.size 3 i0 (.int .i64 0) 1 Try.underlying22 hi hz0 hz1 _ _ _ _ l.length rfl rfl rfl rfl ?b2 ?b3 (Nat.le_refl _) ?_)
  case b2 => rw [hz2]; omega
  case b3 => unfold maxLen; omega
  intro w0 hown0 hgrow0
  have HO : Hid (w0.ownsRow w.heap.size 3 1 (.slice (some ⟨w.heap.size, 0, none⟩) l.length l.length) l.length ((coordsRow l i l.length).map (Value.int .i64))) := by
    have e : (madeCells #[Value.int IntKind.i64 0] l.length).toList = (coordsRow l i l.length).map (Value.int .i64) := by
      rw [coordsRow_start]; simp [toList_madeCells_one]
    unfold Hid
    rw [← e]; exact hown0
  clear hown0 hz0 hz1 hz2 hi
  go_wp2
  go_loopw [1, 6] (fun q j wr => ∃ k : Nat, ∃ J Q : Int, k ≤ l.length ∧ J + 1 = (k : Int) ∧ j = .int .i64 J ∧ q = .int .i64 Q ∧ 0 ≤ Q ∧ Q ≤ i ∧ Hid (Q = (coordsFrom (l.drop k) i).1) ∧
      Hid (wr.ownsRow w.heap.size 3 1 (.slice (some ⟨w.heap.size, 0, none⟩) l.length l.length) l.length ((coordsRow l i k).map (Value.int .i64))) ∧ Below w.heap.size w wr)
    (fun _ j _ => ((intOf j) + 1).toNat)
  case atStart => exact ⟨l.length, _, _, by omega, by omega, rfl, rfl, hi0, Int.le_refl _, by simp [Hid, coordsFrom], HO, (Below.refl _ _).grown hgrow0 (Nat.le_refl _) (fun k h => by cases h)⟩
  case round =>
    obtain ⟨k, J, Q, hk, hJ, rfl, rfl, hQ0, hQ1, HQ, hown, hbel⟩ := hrel
    cases k with
    | zero =>
      obtain rfl : J = -1 := by omega
      go_wp2
      go_ret
      have ho := hown.out
      rw [coordsRow_zero] at ho
      have hcl := coordsFrom_len l i
      rw [← hcl] at ho
      obtain ⟨a', c', hv', hI⟩ := Ints.own (l := (coordsFrom l i).2) ho (coords_wf HM.out hi0 hi1) (by omega)
      rw [hcl] at hv'
      cases hv'
      exact ⟨some ⟨w.heap.size, 0, none⟩, l.length, congrArg (fun n => Ending.returned (Value.slice (some ⟨w.heap.size, 0, none⟩) n l.length)) hcl.symm, hI.mono (fun b _ hb => by simp [Value.ownBlock] at hb; omega), by omega, hbel⟩
    | succ k =>
      obtain rfl : J = (k : Int) := by omega
      obtain ⟨b1, o1, d, rfl, hd0, _, hld, hb1, _, _, _⟩ := h.pick2 (show k < l.length by omega)
      have hd : wr.cell? ⟨b1, o1 + k, none⟩ = some (.int .i64 d) := (hbel.cell (p := ⟨b1, o1 + k, none⟩) hb1).trans hd0
      have hd1 := HM.out d (by have := List.mem_cons_self (a := d) (l := l.drop (k + 1)); rw [← hld] at this; exact List.mem_of_mem_drop this)
      have hs := coords_step hld i
      have HS := Lib.hid hs
      have HD := Lib.hid hld
      have hcell : wr.cell? ⟨w.heap.size, k, none⟩ = ((coordsRow l i (k + 1)).map (Value.int .i64))[k]? := hown.out.cellAt k (by omega)
      have hfr : wr.frozen? ⟨w.heap.size, k, none⟩ = false := hown.out.frozenAt k
      obtain ⟨z, hz⟩ : ∃ z, ((coordsRow l i (k + 1)).map (Value.int .i64))[k]? = some z := ⟨_, List.getElem?_eq_getElem (by simp; rw [coordsRow_len _ _ _ hk]; omega)⟩
      rw [hz] at hcell
      have hd' : (wr.setCell ⟨w.heap.size, k, none⟩ (.int .i64 (Q % d))).cell? ⟨b1, o1 + k, none⟩ = some (.int .i64 d) := (cell_other (by show b1 ≠ w.heap.size; omega)).trans hd
      have hst := hown.out.stored k (.int .i64 (Q % d))
      have HW := Lib.hid hst
      clear hst hz hs hld hd0 h
      have hd2 : 1 ≤ d := hd1.1
      have hq1 := Int.ediv_nonneg hQ0 (show 0 ≤ d by omega)
      have hq2 := Int.ediv_le_self d hQ0
      clear hd1
      go_wp2
      go_roundw
      case rel =>
        refine ⟨k, (k : Int) - 1, Q / d, by omega, by omega, rfl, rfl, hq1, by omega, by unfold Hid; rw [HS.out.1, HQ.out], ?_, hbel.setCell (Nat.le_refl _) _⟩
        have := HW.out.1
        rw [← List.map_set, HQ.out, coordsRow_step HD.out] at this
        rw [HQ.out]
        exact this
      case measure => simp [intOf]

/-- What All yields in round k: the index and its coordinates, in memory that is new. -/
def AllAt (l : List Int) (k : Nat) (A0 : World) (xs : Array Value) (A : World) : Prop :=
  ∃ a c, xs = #[.int .i64 (k : Int), .slice a (coordsFrom l k).2.length c] ∧ Ints A (fun b => A0.heap.size ≤ b) a (coordsFrom l k).2 ∧ (coordsFrom l k).2.length ≤ c

set_option maxRecDepth 100000 in
set_option maxHeartbeats 4000000 in
theorem allIter (b : Nat) (a : Option Addr) (l : List Int) (cap N : Nat) (hN : sizeL l = (N : Int)) (Pr : Nat → Prop) (hp : Pr b) (W0 : World)
    (c0 : W0.cell? ⟨b, 0, none⟩ = some (.slice a l.length cap)) (h : Ints W0 Pr a l) :
    IterOk2 Fence.wide (5 - 1) Try.prog 41 #[.pointer (some ⟨b, 0, none⟩)] N (AllAt l) Pr W0 := by
  intro ln I Ix W hW hIb hIW hY h0
  have HC : Hid (∀ k A, I k A → A.cell? ⟨b, 0, none⟩ = some (.slice a l.length cap) ∧ Ints A Pr a l) := fun k A hi => by
    have hh := hW.trans (hIW k A hi)
    exact ⟨(hh.cell (p := ⟨b, 0, none⟩) hp).trans c0, h.frame hh.size (fun b hb _ => hh.block b hb)⟩
  obtain ⟨d0, hI0⟩ := HC.out 0 W h0
  have hlen := h.len
  have hsz := sizeL_bd l
  have HY := Lib.hid hY
  have HIb := Lib.hid hIb
  have HI0 := Lib.hid h0
  have HS := Lib.hid (tSize cap hI0)
  have HN := Lib.hid hN
  have hN2 : N ≤ 16384 := by omega
  clear hY hIb hIW c0 hW h hI0 h0 hsz
  refine callsIn_of_wp Try.func41 rfl trivial ?_ rfl
  simp only [Try.ntmps41, List.size_toArray, List.length_cons, List.length_nil, Nat.reduceAdd, Nat.reduceSub, Array.replicate_succ, Array.replicate_zero, List.push_toArray, List.append_toArray, List.nil_append, List.cons_append]
  clear hN
  gi_wp2_with fail
  refine ⟨trivial, (callsIn_wide.2 HS.out).mono ?_⟩
  rintro e w1 ⟨rfl, rfl⟩
  rw [HN.out]
  clear d0
  gi_wp2_with fail
  gi_loopw [6] (fun r wr => ∃ k : Nat, k ≤ N ∧ r = .int .i64 k ∧ Hid (I k wr)) (fun r _ => N - (intOf r).toNat)
  case atStart => exact ⟨0, Nat.zero_le _, rfl, HI0⟩
  case round =>
    obtain ⟨k, hk, rfl, hIk⟩ := hrel
    by_cases hlt : k < N
    · obtain ⟨d0, hI⟩ := HC.out _ _ hIk.out
      have hv : validL l = true := by
        cases hv : validL l
        · have := HN.out; simp [sizeL, hv] at this; omega
        · rfl
      have HT := Lib.hid (tCoordsC cap (k : Int) hI hv (by omega) (by omega))
      clear hv hI
      gi_wp2_with fail
      refine ⟨trivial, (callsIn_wide.2 HT.out).mono ?_⟩
      rintro e A ⟨a2, c2, rfl, hj, hjc, hb⟩
      obtain ⟨fn, tmps, assign, body, hy, hR⟩ := HY.out k wr A _ hIk.out hb hlt ⟨a2, c2, rfl, hj, hjc⟩
      have HRo := Lib.hid hR
      clear hR hj hb hjc d0
      gi_wp2
      refine HRo.out.mono ?_
      rintro e W' (⟨rfl, hI'⟩ | ⟨rfl, hx⟩)
      · have HI' := Lib.hid hI'
        clear hI' hy
        gi_wp2
        go_roundw
        case rel => exact ⟨k + 1, hlt, by go_num, HI'⟩
        case measure => simp [intOf]; omega
      · gi_wp2
        refine bodyPost_ret (results_none rfl _ _ _) rfl ?_
        exact ⟨⟨_, rfl⟩, .inr hx⟩
    · obtain rfl : k = N := by omega
      have HIi := hIk
      clear hIk
      gi_wp2
      go_end0
      exact ⟨⟨_, rfl⟩, .inl HIi.out⟩

end Go.Proofs.Ytcgpidicegbnoaa
