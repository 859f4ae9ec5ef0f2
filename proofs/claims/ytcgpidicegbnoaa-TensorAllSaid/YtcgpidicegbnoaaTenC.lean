/-
  The walks of tensor.coordinates, tensor.At and of the reference's At: each returns what the plain function atL gives, in a new slice.
-/
import Derived.Test.YtcgpidicegbnoaaTenB
namespace Go.Proofs.Ytcgpidicegbnoaa
open Go.RowKit

/-- A new slice of integers, and nothing that was there has turned. -/
def NewInts (w : World) (l : List Int) (v : Value) (w' : World) : Prop := ∃ a c, v = .slice a l.length c ∧ Ints w' (fun b => w.heap.size ≤ b) a l ∧ Below w.heap.size w w'

set_option maxHeartbeats 800000 in
theorem tCoords {w : World} {F : Nat → Prop} {a : Option Addr} {l : List Int} (ca : Nat) (i : Int) (h : Ints w F a l) (hv : validL l = true) (hi0 : 0 ≤ i) (hi1 : i ≤ 16384) :
    Calls Try.prog 40 #[.slice a l.length ca, .int .i64 i] w fun e w' => ∃ v, e = .returned v ∧ NewInts w (coordsFrom l i).2 v w' := by
  obtain ⟨hv1, hv4⟩ := validL_len hv
  have hmem := validL_mem hv
  have HM := Lib.hid hmem
  clear hv hmem
  obtain ⟨i0, hi, hz0, hz1, hz2⟩ := info_parts Try.info3
  go_enter Try.func40, Try.ntmps40
  go_wp2_with (at_make; refine wpList_make_full _ rfl _ _ 22 rfl w.heap.size 3 i0 (.int .i64 0) 1 Try.underlying22 hi hz0 hz1 _ _ _ _ l.length rfl rfl rfl rfl ?b2 ?b3 (Nat.le_refl _) ?_)
  case b2 => rw [hz2]; omega
  case b3 => unfold maxLen; omega
  intro w0 hown0 hgrow0
  have HO : Hid (w0.ownsRow w.heap.size 3 1 (.slice (some ⟨w.heap.size, 0, none⟩) l.length l.length) l.length ((coordsRow l i l.length).map (Value.int .i64))) := by
    have e : (madeCells #[Value.int IntKind.i64 0] l.length).toList = (coordsRow l i l.length).map (Value.int .i64) := by
      rw [coordsRow_start]; simp [toList_madeCells_one]
    unfold Hid
    rw [← e]; exact hown0
  clear hown0 hz0 hz1 hz2 hi
  go_wp2
  go_loopw [1, 6] (fun q j wr => ∃ k : Nat, ∃ J Q : Int, k ≤ l.length ∧ J + 1 = (k : Int) ∧ j = .int .i64 J ∧ q = .int .i64 Q ∧ 0 ≤ Q ∧ Q ≤ i ∧ Hid (Q = (coordsFrom (l.drop k) i).1) ∧
      Hid (wr.ownsRow w.heap.size 3 1 (.slice (some ⟨w.heap.size, 0, none⟩) l.length l.length) l.length ((coordsRow l i k).map (Value.int .i64))) ∧ Below w.heap.size w wr)
    (fun _ j _ => ((intOf j) + 1).toNat)
  case atStart => exact ⟨l.length, _, _, by omega, by omega, rfl, rfl, hi0, Int.le_refl _, by simp [Hid, coordsFrom], HO, (Below.refl _ _).grown hgrow0 (Nat.le_refl _) (fun k h => by cases h)⟩
  case round =>
    obtain ⟨k, J, Q, hk, hJ, rfl, rfl, hQ0, hQ1, HQ, hown, hbel⟩ := hrel
    cases k with
    | zero =>
      obtain rfl : J = -1 := by omega
      go_wp2
      go_ret
      refine ⟨.slice (some ⟨w.heap.size, 0, none⟩) l.length l.length, rfl, ?_⟩
      have ho := hown.out
      rw [coordsRow_zero] at ho
      have hcl := coordsFrom_len l i
      rw [← hcl] at ho
      obtain ⟨a', c', hv', hI⟩ := Ints.own (l := (coordsFrom l i).2) ho (coords_wf HM.out hi0 hi1) (by omega)
      rw [hcl] at hv'
      exact ⟨a', c', by rw [hcl]; exact hv', hI.mono (fun b _ hb => by simp [Value.ownBlock] at hb; omega), hbel⟩
    | succ k =>
      obtain rfl : J = (k : Int) := by omega
      obtain ⟨b1, o1, d, rfl, hd0, _, hld, hb1, _, _, _⟩ := h.pick2 (show k < l.length by omega)
      have hd : wr.cell? ⟨b1, o1 + k, none⟩ = some (.int .i64 d) := (hbel.cell (p := ⟨b1, o1 + k, none⟩) hb1).trans hd0
      have hd1 := HM.out d (by have := List.mem_cons_self (a := d) (l := l.drop (k + 1)); rw [← hld] at this; exact List.mem_of_mem_drop this)
      have hs := coords_step hld i
      have HS := Lib.hid hs
      have HD := Lib.hid hld
      have hcell : wr.cell? ⟨w.heap.size, k, none⟩ = ((coordsRow l i (k + 1)).map (Value.int .i64))[k]? := hown.out.cellAt k (by omega)
      have hfr : wr.frozen? ⟨w.heap.size, k, none⟩ = false := hown.out.frozenAt k
      obtain ⟨z, hz⟩ : ∃ z, ((coordsRow l i (k + 1)).map (Value.int .i64))[k]? = some z := ⟨_, List.getElem?_eq_getElem (by simp; rw [coordsRow_len _ _ _ hk]; omega)⟩
      rw [hz] at hcell
      have hd' : (wr.setCell ⟨w.heap.size, k, none⟩ (.int .i64 (Q % d))).cell? ⟨b1, o1 + k, none⟩ = some (.int .i64 d) := (cell_other (by show b1 ≠ w.heap.size; omega)).trans hd
      have hst := hown.out.stored k (.int .i64 (Q % d))
      have HW := Lib.hid hst
      clear hst hz hs hld hd0 h
      have hd2 : 1 ≤ d := hd1.1
      have hq1 := Int.ediv_nonneg hQ0 (show 0 ≤ d by omega)
      have hq2 := Int.ediv_le_self d hQ0
      clear hd1
      go_wp2
      go_roundw
      case rel =>
        refine ⟨k, (k : Int) - 1, Q / d, by omega, by omega, rfl, rfl, hq1, by omega, by unfold Hid; rw [HS.out.1, HQ.out], ?_, hbel.setCell (Nat.le_refl _) _⟩
        have := HW.out.1
        rw [← List.map_set, HQ.out, coordsRow_step HD.out] at this
        rw [HQ.out]
        exact this
      case measure => simp [intOf]

/-- At's contract: a new slice (nil with an error), and nothing that was there has turned. -/
def AtPost (w : World) (l : List Int) (i : Int) (e : Ending) (w' : World) : Prop :=
  ∃ v, e = .returned (.tuple #[v, .int .i64 (atL l i).2]) ∧ NewInts w (atL l i).1 v w'

theorem newNil (w : World) : NewInts w [] (.slice none 0 0) w := ⟨none, 0, rfl, Ints.nil _ _ _, Below.refl _ _⟩

theorem atL_bad {l : List Int} {i : Int} (h : validL l = false) : atL l i = ([], 1) := by simp [atL, h]
theorem atL_out {l : List Int} {i : Int} (h : validL l = true) (hi : i < 0 ∨ sizeL l ≤ i) : atL l i = ([], 2) := by simp [atL, h, hi]
theorem atL_in {l : List Int} {i : Int} (h : validL l = true) (h0 : ¬ i < 0) (h1 : ¬ sizeL l ≤ i) : atL l i = ((coordsFrom l i).2, 0) := by
  simp [atL, h]; omega
theorem atPost_of {w w' : World} {l : List Int} {i : Int} {v : Value} {p : List Int × Int} (hp : atL l i = p) (hn : NewInts w p.1 v w') :
    AtPost w l i (.returned (.tuple #[v, .int .i64 p.2])) w' := by
  subst hp; exact ⟨v, rfl, hn⟩

set_option maxHeartbeats 800000 in
theorem tAt {w : World} {F : Nat → Prop} {a : Option Addr} {l : List Int} (ca : Nat) (i : Int) (h : Ints w F a l) :
    Calls Try.prog 28 #[.slice a l.length ca, .int .i64 i] w (AtPost w l i) := by
  have hV := tValid ca h
  have hZ := tSize ca h
  cases hv : validL l
  · rw [hv] at hV
    have HS := Lib.hid (atL_bad (i := i) hv)
    have HV := Lib.hid hV
    clear hv hV hZ
    go_enter Try.func28, Try.ntmps28
    go_wp2_with (go_at_call 25; refine HV.out.mono ?_; rintro e w' ⟨rfl, rfl⟩)
    go_ret2
    exact atPost_of HS.out (newNil w)
  rw [hv] at hV
  have HV := Lib.hid hV
  have HZ := Lib.hid hZ
  have hsz := sizeL_bd l
  by_cases h0 : i < 0
  · have HS := Lib.hid (atL_out hv (.inl h0))
    clear hv hV hZ
    go_enter Try.func28, Try.ntmps28
    go_wp2_with (go_at_call 25; refine HV.out.mono ?_; rintro e w' ⟨rfl, rfl⟩)
    go_ret2
    exact atPost_of HS.out (newNil w)
  by_cases h1 : sizeL l ≤ i
  · have HS := Lib.hid (atL_out hv (.inr h1))
    clear hv hV hZ
    go_enter Try.func28, Try.ntmps28
    go_wp2_with (first | (go_at_call 25; refine HV.out.mono ?_; rintro e w' ⟨rfl, rfl⟩) | (go_at_call 27; refine HZ.out.mono ?_; rintro e w' ⟨rfl, rfl⟩))
    go_ret2
    exact atPost_of HS.out (newNil w)
  have HS := Lib.hid (atL_in hv h0 h1)
  have HC := Lib.hid (tCoords ca i h hv (by omega) (by omega))
  clear hv hV hZ
  go_enter Try.func28, Try.ntmps28
  go_wp2_with (first
    | (go_at_call 25; refine HV.out.mono ?_; rintro e w' ⟨rfl, rfl⟩)
    | (go_at_call 27; refine HZ.out.mono ?_; rintro e w' ⟨rfl, rfl⟩)
    | (go_at_call 40; refine HC.out.mono ?_; rintro e w' ⟨v, rfl, hn⟩; have HN := Lib.hid hn; clear hn))
  go_ret2
  exact atPost_of HS.out ((by assumption : Hid _).out)

set_option maxHeartbeats 1600000 in
theorem rAt {w : World} {F : Nat → Prop} {a : Option Addr} {l : List Int} (ca : Nat) (i : Int) (h : Ints w F a l) :
    Calls Try.prog 29 #[.slice a l.length ca, .int .i64 i] w (AtPost w l i) := by
  have hV := rValid ca h
  have hZ := rSize ca h
  cases hv : validL l
  · rw [hv] at hV
    have HS := Lib.hid (atL_bad (i := i) hv)
    have HV := Lib.hid hV
    clear hv hV hZ
    go_enter Try.func29, Try.ntmps29
    go_wp2_with (go_at_call 26; refine HV.out.mono ?_; rintro e w' ⟨rfl, rfl⟩)
    go_ret2
    exact atPost_of HS.out (newNil w)
  rw [hv] at hV
  have HV := Lib.hid hV
  have HZ := Lib.hid hZ
  have hsz := sizeL_bd l
  by_cases h0 : i < 0
  · have HS := Lib.hid (atL_out hv (.inl h0))
    clear hv hV hZ
    go_enter Try.func29, Try.ntmps29
    go_wp2_with (go_at_call 26; refine HV.out.mono ?_; rintro e w' ⟨rfl, rfl⟩)
    go_ret2
    exact atPost_of HS.out (newNil w)
  by_cases h1 : sizeL l ≤ i
  · have HS := Lib.hid (atL_out hv (.inr h1))
    clear hv hV hZ
    go_enter Try.func29, Try.ntmps29
    go_wp2_with (first | (go_at_call 26; refine HV.out.mono ?_; rintro e w' ⟨rfl, rfl⟩) | (go_at_call 24; refine HZ.out.mono ?_; rintro e w' ⟨rfl, rfl⟩))
    go_ret2
    exact atPost_of HS.out (newNil w)
  have HS0 := Lib.hid (atL_in hv h0 h1)
  obtain ⟨hv1, hv4⟩ := validL_len hv
  have hmem := validL_mem hv
  have HM := Lib.hid hmem
  have hi0 : 0 ≤ i := by omega
  have hi1 : i ≤ 16384 := by omega
  clear hv hV hZ hmem
  obtain ⟨i0, hi, hz0, hz1, hz2⟩ := info_parts Try.info3
  go_enter Try.func29, Try.ntmps29
  go_wp2_with (first
    | (go_at_call 26; refine HV.out.mono ?_; rintro e w' ⟨rfl, rfl⟩)
    | (go_at_call 24; refine HZ.out.mono ?_; rintro e w' ⟨rfl, rfl⟩)
    | (at_make; refine wpList_make_full _ rfl _ _ 22 rfl w.heap.size 3 i0 (.int .i64 0) 1 Try.underlying22 hi hz0 hz1 _ _ _ _ l.length rfl rfl rfl rfl ?b2 ?b3 (Nat.le_refl _) ?_))
  case b2 => rw [hz2]; omega
  case b3 => unfold maxLen; omega
  intro w0 hown0 hgrow0
  have HO : Hid (w0.ownsRow w.heap.size 3 1 (.slice (some ⟨w.heap.size, 0, none⟩) l.length l.length) l.length ((coordsRow l i l.length).map (Value.int .i64))) := by
    have e : (madeCells #[Value.int IntKind.i64 0] l.length).toList = (coordsRow l i l.length).map (Value.int .i64) := by
      rw [coordsRow_start]; simp [toList_madeCells_one]
    unfold Hid
    rw [← e]; exact hown0
  clear hown0 hz0 hz1 hz2 hi
  go_wp2
  go_loopw [1, 7] (fun q j wr => ∃ k : Nat, ∃ J Q : Int, k ≤ l.length ∧ J + 1 = (k : Int) ∧ j = .int .i64 J ∧ q = .int .i64 Q ∧ 0 ≤ Q ∧ Q ≤ i ∧ Hid (Q = (coordsFrom (l.drop k) i).1) ∧
      Hid (wr.ownsRow w.heap.size 3 1 (.slice (some ⟨w.heap.size, 0, none⟩) l.length l.length) l.length ((coordsRow l i k).map (Value.int .i64))) ∧ Below w.heap.size w wr)
    (fun _ j _ => ((intOf j) + 1).toNat)
  case atStart => exact ⟨l.length, _, _, by omega, by omega, rfl, rfl, hi0, Int.le_refl _, by simp [Hid, coordsFrom], HO, (Below.refl _ _).grown hgrow0 (Nat.le_refl _) (fun k h => by cases h)⟩
  case round =>
    obtain ⟨k, J, Q, hk, hJ, rfl, rfl, hQ0, hQ1, HQ, hown, hbel⟩ := hrel
    cases k with
    | zero =>
      obtain rfl : J = -1 := by omega
      go_wp2
      go_ret2
      refine atPost_of (v := .slice (some ⟨w.heap.size, 0, none⟩) l.length l.length) HS0.out ?_
      have ho := hown.out
      rw [coordsRow_zero] at ho
      have hcl := coordsFrom_len l i
      rw [← hcl] at ho
      obtain ⟨a', c', hv', hI⟩ := Ints.own (l := (coordsFrom l i).2) ho (coords_wf HM.out hi0 hi1) (by omega)
      rw [hcl] at hv'
      exact ⟨a', c', by rw [hcl]; exact hv', hI.mono (fun b _ hb => by simp [Value.ownBlock] at hb; omega), hbel⟩
    | succ k =>
      obtain rfl : J = (k : Int) := by omega
      obtain ⟨b1, o1, d, rfl, hd0, _, hld, hb1, _, _, _⟩ := h.pick2 (show k < l.length by omega)
      have hd : wr.cell? ⟨b1, o1 + k, none⟩ = some (.int .i64 d) := (hbel.cell (p := ⟨b1, o1 + k, none⟩) hb1).trans hd0
      have hd1 := HM.out d (by have := List.mem_cons_self (a := d) (l := l.drop (k + 1)); rw [← hld] at this; exact List.mem_of_mem_drop this)
      have hs := coords_step hld i
      have HS := Lib.hid hs
      have HD := Lib.hid hld
      have hcell : wr.cell? ⟨w.heap.size, k, none⟩ = ((coordsRow l i (k + 1)).map (Value.int .i64))[k]? := hown.out.cellAt k (by omega)
      have hfr : wr.frozen? ⟨w.heap.size, k, none⟩ = false := hown.out.frozenAt k
      obtain ⟨z, hz⟩ : ∃ z, ((coordsRow l i (k + 1)).map (Value.int .i64))[k]? = some z := ⟨_, List.getElem?_eq_getElem (by simp; rw [coordsRow_len _ _ _ hk]; omega)⟩
      rw [hz] at hcell
      have hd' : (wr.setCell ⟨w.heap.size, k, none⟩ (.int .i64 (Q % d))).cell? ⟨b1, o1 + k, none⟩ = some (.int .i64 d) := (cell_other (by show b1 ≠ w.heap.size; omega)).trans hd
      have hst := hown.out.stored k (.int .i64 (Q % d))
      have HW := Lib.hid hst
      clear hst hz hs hld hd0 h
      have hd2 : 1 ≤ d := hd1.1
      have hq1 := Int.ediv_nonneg hQ0 (show 0 ≤ d by omega)
      have hq2 := Int.ediv_le_self d hQ0
      clear hd1
      go_wp2
      go_roundw
      case rel =>
        refine ⟨k, (k : Int) - 1, Q / d, by omega, by omega, rfl, rfl, hq1, by omega, by unfold Hid; rw [HS.out.1, HQ.out], ?_, hbel.setCell (Nat.le_refl _) _⟩
        have := HW.out.1
        rw [← List.map_set, HQ.out, coordsRow_step HD.out] at this
        rw [HQ.out]
        exact this
      case measure => simp [intOf]

end Go.Proofs.Ytcgpidicegbnoaa
