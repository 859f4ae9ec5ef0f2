/-
  The walk of the statement TensorWindows.
-/
import Derived.Test.YtcgpidicegbnoaaTenM
import Derived.Test.YtcgpidicegbnoaaOpen
namespace Go.Proofs.Ytcgpidicegbnoaa
open Go.RowKit

/-- The cells of a block whose values are known, in a later world. -/
theorem box_cells {w w' : World} {cs : Array Value} {T : Nat} (hb : Below (w.heap.size + 1) (w.alloc (.cells cs T)) w') (j : Nat) (v : Value) (hj : cs[j]? = some v) :
    w'.cell? ⟨w.heap.size, j, none⟩ = some v := by
  rw [hb.cell (p := ⟨w.heap.size, j, none⟩) (by simp)]
  rw [World.cell?_alloc_at _ _ _ _ rfl]
  simpa using hj

theorem rInts_is {w : World} {F G : Nat → Prop} {a b : Option Addr} {l m : List Int} (ca cb : Nat) (h : Ints w F a l) (g : Ints w G b m) {t : Bool} (hp : sameL l m = t) :
    Calls Try.prog 22 #[.slice a l.length ca, .slice b m.length cb] w fun e w' => e = .returned (.bool t) ∧ ∃ n, w' = w.drewN n := by
  subst hp; exact rInts ca cb h g

theorem size_lt_alloc (w : World) (o : Obj) : w.heap.size ≤ (w.alloc o).heap.size := by simp

set_option maxRecDepth 100000 in
set_option maxHeartbeats 3200000 in
theorem lawTensorWindows {w : World} {a : Option Addr} {l : List Int} (c : Nat) (kh kw s p : Int) (h : Ints w Any a l) (hreach : l.length * 8 ≤ 140737488351232) :
    Calls Try.prog 4 #[kernelV a l.length c kh kw s p] w fun e w' => e = .returned (.bool true) ∧ Below w.heap.size w w' := by
  have HA := Lib.hid (awake11 (w.alloc (.cells #[.slice a l.length c, .int .i64 kh, .int .i64 kw, .int .i64 s, .int .i64 p] 29)))
  have HC : Hid (∀ w', Below (w.heap.size + 1) (w.alloc (.cells #[.slice a l.length c, .int .i64 kh, .int .i64 kw, .int .i64 s, .int .i64 p] 29)) w' →
      (w'.cell? ⟨w.heap.size, 0, none⟩ = some (.slice a l.length c) ∧ w'.cell? ⟨w.heap.size, 1, none⟩ = some (.int .i64 kh) ∧ w'.cell? ⟨w.heap.size, 2, none⟩ = some (.int .i64 kw) ∧
        w'.cell? ⟨w.heap.size, 3, none⟩ = some (.int .i64 s) ∧ w'.cell? ⟨w.heap.size, 4, none⟩ = some (.int .i64 p)) ∧ Below w.heap.size w w' ∧ w.heap.size + 1 ≤ w'.heap.size) := fun w' hb =>
    ⟨⟨box_cells hb 0 _ rfl, box_cells hb 1 _ rfl, box_cells hb 2 _ rfl, box_cells hb 3 _ rfl, box_cells hb 4 _ rfl⟩,
      ((Below.refl _ w).alloc (Nat.le_refl _) _).trans (hb.mono (by omega)), by have := hb.size; simpa using this⟩
  have HI := Lib.hid h
  have hlen := h.len
  clear h
  go_enter Try.func4, Try.ntmps4
  go_wp2_with fail
  refine HA.out.mono ?_
  rintro e w1 ⟨rfl, hb1⟩
  simp only [World.size_alloc] at hb1
  obtain ⟨⟨c0, c1, c2, c3, c4⟩, hw1, hs1⟩ := HC.out w1 hb1
  have HS := Lib.hid (tSmall c kh kw s p (HI.out.below hw1))
  cases hsm : smallB l kh kw
  · rw [hsm] at HS
    clear hsm
    go_wp2_with fail
    refine HS.out.mono ?_
    rintro e w2 ⟨rfl, hb2⟩
    go_wp2_with fail
    refine (awake11 w2).mono ?_
    rintro e w3 ⟨rfl, hb3⟩
    go_wp2
    go_ret
    exact ⟨rfl, hw1.trans ((hb2.mono hw1.size).trans (hb3.mono (Nat.le_trans hw1.size hb2.size)))⟩
  rw [hsm] at HS
  clear hsm
  go_wp2_with fail
  refine HS.out.mono ?_
  rintro e w2 ⟨rfl, hb2⟩
  have hk2 := hb1.trans (hb2.mono hs1)
  clear c0 c1 c2 c3 c4 hb2 hb1 hs1 HS
  obtain ⟨⟨c0, c1, c2, c3, c4⟩, hw2, hs2⟩ := HC.out w2 hk2
  have hown0 := World.ownsRow_made (base := w.heap.size + 1) (e := 3) (size := 1) w2 #[] 0 hs2 (by unfold maxLen; omega) rfl
  have hq := HI.out.below (hw2.trans ((Below.refl _ w2).alloc hw2.size (.cells #[] 3)))
  have HQ := Lib.hid hq
  have HO0 := Lib.hid hown0
  clear hown0 hq
  have c0' : ∀ o, (w2.alloc o).cell? ⟨w.heap.size, 0, none⟩ = some (.slice a l.length c) := fun o => (((Below.refl _ w2).alloc (Nat.le_refl _) o).cell (p := ⟨w.heap.size, 0, none⟩) (show w.heap.size < w2.heap.size by omega)).trans c0
  go_wp2_with (at_builtin; refine wpList_appInts rfl (.tmp 21) (.tmp 23) 22 rfl (w.heap.size + 1) 3 (.int .i64 0) 8 Try.underlying22 Try.info3 rfl _ 0 [] rfl HO0.out c HQ.out rfl (by omega) (by unfold maxLen; omega) (by simp only [World.size_alloc]; omega) ?_)
  intro v w3 hown hg hn
  have hk3 : Below (w.heap.size + 1) (w.alloc (.cells #[.slice a l.length c, .int .i64 kh, .int .i64 kw, .int .i64 s, .int .i64 p] 29)) w3 :=
    (hk2.alloc hs2 _).grown hg (by simp only [World.size_alloc]; omega) (fun k hk => (HO0.out.lt k hk).1)
  have hown1 : w3.ownsRow (w.heap.size + 1) 3 1 v l.length (l.map (Value.int .i64)) := by simpa using hown
  obtain ⟨av, cv, rfl, hIv⟩ := Ints.own hown1 HI.out.wf hlen
  have HV := Lib.hid hIv
  clear c0 c1 c2 c3 c4 hs2 HO0 HQ c0' hown hg hn hown1 hIv
  obtain ⟨⟨c0, c1, c2, c3, c4⟩, hw3, hs3⟩ := HC.out w3 hk3
  go_wp2_with fail
  refine (tWin cv kh kw s p HV.out).mono ?_
  rintro e w4 ⟨aA, cA, rfl, hA, hb4⟩
  have hk4 := hk3.trans (hb4.mono hs3)
  have HV4 := Lib.hid (HV.out.below hb4)
  clear c0 c1 c2 c3 c4 hk2
  obtain ⟨⟨c0, c1, c2, c3, c4⟩, hw4, hs4⟩ := HC.out w4 hk4
  go_wp2_with fail
  refine (rWin c kh kw s p (HI.out.below hw4)).mono ?_
  rintro e w5 ⟨aB, cB, rfl, hB, hb5⟩
  have hk5 := hk4.trans (hb5.mono hs4)
  have HV5 := Lib.hid (HV4.out.below hb5)
  have hA5 := hA.below hb5
  clear c0 c1 c2 c3 c4 hs3 hA hw3 hb4 hb5 hk3 HV4 HV
  obtain ⟨⟨c0, c1, c2, c3, c4⟩, hw5, hs5⟩ := HC.out w5 hk5
  have HI5 := Lib.hid (HI.out.below hw5)
  generalize windowsL l kh kw s p = R at *
  obtain ⟨L, rr, cc, ee⟩ := R
  dsimp only at hA5 hB
  go_wp2_with fail
  refine (rInts_is cv c HV5.out HI5.out (show sameL l l = true by simp [sameL])).mono ?_
  rintro e w6 ⟨rfl, n6, rfl⟩
  have hlA := hA5.len
  go_wp2
  go_loopw [12] (fun i wr => ∃ k : Nat, k ≤ L.length ∧ i = .int .i64 k ∧ Below w5.heap.size w5 wr) (fun i _ => L.length - (intOf i).toNat)
  case atStart => exact ⟨0, by omega, rfl, below_drewN (Below.refl _ _) _⟩
  case round =>
    obtain ⟨k, hk, rfl, hbr⟩ := hrel
    by_cases hlt : k < L.length
    · obtain ⟨b1, o1, l1, a1, k1, rfl, d1, e1, _, f1, _, _⟩ := (hA5.below hbr).pick hlt
      obtain ⟨b2, o2, l2, a2, k2, rfl, d2, e2, _, f2, _, _⟩ := (hB.below hbr).pick hlt
      obtain rfl : l2 = l1 := by rw [e1] at e2; cases e2; rfl
      have F1 := Lib.hid f1
      have F2 := Lib.hid f2
      clear e1 e2 f1 f2 hA5 hB
      go_wp2
      go_quiet ((go_at_call 22; exact Calls.quiet_of (rInts_is _ _ (F1.out.drewN _) (F2.out.drewN _) (show sameL l2 l2 = true by simp [sameL]))))
      go_wp2
      go_roundw
      case rel => exact ⟨k + 1, by omega, by go_num, below_drewN hbr _⟩
      case measure => simp [intOf]; omega
    · go_wp2
      go_ret
      exact ⟨rfl, hw5.trans (hbr.mono hw5.size)⟩

end Go.Proofs.Ytcgpidicegbnoaa
