/-
  im2col.Tiles: the plain law of tiles, and the iterator's contract.
-/
import Derived.Test.YtcgpidicegbnoaaRange
namespace Go.Proofs.Ytcgpidicegbnoaa
open Go.RowKit Go.Shelf
attribute [local go_sem] Oper.semAt_some

/-- Into how many pieces of s (the last one shorter) n is cut. -/
def cutN (n s : Nat) : Nat := (n + s - 1) / s

theorem cutN_lt {n s i : Nat} (hs : 1 ≤ s) : i < cutN n s ↔ i * s < n := by
  unfold cutN
  rw [← Nat.succ_le_iff, Nat.le_div_iff_mul_le (by omega), Nat.succ_mul]
  omega
theorem cutN_pos {n s : Nat} (hs : 1 ≤ s) (hn : 1 ≤ n) : 1 ≤ cutN n s := by
  have := (cutN_lt (n := n) (i := 0) hs).2 (by omega)
  omega

/-- Where piece i begins: behind the last one, at the end. -/
def cutAt (n h i : Nat) : Nat := if i < cutN n (min h n) then i * min h n else n

theorem cut_step {n h i : Nat} (hn : 1 ≤ n) (hh : 1 ≤ h) (hi : i < cutN n (min h n)) : cutAt n h i < n ∧ cutAt n h i + min h (n - cutAt n h i) = cutAt n h (i + 1) ∧ 1 ≤ min h (n - cutAt n h i) := by
  have hs : 1 ≤ min h n := by omega
  have h1 := (cutN_lt hs).1 hi
  have e : cutAt n h i = i * min h n := by simp [cutAt, hi]
  rw [e]
  refine ⟨h1, ?_, by omega⟩
  unfold cutAt
  have e2 : (i + 1) * min h n = i * min h n + min h n := Nat.succ_mul _ _
  by_cases h2 : i + 1 < cutN n (min h n)
  · have h3 := (cutN_lt hs).1 h2
    rw [if_pos h2]
    omega
  · rw [if_neg h2]
    have h3 : ¬ (i + 1) * min h n < n := fun h => h2 ((cutN_lt hs).2 h)
    omega
theorem cutAt_zero {n h : Nat} (hn : 1 ≤ n) (hh : 1 ≤ h) : cutAt n h 0 = 0 := by
  have := cutN_pos (n := n) (s := min h n) (by omega) hn
  simp [cutAt]; omega
theorem cutAt_end {n h : Nat} : cutAt n h (cutN n (min h n)) = n := by simp [cutAt]

/-- Tile k of a matrix, as Go's value. -/
def tileV (rows cols h wd k : Nat) : Value :=
  .agg #[.int .i64 (cutAt rows h (k / cutN cols (min wd cols)) : Nat), .int .i64 (cutAt cols wd (k % cutN cols (min wd cols)) : Nat),
    .int .i64 (min h (rows - cutAt rows h (k / cutN cols (min wd cols))) : Nat), .int .i64 (min wd (cols - cutAt cols wd (k % cutN cols (min wd cols))) : Nat)]
def tilesN (rows cols h wd : Nat) : Nat := cutN rows (min h rows) * cutN cols (min wd cols)

set_option maxRecDepth 100000 in
set_option maxHeartbeats 4000000 in
/-- The iterator: for every body. -/
theorem tilesIter (F : Fence) (n : Nat) (hF : F.fn 42) (hro : F.round = none) (hn : 1 ≤ n) (b : Nat) (rows cols h wd : Nat) (hr1 : 1 ≤ rows) (hc1 : 1 ≤ cols) (hh1 : 1 ≤ h) (hw1 : 1 ≤ wd)
    (hr2 : rows ≤ 9223372036854775807) (hc2 : cols ≤ 9223372036854775807) (hh2 : h ≤ 9223372036854775807) (hw2 : wd ≤ 9223372036854775807) (Pr : Nat → Prop) (hp0 : Pr b) (hp1 : Pr (b + 1)) (hp2 : Pr (b + 2)) (hp3 : Pr (b + 3)) (W0 : World)
    (c0 : W0.cell? ⟨b, 0, none⟩ = some (.int .i64 rows)) (c1 : W0.cell? ⟨b + 1, 0, none⟩ = some (.int .i64 cols)) (c2 : W0.cell? ⟨b + 2, 0, none⟩ = some (.int .i64 h)) (c3 : W0.cell? ⟨b + 3, 0, none⟩ = some (.int .i64 wd)) :
    IterOk F n Try.prog 42 #[.pointer (some ⟨b, 0, none⟩), .pointer (some ⟨b + 1, 0, none⟩), .pointer (some ⟨b + 2, 0, none⟩), .pointer (some ⟨b + 3, 0, none⟩)] (tilesN rows cols h wd)
      (fun k xs _ => xs = #[tileV rows cols h wd k]) Pr W0 := by
  intro l I Ix W hW hIb hIW hY h0
  have HC : Hid (∀ k A, I k A → A.cell? ⟨b, 0, none⟩ = some (.int .i64 rows) ∧ A.cell? ⟨b + 1, 0, none⟩ = some (.int .i64 cols) ∧ A.cell? ⟨b + 2, 0, none⟩ = some (.int .i64 h) ∧ A.cell? ⟨b + 3, 0, none⟩ = some (.int .i64 wd)) := fun k A hi => by
    have hh := hW.trans (hIW k A hi)
    exact ⟨(hh.cell (p := ⟨b, 0, none⟩) hp0).trans c0, (hh.cell (p := ⟨b + 1, 0, none⟩) hp1).trans c1, (hh.cell (p := ⟨b + 2, 0, none⟩) hp2).trans c2, (hh.cell (p := ⟨b + 3, 0, none⟩) hp3).trans c3⟩
  obtain ⟨d0, d1, d2, d3⟩ := HC.out 0 W h0
  have HY := Lib.hid hY
  clear hY hIb hIW c0 c1 c2 c3 hW
  refine callsIn_of_wp Try.func42 rfl hF ?_ hro
  simp only [Try.ntmps42, List.size_toArray, List.length_cons, List.length_nil, Nat.reduceAdd, Nat.reduceSub, Array.replicate_succ, Array.replicate_zero, List.push_toArray, List.append_toArray, List.nil_append, List.cons_append]
  gi_wp2
  clear d0 d1 d2 d3
  gi_loopw [6] (fun r wr => ∃ i : Nat, i ≤ cutN rows (min h rows) ∧ r = .int .i64 (cutAt rows h i : Nat) ∧ I (i * cutN cols (min wd cols)) wr) (fun r _ => rows - (intOf r).toNat)
  case atStart => exact ⟨0, Nat.zero_le _, by rw [cutAt_zero hr1 hh1]; rfl, by simpa using h0⟩
  case round =>
    obtain ⟨i, hi, rfl, hIi⟩ := hrel
    obtain ⟨d0, d1, d2, d3⟩ := HC.out _ _ hIi
    by_cases hlt : i < cutN rows (min h rows)
    · obtain ⟨s1, s2, s3⟩ := cut_step hr1 hh1 hlt
      have HS2 := Lib.hid s2
      have HI := Lib.hid hIi
      clear s2 hIi
      generalize hrr : cutAt rows h i = r at *
      have HR := Lib.hid hrr
      clear hrr
      have s1' : (r : Int) < (rows : Int) := by omega
      gi_wp2
      clear d0 d1 d2 d3
      gi_loopw [7] (fun c wi => ∃ j : Nat, j ≤ cutN cols (min wd cols) ∧ c = .int .i64 (cutAt cols wd j : Nat) ∧ Hid (I (i * cutN cols (min wd cols) + j) wi)) (fun c _ => cols - (intOf c).toNat)
      case atStart => exact ⟨0, Nat.zero_le _, by rw [cutAt_zero hc1 hw1]; rfl, HI⟩
      case round =>
        obtain ⟨j, hj, rfl, hIj⟩ := hrel
        obtain ⟨d0, d1, d2, d3⟩ := HC.out _ _ hIj.out
        by_cases hltj : j < cutN cols (min wd cols)
        · obtain ⟨t1, t2, t3⟩ := cut_step hc1 hw1 hltj
          have HT2 := Lib.hid t2
          clear t2
          have hk : i * cutN cols (min wd cols) + j < tilesN rows cols h wd := by
            have : (i + 1) * cutN cols (min wd cols) ≤ cutN rows (min h rows) * cutN cols (min wd cols) := Nat.mul_le_mul_right _ hlt
            rw [Nat.succ_mul] at this
            unfold tilesN; omega
          have hv : tileV rows cols h wd (i * cutN cols (min wd cols) + j) = .agg #[.int .i64 (cutAt rows h i : Nat), .int .i64 (cutAt cols wd j : Nat), .int .i64 (min h (rows - cutAt rows h i) : Nat), .int .i64 (min wd (cols - cutAt cols wd j) : Nat)] := by
            have e1 : (i * cutN cols (min wd cols) + j) / cutN cols (min wd cols) = i := by
              rw [Nat.mul_comm, Nat.mul_add_div (by omega), Nat.div_eq_of_lt hltj, Nat.add_zero]
            have e2 : (i * cutN cols (min wd cols) + j) % cutN cols (min wd cols) = j := by
              rw [Nat.mul_comm, Nat.mul_add_mod_self_left, Nat.mod_eq_of_lt hltj]
            unfold tileV
            rw [e1, e2]
          rw [HR.out] at hv
          have HYk := HY.out _ wr _ hIj.out hk rfl
          rw [hv] at HYk
          obtain ⟨fn, tmps, assign, body, hy, hR⟩ := HYk
          have HRo := Lib.hid hR
          clear hR hv hk
          generalize hcc : cutAt cols wd j = c at *
          have HCC := Lib.hid hcc
          clear hcc
          have t1' : (c : Int) < (cols : Int) := by omega
          have m1 : (if (rows : Int) - r < h then (rows : Int) - r else h) = ((min h (rows - r) : Nat) : Int) := by split <;> omega
          have m2 : (if (cols : Int) - c < wd then (cols : Int) - c else wd) = ((min wd (cols - c) : Nat) : Int) := by split <;> omega
          generalize hq1 : min h (rows - r) = q1 at *
          generalize hq2 : min wd (cols - c) = q2 at *
          have g1 : r + q1 ≤ rows := by omega
          have g2 : c + q2 ≤ cols := by omega
          have HQ1 := Lib.hid hq1
          have HQ2 := Lib.hid hq2
          clear hq1 hq2
          gi_wp2
          refine HRo.out.mono ?_
          clear d0 d1 d2 d3
          rintro e W' (⟨rfl, hI'⟩ | ⟨rfl, hx⟩)
          · obtain ⟨d0, d1, d2, d3⟩ := HC.out _ _ hI'
            have HI' := Lib.hid hI'
            clear hI'
            gi_wp2
            go_roundw
            case rel => exact ⟨j + 1, hltj, by rw [← HT2.out]; go_num, HI'⟩
            case measure => simp [intOf]; omega
          · gi_wp2
            refine bodyPost_ret (results_none rfl _ _ _) rfl ?_
            exact ⟨⟨_, rfl⟩, .inr hx⟩
        · obtain rfl : j = cutN cols (min wd cols) := by omega
          have hce : cutAt cols wd (cutN cols (min wd cols)) = cols := cutAt_end
          have m1 : (if (rows : Int) - r < h then (rows : Int) - r else h) = ((min h (rows - r) : Nat) : Int) := by split <;> omega
          generalize hq1 : min h (rows - r) = q1 at *
          have g1 : r + q1 ≤ rows := by omega
          have HIj := hIj
          have HS3 := Lib.hid s3
          clear hIj hq1 s3
          gi_wp2
          go_roundw
          case rel => exact ⟨i + 1, hlt, by rw [← HS2.out]; go_num, by rw [Nat.succ_mul]; exact HIj.out⟩
          case measure => have := HS3.out; simp [intOf]; omega
    · obtain rfl : i = cutN rows (min h rows) := by omega
      have hre : cutAt rows h (cutN rows (min h rows)) = rows := cutAt_end
      have HIi := Lib.hid hIi
      clear hIi
      gi_wp2
      go_end0
      exact ⟨⟨_, rfl⟩, .inl HIi.out⟩

end Go.Proofs.Ytcgpidicegbnoaa
