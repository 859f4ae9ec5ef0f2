/-
  The walk of tensor.Windows: it returns what the plain function windowsL gives, in new memory.
-/
import Derived.Test.YtcgpidicegbnoaaTenA
import Derived.Test.YtcgpidicegbnoaaWinSpec
namespace Go.Proofs.Ytcgpidicegbnoaa
open Go.RowKit

theorem results_tmp4 {fn : Func} {t u v x : Tmp} (h : fn.results = #[.tmp t, .tmp u, .tmp v, .tmp x]) (tmps : Array Value) (P : Program) (w : World) :
    (results fn tmps).run P w = .ok (.tuple #[tmps.getD t undef, tmps.getD u undef, tmps.getD v undef, tmps.getD x undef]) w := by
  simp [results, h]

def sideB (n : Int) : Bool := decide (1 ≤ n ∧ n ≤ 64)
theorem tSide (n : Int) (w : World) : Calls Try.prog 39 #[.int .i64 n] w fun e w' => e = .returned (.bool (sideB n)) ∧ w = w' := by
  by_cases h1 : 1 ≤ n
  · by_cases h2 : n ≤ 64
    · have HS := Lib.hid (show sideB n = true by simp [sideB, h1, h2])
      go_enter Try.func39, Try.ntmps39
      go_wp2
      go_ret
      exact ⟨ret_bool HS.out.symm, rfl⟩
    · have HS := Lib.hid (show sideB n = false by simp [sideB, h2])
      go_enter Try.func39, Try.ntmps39
      go_wp2
      go_ret
      exact ⟨ret_bool HS.out.symm, rfl⟩
  · have HS := Lib.hid (show sideB n = false by simp [sideB, h1])
    go_enter Try.func39, Try.ntmps39
    go_wp2
    go_ret
    exact ⟨ret_bool HS.out.symm, rfl⟩

def argBad (l : List Int) (kh kw s p : Int) : Bool := !validL l || !sideB kh || !sideB kw || !sideB s || decide (p < 0) || decide (kh ≤ p) || decide (kw ≤ p)
def shapeBad (l : List Int) (kh kw p : Int) : Bool := decide (l.length ≠ 3) || decide (l.getD 1 0 + 2 * p < kh) || decide (l.getD 2 0 + 2 * p < kw)
def winOf (l : List Int) (kh kw s p : Int) : Win := ⟨(l.getD 0 0).toNat, (l.getD 1 0).toNat, (l.getD 2 0).toNat, kh.toNat, kw.toNat, s.toNat, p.toNat⟩
def windowsL (l : List Int) (kh kw s p : Int) : List (List Int) × Int × Int × Int :=
  if argBad l kh kw s p then ([], 0, 0, 1) else if shapeBad l kh kw p then ([], 0, 0, 7)
  else if 262144 < (winOf l kh kw s p).total then ([], 0, 0, 8) else ((winOf l kh kw s p).all, (winOf l kh kw s p).R, (winOf l kh kw s p).Q, 0)

theorem windowsL_arg {l : List Int} {kh kw s p : Int} (h : argBad l kh kw s p = true) : windowsL l kh kw s p = ([], 0, 0, 1) := by simp [windowsL, h]
theorem windowsL_shape {l : List Int} {kh kw s p : Int} (h : argBad l kh kw s p = false) (h2 : shapeBad l kh kw p = true) : windowsL l kh kw s p = ([], 0, 0, 7) := by simp [windowsL, h, h2]
theorem windowsL_many {l : List Int} {kh kw s p : Int} (h : argBad l kh kw s p = false) (h2 : shapeBad l kh kw p = false) (h3 : 262144 < (winOf l kh kw s p).total) : windowsL l kh kw s p = ([], 0, 0, 8) := by simp [windowsL, h, h2, h3]
theorem windowsL_ok {l : List Int} {kh kw s p : Int} (h : argBad l kh kw s p = false) (h2 : shapeBad l kh kw p = false) (h3 : ¬ 262144 < (winOf l kh kw s p).total) :
    windowsL l kh kw s p = ((winOf l kh kw s p).all, ((winOf l kh kw s p).R : Int), ((winOf l kh kw s p).Q : Int), 0) := by simp [windowsL, h, h2, h3]

/-- Windows' contract. -/
def WinPost (w : World) (l : List Int) (kh kw s p : Int) (e : Ending) (w' : World) : Prop :=
  ∃ a c, e = .returned (.tuple #[.slice a (windowsL l kh kw s p).1.length c, .int .i64 (windowsL l kh kw s p).2.1, .int .i64 (windowsL l kh kw s p).2.2.1, .int .i64 (windowsL l kh kw s p).2.2.2]) ∧
    Intss w' (fun b => w.heap.size ≤ b) a (windowsL l kh kw s p).1 ∧ Below w.heap.size w w'

theorem winPost_err {w w' : World} {l : List Int} {kh kw s p e : Int} (h : windowsL l kh kw s p = ([], 0, 0, e)) (hb : Below w.heap.size w w') :
    WinPost w l kh kw s p (.returned (.tuple #[.slice none 0 0, .int .i64 0, .int .i64 0, .int .i64 e])) w' := by
  unfold WinPost; rw [h]; exact ⟨none, 0, rfl, Intss.nil _ _ _, hb⟩

/-- A call that is not refused for its numbers or its shape: what its numbers are. -/
theorem winOf_ok {l : List Int} {kh kw s p : Int} (h : argBad l kh kw s p = false) (h2 : shapeBad l kh kw p = false) :
    ∃ q : Win, q.Ok ∧ winOf l kh kw s p = q ∧ l = [(q.C : Int), (q.H : Int), (q.W : Int)] ∧ kh = q.kh ∧ kw = q.kw ∧ s = q.s ∧ p = q.p := by
  simp only [argBad, Bool.or_eq_false_iff, Bool.not_eq_false', decide_eq_false_iff_not, sideB, decide_eq_true_eq] at h
  simp only [shapeBad, Bool.or_eq_false_iff, decide_eq_false_iff_not, Decidable.not_not] at h2
  obtain ⟨⟨⟨⟨⟨⟨hv, h3⟩, h4⟩, h5⟩, h6⟩, h7⟩, h8⟩ := h
  obtain ⟨⟨hl, h9⟩, h10⟩ := h2
  match l, hl with
  | [c, a, b], _ =>
    simp at h9 h10
    have hm := validL_mem hv
    have hc := hm c (by simp)
    have ha := hm a (by simp)
    have hb := hm b (by simp)
    have hf := validL_from hv
    obtain ⟨_, _, e1, e2, hf⟩ := validFrom_step (l := [c, a, b]) (k := 0) rfl (by omega) hf
    obtain ⟨_, _, e3, e4, hf⟩ := validFrom_step (l := [c, a, b]) (k := 1) rfl e2 hf
    obtain ⟨_, _, e5, _, _⟩ := validFrom_step (l := [c, a, b]) (k := 2) rfl e4 hf
    refine ⟨winOf [c, a, b] kh kw s p, ?_, rfl, ?_, ?_, ?_, ?_, ?_⟩
    · constructor <;> simp only [winOf, List.getD_cons_zero, List.getD_cons_succ]
      case chw =>
        have : ((c.toNat * a.toNat * b.toNat : Nat) : Int) ≤ 16384 := by
          simp only [Int.natCast_mul]
          rw [Int.toNat_of_nonneg (by omega), Int.toNat_of_nonneg (by omega), Int.toNat_of_nonneg (by omega)]
          simpa using e5
        omega
      all_goals omega
    all_goals simp [winOf]
    all_goals omega

set_option maxHeartbeats 1600000 in
set_option maxRecDepth 100000 in
/-- The calls that are refused for their numbers. -/
theorem tWin_arg {w : World} {F : Nat → Prop} {a : Option Addr} {l : List Int} (ca : Nat) (kh kw s p : Int) (h : Ints w F a l) (hbad : argBad l kh kw s p = true) :
    Calls Try.prog 20 #[.slice a l.length ca, .int .i64 kh, .int .i64 kw, .int .i64 s, .int .i64 p] w (WinPost w l kh kw s p) := by
  have HS := Lib.hid (windowsL_arg hbad)
  have hV := tValid ca h
  clear h
  cases hv : validL l
  · rw [hv] at hV
    have HV := Lib.hid hV
    clear hv hV hbad
    go_enter Try.func20, Try.ntmps20
    go_wp2_with (first | (go_at_call 25; refine HV.out.mono ?_; rintro e w' ⟨rfl, rfl⟩) | (go_at_call 39; refine (tSide _ _).mono ?_; rintro e w' ⟨rfl, rfl⟩))
    refine bodyPost_ret (results_tmp4 rfl _ _ _) rfl ?_
    exact winPost_err HS.out (Below.refl _ _)
  rw [hv] at hV
  have HV := Lib.hid hV
  clear hV
  cases h1 : sideB kh
  · clear hv hbad
    go_enter Try.func20, Try.ntmps20
    go_wp2_with (first | (go_at_call 25; refine HV.out.mono ?_; rintro e w' ⟨rfl, rfl⟩) | (go_at_call 39; refine (tSide _ _).mono ?_; rintro e w' ⟨rfl, rfl⟩))
    refine bodyPost_ret (results_tmp4 rfl _ _ _) rfl ?_
    exact winPost_err HS.out (Below.refl _ _)
  cases h2 : sideB kw
  · clear hv hbad
    go_enter Try.func20, Try.ntmps20
    go_wp2_with (first | (go_at_call 25; refine HV.out.mono ?_; rintro e w' ⟨rfl, rfl⟩) | (go_at_call 39; refine (tSide _ _).mono ?_; rintro e w' ⟨rfl, rfl⟩))
    refine bodyPost_ret (results_tmp4 rfl _ _ _) rfl ?_
    exact winPost_err HS.out (Below.refl _ _)
  cases h3 : sideB s
  · clear hv hbad
    go_enter Try.func20, Try.ntmps20
    go_wp2_with (first | (go_at_call 25; refine HV.out.mono ?_; rintro e w' ⟨rfl, rfl⟩) | (go_at_call 39; refine (tSide _ _).mono ?_; rintro e w' ⟨rfl, rfl⟩))
    refine bodyPost_ret (results_tmp4 rfl _ _ _) rfl ?_
    exact winPost_err HS.out (Below.refl _ _)
  by_cases h4 : p < 0
  · clear hv hbad
    go_enter Try.func20, Try.ntmps20
    go_wp2_with (first | (go_at_call 25; refine HV.out.mono ?_; rintro e w' ⟨rfl, rfl⟩) | (go_at_call 39; refine (tSide _ _).mono ?_; rintro e w' ⟨rfl, rfl⟩))
    refine bodyPost_ret (results_tmp4 rfl _ _ _) rfl ?_
    exact winPost_err HS.out (Below.refl _ _)
  by_cases h5 : kh ≤ p
  · clear hv hbad
    go_enter Try.func20, Try.ntmps20
    go_wp2_with (first | (go_at_call 25; refine HV.out.mono ?_; rintro e w' ⟨rfl, rfl⟩) | (go_at_call 39; refine (tSide _ _).mono ?_; rintro e w' ⟨rfl, rfl⟩))
    refine bodyPost_ret (results_tmp4 rfl _ _ _) rfl ?_
    exact winPost_err HS.out (Below.refl _ _)
  by_cases h6 : kw ≤ p
  · clear hv hbad
    go_enter Try.func20, Try.ntmps20
    go_wp2_with (first | (go_at_call 25; refine HV.out.mono ?_; rintro e w' ⟨rfl, rfl⟩) | (go_at_call 39; refine (tSide _ _).mono ?_; rintro e w' ⟨rfl, rfl⟩))
    refine bodyPost_ret (results_tmp4 rfl _ _ _) rfl ?_
    exact winPost_err HS.out (Below.refl _ _)
  simp [argBad, hv, h1, h2, h3, h4, h5, h6] at hbad

theorem argBad_no {l : List Int} {kh kw s p : Int} (h : argBad l kh kw s p = false) :
    validL l = true ∧ sideB kh = true ∧ sideB kw = true ∧ sideB s = true ∧ (1 ≤ kh ∧ kh ≤ 64) ∧ (1 ≤ kw ∧ kw ≤ 64) ∧ (1 ≤ s ∧ s ≤ 64) ∧ 0 ≤ p ∧ p < kh ∧ p < kw := by
  simp only [argBad, Bool.or_eq_false_iff, Bool.not_eq_false', decide_eq_false_iff_not] at h
  obtain ⟨⟨⟨⟨⟨⟨hv, h3⟩, h4⟩, h5⟩, h6⟩, h7⟩, h8⟩ := h
  refine ⟨hv, h3, h4, h5, ?_, ?_, ?_, by omega, by omega, by omega⟩
  · simpa [sideB] using h3
  · simpa [sideB] using h4
  · simpa [sideB] using h5

set_option maxRecDepth 100000 in
set_option maxHeartbeats 1600000 in
/-- The calls that are refused for their shape. -/
theorem tWin_shape {w : World} {F : Nat → Prop} {a : Option Addr} {l : List Int} (ca : Nat) (kh kw s p : Int) (h : Ints w F a l) (hno : argBad l kh kw s p = false) (hbad : shapeBad l kh kw p = true) :
    Calls Try.prog 20 #[.slice a l.length ca, .int .i64 kh, .int .i64 kw, .int .i64 s, .int .i64 p] w (WinPost w l kh kw s p) := by
  have HS := Lib.hid (windowsL_shape hno hbad)
  have hV := tValid ca h
  have hlen := h.len
  obtain ⟨hv, s1, s2, s3, b1, b2, b3, b4, b5, b6⟩ := argBad_no hno
  have hm := validL_mem hv
  rw [hv] at hV
  have HV := Lib.hid hV
  clear hV hv
  by_cases hl : l.length = 3
  · obtain ⟨bb, off, c, x, y, rfl, _, hx, hy, e0, e1, e2⟩ := h.three hl
    have hx1 := hm x (List.mem_of_getElem? e1)
    have hy1 := hm y (List.mem_of_getElem? e2)
    have h3 : 3 ≤ l.length := by omega
    have hne : ((l.length : Int) != 3) = false := by simp; omega
    have hg1 : l.getD 1 0 = x := by simp [List.getD, e1]
    have hg2 : l.getD 2 0 = y := by simp [List.getD, e2]
    have HG1 := Lib.hid hg1
    have HG2 := Lib.hid hg2
    have HL := Lib.hid hl
    clear hm h hno hl e0 e1 e2 hg1 hg2
    by_cases h1 : x + 2 * p < kh
    · clear hbad
      go_enter Try.func20, Try.ntmps20
      go_wp2_with (first | (go_at_call 25; refine HV.out.mono ?_; rintro e w' ⟨rfl, rfl⟩) | (go_at_call 39; refine (tSide _ _).mono ?_; rintro e w' ⟨rfl, rfl⟩))
      refine bodyPost_ret (results_tmp4 rfl _ _ _) rfl ?_
      exact winPost_err HS.out (Below.refl _ _)
    by_cases h2 : y + 2 * p < kw
    · clear hbad
      go_enter Try.func20, Try.ntmps20
      go_wp2_with (first | (go_at_call 25; refine HV.out.mono ?_; rintro e w' ⟨rfl, rfl⟩) | (go_at_call 39; refine (tSide _ _).mono ?_; rintro e w' ⟨rfl, rfl⟩))
      refine bodyPost_ret (results_tmp4 rfl _ _ _) rfl ?_
      exact winPost_err HS.out (Below.refl _ _)
    unfold shapeBad at hbad
    rw [HG1.out, HG2.out] at hbad
    simp only [HL.out] at hbad
    simp at hbad
    omega
  · have hne : ((l.length : Int) != 3) = true := by rw [bne_iff_ne]; omega
    clear hm hno hbad hl h
    go_enter Try.func20, Try.ntmps20
    go_wp2_with (first | (go_at_call 25; refine HV.out.mono ?_; rintro e w' ⟨rfl, rfl⟩) | (go_at_call 39; refine (tSide _ _).mono ?_; rintro e w' ⟨rfl, rfl⟩))
    refine bodyPost_ret (results_tmp4 rfl _ _ _) rfl ?_
    exact winPost_err HS.out (Below.refl _ _)

end Go.Proofs.Ytcgpidicegbnoaa
