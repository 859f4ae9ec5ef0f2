/-
  The walk of the reference's Windows where the call is refused: it returns what the plain function windowsL gives.
-/
import Derived.Test.YtcgpidicegbnoaaTenD
import Derived.Test.YtcgpidicegbnoaaTenB
namespace Go.Proofs.Ytcgpidicegbnoaa
open Go.RowKit

theorem sideB_no1 {n : Int} (h : n < 1) : sideB n = false := by unfold sideB; simp; omega
theorem sideB_no2 {n : Int} (h : 64 < n) : sideB n = false := by unfold sideB; simp; omega
theorem sideB_yes {n : Int} (h1 : ¬ n < 1) (h2 : ¬ 64 < n) : sideB n = true := by unfold sideB; simp; omega

set_option maxRecDepth 100000 in
set_option maxHeartbeats 1600000 in
theorem rWin_arg {w : World} {F : Nat → Prop} {a : Option Addr} {l : List Int} (ca : Nat) (kh kw s p : Int) (h : Ints w F a l) (hbad : argBad l kh kw s p = true) :
    Calls Try.prog 21 #[.slice a l.length ca, .int .i64 kh, .int .i64 kw, .int .i64 s, .int .i64 p] w (WinPost w l kh kw s p) := by
  have HS := Lib.hid (windowsL_arg hbad)
  have hV := rValid ca h
  clear h
  cases hv : validL l
  · rw [hv] at hV
    have HV := Lib.hid hV
    clear hv hV hbad
    go_enter Try.func21, Try.ntmps21
    go_wp2_with (go_at_call 26; refine HV.out.mono ?_; rintro e w' ⟨rfl, rfl⟩)
    refine bodyPost_ret (results_tmp4 rfl _ _ _) rfl ?_
    exact winPost_err HS.out (Below.refl _ _)
  rw [hv] at hV
  have HV := Lib.hid hV
  clear hV
  by_cases h1 : kh < 1
  · clear hv hbad
    go_enter Try.func21, Try.ntmps21
    go_wp2_with (go_at_call 26; refine HV.out.mono ?_; rintro e w' ⟨rfl, rfl⟩)
    refine bodyPost_ret (results_tmp4 rfl _ _ _) rfl ?_
    exact winPost_err HS.out (Below.refl _ _)
  by_cases h2 : 64 < kh
  · clear hv hbad
    go_enter Try.func21, Try.ntmps21
    go_wp2_with (go_at_call 26; refine HV.out.mono ?_; rintro e w' ⟨rfl, rfl⟩)
    refine bodyPost_ret (results_tmp4 rfl _ _ _) rfl ?_
    exact winPost_err HS.out (Below.refl _ _)
  by_cases h3 : kw < 1
  · clear hv hbad
    go_enter Try.func21, Try.ntmps21
    go_wp2_with (go_at_call 26; refine HV.out.mono ?_; rintro e w' ⟨rfl, rfl⟩)
    refine bodyPost_ret (results_tmp4 rfl _ _ _) rfl ?_
    exact winPost_err HS.out (Below.refl _ _)
  by_cases h4 : 64 < kw
  · clear hv hbad
    go_enter Try.func21, Try.ntmps21
    go_wp2_with (go_at_call 26; refine HV.out.mono ?_; rintro e w' ⟨rfl, rfl⟩)
    refine bodyPost_ret (results_tmp4 rfl _ _ _) rfl ?_
    exact winPost_err HS.out (Below.refl _ _)
  by_cases h5 : s < 1
  · clear hv hbad
    go_enter Try.func21, Try.ntmps21
    go_wp2_with (go_at_call 26; refine HV.out.mono ?_; rintro e w' ⟨rfl, rfl⟩)
    refine bodyPost_ret (results_tmp4 rfl _ _ _) rfl ?_
    exact winPost_err HS.out (Below.refl _ _)
  by_cases h6 : 64 < s
  · clear hv hbad
    go_enter Try.func21, Try.ntmps21
    go_wp2_with (go_at_call 26; refine HV.out.mono ?_; rintro e w' ⟨rfl, rfl⟩)
    refine bodyPost_ret (results_tmp4 rfl _ _ _) rfl ?_
    exact winPost_err HS.out (Below.refl _ _)
  by_cases h7 : p < 0
  · clear hv hbad
    go_enter Try.func21, Try.ntmps21
    go_wp2_with (go_at_call 26; refine HV.out.mono ?_; rintro e w' ⟨rfl, rfl⟩)
    refine bodyPost_ret (results_tmp4 rfl _ _ _) rfl ?_
    exact winPost_err HS.out (Below.refl _ _)
  by_cases h8 : kh ≤ p
  · clear hv hbad
    go_enter Try.func21, Try.ntmps21
    go_wp2_with (go_at_call 26; refine HV.out.mono ?_; rintro e w' ⟨rfl, rfl⟩)
    refine bodyPost_ret (results_tmp4 rfl _ _ _) rfl ?_
    exact winPost_err HS.out (Below.refl _ _)
  by_cases h9 : kw ≤ p
  · clear hv hbad
    go_enter Try.func21, Try.ntmps21
    go_wp2_with (go_at_call 26; refine HV.out.mono ?_; rintro e w' ⟨rfl, rfl⟩)
    refine bodyPost_ret (results_tmp4 rfl _ _ _) rfl ?_
    exact winPost_err HS.out (Below.refl _ _)
  simp [argBad, hv, sideB_yes h1 h2, sideB_yes h3 h4, sideB_yes h5 h6, h7, h8, h9] at hbad

set_option maxRecDepth 100000 in
set_option maxHeartbeats 1600000 in
theorem rWin_shape {w : World} {F : Nat → Prop} {a : Option Addr} {l : List Int} (ca : Nat) (kh kw s p : Int) (h : Ints w F a l) (hno : argBad l kh kw s p = false) (hbad : shapeBad l kh kw p = true) :
    Calls Try.prog 21 #[.slice a l.length ca, .int .i64 kh, .int .i64 kw, .int .i64 s, .int .i64 p] w (WinPost w l kh kw s p) := by
  have HS := Lib.hid (windowsL_shape hno hbad)
  have hV := rValid ca h
  have hlen := h.len
  obtain ⟨hv, s1, s2, s3, ⟨b1, b1'⟩, ⟨b2, b2'⟩, ⟨b3, b3'⟩, b4, b5, b6⟩ := argBad_no hno
  have hm := validL_mem hv
  rw [hv] at hV
  have HV := Lib.hid hV
  clear hV hv s1 s2 s3
  by_cases hl : l.length = 3
  · obtain ⟨bb, off, c, x, y, rfl, _, hx, hy, e0, e1, e2⟩ := h.three hl
    have hx1 := hm x (List.mem_of_getElem? e1)
    have hy1 := hm y (List.mem_of_getElem? e2)
    have h3 : 3 ≤ l.length := by omega
    have hne : ((l.length : Int) != 3) = false := by simp; omega
    have hg1 : l.getD 1 0 = x := by simp [List.getD, e1]
    have hg2 : l.getD 2 0 = y := by simp [List.getD, e2]
    have HG1 := Lib.hid hg1
    have HG2 := Lib.hid hg2
    have HL := Lib.hid hl
    clear hm h hno hl e0 e1 e2 hg1 hg2
    by_cases h1 : x + 2 * p < kh
    · clear hbad
      go_enter Try.func21, Try.ntmps21
      go_wp2_with (go_at_call 26; refine HV.out.mono ?_; rintro e w' ⟨rfl, rfl⟩)
      refine bodyPost_ret (results_tmp4 rfl _ _ _) rfl ?_
      exact winPost_err HS.out (Below.refl _ _)
    by_cases h2 : y + 2 * p < kw
    · clear hbad
      go_enter Try.func21, Try.ntmps21
      go_wp2_with (go_at_call 26; refine HV.out.mono ?_; rintro e w' ⟨rfl, rfl⟩)
      refine bodyPost_ret (results_tmp4 rfl _ _ _) rfl ?_
      exact winPost_err HS.out (Below.refl _ _)
    unfold shapeBad at hbad
    rw [HG1.out, HG2.out] at hbad
    simp only [HL.out] at hbad
    simp at hbad
    omega
  · have hne : ((l.length : Int) != 3) = true := by rw [bne_iff_ne]; omega
    clear hm hno hbad hl h
    go_enter Try.func21, Try.ntmps21
    go_wp2_with (go_at_call 26; refine HV.out.mono ?_; rintro e w' ⟨rfl, rfl⟩)
    refine bodyPost_ret (results_tmp4 rfl _ _ _) rfl ?_
    exact winPost_err HS.out (Below.refl _ _)

end Go.Proofs.Ytcgpidicegbnoaa
