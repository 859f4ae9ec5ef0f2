/-
  The walks of few and of the statement TensorNext.
-/
import Derived.Test.YtcgpidicegbnoaaTenN
import Derived.Test.YtcgpidicegbnoaaWinLaw
namespace Go.Proofs.Ytcgpidicegbnoaa
open Go.RowKit

theorem windowsL_cases (l : List Int) (kh kw s p : Int) :
    (∃ e, (e = 1 ∨ e = 7 ∨ e = 8) ∧ windowsL l kh kw s p = ([], 0, 0, e)) ∨
    ∃ q : Win, q.Ok ∧ q.total ≤ 262144 ∧ l = [(q.C : Int), (q.H : Int), (q.W : Int)] ∧ kh = q.kh ∧ kw = q.kw ∧ s = q.s ∧ p = q.p ∧ windowsL l kh kw s p = (q.all, (q.R : Int), (q.Q : Int), 0) := by
  cases h1 : argBad l kh kw s p
  · cases h2 : shapeBad l kh kw p
    · obtain ⟨q, hq, hwin, hl, hkh, hkw, hs, hp⟩ := winOf_ok h1 h2
      by_cases h3 : 262144 < (winOf l kh kw s p).total
      · exact .inl ⟨8, by omega, windowsL_many h1 h2 h3⟩
      · refine .inr ⟨q, hq, by rw [← hwin]; omega, hl, hkh, hkw, hs, hp, ?_⟩
        rw [windowsL_ok h1 h2 h3, hwin]
    · exact .inl ⟨7, by omega, windowsL_shape h1 h2⟩
  · exact .inl ⟨1, by omega, windowsL_arg h1⟩

def fewB (l : List Int) (kh kw s p : Int) : Bool :=
  decide ((windowsL l kh kw s p).2.2.2 ≠ 0 ∨ (windowsL l kh kw s p).1.length * ((windowsL l kh kw s p).1.getD 0 []).length ≤ 3000)

theorem Win.Ok.first {q : Win} (h : q.Ok) : q.all[0]? = some (q.one 0 0) := by
  have := q.all_get (r := 0) (c := 0) h.r2.1 h.q2.1
  simpa using this

theorem Win.len_bd {q : Win} (h : q.Ok) (ht : q.total ≤ 262144) : q.all.length ≤ 262144 ∧ (q.one 0 0).length ≤ 262144 ∧ q.all.length * (q.one 0 0).length = q.total ∧ 1 ≤ q.all.length ∧ 1 ≤ (q.one 0 0).length := by
  have e : q.all.length * (q.one 0 0).length = q.total := by
    rw [q.all_len, q.one_len]; unfold Win.total; rw [Nat.mul_assoc (q.R * q.Q * q.C), Nat.mul_assoc (q.R * q.Q)]
  have a1 : 1 * 1 ≤ q.all.length := by rw [q.all_len]; exact Nat.mul_le_mul h.r2.1 h.q2.1
  have a2 : 1 * (1 * 1) ≤ (q.one 0 0).length := by rw [q.one_len]; exact Nat.mul_le_mul h.c1 (Nat.mul_le_mul h.kh1 h.kw1)
  refine ⟨?_, ?_, e, by omega, by omega⟩
  · exact Nat.le_trans (le_of_mul (b := (q.one 0 0).length) (by omega) (by rw [e]; exact Nat.le_refl _)) ht
  · exact Nat.le_trans (le_of_mul (b := q.all.length) (by omega) (by rw [Nat.mul_comm, e]; exact Nat.le_refl _)) ht

set_option maxRecDepth 100000 in
set_option maxHeartbeats 1600000 in
theorem tFew {w : World} {F : Nat → Prop} {a : Option Addr} {l : List Int} (c : Nat) (kh kw s p : Int) (h : Ints w F a l) :
    Calls Try.prog 23 #[kernelV a l.length c kh kw s p] w fun e w' => e = .returned (.bool (fewB l kh kw s p)) ∧ Below w.heap.size w w' := by
  have h1 := h.below ((Below.refl _ w).alloc (Nat.le_refl _) (.cells #[.slice a l.length c, .int .i64 kh, .int .i64 kw, .int .i64 s, .int .i64 p] 29))
  have HZ := Lib.hid (rWin c kh kw s p h1)
  clear h h1
  rcases windowsL_cases l kh kw s p with ⟨e, he, hw⟩ | ⟨q, hq, ht, hl, hkh, hkw, hs, hp, hw⟩
  · have HF := Lib.hid (show fewB l kh kw s p = true by rw [fewB, hw]; simp)
    have HW := Lib.hid hw
    have hne : (e != 0) = true := by rw [bne_iff_ne]; omega
    clear hw he
    go_enter Try.func23, Try.ntmps23
    go_wp2_with fail
    refine HZ.out.mono ?_
    rintro e' w2 ⟨a2, c2, rfl, _, hb⟩
    rw [HW.out]
    go_wp2
    go_ret
    exact ⟨ret_bool (by rw [HF.out]), ((Below.refl _ w).alloc (Nat.le_refl _) _).trans (hb.mono (by simp))⟩
  · obtain ⟨b1, b2, b3, b4, b5⟩ := Win.len_bd hq ht
    have hf := hq.first
    have HF := Lib.hid (show fewB l kh kw s p = decide (q.all.length * (q.one 0 0).length ≤ 3000) by rw [fewB, hw]; simp [List.getD, hf])
    have HW := Lib.hid hw
    have hpr := prod_bd (a := q.all.length) (b := (q.one 0 0).length) (A := 262144) (B := 262144) (by omega) (by omega) (by omega) (by omega)
    have HFi := Lib.hid hf
    clear hw hf hl b3 hkh hkw hs hp
    go_enter Try.func23, Try.ntmps23
    go_wp2_with fail
    refine HZ.out.mono ?_
    rintro e' w2 ⟨a2, c2, rfl, hI, hb⟩
    rw [HW.out] at hI ⊢
    obtain ⟨bb, off, l0, a0, k0, rfl, hc0, e0, _, _, _, _⟩ := hI.pick (k := 0) (show 0 < q.all.length by omega)
    obtain rfl : l0 = q.one 0 0 := by rw [HFi.out] at e0; cases e0; rfl
    have hc0' : w2.cell? ⟨bb, off, none⟩ = some (.slice a0 (q.one 0 0).length k0) := hc0
    clear hc0 e0 hI
    obtain ⟨hpr1, hpr2⟩ := hpr
    go_wp2
    go_ret
    refine ⟨ret_bool ?_, ((Below.refl _ w).alloc (Nat.le_refl _) _).trans (hb.mono (by simp))⟩
    rw [HF.out]
    simp only [decide_eq_decide]
    omega

end Go.Proofs.Ytcgpidicegbnoaa
