/-
  The walks of tensor.Index and of the reference's: each returns what the plain function indexL gives.
-/
import Derived.Test.YtcgpidicegbnoaaTenA
namespace Go.Proofs.Ytcgpidicegbnoaa
open Go.RowKit

theorem indexFrom_no {d c s : Int} {r q : List Int} (h : c < 0 ∨ d ≤ c) : indexFrom (d :: r) (c :: q) s = (0, 2) := by simp [indexFrom, h]
theorem indexFrom_yes {d c s : Int} {r q : List Int} (h1 : ¬ c < 0) (h2 : ¬ d ≤ c) : indexFrom (d :: r) (c :: q) s = indexFrom r q (s * d + c) := by simp [indexFrom, h1, h2]
theorem indexL_bad {l m : List Int} (h : validL l = false) : indexL l m = (0, 1) := by simp [indexL, h]
theorem indexL_len {l m : List Int} (h : m.length ≠ l.length) : indexL l m = (0, 1) := by simp [indexL, h]
theorem indexL_in {l m : List Int} (h : validL l = true) (hl : m.length = l.length) : indexFrom (l.drop 0) (m.drop 0) 0 = indexL l m := by simp [indexL, h, hl]

set_option maxHeartbeats 800000 in
theorem tIndex {w : World} {F G : Nat → Prop} {a b : Option Addr} {l m : List Int} (ca cb : Nat) (h : Ints w F a l) (g : Ints w G b m) :
    Calls Try.prog 17 #[.slice a l.length ca, .slice b m.length cb] w fun e w' => e = .returned (.tuple #[.int .i64 (indexL l m).1, .int .i64 (indexL l m).2]) ∧ w = w' := by
  have hl1 := h.len
  have hl2 := g.len
  have hV := tValid ca h
  cases hv : validL l
  · rw [hv] at hV
    have HS := Lib.hid (indexL_bad (m := m) hv)
    have HV := Lib.hid hV
    clear hv hV
    go_enter Try.func17, Try.ntmps17
    go_wp2_with (go_at_call 25; refine HV.out.mono ?_; rintro e w' ⟨rfl, rfl⟩)
    go_ret2
    exact ⟨ret_ie HS.out.symm, rfl⟩
  rw [hv] at hV
  by_cases hl : m.length = l.length
  · have hne : ((m.length : Int) != (l.length : Int)) = false := by simp [hl]
    have HS := Lib.hid (indexL_in hv hl)
    have HV := Lib.hid hV
    have HF := Lib.hid (validL_from hv)
    have HL := Lib.hid hl
    clear hv hV hl
    go_enter Try.func17, Try.ntmps17
    go_wp2_with (go_at_call 25; refine HV.out.mono ?_; rintro e w' ⟨rfl, rfl⟩)
    go_loop [6, 21] (fun z i => ∃ k : Nat, ∃ n s : Int, k ≤ m.length ∧ 1 ≤ n ∧ n ≤ 16384 ∧ 0 ≤ s ∧ s < n ∧ i = .int .i64 k ∧ z = .int .i64 s ∧ Hid (validFrom (l.drop k) n = true) ∧ Hid (indexFrom (l.drop k) (m.drop k) s = indexL l m))
      (fun _ i => m.length - (intOf i).toNat)
    case atStart => exact ⟨0, 1, 0, by omega, by omega, by omega, by omega, by omega, rfl, rfl, HF, HS⟩
    case round =>
      obtain ⟨k, n, s, hk, hn1, hn2, hs1, hs2, rfl, rfl, hv, hrel⟩ := hrel
      by_cases hlt : k < m.length
      · obtain ⟨b1, o1, d, rfl, hd, _, hld, _, _⟩ := h.pick (show k < l.length from HL.out ▸ hlt)
        obtain ⟨b2, o2, c, rfl, hc, _, hlc, _, _⟩ := g.pick hlt
        have hlt2 : k < l.length := HL.out ▸ hlt
        obtain ⟨d1, d2, d3, d4, d5⟩ := validFrom_step hld hn1 hv.out
        have HD := Lib.hid hld
        have HC := Lib.hid hlc
        have H5 := Lib.hid d5
        clear hld hlc h g d5
        by_cases c1 : c < 0
        · go_wp2
          go_ret2
          exact ⟨ret_ie (by rw [← hrel.out, HD.out, HC.out, indexFrom_no (.inl c1)]), rfl⟩
        by_cases c2 : d ≤ c
        · go_wp2
          go_ret2
          exact ⟨ret_ie (by rw [← hrel.out, HD.out, HC.out, indexFrom_no (.inr c2)]), rfl⟩
        have hb := idx_bd hs1 hs2 d1 (by omega : 0 ≤ c) (by omega)
        go_wp2
        go_round
        case rel => exact ⟨k + 1, n * d, s * d + c, by omega, by omega, by omega, by omega, by omega, by go_num, rfl, H5, by rw [← hrel.out, HD.out, HC.out, indexFrom_yes (by omega) (by omega)]; rfl⟩
        case measure => simp [intOf]; omega
      · go_wp2
        go_ret2
        exact ⟨ret_ie (by rw [← hrel.out, drop_end hk hlt]; cases l.drop k <;> rfl), rfl⟩
  · have hne : ((m.length : Int) != (l.length : Int)) = true := by simp; omega
    have HS := Lib.hid (indexL_len hl)
    have HV := Lib.hid hV
    clear hv hV
    go_enter Try.func17, Try.ntmps17
    go_wp2_with (go_at_call 25; refine HV.out.mono ?_; rintro e w' ⟨rfl, rfl⟩)
    go_ret2
    exact ⟨ret_ie HS.out.symm, rfl⟩

set_option maxHeartbeats 800000 in
theorem rIndex {w : World} {F G : Nat → Prop} {a b : Option Addr} {l m : List Int} (ca cb : Nat) (h : Ints w F a l) (g : Ints w G b m) :
    Calls Try.prog 18 #[.slice a l.length ca, .slice b m.length cb] w fun e w' => e = .returned (.tuple #[.int .i64 (indexL l m).1, .int .i64 (indexL l m).2]) ∧ ∃ n, w' = w.drewN n := by
  have hl1 := h.len
  have hl2 := g.len
  have hV := rValid ca h
  cases hv : validL l
  · rw [hv] at hV
    have HS := Lib.hid (indexL_bad (m := m) hv)
    have HV := Lib.hid hV
    clear hv hV
    go_enter Try.func18, Try.ntmps18
    go_wp2_with (go_at_call 26; refine HV.out.mono ?_; rintro e w' ⟨rfl, rfl⟩)
    go_ret2
    exact ⟨ret_ie HS.out.symm, 0, rfl⟩
  rw [hv] at hV
  by_cases hl : m.length = l.length
  · have hne : ((m.length : Int) != (l.length : Int)) = false := by simp [hl]
    have HS := Lib.hid (indexL_in hv hl)
    have HV := Lib.hid hV
    have HF := Lib.hid (validL_from hv)
    have HL := Lib.hid hl
    clear hv hV hl
    go_enter Try.func18, Try.ntmps18
    go_wp2_with (go_at_call 26; refine HV.out.mono ?_; rintro e w' ⟨rfl, rfl⟩)
    go_loopw [6, 7] (fun z i wr => ∃ k q : Nat, ∃ n s : Int, k ≤ l.length ∧ 1 ≤ n ∧ n ≤ 16384 ∧ 0 ≤ s ∧ s < n ∧ i = .int .i64 k ∧ z = .int .i64 s ∧ wr = w.drewN q ∧ Hid (validFrom (l.drop k) n = true) ∧ Hid (indexFrom (l.drop k) (m.drop k) s = indexL l m))
      (fun _ i _ => l.length - (intOf i).toNat)
    case atStart => exact ⟨0, 0, 1, 0, by omega, by omega, by omega, by omega, by omega, rfl, rfl, rfl, HF, HS⟩
    case round =>
      obtain ⟨k, q, n, s, hk, hn1, hn2, hs1, hs2, rfl, rfl, rfl, hv, hrel⟩ := hrel
      by_cases hlt : k < l.length
      · obtain ⟨b1, o1, d, rfl, hd, _, hld, _, _⟩ := h.pick hlt
        obtain ⟨b2, o2, c, rfl, hc, _, hlc, _, _⟩ := g.pick (show k < m.length from HL.out ▸ hlt)
        have hlt2 : k < m.length := HL.out ▸ hlt
        obtain ⟨d1, d2, d3, d4, d5⟩ := validFrom_step hld hn1 hv.out
        have HD := Lib.hid hld
        have HC := Lib.hid hlc
        have H5 := Lib.hid d5
        clear hld hlc h g d5
        by_cases c1 : c < 0
        · go_wp2
          go_quiet (fail)
          go_wp2
          go_ret2
          exact ⟨ret_ie (by rw [← hrel.out, HD.out, HC.out, indexFrom_no (.inl c1)]), drew2 _ _ _⟩
        have c1' : decide (c < 0) = false := by simpa using c1
        by_cases c2 : d ≤ c
        · go_wp2
          go_quiet (fail)
          go_wp2
          go_ret2
          exact ⟨ret_ie (by rw [← hrel.out, HD.out, HC.out, indexFrom_no (.inr c2)]), drew2 _ _ _⟩
        have hb := idx_bd hs1 hs2 d1 (by omega : 0 ≤ c) (by omega)
        go_wp2
        go_quiet (fail)
        go_wp2
        go_quiet (fail)
        go_wp2
        go_roundw
        case rel => exact ⟨k + 1, _, n * d, s * d + c, by omega, by omega, by omega, by omega, by omega, by go_num, rfl, rfl, H5, by rw [← hrel.out, HD.out, HC.out, indexFrom_yes (by omega) (by omega)]; rfl⟩
        case measure => simp [intOf]; omega
      · go_wp2
        go_ret2
        exact ⟨ret_ie (by rw [← hrel.out, drop_end hk hlt]; rfl), q, rfl⟩
  · have hne : ((m.length : Int) != (l.length : Int)) = true := by simp; omega
    have HS := Lib.hid (indexL_len hl)
    have HV := Lib.hid hV
    clear hv hV
    go_enter Try.func18, Try.ntmps18
    go_wp2_with (go_at_call 26; refine HV.out.mono ?_; rintro e w' ⟨rfl, rfl⟩)
    go_ret2
    exact ⟨ret_ie HS.out.symm, 0, rfl⟩

end Go.Proofs.Ytcgpidicegbnoaa
