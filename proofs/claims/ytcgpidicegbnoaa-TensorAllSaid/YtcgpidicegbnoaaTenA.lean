/-
  The walks of tensor.Valid, tensor.Size and of the reference's: each returns what the plain functions validL, sizeL give and leaves the world alone.
-/
import Derived.Test.YtcgpidicegbnoaaTenSpec
import Derived.Deep.QuietTactic
import Derived.BigQuiet
namespace Go.Proofs.Ytcgpidicegbnoaa
open Go.RowKit

set_option maxHeartbeats 400000 in
theorem tValid {w : World} {F : Nat → Prop} {a : Option Addr} {l : List Int} (cap : Nat) (h : Ints w F a l) :
    Calls Try.prog 25 #[.slice a l.length cap] w fun e w' => e = .returned (.bool (validL l)) ∧ w = w' := by
  have hlen := h.len
  by_cases h1 : l.length < 1
  · have HV := Lib.hid (validL_none h1)
    go_enter Try.func25, Try.ntmps25
    go_wp2
    go_ret
    exact ⟨ret_bool HV.out.symm, rfl⟩
  by_cases h4 : 4 < l.length
  · have HV := Lib.hid (validL_many h4)
    go_enter Try.func25, Try.ntmps25
    go_wp2
    go_ret
    exact ⟨ret_bool HV.out.symm, rfl⟩
  have HV := Lib.hid (validL_inside (l := l) (by omega) (by omega))
  go_enter Try.func25, Try.ntmps25
  go_wp2
  go_loop [3, 16] (fun z i => ∃ k : Nat, ∃ n : Int, k ≤ l.length ∧ 1 ≤ n ∧ n ≤ 16384 ∧ i = .int .i64 k ∧ z = .int .i64 n ∧ Hid (validFrom (l.drop k) n = validL l))
    (fun _ i => l.length - (intOf i).toNat)
  case atStart => exact ⟨0, 1, by omega, by omega, by omega, rfl, rfl, HV.out⟩
  case round =>
    obtain ⟨k, n, hk, hn1, hn2, rfl, rfl, hrel⟩ := hrel
    by_cases hlt : k < l.length
    · obtain ⟨b, off, d, rfl, hc, _, hd, hw1, hw2⟩ := h.pick hlt
      have HD := Lib.hid hd
      clear hd h
      by_cases c1 : d < 1
      · go_wp2
        go_ret
        exact ⟨ret_bool (by rw [← hrel.out, HD.out, validFrom_no (.inl c1)]), rfl⟩
      by_cases c2 : 16384 < d
      · go_wp2
        go_ret
        exact ⟨ret_bool (by rw [← hrel.out, HD.out, validFrom_no (.inr (.inl c2))]), rfl⟩
      have hb := mul_bd hn1 hn2 (by omega : 1 ≤ d) (by omega)
      by_cases c3 : 16384 < n * d
      · go_wp2
        go_ret
        exact ⟨ret_bool (by rw [← hrel.out, HD.out, validFrom_no (.inr (.inr c3))]), rfl⟩
      go_wp2
      go_round
      case rel => exact ⟨k + 1, n * d, by omega, by omega, by omega, by go_num, rfl, by rw [← hrel.out, HD.out, validFrom_yes c1 c2 c3]; rfl⟩
      case measure => simp [intOf]; omega
    · go_wp2
      go_ret
      exact ⟨ret_bool (by rw [← hrel.out, drop_end hk hlt]; rfl), rfl⟩

set_option maxHeartbeats 400000 in
theorem rValid {w : World} {F : Nat → Prop} {a : Option Addr} {l : List Int} (cap : Nat) (h : Ints w F a l) :
    Calls Try.prog 26 #[.slice a l.length cap] w fun e w' => e = .returned (.bool (validL l)) ∧ w = w' := by
  have hlen := h.len
  by_cases h1 : l.length < 1
  · have HV := Lib.hid (validL_none h1)
    go_enter Try.func26, Try.ntmps26
    go_wp2
    go_ret
    exact ⟨ret_bool HV.out.symm, rfl⟩
  by_cases h4 : 4 < l.length
  · have HV := Lib.hid (validL_many h4)
    go_enter Try.func26, Try.ntmps26
    go_wp2
    go_ret
    exact ⟨ret_bool HV.out.symm, rfl⟩
  have HV := Lib.hid (validL_inside (l := l) (by omega) (by omega))
  go_enter Try.func26, Try.ntmps26
  go_wp2
  go_loop [3, 4] (fun z i => ∃ k : Nat, ∃ n : Int, k ≤ l.length ∧ 1 ≤ n ∧ n ≤ 16384 ∧ i = .int .i64 k ∧ z = .int .i64 n ∧ Hid (validFrom (l.drop k) n = validL l))
    (fun _ i => l.length - (intOf i).toNat)
  case atStart => exact ⟨0, 1, by omega, by omega, by omega, rfl, rfl, HV.out⟩
  case round =>
    obtain ⟨k, n, hk, hn1, hn2, rfl, rfl, hrel⟩ := hrel
    by_cases hlt : k < l.length
    · obtain ⟨b, off, d, rfl, hc, _, hd, hw1, hw2⟩ := h.pick hlt
      have HD := Lib.hid hd
      clear hd h
      by_cases c1 : d < 1
      · go_wp2
        go_ret
        exact ⟨ret_bool (by rw [← hrel.out, HD.out, validFrom_no (.inl c1)]), rfl⟩
      by_cases c2 : 16384 < d
      · go_wp2
        go_ret
        exact ⟨ret_bool (by rw [← hrel.out, HD.out, validFrom_no (.inr (.inl c2))]), rfl⟩
      have hb := mul_bd hn1 hn2 (by omega : 1 ≤ d) (by omega)
      by_cases c3 : 16384 < n * d
      · go_wp2
        go_ret
        exact ⟨ret_bool (by rw [← hrel.out, HD.out, validFrom_no (.inr (.inr c3))]), rfl⟩
      go_wp2
      go_round
      case rel => exact ⟨k + 1, n * d, by omega, by omega, by omega, by go_num, rfl, by rw [← hrel.out, HD.out, validFrom_yes c1 c2 c3]; rfl⟩
      case measure => simp [intOf]; omega
    · go_wp2
      go_ret
      exact ⟨ret_bool (by rw [← hrel.out, drop_end hk hlt]; rfl), rfl⟩

set_option maxHeartbeats 400000 in
theorem tSize {w : World} {F : Nat → Prop} {a : Option Addr} {l : List Int} (cap : Nat) (h : Ints w F a l) :
    Calls Try.prog 27 #[.slice a l.length cap] w fun e w' => e = .returned (.int .i64 (sizeL l)) ∧ w = w' := by
  have hlen := h.len
  have hV := tValid cap h
  cases hv : validL l
  · rw [hv] at hV
    have HS := Lib.hid (show sizeL l = 0 by simp [sizeL, hv])
    have HV := Lib.hid hV
    clear hv hV
    go_enter Try.func27, Try.ntmps27
    go_wp2_with (go_at_call 25; refine HV.out.mono ?_; rintro e w' ⟨rfl, rfl⟩)
    go_ret
    exact ⟨ret_int HS.out.symm, rfl⟩
  · rw [hv] at hV
    have HS := Lib.hid (show sizeL l = prodFrom (l.drop 0) 1 by simp [sizeL, hv])
    have HV := Lib.hid hV
    have HF := Lib.hid (show validFrom (l.drop 0) 1 = true by simp [validL] at hv; exact hv.2)
    clear hv hV
    go_enter Try.func27, Try.ntmps27
    go_wp2_with (go_at_call 25; refine HV.out.mono ?_; rintro e w' ⟨rfl, rfl⟩)
    go_loop [3, 11] (fun z i => ∃ k : Nat, ∃ n : Int, k ≤ l.length ∧ 1 ≤ n ∧ n ≤ 16384 ∧ i = .int .i64 k ∧ z = .int .i64 n ∧ Hid (validFrom (l.drop k) n = true) ∧ Hid (prodFrom (l.drop k) n = sizeL l))
      (fun _ i => l.length - (intOf i).toNat)
    case atStart => exact ⟨0, 1, by omega, by omega, by omega, rfl, rfl, HF, HS.out.symm⟩
    case round =>
      obtain ⟨k, n, hk, hn1, hn2, rfl, rfl, hv, hrel⟩ := hrel
      by_cases hlt : k < l.length
      · obtain ⟨b, off, d, rfl, hc, _, hd, hw1, hw2⟩ := h.pick hlt
        obtain ⟨d1, d2, d3, d4, d5⟩ := validFrom_step hd hn1 hv.out
        have HD := Lib.hid hd
        have H5 := Lib.hid d5
        clear hd h d5
        go_wp2
        go_round
        case rel => exact ⟨k + 1, n * d, by omega, by omega, by omega, by go_num, rfl, H5, by rw [← hrel.out, HD.out]; rfl⟩
        case measure => simp [intOf]; omega
      · go_wp2
        go_ret
        exact ⟨ret_int (by rw [← hrel.out, drop_end hk hlt]; rfl), rfl⟩

set_option maxHeartbeats 400000 in
theorem rSize {w : World} {F : Nat → Prop} {a : Option Addr} {l : List Int} (cap : Nat) (h : Ints w F a l) :
    Calls Try.prog 24 #[.slice a l.length cap] w fun e w' => e = .returned (.int .i64 (sizeL l)) ∧ w = w' := by
  have hlen := h.len
  have hV := rValid cap h
  cases hv : validL l
  · rw [hv] at hV
    have HS := Lib.hid (show sizeL l = 0 by simp [sizeL, hv])
    have HV := Lib.hid hV
    clear hv hV
    go_enter Try.func24, Try.ntmps24
    go_wp2_with (go_at_call 26; refine HV.out.mono ?_; rintro e w' ⟨rfl, rfl⟩)
    go_ret
    exact ⟨ret_int HS.out.symm, rfl⟩
  · rw [hv] at hV
    have HS := Lib.hid (show sizeL l = prodFrom (l.drop 0) 1 by simp [sizeL, hv])
    have HV := Lib.hid hV
    have HF := Lib.hid (show validFrom (l.drop 0) 1 = true by simp [validL] at hv; exact hv.2)
    clear hv hV
    go_enter Try.func24, Try.ntmps24
    go_wp2_with (go_at_call 26; refine HV.out.mono ?_; rintro e w' ⟨rfl, rfl⟩)
    go_loop [3, 4] (fun z i => ∃ k : Nat, ∃ n : Int, k ≤ l.length ∧ 1 ≤ n ∧ n ≤ 16384 ∧ i = .int .i64 k ∧ z = .int .i64 n ∧ Hid (validFrom (l.drop k) n = true) ∧ Hid (prodFrom (l.drop k) n = sizeL l))
      (fun _ i => l.length - (intOf i).toNat)
    case atStart => exact ⟨0, 1, by omega, by omega, by omega, rfl, rfl, HF, HS.out.symm⟩
    case round =>
      obtain ⟨k, n, hk, hn1, hn2, rfl, rfl, hv, hrel⟩ := hrel
      by_cases hlt : k < l.length
      · obtain ⟨b, off, d, rfl, hc, _, hd, hw1, hw2⟩ := h.pick hlt
        obtain ⟨d1, d2, d3, d4, d5⟩ := validFrom_step hd hn1 hv.out
        have HD := Lib.hid hd
        have H5 := Lib.hid d5
        clear hd h d5
        go_wp2
        go_round
        case rel => exact ⟨k + 1, n * d, by omega, by omega, by omega, by go_num, rfl, H5, by rw [← hrel.out, HD.out]; rfl⟩
        case measure => simp [intOf]; omega
      · go_wp2
        go_ret
        exact ⟨ret_int (by rw [← hrel.out, drop_end hk hlt]; rfl), rfl⟩

set_option maxHeartbeats 400000 in
theorem rInts {w : World} {F G : Nat → Prop} {a b : Option Addr} {l m : List Int} (ca cb : Nat) (h : Ints w F a l) (g : Ints w G b m) :
    Calls Try.prog 22 #[.slice a l.length ca, .slice b m.length cb] w fun e w' => e = .returned (.bool (sameL l m)) ∧ ∃ n, w' = w.drewN n := by
  have hl1 := h.len
  have hl2 := g.len
  by_cases hl : l.length = m.length
  · have HL := Lib.hid hl
    go_enter Try.func22, Try.ntmps22
    go_wp2
    clear hl
    go_loopw [5] (fun i wr => ∃ k n : Nat, k ≤ l.length ∧ i = .int .i64 k ∧ wr = w.drewN n ∧ Hid (l.take k = m.take k)) (fun i _ => l.length - (intOf i).toNat)
    case atStart => exact ⟨0, 0, by omega, rfl, rfl, rfl⟩
    case round =>
      obtain ⟨k, n, hk, rfl, rfl, hrel⟩ := hrel
      by_cases hlt : k < l.length
      · obtain ⟨b1, o1, c, rfl, hc, hc1, _, _, _⟩ := h.pick hlt
        obtain ⟨b2, o2, d, rfl, hd, hd1, _, _, _⟩ := g.pick (show k < m.length from HL.out ▸ hlt)
        have HC := Lib.hid hc1
        have HD := Lib.hid hd1
        have hlt2 : k < m.length := HL.out ▸ hlt
        clear hc1 hd1 h g
        by_cases hcd : c = d
        · subst hcd
          go_wp2
          go_quiet (fail)
          go_wp2
          go_roundw
          case rel => exact ⟨k + 1, _, by omega, by go_num, rfl, take_more hrel.out HC.out HD.out⟩
          case measure => simp [intOf]; omega
        · have hne : (c != d) = true := by simp [hcd]
          go_wp2
          go_quiet (fail)
          go_wp2
          go_ret
          exact ⟨ret_bool (sameL_no HC.out HD.out hcd).symm, drew2 _ _ _⟩
      · go_wp2
        go_ret
        exact ⟨ret_bool (sameL_full hlt HL.out hrel.out).symm, n, rfl⟩
  · have HS := Lib.hid (sameL_len hl)
    go_enter Try.func22, Try.ntmps22
    go_wp2
    go_ret
    exact ⟨ret_bool HS.out.symm, 0, rfl⟩

end Go.Proofs.Ytcgpidicegbnoaa
