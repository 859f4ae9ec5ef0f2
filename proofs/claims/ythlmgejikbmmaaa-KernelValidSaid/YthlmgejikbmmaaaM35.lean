/-
  Contracts of the functions that the statements reach, in the order in which they are built: RKC.
-/
import Derived.Test.YthlmgejikbmmaaaM7
set_option linter.unusedVariables false
set_option linter.unusedSimpArgs false
set_option linter.constructorNameAsVariable false
set_option linter.deprecated false

/-
  The reference's within, bare, fits of layer 54: by contract.
-/
namespace Go.Proofs.Ythlmgejikbmmaaa
open Go.RowKit

set_option maxHeartbeats 400000 in
theorem xWithin (n lo hi : Int) (w : World) : Calls Try.prog 45 #[.int .i64 n, .int .i64 lo, .int .i64 hi] w fun e w' => e = .returned (.bool (wthn n lo hi)) ∧ w = w' := by
  go_enter Try.func45, Try.ntmps45
  go_wp2
  all_goals
    go_ret
    refine ⟨ret_bool ?_, rfl⟩
    unfold wthn
    rw [Bool.eq_iff_iff]
    simp
    try omega
theorem one_alloc {w w1 : World} {o1 : Obj} (hb : Below (w.alloc o1).heap.size (w.alloc o1) w1) : Below w.heap.size w w1 :=
  ((Below.refl _ _).alloc (Nat.le_refl _) _).trans (hb.mono (by simp))

set_option maxRecDepth 100000 in
set_option maxHeartbeats 1600000 in
theorem xBare1 (k : Int) (d s o c i mu h : Int) (a1 a2 a3 : Option Addr) (l1 l2 l3 c1 c2 c3 : Nat) (hl1 : l1 ≤ 9223372036854775807) (hl2 : l2 ≤ 9223372036854775807) (hl3 : l3 ≤ 9223372036854775807) (w : World) :
    Calls Try.prog 67 #[.agg #[.int .i64 k, .int .i64 d, .int .i64 s, .int .i64 o, .int .i64 c, .int .i64 i, .slice a1 l1 c1, .slice a2 l2 c2, .slice a3 l3 c3, .int .i64 mu, .int .i64 h], .bool false, .bool false, .bool false, .bool true, .bool false, .bool false] w
      fun e w' => e = .returned (.bool (decide (c = 0 ∧ i = 0 ∧ o = 0 ∧ l2 = 0 ∧ l3 = 0 ∧ mu = 0 ∧ h = 0))) ∧ Below w.heap.size w w' := by
  go_enter Try.func67, Try.ntmps67
  go_wp2
  all_goals
    go_ret
    refine ⟨ret_bool ?_, (Below.refl _ _).alloc (Nat.le_refl _) _⟩
    rw [Bool.eq_iff_iff]
    simp
    try omega

set_option maxRecDepth 100000 in
set_option maxHeartbeats 1600000 in
theorem xBare2 (k : Int) (d s o c i mu h : Int) (a1 a2 a3 : Option Addr) (l1 l2 l3 c1 c2 c3 : Nat) (hl1 : l1 ≤ 9223372036854775807) (hl2 : l2 ≤ 9223372036854775807) (hl3 : l3 ≤ 9223372036854775807) (w : World) :
    Calls Try.prog 67 #[.agg #[.int .i64 k, .int .i64 d, .int .i64 s, .int .i64 o, .int .i64 c, .int .i64 i, .slice a1 l1 c1, .slice a2 l2 c2, .slice a3 l3 c3, .int .i64 mu, .int .i64 h], .bool true, .bool true, .bool false, .bool false, .bool true, .bool false] w
      fun e w' => e = .returned (.bool (decide (o = 0 ∧ l1 = 0 ∧ mu = 0 ∧ h = 0))) ∧ Below w.heap.size w w' := by
  go_enter Try.func67, Try.ntmps67
  go_wp2
  all_goals
    go_ret
    refine ⟨ret_bool ?_, (Below.refl _ _).alloc (Nat.le_refl _) _⟩
    rw [Bool.eq_iff_iff]
    simp
    try omega

set_option maxRecDepth 100000 in
set_option maxHeartbeats 1600000 in
theorem xBare3 (k : Int) (d s o c i mu h : Int) (a1 a2 a3 : Option Addr) (l1 l2 l3 c1 c2 c3 : Nat) (hl1 : l1 ≤ 9223372036854775807) (hl2 : l2 ≤ 9223372036854775807) (hl3 : l3 ≤ 9223372036854775807) (w : World) :
    Calls Try.prog 67 #[.agg #[.int .i64 k, .int .i64 d, .int .i64 s, .int .i64 o, .int .i64 c, .int .i64 i, .slice a1 l1 c1, .slice a2 l2 c2, .slice a3 l3 c3, .int .i64 mu, .int .i64 h], .bool false, .bool false, .bool false, .bool false, .bool false, .bool false] w
      fun e w' => e = .returned (.bool (decide (c = 0 ∧ i = 0 ∧ o = 0 ∧ l1 = 0 ∧ l2 = 0 ∧ l3 = 0 ∧ mu = 0 ∧ h = 0))) ∧ Below w.heap.size w w' := by
  go_enter Try.func67, Try.ntmps67
  go_wp2
  all_goals
    go_ret
    refine ⟨ret_bool ?_, (Below.refl _ _).alloc (Nat.le_refl _) _⟩
    rw [Bool.eq_iff_iff]
    simp
    try omega

set_option maxRecDepth 100000 in
set_option maxHeartbeats 1600000 in
theorem xBare4 (k : Int) (d s o c i mu h : Int) (a1 a2 a3 : Option Addr) (l1 l2 l3 c1 c2 c3 : Nat) (hl1 : l1 ≤ 9223372036854775807) (hl2 : l2 ≤ 9223372036854775807) (hl3 : l3 ≤ 9223372036854775807) (w : World) :
    Calls Try.prog 67 #[.agg #[.int .i64 k, .int .i64 d, .int .i64 s, .int .i64 o, .int .i64 c, .int .i64 i, .slice a1 l1 c1, .slice a2 l2 c2, .slice a3 l3 c3, .int .i64 mu, .int .i64 h], .bool false, .bool true, .bool false, .bool false, .bool false, .bool false] w
      fun e w' => e = .returned (.bool (decide (c = 0 ∧ o = 0 ∧ l1 = 0 ∧ l2 = 0 ∧ l3 = 0 ∧ mu = 0 ∧ h = 0))) ∧ Below w.heap.size w w' := by
  go_enter Try.func67, Try.ntmps67
  go_wp2
  all_goals
    go_ret
    refine ⟨ret_bool ?_, (Below.refl _ _).alloc (Nat.le_refl _) _⟩
    rw [Bool.eq_iff_iff]
    simp
    try omega

set_option maxRecDepth 100000 in
set_option maxHeartbeats 1600000 in
theorem xBare6 (k : Int) (d s o c i mu h : Int) (a1 a2 a3 : Option Addr) (l1 l2 l3 c1 c2 c3 : Nat) (hl1 : l1 ≤ 9223372036854775807) (hl2 : l2 ≤ 9223372036854775807) (hl3 : l3 ≤ 9223372036854775807) (w : World) :
    Calls Try.prog 67 #[.agg #[.int .i64 k, .int .i64 d, .int .i64 s, .int .i64 o, .int .i64 c, .int .i64 i, .slice a1 l1 c1, .slice a2 l2 c2, .slice a3 l3 c3, .int .i64 mu, .int .i64 h], .bool false, .bool false, .bool true, .bool false, .bool false, .bool false] w
      fun e w' => e = .returned (.bool (decide (c = 0 ∧ i = 0 ∧ l1 = 0 ∧ l2 = 0 ∧ l3 = 0 ∧ mu = 0 ∧ h = 0))) ∧ Below w.heap.size w w' := by
  go_enter Try.func67, Try.ntmps67
  go_wp2
  all_goals
    go_ret
    refine ⟨ret_bool ?_, (Below.refl _ _).alloc (Nat.le_refl _) _⟩
    rw [Bool.eq_iff_iff]
    simp
    try omega

set_option maxRecDepth 100000 in
set_option maxHeartbeats 1600000 in
theorem xBare7 (k : Int) (d s o c i mu h : Int) (a1 a2 a3 : Option Addr) (l1 l2 l3 c1 c2 c3 : Nat) (hl1 : l1 ≤ 9223372036854775807) (hl2 : l2 ≤ 9223372036854775807) (hl3 : l3 ≤ 9223372036854775807) (w : World) :
    Calls Try.prog 67 #[.agg #[.int .i64 k, .int .i64 d, .int .i64 s, .int .i64 o, .int .i64 c, .int .i64 i, .slice a1 l1 c1, .slice a2 l2 c2, .slice a3 l3 c3, .int .i64 mu, .int .i64 h], .bool false, .bool false, .bool false, .bool false, .bool false, .bool true] w
      fun e w' => e = .returned (.bool (decide (c = 0 ∧ i = 0 ∧ o = 0 ∧ l1 = 0 ∧ l2 = 0 ∧ l3 = 0))) ∧ Below w.heap.size w w' := by
  go_enter Try.func67, Try.ntmps67
  go_wp2
  all_goals
    go_ret
    refine ⟨ret_bool ?_, (Below.refl _ _).alloc (Nat.le_refl _) _⟩
    rw [Bool.eq_iff_iff]
    simp
    try omega

set_option maxRecDepth 100000 in
set_option maxHeartbeats 3200000 in
theorem xFits3 (d s o c i mu h : Int) (a1 a2 a3 : Option Addr) (l1 l2 l3 c1 c2 c3 : Nat) (hl1 : l1 ≤ 9223372036854775807) (hl2 : l2 ≤ 9223372036854775807) (hl3 : l3 ≤ 9223372036854775807) (n m t : Int) (w : World) :
    Calls Try.prog 46 #[.agg #[.int .i64 3, .int .i64 d, .int .i64 s, .int .i64 o, .int .i64 c, .int .i64 i, .slice a1 l1 c1, .slice a2 l2 c2, .slice a3 l3 c3, .int .i64 mu, .int .i64 h], .int .i64 n, .int .i64 m, .int .i64 t] w
      fun e w' => e = .returned (.bool (decide (o = 0 ∧ c = 0 ∧ i = 0 ∧ mu = 0 ∧ h = 0 ∧ l1 = 0 ∧ l2 = 0 ∧ l3 = 0 ∧ m = n))) ∧ Below w.heap.size w w' := by
  by_cases hm : m = n
  · have t1 : (m == n) = true := by rw [beq_iff_eq]; exact hm
    go_enter Try.func46, Try.ntmps46
    go_wp2_with fail
    refine (xBare3 _ _ _ _ _ _ _ _ _ _ _ _ _ _ _ _ _ hl1 hl2 hl3 _).mono ?_
    rintro e w1 ⟨rfl, hb⟩
    have HB := Lib.hid (one_alloc hb)
    clear hb
    go_wp2
    all_goals
      go_ret
      refine ⟨ret_bool ?_, HB.out⟩
      rw [Bool.eq_iff_iff]
      simp
      try omega
  · have t1 : (m == n) = false := by rw [beq_eq_false_iff_ne]; exact hm
    go_enter Try.func46, Try.ntmps46
    go_wp2
    go_ret
    refine ⟨ret_bool ?_, (Below.refl _ _).alloc (Nat.le_refl _) _⟩
    rw [Bool.eq_iff_iff]
    simp
    try omega

set_option maxRecDepth 100000 in
set_option maxHeartbeats 3200000 in
theorem xFits6 (d s o c i mu h : Int) (a1 a2 a3 : Option Addr) (l1 l2 l3 c1 c2 c3 : Nat) (hl1 : l1 ≤ 9223372036854775807) (hl2 : l2 ≤ 9223372036854775807) (hl3 : l3 ≤ 9223372036854775807) (n m t : Int) (w : World) :
    Calls Try.prog 46 #[.agg #[.int .i64 6, .int .i64 d, .int .i64 s, .int .i64 o, .int .i64 c, .int .i64 i, .slice a1 l1 c1, .slice a2 l2 c2, .slice a3 l3 c3, .int .i64 mu, .int .i64 h], .int .i64 n, .int .i64 m, .int .i64 t] w
      fun e w' => e = .returned (.bool (decide (c = 0 ∧ i = 0 ∧ mu = 0 ∧ h = 0 ∧ l1 = 0 ∧ l2 = 0 ∧ l3 = 0 ∧ m = n ∧ t = n))) ∧ Below w.heap.size w w' := by
  by_cases hm : m = n ∧ t = n
  · have t1 : (m == n) = true := by rw [beq_iff_eq]; exact hm.1
    have t2 : (t == n) = true := by rw [beq_iff_eq]; exact hm.2
    go_enter Try.func46, Try.ntmps46
    go_wp2_with fail
    refine (xBare6 _ _ _ _ _ _ _ _ _ _ _ _ _ _ _ _ _ hl1 hl2 hl3 _).mono ?_
    rintro e w1 ⟨rfl, hb⟩
    have HB := Lib.hid (one_alloc hb)
    clear hb
    go_wp2
    all_goals
      go_ret
      refine ⟨ret_bool ?_, HB.out⟩
      rw [Bool.eq_iff_iff]
      simp
      try omega
  · go_enter Try.func46, Try.ntmps46
    go_wp2
    all_goals
      go_ret
      refine ⟨ret_bool ?_, (Below.refl _ _).alloc (Nat.le_refl _) _⟩
      rw [Bool.eq_iff_iff]
      simp
      try omega

set_option maxRecDepth 100000 in
set_option maxHeartbeats 3200000 in
theorem xFits7 (d s o c i mu h : Int) (a1 a2 a3 : Option Addr) (l1 l2 l3 c1 c2 c3 : Nat) (hl1 : l1 ≤ 9223372036854775807) (hl2 : l2 ≤ 9223372036854775807) (hl3 : l3 ≤ 9223372036854775807) (n m t : Int) (w : World) :
    Calls Try.prog 46 #[.agg #[.int .i64 7, .int .i64 d, .int .i64 s, .int .i64 o, .int .i64 c, .int .i64 i, .slice a1 l1 c1, .slice a2 l2 c2, .slice a3 l3 c3, .int .i64 mu, .int .i64 h], .int .i64 n, .int .i64 m, .int .i64 t] w
      fun e w' => e = .returned (.bool (decide (o = 0 ∧ c = 0 ∧ i = 0 ∧ l1 = 0 ∧ l2 = 0 ∧ l3 = 0 ∧ m = n ∧ 0 ≤ h ∧ h ≤ 62))) ∧ Below w.heap.size w w' := by
  by_cases hm : m = n
  · have t1 : (m == n) = true := by rw [beq_iff_eq]; exact hm
    go_enter Try.func46, Try.ntmps46
    go_wp2_with fail
    refine (xWithin _ _ _ _).mono ?_
    rintro e w1 ⟨rfl, rfl⟩
    by_cases hw : 0 ≤ h ∧ h ≤ 62
    · have t2 : wthn h 0 62 = true := wthn_iff.2 hw
      go_wp2_with fail
      refine (xBare7 _ _ _ _ _ _ _ _ _ _ _ _ _ _ _ _ _ hl1 hl2 hl3 _).mono ?_
      rintro e w1 ⟨rfl, hb⟩
      have HB := Lib.hid (one_alloc hb)
      clear hb
      go_wp2
      all_goals
        go_ret
        refine ⟨ret_bool ?_, HB.out⟩
        rw [Bool.eq_iff_iff]
        simp
        try omega
    · have t2 : wthn h 0 62 = false := by rw [← Bool.not_eq_true, wthn_iff]; exact hw
      go_wp2
      go_ret
      refine ⟨ret_bool ?_, (Below.refl _ _).alloc (Nat.le_refl _) _⟩
      rw [Bool.eq_iff_iff]
      simp
      try omega
  · have t1 : (m == n) = false := by rw [beq_eq_false_iff_ne]; exact hm
    go_enter Try.func46, Try.ntmps46
    go_wp2
    go_ret
    refine ⟨ret_bool ?_, (Below.refl _ _).alloc (Nat.le_refl _) _⟩
    rw [Bool.eq_iff_iff]
    simp
    try omega

set_option maxRecDepth 100000 in
set_option maxHeartbeats 3200000 in
theorem xFits4 (d s o c i mu h : Int) (a1 a2 a3 : Option Addr) (l1 l2 l3 c1 c2 c3 : Nat) (hl1 : l1 ≤ 9223372036854775807) (hl2 : l2 ≤ 9223372036854775807) (hl3 : l3 ≤ 9223372036854775807) (n m t : Int) (hn1 : 1 ≤ n) (hn2 : n ≤ 262144) (w : World) :
    Calls Try.prog 46 #[.agg #[.int .i64 4, .int .i64 d, .int .i64 s, .int .i64 o, .int .i64 c, .int .i64 i, .slice a1 l1 c1, .slice a2 l2 c2, .slice a3 l3 c3, .int .i64 mu, .int .i64 h], .int .i64 n, .int .i64 m, .int .i64 t] w
      fun e w' => e = .returned (.bool (decide (o = 0 ∧ c = 0 ∧ mu = 0 ∧ h = 0 ∧ l1 = 0 ∧ l2 = 0 ∧ l3 = 0 ∧ 1 ≤ i ∧ i ≤ 262144 ∧ m = n * i))) ∧ Below w.heap.size w w' := by
  go_enter Try.func46, Try.ntmps46
  go_wp2_with fail
  refine (xWithin _ _ _ _).mono ?_
  rintro e w1 ⟨rfl, rfl⟩
  by_cases hw : 1 ≤ i ∧ i ≤ 262144
  · have t2 : wthn i 1 262144 = true := wthn_iff.2 hw
    have hbd := mul_int_bd hn1 hn2 hw.1 hw.2
    obtain ⟨hp1, hp2⟩ := hbd
    by_cases hm : m = n * i
    · have t1 : (m == n * i) = true := by rw [beq_iff_eq]; exact hm
      go_wp2_with fail
      refine (xBare4 _ _ _ _ _ _ _ _ _ _ _ _ _ _ _ _ _ hl1 hl2 hl3 _).mono ?_
      rintro e w1 ⟨rfl, hb⟩
      have HB := Lib.hid (one_alloc hb)
      clear hb
      go_wp2
      all_goals
        go_ret
        refine ⟨ret_bool ?_, HB.out⟩
        rw [Bool.eq_iff_iff]
        simp
        try omega
    · have t1 : (m == n * i) = false := by rw [beq_eq_false_iff_ne]; exact hm
      go_wp2
      go_ret
      refine ⟨ret_bool ?_, (Below.refl _ _).alloc (Nat.le_refl _) _⟩
      rw [Bool.eq_iff_iff]
      simp
      try omega
  · have t2 : wthn i 1 262144 = false := by rw [← Bool.not_eq_true, wthn_iff]; exact hw
    go_wp2
    go_ret
    refine ⟨ret_bool ?_, (Below.refl _ _).alloc (Nat.le_refl _) _⟩
    rw [Bool.eq_iff_iff]
    simp only [Bool.false_eq_true, decide_eq_true_eq, false_iff]
    intro g
    exact hw ⟨g.2.2.2.2.2.2.2.1, g.2.2.2.2.2.2.2.2.1⟩

set_option maxRecDepth 100000 in
set_option maxHeartbeats 3200000 in
theorem xFits5 (d s o c i mu h : Int) (a1 a2 a3 : Option Addr) (l1 l2 l3 c1 c2 c3 : Nat) (hl1 : l1 ≤ 9223372036854775807) (hl2 : l2 ≤ 9223372036854775807) (hl3 : l3 ≤ 9223372036854775807) (n m t : Int) (hn1 : 1 ≤ n) (hn2 : n ≤ 262144) (w : World) :
    Calls Try.prog 46 #[.agg #[.int .i64 5, .int .i64 d, .int .i64 s, .int .i64 o, .int .i64 c, .int .i64 i, .slice a1 l1 c1, .slice a2 l2 c2, .slice a3 l3 c3, .int .i64 mu, .int .i64 h], .int .i64 n, .int .i64 m, .int .i64 t] w
      fun e w' => e = .returned (.bool (decide (o = 0 ∧ c = 0 ∧ mu = 0 ∧ h = 0 ∧ l1 = 0 ∧ l2 = 0 ∧ l3 = 0 ∧ 1 ≤ i ∧ i ≤ 262144 ∧ m = n * i))) ∧ Below w.heap.size w w' := by
  go_enter Try.func46, Try.ntmps46
  go_wp2_with fail
  refine (xWithin _ _ _ _).mono ?_
  rintro e w1 ⟨rfl, rfl⟩
  by_cases hw : 1 ≤ i ∧ i ≤ 262144
  · have t2 : wthn i 1 262144 = true := wthn_iff.2 hw
    have hbd := mul_int_bd hn1 hn2 hw.1 hw.2
    obtain ⟨hp1, hp2⟩ := hbd
    by_cases hm : m = n * i
    · have t1 : (m == n * i) = true := by rw [beq_iff_eq]; exact hm
      go_wp2_with fail
      refine (xBare4 _ _ _ _ _ _ _ _ _ _ _ _ _ _ _ _ _ hl1 hl2 hl3 _).mono ?_
      rintro e w1 ⟨rfl, hb⟩
      have HB := Lib.hid (one_alloc hb)
      clear hb
      go_wp2
      all_goals
        go_ret
        refine ⟨ret_bool ?_, HB.out⟩
        rw [Bool.eq_iff_iff]
        simp
        try omega
    · have t1 : (m == n * i) = false := by rw [beq_eq_false_iff_ne]; exact hm
      go_wp2
      go_ret
      refine ⟨ret_bool ?_, (Below.refl _ _).alloc (Nat.le_refl _) _⟩
      rw [Bool.eq_iff_iff]
      simp
      try omega
  · have t2 : wthn i 1 262144 = false := by rw [← Bool.not_eq_true, wthn_iff]; exact hw
    go_wp2
    go_ret
    refine ⟨ret_bool ?_, (Below.refl _ _).alloc (Nat.le_refl _) _⟩
    rw [Bool.eq_iff_iff]
    simp only [Bool.false_eq_true, decide_eq_true_eq, false_iff]
    intro g
    exact hw ⟨g.2.2.2.2.2.2.2.1, g.2.2.2.2.2.2.2.2.1⟩

set_option maxRecDepth 100000 in
set_option maxHeartbeats 3200000 in
theorem xFits1 (d s o c i mu h : Int) (a1 a2 a3 : Option Addr) (L : List Int) (l2 l3 c1 c2 c3 : Nat) (hl2 : l2 ≤ 9223372036854775807) (hl3 : l3 ≤ 9223372036854775807) (n m t : Int) (hm1 : 1 ≤ m) (hm2 : m ≤ 262144) (w : World) {F : Nat → Prop} (hL : Ints w F a1 L) :
    Calls Try.prog 46 #[.agg #[.int .i64 1, .int .i64 d, .int .i64 s, .int .i64 o, .int .i64 c, .int .i64 i, .slice a1 L.length c1, .slice a2 l2 c2, .slice a3 l3 c3, .int .i64 mu, .int .i64 h], .int .i64 n, .int .i64 m, .int .i64 t] w
      fun e w' => e = .returned (.bool (decide (o = 0 ∧ c = 0 ∧ i = 0 ∧ mu = 0 ∧ h = 0 ∧ l2 = 0 ∧ l3 = 0 ∧ (L.length : Int) = n) && L.all (fun x => wthn x (-1) (m - 1)))) ∧ Below w.heap.size w w' := by
  have hl1 := hL.len
  have HL0 := Lib.hid hL
  clear hL
  go_enter Try.func46, Try.ntmps46
  go_upto_region 1 with fail
  have hX := Box11.alloc w (.int .i64 1) (.int .i64 d) (.int .i64 s) (.int .i64 o) (.int .i64 c) (.int .i64 i) (.slice a1 L.length c1) (.slice a2 l2 c2) (.slice a3 l3 c3) (.int .i64 mu) (.int .i64 h) 50
  have hb : Below w.heap.size w (w.alloc (.cells #[.int .i64 1, .int .i64 d, .int .i64 s, .int .i64 o, .int .i64 c, .int .i64 i, .slice a1 L.length c1, .slice a2 l2 c2, .slice a3 l3 c3, .int .i64 mu, .int .i64 h] 50)) := (Below.refl _ w).alloc (Nat.le_refl _) _
  generalize w.alloc (.cells #[.int .i64 1, .int .i64 d, .int .i64 s, .int .i64 o, .int .i64 c, .int .i64 i, .slice a1 L.length c1, .slice a2 l2 c2, .slice a3 l3 c3, .int .i64 mu, .int .i64 h] 50) = W at *
  have HL := Lib.hid (HL0.out.below hb)
  have HBl := Lib.hid hb
  obtain ⟨x0, x1, x2, x3, x4, x5, x6, x7, x8, x9, x10, xlt⟩ := hX
  clear hb HL0
  go_wp2
  go_loop [9] (fun j => ∃ k : Nat, k ≤ L.length ∧ j = .int .i64 (k : Int) ∧ Hid ((L.take k).all (fun x => wthn x (-1) (m - 1)) = true)) (fun j => L.length - (intOf j).toNat)
  case atStart => exact ⟨0, Nat.zero_le _, rfl, rfl⟩
  case round =>
    obtain ⟨k, hk, rfl, HA⟩ := hrel
    by_cases hlt : k < L.length
    · obtain ⟨b, off, x, rfl, hcell, hx, hdrop, hbs, _, hx1, hx2⟩ := HL.out.pick2 hlt
      have HX : Hid (L.all (fun x => wthn x (-1) (m - 1)) = true → wthn x (-1) (m - 1) = true) := fun h => List.all_eq_true.1 h x (List.mem_of_getElem? hx)
      have HN : Hid ((L.take (k + 1)).all (fun x => wthn x (-1) (m - 1)) = ((L.take k).all (fun x => wthn x (-1) (m - 1)) && wthn x (-1) (m - 1))) := by
        unfold Hid
        rw [List.take_add_one, hx]; simp
      clear hdrop hx
      by_cases hw : wthn x (-1) (m - 1) = true
      · have HK := Lib.hid (fun wv => xWithin x (-1) (m - 1) wv)
        have HW := Lib.hid hw
        rw [hw] at HK
        clear hw
        go_wp2_with fail
        refine (HK.out _).mono ?_
        rintro e w2 ⟨rfl, rfl⟩
        go_wp2
        go_round
        case rel => exact ⟨k + 1, hlt, by go_num, by unfold Hid; rw [HN.out, HA.out, HW.out]; rfl⟩
        case measure => simp [intOf]; omega
      · have hwf : wthn x (-1) (m - 1) = false := by rw [← Bool.not_eq_true]; exact hw
        have HK := Lib.hid (fun wv => xWithin x (-1) (m - 1) wv)
        have HW : Hid (L.all (fun x => wthn x (-1) (m - 1)) = false) := by
          unfold Hid
          rw [← Bool.not_eq_true]
          exact fun h => hw (HX.out h)
        rw [hwf] at HK
        clear hw hwf
        go_wp2_with fail
        refine (HK.out _).mono ?_
        rintro e w2 ⟨rfl, rfl⟩
        go_wp2
        go_ret
        exact ⟨ret_bool (by rw [HW.out, Bool.and_false]), HBl.out⟩
    · have HAll : Hid (L.all (fun x => wthn x (-1) (m - 1)) = true) := by
        have h := HA.out
        rw [List.take_of_length_le (by omega)] at h
        exact h
      have HB3 := Lib.hid (fun wv => xBare1 1 d s o c i mu h a1 a2 a3 L.length l2 l3 c1 c2 c3 hl1 hl2 hl3 wv)
      by_cases hn : (L.length : Int) = n
      · have t1 : ((L.length : Int) == n) = true := by rw [beq_iff_eq]; exact hn
        go_wp2_with fail
        refine (HB3.out _).mono ?_
        rintro e w1 ⟨rfl, hb⟩
        have HB := Lib.hid (HBl.out.trans (hb.mono HBl.out.size))
        clear hb
        go_wp2
        all_goals
          go_ret
          refine ⟨ret_bool ?_, HB.out⟩
          rw [HAll.out, Bool.and_true, Bool.eq_iff_iff]
          simp
          try omega
      · have t1 : ((L.length : Int) == n) = false := by rw [beq_eq_false_iff_ne]; exact hn
        go_wp2
        go_ret
        refine ⟨ret_bool ?_, HBl.out⟩
        first
          | rfl
          | (rw [HAll.out, Bool.and_true, eq_comm, decide_eq_false_iff_not]; exact fun g => hn g.2.2.2.2.2.2.2)

theorem gemm_eq {n c : Int} {l3 : Nat} (hc : 1 ≤ c) : (n % c = 0 ∧ (l3 : Int) = n / c) ↔ n = (l3 : Int) * c := by
  constructor
  · rintro ⟨h1, h2⟩
    rw [h2]
    exact (Int.ediv_mul_cancel (Int.dvd_of_emod_eq_zero h1)).symm
  · rintro rfl
    exact ⟨Int.mul_emod_left _ _, (Int.mul_ediv_cancel _ (by omega)).symm⟩
theorem prod_bd {l : Nat} {c : Int} (h1 : l ≤ 262144) (h2 : 1 ≤ c) (h3 : c ≤ 262144) : 0 ≤ (l : Int) * c ∧ (l : Int) * c ≤ 68719476736 :=
  ⟨Int.mul_nonneg (by omega) (by omega), Int.le_trans (Int.mul_le_mul (show (l : Int) ≤ 262144 by omega) h3 (by omega) (by omega)) (by decide)⟩

set_option maxRecDepth 100000 in
set_option maxHeartbeats 3200000 in
theorem xFits2 (d s o c i mu h : Int) (a1 a2 a3 : Option Addr) (l1 l2 l3 c1 c2 c3 : Nat) (hl1 : l1 ≤ 9223372036854775807) (hl2 : l2 ≤ 9223372036854775807) (hl3 : l3 ≤ 9223372036854775807) (n m t : Int) (hn1 : 1 ≤ n) (hn2 : n ≤ 262144) (w : World) :
    Calls Try.prog 46 #[.agg #[.int .i64 2, .int .i64 d, .int .i64 s, .int .i64 o, .int .i64 c, .int .i64 i, .slice a1 l1 c1, .slice a2 l2 c2, .slice a3 l3 c3, .int .i64 mu, .int .i64 h], .int .i64 n, .int .i64 m, .int .i64 t] w
      fun e w' => e = .returned (.bool (decide (o = 0 ∧ mu = 0 ∧ h = 0 ∧ l1 = 0 ∧ 1 ≤ c ∧ c ≤ 262144 ∧ 1 ≤ i ∧ i ≤ 262144 ∧ m = i * c ∧ n = (l3 : Int) * c ∧ (l2 : Int) = l3 * i))) ∧ Below w.heap.size w w' := by
  go_enter Try.func46, Try.ntmps46
  go_wp2_with fail
  refine (xWithin _ _ _ _).mono ?_
  rintro e w1 ⟨rfl, rfl⟩
  by_cases hc : 1 ≤ c ∧ c ≤ 262144
  · have t1 : wthn c 1 262144 = true := wthn_iff.2 hc
    go_wp2_with fail
    refine (xWithin _ _ _ _).mono ?_
    rintro e w1 ⟨rfl, rfl⟩
    by_cases hi : 1 ≤ i ∧ i ≤ 262144
    · have t2 : wthn i 1 262144 = true := wthn_iff.2 hi
      by_cases h3 : l3 ≤ 262144
      · have t3 : decide (262144 < (l3 : Int)) = false := decide_eq_false (by omega)
        obtain ⟨e1, e2⟩ := mul_int_bd hi.1 hi.2 hc.1 hc.2
        obtain ⟨e3, e4⟩ := prod_bd h3 hc.1 hc.2
        obtain ⟨e5, e6⟩ := prod_bd h3 hi.1 hi.2
        by_cases h2 : l2 ≤ 1099511627776
        · have t4 : decide (1099511627776 < (l2 : Int)) = false := decide_eq_false (by omega)
          by_cases hm : m = i * c
          · have t5 : (m == i * c) = true := by rw [beq_iff_eq]; exact hm
            by_cases hn : n = (l3 : Int) * c
            · have t6 : (n == (l3 : Int) * c) = true := by rw [beq_iff_eq]; exact hn
              by_cases hw : (l2 : Int) = l3 * i
              · have t7 : ((l2 : Int) == (l3 : Int) * i) = true := by rw [beq_iff_eq]; exact hw
                go_wp2_with fail
                refine (xBare2 _ _ _ _ _ _ _ _ _ _ _ _ _ _ _ _ _ hl1 hl2 hl3 _).mono ?_
                rintro e w1 ⟨rfl, hb⟩
                have HB := Lib.hid (one_alloc hb)
                clear hb
                go_wp2
                go_ret
                refine ⟨ret_bool ?_, HB.out⟩
                rw [Bool.eq_iff_iff]
                simp only [Bool.and_eq_true, decide_eq_true_eq]
                exact ⟨fun g => ⟨g.1, g.2.2.1, g.2.2.2, g.2.1, hc.1, hc.2, hi.1, hi.2, hm, hn, hw⟩, fun g => ⟨g.1, g.2.2.2.1, g.2.1, g.2.2.1⟩⟩
              · have t7 : ((l2 : Int) == (l3 : Int) * i) = false := by rw [beq_eq_false_iff_ne]; exact hw
                go_wp2
                go_ret
                refine ⟨ret_bool ?_, (Below.refl _ _).alloc (Nat.le_refl _) _⟩
                rw [eq_comm, decide_eq_false_iff_not]
                intro g
                exact hw g.2.2.2.2.2.2.2.2.2.2
            · have t6 : (n == (l3 : Int) * c) = false := by rw [beq_eq_false_iff_ne]; exact hn
              go_wp2
              go_ret
              refine ⟨ret_bool ?_, (Below.refl _ _).alloc (Nat.le_refl _) _⟩
              rw [eq_comm, decide_eq_false_iff_not]
              intro g
              exact hn g.2.2.2.2.2.2.2.2.2.1
          · have t5 : (m == i * c) = false := by rw [beq_eq_false_iff_ne]; exact hm
            go_wp2
            go_ret
            refine ⟨ret_bool ?_, (Below.refl _ _).alloc (Nat.le_refl _) _⟩
            rw [eq_comm, decide_eq_false_iff_not]
            intro g
            exact hm g.2.2.2.2.2.2.2.2.1
        · have t4 : decide (1099511627776 < (l2 : Int)) = true := decide_eq_true (by omega)
          go_wp2
          go_ret
          refine ⟨ret_bool ?_, (Below.refl _ _).alloc (Nat.le_refl _) _⟩
          rw [eq_comm, decide_eq_false_iff_not]
          intro g
          have h9 := g.2.2.2.2.2.2.2.2.2.2; omega
      · have t3 : decide (262144 < (l3 : Int)) = true := decide_eq_true (by omega)
        go_wp2
        go_ret
        refine ⟨ret_bool ?_, (Below.refl _ _).alloc (Nat.le_refl _) _⟩
        rw [eq_comm, decide_eq_false_iff_not]
        intro g
        have h9 := g.2.2.2.2.2.2.2.2.2.1; have h8 : (l3 : Int) * 1 ≤ l3 * c := Int.mul_le_mul_of_nonneg_left hc.1 (by omega); omega
    · have t2 : wthn i 1 262144 = false := by rw [← Bool.not_eq_true, wthn_iff]; exact hi
      go_wp2
      go_ret
      refine ⟨ret_bool ?_, (Below.refl _ _).alloc (Nat.le_refl _) _⟩
      rw [eq_comm, decide_eq_false_iff_not]
      intro g
      exact hi ⟨g.2.2.2.2.2.2.1, g.2.2.2.2.2.2.2.1⟩
  · have t1 : wthn c 1 262144 = false := by rw [← Bool.not_eq_true, wthn_iff]; exact hc
    go_wp2
    go_ret
    refine ⟨ret_bool ?_, (Below.refl _ _).alloc (Nat.le_refl _) _⟩
    rw [eq_comm, decide_eq_false_iff_not]
    intro g
    exact hc ⟨g.2.2.2.2.1, g.2.2.2.2.2.1⟩

set_option maxRecDepth 100000 in
set_option maxHeartbeats 1600000 in
theorem xFits0 (k d s o c i mu h : Int) (hk : k < 1 ∨ 7 < k) (a1 a2 a3 : Option Addr) (l1 l2 l3 c1 c2 c3 : Nat) (n m t : Int) (w : World) :
    Calls Try.prog 46 #[.agg #[.int .i64 k, .int .i64 d, .int .i64 s, .int .i64 o, .int .i64 c, .int .i64 i, .slice a1 l1 c1, .slice a2 l2 c2, .slice a3 l3 c3, .int .i64 mu, .int .i64 h], .int .i64 n, .int .i64 m, .int .i64 t] w fun e w' => e = .returned (.bool false) ∧ Below w.heap.size w w' := by
  have t1 : (k == 1) = false := by rw [beq_eq_false_iff_ne]; omega
  have t2 : (k == 2) = false := by rw [beq_eq_false_iff_ne]; omega
  have t3 : (k == 3) = false := by rw [beq_eq_false_iff_ne]; omega
  have t4 : (k == 4) = false := by rw [beq_eq_false_iff_ne]; omega
  have t5 : (k == 5) = false := by rw [beq_eq_false_iff_ne]; omega
  have t6 : (k == 6) = false := by rw [beq_eq_false_iff_ne]; omega
  have t7 : (k == 7) = false := by rw [beq_eq_false_iff_ne]; omega
  clear hk
  go_enter Try.func46, Try.ntmps46
  go_wp2
  go_ret
  exact ⟨rfl, (Below.refl _ _).alloc (Nat.le_refl _) _⟩

theorem xFits {w : World} {v : Value} {o : OpL} (hv : OpV w v o) (n m t : Int) (hn1 : 1 ≤ n) (hn2 : n ≤ 262144) (hm1 : 1 ≤ m) (hm2 : m ≤ 262144) :
    Calls Try.prog 46 #[v, .int .i64 n, .int .i64 m, .int .i64 t] w fun e w' => e = .returned (.bool (fitsL o n m t)) ∧ Below w.heap.size w w' := by
  obtain ⟨a1, a2, a3, c1, c2, c3, rfl, h1, h2, h3, h4, h5, h6⟩ := hv.ex
  have q1 := h1.len
  have q2 := h2.len
  have q3 := h3.len
  obtain ⟨kind, dst, src, other, cols, inner, index, weights, bias, mul, shift⟩ := o
  simp only at *
  by_cases k1 : kind = 1
  · subst k1
    exact (xFits1 dst src other cols inner mul shift a1 a2 a3 index _ _ c1 c2 c3 q2 q3 n m t hm1 hm2 w h1).mono fun e w' ⟨he, hb⟩ => ⟨he.trans (ret_bool rfl), hb⟩
  by_cases k2 : kind = 2
  · subst k2
    refine (xFits2 dst src other cols inner mul shift a1 a2 a3 _ _ _ c1 c2 c3 q1 q2 q3 n m t hn1 hn2 w).mono fun e w' ⟨he, hb⟩ => ⟨he.trans (ret_bool ?_), hb⟩
    have hR : fitsL ⟨2, dst, src, other, cols, inner, index, weights, bias, mul, shift⟩ n m t = decide (other = 0 ∧ mul = 0 ∧ shift = 0 ∧ index.length = 0 ∧ 1 ≤ cols ∧ cols ≤ 262144 ∧ 1 ≤ inner ∧ inner ≤ 262144 ∧ m = inner * cols ∧ n % cols = 0 ∧ (bias.length : Int) = n / cols ∧ (weights.length : Int) = bias.length * inner) := rfl
    rw [hR, decide_eq_decide]
    constructor
    · rintro ⟨g1, g2, g3, g4, g5, g6, g7, g8, g9, g10, g11⟩
      have := (gemm_eq g5).2 g10
      exact ⟨g1, g2, g3, g4, g5, g6, g7, g8, g9, this.1, this.2, g11⟩
    · rintro ⟨g1, g2, g3, g4, g5, g6, g7, g8, g9, g10, g11, g12⟩
      exact ⟨g1, g2, g3, g4, g5, g6, g7, g8, g9, (gemm_eq g5).1 ⟨g10, g11⟩, g12⟩
  by_cases k3 : kind = 3
  · subst k3
    exact (xFits3 dst src other cols inner mul shift a1 a2 a3 _ _ _ c1 c2 c3 q1 q2 q3 n m t w).mono fun e w' ⟨he, hb⟩ => ⟨he.trans (ret_bool rfl), hb⟩
  by_cases k4 : kind = 4
  · subst k4
    exact (xFits4 dst src other cols inner mul shift a1 a2 a3 _ _ _ c1 c2 c3 q1 q2 q3 n m t hn1 hn2 w).mono fun e w' ⟨he, hb⟩ => ⟨he.trans (ret_bool rfl), hb⟩
  by_cases k5 : kind = 5
  · subst k5
    exact (xFits5 dst src other cols inner mul shift a1 a2 a3 _ _ _ c1 c2 c3 q1 q2 q3 n m t hn1 hn2 w).mono fun e w' ⟨he, hb⟩ => ⟨he.trans (ret_bool rfl), hb⟩
  by_cases k6 : kind = 6
  · subst k6
    exact (xFits6 dst src other cols inner mul shift a1 a2 a3 _ _ _ c1 c2 c3 q1 q2 q3 n m t w).mono fun e w' ⟨he, hb⟩ => ⟨he.trans (ret_bool rfl), hb⟩
  by_cases k7 : kind = 7
  · subst k7
    exact (xFits7 dst src other cols inner mul shift a1 a2 a3 _ _ _ c1 c2 c3 q1 q2 q3 n m t w).mono fun e w' ⟨he, hb⟩ => ⟨he.trans (ret_bool rfl), hb⟩
  · have hR : fitsL ⟨kind, dst, src, other, cols, inner, index, weights, bias, mul, shift⟩ n m t = false := by
      simp [fitsL, k1, k2, k3, k4, k5, k6, k7]
    rw [hR]
    exact xFits0 kind dst src other cols inner mul shift (by omega) a1 a2 a3 _ _ _ c1 c2 c3 n m t w

end Go.Proofs.Ythlmgejikbmmaaa
