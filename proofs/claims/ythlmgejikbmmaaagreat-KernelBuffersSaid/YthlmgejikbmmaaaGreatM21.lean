/-
  Contracts of the functions that the statements reach, in the order in which they are built: RKC, LitB.
-/
import Derived.Test.YthlmgejikbmmaaaGreatM8
import Derived.Test.YthlmgejikbmmaaaGreatM4
set_option linter.unusedVariables false
set_option linter.unusedSimpArgs false
set_option linter.constructorNameAsVariable false
set_option linter.deprecated false

/-
  The reference's within, bare, fits of layer 54: by contract.
-/
namespace Go.Proofs.YthlmgejikbmmaaaGreat
open Go.RowKit

set_option maxHeartbeats 400000 in
theorem xWithin (n lo hi : Int) (w : World) : Calls Tryz.prog 19 #[.int .i64 n, .int .i64 lo, .int .i64 hi] w fun e w' => e = .returned (.bool (wthn n lo hi)) ∧ w = w' := by
  go_enter Tryz.func19, Tryz.ntmps19
  go_wp2
  all_goals
    go_ret
    refine ⟨ret_bool ?_, rfl⟩
    unfold wthn
    rw [Bool.eq_iff_iff]
    simp
    try omega
theorem one_alloc {w w1 : World} {o1 : Obj} (hb : Below (w.alloc o1).heap.size (w.alloc o1) w1) : Below w.heap.size w w1 :=
  ((Below.refl _ _).alloc (Nat.le_refl _) _).trans (hb.mono (by simp))

set_option maxRecDepth 100000 in
set_option maxHeartbeats 1600000 in
theorem xBare1 (k : Int) (d s o c i mu h : Int) (a1 a2 a3 : Option Addr) (l1 l2 l3 c1 c2 c3 : Nat) (hl1 : l1 ≤ 9223372036854775807) (hl2 : l2 ≤ 9223372036854775807) (hl3 : l3 ≤ 9223372036854775807) (w : World) :
    Calls Tryz.prog 31 #[.agg #[.int .i64 k, .int .i64 d, .int .i64 s, .int .i64 o, .int .i64 c, .int .i64 i, .slice a1 l1 c1, .slice a2 l2 c2, .slice a3 l3 c3, .int .i64 mu, .int .i64 h], .bool false, .bool false, .bool false, .bool true, .bool false, .bool false] w
      fun e w' => e = .returned (.bool (decide (c = 0 ∧ i = 0 ∧ o = 0 ∧ l2 = 0 ∧ l3 = 0 ∧ mu = 0 ∧ h = 0))) ∧ Below w.heap.size w w' := by
  go_enter Tryz.func31, Tryz.ntmps31
  go_wp2
  all_goals
    go_ret
    refine ⟨ret_bool ?_, (Below.refl _ _).alloc (Nat.le_refl _) _⟩
    rw [Bool.eq_iff_iff]
    simp
    try omega

set_option maxRecDepth 100000 in
set_option maxHeartbeats 1600000 in
theorem xBare2 (k : Int) (d s o c i mu h : Int) (a1 a2 a3 : Option Addr) (l1 l2 l3 c1 c2 c3 : Nat) (hl1 : l1 ≤ 9223372036854775807) (hl2 : l2 ≤ 9223372036854775807) (hl3 : l3 ≤ 9223372036854775807) (w : World) :
    Calls Tryz.prog 31 #[.agg #[.int .i64 k, .int .i64 d, .int .i64 s, .int .i64 o, .int .i64 c, .int .i64 i, .slice a1 l1 c1, .slice a2 l2 c2, .slice a3 l3 c3, .int .i64 mu, .int .i64 h], .bool true, .bool true, .bool false, .bool false, .bool true, .bool false] w
      fun e w' => e = .returned (.bool (decide (o = 0 ∧ l1 = 0 ∧ mu = 0 ∧ h = 0))) ∧ Below w.heap.size w w' := by
  go_enter Tryz.func31, Tryz.ntmps31
  go_wp2
  all_goals
    go_ret
    refine ⟨ret_bool ?_, (Below.refl _ _).alloc (Nat.le_refl _) _⟩
    rw [Bool.eq_iff_iff]
    simp
    try omega

set_option maxRecDepth 100000 in
set_option maxHeartbeats 1600000 in
theorem xBare3 (k : Int) (d s o c i mu h : Int) (a1 a2 a3 : Option Addr) (l1 l2 l3 c1 c2 c3 : Nat) (hl1 : l1 ≤ 9223372036854775807) (hl2 : l2 ≤ 9223372036854775807) (hl3 : l3 ≤ 9223372036854775807) (w : World) :
    Calls Tryz.prog 31 #[.agg #[.int .i64 k, .int .i64 d, .int .i64 s, .int .i64 o, .int .i64 c, .int .i64 i, .slice a1 l1 c1, .slice a2 l2 c2, .slice a3 l3 c3, .int .i64 mu, .int .i64 h], .bool false, .bool false, .bool false, .bool false, .bool false, .bool false] w
      fun e w' => e = .returned (.bool (decide (c = 0 ∧ i = 0 ∧ o = 0 ∧ l1 = 0 ∧ l2 = 0 ∧ l3 = 0 ∧ mu = 0 ∧ h = 0))) ∧ Below w.heap.size w w' := by
  go_enter Tryz.func31, Tryz.ntmps31
  go_wp2
  all_goals
    go_ret
    refine ⟨ret_bool ?_, (Below.refl _ _).alloc (Nat.le_refl _) _⟩
    rw [Bool.eq_iff_iff]
    simp
    try omega

set_option maxRecDepth 100000 in
set_option maxHeartbeats 1600000 in
theorem xBare4 (k : Int) (d s o c i mu h : Int) (a1 a2 a3 : Option Addr) (l1 l2 l3 c1 c2 c3 : Nat) (hl1 : l1 ≤ 9223372036854775807) (hl2 : l2 ≤ 9223372036854775807) (hl3 : l3 ≤ 9223372036854775807) (w : World) :
    Calls Tryz.prog 31 #[.agg #[.int .i64 k, .int .i64 d, .int .i64 s, .int .i64 o, .int .i64 c, .int .i64 i, .slice a1 l1 c1, .slice a2 l2 c2, .slice a3 l3 c3, .int .i64 mu, .int .i64 h], .bool false, .bool true, .bool false, .bool false, .bool false, .bool false] w
      fun e w' => e = .returned (.bool (decide (c = 0 ∧ o = 0 ∧ l1 = 0 ∧ l2 = 0 ∧ l3 = 0 ∧ mu = 0 ∧ h = 0))) ∧ Below w.heap.size w w' := by
  go_enter Tryz.func31, Tryz.ntmps31
  go_wp2
  all_goals
    go_ret
    refine ⟨ret_bool ?_, (Below.refl _ _).alloc (Nat.le_refl _) _⟩
    rw [Bool.eq_iff_iff]
    simp
    try omega

set_option maxRecDepth 100000 in
set_option maxHeartbeats 1600000 in
theorem xBare6 (k : Int) (d s o c i mu h : Int) (a1 a2 a3 : Option Addr) (l1 l2 l3 c1 c2 c3 : Nat) (hl1 : l1 ≤ 9223372036854775807) (hl2 : l2 ≤ 9223372036854775807) (hl3 : l3 ≤ 9223372036854775807) (w : World) :
    Calls Tryz.prog 31 #[.agg #[.int .i64 k, .int .i64 d, .int .i64 s, .int .i64 o, .int .i64 c, .int .i64 i, .slice a1 l1 c1, .slice a2 l2 c2, .slice a3 l3 c3, .int .i64 mu, .int .i64 h], .bool false, .bool false, .bool true, .bool false, .bool false, .bool false] w
      fun e w' => e = .returned (.bool (decide (c = 0 ∧ i = 0 ∧ l1 = 0 ∧ l2 = 0 ∧ l3 = 0 ∧ mu = 0 ∧ h = 0))) ∧ Below w.heap.size w w' := by
  go_enter Tryz.func31, Tryz.ntmps31
  go_wp2
  all_goals
    go_ret
    refine ⟨ret_bool ?_, (Below.refl _ _).alloc (Nat.le_refl _) _⟩
    rw [Bool.eq_iff_iff]
    simp
    try omega

set_option maxRecDepth 100000 in
set_option maxHeartbeats 1600000 in
theorem xBare7 (k : Int) (d s o c i mu h : Int) (a1 a2 a3 : Option Addr) (l1 l2 l3 c1 c2 c3 : Nat) (hl1 : l1 ≤ 9223372036854775807) (hl2 : l2 ≤ 9223372036854775807) (hl3 : l3 ≤ 9223372036854775807) (w : World) :
    Calls Tryz.prog 31 #[.agg #[.int .i64 k, .int .i64 d, .int .i64 s, .int .i64 o, .int .i64 c, .int .i64 i, .slice a1 l1 c1, .slice a2 l2 c2, .slice a3 l3 c3, .int .i64 mu, .int .i64 h], .bool false, .bool false, .bool false, .bool false, .bool false, .bool true] w
      fun e w' => e = .returned (.bool (decide (c = 0 ∧ i = 0 ∧ o = 0 ∧ l1 = 0 ∧ l2 = 0 ∧ l3 = 0))) ∧ Below w.heap.size w w' := by
  go_enter Tryz.func31, Tryz.ntmps31
  go_wp2
  all_goals
    go_ret
    refine ⟨ret_bool ?_, (Below.refl _ _).alloc (Nat.le_refl _) _⟩
    rw [Bool.eq_iff_iff]
    simp
    try omega

set_option maxRecDepth 100000 in
set_option maxHeartbeats 3200000 in
theorem xFits3 (d s o c i mu h : Int) (a1 a2 a3 : Option Addr) (l1 l2 l3 c1 c2 c3 : Nat) (hl1 : l1 ≤ 9223372036854775807) (hl2 : l2 ≤ 9223372036854775807) (hl3 : l3 ≤ 9223372036854775807) (n m t : Int) (w : World) :
    Calls Tryz.prog 20 #[.agg #[.int .i64 3, .int .i64 d, .int .i64 s, .int .i64 o, .int .i64 c, .int .i64 i, .slice a1 l1 c1, .slice a2 l2 c2, .slice a3 l3 c3, .int .i64 mu, .int .i64 h], .int .i64 n, .int .i64 m, .int .i64 t] w
      fun e w' => e = .returned (.bool (decide (o = 0 ∧ c = 0 ∧ i = 0 ∧ mu = 0 ∧ h = 0 ∧ l1 = 0 ∧ l2 = 0 ∧ l3 = 0 ∧ m = n))) ∧ Below w.heap.size w w' := by
  by_cases hm : m = n
  · have t1 : (m == n) = true := by rw [beq_iff_eq]; exact hm
    go_enter Tryz.func20, Tryz.ntmps20
    go_wp2_with fail
    refine (xBare3 _ _ _ _ _ _ _ _ _ _ _ _ _ _ _ _ _ hl1 hl2 hl3 _).mono ?_
    rintro e w1 ⟨rfl, hb⟩
    have HB := Lib.hid (one_alloc hb)
    clear hb
    go_wp2
    all_goals
      go_ret
      refine ⟨ret_bool ?_, HB.out⟩
      rw [Bool.eq_iff_iff]
      simp
      try omega
  · have t1 : (m == n) = false := by rw [beq_eq_false_iff_ne]; exact hm
    go_enter Tryz.func20, Tryz.ntmps20
    go_wp2
    go_ret
    refine ⟨ret_bool ?_, (Below.refl _ _).alloc (Nat.le_refl _) _⟩
    rw [Bool.eq_iff_iff]
    simp
    try omega

set_option maxRecDepth 100000 in
set_option maxHeartbeats 3200000 in
theorem xFits6 (d s o c i mu h : Int) (a1 a2 a3 : Option Addr) (l1 l2 l3 c1 c2 c3 : Nat) (hl1 : l1 ≤ 9223372036854775807) (hl2 : l2 ≤ 9223372036854775807) (hl3 : l3 ≤ 9223372036854775807) (n m t : Int) (w : World) :
    Calls Tryz.prog 20 #[.agg #[.int .i64 6, .int .i64 d, .int .i64 s, .int .i64 o, .int .i64 c, .int .i64 i, .slice a1 l1 c1, .slice a2 l2 c2, .slice a3 l3 c3, .int .i64 mu, .int .i64 h], .int .i64 n, .int .i64 m, .int .i64 t] w
      fun e w' => e = .returned (.bool (decide (c = 0 ∧ i = 0 ∧ mu = 0 ∧ h = 0 ∧ l1 = 0 ∧ l2 = 0 ∧ l3 = 0 ∧ m = n ∧ t = n))) ∧ Below w.heap.size w w' := by
  by_cases hm : m = n ∧ t = n
  · have t1 : (m == n) = true := by rw [beq_iff_eq]; exact hm.1
    have t2 : (t == n) = true := by rw [beq_iff_eq]; exact hm.2
    go_enter Tryz.func20, Tryz.ntmps20
    go_wp2_with fail
    refine (xBare6 _ _ _ _ _ _ _ _ _ _ _ _ _ _ _ _ _ hl1 hl2 hl3 _).mono ?_
    rintro e w1 ⟨rfl, hb⟩
    have HB := Lib.hid (one_alloc hb)
    clear hb
    go_wp2
    all_goals
      go_ret
      refine ⟨ret_bool ?_, HB.out⟩
      rw [Bool.eq_iff_iff]
      simp
      try omega
  · go_enter Tryz.func20, Tryz.ntmps20
    go_wp2
    all_goals
      go_ret
      refine ⟨ret_bool ?_, (Below.refl _ _).alloc (Nat.le_refl _) _⟩
      rw [Bool.eq_iff_iff]
      simp
      try omega

set_option maxRecDepth 100000 in
set_option maxHeartbeats 3200000 in
theorem xFits7 (d s o c i mu h : Int) (a1 a2 a3 : Option Addr) (l1 l2 l3 c1 c2 c3 : Nat) (hl1 : l1 ≤ 9223372036854775807) (hl2 : l2 ≤ 9223372036854775807) (hl3 : l3 ≤ 9223372036854775807) (n m t : Int) (w : World) :
    Calls Tryz.prog 20 #[.agg #[.int .i64 7, .int .i64 d, .int .i64 s, .int .i64 o, .int .i64 c, .int .i64 i, .slice a1 l1 c1, .slice a2 l2 c2, .slice a3 l3 c3, .int .i64 mu, .int .i64 h], .int .i64 n, .int .i64 m, .int .i64 t] w
      fun e w' => e = .returned (.bool (decide (o = 0 ∧ c = 0 ∧ i = 0 ∧ l1 = 0 ∧ l2 = 0 ∧ l3 = 0 ∧ m = n ∧ 0 ≤ h ∧ h ≤ 62))) ∧ Below w.heap.size w w' := by
  by_cases hm : m = n
  · have t1 : (m == n) = true := by rw [beq_iff_eq]; exact hm
    go_enter Tryz.func20, Tryz.ntmps20
    go_wp2_with fail
    refine (xWithin _ _ _ _).mono ?_
    rintro e w1 ⟨rfl, rfl⟩
    by_cases hw : 0 ≤ h ∧ h ≤ 62
    · have t2 : wthn h 0 62 = true := wthn_iff.2 hw
      go_wp2_with fail
      refine (xBare7 _ _ _ _ _ _ _ _ _ _ _ _ _ _ _ _ _ hl1 hl2 hl3 _).mono ?_
      rintro e w1 ⟨rfl, hb⟩
      have HB := Lib.hid (one_alloc hb)
      clear hb
      go_wp2
      all_goals
        go_ret
        refine ⟨ret_bool ?_, HB.out⟩
        rw [Bool.eq_iff_iff]
        simp
        try omega
    · have t2 : wthn h 0 62 = false := by rw [← Bool.not_eq_true, wthn_iff]; exact hw
      go_wp2
      go_ret
      refine ⟨ret_bool ?_, (Below.refl _ _).alloc (Nat.le_refl _) _⟩
      rw [Bool.eq_iff_iff]
      simp
      try omega
  · have t1 : (m == n) = false := by rw [beq_eq_false_iff_ne]; exact hm
    go_enter Tryz.func20, Tryz.ntmps20
    go_wp2
    go_ret
    refine ⟨ret_bool ?_, (Below.refl _ _).alloc (Nat.le_refl _) _⟩
    rw [Bool.eq_iff_iff]
    simp
    try omega

set_option maxRecDepth 100000 in
set_option maxHeartbeats 3200000 in
theorem xFits4 (d s o c i mu h : Int) (a1 a2 a3 : Option Addr) (l1 l2 l3 c1 c2 c3 : Nat) (hl1 : l1 ≤ 9223372036854775807) (hl2 : l2 ≤ 9223372036854775807) (hl3 : l3 ≤ 9223372036854775807) (n m t : Int) (hn1 : 1 ≤ n) (hn2 : n ≤ 262144) (w : World) :
    Calls Tryz.prog 20 #[.agg #[.int .i64 4, .int .i64 d, .int .i64 s, .int .i64 o, .int .i64 c, .int .i64 i, .slice a1 l1 c1, .slice a2 l2 c2, .slice a3 l3 c3, .int .i64 mu, .int .i64 h], .int .i64 n, .int .i64 m, .int .i64 t] w
      fun e w' => e = .returned (.bool (decide (o = 0 ∧ c = 0 ∧ mu = 0 ∧ h = 0 ∧ l1 = 0 ∧ l2 = 0 ∧ l3 = 0 ∧ 1 ≤ i ∧ i ≤ 262144 ∧ m = n * i))) ∧ Below w.heap.size w w' := by
  go_enter Tryz.func20, Tryz.ntmps20
  go_wp2_with fail
  refine (xWithin _ _ _ _).mono ?_
  rintro e w1 ⟨rfl, rfl⟩
  by_cases hw : 1 ≤ i ∧ i ≤ 262144
  · have t2 : wthn i 1 262144 = true := wthn_iff.2 hw
    have hbd := mul_int_bd hn1 hn2 hw.1 hw.2
    obtain ⟨hp1, hp2⟩ := hbd
    by_cases hm : m = n * i
    · have t1 : (m == n * i) = true := by rw [beq_iff_eq]; exact hm
      go_wp2_with fail
      refine (xBare4 _ _ _ _ _ _ _ _ _ _ _ _ _ _ _ _ _ hl1 hl2 hl3 _).mono ?_
      rintro e w1 ⟨rfl, hb⟩
      have HB := Lib.hid (one_alloc hb)
      clear hb
      go_wp2
      all_goals
        go_ret
        refine ⟨ret_bool ?_, HB.out⟩
        rw [Bool.eq_iff_iff]
        simp
        try omega
    · have t1 : (m == n * i) = false := by rw [beq_eq_false_iff_ne]; exact hm
      go_wp2
      go_ret
      refine ⟨ret_bool ?_, (Below.refl _ _).alloc (Nat.le_refl _) _⟩
      rw [Bool.eq_iff_iff]
      simp
      try omega
  · have t2 : wthn i 1 262144 = false := by rw [← Bool.not_eq_true, wthn_iff]; exact hw
    go_wp2
    go_ret
    refine ⟨ret_bool ?_, (Below.refl _ _).alloc (Nat.le_refl _) _⟩
    rw [Bool.eq_iff_iff]
    simp only [Bool.false_eq_true, decide_eq_true_eq, false_iff]
    intro g
    exact hw ⟨g.2.2.2.2.2.2.2.1, g.2.2.2.2.2.2.2.2.1⟩

set_option maxRecDepth 100000 in
set_option maxHeartbeats 3200000 in
theorem xFits5 (d s o c i mu h : Int) (a1 a2 a3 : Option Addr) (l1 l2 l3 c1 c2 c3 : Nat) (hl1 : l1 ≤ 9223372036854775807) (hl2 : l2 ≤ 9223372036854775807) (hl3 : l3 ≤ 9223372036854775807) (n m t : Int) (hn1 : 1 ≤ n) (hn2 : n ≤ 262144) (w : World) :
    Calls Tryz.prog 20 #[.agg #[.int .i64 5, .int .i64 d, .int .i64 s, .int .i64 o, .int .i64 c, .int .i64 i, .slice a1 l1 c1, .slice a2 l2 c2, .slice a3 l3 c3, .int .i64 mu, .int .i64 h], .int .i64 n, .int .i64 m, .int .i64 t] w
      fun e w' => e = .returned (.bool (decide (o = 0 ∧ c = 0 ∧ mu = 0 ∧ h = 0 ∧ l1 = 0 ∧ l2 = 0 ∧ l3 = 0 ∧ 1 ≤ i ∧ i ≤ 262144 ∧ m = n * i))) ∧ Below w.heap.size w w' := by
  go_enter Tryz.func20, Tryz.ntmps20
  go_wp2_with fail
  refine (xWithin _ _ _ _).mono ?_
  rintro e w1 ⟨rfl, rfl⟩
  by_cases hw : 1 ≤ i ∧ i ≤ 262144
  · have t2 : wthn i 1 262144 = true := wthn_iff.2 hw
    have hbd := mul_int_bd hn1 hn2 hw.1 hw.2
    obtain ⟨hp1, hp2⟩ := hbd
    by_cases hm : m = n * i
    · have t1 : (m == n * i) = true := by rw [beq_iff_eq]; exact hm
      go_wp2_with fail
      refine (xBare4 _ _ _ _ _ _ _ _ _ _ _ _ _ _ _ _ _ hl1 hl2 hl3 _).mono ?_
      rintro e w1 ⟨rfl, hb⟩
      have HB := Lib.hid (one_alloc hb)
      clear hb
      go_wp2
      all_goals
        go_ret
        refine ⟨ret_bool ?_, HB.out⟩
        rw [Bool.eq_iff_iff]
        simp
        try omega
    · have t1 : (m == n * i) = false := by rw [beq_eq_false_iff_ne]; exact hm
      go_wp2
      go_ret
      refine ⟨ret_bool ?_, (Below.refl _ _).alloc (Nat.le_refl _) _⟩
      rw [Bool.eq_iff_iff]
      simp
      try omega
  · have t2 : wthn i 1 262144 = false := by rw [← Bool.not_eq_true, wthn_iff]; exact hw
    go_wp2
    go_ret
    refine ⟨ret_bool ?_, (Below.refl _ _).alloc (Nat.le_refl _) _⟩
    rw [Bool.eq_iff_iff]
    simp only [Bool.false_eq_true, decide_eq_true_eq, false_iff]
    intro g
    exact hw ⟨g.2.2.2.2.2.2.2.1, g.2.2.2.2.2.2.2.2.1⟩

set_option maxRecDepth 100000 in
set_option maxHeartbeats 3200000 in
theorem xFits1 (d s o c i mu h : Int) (a1 a2 a3 : Option Addr) (L : List Int) (l2 l3 c1 c2 c3 : Nat) (hl2 : l2 ≤ 9223372036854775807) (hl3 : l3 ≤ 9223372036854775807) (n m t : Int) (hm1 : 1 ≤ m) (hm2 : m ≤ 262144) (w : World) {F : Nat → Prop} (hL : Ints w F a1 L) :
    Calls Tryz.prog 20 #[.agg #[.int .i64 1, .int .i64 d, .int .i64 s, .int .i64 o, .int .i64 c, .int .i64 i, .slice a1 L.length c1, .slice a2 l2 c2, .slice a3 l3 c3, .int .i64 mu, .int .i64 h], .int .i64 n, .int .i64 m, .int .i64 t] w
      fun e w' => e = .returned (.bool (decide (o = 0 ∧ c = 0 ∧ i = 0 ∧ mu = 0 ∧ h = 0 ∧ l2 = 0 ∧ l3 = 0 ∧ (L.length : Int) = n) && L.all (fun x => wthn x (-1) (m - 1)))) ∧ Below w.heap.size w w' := by
  have hl1 := hL.len
  have HL0 := Lib.hid hL
  clear hL
  go_enter Tryz.func20, Tryz.ntmps20
  go_upto_region 1 with fail
  have hX := Box11.alloc w (.int .i64 1) (.int .i64 d) (.int .i64 s) (.int .i64 o) (.int .i64 c) (.int .i64 i) (.slice a1 L.length c1) (.slice a2 l2 c2) (.slice a3 l3 c3) (.int .i64 mu) (.int .i64 h) 40
  have hb : Below w.heap.size w (w.alloc (.cells #[.int .i64 1, .int .i64 d, .int .i64 s, .int .i64 o, .int .i64 c, .int .i64 i, .slice a1 L.length c1, .slice a2 l2 c2, .slice a3 l3 c3, .int .i64 mu, .int .i64 h] 40)) := (Below.refl _ w).alloc (Nat.le_refl _) _
  generalize w.alloc (.cells #[.int .i64 1, .int .i64 d, .int .i64 s, .int .i64 o, .int .i64 c, .int .i64 i, .slice a1 L.length c1, .slice a2 l2 c2, .slice a3 l3 c3, .int .i64 mu, .int .i64 h] 40) = W at *
  have HL := Lib.hid (HL0.out.below hb)
  have HBl := Lib.hid hb
  obtain ⟨x0, x1, x2, x3, x4, x5, x6, x7, x8, x9, x10, xlt⟩ := hX
  clear hb HL0
  go_wp2
  go_loop [9] (fun j => ∃ k : Nat, k ≤ L.length ∧ j = .int .i64 (k : Int) ∧ Hid ((L.take k).all (fun x => wthn x (-1) (m - 1)) = true)) (fun j => L.length - (intOf j).toNat)
  case atStart => exact ⟨0, Nat.zero_le _, rfl, rfl⟩
  case round =>
    obtain ⟨k, hk, rfl, HA⟩ := hrel
    by_cases hlt : k < L.length
    · obtain ⟨b, off, x, rfl, hcell, hx, hdrop, hbs, _, hx1, hx2⟩ := HL.out.pick2 hlt
      have HX : Hid (L.all (fun x => wthn x (-1) (m - 1)) = true → wthn x (-1) (m - 1) = true) := fun h => List.all_eq_true.1 h x (List.mem_of_getElem? hx)
      have HN : Hid ((L.take (k + 1)).all (fun x => wthn x (-1) (m - 1)) = ((L.take k).all (fun x => wthn x (-1) (m - 1)) && wthn x (-1) (m - 1))) := by
        unfold Hid
        rw [List.take_add_one, hx]; simp
      clear hdrop hx
      by_cases hw : wthn x (-1) (m - 1) = true
      · have HK := Lib.hid (fun wv => xWithin x (-1) (m - 1) wv)
        have HW := Lib.hid hw
        rw [hw] at HK
        clear hw
        go_wp2_with fail
        refine (HK.out _).mono ?_
        rintro e w2 ⟨rfl, rfl⟩
        go_wp2
        go_round
        case rel => exact ⟨k + 1, hlt, by go_num, by unfold Hid; rw [HN.out, HA.out, HW.out]; rfl⟩
        case measure => simp [intOf]; omega
      · have hwf : wthn x (-1) (m - 1) = false := by rw [← Bool.not_eq_true]; exact hw
        have HK := Lib.hid (fun wv => xWithin x (-1) (m - 1) wv)
        have HW : Hid (L.all (fun x => wthn x (-1) (m - 1)) = false) := by
          unfold Hid
          rw [← Bool.not_eq_true]
          exact fun h => hw (HX.out h)
        rw [hwf] at HK
        clear hw hwf
        go_wp2_with fail
        refine (HK.out _).mono ?_
        rintro e w2 ⟨rfl, rfl⟩
        go_wp2
        go_ret
        exact ⟨ret_bool (by rw [HW.out, Bool.and_false]), HBl.out⟩
    · have HAll : Hid (L.all (fun x => wthn x (-1) (m - 1)) = true) := by
        have h := HA.out
        rw [List.take_of_length_le (by omega)] at h
        exact h
      have HB3 := Lib.hid (fun wv => xBare1 1 d s o c i mu h a1 a2 a3 L.length l2 l3 c1 c2 c3 hl1 hl2 hl3 wv)
      by_cases hn : (L.length : Int) = n
      · have t1 : ((L.length : Int) == n) = true := by rw [beq_iff_eq]; exact hn
        go_wp2_with fail
        refine (HB3.out _).mono ?_
        rintro e w1 ⟨rfl, hb⟩
        have HB := Lib.hid (HBl.out.trans (hb.mono HBl.out.size))
        clear hb
        go_wp2
        all_goals
          go_ret
          refine ⟨ret_bool ?_, HB.out⟩
          rw [HAll.out, Bool.and_true, Bool.eq_iff_iff]
          simp
          try omega
      · have t1 : ((L.length : Int) == n) = false := by rw [beq_eq_false_iff_ne]; exact hn
        go_wp2
        go_ret
        refine ⟨ret_bool ?_, HBl.out⟩
        first
          | rfl
          | (rw [HAll.out, Bool.and_true, eq_comm, decide_eq_false_iff_not]; exact fun g => hn g.2.2.2.2.2.2.2)

theorem gemm_eq {n c : Int} {l3 : Nat} (hc : 1 ≤ c) : (n % c = 0 ∧ (l3 : Int) = n / c) ↔ n = (l3 : Int) * c := by
  constructor
  · rintro ⟨h1, h2⟩
    rw [h2]
    exact (Int.ediv_mul_cancel (Int.dvd_of_emod_eq_zero h1)).symm
  · rintro rfl
    exact ⟨Int.mul_emod_left _ _, (Int.mul_ediv_cancel _ (by omega)).symm⟩
theorem prod_bd {l : Nat} {c : Int} (h1 : l ≤ 262144) (h2 : 1 ≤ c) (h3 : c ≤ 262144) : 0 ≤ (l : Int) * c ∧ (l : Int) * c ≤ 68719476736 :=
  ⟨Int.mul_nonneg (by omega) (by omega), Int.le_trans (Int.mul_le_mul (show (l : Int) ≤ 262144 by omega) h3 (by omega) (by omega)) (by decide)⟩

set_option maxRecDepth 100000 in
set_option maxHeartbeats 3200000 in
theorem xFits2 (d s o c i mu h : Int) (a1 a2 a3 : Option Addr) (l1 l2 l3 c1 c2 c3 : Nat) (hl1 : l1 ≤ 9223372036854775807) (hl2 : l2 ≤ 9223372036854775807) (hl3 : l3 ≤ 9223372036854775807) (n m t : Int) (hn1 : 1 ≤ n) (hn2 : n ≤ 262144) (w : World) :
    Calls Tryz.prog 20 #[.agg #[.int .i64 2, .int .i64 d, .int .i64 s, .int .i64 o, .int .i64 c, .int .i64 i, .slice a1 l1 c1, .slice a2 l2 c2, .slice a3 l3 c3, .int .i64 mu, .int .i64 h], .int .i64 n, .int .i64 m, .int .i64 t] w
      fun e w' => e = .returned (.bool (decide (o = 0 ∧ mu = 0 ∧ h = 0 ∧ l1 = 0 ∧ 1 ≤ c ∧ c ≤ 262144 ∧ 1 ≤ i ∧ i ≤ 262144 ∧ m = i * c ∧ n = (l3 : Int) * c ∧ (l2 : Int) = l3 * i))) ∧ Below w.heap.size w w' := by
  go_enter Tryz.func20, Tryz.ntmps20
  go_wp2_with fail
  refine (xWithin _ _ _ _).mono ?_
  rintro e w1 ⟨rfl, rfl⟩
  by_cases hc : 1 ≤ c ∧ c ≤ 262144
  · have t1 : wthn c 1 262144 = true := wthn_iff.2 hc
    go_wp2_with fail
    refine (xWithin _ _ _ _).mono ?_
    rintro e w1 ⟨rfl, rfl⟩
    by_cases hi : 1 ≤ i ∧ i ≤ 262144
    · have t2 : wthn i 1 262144 = true := wthn_iff.2 hi
      by_cases h3 : l3 ≤ 262144
      · have t3 : decide (262144 < (l3 : Int)) = false := decide_eq_false (by omega)
        obtain ⟨e1, e2⟩ := mul_int_bd hi.1 hi.2 hc.1 hc.2
        obtain ⟨e3, e4⟩ := prod_bd h3 hc.1 hc.2
        obtain ⟨e5, e6⟩ := prod_bd h3 hi.1 hi.2
        by_cases h2 : l2 ≤ 1099511627776
        · have t4 : decide (1099511627776 < (l2 : Int)) = false := decide_eq_false (by omega)
          by_cases hm : m = i * c
          · have t5 : (m == i * c) = true := by rw [beq_iff_eq]; exact hm
            by_cases hn : n = (l3 : Int) * c
            · have t6 : (n == (l3 : Int) * c) = true := by rw [beq_iff_eq]; exact hn
              by_cases hw : (l2 : Int) = l3 * i
              · have t7 : ((l2 : Int) == (l3 : Int) * i) = true := by rw [beq_iff_eq]; exact hw
                go_wp2_with fail
                refine (xBare2 _ _ _ _ _ _ _ _ _ _ _ _ _ _ _ _ _ hl1 hl2 hl3 _).mono ?_
                rintro e w1 ⟨rfl, hb⟩
                have HB := Lib.hid (one_alloc hb)
                clear hb
                go_wp2
                go_ret
                refine ⟨ret_bool ?_, HB.out⟩
                rw [Bool.eq_iff_iff]
                simp only [Bool.and_eq_true, decide_eq_true_eq]
                exact ⟨fun g => ⟨g.1, g.2.2.1, g.2.2.2, g.2.1, hc.1, hc.2, hi.1, hi.2, hm, hn, hw⟩, fun g => ⟨g.1, g.2.2.2.1, g.2.1, g.2.2.1⟩⟩
              · have t7 : ((l2 : Int) == (l3 : Int) * i) = false := by rw [beq_eq_false_iff_ne]; exact hw
                go_wp2
                go_ret
                refine ⟨ret_bool ?_, (Below.refl _ _).alloc (Nat.le_refl _) _⟩
                rw [eq_comm, decide_eq_false_iff_not]
                intro g
                exact hw g.2.2.2.2.2.2.2.2.2.2
            · have t6 : (n == (l3 : Int) * c) = false := by rw [beq_eq_false_iff_ne]; exact hn
              go_wp2
              go_ret
              refine ⟨ret_bool ?_, (Below.refl _ _).alloc (Nat.le_refl _) _⟩
              rw [eq_comm, decide_eq_false_iff_not]
              intro g
              exact hn g.2.2.2.2.2.2.2.2.2.1
          · have t5 : (m == i * c) = false := by rw [beq_eq_false_iff_ne]; exact hm
            go_wp2
            go_ret
            refine ⟨ret_bool ?_, (Below.refl _ _).alloc (Nat.le_refl _) _⟩
            rw [eq_comm, decide_eq_false_iff_not]
            intro g
            exact hm g.2.2.2.2.2.2.2.2.1
        · have t4 : decide (1099511627776 < (l2 : Int)) = true := decide_eq_true (by omega)
          go_wp2
          go_ret
          refine ⟨ret_bool ?_, (Below.refl _ _).alloc (Nat.le_refl _) _⟩
          rw [eq_comm, decide_eq_false_iff_not]
          intro g
          have h9 := g.2.2.2.2.2.2.2.2.2.2; omega
      · have t3 : decide (262144 < (l3 : Int)) = true := decide_eq_true (by omega)
        go_wp2
        go_ret
        refine ⟨ret_bool ?_, (Below.refl _ _).alloc (Nat.le_refl _) _⟩
        rw [eq_comm, decide_eq_false_iff_not]
        intro g
        have h9 := g.2.2.2.2.2.2.2.2.2.1; have h8 : (l3 : Int) * 1 ≤ l3 * c := Int.mul_le_mul_of_nonneg_left hc.1 (by omega); omega
    · have t2 : wthn i 1 262144 = false := by rw [← Bool.not_eq_true, wthn_iff]; exact hi
      go_wp2
      go_ret
      refine ⟨ret_bool ?_, (Below.refl _ _).alloc (Nat.le_refl _) _⟩
      rw [eq_comm, decide_eq_false_iff_not]
      intro g
      exact hi ⟨g.2.2.2.2.2.2.1, g.2.2.2.2.2.2.2.1⟩
  · have t1 : wthn c 1 262144 = false := by rw [← Bool.not_eq_true, wthn_iff]; exact hc
    go_wp2
    go_ret
    refine ⟨ret_bool ?_, (Below.refl _ _).alloc (Nat.le_refl _) _⟩
    rw [eq_comm, decide_eq_false_iff_not]
    intro g
    exact hc ⟨g.2.2.2.2.1, g.2.2.2.2.2.1⟩

set_option maxRecDepth 100000 in
set_option maxHeartbeats 1600000 in
theorem xFits0 (k d s o c i mu h : Int) (hk : k < 1 ∨ 7 < k) (a1 a2 a3 : Option Addr) (l1 l2 l3 c1 c2 c3 : Nat) (n m t : Int) (w : World) :
    Calls Tryz.prog 20 #[.agg #[.int .i64 k, .int .i64 d, .int .i64 s, .int .i64 o, .int .i64 c, .int .i64 i, .slice a1 l1 c1, .slice a2 l2 c2, .slice a3 l3 c3, .int .i64 mu, .int .i64 h], .int .i64 n, .int .i64 m, .int .i64 t] w fun e w' => e = .returned (.bool false) ∧ Below w.heap.size w w' := by
  have t1 : (k == 1) = false := by rw [beq_eq_false_iff_ne]; omega
  have t2 : (k == 2) = false := by rw [beq_eq_false_iff_ne]; omega
  have t3 : (k == 3) = false := by rw [beq_eq_false_iff_ne]; omega
  have t4 : (k == 4) = false := by rw [beq_eq_false_iff_ne]; omega
  have t5 : (k == 5) = false := by rw [beq_eq_false_iff_ne]; omega
  have t6 : (k == 6) = false := by rw [beq_eq_false_iff_ne]; omega
  have t7 : (k == 7) = false := by rw [beq_eq_false_iff_ne]; omega
  clear hk
  go_enter Tryz.func20, Tryz.ntmps20
  go_wp2
  go_ret
  exact ⟨rfl, (Below.refl _ _).alloc (Nat.le_refl _) _⟩

theorem xFits {w : World} {v : Value} {o : OpL} (hv : OpV w v o) (n m t : Int) (hn1 : 1 ≤ n) (hn2 : n ≤ 262144) (hm1 : 1 ≤ m) (hm2 : m ≤ 262144) :
    Calls Tryz.prog 20 #[v, .int .i64 n, .int .i64 m, .int .i64 t] w fun e w' => e = .returned (.bool (fitsL o n m t)) ∧ Below w.heap.size w w' := by
  obtain ⟨a1, a2, a3, c1, c2, c3, rfl, h1, h2, h3, h4, h5, h6⟩ := hv.ex
  have q1 := h1.len
  have q2 := h2.len
  have q3 := h3.len
  obtain ⟨kind, dst, src, other, cols, inner, index, weights, bias, mul, shift⟩ := o
  simp only at *
  by_cases k1 : kind = 1
  · subst k1
    exact (xFits1 dst src other cols inner mul shift a1 a2 a3 index _ _ c1 c2 c3 q2 q3 n m t hm1 hm2 w h1).mono fun e w' ⟨he, hb⟩ => ⟨he.trans (ret_bool rfl), hb⟩
  by_cases k2 : kind = 2
  · subst k2
    refine (xFits2 dst src other cols inner mul shift a1 a2 a3 _ _ _ c1 c2 c3 q1 q2 q3 n m t hn1 hn2 w).mono fun e w' ⟨he, hb⟩ => ⟨he.trans (ret_bool ?_), hb⟩
    have hR : fitsL ⟨2, dst, src, other, cols, inner, index, weights, bias, mul, shift⟩ n m t = decide (other = 0 ∧ mul = 0 ∧ shift = 0 ∧ index.length = 0 ∧ 1 ≤ cols ∧ cols ≤ 262144 ∧ 1 ≤ inner ∧ inner ≤ 262144 ∧ m = inner * cols ∧ n % cols = 0 ∧ (bias.length : Int) = n / cols ∧ (weights.length : Int) = bias.length * inner) := rfl
    rw [hR, decide_eq_decide]
    constructor
    · rintro ⟨g1, g2, g3, g4, g5, g6, g7, g8, g9, g10, g11⟩
      have := (gemm_eq g5).2 g10
      exact ⟨g1, g2, g3, g4, g5, g6, g7, g8, g9, this.1, this.2, g11⟩
    · rintro ⟨g1, g2, g3, g4, g5, g6, g7, g8, g9, g10, g11, g12⟩
      exact ⟨g1, g2, g3, g4, g5, g6, g7, g8, g9, (gemm_eq g5).1 ⟨g10, g11⟩, g12⟩
  by_cases k3 : kind = 3
  · subst k3
    exact (xFits3 dst src other cols inner mul shift a1 a2 a3 _ _ _ c1 c2 c3 q1 q2 q3 n m t w).mono fun e w' ⟨he, hb⟩ => ⟨he.trans (ret_bool rfl), hb⟩
  by_cases k4 : kind = 4
  · subst k4
    exact (xFits4 dst src other cols inner mul shift a1 a2 a3 _ _ _ c1 c2 c3 q1 q2 q3 n m t hn1 hn2 w).mono fun e w' ⟨he, hb⟩ => ⟨he.trans (ret_bool rfl), hb⟩
  by_cases k5 : kind = 5
  · subst k5
    exact (xFits5 dst src other cols inner mul shift a1 a2 a3 _ _ _ c1 c2 c3 q1 q2 q3 n m t hn1 hn2 w).mono fun e w' ⟨he, hb⟩ => ⟨he.trans (ret_bool rfl), hb⟩
  by_cases k6 : kind = 6
  · subst k6
    exact (xFits6 dst src other cols inner mul shift a1 a2 a3 _ _ _ c1 c2 c3 q1 q2 q3 n m t w).mono fun e w' ⟨he, hb⟩ => ⟨he.trans (ret_bool rfl), hb⟩
  by_cases k7 : kind = 7
  · subst k7
    exact (xFits7 dst src other cols inner mul shift a1 a2 a3 _ _ _ c1 c2 c3 q1 q2 q3 n m t w).mono fun e w' ⟨he, hb⟩ => ⟨he.trans (ret_bool rfl), hb⟩
  · have hR : fitsL ⟨kind, dst, src, other, cols, inner, index, weights, bias, mul, shift⟩ n m t = false := by
      simp [fitsL, k1, k2, k3, k4, k5, k6, k7]
    rw [hR]
    exact xFits0 kind dst src other cols inner mul shift (by omega) a1 a2 a3 _ _ _ c1 c2 c3 n m t w

end Go.Proofs.YthlmgejikbmmaaaGreat

/-
  What composite literals leave, piece by piece: rows, variables, numbers that were just made. No function in sight.
-/
namespace Go.Proofs.YthlmgejikbmmaaaGreat
open Go.RowKit

def zeroR : RatL := ⟨false, [], []⟩
/-- Rationals that were just made. -/
theorem RatsAt.zeros {w : World} {g T n : Nat} (h : w.heap[g]? = some (.cells (madeCells #[.bool false, .slice none 0 0, .slice none 0 0] (n * 3)) T (0, 0))) (hn : n ≤ 9223372036854775807) : RatsAt w (some ⟨g, 0, none⟩) (List.replicate n zeroR) := by
  refine ⟨by simpa using hn, .inr ⟨g, 0, rfl, (Array.getElem?_eq_some_iff.1 h).1, fun j x hj => ?_⟩⟩
  obtain ⟨hl, hx⟩ := List.getElem?_eq_some_iff.1 hj
  rw [List.length_replicate] at hl
  rw [List.getElem_replicate] at hx
  subst hx
  have hc : ∀ r, r < 3 → w.cell? ⟨g, 0 + j * 3 + r, none⟩ = some ((#[.bool false, .slice none 0 0, .slice none 0 0] : Array Value).getD r undef) := by
    intro r hr
    have h1 : j * 3 + r < n * 3 := by omega
    have h2 : (j * 3 + r) % 3 = r := by omega
    match r, hr with
    | 0, _ => simp [World.cell?, h, madeCells]; exact ⟨j * 3, by rw [Array.getElem?_eq_getElem (by rw [Array.size_range]; omega), Array.getElem_range], by rw [Nat.mul_mod_left]; rfl⟩
    | 1, _ => simp [World.cell?, h, madeCells, h1, h2]
    | 2, _ => simp [World.cell?, h, madeCells, h1, h2]
  have c0 := hc 0 (by omega)
  have c1 := hc 1 (by omega)
  have c2 := hc 2 (by omega)
  exact ⟨none, none, 0, 0, c0, c1, c2, ⟨none, none, 0, 0, rfl, Nat.le_refl _, Nat.le_refl _, U32s.nil _ _, U32s.nil _ _⟩⟩
def zero3 (n : Nat) : Array Value := madeCells #[.bool false, .slice none 0 0, .slice none 0 0] (n * 3)
theorem Tryz.infoRat : (Tryz.prog.info? 44).map (fun i => (i.zero, i.size, i.bytes)) = some (some (.agg #[.bool false, .slice none 0 0, .slice none 0 0]), 3, 56) := by kernel_rfl
theorem mkRats (n : Nat) (hn : n ≤ 1000000) (w : World) : (Instr.makeSlice 24 (.int .i64 (n : Int)) (.int .i64 (n : Int))).run Tryz.prog w = .ok (.slice (some ⟨w.heap.size, 0, none⟩) n n) (w.alloc (.cells (zero3 n) 44)) := by
  obtain ⟨i0, hi0, hz0, hz1, hz2⟩ := info_parts Tryz.infoRat
  have h := run_makeSlice (P := Tryz.prog) (w := w) 24 44 i0 (.agg #[.bool false, .slice none 0 0, .slice none 0 0]) Tryz.underlying24 hi0 hz0 .i64 .i64 (n : Int) (n : Int) (by omega) (Int.le_refl _) (by rw [hz1, Int.toNat_natCast]; omega) (by rw [hz2]; omega) (by omega)
  rw [hz1, Int.toNat_natCast] at h
  exact h
/-- Worlds behind W0 as seen from B on. -/
structure From (B : Nat) (W0 w : World) : Prop where
  base : B ≤ w.heap.size
  be : Below B W0 w
theorem From.start {B : Nat} {W0 : World} (h : B ≤ W0.heap.size) : From B W0 W0.drew := ⟨h, (Below.refl _ _).drew⟩
theorem From.alloc {B : Nat} {W0 w : World} (h : From B W0 w) (o : Obj) : From B W0 (w.alloc o) := ⟨by have := h.base; simp; omega, h.be.alloc h.base o⟩
/-- A block of the call's own, of type T, from B on, known whole. -/
def RowT (B T : Nat) (xs : Array Value) (n : Nat) (v : Value) (w : World) : Prop := ∃ g, B ≤ g ∧ v = .slice (some ⟨g, 0, none⟩) n n ∧ w.heap[g]? = some (.cells xs T (0, 0))
theorem RowT.below {B T : Nat} {xs : Array Value} {n : Nat} {v : Value} {w w' : World} (h : RowT B T xs n v w) (hh : Below w.heap.size w w') : RowT B T xs n v w' := by
  obtain ⟨g, h1, h2, h3⟩ := h
  exact ⟨g, h1, h2, (hh.block g (Array.getElem?_eq_some_iff.1 h3).1).trans h3⟩
theorem RowT.alloc {B : Nat} {w : World} (h : B ≤ w.heap.size) (T : Nat) (xs : Array Value) (n : Nat) : RowT B T xs n (.slice (some ⟨w.heap.size, 0, none⟩) n n) (w.alloc (.cells xs T)) := by
  refine ⟨w.heap.size, h, rfl, ?_⟩
  show (w.heap.push _)[w.heap.size]? = _
  rw [Array.getElem?_push, if_pos rfl]
/-- A variable of the call's own, of type T. -/
def CellT (B T : Nat) (xs : Array Value) (v : Value) (w : World) : Prop := ∃ g, B ≤ g ∧ v = .pointer (some ⟨g, 0, none⟩) ∧ w.heap[g]? = some (.cells xs T (0, 0))
theorem CellT.below {B T : Nat} {xs : Array Value} {v : Value} {w w' : World} (h : CellT B T xs v w) (hh : Below w.heap.size w w') : CellT B T xs v w' := by
  obtain ⟨g, h1, h2, h3⟩ := h
  exact ⟨g, h1, h2, (hh.block g (Array.getElem?_eq_some_iff.1 h3).1).trans h3⟩
theorem CellT.alloc {B : Nat} {w : World} (h : B ≤ w.heap.size) (T : Nat) (xs : Array Value) : CellT B T xs (.pointer (some ⟨w.heap.size, 0, none⟩)) (w.alloc (.cells xs T)) := by
  refine ⟨w.heap.size, h, rfl, ?_⟩
  show (w.heap.push _)[w.heap.size]? = _
  rw [Array.getElem?_push, if_pos rfl]
/-- The cells of block g from o on, laid one by one. -/
def setRow (g : Nat) : World → Nat → List Value → World
  | w, _, [] => w
  | w, o, v :: l => setRow g (w.setCell ⟨g, o, none⟩ v) (o + 1) l
theorem setRow_below {g B : Nat} (hB : B ≤ g) {W0 : World} : ∀ (l : List Value) (w : World) (o : Nat), Below B W0 w → Below B W0 (setRow g w o l) := by
  intro l
  induction l with
  | nil => intro w o h; exact h
  | cons v l ih => intro w o h; exact ih _ _ (h.setCell hB v)
theorem setRow_apart {g k : Nat} (hk : k ≠ g) : ∀ (l : List Value) (w : World) (o : Nat), (setRow g w o l).heap[k]? = w.heap[k]? := by
  intro l
  induction l with
  | nil => intro w o; rfl
  | cons v l ih => intro w o; exact (ih _ _).trans (Below.heap_setCell w ⟨g, o, none⟩ v k hk)
theorem setRow_size {g : Nat} : ∀ (l : List Value) (w : World) (o : Nat), (setRow g w o l).heap.size = w.heap.size := by
  intro l
  induction l with
  | nil => intro w o; rfl
  | cons v l ih => intro w o; exact (ih _ _).trans (by simp [World.setCell])
theorem setRow_block {g T : Nat} {p : Nat × Nat} : ∀ (l : List Value) (w : World) (o : Nat) (cs : List Value), w.heap[g]? = some (.cells cs.toArray T p) → (setRow g w o l).heap[g]? = some (.cells ((cs.take o ++ l ++ cs.drop (o + l.length)).take cs.length).toArray T p) := by
  intro l
  induction l with
  | nil =>
    intro w o cs h
    simp only [setRow, List.append_nil, List.length_nil, Nat.add_zero, List.take_append_drop, List.take_length]
    exact h
  | cons v l ih =>
    intro w o cs h
    have h1 : (w.setCell ⟨g, o, none⟩ v).heap[g]? = some (.cells (cs.set o v).toArray T p) := by
      simp [World.setCell, Array.getElem?_modify, h]
    have h2 := ih _ (o + 1) _ h1
    simp only [setRow]
    rw [h2]
    congr 2
    by_cases ho : o < cs.length
    · have e1 : (cs.set o v).take (o + 1) = cs.take o ++ [v] := by
        rw [List.take_succ_eq_append_getElem (by simpa using ho), List.take_set_of_le (Nat.le_refl o)]
        simp
      have e2 : (cs.set o v).drop (o + 1 + l.length) = cs.drop (o + (v :: l).length) := by
        rw [List.drop_set_of_lt (by omega)]
        congr 1
        simp only [List.length_cons]; omega
      rw [e1, e2, List.length_set]
      simp
    · have e1 : cs.set o v = cs := List.set_eq_of_length_le (by omega)
      rw [e1, List.take_of_length_le (show cs.length ≤ o + 1 by omega), List.take_of_length_le (show cs.length ≤ o by omega)]
      simp
theorem setRow_all {g T : Nat} {l : List Value} {w : World} {cs : Array Value} (h : w.heap[g]? = some (.cells cs T (0, 0))) (hl : l.length = cs.size) : (setRow g w 0 l).heap[g]? = some (.cells l.toArray T (0, 0)) := by
  have h1 := setRow_block (g := g) (T := T) (p := (0, 0)) l w 0 cs.toList (by simpa using h)
  rw [h1]
  have e : (cs.toList.take 0 ++ l ++ cs.toList.drop (0 + l.length)).take cs.toList.length = l := by
    rw [List.take_zero, List.nil_append, List.drop_of_length_le (by simp; omega), List.append_nil, List.take_of_length_le (by simp; omega)]
  rw [e]
theorem RowT.setRow {B T T' g : Nat} {xs ys : Array Value} {n : Nat} {v : Value} {w : World} (h : RowT B T xs n v w) (hg : w.heap[g]? = some (.cells ys T' (0, 0))) (hT : T ≠ T') (l : List Value) : RowT B T xs n v (setRow g w 0 l) := by
  obtain ⟨b, h1, h2, h3⟩ := h
  refine ⟨b, h1, h2, (setRow_apart ?_ l w 0).trans h3⟩
  rintro rfl
  rw [hg] at h3
  cases h3
  exact hT rfl

end Go.Proofs.YthlmgejikbmmaaaGreat
