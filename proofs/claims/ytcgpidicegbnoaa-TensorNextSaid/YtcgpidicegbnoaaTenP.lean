/-
  The walk of the statement TensorNext.
-/
import Derived.Test.YtcgpidicegbnoaaTenO
namespace Go.Proofs.Ytcgpidicegbnoaa
open Go.RowKit

theorem mod_suc (k Q : Nat) : ((k : Int) + 1) % (Q : Int) = (((k + 1) % Q : Nat) : Int) := by simp
theorem mod_nat (k Q : Nat) : (k : Int) % (Q : Int) = ((k % Q : Nat) : Int) := by simp
theorem tmod_nat (k Q : Nat) : (k : Int).tmod (Q : Int) = ((k % Q : Nat) : Int) := by rw [Int.tmod_eq_emod_of_nonneg (by omega)]; simp

set_option maxRecDepth 100000 in
set_option maxHeartbeats 3200000 in
theorem lawTensorNext {w : World} {a : Option Addr} {l : List Int} (c : Nat) (kh kw s p : Int) (h : Ints w Any a l) :
    Calls Try.prog 6 #[kernelV a l.length c kh kw s p] w fun e w' => e = .returned (.bool true) ∧ Below w.heap.size w w' := by
  have HA := Lib.hid (awake11 (w.alloc (.cells #[.slice a l.length c, .int .i64 kh, .int .i64 kw, .int .i64 s, .int .i64 p] 29)))
  have HC : Hid (∀ w', Below (w.heap.size + 1) (w.alloc (.cells #[.slice a l.length c, .int .i64 kh, .int .i64 kw, .int .i64 s, .int .i64 p] 29)) w' →
      (w'.cell? ⟨w.heap.size, 0, none⟩ = some (.slice a l.length c) ∧ w'.cell? ⟨w.heap.size, 1, none⟩ = some (.int .i64 kh) ∧ w'.cell? ⟨w.heap.size, 2, none⟩ = some (.int .i64 kw) ∧
        w'.cell? ⟨w.heap.size, 3, none⟩ = some (.int .i64 s) ∧ w'.cell? ⟨w.heap.size, 4, none⟩ = some (.int .i64 p)) ∧ Below w.heap.size w w' ∧ w.heap.size + 1 ≤ w'.heap.size) := fun w' hb =>
    ⟨⟨box_cells hb 0 _ rfl, box_cells hb 1 _ rfl, box_cells hb 2 _ rfl, box_cells hb 3 _ rfl, box_cells hb 4 _ rfl⟩,
      ((Below.refl _ w).alloc (Nat.le_refl _) _).trans (hb.mono (by omega)), by have := hb.size; simpa using this⟩
  have HI := Lib.hid h
  have hlen := h.len
  clear h
  go_enter Try.func6, Try.ntmps6
  go_wp2_with fail
  refine HA.out.mono ?_
  rintro e w1 ⟨rfl, hb1⟩
  simp only [World.size_alloc] at hb1
  obtain ⟨⟨c0, c1, c2, c3, c4⟩, hw1, hs1⟩ := HC.out w1 hb1
  have HS := Lib.hid (tSmall c kh kw s p (HI.out.below hw1))
  cases hsm : smallB l kh kw
  · rw [hsm] at HS
    clear hsm
    go_wp2_with fail
    refine HS.out.mono ?_
    rintro e w2 ⟨rfl, hb2⟩
    go_wp2_with fail
    refine (awake11 w2).mono ?_
    rintro e w3 ⟨rfl, hb3⟩
    go_wp2
    go_ret
    exact ⟨rfl, hw1.trans ((hb2.mono hw1.size).trans (hb3.mono (Nat.le_trans hw1.size hb2.size)))⟩
  rw [hsm] at HS
  clear hsm
  go_wp2_with fail
  refine HS.out.mono ?_
  rintro e w2 ⟨rfl, hb2⟩
  have hk2 := hb1.trans (hb2.mono hs1)
  clear c0 c1 c2 c3 c4 hb2 hb1 hs1 HS
  obtain ⟨⟨c0, c1, c2, c3, c4⟩, hw2, hs2⟩ := HC.out w2 hk2
  have HF := Lib.hid (tFew c kh kw s p (HI.out.below hw2))
  cases hfew : fewB l kh kw s p
  · rw [hfew] at HF
    clear hfew
    go_wp2_with fail
    refine HF.out.mono ?_
    rintro e w3 ⟨rfl, hb3⟩
    go_wp2_with fail
    refine (awake11 w3).mono ?_
    rintro e w4 ⟨rfl, hb4⟩
    go_wp2
    go_ret
    exact ⟨rfl, hw2.trans ((hb3.mono hw2.size).trans (hb4.mono (Nat.le_trans hw2.size hb3.size)))⟩
  rw [hfew] at HF
  clear hfew
  go_wp2_with fail
  refine HF.out.mono ?_
  rintro e w3 ⟨rfl, hb3⟩
  have hk3 := hk2.trans (hb3.mono hs2)
  clear c0 c1 c2 c3 c4 hb3 hk2 hs2 HF
  obtain ⟨⟨c0, c1, c2, c3, c4⟩, hw3, hs3⟩ := HC.out w3 hk3
  go_wp2_with fail
  refine (tWin c kh kw 1 p (HI.out.below hw3)).mono ?_
  rcases windowsL_cases l kh kw 1 p with ⟨er, he, hw⟩ | ⟨q, hq, ht, hl, hkh, hkw, hs, hp, hw⟩
  · have HW := Lib.hid hw
    have hne : (er != 0) = true := by rw [bne_iff_ne]; omega
    clear hw he
    rintro e w4 ⟨aA, cA, rfl, _, hb4⟩
    rw [HW.out]
    go_wp2
    go_ret
    exact ⟨rfl, hw3.trans (hb4.mono hw3.size)⟩
  rintro e w4 ⟨aA, cA, rfl, hA, hb4⟩
  rw [hw] at hA ⊢
  have hk4 := hk3.trans (hb4.mono hs3)
  clear c0 c1 c2 c3 c4 hk3 hb4 hs3 hw1 hw2 HA HI hw
  obtain ⟨_, hw4, _⟩ := HC.out w4 hk4
  obtain ⟨b1, _, _, b4, _⟩ := Win.len_bd hq ht
  obtain ⟨q1, q2⟩ := hq.q2
  have HQ := Lib.hid (show q.s = 1 by omega)
  subst hkh
  subst hkw
  subst hp
  have hkw1 := hq.kw1
  clear hs hl
  have hlen2 : ∀ r cc, (q.one r cc).length ≤ 67108864 := by
    intro r cc
    rw [q.one_len]
    exact Nat.mul_le_mul hq.c2 (Nat.mul_le_mul hq.kh2 hq.kw2)
  have HL2 := Lib.hid hlen2
  clear hlen2
  go_wp2
  go_loopw [7] (fun i wr => ∃ k : Nat, k ≤ q.all.length ∧ i = .int .i64 k ∧ Below w4.heap.size w4 wr) (fun i _ => q.all.length - (intOf i).toNat)
  case atStart => exact ⟨0, by omega, rfl, Below.refl _ _⟩
  case round =>
    obtain ⟨k, hk, rfl, hbr⟩ := hrel
    obtain ⟨wo, rfl⟩ : ∃ wo : World, wo = wr := ⟨_, rfl⟩
    by_cases hlt : k + 1 < q.all.length
    · by_cases hm : (k + 1) % q.Q = 0
      · have hm' : (((k : Int) + 1) % (q.Q : Int) == 0) = true := by rw [mod_suc, hm]; rfl
        clear hm
        go_wp2
        go_roundw
        case rel => exact ⟨k + 1, by omega, by go_num, hbr⟩
        case measure => simp [intOf]; omega
      · have hm' : (((k : Int) + 1) % (q.Q : Int) == 0) = false := by rw [mod_suc, beq_eq_false_iff_ne]; omega
        have HM := Lib.hid hm
        clear hm
        obtain ⟨x1, o1, l1, a1, k1, rfl, d1, e1, _, f1, bb1, _⟩ := (hA.below hbr).pick (show k < q.all.length by omega)
        obtain ⟨x2, o2, l2, a2, k2, e0, d2, e2, _, f2, _, _⟩ := (hA.below hbr).pick hlt
        obtain ⟨rfl, rfl⟩ : x1 = x2 ∧ o1 = o2 := by cases e0; exact ⟨rfl, rfl⟩
        obtain ⟨g1, g2, g3, g4⟩ := q.all_pos (i := k) (by omega)
        obtain ⟨_, g5, g6, g7⟩ := q.all_pos hlt
        have E1 : l1 = q.one (k / q.Q) (k % q.Q) := by rw [e1] at g4; cases g4; rfl
        have E2 : l2 = q.one (k / q.Q) (k % q.Q + 1) := by
          rw [e2] at g7
          have hQ := Nat.div_add_mod k q.Q
          have hlt2 : k % q.Q + 1 < q.Q := by
            rcases Nat.lt_or_ge (k % q.Q + 1) q.Q with h | h
            · exact h
            · exfalso
              have h1 : k % q.Q + 1 = q.Q := by omega
              apply HM.out
              have : k + 1 = q.Q * (k / q.Q) + (k % q.Q + 1) := by omega
              rw [this, h1, Nat.mul_add_mod_self_left, Nat.mod_self]
          have hd : (k + 1) / q.Q = k / q.Q := by
            have : k + 1 = (k % q.Q + 1) + q.Q * (k / q.Q) := by omega
            rw [this, Nat.add_mul_div_left _ _ g1, Nat.div_eq_of_lt hlt2, Nat.zero_add]
          have hmm : (k + 1) % q.Q = k % q.Q + 1 := by
            have : k + 1 = q.Q * (k / q.Q) + (k % q.Q + 1) := by omega
            rw [this, Nat.mul_add_mod_self_left, Nat.mod_eq_of_lt hlt2]
          rw [hd, hmm] at g7
          cases g7; rfl
        have hll : l1.length = l2.length := by rw [E1, E2, q.one_len, q.one_len]
        have hlb : l1.length ≤ 67108864 := by rw [E1]; exact HL2.out _ _
        have HN : Hid (∀ n, n < l1.length → 0 < n % q.kw → l1[n]? = l2[n - 1]?) := by
          intro n hn hp
          rw [E1, E2]
          exact q.next HQ.out _ _ (by rw [E1, q.one_len] at hn; exact hn) hp
        have HLL := Lib.hid hll
        have HA' := Lib.hid hA
        clear e1 e2 e0 g1 g2 g3 g4 g5 g6 g7 E1 E2 HM hA hll
        go_wp2
        go_loopw [8] (fun i wi => ∃ n : Nat, n ≤ l1.length ∧ i = .int .i64 n ∧ Below wo.heap.size wo wi) (fun i _ => l1.length - (intOf i).toNat)
        case atStart => exact ⟨0, by omega, rfl, Below.refl _ _⟩
        case round =>
          obtain ⟨n, hn, rfl, hbi⟩ := hrel
          have d1' := (hbi.cell (p := ⟨x1, o1 + k, none⟩) bb1).trans d1
          have d2' := (hbi.cell (p := ⟨x1, o1 + (k + 1), none⟩) bb1).trans d2
          obtain ⟨⟨_, _, c2, _, _⟩, _, _⟩ := HC.out wr (hk4.trans ((hbr.trans (hbi.mono hbr.size)).mono (by have := hw4.size; omega)))
          by_cases hltn : n < l1.length
          · obtain ⟨u1, p1, v1, rfl, m1, z1, _, _, _⟩ := (f1.below hbi).pick hltn
            have hz1 : ((q.kw : Int) == 0) = false := by rw [beq_eq_false_iff_ne]; omega
            have hz2 : ¬ q.kw = 0 := by omega
            have t1 := tmod_nat n q.kw
            have t2 := mod_nat n q.kw
            by_cases hp : 0 < n % q.kw
            · have hn0 : 1 ≤ n := by
                rcases Nat.eq_zero_or_pos n with h | h
                · subst h; simp at hp
                · exact h
              have hn1 : n - 1 < l2.length := by rw [← HLL.out]; omega
              obtain ⟨u2, p2, v2, rfl, m2, z2, _, _, _⟩ := (f2.below hbi).pick hn1
              obtain rfl : v2 = v1 := by have := HN.out n hltn hp; rw [z1, z2] at this; cases this; rfl
              clear z1 z2 f1 f2
              generalize n % q.kw = nm at *
              go_wp2
              go_quiet (fail)
              go_wp2
              go_roundw
              case rel => exact ⟨n + 1, by omega, by go_num, below_drewN hbi _⟩
              case measure => simp [intOf]; omega
            · have hpz : decide (0 < n % q.kw) = false := by simp; omega
              clear z1 hp f1 f2
              generalize n % q.kw = nm at *
              go_wp2
              go_quiet (fail)
              go_wp2
              go_roundw
              case rel => exact ⟨n + 1, by omega, by go_num, below_drewN hbi _⟩
              case measure => simp [intOf]; omega
          · obtain rfl : n = l1.length := by omega
            go_wp2
            go_roundw
            case rel => exact ⟨k + 1, by omega, by go_num, hbr.trans (hbi.mono hbr.size)⟩
            case measure => simp [intOf]; omega
    · go_wp2
      go_ret
      exact ⟨rfl, hw4.trans (hbr.mono hw4.size)⟩

end Go.Proofs.Ytcgpidicegbnoaa
