/-
  The walk of the reference's Tiles: it returns the tiles one after another.
-/
import Derived.Test.YtcgpidicegbnoaaTile
namespace Go.Proofs.Ytcgpidicegbnoaa
open Go.RowKit
attribute [local go_sem] Oper.semAt_some

/-- 'v = append(v, u)', v the call's own, u a struct of four cells: behind the making of u's row. -/
theorem wpList_app4 {P : Program} {w : World} {ops : Array Oper} {rest : List Oper} {o : Oper} {a : Act} {Q : Exit → Act → World → Prop} (hgd : o.guard = none) (s x : Operand) (t : TypeId)
    (ho : o.op = .call { callee := .builtin .append, args := #[s, x], argTypes := #[t, t] })
    (base : Nat) (e : TypeId) (z : Value) (bytes : Nat) (ht : P.underlying t = some (.slice e)) (hinfo : (P.info? e).map (fun i => (i.zero, i.size, i.bytes)) = some (some z, 4, bytes)) (hz1 : z.cells.size = 4)
    (v : Value) (n : Nat) (xs : List Value) (hs : a.eval s = v) (hown : w.ownsRow base e 4 v n xs) (u0 u1 u2 u3 : Value) (hu : ∀ u ∈ [u0, u1, u2, u3], u.oneCell' = true)
    (hx : a.eval x = .slice (some ⟨w.heap.size, 0, none⟩) 1 1)
    (hbytes : (n + 1) * bytes ≤ 140737488355328) (h63 : n + 1 ≤ maxLen) (hbase : base ≤ w.heap.size)
    (h : ∀ v' w', w'.ownsRow base e 4 v' (n + 1) (xs ++ [u0, u1, u2, u3]) → w.grownBy w' v.ownBlock → Next w v v' → wpList P ops Q rest (a.put o.dst v') w') :
    wpList P ops Q (o :: rest) a (w.alloc (.cells #[u0, u1, u2, u3] e)) := by
  refine wpList_plain hgd fun K hK => ?_
  obtain ⟨i, hi, hz, hsize, hby⟩ := info_parts hinfo
  obtain ⟨v', w', hr, h2, h3, h4⟩ := run_append_next (P := P) (w.alloc (.cells #[u0, u1, u2, u3] e)) base t o.type e i z 4 bytes ht hi hz hsize hby hz1 (by omega) v n xs (hown.alloc _) ⟨w.heap.size, 0, none⟩ 1 1 [u0, u1, u2, u3] rfl
    (by intro j y hj
        rw [Addr.add_lit, World.cell?_alloc_at _ _ _ _ rfl]
        simpa using hj) hu (by omega) h63 hbytes (by simp; omega)
  unfold Oper.wp execOp
  simp only [ho, resolve, invoke, builtin, Sem.run_bind, Sem.run_pure, Result.andThen_ok, List.map_toArray, List.map_cons, List.map_nil, hs, hx, hr]
  refine hK _ _ (h v' w' h2 ?_ ?_)
  · have h0 := World.grownBy_alloc w (.cells #[u0, u1, u2, u3] e) v.ownBlock
    exact ⟨h3.os.trans h0.os, h3.tape.trans h0.tape, h3.output.trans h0.output, Nat.le_trans h0.size h3.size, fun k hk hne => (h3.block k (by simp; omega) hne).trans (h0.block k hk hne)⟩
  · exact h4.imp id (fun ⟨g, hg, hle⟩ => ⟨g, hg, by simp at hle; omega⟩)

/-- The cells of the first n tiles, one after another. -/
def tileL (rows cols h wd k : Nat) : List Value := (tileV rows cols h wd k).cells.toList
def tilesFlat (rows cols h wd n : Nat) : List Value := (List.range n).flatMap (tileL rows cols h wd)

theorem cutN_le {n s : Nat} (hs : 1 ≤ s) : cutN n s ≤ n := by
  rcases Nat.lt_or_ge n (cutN n s) with h | h
  · have := (cutN_lt (n := n) (i := n) hs).1 h
    have := Nat.le_mul_of_pos_right n hs
    omega
  · exact h

set_option maxRecDepth 100000 in
set_option maxHeartbeats 3200000 in
theorem rTiles (rows cols h wd : Nat) (hr1 : 1 ≤ rows) (hc1 : 1 ≤ cols) (hh1 : 1 ≤ h) (hw1 : 1 ≤ wd)
    (hr2 : rows ≤ 12) (hc2 : cols ≤ 12) (hh2 : h ≤ 9223372036854775807) (hw2 : wd ≤ 9223372036854775807) (w : World) :
    Calls Try.prog 37 #[.int .i64 rows, .int .i64 cols, .int .i64 h, .int .i64 wd] w fun e w' =>
      ∃ v, e = .returned v ∧ w'.ownsRow w.heap.size 59 4 v (tilesN rows cols h wd) (tilesFlat rows cols h wd (tilesN rows cols h wd)) ∧ Below w.heap.size w w' := by
  have hS1 : 1 ≤ min h rows := by omega
  have hC1 : 1 ≤ min wd cols := by omega
  have m0 : (if rows < h then (rows : Int) else h) = ((min h rows : Nat) : Int) := by split <;> omega
  have n0 : (if cols < wd then (cols : Int) else wd) = ((min wd cols : Nat) : Int) := by split <;> omega
  have HT : Hid (tilesN rows cols h wd = cutN rows (min h rows) * cutN cols (min wd cols)) := rfl
  have HV : Hid (∀ i j, i < cutN rows (min h rows) → j < cutN cols (min wd cols) → tileL rows cols h wd (i * cutN cols (min wd cols) + j) =
      [.int .i64 (i * min h rows : Nat), .int .i64 (j * min wd cols : Nat), .int .i64 (min h (rows - i * min h rows) : Nat), .int .i64 (min wd (cols - j * min wd cols) : Nat)]) := fun i j hi hj => by
    have e1 : (i * cutN cols (min wd cols) + j) / cutN cols (min wd cols) = i := by
      rw [Nat.mul_comm, Nat.mul_add_div (by omega), Nat.div_eq_of_lt hj, Nat.add_zero]
    have e2 : (i * cutN cols (min wd cols) + j) % cutN cols (min wd cols) = j := by
      rw [Nat.mul_comm, Nat.mul_add_mod_self_left, Nat.mod_eq_of_lt hj]
    unfold tileL tileV
    rw [e1, e2, show cutAt rows h i = i * min h rows from if_pos hi, show cutAt cols wd j = j * min wd cols from if_pos hj]
    rfl
  have HF : Hid (∀ n, tilesFlat rows cols h wd (n + 1) = tilesFlat rows cols h wd n ++ tileL rows cols h wd n) := fun n => by
    unfold tilesFlat; rw [List.range_succ]; simp
  have hl1 := cutN_le (n := rows) hS1
  have hl2 := cutN_le (n := cols) hC1
  have HLR : Hid (∀ i, i < cutN rows (min h rows) ↔ i * min h rows < rows) := fun i => cutN_lt hS1
  have HLC : Hid (∀ j, j < cutN cols (min wd cols) ↔ j * min wd cols < cols) := fun j => cutN_lt hC1
  have hSr : min h rows ≤ rows := by omega
  have hCc : min wd cols ≤ cols := by omega
  generalize cutN rows (min h rows) = N at *
  generalize cutN cols (min wd cols) = C at *
  generalize min h rows = S at *
  generalize min wd cols = E at *
  have h0 : w.ownsRow w.heap.size 59 4 (.slice none 0 0) 0 [] := ⟨rfl, .inl ⟨rfl, rfl⟩⟩
  have H0 := Lib.hid h0
  have HM0 := Lib.hid m0
  have HN0 := Lib.hid n0
  clear h0 m0 n0
  go_enter Try.func37, Try.ntmps37
  go_wp2
  go_loopw [9, 10] (fun v r wr => ∃ i : Nat, i ≤ N ∧ r = .int .i64 (i * S : Nat) ∧ Hid (wr.ownsRow w.heap.size 59 4 v (i * C) (tilesFlat rows cols h wd (i * C))) ∧ Below w.heap.size w wr) (fun _ r _ => 24 - (intOf r).toNat)
  case atStart => exact ⟨0, Nat.zero_le _, by simp, by simpa [tilesFlat] using H0, Below.refl _ _⟩
  case round =>
    obtain ⟨i, hi, rfl, hO, hB⟩ := hrel
    by_cases hlt : i < N
    · have hs := (HLR.out i).1 hlt
      have HI := Lib.hid hlt
      clear hlt
      generalize hrr : i * S = r at *
      have HR := Lib.hid hrr
      clear hrr
      have s1' : (r : Int) < (rows : Int) := by omega
      go_wp2
      go_loopw [9, 11] (fun v c wi => ∃ j : Nat, j ≤ C ∧ c = .int .i64 (j * E : Nat) ∧ Hid (wi.ownsRow w.heap.size 59 4 v (i * C + j) (tilesFlat rows cols h wd (i * C + j))) ∧ Below w.heap.size w wi) (fun _ c _ => 24 - (intOf c).toNat)
      case atStart => exact ⟨0, Nat.zero_le _, by simp, by simpa using hO, hB⟩
      case round =>
        clear hO hB
        obtain ⟨j, hj, rfl, hO, hB⟩ := hrel
        by_cases hltj : j < C
        · have hs2 := (HLC.out j).1 hltj
          have HJ := Lib.hid hltj
          have hv := HV.out i j HI.out hltj
          rw [HR.out] at hv
          have hbd : i * C + j < 144 := by
            have h1 : (i + 1) * C ≤ 12 * 12 := Nat.mul_le_mul (by have := HI.out; omega) (by omega)
            rw [Nat.succ_mul] at h1; omega
          clear hltj
          generalize hcc : j * E = c at *
          have HCC := Lib.hid hcc
          clear hcc
          have t1' : (c : Int) < (cols : Int) := by omega
          have m1 : (if (rows : Int) - r < h then (rows : Int) - r else h) = ((min h (rows - r) : Nat) : Int) := by split <;> omega
          have m2 : (if (cols : Int) - c < wd then (cols : Int) - c else wd) = ((min wd (cols - c) : Nat) : Int) := by split <;> omega
          generalize hq1 : min h (rows - r) = q1 at *
          generalize hq2 : min wd (cols - c) = q2 at *
          have HQ1 := Lib.hid hq1
          have HQ2 := Lib.hid hq2
          have HVk := Lib.hid hv
          have HBd := Lib.hid hbd
          clear hq1 hq2 hv hbd
          go_wp2_with (at_builtin; refine wpList_app4 rfl (.tmp 43) (.tmp 57) 52 rfl w.heap.size 59 (.agg #[.int .i64 0, .int .i64 0, .int .i64 0, .int .i64 0]) 32 (by kernel_rfl) (by kernel_rfl) rfl _ (i * C + j) _ rfl hO.out _ _ _ _ (by intro u hu; simp at hu; rcases hu with rfl | rfl | rfl | rfl <;> rfl) rfl (by have := HBd.out; omega) (by have := HBd.out; unfold maxLen; omega) hB.size ?_; intro v' w' hown hg hn)
          go_roundw
          case rel =>
            refine ⟨j + 1, HJ.out, ?_, ?_, hB.grown hg hB.size (fun k hk => (hO.out.lt k hk).1)⟩
            · rw [HN0.out, Nat.succ_mul, HCC.out]; go_num
            · unfold Hid
              rw [show i * C + (j + 1) = i * C + j + 1 by omega, HF.out, HVk.out]
              exact hown
          case measure => rw [HN0.out]; simp [intOf]; omega
        · obtain rfl : j = C := by omega
          have hge : ¬ ((j * E : Nat) : Int) < (cols : Int) := fun hh => hltj ((HLC.out j).2 (by omega))
          have hbd : j * E ≤ 24 := by
            rcases j with _ | j
            · omega
            · have := (HLC.out j).1 (by omega); rw [Nat.succ_mul]; omega
          generalize j * E = c at *
          go_wp2
          go_roundw
          case rel =>
            refine ⟨i + 1, HI.out, ?_, ?_, hB⟩
            · rw [HM0.out, Nat.succ_mul, HR.out]; go_num
            · rw [Nat.succ_mul]; exact hO
          case measure => rw [HM0.out]; simp [intOf]; omega
    · obtain rfl : i = N := by omega
      have hge : ¬ ((i * S : Nat) : Int) < (rows : Int) := fun hh => hlt ((HLR.out i).2 (by omega))
      generalize i * S = r at *
      go_wp2
      go_ret
      exact ⟨_, rfl, by rw [HT.out]; exact hO.out, hB⟩

end Go.Proofs.Ytcgpidicegbnoaa
