/-
  Contracts of the functions that the statements reach, in the order in which they are built: KerH, KerI, KerJ.
-/
import Derived.Test.YthlmgejikbmmaaaGreatM8
import Derived.Maps.OwnOps
import Derived.Maps.Views
set_option linter.unusedVariables false
set_option linter.unusedSimpArgs false
set_option linter.constructorNameAsVariable false
set_option linter.deprecated false

/-
  Maps from integers to truth that the call makes: what they hold. No function in sight.
-/
namespace Go.Proofs.YthlmgejikbmmaaaGreat
open Go.RowKit

theorem Tryz.mapKeyed : Go.Maps.Keyed Tryz.prog 3 := Go.Maps.int_keyed Tryz.underlying3
theorem Tryz.zeroBool (w : World) : (zeroValue 4).run Tryz.prog w = .ok (.bool false) w := by kernel_rfl

/-- In the range of the kind int. -/
def I64 (x : Int) : Prop := -9223372036854775808 ≤ x ∧ x ≤ 9223372036854775807
theorem key_int' {P : Program} {k : TypeId} (hk : P.underlying k = some (.int .i64)) {x : Int} (h : I64 x) : keyOf P k (.int .i64 x) = some (.int .i64 x) := by
  have hw : (Lit.int .i64 x).wf = true := by
    unfold I64 at h
    show (decide (IntKind.i64.min ≤ x) && decide (x ≤ IntKind.i64.max)) = true
    rw [Bool.and_eq_true, decide_eq_true_eq, decide_eq_true_eq]
    exact h
  unfold keyOf
  rw [hk]
  simp only
  unfold mapKey
  rw [hk]
  simp [hw]
theorem key_int {x : Int} (h : I64 x) : keyOf Tryz.prog 3 (.int .i64 x) = some (.int .i64 x) := key_int' Tryz.underlying3 h

/-- Block b is a map that holds 'true' at the numbers of S. -/
def SetM (w : World) (b n : Nat) (S : Int → Bool) : Prop := ∃ D : DataW Unit, w.ownsMap Tryz.prog 3 (plainElem Tryz.prog 4) b n D ∧ Go.Maps.IsMap D ∧ ∀ x, I64 x → D.atKey (.int .i64 x) (.lit (.bool false)) = .lit (.bool (S x))

theorem SetM.lt {w : World} {b n : Nat} {S : Int → Bool} (h : SetM w b n S) : b < w.heap.size := let ⟨_, h1, _⟩ := h; h1.lt
theorem SetM.made (w : World) : SetM (w.alloc (.map #[] 0)) w.heap.size 0 (fun _ => false) := ⟨.map [], World.ownsMap_made _ _ _ _, Go.Maps.isMap_empty, fun x _ => rfl⟩
theorem SetM.kept {w w' : World} {b n : Nat} {S : Int → Bool} (h : SetM w b n S) (hb : Below w.heap.size w w') : SetM w' b n S := by
  obtain ⟨D, h1, h2, h3⟩ := h
  exact ⟨D, h1.kept (row := none) ⟨hb.os, hb.tape, hb.output, hb.size, fun k hk _ => hb.block k hk⟩ (by simp), h2, h3⟩
theorem plain_bool_inv {P : Program} {e : TypeId} (he : P.underlying e = some .bool) {v : Value} {z : DataW Unit × List MemPlace} (h : plainElem P e v = some z) : ∃ x, v = .bool x ∧ z = (.lit (.bool x), []) := by
  unfold plainElem at h
  rw [he] at h
  cases v <;> simp at h
  exact ⟨_, rfl, h.symm⟩
theorem SetM.look {w : World} {b n : Nat} {S : Int → Bool} (h : SetM w b n S) {x : Int} (hx : I64 x) : (Instr.lookup 48 (.map (some b)) (.int .i64 x) false).run Tryz.prog w = .ok (.bool (S x)) w := by
  obtain ⟨D, h1, h2, h3⟩ := h
  obtain ⟨v, ps, hrun, hv⟩ := h1.lookup Tryz.mapKeyed Tryz.underlying48 (Tryz.zeroBool w) (plainElem_bool Tryz.underlying4 false) (key_int hx)
  obtain ⟨y, rfl, hz⟩ := plain_bool_inv Tryz.underlying4 hv
  rw [h3 x hx] at hz
  simp at hz
  rw [hrun, hz.1]
theorem SetM.put {w : World} {b n : Nat} {S : Int → Bool} (h : SetM w b n S) {x : Int} (hx : I64 x) (hn : n < maxLen) : ∃ w', (Instr.mapUpdate 48 (.map (some b)) (.int .i64 x) (.bool true)).run Tryz.prog w = .ok () w' ∧ SetM w' b (n + 1) (fun y => y == x || S y) ∧ w.grownBy w' (some b) := by
  obtain ⟨D, h1, h2, h3⟩ := h
  obtain ⟨w', hrun, r1, r2⟩ := h1.update Tryz.mapKeyed Tryz.underlying48 hn (key_int hx) (plainElem_bool Tryz.underlying4 true)
  refine ⟨w', hrun, ⟨_, r1, Go.Maps.IsMap.put h2 _ _, fun y hy => ?_⟩, r2⟩
  by_cases e : y = x
  · subst e
    rw [Go.Maps.atKey_put_same h2 (Tryz.mapKeyed.key (key_int hx))]
    show DataW.lit (Lit.bool true) = DataW.lit (Lit.bool (y == y || S y))
    rw [beq_self_eq_true, Bool.true_or]
  · rw [Go.Maps.atKey_put_other (by intro h; cases h; exact e rfl), h3 y hy]
    have : (y == x) = false := by rw [beq_eq_false_iff_ne]; exact e
    show DataW.lit (Lit.bool (S y)) = DataW.lit (Lit.bool (y == x || S y))
    rw [this, Bool.false_or]

/-- 'm[k] = true', in the text or in a literal, at the operation. -/
theorem wpList_set_true {w : World} {ops : Array Oper} {rest : List Oper} {o : Oper} {a : Act} {Q : Exit → Act → World → Prop} (hg : o.guard = none) (m x v : Operand)
    (hop : o.op = .mapUpdate 48 m x v ∨ o.op = .insert 48 m x v) {b n : Nat} {S : Int → Bool} (hm : a.eval m = .map (some b)) {y : Int} (hx : a.eval x = .int .i64 y) (hv : a.eval v = .bool true) (h : SetM w b n S) (hy : I64 y) (hn : n < maxLen)
    (hK : ∀ w', SetM w' b (n + 1) (fun z => z == y || S z) → w.grownBy w' (some b) → wpList Tryz.prog ops Q rest (a.put o.dst undef) w') : wpList Tryz.prog ops Q (o :: rest) a w := by
  refine wpList_plain hg fun K' hK' => ?_
  obtain ⟨w', hrun, r1, r2⟩ := h.put hy hn
  unfold Oper.wp
  rcases hop with hop | hop <;> simp [execOp, hop, hm, hx, hv, hrun, Result.andThen] <;> exact hK' _ _ (hK w' r1 r2)

end Go.Proofs.YthlmgejikbmmaaaGreat

/-
  The walk of kernel.Valid: by contract. First: what it says; the early ends.
-/
namespace Go.Proofs.YthlmgejikbmmaaaGreat
open Go.RowKit

def putS (S : Int → Bool) (x : Int) : Int → Bool := fun y => y == x || S y
def otherOf (sizes : List Int) (o : OpL) : Int := if o.kind = 6 then sizes.getD o.other.toNat 0 else 0
/-- An operation is valid where the buffers of S are written. -/
def opOK (sizes : List Int) (S : Int → Bool) (o : OpL) : Bool :=
  wthn o.dst 1 ((sizes.length : Int) - 1) && (!S o.dst && (S o.src && ((!decide (o.kind = 6) || S o.other) && fitsL o (sizes.getD o.dst.toNat 0) (sizes.getD o.src.toNat 0) (otherOf sizes o))))
def opStep (sizes : List Int) (acc : Option (Int → Bool)) (o : OpL) : Option (Int → Bool) := acc.bind fun S => if opOK sizes S o then some (putS S o.dst) else none
def opsRun (sizes : List Int) (L : List OpL) : Option (Int → Bool) := L.foldl (opStep sizes) (some (putS (fun _ => false) 0))
def tailOK (k : KerL) (S : Int → Bool) : Bool := S k.output && (wthn k.inShift 0 62 && (wthn k.outShift 0 62 && boundsL k))
/-- What Valid says. -/
def validK (k : KerL) : Bool :=
  wthn k.sizes.length 1 1024 && (decide (k.ops.length ≤ 1024) && (k.sizes.all (fun n => wthn n 1 262144) && (match opsRun k.sizes k.ops with | none => false | some S => tailOK k S)))

theorem opStep_none (sizes : List Int) (L : List OpL) : L.foldl (opStep sizes) none = none := by
  induction L with
  | nil => rfl
  | cons o L ih => exact ih
theorem opsRun_succ {sizes : List Int} {L : List OpL} {j : Nat} {o : OpL} (h : L[j]? = some o) : opsRun sizes (L.take (j + 1)) = opStep sizes (opsRun sizes (L.take j)) o := by
  unfold opsRun
  rw [take_succ_at h, List.foldl_append]; rfl
theorem opsRun_fail {sizes : List Int} {L : List OpL} {j : Nat} (h : opsRun sizes (L.take j) = none) : opsRun sizes L = none := by
  unfold opsRun at *
  rw [← List.take_append_drop j L, List.foldl_append, h, opStep_none]

/-- The integers of a kernel are integers. -/
structure KerL.WF (k : KerL) : Prop where
  ops : ∀ o ∈ k.ops, I64 o.src ∧ I64 o.other ∧ I64 o.dst ∧ I64 o.mul
  out : I64 k.output
  s1 : ∀ x ∈ k.lo, x.Short
  s2 : ∀ x ∈ k.hi, x.Short
  s3 : ∀ x ∈ k.err, x.Short

theorem OpsAt.pick {w : World} {a : Option Addr} {L : List OpL} (h : OpsAt w a L) {j : Nat} (hj : j < L.length) :
    ∃ b off x a1 a2 a3 c1 c2 c3, a = some ⟨b, off, none⟩ ∧ b < w.heap.size ∧ L[j]? = some x ∧
    (w.cell? ⟨b, off + j * 11, none⟩ = some (.int .i64 x.kind) ∧ w.cell? ⟨b, off + j * 11 + 1, none⟩ = some (.int .i64 x.dst) ∧ w.cell? ⟨b, off + j * 11 + 2, none⟩ = some (.int .i64 x.src) ∧ w.cell? ⟨b, off + j * 11 + 3, none⟩ = some (.int .i64 x.other) ∧
      w.cell? ⟨b, off + j * 11 + 4, none⟩ = some (.int .i64 x.cols) ∧ w.cell? ⟨b, off + j * 11 + 5, none⟩ = some (.int .i64 x.inner) ∧ w.cell? ⟨b, off + j * 11 + 6, none⟩ = some (.slice a1 x.index.length c1) ∧ w.cell? ⟨b, off + j * 11 + 7, none⟩ = some (.slice a2 x.weights.length c2) ∧
      w.cell? ⟨b, off + j * 11 + 8, none⟩ = some (.slice a3 x.bias.length c3) ∧ w.cell? ⟨b, off + j * 11 + 9, none⟩ = some (.int .i64 x.mul) ∧ w.cell? ⟨b, off + j * 11 + 10, none⟩ = some (.int .i64 x.shift)) ∧
    OpV w (.agg #[.int .i64 x.kind, .int .i64 x.dst, .int .i64 x.src, .int .i64 x.other, .int .i64 x.cols, .int .i64 x.inner, .slice a1 x.index.length c1, .slice a2 x.weights.length c2, .slice a3 x.bias.length c3, .int .i64 x.mul, .int .i64 x.shift]) x := by
  rcases h.row with rfl | ⟨b, off, rfl, hb, hc⟩
  · simp at hj
  · have hd : L[j]? = some L[j] := by simp [hj]
    obtain ⟨a1, a2, a3, c1, c2, c3, h1, h2⟩ := hc j _ hd
    exact ⟨b, off, L[j], a1, a2, a3, c1, c2, c3, rfl, hb, hd, h1, h2⟩
/-- All that are marked written are buffers. -/
theorem opOK_range {sizes : List Int} {S : Int → Bool} {o : OpL} (h : opOK sizes S o = true) (hS : ∀ y, S y = true → 0 ≤ y ∧ y < (sizes.length : Int)) : ∀ y, putS S o.dst y = true → 0 ≤ y ∧ y < (sizes.length : Int) := by
  intro y hy
  unfold putS at hy
  rw [Bool.or_eq_true, beq_iff_eq] at hy
  rcases hy with rfl | hy
  · unfold opOK at h
    rw [Bool.and_eq_true] at h
    have := wthn_iff.1 h.1
    omega
  · exact hS y hy

theorem sizes_range {l : List Int} (h : l.all (fun n => wthn n 1 262144) = true) : ∀ y : Int, 0 ≤ y → y < (l.length : Int) → 1 ≤ l.getD y.toNat 0 ∧ l.getD y.toNat 0 ≤ 262144 := by
  intro y h0 h1
  obtain ⟨n, rfl⟩ := Int.eq_ofNat_of_zero_le h0
  have hn : n < l.length := by omega
  rw [Int.toNat_natCast, List.getD_eq_getElem?_getD, List.getElem?_eq_getElem hn]
  exact wthn_iff.1 (List.all_eq_true.1 h _ (List.getElem_mem hn))

theorem Ints.at_int {w : World} {F : Nat → Prop} {b off : Nat} {l : List Int} (h : Ints w F (some ⟨b, off, none⟩) l) {i : Int} (h0 : 0 ≤ i) (h1 : i < l.length) : w.cell? ⟨b, off + i.toNat, none⟩ = some (.int .i64 (l.getD i.toNat 0)) := by
  obtain ⟨n, rfl⟩ := Int.eq_ofNat_of_zero_le h0
  obtain ⟨b', off', x, he, hc, hx, _⟩ := h.pick2 (k := n) (by omega)
  cases he
  rw [Int.toNat_natCast, List.getD_eq_getElem?_getD, hx]; exact hc

set_option maxRecDepth 100000 in
set_option maxHeartbeats 3200000 in
theorem kValid_early {w : World} {v : Value} {k : KerL} (hv : KerV w v k) (h : ¬ (wthn k.sizes.length 1 1024 = true ∧ k.ops.length ≤ 1024)) :
    Calls Tryz.prog 11 #[v] w fun e w' => e = .returned (.bool (validK k)) ∧ Below w.heap.size w w' := by
  have hR : validK k = false := by
    unfold validK
    by_cases h1 : wthn k.sizes.length 1 1024 = true
    · rw [h1, decide_eq_false (fun h2 => h ⟨h1, h2⟩)]; rfl
    · rw [Bool.not_eq_true] at h1; rw [h1]; rfl
  obtain ⟨a1, a2, a3, a4, a5, c1, c2, c3, c4, c5, rfl, h1, h2, h3, h4, h5⟩ := hv.ex
  have HR := Lib.hid hR
  have q1 := h1.len
  have q2 := h2.len
  clear hv hR h1 h2 h3 h4 h5
  by_cases hs : wthn k.sizes.length 1 1024 = true
  · have ho : ¬ k.ops.length ≤ 1024 := fun h2 => h ⟨hs, h2⟩
    have HK := Lib.hid (fun wv => kWithin k.sizes.length 1 1024 wv)
    rw [hs] at HK
    clear hs h
    go_enter Tryz.func11, Tryz.ntmps11
    go_wp2_with fail
    refine (HK.out _).mono ?_
    rintro e w1 ⟨rfl, rfl⟩
    go_wp2
    go_ret
    exact ⟨ret_bool HR.out.symm, (Below.refl _ _).alloc (Nat.le_refl _) _⟩
  · rw [Bool.not_eq_true] at hs
    have HK := Lib.hid (fun wv => kWithin k.sizes.length 1 1024 wv)
    rw [hs] at HK
    clear hs h
    go_enter Tryz.func11, Tryz.ntmps11
    go_wp2_with fail
    refine (HK.out _).mono ?_
    rintro e w1 ⟨rfl, rfl⟩
    go_wp2
    go_ret
    exact ⟨ret_bool HR.out.symm, (Below.refl _ _).alloc (Nat.le_refl _) _⟩

end Go.Proofs.YthlmgejikbmmaaaGreat

/-
  The walk of kernel.Valid: by contract.
-/
namespace Go.Proofs.YthlmgejikbmmaaaGreat
open Go.RowKit

set_option maxRecDepth 100000 in
set_option maxHeartbeats 6400000 in
theorem kValid_main {w : World} {v : Value} {k : KerL} (hv : KerV w v k) (hwf : k.WF) (hs : wthn k.sizes.length 1 1024 = true) (ho : k.ops.length ≤ 1024) :
    Calls Tryz.prog 11 #[v] w fun e w' => e = .returned (.bool (validK k)) ∧ Below w.heap.size w w' := by
  have hR : validK k = (k.sizes.all (fun n => wthn n 1 262144) && (match opsRun k.sizes k.ops with | none => false | some S => tailOK k S)) := by
    unfold validK; rw [hs, decide_eq_true ho]; rfl
  have hs' := wthn_iff.1 hs
  have HKV := Lib.hid hv
  have HWF := Lib.hid hwf
  obtain ⟨a1, a2, a3, a4, a5, c1, c2, c3, c4, c5, hve, h1, h2, h3, h4, h5⟩ := hv.ex
  obtain ⟨bs, ofs, _, ha1, _⟩ := h1.pick2 (k := 0) (by omega)
  subst ha1
  rw [hve] at HKV ⊢
  have HR := Lib.hid hR
  have q1 := h1.len
  have q2 := h2.len
  have H1 := Lib.hid h1
  have H2 := Lib.hid h2
  have HK := Lib.hid (fun wv => kWithin k.sizes.length 1 1024 wv)
  rw [hs] at HK
  have hmm := @run_makeMap Tryz.prog
  clear hv hwf hR h1 h2 h3 h4 h5 hs hve
  go_enter Tryz.func11, Tryz.ntmps11
  go_wp2_with fail
  refine (HK.out _).mono ?_
  rintro e w1 ⟨rfl, rfl⟩
  have hbx := Box8.alloc w (.slice (some ⟨bs, ofs, none⟩) k.sizes.length c1) (.slice a2 k.ops.length c2) (.int .i64 k.output) (.int .i64 k.inShift) (.int .i64 k.outShift) (.slice a3 k.lo.length c3) (.slice a4 k.hi.length c4) (.slice a5 k.err.length c5) 26
  have hb1 : Below w.heap.size w (w.alloc (.cells #[.slice (some ⟨bs, ofs, none⟩) k.sizes.length c1, .slice a2 k.ops.length c2, .int .i64 k.output, .int .i64 k.inShift, .int .i64 k.outShift, .slice a3 k.lo.length c3, .slice a4 k.hi.length c4, .slice a5 k.err.length c5] 26)) := (Below.refl _ _).alloc (Nat.le_refl _) _
  generalize w.alloc (.cells #[.slice (some ⟨bs, ofs, none⟩) k.sizes.length c1, .slice a2 k.ops.length c2, .int .i64 k.output, .int .i64 k.inShift, .int .i64 k.outShift, .slice a3 k.lo.length c3, .slice a4 k.hi.length c4, .slice a5 k.err.length c5] 26) = W at *
  have HBx := Lib.hid hbx
  have HB1 := Lib.hid hb1
  have H1W := Lib.hid (H1.out.below hb1)
  have H2W := Lib.hid (H2.out.below hb1)
  have HKW := Lib.hid (HKV.out.below hb1)
  obtain ⟨x0, x1, x2, x3, x4, x5, x6, x7, xlt⟩ := hbx
  clear HK hb1 H1 H2 HKV
  go_wp2
  go_loop [23] (fun i => ∃ j : Nat, j ≤ k.sizes.length ∧ i = .int .i64 (j : Int) ∧ Hid ((k.sizes.take j).all (fun n => wthn n 1 262144) = true)) (fun i => k.sizes.length - (intOf i).toNat)
  case atStart => exact ⟨0, Nat.zero_le _, rfl, rfl⟩
  case round =>
    obtain ⟨j, hj, rfl, HA⟩ := hrel
    by_cases hlt : j < k.sizes.length
    · obtain ⟨b, off, x, hba, hcell, hx, hdrop, hbs, _, hx1, hx2⟩ := H1W.out.pick2 hlt
      cases hba
      have HT := Lib.hid (take_succ_at hx)
      have HM := Lib.hid (List.mem_of_getElem? hx)
      clear hdrop hx
      by_cases hw : wthn x 1 262144 = true
      · have HK := Lib.hid (fun wv => kWithin x 1 262144 wv)
        have HW := Lib.hid hw
        rw [hw] at HK
        clear hw
        go_wp2_with fail
        refine (HK.out _).mono ?_
        rintro e w2 ⟨rfl, rfl⟩
        go_wp2
        go_round
        case rel => exact ⟨j + 1, hlt, by go_num, by unfold Hid; rw [HT.out, List.all_append, HA.out, List.all_cons, List.all_nil, HW.out]; rfl⟩
        case measure => simp [intOf]; omega
      · have hf : k.sizes.all (fun n => wthn n 1 262144) = false := by rw [← Bool.not_eq_true]; exact fun h => hw (List.all_eq_true.1 h x HM.out)
        have HF := Lib.hid hf
        rw [Bool.not_eq_true] at hw
        have HK := Lib.hid (fun wv => kWithin x 1 262144 wv)
        rw [hw] at HK
        clear hw hf
        go_wp2_with fail
        refine (HK.out _).mono ?_
        rintro e w2 ⟨rfl, rfl⟩
        go_wp2
        go_ret
        exact ⟨ret_bool (by rw [HR.out, HF.out]; rfl), HB1.out⟩
    · obtain rfl : j = k.sizes.length := by omega
      have HS : Hid (k.sizes.all (fun n => wthn n 1 262144) = true) := by have := HA.out; rwa [List.take_length] at this
      clear HA hlt
      go_wp2_with (refine wpList_set_true rfl _ _ _ (.inr rfl) rfl rfl rfl (SetM.made W) (by unfold I64; omega) (by unfold maxLen; omega) ?_)
      intro w2 hm2 hg2
      have hb2 : Below W.heap.size W w2 := ((Below.refl _ _).alloc (Nat.le_refl _) _).grown hg2 (by simp) (fun k h => by cases h; exact Nat.le_refl _)
      have HM2 : Hid (SetM w2 W.heap.size 1 (putS (fun _ => false) 0)) := by
        have e : putS (fun _ => false) 0 = fun z => z == 0 := by funext z; simp [putS]
        unfold Hid; rw [e]; exact hm2
      obtain ⟨y0, y1, y2, y3, y4, y5, y6, y7, ylt⟩ := HBx.out.below hb2
      have HB2 := Lib.hid hb2
      clear hm2 hg2 x0 x1 x2 x3 x4 x5 x6 x7 hmm hb2
      go_wp2
      go_loopw [36] (fun i wr => ∃ j : Nat, ∃ S : Int → Bool, j ≤ k.ops.length ∧ i = .int .i64 (j : Int) ∧ Hid (opsRun k.sizes (k.ops.take j) = some S) ∧ Hid (∀ y, S y = true → 0 ≤ y ∧ y < (k.sizes.length : Int)) ∧ Hid (SetM wr W.heap.size (j + 1) S) ∧ Below W.heap.size W wr) (fun i _ => k.ops.length - (intOf i).toNat)
      case atStart =>
        refine ⟨0, _, Nat.zero_le _, rfl, rfl, ?_, HM2.out, HB2.out⟩
        intro y hy
        unfold putS at hy
        simp at hy
        omega
      case round =>
        clear HM2 HB2 y0 y1 y2 y3 y4 y5 y6 y7 ylt
        obtain ⟨j, S, hj, rfl, HRun, HRg, HM, hb⟩ := hrel
        obtain ⟨y0, y1, y2, y3, y4, y5, y6, y7, ylt⟩ := HBx.out.below hb
        by_cases hlt : j < k.ops.length
        · obtain ⟨bo, oo, x, o1, o2, o3, d1, d2, d3, rfl, hbo, hx, ⟨l0, l1, l2, l3, l4, l5, l6, l7, l8, l9, l10⟩, hov⟩ := (H2W.out.below hb).pick hlt
          obtain ⟨wf1, wf2, wf3, wf4⟩ := HWF.out.ops x (List.mem_of_getElem? hx)
          have HStep := Lib.hid (opsRun_succ (sizes := k.sizes) hx)
          have hbA : Below wr.heap.size wr (wr.alloc (.cells #[.int .i64 x.kind, .int .i64 x.dst, .int .i64 x.src, .int .i64 x.other, .int .i64 x.cols, .int .i64 x.inner, .slice o1 x.index.length d1, .slice o2 x.weights.length d2, .slice o3 x.bias.length d3, .int .i64 x.mul, .int .i64 x.shift] 40)) := (Below.refl _ _).alloc (Nat.le_refl _) _
          have hbx11 := Box11.alloc wr (.int .i64 x.kind) (.int .i64 x.dst) (.int .i64 x.src) (.int .i64 x.other) (.int .i64 x.cols) (.int .i64 x.inner) (.slice o1 x.index.length d1) (.slice o2 x.weights.length d2) (.slice o3 x.bias.length d3) (.int .i64 x.mul) (.int .i64 x.shift) 40
          have hk8 := (HBx.out.below hb).below hbA
          obtain ⟨z0, z1, z2, z3, z4, z5, z6, z7, zlt⟩ := hk8
          have hmap := HM.out.kept hbA
          have hIs := H1W.out.below (hb.trans (hbA.mono hb.size))
          have HOv := Lib.hid (hov.below hbA)
          have HBA := Lib.hid (hb.trans (hbA.mono hb.size))
          have HK := Lib.hid (fun wv => kWithin x.dst 1 (k.sizes.length - 1) wv)
          have LD := hmap.look wf3
          have LS := hmap.look wf1
          have LO := hmap.look wf2
          have HMp := Lib.hid hmap
          have HIs := Lib.hid hIs
          have HX11 := Lib.hid hbx11
          have HBk := Lib.hid ((HBx.out.below hb).below hbA)
          have hwl := hb.size
          have HF : Hid (opOK k.sizes S x = false → validK k = false) := by
            intro h
            have h2 : opsRun k.sizes (k.ops.take (j + 1)) = none := by
              rw [HStep.out, HRun.out]
              show (if opOK k.sizes S x = true then some (putS S x.dst) else none) = none
              rw [h]; rfl
            rw [HR.out, opsRun_fail h2]
            exact Bool.and_false _
          clear hb hx hov hbA hbx11 hmap hIs
          by_cases hw : wthn x.dst 1 (k.sizes.length - 1) = true
          · rw [hw] at HK
            obtain ⟨dd1, dd2⟩ := wthn_iff.1 hw
            have HW := Lib.hid hw
            clear hw
            by_cases hsd : S x.dst = true
            · rw [hsd] at LD
              have HFv := Lib.hid (HF.out (by unfold opOK; rw [hsd]; simp))
              clear hsd
              go_wp2_with fail
              refine (HK.out _).mono ?_
              rintro e w3 ⟨rfl, rfl⟩
              generalize wr.alloc (.cells #[.int .i64 x.kind, .int .i64 x.dst, .int .i64 x.src, .int .i64 x.other, .int .i64 x.cols, .int .i64 x.inner, .slice o1 x.index.length d1, .slice o2 x.weights.length d2, .slice o3 x.bias.length d3, .int .i64 x.mul, .int .i64 x.shift] 40) = W' at *
              obtain ⟨u0, u1, u2, u3, u4, u5, u6, u7, u8, u9, u10, ult⟩ := HX11.out
              go_wp2
              go_ret
              exact ⟨ret_bool HFv.out.symm, HB1.out.trans (HBA.out.mono HB1.out.size)⟩
            · rw [Bool.not_eq_true] at hsd
              rw [hsd] at LD
              by_cases hss : S x.src = true
              · rw [hss] at LS
                obtain ⟨ss1, ss2⟩ := HRg.out _ hss
                have HSS := Lib.hid hss
                have HSD := Lib.hid hsd
                clear hss hsd
                by_cases hk6 : x.kind = 6
                · have t6 : (x.kind == 6) = true := by rw [beq_iff_eq]; exact hk6
                  by_cases hso : S x.other = true
                  · rw [hso] at LO
                    obtain ⟨oo1, oo2⟩ := HRg.out _ hso
                    have HOth : Hid (otherOf k.sizes x = k.sizes.getD x.other.toNat 0) := if_pos hk6
                    have HSO := Lib.hid hso
                    have HK6 := Lib.hid hk6
                    clear hso hk6
                    have LAd := HIs.out.at_int (i := x.dst) (by omega) (by omega)
                    have LAs := HIs.out.at_int (i := x.src) ss1 ss2
                    have LAo := HIs.out.at_int (i := x.other) oo1 oo2
                    have HSz : Hid (∀ y, 0 ≤ y → y < (k.sizes.length : Int) → 1 ≤ k.sizes.getD y.toNat 0 ∧ k.sizes.getD y.toNat 0 ≤ 262144) := sizes_range HS.out
                    have rd := HSz.out x.dst (by omega) (by omega)
                    have rs := HSz.out x.src ss1 ss2
                    have HFt := Lib.hid (fun (Wv : World) (hOv : OpV Wv (.agg #[.int .i64 x.kind, .int .i64 x.dst, .int .i64 x.src, .int .i64 x.other, .int .i64 x.cols, .int .i64 x.inner, .slice o1 x.index.length d1, .slice o2 x.weights.length d2, .slice o3 x.bias.length d3, .int .i64 x.mul, .int .i64 x.shift]) x) => kFits hOv (k.sizes.getD x.dst.toNat 0) (k.sizes.getD x.src.toNat 0) (k.sizes.getD x.other.toNat 0) rd.1 rd.2 rs.1 rs.2)
                    have HOp : Hid (opOK k.sizes S x = fitsL x (k.sizes.getD x.dst.toNat 0) (k.sizes.getD x.src.toNat 0) (k.sizes.getD x.other.toNat 0)) := by
                      unfold Hid opOK
                      rw [HW.out, HSD.out, HSS.out, HSO.out, decide_eq_true HK6.out, HOth.out]; simp
                    clear rd rs
                    generalize hsd' : k.sizes.getD x.dst.toNat 0 = sd at *
                    generalize hss' : k.sizes.getD x.src.toNat 0 = ss at *
                    generalize hso' : k.sizes.getD x.other.toNat 0 = so at *
                    clear hso'
                    clear hsd' hss'
                    have hdz : ¬ x.dst < 0 := by omega
                    by_cases hft : fitsL x sd ss so = true
                    · rw [hft] at HFt
                      have HOk := Lib.hid (HOp.out.trans hft)
                      clear hft
                      go_wp2_with fail
                      refine (HK.out _).mono ?_
                      rintro e w3 ⟨rfl, rfl⟩
                      generalize wr.alloc (.cells #[.int .i64 x.kind, .int .i64 x.dst, .int .i64 x.src, .int .i64 x.other, .int .i64 x.cols, .int .i64 x.inner, .slice o1 x.index.length d1, .slice o2 x.weights.length d2, .slice o3 x.bias.length d3, .int .i64 x.mul, .int .i64 x.shift] 40) = W' at *
                      obtain ⟨u0, u1, u2, u3, u4, u5, u6, u7, u8, u9, u10, ult⟩ := HX11.out
                      have v0 := ext_cell u0 ult
                      have v1 := ext_cell u1 ult
                      have v2 := ext_cell u2 ult
                      have v3 := ext_cell u3 ult
                      have v4 := ext_cell u4 ult
                      have v5 := ext_cell u5 ult
                      have v6 := ext_cell u6 ult
                      have v7 := ext_cell u7 ult
                      have v8 := ext_cell u8 ult
                      have v9 := ext_cell u9 ult
                      have v10 := ext_cell u10 ult
                      have vz0 := ext_cell z0 zlt
                      have vd := ext_cell LAd (World.block_lt_of_cell? _ _ LAd)
                      have vs := ext_cell LAs (World.block_lt_of_cell? _ _ LAs)
                      go_wp2
                      refine wp_region_quiet_ext (by kernel_rfl) (by kernel_rfl) ?_
                      repeat (go_big_quiet_step ((go_at_call 16; exact Calls.ext_of (HFt.out _ (HOv.out.below (ext_below W' _))))))
                      refine wpQuiet_nil ?_
                      intro _ hw'
                      obtain ⟨nq, hw''⟩ := hw'
                      subst hw''
                      have hE := ext_below W' nq
                      generalize ext W' nq = w5 at *
                      obtain ⟨u0', u1', u2', u3', u4', u5', u6', u7', u8', u9', u10', ult'⟩ := HX11.out.below hE
                      have HM5 := Lib.hid (HMp.out.kept hE)
                      have HB5 := Lib.hid (HBA.out.trans (hE.mono HBA.out.size))
                      clear hE u0 u1 u2 u3 u4 u5 u6 u7 u8 u9 u10 ult v0 v1 v2 v3 v4 v5 v6 v7 v8 v9 v10 vz0 vd vs LAd LAs LD LS LO z0 z1 z2 z3 z4 z5 z6 z7 zlt LAo
                      go_wp2_with (at_mapUpdate; refine wpList_set_true rfl _ _ _ (.inl rfl) rfl rfl rfl HM5.out wf3 (by unfold maxLen; omega) ?_)
                      intro w6 hm6 hg6
                      have hb6 := HB5.out.grown hg6 HB5.out.size (fun q hq => by cases hq; exact Nat.le_refl _)
                      have HM6 : Hid (SetM w6 W.heap.size (j + 1 + 1) (putS S x.dst)) := hm6
                      have HB6 := Lib.hid hb6
                      clear hm6 hg6 hb6
                      go_wp2
                      go_roundw
                      case rel => exact ⟨j + 1, putS S x.dst, hlt, by go_num, by unfold Hid; rw [HStep.out, HRun.out]; show (if opOK k.sizes S x = true then some (putS S x.dst) else none) = _; rw [if_pos HOk.out], opOK_range HOk.out HRg.out, HM6.out, HB6.out⟩
                      case measure => simp [intOf]; omega
                    · rw [Bool.not_eq_true] at hft
                      rw [hft] at HFt
                      have HFv := Lib.hid (HF.out (HOp.out.trans hft))
                      clear hft
                      go_wp2_with fail
                      refine (HK.out _).mono ?_
                      rintro e w3 ⟨rfl, rfl⟩
                      generalize wr.alloc (.cells #[.int .i64 x.kind, .int .i64 x.dst, .int .i64 x.src, .int .i64 x.other, .int .i64 x.cols, .int .i64 x.inner, .slice o1 x.index.length d1, .slice o2 x.weights.length d2, .slice o3 x.bias.length d3, .int .i64 x.mul, .int .i64 x.shift] 40) = W' at *
                      obtain ⟨u0, u1, u2, u3, u4, u5, u6, u7, u8, u9, u10, ult⟩ := HX11.out
                      have v0 := ext_cell u0 ult
                      have v1 := ext_cell u1 ult
                      have v2 := ext_cell u2 ult
                      have v3 := ext_cell u3 ult
                      have v4 := ext_cell u4 ult
                      have v5 := ext_cell u5 ult
                      have v6 := ext_cell u6 ult
                      have v7 := ext_cell u7 ult
                      have v8 := ext_cell u8 ult
                      have v9 := ext_cell u9 ult
                      have v10 := ext_cell u10 ult
                      have vz0 := ext_cell z0 zlt
                      have vd := ext_cell LAd (World.block_lt_of_cell? _ _ LAd)
                      have vs := ext_cell LAs (World.block_lt_of_cell? _ _ LAs)
                      go_wp2
                      refine wp_region_quiet_ext (by kernel_rfl) (by kernel_rfl) ?_
                      repeat (go_big_quiet_step ((go_at_call 16; exact Calls.ext_of (HFt.out _ (HOv.out.below (ext_below W' _))))))
                      refine wpQuiet_nil ?_
                      intro _ hw'
                      obtain ⟨nq, hw''⟩ := hw'
                      subst hw''
                      have hE := ext_below W' nq
                      generalize ext W' nq = w5 at *
                      have HB5 := Lib.hid (HBA.out.trans (hE.mono HBA.out.size))
                      clear hE
                      go_wp2
                      go_ret
                      exact ⟨ret_bool HFv.out.symm, HB1.out.trans (HB5.out.mono HB1.out.size)⟩
                  · rw [Bool.not_eq_true] at hso
                    rw [hso] at LO
                    have HFv := Lib.hid (HF.out (by unfold opOK; rw [hso, decide_eq_true hk6]; simp))
                    clear hso hk6
                    go_wp2_with fail
                    refine (HK.out _).mono ?_
                    rintro e w3 ⟨rfl, rfl⟩
                    generalize wr.alloc (.cells #[.int .i64 x.kind, .int .i64 x.dst, .int .i64 x.src, .int .i64 x.other, .int .i64 x.cols, .int .i64 x.inner, .slice o1 x.index.length d1, .slice o2 x.weights.length d2, .slice o3 x.bias.length d3, .int .i64 x.mul, .int .i64 x.shift] 40) = W' at *
                    obtain ⟨u0, u1, u2, u3, u4, u5, u6, u7, u8, u9, u10, ult⟩ := HX11.out
                    go_wp2
                    go_ret
                    exact ⟨ret_bool HFv.out.symm, HB1.out.trans (HBA.out.mono HB1.out.size)⟩
                · have t6 : (x.kind == 6) = false := by rw [beq_eq_false_iff_ne]; exact hk6
                  have HOth : Hid (otherOf k.sizes x = 0) := if_neg hk6
                  have HK6 := Lib.hid hk6
                  clear hk6
                  have LAd := HIs.out.at_int (i := x.dst) (by omega) (by omega)
                  have LAs := HIs.out.at_int (i := x.src) ss1 ss2
                  have HSz : Hid (∀ y, 0 ≤ y → y < (k.sizes.length : Int) → 1 ≤ k.sizes.getD y.toNat 0 ∧ k.sizes.getD y.toNat 0 ≤ 262144) := sizes_range HS.out
                  have rd := HSz.out x.dst (by omega) (by omega)
                  have rs := HSz.out x.src ss1 ss2
                  have HFt := Lib.hid (fun (Wv : World) (hOv : OpV Wv (.agg #[.int .i64 x.kind, .int .i64 x.dst, .int .i64 x.src, .int .i64 x.other, .int .i64 x.cols, .int .i64 x.inner, .slice o1 x.index.length d1, .slice o2 x.weights.length d2, .slice o3 x.bias.length d3, .int .i64 x.mul, .int .i64 x.shift]) x) => kFits hOv (k.sizes.getD x.dst.toNat 0) (k.sizes.getD x.src.toNat 0) 0 rd.1 rd.2 rs.1 rs.2)
                  have HOp : Hid (opOK k.sizes S x = fitsL x (k.sizes.getD x.dst.toNat 0) (k.sizes.getD x.src.toNat 0) 0) := by
                    unfold Hid opOK
                    rw [HW.out, HSD.out, HSS.out, decide_eq_false HK6.out, HOth.out]; simp
                  clear rd rs
                  generalize hsd' : k.sizes.getD x.dst.toNat 0 = sd at *
                  generalize hss' : k.sizes.getD x.src.toNat 0 = ss at *
                  clear hsd' hss'
                  have hdz : ¬ x.dst < 0 := by omega
                  by_cases hft : fitsL x sd ss 0 = true
                  · rw [hft] at HFt
                    have HOk := Lib.hid (HOp.out.trans hft)
                    clear hft
                    go_wp2_with fail
                    refine (HK.out _).mono ?_
                    rintro e w3 ⟨rfl, rfl⟩
                    generalize wr.alloc (.cells #[.int .i64 x.kind, .int .i64 x.dst, .int .i64 x.src, .int .i64 x.other, .int .i64 x.cols, .int .i64 x.inner, .slice o1 x.index.length d1, .slice o2 x.weights.length d2, .slice o3 x.bias.length d3, .int .i64 x.mul, .int .i64 x.shift] 40) = W' at *
                    obtain ⟨u0, u1, u2, u3, u4, u5, u6, u7, u8, u9, u10, ult⟩ := HX11.out
                    have v0 := ext_cell u0 ult
                    have v1 := ext_cell u1 ult
                    have v2 := ext_cell u2 ult
                    have v3 := ext_cell u3 ult
                    have v4 := ext_cell u4 ult
                    have v5 := ext_cell u5 ult
                    have v6 := ext_cell u6 ult
                    have v7 := ext_cell u7 ult
                    have v8 := ext_cell u8 ult
                    have v9 := ext_cell u9 ult
                    have v10 := ext_cell u10 ult
                    have vz0 := ext_cell z0 zlt
                    have vd := ext_cell LAd (World.block_lt_of_cell? _ _ LAd)
                    have vs := ext_cell LAs (World.block_lt_of_cell? _ _ LAs)
                    go_wp2
                    refine wp_region_quiet_ext (by kernel_rfl) (by kernel_rfl) ?_
                    repeat (go_big_quiet_step ((go_at_call 16; exact Calls.ext_of (HFt.out _ (HOv.out.below (ext_below W' _))))))
                    refine wpQuiet_nil ?_
                    intro _ hw'
                    obtain ⟨nq, hw''⟩ := hw'
                    subst hw''
                    have hE := ext_below W' nq
                    generalize ext W' nq = w5 at *
                    obtain ⟨u0', u1', u2', u3', u4', u5', u6', u7', u8', u9', u10', ult'⟩ := HX11.out.below hE
                    have HM5 := Lib.hid (HMp.out.kept hE)
                    have HB5 := Lib.hid (HBA.out.trans (hE.mono HBA.out.size))
                    clear hE u0 u1 u2 u3 u4 u5 u6 u7 u8 u9 u10 ult v0 v1 v2 v3 v4 v5 v6 v7 v8 v9 v10 vz0 vd vs LAd LAs LD LS LO z0 z1 z2 z3 z4 z5 z6 z7 zlt
                    go_wp2_with (at_mapUpdate; refine wpList_set_true rfl _ _ _ (.inl rfl) rfl rfl rfl HM5.out wf3 (by unfold maxLen; omega) ?_)
                    intro w6 hm6 hg6
                    have hb6 := HB5.out.grown hg6 HB5.out.size (fun q hq => by cases hq; exact Nat.le_refl _)
                    have HM6 : Hid (SetM w6 W.heap.size (j + 1 + 1) (putS S x.dst)) := hm6
                    have HB6 := Lib.hid hb6
                    clear hm6 hg6 hb6
                    go_wp2
                    go_roundw
                    case rel => exact ⟨j + 1, putS S x.dst, hlt, by go_num, by unfold Hid; rw [HStep.out, HRun.out]; show (if opOK k.sizes S x = true then some (putS S x.dst) else none) = _; rw [if_pos HOk.out], opOK_range HOk.out HRg.out, HM6.out, HB6.out⟩
                    case measure => simp [intOf]; omega
                  · rw [Bool.not_eq_true] at hft
                    rw [hft] at HFt
                    have HFv := Lib.hid (HF.out (HOp.out.trans hft))
                    clear hft
                    go_wp2_with fail
                    refine (HK.out _).mono ?_
                    rintro e w3 ⟨rfl, rfl⟩
                    generalize wr.alloc (.cells #[.int .i64 x.kind, .int .i64 x.dst, .int .i64 x.src, .int .i64 x.other, .int .i64 x.cols, .int .i64 x.inner, .slice o1 x.index.length d1, .slice o2 x.weights.length d2, .slice o3 x.bias.length d3, .int .i64 x.mul, .int .i64 x.shift] 40) = W' at *
                    obtain ⟨u0, u1, u2, u3, u4, u5, u6, u7, u8, u9, u10, ult⟩ := HX11.out
                    have v0 := ext_cell u0 ult
                    have v1 := ext_cell u1 ult
                    have v2 := ext_cell u2 ult
                    have v3 := ext_cell u3 ult
                    have v4 := ext_cell u4 ult
                    have v5 := ext_cell u5 ult
                    have v6 := ext_cell u6 ult
                    have v7 := ext_cell u7 ult
                    have v8 := ext_cell u8 ult
                    have v9 := ext_cell u9 ult
                    have v10 := ext_cell u10 ult
                    have vz0 := ext_cell z0 zlt
                    have vd := ext_cell LAd (World.block_lt_of_cell? _ _ LAd)
                    have vs := ext_cell LAs (World.block_lt_of_cell? _ _ LAs)
                    go_wp2
                    refine wp_region_quiet_ext (by kernel_rfl) (by kernel_rfl) ?_
                    repeat (go_big_quiet_step ((go_at_call 16; exact Calls.ext_of (HFt.out _ (HOv.out.below (ext_below W' _))))))
                    refine wpQuiet_nil ?_
                    intro _ hw'
                    obtain ⟨nq, hw''⟩ := hw'
                    subst hw''
                    have hE := ext_below W' nq
                    generalize ext W' nq = w5 at *
                    have HB5 := Lib.hid (HBA.out.trans (hE.mono HBA.out.size))
                    clear hE
                    go_wp2
                    go_ret
                    exact ⟨ret_bool HFv.out.symm, HB1.out.trans (HB5.out.mono HB1.out.size)⟩
              · rw [Bool.not_eq_true] at hss
                rw [hss] at LS
                have HFv := Lib.hid (HF.out (by unfold opOK; rw [hss]; simp))
                clear hss hsd
                go_wp2_with fail
                refine (HK.out _).mono ?_
                rintro e w3 ⟨rfl, rfl⟩
                generalize wr.alloc (.cells #[.int .i64 x.kind, .int .i64 x.dst, .int .i64 x.src, .int .i64 x.other, .int .i64 x.cols, .int .i64 x.inner, .slice o1 x.index.length d1, .slice o2 x.weights.length d2, .slice o3 x.bias.length d3, .int .i64 x.mul, .int .i64 x.shift] 40) = W' at *
                obtain ⟨u0, u1, u2, u3, u4, u5, u6, u7, u8, u9, u10, ult⟩ := HX11.out
                go_wp2
                go_ret
                exact ⟨ret_bool HFv.out.symm, HB1.out.trans (HBA.out.mono HB1.out.size)⟩
          · rw [Bool.not_eq_true] at hw
            rw [hw] at HK
            have HFv := Lib.hid (HF.out (by unfold opOK; rw [hw]; rfl))
            clear hw
            go_wp2_with fail
            refine (HK.out _).mono ?_
            rintro e w3 ⟨rfl, rfl⟩
            generalize wr.alloc (.cells #[.int .i64 x.kind, .int .i64 x.dst, .int .i64 x.src, .int .i64 x.other, .int .i64 x.cols, .int .i64 x.inner, .slice o1 x.index.length d1, .slice o2 x.weights.length d2, .slice o3 x.bias.length d3, .int .i64 x.mul, .int .i64 x.shift] 40) = W' at *
            obtain ⟨u0, u1, u2, u3, u4, u5, u6, u7, u8, u9, u10, ult⟩ := HX11.out
            go_wp2
            go_ret
            exact ⟨ret_bool HFv.out.symm, HB1.out.trans (HBA.out.mono HB1.out.size)⟩
        · obtain rfl : j = k.ops.length := by omega
          have HAll : Hid (validK k = tailOK k S) := by
            have h := HRun.out
            rw [List.take_length] at h
            unfold Hid
            rw [HR.out, HS.out, h]; rfl
          have LK := HM.out.look HWF.out.out
          have HBd := Lib.hid hb
          have hsz : 0 < k.sizes.length := by omega
          have HK1 := Lib.hid (fun wv => kWithin k.inShift 0 62 wv)
          have HK2 := Lib.hid (fun wv => kWithin k.outShift 0 62 wv)
          clear hb hlt
          by_cases hso : S k.output = true
          · rw [hso] at LK
            obtain ⟨ho1, ho2⟩ := HRg.out _ hso
            have HBn := Lib.hid (kBounds (HKW.out.below HBd.out) hsz ho1 ho2 HWF.out.s1 HWF.out.s2 HWF.out.s3)
            by_cases w1 : wthn k.inShift 0 62 = true
            · rw [w1] at HK1
              by_cases w2 : wthn k.outShift 0 62 = true
              · rw [w2] at HK2
                have HT : Hid (tailOK k S = boundsL k) := by unfold Hid tailOK; rw [hso, w1, w2]; rfl
                clear hso w1 w2
                go_wp2_with fail
                refine (HK1.out _).mono ?_
                rintro e w3 ⟨rfl, rfl⟩
                go_wp2_with fail
                refine (HK2.out _).mono ?_
                rintro e w3 ⟨rfl, rfl⟩
                go_wp2_with fail
                refine HBn.out.mono ?_
                rintro e w3 ⟨rfl, hb3⟩
                go_wp2
                go_ret
                have hfin := HB1.out.trans (HBd.out.mono HB1.out.size)
                exact ⟨ret_bool (by rw [HAll.out, HT.out]), hfin.trans (hb3.mono hfin.size)⟩
              · rw [Bool.not_eq_true] at w2
                rw [w2] at HK2
                have HT : Hid (tailOK k S = false) := by unfold Hid tailOK; rw [hso, w1, w2]; rfl
                clear hso w1 w2
                go_wp2_with fail
                refine (HK1.out _).mono ?_
                rintro e w3 ⟨rfl, rfl⟩
                go_wp2_with fail
                refine (HK2.out _).mono ?_
                rintro e w3 ⟨rfl, rfl⟩
                go_wp2
                go_ret
                exact ⟨ret_bool (by rw [HAll.out, HT.out]), HB1.out.trans (HBd.out.mono HB1.out.size)⟩
            · rw [Bool.not_eq_true] at w1
              rw [w1] at HK1
              have HT : Hid (tailOK k S = false) := by unfold Hid tailOK; rw [hso, w1]; rfl
              clear hso w1
              go_wp2_with fail
              refine (HK1.out _).mono ?_
              rintro e w3 ⟨rfl, rfl⟩
              go_wp2
              go_ret
              exact ⟨ret_bool (by rw [HAll.out, HT.out]), HB1.out.trans (HBd.out.mono HB1.out.size)⟩
          · rw [Bool.not_eq_true] at hso
            rw [hso] at LK
            have HT : Hid (tailOK k S = false) := by unfold Hid tailOK; rw [hso]; rfl
            clear hso
            go_wp2
            go_ret
            exact ⟨ret_bool (by rw [HAll.out, HT.out]), HB1.out.trans (HBd.out.mono HB1.out.size)⟩

theorem kValid {w : World} {v : Value} {k : KerL} (hv : KerV w v k) (hwf : k.WF) : Calls Tryz.prog 11 #[v] w fun e w' => e = .returned (.bool (validK k)) ∧ Below w.heap.size w w' := by
  by_cases h : wthn k.sizes.length 1 1024 = true ∧ k.ops.length ≤ 1024
  · exact kValid_main hv hwf h.1 h.2
  · exact kValid_early hv h

end Go.Proofs.YthlmgejikbmmaaaGreat
