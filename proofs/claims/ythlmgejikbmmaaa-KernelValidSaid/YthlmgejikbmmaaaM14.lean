/-
  Contracts of the functions that the statements reach, in the order in which they are built: KerQ, KerR, KerS, KerT, KerU, KerV, KerW, Lit, KerY, KerLin.
-/
import Derived.Test.YthlmgejikbmmaaaM12
import Derived.Test.YthlmgejikbmmaaaM13
import Derived.Test.YthlmgejikbmmaaaM1
import Derived.Test.YthlmgejikbmmaaaM4
import Derived.StillTailTactics
set_option linter.unusedVariables false
set_option linter.unusedSimpArgs false
set_option linter.constructorNameAsVariable false
set_option linter.deprecated false

/-
  The machine's do at any valid operation : by contract.
-/
namespace Go.Proofs.Ythlmgejikbmmaaa
open Go.RowKit

/-- What an operation lays: D the old row, S the source, O the other. -/
def doL (o : OpL) (D S O : List Int) : List Int :=
  if o.kind = 1 then List.zipWith (fun x d => if 0 ≤ x then S.getD x.toNat 0 else d) o.index D
  else if o.kind = 2 then gemmL o.weights o.bias S o.inner.toNat o.cols.toNat D.length
  else if o.kind = 3 then S.map (fun x => max 0 x)
  else if o.kind = 4 then maxL S o.inner.toNat D.length
  else if o.kind = 5 then sumL S o.inner.toNat D
  else if o.kind = 6 then List.zipWith (fun a b => wrap64 (a + b)) S O
  else S.map (fun x => scaleL x o.mul o.shift.toNat)
def stepL (o : OpL) (vs : List (List Int)) : List (List Int) := vs.set o.dst.toNat (doL o (vs.getD o.dst.toNat []) (vs.getD o.src.toNat []) (vs.getD o.other.toNat []))

theorem DoRet.step {base : Nat} {wr w' : World} {M B cap : Nat} {gs : List Nat} {vs : List (List Int)} {h wd : Int} (m : Mach wr M B cap gs vs h wd) {dn gd : Nat} {D v : List Int} (d1 : gs[dn]? = some gd) (d2 : vs[dn]? = some D) (hl : v.length = D.length) (hge : ∀ g ∈ gs, base ≤ g) (hb : base ≤ wr.heap.size) (hr : DoRet wr gd v w') :
    Below base wr w' ∧ Mach w' M B cap gs (vs.set dn v) h wd := by
  obtain ⟨wc, hbw, ho, hi⟩ := hr
  exact ⟨(hbw.mono hb).trans (ho.below (hge gd (List.mem_of_getElem? d1))), (m.below hbw).turn d1 d2 hl ho hi⟩

/-- The rows are as long as their sizes say, and of 64 bits. -/
structure RowsOK (sizes : List Int) (vs : List (List Int)) : Prop where
  len : vs.length = sizes.length
  row : ∀ (i : Nat) (n : Int) (v : List Int), sizes[i]? = some n → vs[i]? = some v → (v.length : Int) = n
  wf : ∀ v ∈ vs, ∀ x ∈ v, I64 x
theorem RowsOK.pick {sizes : List Int} {vs : List (List Int)} (h : RowsOK sizes vs) {i : Nat} (hi : i < sizes.length) : ∃ v, vs[i]? = some v ∧ vs.getD i [] = v ∧ (v.length : Int) = sizes.getD i 0 ∧ ∀ x ∈ v, I64 x := by
  have hv : i < vs.length := by rw [h.len]; exact hi
  refine ⟨vs[i], List.getElem?_eq_getElem hv, by rw [List.getD_eq_getElem?_getD, List.getElem?_eq_getElem hv]; rfl, ?_, h.wf _ (List.getElem_mem hv)⟩
  exact h.row i _ _ (getD_at hi) (List.getElem?_eq_getElem hv)

/-- The tiles' sizes of a run. -/
def TileOK (h wd : Int) : Prop := (h = 0 ∧ wd = 0) ∨ (1 ≤ h ∧ 1 ≤ wd ∧ h ≤ 9223372036854775807 ∧ wd ≤ 9223372036854775807)

set_option maxHeartbeats 1600000 in
theorem stepOK {base : Nat} {o : OpL} {sizes : List Int} {S : Int → Bool} (hop : opOK sizes S o = true) (hS : ∀ y, S y = true → 0 ≤ y ∧ y < (sizes.length : Int)) {vs : List (List Int)} (hr : RowsOK sizes vs)
    (hz : sizes.all (fun n => wthn n 1 262144) = true) (hmu : I64 o.mul) {h wd : Int} (ht : TileOK h wd) : StepOK base o vs (stepL o vs) h wd := by
  intro wr M B cap gs v hb hov m hge
  obtain ⟨a1, a2, a3, c1, c2, c3, rfl, i1, i2, i3⟩ := hov.ex
  have hop0 := hop
  unfold opOK at hop
  simp only [Bool.and_eq_true, Bool.not_eq_true', Bool.or_eq_true] at hop
  obtain ⟨hd, hnd, hsr, hot, hf⟩ := hop
  have hd' := wthn_iff.1 hd
  have hs' := hS _ hsr
  have hne : o.dst ≠ o.src := fun e => by rw [e, hsr] at hnd; cases hnd
  have rd := sizes_range hz o.dst (by omega) (by omega)
  have rs := sizes_range hz o.src (by omega) (by omega)
  obtain ⟨D, d2, dD, dl, dw⟩ := hr.pick (i := o.dst.toNat) (by omega)
  obtain ⟨Sr, s2, sD, sl, sw⟩ := hr.pick (i := o.src.toNat) (by omega)
  have hgl := m.len
  have hrl := hr.len
  obtain ⟨gd, d1⟩ : ∃ g, gs[o.dst.toNat]? = some g := ⟨gs[o.dst.toNat]'(by omega), List.getElem?_eq_getElem (by omega)⟩
  obtain ⟨gc, s1⟩ : ∃ g, gs[o.src.toNat]? = some g := ⟨gs[o.src.toNat]'(by omega), List.getElem?_eq_getElem (by omega)⟩
  have hnn : o.dst.toNat ≠ o.src.toNat := by omega
  have ed : o.dst = ((o.dst.toNat : Nat) : Int) := by omega
  have es : o.src = ((o.src.toNat : Nat) : Int) := by omega
  have hF : ∀ b, (fun b => b < base) b → b ≠ gd := fun b hb' e => by have := hge gd (List.mem_of_getElem? d1); simp only at hb'; omega
  have hst : stepL o vs = vs.set o.dst.toNat (doL o D Sr (vs.getD o.other.toNat [])) := by unfold stepL; rw [dD, sD]
  rw [hst]
  have fin : ∀ {v : List Int} {e : Ending} {w' : World}, v.length = D.length → (∃ u, e = .returned u) ∧ DoRet wr gd v w' → (∃ u, e = .returned u) ∧ Below base wr w' ∧ Mach w' M B cap gs (vs.set o.dst.toNat v) h wd :=
    fun hl hh => ⟨hh.1, hh.2.step m d1 d2 hl hge hb⟩
  rw [ed, es]
  generalize sizes.getD o.dst.toNat 0 = nD at *
  generalize sizes.getD o.src.toNat 0 = nS at *
  have hDl : D.length ≤ 262144 := by omega
  have hSl : Sr.length ≤ 262144 := by omega
  unfold fitsL at hf
  by_cases k1 : o.kind = 1
  · rw [if_pos k1] at hf
    simp only [Bool.and_eq_true, decide_eq_true_eq] at hf
    obtain ⟨⟨_, _, _, _, _, _, _, hil⟩, hall⟩ := hf
    have hidx : ∀ x ∈ o.index, -1 ≤ x ∧ x < (Sr.length : Int) := fun x hx => by have := wthn_iff.1 (List.all_eq_true.1 hall x hx); omega
    rw [k1]
    have hc := doGather m d1 d2 s1 s2 hnn o.other o.cols o.inner o.mul o.shift a1 a2 a3 o.weights.length o.bias.length c1 c2 c3 hSl hDl (by omega) i1 hF hidx
    refine hc.mono ?_
    intro e w' hh
    have e1 : doL o D Sr (vs.getD o.other.toNat []) = List.zipWith (fun x d => if 0 ≤ x then Sr.getD x.toNat 0 else d) o.index D := by unfold doL; rw [if_pos k1]
    rw [e1]
    exact fin (by simp; omega) hh
  · rw [if_neg k1] at hf
    by_cases k2 : o.kind = 2
    · rw [if_pos k2] at hf
      simp only [decide_eq_true_eq] at hf
      obtain ⟨_, _, _, _, q1, q2, q3, q4, q5, q6, q7, q8⟩ := hf
      rw [k2]
      have e1 : doL o D Sr (vs.getD o.other.toNat []) = gemmL o.weights o.bias Sr o.inner.toNat o.cols.toNat D.length := by unfold doL; rw [if_neg k1, if_pos k2]
      rw [e1]
      obtain ⟨cn, hcn⟩ : ∃ n : Nat, o.cols = n := ⟨o.cols.toNat, by omega⟩
      obtain ⟨inn, hin⟩ : ∃ n : Nat, o.inner = n := ⟨o.inner.toNat, by omega⟩
      rw [hcn] at q1 q2 q5 q6 q7 ⊢
      rw [hin] at q3 q4 q5 q8 ⊢
      simp only [Int.toNat_natCast]
      have hdm : nD = nD / (cn : Int) * cn := by have := Int.mul_ediv_add_emod nD cn; rw [q6, Int.add_zero, Int.mul_comm] at this; exact this.symm
      have hDB : D.length = o.bias.length * cn := by
        have : (D.length : Int) = ((o.bias.length * cn : Nat) : Int) := by rw [dl, hdm, ← q7]; simp
        exact_mod_cast this
      have hSB : Sr.length = inn * cn := by
        have : (Sr.length : Int) = ((inn * cn : Nat) : Int) := by rw [sl, q5]; simp
        exact_mod_cast this
      have hWB : o.weights.length = o.bias.length * inn := by exact_mod_cast q8
      have hb1 : 1 ≤ o.bias.length := by
        rcases Nat.eq_zero_or_pos o.bias.length with h0 | h0
        · rw [h0, Nat.zero_mul] at hDB; omega
        · exact h0
      have hb2 : o.bias.length ≤ 262144 := by
        have := Nat.mul_le_mul_left o.bias.length (show 1 ≤ cn by omega)
        rw [Nat.mul_one, ← hDB] at this
        omega
      obtain ⟨th, tw, hm, t1, t2⟩ : ∃ th tw : Nat, ((h = 0 ∧ th = o.bias.length ∧ tw = cn) ∨ (h = th ∧ wd = tw)) ∧ (1 ≤ th ∧ 1 ≤ tw) ∧ (th ≤ 9223372036854775807 ∧ tw ≤ 9223372036854775807) := by
        rcases ht with ⟨h0, w0⟩ | ⟨p1, p2, p3, p4⟩
        · exact ⟨o.bias.length, cn, .inl ⟨h0, rfl, rfl⟩, ⟨hb1, by omega⟩, by omega, by omega⟩
        · exact ⟨h.toNat, wd.toNat, .inr ⟨by omega, by omega⟩, ⟨by omega, by omega⟩, by omega, by omega⟩
      have hc := doGemm m d1 d2 s1 s2 hnn o.other o.mul o.shift a1 a2 a3 o.index.length c1 c2 c3 i2 i3 hF cn inn hb1 (by omega) hDB hSB hWB ⟨hb2, by omega, by omega⟩ th tw hm t1 t2
      exact hc.mono fun e w' hh => fin (by simp [gemmL]) hh
    · rw [if_neg k2] at hf
      by_cases k3 : o.kind = 3
      · rw [if_pos k3] at hf
        simp only [decide_eq_true_eq] at hf
        obtain ⟨_, _, _, _, _, _, _, _, hmn⟩ := hf
        rw [k3]
        have e1 : doL o D Sr (vs.getD o.other.toNat []) = Sr.map (fun x => max 0 x) := by unfold doL; rw [if_neg k1, if_neg k2, if_pos k3]
        rw [e1]
        have hc := doRelu m d1 d2 s1 s2 hnn o.other o.cols o.inner o.mul o.shift a1 a2 a3 o.index.length o.weights.length o.bias.length c1 c2 c3 (by omega) hSl hDl
        exact hc.mono fun e w' hh => fin (by simp; omega) hh
      · rw [if_neg k3] at hf
        by_cases k45 : o.kind = 4 ∨ o.kind = 5
        · rw [if_pos k45] at hf
          simp only [decide_eq_true_eq] at hf
          obtain ⟨_, _, _, _, _, _, _, hi1, hi2, hmn⟩ := hf
          obtain ⟨inn, hin⟩ : ∃ n : Nat, o.inner = n := ⟨o.inner.toNat, by omega⟩
          have hSB : Sr.length = D.length * inn := by
            have : (Sr.length : Int) = ((D.length * inn : Nat) : Int) := by rw [sl, hmn, hin, ← dl]; simp
            exact_mod_cast this
          rw [hin] at hi1 hi2 ⊢
          rcases k45 with k4 | k5
          · rw [k4]
            have e1 : doL o D Sr (vs.getD o.other.toNat []) = maxL Sr inn D.length := by unfold doL; rw [if_neg k1, if_neg k2, if_neg k3, if_pos k4, hin, Int.toNat_natCast]
            rw [e1]
            have hc := doMax m d1 d2 s1 s2 hnn o.other o.cols o.mul o.shift inn a1 a2 a3 o.index.length o.weights.length o.bias.length c1 c2 c3 hSB (by omega) (by omega) hSl hDl
            exact hc.mono fun e w' hh => fin (by simp [maxL]) hh
          · rw [k5]
            have e1 : doL o D Sr (vs.getD o.other.toNat []) = sumL Sr inn D := by unfold doL; rw [if_neg k1, if_neg k2, if_neg k3, if_neg (by omega), if_pos k5, hin, Int.toNat_natCast]
            rw [e1]
            have hc := doSum m d1 d2 s1 s2 hnn o.other o.cols o.mul o.shift inn a1 a2 a3 o.index.length o.weights.length o.bias.length c1 c2 c3 hSB (by omega) (by omega) hSl hDl
            exact hc.mono fun e w' hh => fin (by simp [sumL]) hh
        rw [if_neg k45] at hf
        have k4 : o.kind ≠ 4 := fun e => k45 (.inl e)
        have k5 : o.kind ≠ 5 := fun e => k45 (.inr e)
        by_cases k6 : o.kind = 6
        · rw [if_pos k6] at hf
          simp only [decide_eq_true_eq] at hf
          obtain ⟨_, _, _, _, _, _, _, hmn, htn⟩ := hf
          rw [k6]
          have e1 : doL o D Sr (vs.getD o.other.toNat []) = List.zipWith (fun a b => wrap64 (a + b)) Sr (vs.getD o.other.toNat []) := by unfold doL; rw [if_neg k1, if_neg k2, if_neg k3, if_neg k4, if_neg k5, if_pos k6]
          rw [e1]
          have hso : S o.other = true := by
            rcases hot with h0 | h0
            · simp [k6] at h0
            · exact h0
          have ho' := hS _ hso
          have hneo : o.dst ≠ o.other := fun e => by rw [e, hso] at hnd; cases hnd
          obtain ⟨O, o2, oD, ol, ow⟩ := hr.pick (i := o.other.toNat) (by omega)
          obtain ⟨go, o1⟩ : ∃ g, gs[o.other.toNat]? = some g := ⟨gs[o.other.toNat]'(by omega), List.getElem?_eq_getElem (by omega)⟩
          have eo : o.other = ((o.other.toNat : Nat) : Int) := by omega
          unfold otherOf at htn
          rw [if_pos k6] at htn
          rw [oD, eo]
          have hc := doAdd m d1 d2 s1 s2 hnn o.cols o.inner o.mul o.shift a1 a2 a3 o.index.length o.weights.length o.bias.length c1 c2 c3 (by omega) hSl hDl o1 o2 (by omega) (by omega)
          exact hc.mono fun e w' hh => fin (by simp; omega) hh
        · rw [if_neg k6] at hf
          by_cases k7 : o.kind = 7
          · rw [if_pos k7] at hf
            simp only [decide_eq_true_eq] at hf
            obtain ⟨_, _, _, _, _, _, hmn, hh0, hh1⟩ := hf
            rw [k7]
            have e1 : doL o D Sr (vs.getD o.other.toNat []) = Sr.map (fun x => scaleL x o.mul o.shift.toNat) := by unfold doL; rw [if_neg k1, if_neg k2, if_neg k3, if_neg k4, if_neg k5, if_neg k6]
            rw [e1]
            have hc := doScale m d1 d2 s1 s2 hnn o.other o.cols o.inner o.mul a1 a2 a3 o.index.length o.weights.length o.bias.length c1 c2 c3 (by omega) hSl hDl o.shift.toNat (by omega) hmu sw
            rw [show ((o.shift.toNat : Nat) : Int) = o.shift by omega] at hc
            exact hc.mono fun e w' hh => fin (by simp; omega) hh
          · rw [if_neg k7] at hf
            cases hf

end Go.Proofs.Ythlmgejikbmmaaa

/-
  kernel.Buffers, kernel.Run: by contract.
-/
namespace Go.Proofs.Ythlmgejikbmmaaa
open Go.RowKit

/-- The buffers after j operations. -/
def runL (k : KerL) (inp : List Int) (j : Nat) : List (List Int) := (k.ops.take j).foldl (fun vs o => stepL o vs) ((k.sizes.map fun n => List.replicate n.toNat (0 : Int)).set 0 inp)
theorem runL_succ {k : KerL} {inp : List Int} {j : Nat} {o : OpL} (h : k.ops[j]? = some o) : runL k inp (j + 1) = stepL o (runL k inp j) := by
  unfold runL
  rw [take_succ_at h, List.foldl_append]
  rfl
theorem wrap64_I64 (x : Int) : I64 (wrap64 x) := by unfold I64 wrap64; omega
theorem getD_I64 {l : List Int} (h : ∀ x ∈ l, I64 x) (i : Nat) : I64 (l.getD i 0) := by
  by_cases hi : i < l.length
  · exact h _ (List.mem_of_getElem? (getD_at hi))
  · rw [List.getD_eq_getElem?_getD, List.getElem?_eq_none (by omega)]; unfold I64; simp
theorem scaleL_I64 (a m : Int) (s : Nat) : I64 (scaleL a m s) := by
  have h : ∀ y : Int, I64 (clamp32 y) := fun y => by unfold clamp32 I64; omega
  exact h _
theorem mxAt_I64 {S : List Int} (h : ∀ x ∈ S, I64 x) (b : Nat) : ∀ j, I64 (mxAt S b j) := by
  intro j
  induction j with
  | zero => exact getD_I64 h b
  | succ j ih =>
    have h2 := getD_I64 h (b + j)
    unfold mxAt
    unfold I64 at *
    omega
theorem smAt_I64 {S : List Int} {b : Nat} {d : Int} {k : Nat} (hk : 1 ≤ k) : I64 (smAt S b d k) := by
  obtain ⟨k, rfl⟩ : ∃ k', k = k' + 1 := ⟨k - 1, by omega⟩
  exact wrap64_I64 _
theorem gsum_I64 {Wt S : List Int} {b : Int} {inner cols r c k : Nat} (hk : 1 ≤ k) : I64 (gsum Wt S b inner cols r c k) := by
  obtain ⟨k, rfl⟩ : ∃ k', k = k' + 1 := ⟨k - 1, by omega⟩
  exact wrap64_I64 _

theorem doL_ok {o : OpL} {sizes : List Int} {S : Int → Bool} (hop : opOK sizes S o = true) {D Sr O : List Int} (hd : (D.length : Int) = sizes.getD o.dst.toNat 0) (hs : (Sr.length : Int) = sizes.getD o.src.toNat 0) (ho : o.kind = 6 → (O.length : Int) = sizes.getD o.other.toNat 0)
    (wd : ∀ x ∈ D, I64 x) (ws : ∀ x ∈ Sr, I64 x) : (doL o D Sr O).length = D.length ∧ ∀ x ∈ doL o D Sr O, I64 x := by
  unfold opOK at hop
  simp only [Bool.and_eq_true] at hop
  obtain ⟨_, _, _, _, hf⟩ := hop
  unfold fitsL at hf
  unfold doL
  by_cases k1 : o.kind = 1
  · rw [if_pos k1] at hf ⊢
    simp only [Bool.and_eq_true, decide_eq_true_eq] at hf
    refine ⟨by simp; omega, ?_⟩
    intro x hx
    obtain ⟨i, hi⟩ := List.getElem?_of_mem hx
    rw [List.getElem?_zipWith] at hi
    cases h1 : o.index[i]? with
    | none => simp [h1] at hi
    | some a =>
      cases h2 : D[i]? with
      | none => simp [h1, h2] at hi
      | some d =>
        simp only [h1, h2, Option.some.injEq] at hi
        subst hi
        split
        · exact getD_I64 ws _
        · exact wd _ (List.mem_of_getElem? h2)
  · rw [if_neg k1] at hf ⊢
    by_cases k2 : o.kind = 2
    · rw [if_pos k2] at hf ⊢
      simp only [decide_eq_true_eq] at hf
      refine ⟨by simp [gemmL], ?_⟩
      intro x hx
      unfold gemmL at hx
      obtain ⟨q, _, rfl⟩ := List.mem_map.1 hx
      exact gsum_I64 (by omega)
    · rw [if_neg k2] at hf ⊢
      by_cases k3 : o.kind = 3
      · rw [if_pos k3] at hf ⊢
        simp only [decide_eq_true_eq] at hf
        refine ⟨by simp; omega, ?_⟩
        intro x hx
        obtain ⟨y, hy, rfl⟩ := List.mem_map.1 hx
        have := ws y hy
        unfold I64 at this ⊢
        omega
      · rw [if_neg k3] at hf
        rw [if_neg k3]
        by_cases k45 : o.kind = 4 ∨ o.kind = 5
        · rw [if_pos k45] at hf
          simp only [decide_eq_true_eq] at hf
          rcases k45 with k4 | k5
          · rw [if_pos k4]
            refine ⟨by simp [maxL], ?_⟩
            intro x hx
            unfold maxL at hx
            obtain ⟨q, _, rfl⟩ := List.mem_map.1 hx
            exact mxAt_I64 ws _ _
          · rw [if_neg (by omega), if_pos k5]
            refine ⟨by simp [sumL], ?_⟩
            intro x hx
            unfold sumL at hx
            obtain ⟨q, _, rfl⟩ := List.mem_map.1 hx
            exact smAt_I64 (by omega)
        rw [if_neg k45] at hf
        rw [if_neg (fun e => k45 (.inl e)), if_neg (fun e => k45 (.inr e))]
        by_cases k6 : o.kind = 6
        · rw [if_pos k6] at hf ⊢
          simp only [decide_eq_true_eq] at hf
          have h6 := ho k6
          unfold otherOf at hf
          rw [if_pos k6] at hf
          refine ⟨by simp; omega, ?_⟩
          intro x hx
          obtain ⟨i, hi⟩ := List.getElem?_of_mem hx
          rw [List.getElem?_zipWith] at hi
          cases h1 : Sr[i]? with
          | none => simp [h1] at hi
          | some a =>
            cases h2 : O[i]? with
            | none => simp [h1, h2] at hi
            | some d =>
              simp only [h1, h2, Option.some.injEq] at hi
              subst hi
              exact wrap64_I64 _
        · rw [if_neg k6] at hf ⊢
          by_cases k7 : o.kind = 7
          · rw [if_pos k7] at hf
            simp only [decide_eq_true_eq] at hf
            refine ⟨by simp; omega, ?_⟩
            intro x hx
            obtain ⟨y, _, rfl⟩ := List.mem_map.1 hx
            exact scaleL_I64 _ _ _
          · rw [if_neg k7] at hf; cases hf

theorem stepL_rows {o : OpL} {sizes : List Int} {S : Int → Bool} (hop : opOK sizes S o = true) (hS : ∀ y, S y = true → 0 ≤ y ∧ y < (sizes.length : Int)) {vs : List (List Int)} (hr : RowsOK sizes vs) : RowsOK sizes (stepL o vs) := by
  have hop0 := hop
  unfold opOK at hop
  simp only [Bool.and_eq_true, Bool.not_eq_true', Bool.or_eq_true] at hop
  obtain ⟨hd, _, hsr, hot, _⟩ := hop
  have hd' := wthn_iff.1 hd
  have hs' := hS _ hsr
  obtain ⟨D, d2, dD, dl, dw⟩ := hr.pick (i := o.dst.toNat) (by omega)
  obtain ⟨Sr, s2, sD, sl, sw⟩ := hr.pick (i := o.src.toNat) (by omega)
  have ho : o.kind = 6 → ((vs.getD o.other.toNat []).length : Int) = sizes.getD o.other.toNat 0 := by
    intro k6
    have hso : S o.other = true := by
      rcases hot with h0 | h0
      · simp [k6] at h0
      · exact h0
    have ho' := hS _ hso
    obtain ⟨O, _, oD, ol, _⟩ := hr.pick (i := o.other.toNat) (by omega)
    rw [oD]; exact ol
  obtain ⟨hl, hw⟩ := doL_ok (O := vs.getD o.other.toNat []) hop0 dl sl ho dw sw
  have hst : stepL o vs = vs.set o.dst.toNat (doL o D Sr (vs.getD o.other.toNat [])) := by unfold stepL; rw [dD, sD]
  rw [hst]
  have hdv : o.dst.toNat < vs.length := (List.getElem?_eq_some_iff.1 d2).1
  refine ⟨by simp [hr.len], ?_, ?_⟩
  · intro i n v hn hv
    by_cases he : o.dst.toNat = i
    · subst he
      rw [List.getElem?_set_self hdv] at hv
      cases hv
      rw [hl]
      exact hr.row _ n D hn d2
    · rw [List.getElem?_set_ne he] at hv
      exact hr.row i n v hn hv
  · intro v hv
    rcases List.mem_or_eq_of_mem_set hv with h1 | h1
    · exact hr.wf v h1
    · rw [h1]; exact hw

/-- All the operations of a valid kernel can be done. -/
theorem run_inv {k : KerL} (hz : k.sizes.all (fun n => wthn n 1 262144) = true) (hs : 0 < k.sizes.length) {T : Int → Bool} (hT : opsRun k.sizes k.ops = some T) {inp : List Int} (hi : (inp.length : Int) = k.sizes.getD 0 0) (hw : ∀ x ∈ inp, I64 x) :
    ∀ j, j ≤ k.ops.length → ∃ S, opsRun k.sizes (k.ops.take j) = some S ∧ (∀ y, S y = true → 0 ≤ y ∧ y < (k.sizes.length : Int)) ∧ RowsOK k.sizes (runL k inp j) ∧ ∀ o, k.ops[j]? = some o → opOK k.sizes S o = true := by
  have hok : ∀ j S, opsRun k.sizes (k.ops.take j) = some S → ∀ o, k.ops[j]? = some o → opOK k.sizes S o = true := by
    intro j S h o ho
    by_cases hc : opOK k.sizes S o = true
    · exact hc
    · have h2 : opsRun k.sizes (k.ops.take (j + 1)) = none := by
        rw [opsRun_succ ho, h]
        show (if opOK k.sizes S o = true then some (putS S o.dst) else none) = none
        rw [if_neg hc]
      rw [opsRun_fail h2] at hT
      cases hT
  intro j
  induction j with
  | zero =>
    intro _
    refine ⟨putS (fun _ => false) 0, rfl, ?_, ?_, hok 0 _ rfl⟩
    · intro y hy
      simp [putS] at hy
      omega
    · unfold runL
      simp only [List.take_zero, List.foldl_nil]
      refine ⟨by simp, ?_, ?_⟩
      · intro i n v hn hv
        by_cases he : 0 = i
        · subst he
          rw [List.getElem?_set_self (by simp; omega)] at hv
          cases hv
          rw [hi, List.getD_eq_getElem?_getD, hn]; rfl
        · rw [List.getElem?_set_ne he, List.getElem?_map, hn] at hv
          simp at hv
          subst hv
          have := wthn_iff.1 (List.all_eq_true.1 hz n (List.mem_of_getElem? hn))
          simp; omega
      · intro v hv
        rcases List.mem_or_eq_of_mem_set hv with h1 | h1
        · obtain ⟨n, _, rfl⟩ := List.mem_map.1 h1
          intro x hx
          rw [List.eq_of_mem_replicate hx]; unfold I64; omega
        · rw [h1]; exact hw
  | succ j ih =>
    intro hj
    obtain ⟨S, h1, h2, h3, h4⟩ := ih (by omega)
    have ho : k.ops[j]? = some k.ops[j] := List.getElem?_eq_getElem (by omega)
    have h5 := h4 _ ho
    have h6 : opsRun k.sizes (k.ops.take (j + 1)) = some (putS S k.ops[j].dst) := by
      rw [opsRun_succ ho, h1]
      show (if opOK k.sizes S _ = true then some (putS S _) else none) = _
      rw [if_pos h5]
    refine ⟨_, h6, opOK_range h5 h2, ?_, hok _ _ h6⟩
    rw [runL_succ ho]
    exact stepL_rows h5 h2 h3

end Go.Proofs.Ythlmgejikbmmaaa

/-
  kernel.Buffers, kernel.Run: by contract.
-/
namespace Go.Proofs.Ythlmgejikbmmaaa
open Go.RowKit

theorem validK_parts {k : KerL} (h : validK k = true) : wthn k.sizes.length 1 1024 = true ∧ k.ops.length ≤ 1024 ∧ k.sizes.all (fun n => wthn n 1 262144) = true ∧ ∃ S, opsRun k.sizes k.ops = some S ∧ tailOK k S = true := by
  unfold validK at h
  simp only [Bool.and_eq_true, decide_eq_true_eq] at h
  obtain ⟨h1, h2, h3, h4⟩ := h
  refine ⟨h1, h2, h3, ?_⟩
  cases hq : opsRun k.sizes k.ops with
  | none => rw [hq] at h4; cases h4
  | some S => rw [hq] at h4; exact ⟨S, rfl, h4⟩
theorem runSteps {k : KerL} (hval : validK k = true) (hwf : k.WF) {inp : List Int} (hw : ∀ x ∈ inp, I64 x) {h wd : Int} (ht : TileOK h wd) (base : Nat) (hi : (inp.length : Int) = k.sizes.getD 0 0) :
    ∀ j o, k.ops[j]? = some o → StepOK base o (runL k inp j) (runL k inp (j + 1)) h wd := by
  intro j o ho
  obtain ⟨h1, h2, h3, S, h4, _⟩ := validK_parts hval
  have hs := wthn_iff.1 h1
  have hlt := (List.getElem?_eq_some_iff.1 ho).1
  have hm := List.mem_of_getElem? ho
  obtain ⟨S', _, g2, g3, g4⟩ := run_inv h3 (by omega) h4 hi hw j (by omega)
  rw [runL_succ ho]
  exact stepOK (g4 o ho) g2 g3 h3 (hwf.ops o hm).2.2.2 ht

theorem RunPost.from {w w1 w' : World} {k : KerL} {inp : List Int} {vs : List (List Int)} {h wd : Int} {e : Ending} (hb : Below w.heap.size w w1) (hp : RunPost w1 k inp vs h wd e w') : RunPost w k inp vs h wd e w' := by
  rcases hp with ⟨h1, h2, h3⟩ | ⟨h1, h2, h3⟩
  · exact .inl ⟨h1, hb.trans (h2.mono hb.size), h3⟩
  · exact .inr ⟨h1, hb.trans (h2.mono hb.size), h3⟩

/-- What Buffers leaves. -/
def BufPost (w : World) (k : KerL) (inp : List Int) (e : Ending) (w' : World) : Prop :=
  (validK k = true ∧ RunPost w k inp (runL k inp k.ops.length) 0 0 e w') ∨ (validK k = false ∧ Below w.heap.size w w' ∧ e = .returned (.tuple #[.slice none 0 0, .int .i64 1]))

set_option maxRecDepth 100000 in
set_option maxHeartbeats 3200000 in
theorem kBuffers {w : World} {v : Value} {k : KerL} (hv : KerV w v k) (hwf : k.WF) {inp : List Int} {ai : Option Addr} {ci : Nat} (hin : Ints w Any ai inp) :
    Calls Try.prog 40 #[v, .slice ai inp.length ci] w (BufPost w k inp) := by
  have HKV := Lib.hid hv
  obtain ⟨a1, a2, a3, a4, a5, c1, c2, c3, c4, c5, rfl, _⟩ := hv.ex
  have HIN := Lib.hid hin
  have HWF := Lib.hid hwf
  clear hv hin hwf
  go_enter Try.func40, Try.ntmps40
  go_upto_region 1 with fail
  have hbx := Box8.alloc w (.slice a1 k.sizes.length c1) (.slice a2 k.ops.length c2) (.int .i64 k.output) (.int .i64 k.inShift) (.int .i64 k.outShift) (.slice a3 k.lo.length c3) (.slice a4 k.hi.length c4) (.slice a5 k.err.length c5) 45
  have hb1 : Below w.heap.size w (w.alloc (.cells #[.slice a1 k.sizes.length c1, .slice a2 k.ops.length c2, .int .i64 k.output, .int .i64 k.inShift, .int .i64 k.outShift, .slice a3 k.lo.length c3, .slice a4 k.hi.length c4, .slice a5 k.err.length c5] 45)) := (Below.refl _ w).alloc (Nat.le_refl _) _
  generalize w.alloc (.cells #[.slice a1 k.sizes.length c1, .slice a2 k.ops.length c2, .int .i64 k.output, .int .i64 k.inShift, .int .i64 k.outShift, .slice a3 k.lo.length c3, .slice a4 k.hi.length c4, .slice a5 k.err.length c5] 45) = W at *
  have HBx := Lib.hid hbx
  have HB1 := Lib.hid hb1
  obtain ⟨x0, x1, x2, x3, x4, x5, x6, x7, xlt⟩ := hbx
  clear hb1
  go_wp2_with fail
  refine (kValid (HKV.out.below HB1.out) HWF.out).mono ?_
  rintro e w2 ⟨rfl, hb2⟩
  have HB2 := Lib.hid (HB1.out.trans (hb2.mono HB1.out.size))
  obtain ⟨y0, y1, y2, y3, y4, y5, y6, y7, ylt⟩ := HBx.out.below hb2
  clear hb2 x0 x1 x2 x3 x4 x5 x6 x7 xlt
  cases hq : validK k with
  | false =>
    have HQ := Lib.hid hq
    clear hq
    go_wp2
    go_ret2
    exact .inr ⟨HQ.out, HB2.out, rfl⟩
  | true =>
    have HQ := Lib.hid hq
    clear hq
    go_wp2_with fail
    obtain ⟨q1, q2, q3, _⟩ := validK_parts HQ.out
    refine (kRun (HKV.out.below HB2.out) (HIN.out.below HB2.out) q1 q3 0 0 q2 (runL k inp) rfl (runSteps HQ.out HWF.out HIN.out.wf (.inl ⟨rfl, rfl⟩) _)).mono ?_
    intro e w3 hp
    have hp' := hp.from HB2.out
    rcases hp' with ⟨h1, h2, M, B, cap, gs, rfl, h3⟩ | ⟨h1, h2, rfl⟩
    · have H3 := Lib.hid h3
      have H2 := Lib.hid h2
      have H1 := Lib.hid h1
      clear h1 h2 h3 hp
      go_wp2
      go_ret2
      exact .inl ⟨HQ.out, .inl ⟨H1.out, H2.out, M, B, cap, gs, rfl, H3.out⟩⟩
    · have H2 := Lib.hid h2
      have H1 := Lib.hid h1
      clear h1 h2 hp
      go_wp2
      go_ret2
      exact .inl ⟨HQ.out, .inr ⟨H1.out, H2.out, rfl⟩⟩

end Go.Proofs.Ythlmgejikbmmaaa

/-
  kernel.Run: by contract.
-/
namespace Go.Proofs.Ythlmgejikbmmaaa
open Go.RowKit

/-- What Run returns. -/
def outL (k : KerL) (inp : List Int) : List Int := (runL k inp k.ops.length).getD k.output.toNat []
def OutPost (w : World) (k : KerL) (inp : List Int) (e : Ending) (w' : World) : Prop :=
  (validK k = true ∧ (inp.length : Int) = k.sizes.getD 0 0 ∧ Below w.heap.size w w' ∧ ∃ a c, e = .returned (.tuple #[.slice a (outL k inp).length c, .int .i64 0]) ∧ Ints w' Any a (outL k inp)) ∨
  (validK k = true ∧ ¬ (inp.length : Int) = k.sizes.getD 0 0 ∧ Below w.heap.size w w' ∧ e = .returned (.tuple #[.slice none 0 0, .int .i64 11])) ∨
  (validK k = false ∧ Below w.heap.size w w' ∧ e = .returned (.tuple #[.slice none 0 0, .int .i64 1]))

theorem out_parts {k : KerL} (hval : validK k = true) {inp : List Int} (hw : ∀ x ∈ inp, I64 x) (hi : (inp.length : Int) = k.sizes.getD 0 0) :
    0 ≤ k.output ∧ k.output < (k.sizes.length : Int) ∧ RowsOK k.sizes (runL k inp k.ops.length) ∧ k.sizes.length ≤ 1024 ∧ k.sizes.all (fun n => wthn n 1 262144) = true := by
  obtain ⟨h1, h2, h3, S, h4, h5⟩ := validK_parts hval
  have hs := wthn_iff.1 h1
  obtain ⟨S', g1, g2, g3, _⟩ := run_inv h3 (by omega) h4 hi hw k.ops.length (Nat.le_refl _)
  rw [List.take_length, h4] at g1
  cases g1
  unfold tailOK at h5
  rw [Bool.and_eq_true] at h5
  have := g2 _ h5.1
  exact ⟨this.1, this.2, g3, by omega, h3⟩

set_option maxRecDepth 100000 in
set_option maxHeartbeats 3200000 in
theorem kOut {w : World} {v : Value} {k : KerL} (hv : KerV w v k) (hwf : k.WF) {inp : List Int} {ai : Option Addr} {ci : Nat} (hin : Ints w Any ai inp) :
    Calls Try.prog 27 #[v, .slice ai inp.length ci] w (OutPost w k inp) := by
  have HKV := Lib.hid hv
  obtain ⟨a1, a2, a3, a4, a5, c1, c2, c3, c4, c5, rfl, _⟩ := hv.ex
  have HIN := Lib.hid hin
  have HWF := Lib.hid hwf
  clear hv hin hwf
  go_enter Try.func27, Try.ntmps27
  go_upto_region 1 with fail
  have hbx := Box8.alloc w (.slice a1 k.sizes.length c1) (.slice a2 k.ops.length c2) (.int .i64 k.output) (.int .i64 k.inShift) (.int .i64 k.outShift) (.slice a3 k.lo.length c3) (.slice a4 k.hi.length c4) (.slice a5 k.err.length c5) 45
  have hb1 : Below w.heap.size w (w.alloc (.cells #[.slice a1 k.sizes.length c1, .slice a2 k.ops.length c2, .int .i64 k.output, .int .i64 k.inShift, .int .i64 k.outShift, .slice a3 k.lo.length c3, .slice a4 k.hi.length c4, .slice a5 k.err.length c5] 45)) := (Below.refl _ w).alloc (Nat.le_refl _) _
  generalize w.alloc (.cells #[.slice a1 k.sizes.length c1, .slice a2 k.ops.length c2, .int .i64 k.output, .int .i64 k.inShift, .int .i64 k.outShift, .slice a3 k.lo.length c3, .slice a4 k.hi.length c4, .slice a5 k.err.length c5] 45) = W at *
  have HBx := Lib.hid hbx
  have HB1 := Lib.hid hb1
  obtain ⟨x0, x1, x2, x3, x4, x5, x6, x7, xlt⟩ := hbx
  clear hb1
  go_wp2_with fail
  refine (kBuffers (HKV.out.below HB1.out) HWF.out (HIN.out.below HB1.out)).mono ?_
  intro e w2 hp
  clear x0 x1 x2 x3 x4 x5 x6 x7 xlt
  rcases hp with ⟨h0, ⟨h1, h2, M, B, cap, gs, rfl, h3, h4⟩ | ⟨h1, h2, rfl⟩⟩ | ⟨h0, h2, rfl⟩
  · obtain ⟨p1, p2, p3, p4, p5⟩ := out_parts h0 HIN.out.wf h1
    obtain ⟨on, hon⟩ : ∃ n : Nat, k.output = n := ⟨k.output.toNat, by omega⟩
    obtain ⟨l, o2, oD, ol, ow⟩ := p3.pick (i := on) (by omega)
    have HL : Hid (outL k inp = l) := by unfold Hid outL; rw [hon, Int.toNat_natCast]; exact oD
    obtain ⟨g, o1⟩ : ∃ g, gs[on]? = some g := ⟨gs[on]'(by omega), List.getElem?_eq_getElem (by omega)⟩
    obtain ⟨r1, r2⟩ := h3.row on g l o1 o2
    have hsz := sizes_range p5 on (by omega) (by omega)
    rw [Int.toNat_natCast] at hsz
    have HI : Hid (Ints w2 Any (some ⟨g, 0, none⟩) l) := r2.ints trivial ow (by omega)
    have z2 := (HBx.out.below h2).c2
    rw [hon] at z2
    have hol : on < k.sizes.length := by omega
    have H1 := Lib.hid h1
    have H0 := Lib.hid h0
    have H2 := Lib.hid (HB1.out.trans (h2.mono HB1.out.size))
    have HON := Lib.hid hon
    clear h0 h1 h2 h3 p1 p2 p3 p5 r2 hon oD ol ow o2 hsz
    go_wp2
    go_ret2
    refine .inl ⟨H0.out, H1.out, H2.out, some ⟨g, 0, none⟩, l.length, ?_, ?_⟩
    · rw [HL.out]; rfl
    · rw [HL.out]; exact HI.out
  · have H1 := Lib.hid h1
    have H0 := Lib.hid h0
    have H2 := Lib.hid (HB1.out.trans (h2.mono HB1.out.size))
    clear h0 h1 h2
    go_wp2
    go_ret2
    exact .inr (.inl ⟨H0.out, H1.out, H2.out, rfl⟩)
  · have H0 := Lib.hid h0
    have H2 := Lib.hid (HB1.out.trans (h2.mono HB1.out.size))
    clear h0 h2
    go_wp2
    go_ret2
    exact .inr (.inr ⟨H0.out, H2.out, rfl⟩)

end Go.Proofs.Ythlmgejikbmmaaa

/-
  The reference's SameInts: by contract.
-/
namespace Go.Proofs.Ythlmgejikbmmaaa
open Go.RowKit

theorem drewN_below (w : World) (n : Nat) : Below w.heap.size w (w.drewN n) := ⟨rfl, rfl, rfl, Nat.le_refl _, fun _ _ => rfl⟩

set_option maxRecDepth 100000 in
set_option maxHeartbeats 1600000 in
theorem rSameInts {w : World} {F G : Nat → Prop} {a b : Option Addr} {A B : List Int} (ha : Ints w F a A) (hb : Ints w G b B) (ca cb : Nat) :
    Calls Try.prog 28 #[.slice a A.length ca, .slice b B.length cb] w fun e w' => e = .returned (.bool (decide (A = B))) ∧ Below w.heap.size w w' := by
  have HA := Lib.hid ha
  have HB := Lib.hid hb
  have la := ha.len
  have lb := hb.len
  clear ha hb
  go_enter Try.func28, Try.ntmps28
  by_cases hl : A.length = B.length
  · have HL := Lib.hid hl
    have hli : decide (¬ (A.length : Int) = (B.length : Int)) = false := by simp; omega
    have hlb : ((A.length : Int) == (B.length : Int)) = true := by simp; omega
    go_wp2
    go_loopw [5] (fun i wr => ∃ j : Nat, j ≤ A.length ∧ i = .int .i64 (j : Int) ∧ Hid (A.take j = B.take j) ∧ Hid (∃ n, wr = w.drewN n)) (fun i _ => A.length - (intOf i).toNat)
    case atStart => exact ⟨0, Nat.zero_le _, rfl, by simp [Hid], 0, rfl⟩
    case round =>
      obtain ⟨j, hj, rfl, HT, HN⟩ := hrel
      obtain ⟨nd, rfl⟩ := HN.out
      by_cases hlt : j < A.length
      · have hltb : j < B.length := by rw [← HL.out]; exact hlt
        obtain ⟨ba, oa, rfl, _, _, hca⟩ := HA.out.cells hlt
        obtain ⟨bb, ob, rfl, _, _, hcb⟩ := HB.out.cells hltb
        have cA : w.cell? ⟨ba, oa + j, none⟩ = _ := hca j hlt
        have cB : w.cell? ⟨bb, ob + j, none⟩ = _ := hcb j hltb
        have TA := Lib.hid (take_succ_at (getD_at hlt))
        have TB := Lib.hid (take_succ_at (getD_at hltb))
        have GA := Lib.hid (getD_at hlt)
        have GB := Lib.hid (getD_at hltb)
        clear hca hcb
        generalize A.getD j 0 = x at cA TA GA
        generalize B.getD j 0 = y at cB TB GB
        by_cases hxy : x = y
        · subst hxy
          go_wp2
          go_quiet (fail)
          go_wp2
          go_roundw
          case rel => exact ⟨j + 1, hlt, by go_num, by unfold Hid; rw [TA.out, TB.out, HT.out], _, rfl⟩
          case measure => simp [intOf]; omega
        · have hne : Hid (decide (A = B) = false) := by
            unfold Hid
            rw [decide_eq_false_iff_not]
            rintro rfl
            have h1 := GA.out.symm.trans GB.out
            cases h1
            exact hxy rfl
          have hxb : (x == y) = false := by simp [hxy]
          go_wp2
          go_quiet (fail)
          go_wp2
          go_ret
          exact ⟨by rw [hne.out]; rfl, ⟨rfl, rfl, rfl, Nat.le_refl _, fun _ _ => rfl⟩⟩
      · obtain rfl : j = A.length := by omega
        have he : Hid (decide (A = B) = true) := by
          have h1 := HT.out
          rw [List.take_length, HL.out, List.take_length] at h1
          unfold Hid; simp [h1]
        go_wp2
        go_ret
        exact ⟨by rw [he.out]; rfl, ⟨rfl, rfl, rfl, Nat.le_refl _, fun _ _ => rfl⟩⟩
  · have hne : Hid (decide (A = B) = false) := by
      unfold Hid
      rw [decide_eq_false_iff_not]
      rintro rfl
      exact hl rfl
    have hlb : ((A.length : Int) == (B.length : Int)) = false := by simp; omega
    go_wp2
    go_ret
    exact ⟨by rw [hne.out]; rfl, Below.refl _ _⟩

end Go.Proofs.Ythlmgejikbmmaaa

/-
  The example of layer 54: by contract (under way).
-/
namespace Go.Proofs.Ythlmgejikbmmaaa
open Go.RowKit

/-- The kernel of the document's example. -/
def exOps : List OpL := [⟨2, 1, 0, 0, 1, 2, [], [1, 2, 3, 4], [5, 6], 0, 0⟩, ⟨7, 2, 1, 0, 0, 0, [], [], [], 1, 1⟩]
def zeroR : RatL := ⟨false, [], []⟩
def exK : KerL := ⟨[2, 2, 2], exOps, 2, 0, 0, List.replicate 2 zeroR, List.replicate 2 zeroR, List.replicate 2 zeroR⟩
theorem exK_valid : validK exK = true := by decide +kernel
theorem exK_out : outL exK [1, -1] = [2, 3] := by decide +kernel
theorem exK_mid : (runL exK [1, -1] exK.ops.length).getD 1 [] = [4, 5] := by decide +kernel

/-- Rationals that were just made. -/
theorem RatsAt.zeros {w : World} {g T n : Nat} (h : w.heap[g]? = some (.cells (madeCells #[.bool false, .slice none 0 0, .slice none 0 0] (n * 3)) T (0, 0))) (hn : n ≤ 9223372036854775807) : RatsAt w (some ⟨g, 0, none⟩) (List.replicate n zeroR) := by
  refine ⟨by simpa using hn, .inr ⟨g, 0, rfl, (Array.getElem?_eq_some_iff.1 h).1, fun j x hj => ?_⟩⟩
  obtain ⟨hl, hx⟩ := List.getElem?_eq_some_iff.1 hj
  rw [List.length_replicate] at hl
  rw [List.getElem_replicate] at hx
  subst hx
  have hc : ∀ r, r < 3 → w.cell? ⟨g, 0 + j * 3 + r, none⟩ = some ((#[.bool false, .slice none 0 0, .slice none 0 0] : Array Value).getD r undef) := by
    intro r hr
    have h1 : j * 3 + r < n * 3 := by omega
    have h2 : (j * 3 + r) % 3 = r := by omega
    match r, hr with
    | 0, _ => simp [World.cell?, h, madeCells]; exact ⟨j * 3, by rw [Array.getElem?_eq_getElem (by rw [Array.size_range]; omega), Array.getElem_range], by rw [Nat.mul_mod_left]; rfl⟩
    | 1, _ => simp [World.cell?, h, madeCells, h1, h2]
    | 2, _ => simp [World.cell?, h, madeCells, h1, h2]
  have c0 := hc 0 (by omega)
  have c1 := hc 1 (by omega)
  have c2 := hc 2 (by omega)
  exact ⟨none, none, 0, 0, c0, c1, c2, ⟨none, none, 0, 0, rfl, Nat.le_refl _, Nat.le_refl _, U32s.nil _ _, U32s.nil _ _⟩⟩

/-- One operation in a row of its own. -/
theorem OpsAt.one {w : World} {g T : Nat} {o : OpL} {a1 a2 a3 : Option Addr} {c1 c2 c3 : Nat} (h : w.heap[g]? = some (.cells #[.int .i64 o.kind, .int .i64 o.dst, .int .i64 o.src, .int .i64 o.other, .int .i64 o.cols, .int .i64 o.inner, .slice a1 o.index.length c1, .slice a2 o.weights.length c2, .slice a3 o.bias.length c3, .int .i64 o.mul, .int .i64 o.shift] T (0, 0))) (h1 : OpV w (.agg #[.int .i64 o.kind, .int .i64 o.dst, .int .i64 o.src, .int .i64 o.other, .int .i64 o.cols, .int .i64 o.inner, .slice a1 o.index.length c1, .slice a2 o.weights.length c2, .slice a3 o.bias.length c3, .int .i64 o.mul, .int .i64 o.shift]) o) : OpsAt w (some ⟨g, 0, none⟩) [o] := by
  refine ⟨by simp, .inr ⟨g, 0, rfl, (Array.getElem?_eq_some_iff.1 h).1, fun j x hj => ?_⟩⟩
  match j, hj with
  | 0, hj =>
    simp at hj
    subst hj
    exact ⟨a1, a2, a3, c1, c2, c3, ⟨by simp [World.cell?, h], by simp [World.cell?, h], by simp [World.cell?, h], by simp [World.cell?, h], by simp [World.cell?, h], by simp [World.cell?, h], by simp [World.cell?, h], by simp [World.cell?, h], by simp [World.cell?, h], by simp [World.cell?, h], by simp [World.cell?, h]⟩, h1⟩
  | j + 1, hj => simp at hj
/-- Two. -/
theorem OpsAt.two {w : World} {g T : Nat} {o p : OpL} {a1 a2 a3 a4 a5 a6 : Option Addr} {c1 c2 c3 c4 c5 c6 : Nat} (h : w.heap[g]? = some (.cells #[.int .i64 o.kind, .int .i64 o.dst, .int .i64 o.src, .int .i64 o.other, .int .i64 o.cols, .int .i64 o.inner, .slice a1 o.index.length c1, .slice a2 o.weights.length c2, .slice a3 o.bias.length c3, .int .i64 o.mul, .int .i64 o.shift, .int .i64 p.kind, .int .i64 p.dst, .int .i64 p.src, .int .i64 p.other, .int .i64 p.cols, .int .i64 p.inner, .slice a4 p.index.length c4, .slice a5 p.weights.length c5, .slice a6 p.bias.length c6, .int .i64 p.mul, .int .i64 p.shift] T (0, 0))) (h1 : OpV w (.agg #[.int .i64 o.kind, .int .i64 o.dst, .int .i64 o.src, .int .i64 o.other, .int .i64 o.cols, .int .i64 o.inner, .slice a1 o.index.length c1, .slice a2 o.weights.length c2, .slice a3 o.bias.length c3, .int .i64 o.mul, .int .i64 o.shift]) o) (h2 : OpV w (.agg #[.int .i64 p.kind, .int .i64 p.dst, .int .i64 p.src, .int .i64 p.other, .int .i64 p.cols, .int .i64 p.inner, .slice a4 p.index.length c4, .slice a5 p.weights.length c5, .slice a6 p.bias.length c6, .int .i64 p.mul, .int .i64 p.shift]) p) : OpsAt w (some ⟨g, 0, none⟩) [o, p] := by
  refine ⟨by simp, .inr ⟨g, 0, rfl, (Array.getElem?_eq_some_iff.1 h).1, fun j x hj => ?_⟩⟩
  match j, hj with
  | 0, hj =>
    simp at hj
    subst hj
    exact ⟨a1, a2, a3, c1, c2, c3, ⟨by simp [World.cell?, h], by simp [World.cell?, h], by simp [World.cell?, h], by simp [World.cell?, h], by simp [World.cell?, h], by simp [World.cell?, h], by simp [World.cell?, h], by simp [World.cell?, h], by simp [World.cell?, h], by simp [World.cell?, h], by simp [World.cell?, h]⟩, h1⟩
  | 1, hj =>
    simp at hj
    subst hj
    exact ⟨a4, a5, a6, c4, c5, c6, ⟨by simp [World.cell?, h], by simp [World.cell?, h], by simp [World.cell?, h], by simp [World.cell?, h], by simp [World.cell?, h], by simp [World.cell?, h], by simp [World.cell?, h], by simp [World.cell?, h], by simp [World.cell?, h], by simp [World.cell?, h], by simp [World.cell?, h]⟩, h2⟩
  | j + 2, hj => simp at hj

end Go.Proofs.Ythlmgejikbmmaaa

/-
  The example of layer 54: by contract.
-/
namespace Go.Proofs.Ythlmgejikbmmaaa
open Go.RowKit

/-- A block of the call's own, from B on, known whole. -/
def Row (B : Nat) (xs : Array Value) (n : Nat) (v : Value) (w : World) : Prop := ∃ g T, B ≤ g ∧ v = .slice (some ⟨g, 0, none⟩) n n ∧ w.heap[g]? = some (.cells xs T (0, 0))
theorem Row.below {B : Nat} {xs : Array Value} {n : Nat} {v : Value} {w w' : World} (h : Row B xs n v w) (hh : Below w.heap.size w w') : Row B xs n v w' := by
  obtain ⟨g, T, h1, h2, h3⟩ := h
  exact ⟨g, T, h1, h2, (hh.block g (Array.getElem?_eq_some_iff.1 h3).1).trans h3⟩
theorem Row.alloc {B : Nat} {w : World} (h : B ≤ w.heap.size) (xs : Array Value) (n T : Nat) : Row B xs n (.slice (some ⟨w.heap.size, 0, none⟩) n n) (w.alloc (.cells xs T)) := by
  refine ⟨w.heap.size, T, h, rfl, ?_⟩
  show (w.heap.push _)[w.heap.size]? = _
  rw [Array.getElem?_push, if_pos rfl]
/-- Behind a store into a block before B. -/
theorem Row.apart {B : Nat} {xs : Array Value} {n : Nat} {v : Value} {w w' : World} (h : Row B xs n v w) (hh : ∀ k, B ≤ k → w'.heap[k]? = w.heap[k]?) : Row B xs n v w' := by
  obtain ⟨g, T, h1, h2, h3⟩ := h
  exact ⟨g, T, h1, h2, (hh g h1).trans h3⟩
theorem Row.ints {B : Nat} {l : List Int} {n : Nat} {v : Value} {w : World} (h : Row B (rowI l) n v w) (hn : n = l.length) (hw : ∀ x ∈ l, I64 x) (hl : l.length ≤ 9223372036854775807) : ∃ a, v = .slice a l.length l.length ∧ Ints w Any a l := by
  obtain ⟨g, T, h1, h2, h3⟩ := h
  subst hn
  exact ⟨_, h2, IBlk.ints ⟨T, h3⟩ trivial hw hl⟩

def zero3 (n : Nat) : Array Value := madeCells #[.bool false, .slice none 0 0, .slice none 0 0] (n * 3)
theorem Row.rats {B n : Nat} {v : Value} {w : World} (h : Row B (zero3 n) n v w) (hn : n ≤ 9223372036854775807) : ∃ a, v = .slice a n n ∧ RatsAt w a (List.replicate n zeroR) := by
  obtain ⟨g, T, h1, h2, h3⟩ := h
  exact ⟨_, h2, RatsAt.zeros h3 hn⟩

/-- The cells of an operation. -/
def opCells (o : OpL) (v1 v2 v3 : Value) : Array Value := #[.int .i64 o.kind, .int .i64 o.dst, .int .i64 o.src, .int .i64 o.other, .int .i64 o.cols, .int .i64 o.inner, v1, v2, v3, .int .i64 o.mul, .int .i64 o.shift]

theorem Try.infoRat : (Try.prog.info? 78).map (fun i => (i.zero, i.size, i.bytes)) = some (some (.agg #[.bool false, .slice none 0 0, .slice none 0 0]), 3, 56) := by kernel_rfl
theorem mkRats (n : Nat) (hn : n ≤ 1000000) (w : World) : (Instr.makeSlice 24 (.int .i64 (n : Int)) (.int .i64 (n : Int))).run Try.prog w = .ok (.slice (some ⟨w.heap.size, 0, none⟩) n n) (w.alloc (.cells (zero3 n) 78)) := by
  obtain ⟨i0, hi0, hz0, hz1, hz2⟩ := info_parts Try.infoRat
  have h := run_makeSlice (P := Try.prog) (w := w) 24 78 i0 (.agg #[.bool false, .slice none 0 0, .slice none 0 0]) Try.underlying24 hi0 hz0 .i64 .i64 (n : Int) (n : Int) (by omega) (Int.le_refl _) (by rw [hz1, Int.toNat_natCast]; omega) (by rw [hz2]; omega) (by omega)
  rw [hz1, Int.toNat_natCast] at h
  exact h

def exG (B : Nat) (i : Nat) (v : Value) (w : World) : Prop :=
  match i with
  | 0 => Row B (rowI [2, 2, 2]) 3 v w
  | 1 => Row B (rowI [1, 2, 3, 4]) 4 v w
  | 2 => Row B (rowI [5, 6]) 2 v w
  | 3 => ∃ v1 v2, Row B (rowI [1, 2, 3, 4]) 4 v1 w ∧ Row B (rowI [5, 6]) 2 v2 w ∧ v = .agg #[.int .i64 2, .int .i64 1, .int .i64 0, .int .i64 0, .int .i64 1, .int .i64 2, .slice none 0 0, v1, v2, .int .i64 0, .int .i64 0]
  | 4 => v = .agg #[.int .i64 7, .int .i64 2, .int .i64 1, .int .i64 0, .int .i64 0, .int .i64 0, .slice none 0 0, .slice none 0 0, .slice none 0 0, .int .i64 1, .int .i64 1]
  | 5 => ∃ v1 v2, Row B (rowI [1, 2, 3, 4]) 4 v1 w ∧ Row B (rowI [5, 6]) 2 v2 w ∧ Row B #[.int .i64 2, .int .i64 1, .int .i64 0, .int .i64 0, .int .i64 1, .int .i64 2, .slice none 0 0, v1, v2, .int .i64 0, .int .i64 0, .int .i64 7, .int .i64 2, .int .i64 1, .int .i64 0, .int .i64 0, .int .i64 0, .slice none 0 0, .slice none 0 0, .slice none 0 0, .int .i64 1, .int .i64 1] 2 v w
  | 6 => Row B (zero3 2) 2 v w
  | 7 => Row B (zero3 2) 2 v w
  | 8 => Row B (zero3 2) 2 v w
  | 9 => ∃ v0 v1 v2 v5 v6 v7 v8, Row B (rowI [2, 2, 2]) 3 v0 w ∧ Row B (rowI [1, 2, 3, 4]) 4 v1 w ∧ Row B (rowI [5, 6]) 2 v2 w ∧ Row B #[.int .i64 2, .int .i64 1, .int .i64 0, .int .i64 0, .int .i64 1, .int .i64 2, .slice none 0 0, v1, v2, .int .i64 0, .int .i64 0, .int .i64 7, .int .i64 2, .int .i64 1, .int .i64 0, .int .i64 0, .int .i64 0, .slice none 0 0, .slice none 0 0, .slice none 0 0, .int .i64 1, .int .i64 1] 2 v5 w ∧
      Row B (zero3 2) 2 v6 w ∧ Row B (zero3 2) 2 v7 w ∧ Row B (zero3 2) 2 v8 w ∧ v = .agg #[v0, v5, .int .i64 2, .int .i64 0, .int .i64 0, v6, v7, v8]
  | _ => True
theorem exG_below {B i : Nat} {v : Value} {w w' : World} (h : exG B i v w) (hb : Below w.heap.size w w') : exG B i v w' := by
  match i, h with
  | 0, h => exact Row.below h hb
  | 1, h => exact Row.below h hb
  | 2, h => exact Row.below h hb
  | 3, ⟨v1, v2, h1, h2, h3⟩ => exact ⟨v1, v2, h1.below hb, h2.below hb, h3⟩
  | 4, h => exact h
  | 5, ⟨v1, v2, h1, h2, h3⟩ => exact ⟨v1, v2, h1.below hb, h2.below hb, h3.below hb⟩
  | 6, h => exact Row.below h hb
  | 7, h => exact Row.below h hb
  | 8, h => exact Row.below h hb
  | 9, ⟨v0, v1, v2, v5, v6, v7, v8, h0, h1, h2, h5, h6, h7, h8, h9⟩ => exact ⟨v0, v1, v2, v5, v6, v7, v8, h0.below hb, h1.below hb, h2.below hb, h5.below hb, h6.below hb, h7.below hb, h8.below hb, h9⟩
  | _ + 10, _ => trivial

set_option maxRecDepth 100000 in
set_option maxHeartbeats 1600000 in
theorem kExample (w : World) : Calls Try.prog 41 #[] w fun e w' => (∃ v, e = .returned v ∧ KerV w' v exK) ∧ Below w.heap.size w w' := by
  go_enter Try.func41, Try.ntmps41
  go_upto_region 1 with fail
  have hsz : (w.alloc (.cells #[.slice none 0 0, .slice none 0 0, .int .i64 0, .int .i64 0, .int .i64 0, .slice none 0 0, .slice none 0 0, .slice none 0 0] 45)).heap.size = w.heap.size + 1 := by simp
  refine wp_region_slots_lit (by kernel_rfl) (by kernel_rfl) (by kernel_rfl) (by kernel_rfl) (by kernel_rfl) (fun w' => Below (w.heap.size + 1) (w.alloc (.cells #[.slice none 0 0, .slice none 0 0, .int .i64 0, .int .i64 0, .int .i64 0, .slice none 0 0, .slice none 0 0, .slice none 0 0] 45)) w') (fun w w' => Below w.heap.size w w') (exG (w.heap.size + 1)) (fun i v w w' h hb => exG_below h hb) ((Below.refl _ _).drew) ?_ ?_
  · intro ops
    simp only [List.dropLast, Shows]
    generalize w.alloc (.cells #[.slice none 0 0, .slice none 0 0, .int .i64 0, .int .i64 0, .int .i64 0, .slice none 0 0, .slice none 0 0, .slice none 0 0] 45) = W0 at *
    refine ⟨?_, ?_, ?_, ?_, ?_, ?_, ?_, ?_, ?_, ?_, trivial⟩
    · intro g W hR hL
      have hB : w.heap.size + 1 ≤ W.heap.size := hsz ▸ hR.size
      have HR := Lib.hid hR
      clear hR hL hsz
      simp [fillFrom, Act.put]
      go_wp2
      exact ⟨_, rfl, HR.out.alloc hB _, (Below.refl _ _).alloc (Nat.le_refl _) _, Row.alloc hB _ _ _⟩
    · intro g W hR hL
      have hB : w.heap.size + 1 ≤ W.heap.size := hsz ▸ hR.size
      have HR := Lib.hid hR
      clear hR hL hsz
      simp [fillFrom, Act.put]
      go_wp2
      exact ⟨_, rfl, HR.out.alloc hB _, (Below.refl _ _).alloc (Nat.le_refl _) _, Row.alloc hB _ _ _⟩
    · intro g W hR hL
      have hB : w.heap.size + 1 ≤ W.heap.size := hsz ▸ hR.size
      have HR := Lib.hid hR
      clear hR hL hsz
      simp [fillFrom, Act.put]
      go_wp2
      exact ⟨_, rfl, HR.out.alloc hB _, (Below.refl _ _).alloc (Nat.le_refl _) _, Row.alloc hB _ _ _⟩
    · intro g W hR hL
      simp only [Laid, Region.binds, forall_const, exG] at hL
      obtain ⟨H1, H2, _⟩ := hL
      have K1 := Lib.hid H1
      have K2 := Lib.hid H2
      obtain ⟨b1, T1, p1, e1, q1⟩ := H1
      obtain ⟨b2, T2, p2, e2, q2⟩ := H2
      have HR := Lib.hid hR
      clear hR hsz q1 q2 p1 p2
      simp [fillFrom, Act.put]
      go_wp2
      exact ⟨_, rfl, HR.out, Below.refl _ _, _, _, e1 ▸ K1.out, e2 ▸ K2.out, rfl⟩
    · intro g W hR hL
      have HR := Lib.hid hR
      clear hR hsz hL
      simp [fillFrom, Act.put]
      go_wp2
      exact ⟨_, rfl, HR.out, Below.refl _ _, rfl⟩
    · intro g W hR hL
      have hB : w.heap.size + 1 ≤ W.heap.size := hsz ▸ hR.size
      simp only [Laid, Region.binds, forall_const, exG] at hL
      obtain ⟨⟨v1, v2, H1, H2, e3⟩, e4, _⟩ := hL
      have K1 := Lib.hid H1
      have K2 := Lib.hid H2
      obtain ⟨b1, T1, p1, rfl, q1⟩ := H1
      obtain ⟨b2, T2, p2, rfl, q2⟩ := H2
      have HR := Lib.hid hR
      clear hR hsz q1 q2 p1 p2
      simp [fillFrom, Act.put]
      go_wp2
      have hal := (Below.refl W.heap.size W).alloc (Nat.le_refl _)
      exact ⟨_, rfl, HR.out.alloc hB _, hal _, _, _, K1.out.below (hal _), K2.out.below (hal _), Row.alloc hB _ _ _⟩
    · intro g W hR hL
      have hB : w.heap.size + 1 ≤ W.heap.size := hsz ▸ hR.size
      have HR := Lib.hid hR
      clear hR hL hsz
      simp [fillFrom, Act.put]
      have hmk := mkRats 2 (by omega)
      simp only [show ((2 : Nat) : Int) = 2 from rfl] at hmk
      go_wp2
      exact ⟨_, rfl, HR.out.alloc hB _, (Below.refl _ _).alloc (Nat.le_refl _) _, Row.alloc hB _ _ _⟩
    · intro g W hR hL
      have hB : w.heap.size + 1 ≤ W.heap.size := hsz ▸ hR.size
      have HR := Lib.hid hR
      clear hR hL hsz
      simp [fillFrom, Act.put]
      have hmk := mkRats 2 (by omega)
      simp only [show ((2 : Nat) : Int) = 2 from rfl] at hmk
      go_wp2
      exact ⟨_, rfl, HR.out.alloc hB _, (Below.refl _ _).alloc (Nat.le_refl _) _, Row.alloc hB _ _ _⟩
    · intro g W hR hL
      have hB : w.heap.size + 1 ≤ W.heap.size := hsz ▸ hR.size
      have HR := Lib.hid hR
      clear hR hL hsz
      simp [fillFrom, Act.put]
      have hmk := mkRats 2 (by omega)
      simp only [show ((2 : Nat) : Int) = 2 from rfl] at hmk
      go_wp2
      exact ⟨_, rfl, HR.out.alloc hB _, (Below.refl _ _).alloc (Nat.le_refl _) _, Row.alloc hB _ _ _⟩
    · intro g W hR hL
      simp only [Laid, Region.binds, forall_const, exG] at hL
      obtain ⟨H0, ⟨v1, v2, H1, H2, H5⟩, H6, H7, H8, _⟩ := hL
      have K0 := Lib.hid H0
      have K1 := Lib.hid H1
      have K2 := Lib.hid H2
      have K5 := Lib.hid H5
      have K6 := Lib.hid H6
      have K7 := Lib.hid H7
      have K8 := Lib.hid H8
      obtain ⟨b0, T0, p0, e0, q0⟩ := H0
      obtain ⟨b5, T5, p5, e5, q5⟩ := H5
      obtain ⟨b6, T6, p6, e6, q6⟩ := H6
      obtain ⟨b7, T7, p7, e7, q7⟩ := H7
      obtain ⟨b8, T8, p8, e8, q8⟩ := H8
      have HR := Lib.hid hR
      clear hR hsz q0 q5 q6 q7 q8 p0 p5 p6 p7 p8 H1 H2
      simp [fillFrom, Act.put]
      go_wp2
      exact ⟨_, rfl, HR.out, Below.refl _ _, _, v1, v2, _, _, _, _, e0 ▸ K0.out, K1.out, K2.out, e5 ▸ K5.out, e6 ▸ K6.out, e7 ▸ K7.out, e8 ▸ K8.out, rfl⟩
  · intro ops g W hR hL
    simp only [List.dropLast, List.getLastD_cons, List.getLastD_nil, fillFrom, Act.put, List.length_cons, List.length_nil, Nat.reduceAdd, LaidAll] at hL ⊢
    have hB : w.heap.size + 1 ≤ W.heap.size := hsz ▸ hR.size
    have H9 := hL.2
    simp only [exG] at H9
    obtain ⟨v0, v1, v2, v5, v6, v7, v8, h0, h1, h2, h5, h6, h7, h8, h9⟩ := H9
    have hblk : W.heap[w.heap.size]? = some (.cells #[.slice none 0 0, .slice none 0 0, .int .i64 0, .int .i64 0, .int .i64 0, .slice none 0 0, .slice none 0 0, .slice none 0 0] 45 (0, 0)) := by
      rw [hR.block w.heap.size (by omega)]
      show (w.heap.push _)[w.heap.size]? = _
      rw [Array.getElem?_push, if_pos rfl]
    have HR := Lib.hid hR
    have K0 := Lib.hid h0
    have K1 := Lib.hid h1
    have K2 := Lib.hid h2
    have K5 := Lib.hid h5
    have K6 := Lib.hid h6
    have K7 := Lib.hid h7
    have K8 := Lib.hid h8
    clear hL hR hsz h1 h2
    obtain ⟨b0, T0, p0, rfl, q0⟩ := h0
    obtain ⟨b5, T5, p5, rfl, q5⟩ := h5
    obtain ⟨b6, T6, p6, rfl, q6⟩ := h6
    obtain ⟨b7, T7, p7, rfl, q7⟩ := h7
    obtain ⟨b8, T8, p8, rfl, q8⟩ := h8
    clear q0 q5 q6 q7 q8 p0 p5 p6 p7 p8
    have c0 : W.cell? ⟨w.heap.size, 0, none⟩ = some (.slice none 0 0) := by simp [World.cell?, hblk]
    have c1 : W.cell? ⟨w.heap.size, 1, none⟩ = some (.slice none 0 0) := by simp [World.cell?, hblk]
    have c2 : W.cell? ⟨w.heap.size, 2, none⟩ = some (.int .i64 0) := by simp [World.cell?, hblk]
    have c3 : W.cell? ⟨w.heap.size, 3, none⟩ = some (.int .i64 0) := by simp [World.cell?, hblk]
    have c4 : W.cell? ⟨w.heap.size, 4, none⟩ = some (.int .i64 0) := by simp [World.cell?, hblk]
    have c5 : W.cell? ⟨w.heap.size, 5, none⟩ = some (.slice none 0 0) := by simp [World.cell?, hblk]
    have c6 : W.cell? ⟨w.heap.size, 6, none⟩ = some (.slice none 0 0) := by simp [World.cell?, hblk]
    have c7 : W.cell? ⟨w.heap.size, 7, none⟩ = some (.slice none 0 0) := by simp [World.cell?, hblk]
    have fz : ∀ o, W.frozen? ⟨w.heap.size, o, none⟩ = false := fun o => by simp [World.frozen?, hblk]
    have HBk := Lib.hid hblk
    clear hblk
    go_wp2
    clear fz h9
    refine bodyPost_ret (v := .agg #[.slice (some ⟨b0, 0, none⟩) 3 3, .slice (some ⟨b5, 0, none⟩) 2 2, .int .i64 2, .int .i64 0, .int .i64 0, .slice (some ⟨b6, 0, none⟩) 2 2, .slice (some ⟨b7, 0, none⟩) 2 2, .slice (some ⟨b8, 0, none⟩) 2 2]) (by simp [results, Try.results41, go_sem, c0, c1, c2, c3, c4, c5, c6, c7]) rfl ?_
    clear c0 c1 c2 c3 c4 c5 c6 c7
    have hap : ∀ k, w.heap.size + 1 ≤ k → ((((((((W.setCell ⟨w.heap.size, 0, none⟩ (.slice (some ⟨b0, 0, none⟩) 3 3)).setCell ⟨w.heap.size, 1, none⟩ (.slice (some ⟨b5, 0, none⟩) 2 2)).setCell ⟨w.heap.size, 2, none⟩ (.int .i64 2)).setCell ⟨w.heap.size, 3, none⟩ (.int .i64 0)).setCell ⟨w.heap.size, 4, none⟩ (.int .i64 0)).setCell ⟨w.heap.size, 5, none⟩ (.slice (some ⟨b6, 0, none⟩) 2 2)).setCell ⟨w.heap.size, 6, none⟩ (.slice (some ⟨b7, 0, none⟩) 2 2)).setCell ⟨w.heap.size, 7, none⟩ (.slice (some ⟨b8, 0, none⟩) 2 2)).heap[k]? = W.heap[k]? := by
      intro k hk
      have hne : ∀ o, k ≠ (⟨w.heap.size, o, none⟩ : Addr).block := fun o => by simp only; omega
      rw [Below.heap_setCell _ _ _ _ (hne _), Below.heap_setCell _ _ _ _ (hne _), Below.heap_setCell _ _ _ _ (hne _), Below.heap_setCell _ _ _ _ (hne _), Below.heap_setCell _ _ _ _ (hne _), Below.heap_setCell _ _ _ _ (hne _), Below.heap_setCell _ _ _ _ (hne _), Below.heap_setCell _ _ _ _ (hne _)]
    have hbw : Below w.heap.size w ((((((((W.setCell ⟨w.heap.size, 0, none⟩ (.slice (some ⟨b0, 0, none⟩) 3 3)).setCell ⟨w.heap.size, 1, none⟩ (.slice (some ⟨b5, 0, none⟩) 2 2)).setCell ⟨w.heap.size, 2, none⟩ (.int .i64 2)).setCell ⟨w.heap.size, 3, none⟩ (.int .i64 0)).setCell ⟨w.heap.size, 4, none⟩ (.int .i64 0)).setCell ⟨w.heap.size, 5, none⟩ (.slice (some ⟨b6, 0, none⟩) 2 2)).setCell ⟨w.heap.size, 6, none⟩ (.slice (some ⟨b7, 0, none⟩) 2 2)).setCell ⟨w.heap.size, 7, none⟩ (.slice (some ⟨b8, 0, none⟩) 2 2)) :=
      (((((((((((Below.refl _ w).alloc (Nat.le_refl _) _).trans (HR.out.mono (Nat.le_succ _))).setCell (Nat.le_refl _) _).setCell (Nat.le_refl _) _).setCell (Nat.le_refl _) _).setCell (Nat.le_refl _) _).setCell (Nat.le_refl _) _).setCell (Nat.le_refl _) _).setCell (Nat.le_refl _) _).setCell (Nat.le_refl _) _)
    generalize ((((((((W.setCell ⟨w.heap.size, 0, none⟩ (.slice (some ⟨b0, 0, none⟩) 3 3)).setCell ⟨w.heap.size, 1, none⟩ (.slice (some ⟨b5, 0, none⟩) 2 2)).setCell ⟨w.heap.size, 2, none⟩ (.int .i64 2)).setCell ⟨w.heap.size, 3, none⟩ (.int .i64 0)).setCell ⟨w.heap.size, 4, none⟩ (.int .i64 0)).setCell ⟨w.heap.size, 5, none⟩ (.slice (some ⟨b6, 0, none⟩) 2 2)).setCell ⟨w.heap.size, 6, none⟩ (.slice (some ⟨b7, 0, none⟩) 2 2)).setCell ⟨w.heap.size, 7, none⟩ (.slice (some ⟨b8, 0, none⟩) 2 2)) = W' at hap hbw ⊢
    refine ⟨⟨_, rfl, ?_⟩, hbw⟩
    obtain ⟨a0, e0, i0⟩ := (K0.out.apart hap).ints rfl (by simp [I64]) (by simp)
    obtain ⟨a1, rfl, i1⟩ := (K1.out.apart hap).ints rfl (by simp [I64]) (by simp)
    obtain ⟨a2, rfl, i2⟩ := (K2.out.apart hap).ints rfl (by simp [I64]) (by simp)
    obtain ⟨a6, e6, i6⟩ := (K6.out.apart hap).rats (by omega)
    obtain ⟨a7, e7, i7⟩ := (K7.out.apart hap).rats (by omega)
    obtain ⟨a8, e8, i8⟩ := (K8.out.apart hap).rats (by omega)
    obtain ⟨g5, T5', _, e5, hg5⟩ := K5.out.apart hap
    cases e0; cases e5; cases e6; cases e7; cases e8
    have h5 : OpsAt W' (some ⟨b5, 0, none⟩) exOps := OpsAt.two (o := ⟨2, 1, 0, 0, 1, 2, [], [1, 2, 3, 4], [5, 6], 0, 0⟩) (p := ⟨7, 2, 1, 0, 0, 0, [], [], [], 1, 1⟩) (a1 := none) (c1 := 0) (a4 := none) (a5 := none) (a6 := none) (c4 := 0) (c5 := 0) (c6 := 0) hg5
      ⟨none, a1, a2, 0, 4, 2, rfl, Ints.nil _ _ _, i1, i2, by simp⟩ ⟨none, none, none, 0, 0, 0, rfl, Ints.nil _ _ _, Ints.nil _ _ _, Ints.nil _ _ _, by simp⟩
    exact ⟨_, _, _, _, _, _, _, _, _, _, rfl, i0, h5, i6, i7, i8⟩

end Go.Proofs.Ythlmgejikbmmaaa

/-
  Composite literals: what a region that makes one leaves, piece by piece. No program in sight.
-/
namespace Go.Proofs.Ythlmgejikbmmaaa
open Go.RowKit

/-- Worlds behind W0 as seen from B on. -/
structure From (B : Nat) (W0 w : World) : Prop where
  base : B ≤ w.heap.size
  be : Below B W0 w
theorem From.start {B : Nat} {W0 : World} (h : B ≤ W0.heap.size) : From B W0 W0.drew := ⟨h, (Below.refl _ _).drew⟩
theorem From.alloc {B : Nat} {W0 w : World} (h : From B W0 w) (o : Obj) : From B W0 (w.alloc o) := ⟨by have := h.base; simp; omega, h.be.alloc h.base o⟩

/-- A block of the call's own, of type T, from B on, known whole. -/
def RowT (B T : Nat) (xs : Array Value) (n : Nat) (v : Value) (w : World) : Prop := ∃ g, B ≤ g ∧ v = .slice (some ⟨g, 0, none⟩) n n ∧ w.heap[g]? = some (.cells xs T (0, 0))
theorem RowT.below {B T : Nat} {xs : Array Value} {n : Nat} {v : Value} {w w' : World} (h : RowT B T xs n v w) (hh : Below w.heap.size w w') : RowT B T xs n v w' := by
  obtain ⟨g, h1, h2, h3⟩ := h
  exact ⟨g, h1, h2, (hh.block g (Array.getElem?_eq_some_iff.1 h3).1).trans h3⟩
theorem RowT.alloc {B : Nat} {w : World} (h : B ≤ w.heap.size) (T : Nat) (xs : Array Value) (n : Nat) : RowT B T xs n (.slice (some ⟨w.heap.size, 0, none⟩) n n) (w.alloc (.cells xs T)) := by
  refine ⟨w.heap.size, h, rfl, ?_⟩
  show (w.heap.push _)[w.heap.size]? = _
  rw [Array.getElem?_push, if_pos rfl]
theorem RowT.row {B T : Nat} {xs : Array Value} {n : Nat} {v : Value} {w : World} (h : RowT B T xs n v w) : Row B xs n v w := let ⟨g, h1, h2, h3⟩ := h; ⟨g, T, h1, h2, h3⟩
/-- A variable of the call's own, of type T. -/
def CellT (B T : Nat) (xs : Array Value) (v : Value) (w : World) : Prop := ∃ g, B ≤ g ∧ v = .pointer (some ⟨g, 0, none⟩) ∧ w.heap[g]? = some (.cells xs T (0, 0))
theorem CellT.below {B T : Nat} {xs : Array Value} {v : Value} {w w' : World} (h : CellT B T xs v w) (hh : Below w.heap.size w w') : CellT B T xs v w' := by
  obtain ⟨g, h1, h2, h3⟩ := h
  exact ⟨g, h1, h2, (hh.block g (Array.getElem?_eq_some_iff.1 h3).1).trans h3⟩
theorem CellT.alloc {B : Nat} {w : World} (h : B ≤ w.heap.size) (T : Nat) (xs : Array Value) : CellT B T xs (.pointer (some ⟨w.heap.size, 0, none⟩)) (w.alloc (.cells xs T)) := by
  refine ⟨w.heap.size, h, rfl, ?_⟩
  show (w.heap.push _)[w.heap.size]? = _
  rw [Array.getElem?_push, if_pos rfl]

/-- The cells of block g from o on, laid one by one. -/
def setRow (g : Nat) : World → Nat → List Value → World
  | w, _, [] => w
  | w, o, v :: l => setRow g (w.setCell ⟨g, o, none⟩ v) (o + 1) l
theorem setRow_below {g B : Nat} (hB : B ≤ g) {W0 : World} : ∀ (l : List Value) (w : World) (o : Nat), Below B W0 w → Below B W0 (setRow g w o l) := by
  intro l
  induction l with
  | nil => intro w o h; exact h
  | cons v l ih => intro w o h; exact ih _ _ (h.setCell hB v)
theorem setRow_apart {g k : Nat} (hk : k ≠ g) : ∀ (l : List Value) (w : World) (o : Nat), (setRow g w o l).heap[k]? = w.heap[k]? := by
  intro l
  induction l with
  | nil => intro w o; rfl
  | cons v l ih => intro w o; exact (ih _ _).trans (Below.heap_setCell w ⟨g, o, none⟩ v k hk)
theorem setRow_size {g : Nat} : ∀ (l : List Value) (w : World) (o : Nat), (setRow g w o l).heap.size = w.heap.size := by
  intro l
  induction l with
  | nil => intro w o; rfl
  | cons v l ih => intro w o; exact (ih _ _).trans (by simp [World.setCell])
theorem setRow_block {g T : Nat} {p : Nat × Nat} : ∀ (l : List Value) (w : World) (o : Nat) (cs : List Value), w.heap[g]? = some (.cells cs.toArray T p) → (setRow g w o l).heap[g]? = some (.cells ((cs.take o ++ l ++ cs.drop (o + l.length)).take cs.length).toArray T p) := by
  intro l
  induction l with
  | nil =>
    intro w o cs h
    simp only [setRow, List.append_nil, List.length_nil, Nat.add_zero, List.take_append_drop, List.take_length]
    exact h
  | cons v l ih =>
    intro w o cs h
    have h1 : (w.setCell ⟨g, o, none⟩ v).heap[g]? = some (.cells (cs.set o v).toArray T p) := by
      simp [World.setCell, Array.getElem?_modify, h]
    have h2 := ih _ (o + 1) _ h1
    simp only [setRow]
    rw [h2]
    congr 2
    by_cases ho : o < cs.length
    · have e1 : (cs.set o v).take (o + 1) = cs.take o ++ [v] := by
        rw [List.take_succ_eq_append_getElem (by simpa using ho), List.take_set_of_le (Nat.le_refl o)]
        simp
      have e2 : (cs.set o v).drop (o + 1 + l.length) = cs.drop (o + (v :: l).length) := by
        rw [List.drop_set_of_lt (by omega)]
        congr 1
        simp only [List.length_cons]; omega
      rw [e1, e2, List.length_set]
      simp
    · have e1 : cs.set o v = cs := List.set_eq_of_length_le (by omega)
      rw [e1, List.take_of_length_le (show cs.length ≤ o + 1 by omega), List.take_of_length_le (show cs.length ≤ o by omega)]
      simp
theorem setRow_all {g T : Nat} {l : List Value} {w : World} {cs : Array Value} (h : w.heap[g]? = some (.cells cs T (0, 0))) (hl : l.length = cs.size) : (setRow g w 0 l).heap[g]? = some (.cells l.toArray T (0, 0)) := by
  have h1 := setRow_block (g := g) (T := T) (p := (0, 0)) l w 0 cs.toList (by simpa using h)
  rw [h1]
  have e : (cs.toList.take 0 ++ l ++ cs.toList.drop (0 + l.length)).take cs.toList.length = l := by
    rw [List.take_zero, List.nil_append, List.drop_of_length_le (by simp; omega), List.append_nil, List.take_of_length_le (by simp; omega)]
  rw [e]
theorem RowT.setRow {B T T' g : Nat} {xs ys : Array Value} {n : Nat} {v : Value} {w : World} (h : RowT B T xs n v w) (hg : w.heap[g]? = some (.cells ys T' (0, 0))) (hT : T ≠ T') (l : List Value) : RowT B T xs n v (setRow g w 0 l) := by
  obtain ⟨b, h1, h2, h3⟩ := h
  refine ⟨b, h1, h2, (setRow_apart ?_ l w 0).trans h3⟩
  rintro rfl
  rw [hg] at h3
  cases h3
  exact hT rfl

end Go.Proofs.Ythlmgejikbmmaaa

/-
  The awake of layer 54: by contract.
-/
namespace Go.Proofs.Ythlmgejikbmmaaa
open Go.RowKit

theorem exK_WF : KerL.WF exK := by
  have hz : ∀ x ∈ List.replicate 2 zeroR, x.Short := by
    intro x hx
    rw [List.eq_of_mem_replicate hx]
    exact ⟨by simp [zeroR], by simp [zeroR]⟩
  refine ⟨?_, by simp [exK, I64], hz, hz, hz⟩
  intro o ho
  simp only [exK, exOps, List.mem_cons, List.not_mem_nil, or_false] at ho
  rcases ho with rfl | rfl <;> simp [I64]
theorem newInts {w : World} (l : List Int) (T : Nat) (hw : ∀ x ∈ l, I64 x) (hl : l.length ≤ 9223372036854775807) : Ints (w.alloc (.cells (rowI l) T)) Any (some ⟨w.heap.size, 0, none⟩) l := by
  refine IBlk.ints ⟨T, ?_⟩ trivial hw hl
  show (w.heap.push _)[w.heap.size]? = _
  rw [Array.getElem?_push, if_pos rfl]

set_option maxRecDepth 100000 in
set_option maxHeartbeats 3200000 in
theorem kAwake (w : World) : Calls Try.prog 23 #[] w fun e w' => e = .returned (.bool true) ∧ Below w.heap.size w w' := by
  go_enter Try.func23, Try.ntmps23
  go_wp2_with fail
  refine (kExample w).mono ?_
  rintro e w1 ⟨⟨k1, rfl, hk1⟩, hb1⟩
  have HB1 := Lib.hid hb1
  have HK1 := Lib.hid hk1
  clear hb1 hk1
  go_wp2_with fail
  refine (kBuffers (HK1.out.below ((Below.refl _ _).alloc (Nat.le_refl _) _)) exK_WF (newInts [1, -1] _ (by simp [I64]) (by simp))).mono ?_
  intro e w2 hp
  rcases hp with ⟨_, ⟨_, hb2, M, B, cap, gs, rfl, hm, hgl⟩ | ⟨hc, _, _⟩⟩ | ⟨hc, _, _⟩
  · have HB2 := Lib.hid (((HB1.out.alloc HB1.out.size _)).trans (hb2.mono (Nat.le_trans HB1.out.size (by simp))))
    have HM := Lib.hid hm
    have HGL := Lib.hid hgl
    clear hb2 hm hgl
    go_wp2_with fail
    refine (kExample w2).mono ?_
    rintro e w3 ⟨⟨k2, rfl, hk2⟩, hb3⟩
    have HB3 := Lib.hid (HB2.out.trans (hb3.mono HB2.out.size))
    have HK2 := Lib.hid hk2
    have HM3 := Lib.hid (HM.out.below hb3)
    clear hb3 hk2 HM HB2 HK1 HB1
    go_wp2_with fail
    refine (kOut (HK2.out.below ((Below.refl _ _).alloc (Nat.le_refl _) _)) exK_WF (newInts [1, -1] _ (by simp [I64]) (by simp))).mono ?_
    intro e w4 hp
    rcases hp with ⟨_, _, hb4, a4, c4, rfl, h4⟩ | ⟨_, hc, _⟩ | ⟨hc, _⟩
    · have hal := (Below.refl w3.heap.size w3).alloc (Nat.le_refl _)
      have HM4 := Lib.hid ((HM3.out.below (hal _)).below hb4)
      have HB4 := Lib.hid (((HB3.out.alloc HB3.out.size _)).trans (hb4.mono (Nat.le_trans HB3.out.size (by simp))))
      have HA := Lib.hid h4
      clear hb4 h4 HM3 HB3 HK2 hal
      go_wp2_with fail
      refine (kExample w4).mono ?_
      rintro e w5 ⟨⟨k3, rfl, hk3⟩, hb5⟩
      have HB5 := Lib.hid (HB4.out.trans (hb5.mono HB4.out.size))
      have HM5 := Lib.hid (HM4.out.below hb5)
      have HA5 := Lib.hid (HA.out.below hb5)
      have HK3 := Lib.hid hk3
      clear hb5 hk3 HM4 HB4 HA
      go_wp2_with fail
      refine (kValid HK3.out exK_WF).mono ?_
      rintro e w6 ⟨rfl, hb6⟩
      have HM6 := Lib.hid (HM5.out.below hb6)
      have HA6 := Lib.hid (HA5.out.below hb6)
      have HB6 := Lib.hid (HB5.out.trans (hb6.mono HB5.out.size))
      have hval := exK_valid
      have hlen : exK.sizes.length = 3 := rfl
      have hg1 : 1 < gs.length := by rw [HGL.out]; exact (by decide : 1 < 3)
      obtain ⟨g, hg⟩ : ∃ g, gs[1]? = some g := ⟨gs[1], List.getElem?_eq_getElem hg1⟩
      obtain ⟨r1, rb1⟩ := HM6.out.row 1 g [4, 5] hg (by decide +kernel)
      simp only [List.length_cons, List.length_nil, Nat.zero_add, Nat.reduceAdd] at r1
      have HI1 := Lib.hid (rb1.ints (F := Any) trivial (by simp [I64]) (by simp))
      have HA7 : Hid (Ints w6 Any a4 [2, 3]) := by have h := HA6.out; rw [exK_out] at h; exact h
      have hol : (outL exK [1, -1]).length = 2 := by rw [exK_out]; rfl
      clear hb6 HM5 HA5 HB5 HK3 HM6 HGL hg1 hg rb1 HA6
      generalize outL exK [1, -1] = OL at *
      go_wp2_with fail
      have hal := fun (T : TypeId) => (Below.refl w6.heap.size w6).alloc (Nat.le_refl _) (.cells (rowI [4, 5]) T)
      refine (rSameInts (HI1.out.below (hal _)) (newInts [4, 5] _ (by simp [I64]) (by simp)) 2 2).mono ?_
      rintro e w7 ⟨rfl, hb7⟩
      have HB7 := Lib.hid ((HB6.out.alloc HB6.out.size _).trans (hb7.mono (Nat.le_trans HB6.out.size (by simp))))
      have HA8 := Lib.hid ((HA7.out.below (hal _)).below hb7)
      clear hb7 hal HB6 HA7 HI1 r1
      go_wp2_with fail
      have hal := fun (T : TypeId) => (Below.refl w7.heap.size w7).alloc (Nat.le_refl _) (.cells (rowI [2, 3]) T)
      refine (rSameInts (HA8.out.below (hal _)) (newInts [2, 3] _ (by simp [I64]) (by simp)) c4 2).mono ?_
      rintro e w8 ⟨rfl, hb8⟩
      have HB8 := Lib.hid ((HB7.out.alloc HB7.out.size _).trans (hb8.mono (Nat.le_trans HB7.out.size (by simp))))
      clear hb8 hal HB7 HA8
      go_wp2
      go_ret
      exact ⟨rfl, HB8.out⟩
    · exact absurd (show (([1, -1] : List Int).length : Int) = exK.sizes.getD 0 0 from rfl) hc
    · rw [exK_valid] at hc; cases hc
  · exact absurd (show (([1, -1] : List Int).length : Int) = exK.sizes.getD 0 0 from rfl) hc
  · rw [exK_valid] at hc; cases hc

end Go.Proofs.Ythlmgejikbmmaaa

/-
  The walk of KernelLinear: by contract.
-/
namespace Go.Proofs.Ythlmgejikbmmaaa
open Go.RowKit

theorem mkI64 (n : Nat) (hn : n ≤ 1000000) (w : World) : (Instr.makeSlice 47 (.int .i64 (n : Int)) (.int .i64 (n : Int))).run Try.prog w = .ok (.slice (some ⟨w.heap.size, 0, none⟩) n n) (w.alloc (.cells (madeCells #[.int .i64 0] n) 2)) := by
  obtain ⟨i0, hi0, hz0, hz1, hz2⟩ := info_parts Try.infoI64'
  have h := run_makeSlice (P := Try.prog) (w := w) 47 2 i0 (.int .i64 0) Try.underlying47 hi0 hz0 .i64 .i64 (n : Int) (n : Int) (by omega) (Int.le_refl _) (by rw [hz1, Int.toNat_natCast]; omega) (by rw [hz2]; omega) (by omega)
  rw [hz1, Int.toNat_natCast, Nat.mul_one] at h
  exact h
theorem mkRatsM (n : Nat) (hn : n ≤ 1000000) (w : World) : (Instr.makeSlice 24 (.int .i64 (n : Int)) (.int .i64 (n : Int))).run Try.prog w = .ok (.slice (some ⟨w.heap.size, 0, none⟩) n n) (w.alloc (.cells (madeCells #[.bool false, .slice none 0 0, .slice none 0 0] (n * 3)) 78)) := mkRats n hn w

def linG (aw : Option Addr) (wl cw n rows : Nat) (B : Nat) (i : Nat) (v : Value) (w : World) : Prop :=
  match i with
  | 0 => v = .int .i64 (n : Int)
  | 1 => v = .int .i64 (rows : Int)
  | 2 => RowT B 3 (#[.int .i64 (n : Int), .int .i64 (rows : Int)]) (2) v w
  | 3 => v = .int .i64 (n : Int)
  | 4 => v = .slice aw wl cw
  | 5 => v = .int .i64 (rows : Int)
  | 6 => RowT B 2 (madeCells #[.int .i64 0] rows) (rows) v w
  | 7 => ∃ r6, RowT B 2 (madeCells #[.int .i64 0] rows) (rows) r6 w ∧ v = .agg #[.int .i64 2, .int .i64 1, .int .i64 0, .int .i64 0, .int .i64 1, .int .i64 (n : Int), .slice none 0 0, .slice aw wl cw, r6, .int .i64 0, .int .i64 0]
  | 8 => ∃ r6, RowT B 2 (madeCells #[.int .i64 0] rows) (rows) r6 w ∧ RowT B 50 (#[.int .i64 2, .int .i64 1, .int .i64 0, .int .i64 0, .int .i64 1, .int .i64 (n : Int), .slice none 0 0, .slice aw wl cw, r6, .int .i64 0, .int .i64 0]) (1) v w
  | 9 => v = .int .i64 (n : Int)
  | 10 => RowT B 78 (madeCells #[.bool false, .slice none 0 0, .slice none 0 0] (n * 3)) (n) v w
  | 11 => v = .int .i64 (n : Int)
  | 12 => RowT B 78 (madeCells #[.bool false, .slice none 0 0, .slice none 0 0] (n * 3)) (n) v w
  | 13 => v = .int .i64 (rows : Int)
  | 14 => RowT B 78 (madeCells #[.bool false, .slice none 0 0, .slice none 0 0] (rows * 3)) (rows) v w
  | 15 => ∃ r2 r6 r8 r10 r12 r14, RowT B 3 (#[.int .i64 (n : Int), .int .i64 (rows : Int)]) (2) r2 w ∧ RowT B 2 (madeCells #[.int .i64 0] rows) (rows) r6 w ∧ RowT B 50 (#[.int .i64 2, .int .i64 1, .int .i64 0, .int .i64 0, .int .i64 1, .int .i64 (n : Int), .slice none 0 0, .slice aw wl cw, r6, .int .i64 0, .int .i64 0]) (1) r8 w ∧ RowT B 78 (madeCells #[.bool false, .slice none 0 0, .slice none 0 0] (n * 3)) (n) r10 w ∧ RowT B 78 (madeCells #[.bool false, .slice none 0 0, .slice none 0 0] (n * 3)) (n) r12 w ∧ RowT B 78 (madeCells #[.bool false, .slice none 0 0, .slice none 0 0] (rows * 3)) (rows) r14 w ∧ v = .agg #[r2, r8, .int .i64 1, .int .i64 0, .int .i64 0, r10, r12, r14]
  | 16 => CellT B 45 #[.slice none 0 0, .slice none 0 0, .int .i64 0, .int .i64 0, .int .i64 0, .slice none 0 0, .slice none 0 0, .slice none 0 0] v w
  | _ => True
theorem linG_below {aw : Option Addr} {wl cw n rows : Nat} {B i : Nat} {v : Value} {w w' : World} (h : linG aw wl cw n rows B i v w) (hb : Below w.heap.size w w') : linG aw wl cw n rows B i v w' := by
  match i, h with
  | 0, h => exact h
  | 1, h => exact h
  | 2, h => exact RowT.below h hb
  | 3, h => exact h
  | 4, h => exact h
  | 5, h => exact h
  | 6, h => exact RowT.below h hb
  | 7, ⟨r6, h6, hv⟩ => exact ⟨r6, h6.below hb, hv⟩
  | 8, ⟨r6, h6, hv⟩ => exact ⟨r6, h6.below hb, hv.below hb⟩
  | 9, h => exact h
  | 10, h => exact RowT.below h hb
  | 11, h => exact h
  | 12, h => exact RowT.below h hb
  | 13, h => exact h
  | 14, h => exact RowT.below h hb
  | 15, ⟨r2, r6, r8, r10, r12, r14, h2, h6, h8, h10, h12, h14, hv⟩ => exact ⟨r2, r6, r8, r10, r12, r14, h2.below hb, h6.below hb, h8.below hb, h10.below hb, h12.below hb, h14.below hb, hv⟩
  | 16, h => exact CellT.below h hb
  | _ + 17, _ => trivial

def lzG (u10 : Value) (bx ox by' oy n cx cy k : Nat) (x y : Int) (B : Nat) (i : Nat) (v : Value) (w : World) : Prop :=
  match i with
  | 0 => v = u10
  | 1 => v = .slice (some ⟨bx, ox, none⟩) n cx
  | 2 => v = .int .i64 (k : Int)
  | 3 => v = .pointer (some ⟨bx, ox + k, none⟩)
  | 4 => v = .int .i64 x
  | 5 => v = .slice (some ⟨by', oy, none⟩) n cy
  | 6 => v = .int .i64 (k : Int)
  | 7 => v = .pointer (some ⟨by', oy + k, none⟩)
  | 8 => v = .int .i64 y
  | 9 => v = .int .i64 (wrap64 (x + y))
  | 10 => RowT B 2 (#[.int .i64 (wrap64 (x + y))]) (1) v w
  | _ => True
theorem lzG_below {u10 : Value} {bx ox by' oy n cx cy k : Nat} {x y : Int} {B i : Nat} {v : Value} {w w' : World} (h : lzG u10 bx ox by' oy n cx cy k x y B i v w) (hb : Below w.heap.size w w') : lzG u10 bx ox by' oy n cx cy k x y B i v w' := by
  match i, h with
  | 0, h => exact h
  | 1, h => exact h
  | 2, h => exact h
  | 3, h => exact h
  | 4, h => exact h
  | 5, h => exact h
  | 6, h => exact h
  | 7, h => exact h
  | 8, h => exact h
  | 9, h => exact h
  | 10, h => exact RowT.below h hb
  | _ + 11, _ => trivial

/-- The kernel of the statement. -/
def linK (Wt : List Int) (n rows : Nat) : KerL := ⟨[n, rows], [⟨2, 1, 0, 0, 1, n, [], Wt, List.replicate rows 0, 0, 0⟩], 1, 0, 0, List.replicate n zeroR, List.replicate n zeroR, List.replicate rows zeroR⟩
/-- A kernel in a variable. -/
def KBox (W : World) (g : Nat) (k : KerL) : Prop := ∃ p0 p1 p2 p3 p4 p5 p6 p7, Box8 W g p0 p1 p2 p3 p4 p5 p6 p7 ∧ KerV W (.agg #[p0, p1, p2, p3, p4, p5, p6, p7]) k
def LinCut (w1 : World) (aw : Option Addr) (cw : Nat) (Wt : List Int) (n rows : Nat) (s9 : Value) (wx : World) : Prop := ∃ g, s9 = .pointer (some ⟨g, 0, none⟩) ∧ (w1.heap.size ≤ g) ∧ Below w1.heap.size w1 wx ∧ (Ints w1 Any aw Wt → Wt.length ≤ cw → KBox wx g (linK Wt n rows))
theorem madeCells_zero (n : Nat) : madeCells #[.int .i64 0] n = rowI (List.replicate n 0) := by
  apply Array.ext
  · simp [madeCells, rowI]
  · intro i h1 h2
    simp [madeCells, rowI, Nat.mod_one]
theorem KBox.below {W W' : World} {g : Nat} {k : KerL} (h : KBox W g k) (hb : Below W.heap.size W W') : KBox W' g k := by
  obtain ⟨p0, p1, p2, p3, p4, p5, p6, p7, h1, h2⟩ := h
  exact ⟨p0, p1, p2, p3, p4, p5, p6, p7, h1.below hb, h2.below hb⟩
theorem Box8.of_block {w : World} {g T : Nat} {p0 p1 p2 p3 p4 p5 p6 p7 : Value} (h : w.heap[g]? = some (.cells #[p0, p1, p2, p3, p4, p5, p6, p7] T (0, 0))) : Box8 w g p0 p1 p2 p3 p4 p5 p6 p7 := by
  refine ⟨?_, ?_, ?_, ?_, ?_, ?_, ?_, ?_, (Array.getElem?_eq_some_iff.1 h).1⟩ <;> simp [World.cell?, h]
set_option maxRecDepth 10000 in
theorem linCut_mk {w1 W : World} {aw : Option Addr} {cw n rows gp b2 b6 b8 b10 b12 b14 : Nat} {Wt : List Int} {cs : Array Value} (hcs : cs.size = 8) (hn : n ≤ 1000000) (hrw : rows ≤ 1000000) (hR : From w1.heap.size w1 W) (hgp : w1.heap.size ≤ gp) (hblk : W.heap[gp]? = some (.cells cs 45 (0, 0)))
    (k2 : RowT w1.heap.size 3 #[.int .i64 (n : Int), .int .i64 (rows : Int)] 2 (.slice (some ⟨b2, 0, none⟩) 2 2) W)
    (k6 : RowT w1.heap.size 2 (madeCells #[.int .i64 0] rows) rows (.slice (some ⟨b6, 0, none⟩) rows rows) W)
    (k8 : RowT w1.heap.size 50 #[.int .i64 2, .int .i64 1, .int .i64 0, .int .i64 0, .int .i64 1, .int .i64 (n : Int), .slice none 0 0, .slice aw Wt.length cw, .slice (some ⟨b6, 0, none⟩) rows rows, .int .i64 0, .int .i64 0] 1 (.slice (some ⟨b8, 0, none⟩) 1 1) W)
    (k10 : RowT w1.heap.size 78 (madeCells #[.bool false, .slice none 0 0, .slice none 0 0] (n * 3)) n (.slice (some ⟨b10, 0, none⟩) n n) W)
    (k12 : RowT w1.heap.size 78 (madeCells #[.bool false, .slice none 0 0, .slice none 0 0] (n * 3)) n (.slice (some ⟨b12, 0, none⟩) n n) W)
    (k14 : RowT w1.heap.size 78 (madeCells #[.bool false, .slice none 0 0, .slice none 0 0] (rows * 3)) rows (.slice (some ⟨b14, 0, none⟩) rows rows) W) :
    Hid (LinCut w1 aw cw Wt n rows (.pointer (some ⟨gp, 0, none⟩)) (setRow gp W 0 [.slice (some ⟨b2, 0, none⟩) 2 2, .slice (some ⟨b8, 0, none⟩) 1 1, .int .i64 1, .int .i64 0, .int .i64 0, .slice (some ⟨b10, 0, none⟩) n n, .slice (some ⟨b12, 0, none⟩) n n, .slice (some ⟨b14, 0, none⟩) rows rows])) := by
  have hbe : Below w1.heap.size w1 (setRow gp W 0 [.slice (some ⟨b2, 0, none⟩) 2 2, .slice (some ⟨b8, 0, none⟩) 1 1, .int .i64 1, .int .i64 0, .int .i64 0, .slice (some ⟨b10, 0, none⟩) n n, .slice (some ⟨b12, 0, none⟩) n n, .slice (some ⟨b14, 0, none⟩) rows rows]) := setRow_below hgp _ _ _ hR.be
  refine ⟨gp, rfl, hgp, hbe, fun hW hcw => ?_⟩
  have hW' := hW.below hbe
  have h2 := (k2.setRow hblk (by decide) [.slice (some ⟨b2, 0, none⟩) 2 2, .slice (some ⟨b8, 0, none⟩) 1 1, .int .i64 1, .int .i64 0, .int .i64 0, .slice (some ⟨b10, 0, none⟩) n n, .slice (some ⟨b12, 0, none⟩) n n, .slice (some ⟨b14, 0, none⟩) rows rows])
  have h6 := (k6.setRow hblk (by decide) [.slice (some ⟨b2, 0, none⟩) 2 2, .slice (some ⟨b8, 0, none⟩) 1 1, .int .i64 1, .int .i64 0, .int .i64 0, .slice (some ⟨b10, 0, none⟩) n n, .slice (some ⟨b12, 0, none⟩) n n, .slice (some ⟨b14, 0, none⟩) rows rows])
  have h8 := (k8.setRow hblk (by decide) [.slice (some ⟨b2, 0, none⟩) 2 2, .slice (some ⟨b8, 0, none⟩) 1 1, .int .i64 1, .int .i64 0, .int .i64 0, .slice (some ⟨b10, 0, none⟩) n n, .slice (some ⟨b12, 0, none⟩) n n, .slice (some ⟨b14, 0, none⟩) rows rows])
  have h10 := (k10.setRow hblk (by decide) [.slice (some ⟨b2, 0, none⟩) 2 2, .slice (some ⟨b8, 0, none⟩) 1 1, .int .i64 1, .int .i64 0, .int .i64 0, .slice (some ⟨b10, 0, none⟩) n n, .slice (some ⟨b12, 0, none⟩) n n, .slice (some ⟨b14, 0, none⟩) rows rows])
  have h12 := (k12.setRow hblk (by decide) [.slice (some ⟨b2, 0, none⟩) 2 2, .slice (some ⟨b8, 0, none⟩) 1 1, .int .i64 1, .int .i64 0, .int .i64 0, .slice (some ⟨b10, 0, none⟩) n n, .slice (some ⟨b12, 0, none⟩) n n, .slice (some ⟨b14, 0, none⟩) rows rows])
  have h14 := (k14.setRow hblk (by decide) [.slice (some ⟨b2, 0, none⟩) 2 2, .slice (some ⟨b8, 0, none⟩) 1 1, .int .i64 1, .int .i64 0, .int .i64 0, .slice (some ⟨b10, 0, none⟩) n n, .slice (some ⟨b12, 0, none⟩) n n, .slice (some ⟨b14, 0, none⟩) rows rows])
  have hbk := setRow_all (l := [.slice (some ⟨b2, 0, none⟩) 2 2, .slice (some ⟨b8, 0, none⟩) 1 1, .int .i64 1, .int .i64 0, .int .i64 0, .slice (some ⟨b10, 0, none⟩) n n, .slice (some ⟨b12, 0, none⟩) n n, .slice (some ⟨b14, 0, none⟩) rows rows]) hblk (by rw [hcs]; rfl)
  clear hbe k2 k6 k8 k10 k12 k14 hblk hR
  generalize setRow gp W 0 _ = W' at *
  obtain ⟨a2, e2, i2⟩ := (h2.row).ints (l := [(n : Int), (rows : Int)]) rfl (by simp [I64]; omega) (by simp)
  rw [madeCells_zero] at h6
  obtain ⟨a6, e6, i6⟩ := (h6.row).ints (l := List.replicate rows 0) (by simp) (fun x hx => by rw [List.eq_of_mem_replicate hx]; simp [I64]) (by simp; omega)
  obtain ⟨a10, e10, i10⟩ := (h10.row).rats (by omega)
  obtain ⟨a12, e12, i12⟩ := (h12.row).rats (by omega)
  obtain ⟨a14, e14, i14⟩ := (h14.row).rats (by omega)
  obtain ⟨g8, _, e8, hg8⟩ := h8
  have el : (List.replicate rows (0 : Int)).length = rows := by simp
  cases e2; cases e8; cases e10; cases e12; cases e14
  rw [el] at e6
  cases e6
  have h5 : OpsAt W' (some ⟨b8, 0, none⟩) [⟨2, 1, 0, 0, 1, n, [], Wt, List.replicate rows 0, 0, 0⟩] := by
    refine OpsAt.one (o := ⟨2, 1, 0, 0, 1, n, [], Wt, List.replicate rows 0, 0, 0⟩) (a1 := none) (c1 := 0) (a2 := aw) (c2 := cw) (a3 := some ⟨b6, 0, none⟩) (c3 := rows) (T := 50) ?_ ?_
    · simp only [el]; exact hg8
    · refine ⟨none, aw, some ⟨b6, 0, none⟩, 0, cw, rows, rfl, Ints.nil _ _ _, hW', i6, by simp, hcw, by simp⟩
  exact ⟨_, _, _, _, _, _, _, _, Box8.of_block hbk, ⟨some ⟨b2, 0, none⟩, _, _, _, _, 2, 1, n, n, rows, by simp [linK], i2, h5, i10, i12, i14⟩⟩

/-- The plain law. -/
theorem linK_WF (Wt : List Int) {n rows : Nat} : KerL.WF (linK Wt n rows) := by
  have hz : ∀ m, ∀ x ∈ List.replicate m zeroR, x.Short := by
    intro m x hx
    rw [List.eq_of_mem_replicate hx]
    exact ⟨by simp [zeroR], by simp [zeroR]⟩
  refine ⟨?_, by simp [linK, I64], hz _, hz _, hz _⟩
  intro o ho
  simp only [linK, List.mem_cons, List.not_mem_nil, or_false] at ho
  subst ho
  simp [I64]
theorem bounds_zero {k : KerL} {a b c : Nat} (h1 : k.lo = List.replicate a zeroR) (h2 : k.hi = List.replicate b zeroR) (h3 : k.err = List.replicate c zeroR) (ha : (a : Int) = k.sizes.getD 0 0) (hb : (b : Int) = k.sizes.getD 0 0) (hc : (c : Int) = k.sizes.getD k.output.toNat 0) : boundsL k = true := by
  unfold boundsL
  rw [h1, h2, h3]
  simp only [List.length_replicate, Bool.and_eq_true, decide_eq_true_eq]
  refine ⟨⟨ha, hb, hc⟩, ?_, ?_⟩
  · rw [List.all_eq_true]
    intro p hp
    have h4 := List.eq_of_mem_replicate (List.of_mem_zip hp).1
    have h5 := List.eq_of_mem_replicate (List.of_mem_zip hp).2
    rw [h4, h5]
    decide +kernel
  · rw [List.all_eq_true]
    intro p hp
    rw [List.eq_of_mem_replicate hp]
    decide +kernel
theorem linK_valid {Wt : List Int} {n rows : Nat} (h : Wt.length = rows * n) (h1 : 1 ≤ n) (h2 : n ≤ 5) (h3 : 1 ≤ rows) (h4 : rows ≤ 25) : validK (linK Wt n rows) = true := by
  have hb : boundsL (linK Wt n rows) = true := bounds_zero (a := n) (b := n) (c := rows) rfl rfl rfl rfl rfl rfl
  have e1 : wthn (n : Int) 1 262144 = true := wthn_iff.2 ⟨by omega, by omega⟩
  have e2 : wthn (rows : Int) 1 262144 = true := wthn_iff.2 ⟨by omega, by omega⟩
  have hf : fitsL ⟨2, 1, 0, 0, 1, n, [], Wt, List.replicate rows 0, 0, 0⟩ (rows : Int) (n : Int) 0 = true := by
    unfold fitsL
    rw [if_neg (by simp), if_pos rfl, decide_eq_true_eq]
    refine ⟨rfl, rfl, rfl, rfl, by simp, by simp, by simp only; omega, by simp only; omega, by simp, by simp, by simp, ?_⟩
    simp only [List.length_replicate]
    rw [h]; simp
  have ho : opOK [(n : Int), (rows : Int)] (putS (fun _ => false) 0) ⟨2, 1, 0, 0, 1, n, [], Wt, List.replicate rows 0, 0, 0⟩ = true := by
    unfold opOK
    simp only [Bool.and_eq_true]
    exact ⟨rfl, rfl, rfl, rfl, hf⟩
  have hr : opsRun (linK Wt n rows).sizes (linK Wt n rows).ops = some (putS (putS (fun _ => false) 0) 1) := by
    exact if_pos ho
  unfold validK
  rw [hr]
  simp only [Bool.and_eq_true, decide_eq_true_eq]
  refine ⟨by simp [linK, wthn], by simp [linK], ?_, ?_⟩
  · simp only [linK, List.all_cons, List.all_nil, Bool.and_true, e1, e2, Bool.and_self]
  · unfold tailOK
    rw [hb]
    rfl
theorem linK_out {Wt inp : List Int} {n rows : Nat} (hi : inp.length = n) : outL (linK Wt n rows) inp = gemmL Wt (List.replicate rows 0) inp n 1 rows := by
  show ([List.replicate ((n : Int)).toNat (0 : Int), List.replicate ((rows : Int)).toNat 0].set 0 inp |>.set 1 (doL _ (List.replicate ((rows : Int)).toNat 0) inp inp)).getD 1 [] = _
  simp [doL]
theorem wrap64_cong {a b : Int} (h : (a - b) % 18446744073709551616 = 0) : wrap64 a = wrap64 b := by unfold wrap64; omega
theorem wrap64_mod (a : Int) : (wrap64 a - a) % 18446744073709551616 = 0 := by unfold wrap64; omega
theorem gsum_lin {Wt X Y Z : List Int} {inner r c : Nat} (hz : ∀ i, Z.getD i 0 = wrap64 (X.getD i 0 + Y.getD i 0)) : ∀ k, (gsum Wt Z 0 inner 1 r c k - (gsum Wt X 0 inner 1 r c k + gsum Wt Y 0 inner 1 r c k)) % 18446744073709551616 = 0 := by
  intro k
  induction k with
  | zero => rfl
  | succ k ih =>
    simp only [gsum]
    rw [hz]
    generalize gsum Wt Z 0 inner 1 r c k = a at *
    generalize gsum Wt X 0 inner 1 r c k = b at *
    generalize gsum Wt Y 0 inner 1 r c k = d at *
    generalize X.getD (k * 1 + c) 0 = x at *
    generalize Y.getD (k * 1 + c) 0 = y at *
    generalize Wt.getD (r * inner + k) 0 = q at *
    have h1 := wrap64_mod (x + y)
    have h2 := wrap64_mod (q * wrap64 (x + y))
    have h3 := wrap64_mod (q * x)
    have h4 := wrap64_mod (q * y)
    have h5 := wrap64_mod (a + wrap64 (q * wrap64 (x + y)))
    have h6 := wrap64_mod (b + wrap64 (q * x))
    have h7 := wrap64_mod (d + wrap64 (q * y))
    have h8 : (q * wrap64 (x + y) - (q * x + q * y)) % 18446744073709551616 = 0 := by
      have h9 : q * wrap64 (x + y) - (q * x + q * y) = q * (wrap64 (x + y) - (x + y)) := by rw [Int.mul_sub, Int.mul_add]
      rw [h9, Int.mul_emod, h1]
      simp
    generalize wrap64 (a + wrap64 (q * wrap64 (x + y))) = u1 at *
    generalize wrap64 (b + wrap64 (q * x)) = u2 at *
    generalize wrap64 (d + wrap64 (q * y)) = u3 at *
    generalize wrap64 (q * wrap64 (x + y)) = u4 at *
    generalize wrap64 (q * x) = u5 at *
    generalize wrap64 (q * y) = u6 at *
    generalize q * wrap64 (x + y) = u7 at *
    generalize q * x = u8 at *
    generalize q * y = u9 at *
    omega
theorem lin_sum {Wt X Y Z : List Int} {n rows : Nat} (hn : 1 ≤ n) (hz : ∀ i, Z.getD i 0 = wrap64 (X.getD i 0 + Y.getD i 0)) (i : Nat) (hi : i < rows) :
    (gemmL Wt (List.replicate rows 0) Z n 1 rows).getD i 0 = wrap64 ((gemmL Wt (List.replicate rows 0) X n 1 rows).getD i 0 + (gemmL Wt (List.replicate rows 0) Y n 1 rows).getD i 0) := by
  have hg : ∀ S : List Int, (gemmL Wt (List.replicate rows 0) S n 1 rows).getD i 0 = gsum Wt S 0 n 1 i 0 n := by
    intro S
    have hb : (List.replicate rows (0 : Int)).getD (i / 1) 0 = 0 := by
      rw [List.getD_eq_getElem?_getD, List.getElem?_replicate]; split <;> rfl
    simp only [gemmL, List.getD_eq_getElem?_getD, List.getElem?_map, List.getElem?_range hi, Option.map_some, Option.getD_some]
    unfold gemmAt
    rw [hb, Nat.div_one, Nat.mod_one]
  rw [hg, hg, hg]
  have h1 := gsum_lin (Wt := Wt) (inner := n) (r := i) (c := 0) hz n
  have h2 : I64 (gsum Wt Z 0 n 1 i 0 n) := gsum_I64 hn
  have h3 := wrap64_cong h1
  unfold I64 at h2
  have h4 : wrap64 (gsum Wt Z 0 n 1 i 0 n) = gsum Wt Z 0 n 1 i 0 n := by unfold wrap64; omega
  rw [← h4]
  apply wrap64_cong
  exact h1

theorem lin_facts {Wt X Y Z : List Int} {rows : Nat} (hn : 1 ≤ X.length) (hy : Y.length = X.length) (hz : Z.length = X.length) (hg : ∀ i, Z.getD i 0 = wrap64 (X.getD i 0 + Y.getD i 0)) :
    (outL (linK Wt X.length rows) X).length = rows ∧ (outL (linK Wt X.length rows) Y).length = rows ∧ (outL (linK Wt X.length rows) Z).length = rows ∧
      ∀ i, i < rows → (outL (linK Wt X.length rows) Z).getD i 0 = wrap64 ((outL (linK Wt X.length rows) X).getD i 0 + (outL (linK Wt X.length rows) Y).getD i 0) := by
  rw [linK_out rfl, linK_out hy, linK_out hz]
  exact ⟨by simp [gemmL], by simp [gemmL], by simp [gemmL], fun i hi => lin_sum hn hg i hi⟩

set_option maxRecDepth 100000 in
set_option maxHeartbeats 3200000 in
theorem lawLinear {w : World} {aw ax ay : Option Addr} {Wt X Y : List Int} (cw cx cy : Nat) (hcw : Wt.length ≤ cw) (hW : Ints w Any aw Wt) (hX : Ints w Any ax X) (hY : Ints w Any ay Y) :
    Calls Try.prog 10 #[.slice aw Wt.length cw, .slice ax X.length cx, .slice ay Y.length cy] w fun e w' => e = .returned (.bool true) ∧ Below w.heap.size w w' := by
  have lw := hW.len
  have lx := hX.len
  have ly := hY.len
  have HW := Lib.hid hW
  have HX := Lib.hid hX
  have HY := Lib.hid hY
  clear hW hX hY
  go_enter Try.func10, Try.ntmps10
  go_wp2_with fail
  refine (kAwake w).mono ?_
  rintro e w1 ⟨rfl, hb1⟩
  have HB1 := Lib.hid hb1
  have HW1 := Lib.hid (HW.out.below hb1)
  have HX1 := Lib.hid (HX.out.below hb1)
  have HY1 := Lib.hid (HY.out.below hb1)
  have hbs := hb1.size
  clear hb1 HW HX HY
  have ret : ∀ {w' : World}, Below w1.heap.size w1 w' → Below w.heap.size w w' := fun h => HB1.out.trans (h.mono hbs)
  by_cases c1 : 1 ≤ X.length ∧ X.length ≤ 5
  · obtain ⟨c1a, c1b⟩ := c1
    have d1 : decide ((X.length : Int) < 1) = false := decide_eq_false (by omega)
    have d2 : decide (5 < (X.length : Int)) = false := decide_eq_false (by omega)
    by_cases c2 : Y.length = X.length
    · have hxi : ¬ (X.length : Int) = 0 := by omega
      have hxb : ((X.length : Int) == 0) = false := by rw [beq_eq_false_iff_ne]; omega
      have hxn : ¬ X = [] := by intro h; rw [h] at c1a; simp at c1a
      by_cases c3 : Wt.length % X.length = 0
      · obtain ⟨rows, hrows⟩ : ∃ r, Wt.length = r * X.length := ⟨Wt.length / X.length, by have := Nat.div_add_mod Wt.length X.length; rw [c3, Nat.add_zero, Nat.mul_comm] at this; exact this.symm⟩
        have c3i : (Wt.length : Int) % (X.length : Int) = 0 := by
          have : ((Wt.length % X.length : Nat) : Int) = 0 := by rw [c3]; rfl
          simpa using this
        have c3d : (Wt.length : Int) / (X.length : Int) = (rows : Int) := by
          rw [hrows, Int.natCast_mul, Int.mul_ediv_cancel _ hxi]
        have HR3 := Lib.hid hrows
        clear c3 hrows
        by_cases c4 : 1 ≤ Wt.length ∧ Wt.length ≤ 25
        · obtain ⟨c4a, c4b⟩ := c4
          have d3 : decide ((Wt.length : Int) < 1) = false := decide_eq_false (by omega)
          have d4 : decide (25 < (Wt.length : Int)) = false := decide_eq_false (by omega)
          have hr1 : 1 ≤ rows := by
            rcases Nat.eq_zero_or_pos rows with h | h
            · have := HR3.out; rw [h, Nat.zero_mul] at this; omega
            · exact h
          have hr2 : rows ≤ 25 := by
            have h1 := HR3.out
            have h2 := Nat.mul_le_mul_left rows c1a
            omega
          go_upto_region 7 with fail
          go_cut [9] (fun s9 wx => Hid (LinCut w1 aw cw Wt X.length rows s9 wx))
          case first =>
            generalize hnn : X.length = n at *
            have HNN := Lib.hid hnn
            clear hnn
            refine wp_region_slots_lit (by kernel_rfl) (by kernel_rfl) (by kernel_rfl) (by kernel_rfl) (by kernel_rfl) (From w1.heap.size w1) (fun w w' => Below w.heap.size w w') (linG aw Wt.length cw n rows w1.heap.size) (fun i v w w' h hb => linG_below h hb) (From.start (by first | exact Nat.le_refl _ | (simp; done) | omega)) ?_ ?_
            · intro ops
              simp only [List.dropLast, Shows]
              refine ⟨?_, ?_, ?_, ?_, ?_, ?_, ?_, ?_, ?_, ?_, ?_, ?_, ?_, ?_, ?_, ?_, ?_, trivial⟩
              · intro g W hR hL
                have hB := hR.base
                simp only [Laid, Region.binds, forall_const, Bool.false_eq_true, false_implies, linG] at hL
                simp [fillFrom, Act.put]
                clear hL
                have HR := Lib.hid hR
                clear hR
                go_wp2
                exact ⟨_, rfl, HR.out, Below.refl _ _, rfl⟩
              · intro g W hR hL
                have hB := hR.base
                simp only [Laid, Region.binds, forall_const, Bool.false_eq_true, false_implies, linG] at hL
                simp [fillFrom, Act.put]
                clear hL
                have HR := Lib.hid hR
                clear hR
                go_wp2
                exact ⟨_, rfl, HR.out, Below.refl _ _, rfl⟩
              · intro g W hR hL
                have hB := hR.base
                simp only [Laid, Region.binds, forall_const, Bool.false_eq_true, false_implies, linG] at hL
                simp [fillFrom, Act.put]
                generalize g 0 = y0 at hL ⊢
                generalize g 1 = y1 at hL ⊢
                obtain ⟨rfl, rfl, _⟩ := hL
                have HR := Lib.hid hR
                clear hR
                go_wp2
                have hal := (Below.refl W.heap.size W).alloc (Nat.le_refl _)
                exact ⟨_, rfl, HR.out.alloc _, hal _, RowT.alloc hB _ _ _⟩
              · intro g W hR hL
                have hB := hR.base
                simp only [Laid, Region.binds, forall_const, Bool.false_eq_true, false_implies, linG] at hL
                simp [fillFrom, Act.put]
                clear hL
                have HR := Lib.hid hR
                clear hR
                go_wp2
                exact ⟨_, rfl, HR.out, Below.refl _ _, rfl⟩
              · intro g W hR hL
                have hB := hR.base
                simp only [Laid, Region.binds, forall_const, Bool.false_eq_true, false_implies, linG] at hL
                simp [fillFrom, Act.put]
                clear hL
                have HR := Lib.hid hR
                clear hR
                go_wp2
                exact ⟨_, rfl, HR.out, Below.refl _ _, rfl⟩
              · intro g W hR hL
                have hB := hR.base
                simp only [Laid, Region.binds, forall_const, Bool.false_eq_true, false_implies, linG] at hL
                simp [fillFrom, Act.put]
                clear hL
                have HR := Lib.hid hR
                clear hR
                go_wp2
                exact ⟨_, rfl, HR.out, Below.refl _ _, rfl⟩
              · intro g W hR hL
                have hB := hR.base
                simp only [Laid, Region.binds, forall_const, Bool.false_eq_true, false_implies, linG] at hL
                simp [fillFrom, Act.put]
                generalize g 5 = y5 at hL ⊢
                obtain ⟨rfl, _, _⟩ := hL
                have HR := Lib.hid hR
                clear hR
                have hmk := mkI64 rows (by omega)
                go_wp2
                have hal := (Below.refl W.heap.size W).alloc (Nat.le_refl _)
                exact ⟨_, rfl, HR.out.alloc _, hal _, RowT.alloc hB _ _ _⟩
              · intro g W hR hL
                have hB := hR.base
                simp only [Laid, Region.binds, forall_const, Bool.false_eq_true, false_implies, linG] at hL
                simp [fillFrom, Act.put]
                generalize g 3 = y3 at hL ⊢
                generalize g 4 = y4 at hL ⊢
                generalize g 6 = y6 at hL ⊢
                obtain ⟨rfl, rfl, H6, _⟩ := hL
                have K6 := Lib.hid H6
                obtain ⟨b6, p6, rfl, q6⟩ := H6
                have HR := Lib.hid hR
                clear hR p6 q6
                go_wp2
                exact ⟨_, rfl, HR.out, Below.refl _ _, _, K6.out, rfl⟩
              · intro g W hR hL
                have hB := hR.base
                simp only [Laid, Region.binds, forall_const, Bool.false_eq_true, false_implies, linG] at hL
                simp [fillFrom, Act.put]
                generalize g 7 = y7 at hL ⊢
                obtain ⟨⟨r6, H6, rfl⟩, _⟩ := hL
                have K6 := Lib.hid H6
                obtain ⟨b6, p6, rfl, q6⟩ := H6
                have HR := Lib.hid hR
                clear hR p6 q6
                go_wp2
                have hal := (Below.refl W.heap.size W).alloc (Nat.le_refl _)
                exact ⟨_, rfl, HR.out.alloc _, hal _, _, K6.out.below (hal _), RowT.alloc hB _ _ _⟩
              · intro g W hR hL
                have hB := hR.base
                simp only [Laid, Region.binds, forall_const, Bool.false_eq_true, false_implies, linG] at hL
                simp [fillFrom, Act.put]
                clear hL
                have HR := Lib.hid hR
                clear hR
                go_wp2
                exact ⟨_, rfl, HR.out, Below.refl _ _, rfl⟩
              · intro g W hR hL
                have hB := hR.base
                simp only [Laid, Region.binds, forall_const, Bool.false_eq_true, false_implies, linG] at hL
                simp [fillFrom, Act.put]
                generalize g 9 = y9 at hL ⊢
                obtain ⟨rfl, _, _⟩ := hL
                have HR := Lib.hid hR
                clear hR
                have hmk := mkRatsM n (by omega)
                go_wp2
                have hal := (Below.refl W.heap.size W).alloc (Nat.le_refl _)
                exact ⟨_, rfl, HR.out.alloc _, hal _, RowT.alloc hB _ _ _⟩
              · intro g W hR hL
                have hB := hR.base
                simp only [Laid, Region.binds, forall_const, Bool.false_eq_true, false_implies, linG] at hL
                simp [fillFrom, Act.put]
                clear hL
                have HR := Lib.hid hR
                clear hR
                go_wp2
                exact ⟨_, rfl, HR.out, Below.refl _ _, rfl⟩
              · intro g W hR hL
                have hB := hR.base
                simp only [Laid, Region.binds, forall_const, Bool.false_eq_true, false_implies, linG] at hL
                simp [fillFrom, Act.put]
                generalize g 11 = y11 at hL ⊢
                obtain ⟨rfl, _, _⟩ := hL
                have HR := Lib.hid hR
                clear hR
                have hmk := mkRatsM n (by omega)
                go_wp2
                have hal := (Below.refl W.heap.size W).alloc (Nat.le_refl _)
                exact ⟨_, rfl, HR.out.alloc _, hal _, RowT.alloc hB _ _ _⟩
              · intro g W hR hL
                have hB := hR.base
                simp only [Laid, Region.binds, forall_const, Bool.false_eq_true, false_implies, linG] at hL
                simp [fillFrom, Act.put]
                clear hL
                have HR := Lib.hid hR
                clear hR
                go_wp2
                exact ⟨_, rfl, HR.out, Below.refl _ _, rfl⟩
              · intro g W hR hL
                have hB := hR.base
                simp only [Laid, Region.binds, forall_const, Bool.false_eq_true, false_implies, linG] at hL
                simp [fillFrom, Act.put]
                generalize g 13 = y13 at hL ⊢
                obtain ⟨rfl, _, _⟩ := hL
                have HR := Lib.hid hR
                clear hR
                have hmk := mkRatsM rows (by omega)
                go_wp2
                have hal := (Below.refl W.heap.size W).alloc (Nat.le_refl _)
                exact ⟨_, rfl, HR.out.alloc _, hal _, RowT.alloc hB _ _ _⟩
              · intro g W hR hL
                have hB := hR.base
                simp only [Laid, Region.binds, forall_const, Bool.false_eq_true, false_implies, linG] at hL
                simp [fillFrom, Act.put]
                generalize g 2 = y2 at hL ⊢
                generalize g 8 = y8 at hL ⊢
                generalize g 10 = y10 at hL ⊢
                generalize g 12 = y12 at hL ⊢
                generalize g 14 = y14 at hL ⊢
                obtain ⟨H2, ⟨r6, H6, H8⟩, H10, H12, H14, _⟩ := hL
                have K2 := Lib.hid H2
                have K6 := Lib.hid H6
                have K8 := Lib.hid H8
                have K10 := Lib.hid H10
                have K12 := Lib.hid H12
                have K14 := Lib.hid H14
                obtain ⟨b2, p2, rfl, q2⟩ := H2
                obtain ⟨b6, p6, rfl, q6⟩ := H6
                obtain ⟨b8, p8, rfl, q8⟩ := H8
                obtain ⟨b10, p10, rfl, q10⟩ := H10
                obtain ⟨b12, p12, rfl, q12⟩ := H12
                obtain ⟨b14, p14, rfl, q14⟩ := H14
                have HR := Lib.hid hR
                clear hR p2 q2 p6 q6 p8 q8 p10 q10 p12 q12 p14 q14
                go_wp2
                exact ⟨_, rfl, HR.out, Below.refl _ _, _, _, _, _, _, _, K2.out, K6.out, K8.out, K10.out, K12.out, K14.out, rfl⟩
              · intro g W hR hL
                have hB := hR.base
                simp only [Laid, Region.binds, forall_const, Bool.false_eq_true, false_implies, linG] at hL
                simp [fillFrom, Act.put]
                clear hL
                have HR := Lib.hid hR
                clear hR
                go_wp2
                exact ⟨_, rfl, HR.out.alloc _, (Below.refl W.heap.size W).alloc (Nat.le_refl _) _, CellT.alloc hB _ _⟩
            · intro ops g W hR hL
              simp only [List.dropLast, List.getLastD_cons, List.getLastD_nil, fillFrom, Act.put, List.length_cons, List.length_nil, Nat.reduceAdd, LaidAll] at hL ⊢
              have hB := hR.base
              have HV := hL.1.2
              have HP := hL.2
              simp only [linG] at HV HP
              clear hL
              generalize g 15 = yv at HV ⊢
              generalize g 16 = yp at HP ⊢
              obtain ⟨r2, r6, r8, r10, r12, r14, H2, H6, H8, H10, H12, H14, rfl⟩ := HV
              obtain ⟨gp, hgp, rfl, hblk⟩ := HP
              have K2 := Lib.hid H2
              have K6 := Lib.hid H6
              have K8 := Lib.hid H8
              have K10 := Lib.hid H10
              have K12 := Lib.hid H12
              have K14 := Lib.hid H14
              obtain ⟨b2, p2, rfl, q2⟩ := H2
              obtain ⟨b6, p6, rfl, q6⟩ := H6
              obtain ⟨b8, p8, rfl, q8⟩ := H8
              obtain ⟨b10, p10, rfl, q10⟩ := H10
              obtain ⟨b12, p12, rfl, q12⟩ := H12
              obtain ⟨b14, p14, rfl, q14⟩ := H14
              have HR := Lib.hid hR
              clear hR p2 q2 p6 q6 p8 q8 p10 q10 p12 q12 p14 q14
              have c0 : W.cell? ⟨gp, 0, none⟩ = some (.slice none 0 0) := by simp [World.cell?, hblk]
              have c1 : W.cell? ⟨gp, 1, none⟩ = some (.slice none 0 0) := by simp [World.cell?, hblk]
              have c2 : W.cell? ⟨gp, 2, none⟩ = some (.int .i64 0) := by simp [World.cell?, hblk]
              have c3 : W.cell? ⟨gp, 3, none⟩ = some (.int .i64 0) := by simp [World.cell?, hblk]
              have c4 : W.cell? ⟨gp, 4, none⟩ = some (.int .i64 0) := by simp [World.cell?, hblk]
              have c5 : W.cell? ⟨gp, 5, none⟩ = some (.slice none 0 0) := by simp [World.cell?, hblk]
              have c6 : W.cell? ⟨gp, 6, none⟩ = some (.slice none 0 0) := by simp [World.cell?, hblk]
              have c7 : W.cell? ⟨gp, 7, none⟩ = some (.slice none 0 0) := by simp [World.cell?, hblk]
              have fz : ∀ o, W.frozen? ⟨gp, o, none⟩ = false := fun o => by simp [World.frozen?, hblk]
              have HBk := Lib.hid hblk
              clear hblk
              go_wp2
              go_meet
              exact linCut_mk rfl (by omega) (by omega) HR.out hgp HBk.out K2.out K6.out K8.out K10.out K12.out K14.out

          case rest =>
            obtain ⟨gk, rfl, hgk, hbc, hK⟩ := hcut.out
            have HK := Lib.hid (hK HW1.out hcw)
            have HXc := Lib.hid (HX1.out.below hbc)
            have HYc := Lib.hid (HY1.out.below hbc)
            have HBc := Lib.hid (ret hbc)
            have hlc := hbc.size
            clear hK hbc hcut HX1 HY1 HW1 ret
            obtain ⟨zs, hzs⟩ : ∃ zs, zs = List.zipWith (fun a b => wrap64 (a + b)) X Y := ⟨_, rfl⟩
            have HZ := Lib.hid hzs
            have HZl : Hid (zs.length = X.length) := by unfold Hid; rw [hzs, List.length_zipWith, c2, Nat.min_self]
            clear hzs
            obtain ⟨wk, hwk⟩ : ∃ wk : World, wk = wc := ⟨_, rfl⟩
            subst hwk
            go_wp2
            go_loopw [10, 11] (fun z i wr => ∃ k : Nat, k ≤ X.length ∧ i = .int .i64 (k : Int) ∧ Hid (wr.ownsRow wk.heap.size 2 1 z k ((zs.take k).map (Value.int .i64))) ∧ Hid (Below wk.heap.size wk wr)) (fun _ i _ => X.length - (intOf i).toNat)
            case atStart => exact ⟨0, Nat.zero_le _, rfl, World.ownsRow_nil _ _ _ _, Below.refl _ _⟩
            case round =>
              obtain ⟨k, hk, rfl, hO, hBw⟩ := hrel
              by_cases hlt : k < X.length
              · obtain ⟨bx, ox, rfl, _, hbx, hcx⟩ := HXc.out.cells hlt
                obtain ⟨by', oy, rfl, _, hby, hcy⟩ := HYc.out.cells (show k < Y.length by omega)
                have cX := (hBw.out.cell (p := ⟨bx, ox + k, none⟩) hbx).trans (hcx k hlt)
                have cY := (hBw.out.cell (p := ⟨by', oy + k, none⟩) hby).trans (hcy k (by omega))
                have HTk : Hid ((zs.take (k + 1)).map (Value.int .i64) = (zs.take k).map (Value.int .i64) ++ [.int .i64 (wrap64 (X.getD k 0 + Y.getD k 0))]) := by
                  have hz : zs[k]? = some (wrap64 (X.getD k 0 + Y.getD k 0)) := by
                    rw [HZ.out, List.getElem?_zipWith, getD_at hlt, getD_at (show k < Y.length by omega)]
                  unfold Hid
                  rw [take_succ_at hz, List.map_append]
                  rfl
                generalize X.getD k 0 = x at *
                generalize Y.getD k 0 = y at *
                clear hcx hcy
                have cX0 := Lib.hid cX
                have cY0 := Lib.hid cY
                have hbx2 : bx < wr.heap.size := Nat.lt_of_lt_of_le hbx hBw.out.size
                have hby2 : by' < wr.heap.size := Nat.lt_of_lt_of_le hby hBw.out.size
                clear cX cY
                go_upto_region 12 with fail
                refine wp_region_slots_tail 11 (by kernel_rfl) (by kernel_rfl) (by kernel_rfl) (by kernel_rfl) (by decide) (From wr.heap.size wr) (fun w w' => Below w.heap.size w w') (lzG u10 bx ox by' oy X.length cx cy k x y wr.heap.size) (fun i v w w' h hb => lzG_below h hb) (From.start (by first | exact Nat.le_refl _ | (simp; done) | omega)) ?_ ?_
                · intro ops
                  simp only [List.take_succ_cons, List.take_zero, Shows]
                  refine ⟨?_, ?_, ?_, ?_, ?_, ?_, ?_, ?_, ?_, ?_, ?_, trivial⟩
                  · intro g W hR hL
                    have hB := hR.base
                    have cX := (hR.be.cell (p := ⟨bx, ox + k, none⟩) hbx2).trans cX0
                    have cY := (hR.be.cell (p := ⟨by', oy + k, none⟩) hby2).trans cY0
                    simp only [Laid, Region.binds, forall_const, Bool.false_eq_true, false_implies, lzG] at hL
                    simp [fillFrom, Act.put]
                    clear hL
                    have HR := Lib.hid hR
                    clear hR
                    go_wp2
                    exact ⟨_, rfl, HR.out, Below.refl _ _, rfl⟩
                  · intro g W hR hL
                    have hB := hR.base
                    have cX := (hR.be.cell (p := ⟨bx, ox + k, none⟩) hbx2).trans cX0
                    have cY := (hR.be.cell (p := ⟨by', oy + k, none⟩) hby2).trans cY0
                    simp only [Laid, Region.binds, forall_const, Bool.false_eq_true, false_implies, lzG] at hL
                    simp [fillFrom, Act.put]
                    clear hL
                    have HR := Lib.hid hR
                    clear hR
                    go_wp2
                    exact ⟨_, rfl, HR.out, Below.refl _ _, rfl⟩
                  · intro g W hR hL
                    have hB := hR.base
                    have cX := (hR.be.cell (p := ⟨bx, ox + k, none⟩) hbx2).trans cX0
                    have cY := (hR.be.cell (p := ⟨by', oy + k, none⟩) hby2).trans cY0
                    simp only [Laid, Region.binds, forall_const, Bool.false_eq_true, false_implies, lzG] at hL
                    simp [fillFrom, Act.put]
                    clear hL
                    have HR := Lib.hid hR
                    clear hR
                    go_wp2
                    exact ⟨_, rfl, HR.out, Below.refl _ _, rfl⟩
                  · intro g W hR hL
                    have hB := hR.base
                    have cX := (hR.be.cell (p := ⟨bx, ox + k, none⟩) hbx2).trans cX0
                    have cY := (hR.be.cell (p := ⟨by', oy + k, none⟩) hby2).trans cY0
                    simp only [Laid, Region.binds, forall_const, Bool.false_eq_true, false_implies, lzG] at hL
                    simp [fillFrom, Act.put]
                    generalize g 1 = y1 at hL ⊢
                    generalize g 2 = y2 at hL ⊢
                    obtain ⟨rfl, rfl, _⟩ := hL
                    have HR := Lib.hid hR
                    clear hR
                    go_wp2
                    exact ⟨_, rfl, HR.out, Below.refl _ _, rfl⟩
                  · intro g W hR hL
                    have hB := hR.base
                    have cX := (hR.be.cell (p := ⟨bx, ox + k, none⟩) hbx2).trans cX0
                    have cY := (hR.be.cell (p := ⟨by', oy + k, none⟩) hby2).trans cY0
                    simp only [Laid, Region.binds, forall_const, Bool.false_eq_true, false_implies, lzG] at hL
                    simp [fillFrom, Act.put]
                    generalize g 3 = y3 at hL ⊢
                    obtain ⟨rfl, _⟩ := hL
                    have HR := Lib.hid hR
                    clear hR
                    go_wp2
                    exact ⟨_, rfl, HR.out, Below.refl _ _, rfl⟩
                  · intro g W hR hL
                    have hB := hR.base
                    have cX := (hR.be.cell (p := ⟨bx, ox + k, none⟩) hbx2).trans cX0
                    have cY := (hR.be.cell (p := ⟨by', oy + k, none⟩) hby2).trans cY0
                    simp only [Laid, Region.binds, forall_const, Bool.false_eq_true, false_implies, lzG] at hL
                    simp [fillFrom, Act.put]
                    clear hL
                    have HR := Lib.hid hR
                    clear hR
                    go_wp2
                    exact ⟨_, rfl, HR.out, Below.refl _ _, rfl⟩
                  · intro g W hR hL
                    have hB := hR.base
                    have cX := (hR.be.cell (p := ⟨bx, ox + k, none⟩) hbx2).trans cX0
                    have cY := (hR.be.cell (p := ⟨by', oy + k, none⟩) hby2).trans cY0
                    simp only [Laid, Region.binds, forall_const, Bool.false_eq_true, false_implies, lzG] at hL
                    simp [fillFrom, Act.put]
                    clear hL
                    have HR := Lib.hid hR
                    clear hR
                    go_wp2
                    exact ⟨_, rfl, HR.out, Below.refl _ _, rfl⟩
                  · intro g W hR hL
                    have hB := hR.base
                    have cX := (hR.be.cell (p := ⟨bx, ox + k, none⟩) hbx2).trans cX0
                    have cY := (hR.be.cell (p := ⟨by', oy + k, none⟩) hby2).trans cY0
                    simp only [Laid, Region.binds, forall_const, Bool.false_eq_true, false_implies, lzG] at hL
                    simp [fillFrom, Act.put]
                    generalize g 5 = y5 at hL ⊢
                    generalize g 6 = y6 at hL ⊢
                    obtain ⟨rfl, rfl, _⟩ := hL
                    have HR := Lib.hid hR
                    clear hR
                    go_wp2
                    exact ⟨_, rfl, HR.out, Below.refl _ _, rfl⟩
                  · intro g W hR hL
                    have hB := hR.base
                    have cX := (hR.be.cell (p := ⟨bx, ox + k, none⟩) hbx2).trans cX0
                    have cY := (hR.be.cell (p := ⟨by', oy + k, none⟩) hby2).trans cY0
                    simp only [Laid, Region.binds, forall_const, Bool.false_eq_true, false_implies, lzG] at hL
                    simp [fillFrom, Act.put]
                    generalize g 7 = y7 at hL ⊢
                    obtain ⟨rfl, _⟩ := hL
                    have HR := Lib.hid hR
                    clear hR
                    go_wp2
                    exact ⟨_, rfl, HR.out, Below.refl _ _, rfl⟩
                  · intro g W hR hL
                    have hB := hR.base
                    have cX := (hR.be.cell (p := ⟨bx, ox + k, none⟩) hbx2).trans cX0
                    have cY := (hR.be.cell (p := ⟨by', oy + k, none⟩) hby2).trans cY0
                    simp only [Laid, Region.binds, forall_const, Bool.false_eq_true, false_implies, lzG] at hL
                    simp [fillFrom, Act.put]
                    generalize g 4 = y4 at hL ⊢
                    generalize g 8 = y8 at hL ⊢
                    obtain ⟨rfl, rfl, _⟩ := hL
                    have HR := Lib.hid hR
                    clear hR
                    go_wp2
                    exact ⟨_, rfl, HR.out, Below.refl _ _, rfl⟩
                  · intro g W hR hL
                    have hB := hR.base
                    have cX := (hR.be.cell (p := ⟨bx, ox + k, none⟩) hbx2).trans cX0
                    have cY := (hR.be.cell (p := ⟨by', oy + k, none⟩) hby2).trans cY0
                    simp only [Laid, Region.binds, forall_const, Bool.false_eq_true, false_implies, lzG] at hL
                    simp [fillFrom, Act.put]
                    generalize g 9 = y9 at hL ⊢
                    obtain ⟨rfl, _⟩ := hL
                    have HR := Lib.hid hR
                    clear hR
                    go_wp2
                    have hal := (Below.refl W.heap.size W).alloc (Nat.le_refl _)
                    exact ⟨_, rfl, HR.out.alloc _, hal _, RowT.alloc hB _ _ _⟩
                · intro ops g W hR hL
                  simp only [List.take_succ_cons, List.take_zero, List.drop_succ_cons, List.drop_zero, LaidAll] at hL ⊢
                  simp [fillFrom, Act.put]
                  have hB := hR.base
                  have cX := (hR.be.cell (p := ⟨bx, ox + k, none⟩) hbx2).trans cX0
                  have cY := (hR.be.cell (p := ⟨by', oy + k, none⟩) hby2).trans cY0
                  have J0 := hL.1.1.1.1.1.1.1.1.1.1.2
                  have J10 := hL.2
                  simp only [lzG] at J0 J10
                  clear hL
                  generalize g 0 = y0 at J0 ⊢
                  generalize g 10 = y10 at J10 ⊢
                  obtain rfl := J0
                  obtain ⟨b10, p10, rfl, q10⟩ := J10
                  have HR := Lib.hid hR
                  clear hR
                  clear cX cY
                  have hO' : Hid (W.ownsRow wk.heap.size 2 1 y0 k ((zs.take k).map (Value.int .i64))) := hO.out.kept (row := none) ⟨HR.out.be.os, HR.out.be.tape, HR.out.be.output, HR.out.be.size, fun k hk _ => HR.out.be.block k hk⟩ (by cases y0.ownBlock <;> simp)
                  have c10 : W.cell? ⟨b10, 0, none⟩ = some (.int .i64 (wrap64 (x + y))) := by simp [World.cell?, q10]
                  have hbW := hBw.out.trans (HR.out.be.mono hBw.out.size)
                  go_wp2_with (at_builtin; refine wpList_appRow rfl (.tmp 77) (.tmp 87) 47 rfl wk.heap.size 2 (.int .i64 0) 8 Try.underlying47 Try.infoI64' rfl _ k _ rfl hO'.out _ rfl ⟨b10, 0, none⟩ rfl c10 (by omega) (by unfold maxLen; omega) hbW.size ?_; intro v' w' hown hg hn)
                  go_roundw
                  case rel =>
                    refine ⟨k + 1, hlt, by go_num, ?_, hbW.grown hg hbW.size (fun k hk => (hO'.out.lt k hk).1)⟩
                    unfold Hid
                    rw [HTk.out]
                    exact hown
                  case measure => simp [intOf]; omega
              · obtain rfl : k = X.length := by omega
                have HLz := HZl.out
                have hO2 := hO.out
                rw [List.take_of_length_le (by omega)] at hO2
                have hzw : ∀ x ∈ zs, I64 x := by
                  intro x hx
                  rw [HZ.out] at hx
                  obtain ⟨i, hi⟩ := List.getElem?_of_mem hx
                  rw [List.getElem?_zipWith] at hi
                  cases hx1 : X[i]? with
                  | none => simp [hx1] at hi
                  | some a =>
                    cases hx2 : Y[i]? with
                    | none => simp [hx1, hx2] at hi
                    | some b => simp only [hx1, hx2, Option.some.injEq] at hi; subst hi; exact wrap64_I64 _
                rw [← HLz] at hO2
                obtain ⟨az, cz, rfl, hIz⟩ := Ints.own hO2 hzw (by omega)
                rw [HLz]
                have HIz := Lib.hid (hIz.mono (F' := Any) (fun _ _ _ => trivial))
                have HKr := Lib.hid (HK.out.below hBw.out)
                have HXr := Lib.hid (HXc.out.below hBw.out)
                have HYr := Lib.hid (HYc.out.below hBw.out)
                have HBr := Lib.hid (HBc.out.trans (hBw.out.mono HBc.out.size))
                have HV := Lib.hid (linK_valid HR3.out c1a c1b hr1 hr2)
                have HG : Hid (∀ i, zs.getD i 0 = wrap64 (X.getD i 0 + Y.getD i 0)) := by
                  intro i
                  rw [HZ.out]
                  simp only [List.getD_eq_getElem?_getD, List.getElem?_zipWith]
                  by_cases hi : i < X.length
                  · rw [List.getElem?_eq_getElem hi, List.getElem?_eq_getElem (show i < Y.length by omega)]; rfl
                  · rw [List.getElem?_eq_none (show X.length ≤ i by omega), List.getElem?_eq_none (show Y.length ≤ i by omega)]; simp [wrap64]
                clear hO hBw hO2 hzw hIz HXc HYc HK HBc HZ
                obtain ⟨q0, q1, q2, q3, q4, q5, q6, q7, hbx8, hKV⟩ := HKr.out
                obtain ⟨z0, z1, z2, z3, z4, z5, z6, z7, zlt⟩ := hbx8
                go_wp2_with fail
                refine (kOut hKV (linK_WF Wt) HXr.out).mono ?_
                intro e w2 hp
                rcases hp with ⟨_, _, hb2, aA, cA, rfl, hA⟩ | ⟨_, hc, _⟩ | ⟨hc, _⟩
                rotate_left
                · exact absurd (show (X.length : Int) = (linK Wt X.length rows).sizes.getD 0 0 from rfl) hc
                · rw [HV.out] at hc; cases hc
                have HA := Lib.hid hA
                have HK2 := Lib.hid (HKr.out.below hb2)
                have HX2 := Lib.hid (HXr.out.below hb2)
                have HY2 := Lib.hid (HYr.out.below hb2)
                have HZ2 := Lib.hid (HIz.out.below hb2)
                have HB2 := Lib.hid (HBr.out.trans (hb2.mono HBr.out.size))
                clear hA hb2 hKV z0 z1 z2 z3 z4 z5 z6 z7 zlt HKr HXr HYr HIz HBr
                obtain ⟨q0, q1, q2, q3, q4, q5, q6, q7, hbx8, hKV⟩ := HK2.out
                obtain ⟨z0, z1, z2, z3, z4, z5, z6, z7, zlt⟩ := hbx8
                go_wp2_with fail
                have hcall := kOut (inp := Y) (ci := cy) hKV (linK_WF Wt) HY2.out
                rw [c2] at hcall
                refine hcall.mono ?_
                clear hcall
                intro e w3 hp
                rcases hp with ⟨_, _, hb3, aB, cB, rfl, hBI⟩ | ⟨_, hc, _⟩ | ⟨hc, _⟩
                rotate_left
                · exact absurd (show (Y.length : Int) = (linK Wt X.length rows).sizes.getD 0 0 by rw [c2]; rfl) hc
                · rw [HV.out] at hc; cases hc
                have HA3 := Lib.hid (HA.out.below hb3)
                have HBI := Lib.hid hBI
                have HK3 := Lib.hid (HK2.out.below hb3)
                have HZ3 := Lib.hid (HZ2.out.below hb3)
                have HB3 := Lib.hid (HB2.out.trans (hb3.mono HB2.out.size))
                clear hBI hb3 hKV z0 z1 z2 z3 z4 z5 z6 z7 zlt HK2 HX2 HY2 HZ2 HB2 HA
                obtain ⟨q0, q1, q2, q3, q4, q5, q6, q7, hbx8, hKV⟩ := HK3.out
                obtain ⟨z0, z1, z2, z3, z4, z5, z6, z7, zlt⟩ := hbx8
                go_wp2_with fail
                have hcall := kOut (inp := zs) (ci := cz) hKV (linK_WF Wt) HZ3.out
                rw [HZl.out] at hcall
                refine hcall.mono ?_
                clear hcall
                intro e w4 hp
                rcases hp with ⟨_, _, hb4, aC, cC, rfl, hC⟩ | ⟨_, hc, _⟩ | ⟨hc, _⟩
                rotate_left
                · exact absurd (show (zs.length : Int) = (linK Wt X.length rows).sizes.getD 0 0 by rw [HZl.out]; rfl) hc
                · rw [HV.out] at hc; cases hc
                have HA4 := Lib.hid (HA3.out.below hb4)
                have HB4 := Lib.hid (HBI.out.below hb4)
                have HC := Lib.hid hC
                have HBW := Lib.hid (HB3.out.trans (hb4.mono HB3.out.size))
                clear hC hb4 hKV z0 z1 z2 z3 z4 z5 z6 z7 zlt HK3 HZ3 HB3 HA3 HBI
                obtain ⟨hl1, hl2, hl3, hsum⟩ := lin_facts (rows := rows) (Wt := Wt) (X := X) (Y := Y) (Z := zs) c1a c2 HZl.out HG.out
                generalize outL (linK Wt X.length rows) X = A at *
                generalize outL (linK Wt X.length rows) Y = B at *
                generalize outL (linK Wt X.length rows) zs = C at *
                have HSum := Lib.hid hsum
                clear hsum HG HV c2 HZl HLz
                go_wp2
                go_loopw [18] (fun i wr => ∃ k : Nat, k ≤ rows ∧ i = .int .i64 (k : Int) ∧ Hid (∃ n, wr = w4.drewN n)) (fun i _ => rows - (intOf i).toNat)
                case atStart => exact ⟨0, Nat.zero_le _, rfl, 0, rfl⟩
                case round =>
                  obtain ⟨k, hk, rfl, HN⟩ := hrel
                  obtain ⟨nd, rfl⟩ := HN.out
                  by_cases hlt : k < rows
                  · obtain ⟨ba, oa, rfl, _, _, hca⟩ := HA4.out.cells (show k < A.length by omega)
                    obtain ⟨bb, ob, rfl, _, _, hcb⟩ := HB4.out.cells (show k < B.length by omega)
                    obtain ⟨bc, oc, rfl, _, _, hcc⟩ := HC.out.cells (show k < C.length by omega)
                    have cA : w4.cell? ⟨ba, oa + k, none⟩ = _ := hca k (by omega)
                    have cB : w4.cell? ⟨bb, ob + k, none⟩ = _ := hcb k (by omega)
                    have cC : w4.cell? ⟨bc, oc + k, none⟩ = _ := hcc k (by omega)
                    rw [HSum.out k hlt] at cC
                    generalize A.getD k 0 = xa at *
                    generalize B.getD k 0 = xb at *
                    clear hca hcb hcc
                    go_wp2
                    go_quiet (fail)
                    go_wp2
                    go_roundw
                    case rel => exact ⟨k + 1, hlt, by go_num, _, rfl⟩
                    case measure => simp [intOf]; omega
                  · obtain rfl : k = rows := by omega
                    go_wp2
                    go_ret
                    exact ⟨rfl, HBW.out.trans ⟨rfl, rfl, rfl, Nat.le_refl _, fun _ _ => rfl⟩⟩
        · have c4' : Wt.length < 1 ∨ 25 < Wt.length := by omega
          clear c4
          rcases c4' with c4 | c4
          · have d3 : decide ((Wt.length : Int) < 1) = true := decide_eq_true (by omega)
            go_wp2
            go_ret
            exact ⟨rfl, HB1.out⟩
          · have d3 : decide ((Wt.length : Int) < 1) = false := decide_eq_false (by omega)
            have d4 : decide (25 < (Wt.length : Int)) = true := decide_eq_true (by omega)
            go_wp2
            go_ret
            exact ⟨rfl, HB1.out⟩
      · have c3i : ¬ (Wt.length : Int) % (X.length : Int) = 0 := by
          intro h; apply c3
          have : ((Wt.length % X.length : Nat) : Int) = 0 := by rw [Int.natCast_emod]; exact h
          exact_mod_cast this
        have c3b : ((Wt.length : Int) % (X.length : Int) == 0) = false := beq_eq_false_iff_ne.2 c3i
        clear c3
        go_wp2
        go_ret
        exact ⟨rfl, HB1.out⟩
    · go_wp2
      go_ret
      exact ⟨rfl, HB1.out⟩
  · have c1' : X.length < 1 ∨ 5 < X.length := by omega
    clear c1
    rcases c1' with c1 | c1
    · have d1 : decide ((X.length : Int) < 1) = true := decide_eq_true (by omega)
      go_wp2
      go_ret
      exact ⟨rfl, HB1.out⟩
    · have d1 : decide ((X.length : Int) < 1) = false := decide_eq_false (by omega)
      have d2 : decide (5 < (X.length : Int)) = true := decide_eq_true (by omega)
      go_wp2
      go_ret
      exact ⟨rfl, HB1.out⟩

end Go.Proofs.Ythlmgejikbmmaaa
