/-
  Contracts of the functions that the statements reach, in the order in which they are built: KerQ, KerR, RKA, KerS, KerT, KerU.
-/
import Derived.Test.YthlmgejikbmmaaaGreatM14
import Derived.Test.YthlmgejikbmmaaaGreatM15
import Derived.Test.YthlmgejikbmmaaaGreatM8
set_option linter.unusedVariables false
set_option linter.unusedSimpArgs false
set_option linter.constructorNameAsVariable false
set_option linter.deprecated false

/-
  The machine's do at any valid operation : by contract.
-/
namespace Go.Proofs.YthlmgejikbmmaaaGreat
open Go.RowKit

/-- What an operation lays: D the old row, S the source, O the other. -/
def doL (o : OpL) (D S O : List Int) : List Int :=
  if o.kind = 1 then List.zipWith (fun x d => if 0 ≤ x then S.getD x.toNat 0 else d) o.index D
  else if o.kind = 2 then gemmL o.weights o.bias S o.inner.toNat o.cols.toNat D.length
  else if o.kind = 3 then S.map (fun x => max 0 x)
  else if o.kind = 4 then maxL S o.inner.toNat D.length
  else if o.kind = 5 then sumL S o.inner.toNat D
  else if o.kind = 6 then List.zipWith (fun a b => wrap64 (a + b)) S O
  else S.map (fun x => scaleL x o.mul o.shift.toNat)
def stepL (o : OpL) (vs : List (List Int)) : List (List Int) := vs.set o.dst.toNat (doL o (vs.getD o.dst.toNat []) (vs.getD o.src.toNat []) (vs.getD o.other.toNat []))

theorem DoRet.step {base : Nat} {wr w' : World} {M B cap : Nat} {gs : List Nat} {vs : List (List Int)} {h wd : Int} (m : Mach wr M B cap gs vs h wd) {dn gd : Nat} {D v : List Int} (d1 : gs[dn]? = some gd) (d2 : vs[dn]? = some D) (hl : v.length = D.length) (hge : ∀ g ∈ gs, base ≤ g) (hb : base ≤ wr.heap.size) (hr : DoRet wr gd v w') :
    Below base wr w' ∧ Mach w' M B cap gs (vs.set dn v) h wd := by
  obtain ⟨wc, hbw, ho, hi⟩ := hr
  exact ⟨(hbw.mono hb).trans (ho.below (hge gd (List.mem_of_getElem? d1))), (m.below hbw).turn d1 d2 hl ho hi⟩

/-- The rows are as long as their sizes say, and of 64 bits. -/
structure RowsOK (sizes : List Int) (vs : List (List Int)) : Prop where
  len : vs.length = sizes.length
  row : ∀ (i : Nat) (n : Int) (v : List Int), sizes[i]? = some n → vs[i]? = some v → (v.length : Int) = n
  wf : ∀ v ∈ vs, ∀ x ∈ v, I64 x
theorem RowsOK.pick {sizes : List Int} {vs : List (List Int)} (h : RowsOK sizes vs) {i : Nat} (hi : i < sizes.length) : ∃ v, vs[i]? = some v ∧ vs.getD i [] = v ∧ (v.length : Int) = sizes.getD i 0 ∧ ∀ x ∈ v, I64 x := by
  have hv : i < vs.length := by rw [h.len]; exact hi
  refine ⟨vs[i], List.getElem?_eq_getElem hv, by rw [List.getD_eq_getElem?_getD, List.getElem?_eq_getElem hv]; rfl, ?_, h.wf _ (List.getElem_mem hv)⟩
  exact h.row i _ _ (getD_at hi) (List.getElem?_eq_getElem hv)

/-- The tiles' sizes of a run. -/
def TileOK (h wd : Int) : Prop := (h = 0 ∧ wd = 0) ∨ (1 ≤ h ∧ 1 ≤ wd ∧ h ≤ 9223372036854775807 ∧ wd ≤ 9223372036854775807)

set_option maxHeartbeats 1600000 in
theorem stepOK {base : Nat} {o : OpL} {sizes : List Int} {S : Int → Bool} (hop : opOK sizes S o = true) (hS : ∀ y, S y = true → 0 ≤ y ∧ y < (sizes.length : Int)) {vs : List (List Int)} (hr : RowsOK sizes vs)
    (hz : sizes.all (fun n => wthn n 1 262144) = true) (hmu : I64 o.mul) {h wd : Int} (ht : TileOK h wd) : StepOK base o vs (stepL o vs) h wd := by
  intro wr M B cap gs v hb hov m hge
  obtain ⟨a1, a2, a3, c1, c2, c3, rfl, i1, i2, i3⟩ := hov.ex
  have hop0 := hop
  unfold opOK at hop
  simp only [Bool.and_eq_true, Bool.not_eq_true', Bool.or_eq_true] at hop
  obtain ⟨hd, hnd, hsr, hot, hf⟩ := hop
  have hd' := wthn_iff.1 hd
  have hs' := hS _ hsr
  have hne : o.dst ≠ o.src := fun e => by rw [e, hsr] at hnd; cases hnd
  have rd := sizes_range hz o.dst (by omega) (by omega)
  have rs := sizes_range hz o.src (by omega) (by omega)
  obtain ⟨D, d2, dD, dl, dw⟩ := hr.pick (i := o.dst.toNat) (by omega)
  obtain ⟨Sr, s2, sD, sl, sw⟩ := hr.pick (i := o.src.toNat) (by omega)
  have hgl := m.len
  have hrl := hr.len
  obtain ⟨gd, d1⟩ : ∃ g, gs[o.dst.toNat]? = some g := ⟨gs[o.dst.toNat]'(by omega), List.getElem?_eq_getElem (by omega)⟩
  obtain ⟨gc, s1⟩ : ∃ g, gs[o.src.toNat]? = some g := ⟨gs[o.src.toNat]'(by omega), List.getElem?_eq_getElem (by omega)⟩
  have hnn : o.dst.toNat ≠ o.src.toNat := by omega
  have ed : o.dst = ((o.dst.toNat : Nat) : Int) := by omega
  have es : o.src = ((o.src.toNat : Nat) : Int) := by omega
  have hF : ∀ b, (fun b => b < base) b → b ≠ gd := fun b hb' e => by have := hge gd (List.mem_of_getElem? d1); simp only at hb'; omega
  have hst : stepL o vs = vs.set o.dst.toNat (doL o D Sr (vs.getD o.other.toNat [])) := by unfold stepL; rw [dD, sD]
  rw [hst]
  have fin : ∀ {v : List Int} {e : Ending} {w' : World}, v.length = D.length → (∃ u, e = .returned u) ∧ DoRet wr gd v w' → (∃ u, e = .returned u) ∧ Below base wr w' ∧ Mach w' M B cap gs (vs.set o.dst.toNat v) h wd :=
    fun hl hh => ⟨hh.1, hh.2.step m d1 d2 hl hge hb⟩
  rw [ed, es]
  generalize sizes.getD o.dst.toNat 0 = nD at *
  generalize sizes.getD o.src.toNat 0 = nS at *
  have hDl : D.length ≤ 262144 := by omega
  have hSl : Sr.length ≤ 262144 := by omega
  unfold fitsL at hf
  by_cases k1 : o.kind = 1
  · rw [if_pos k1] at hf
    simp only [Bool.and_eq_true, decide_eq_true_eq] at hf
    obtain ⟨⟨_, _, _, _, _, _, _, hil⟩, hall⟩ := hf
    have hidx : ∀ x ∈ o.index, -1 ≤ x ∧ x < (Sr.length : Int) := fun x hx => by have := wthn_iff.1 (List.all_eq_true.1 hall x hx); omega
    rw [k1]
    have hc := doGather m d1 d2 s1 s2 hnn o.other o.cols o.inner o.mul o.shift a1 a2 a3 o.weights.length o.bias.length c1 c2 c3 hSl hDl (by omega) i1 hF hidx
    refine hc.mono ?_
    intro e w' hh
    have e1 : doL o D Sr (vs.getD o.other.toNat []) = List.zipWith (fun x d => if 0 ≤ x then Sr.getD x.toNat 0 else d) o.index D := by unfold doL; rw [if_pos k1]
    rw [e1]
    exact fin (by simp; omega) hh
  · rw [if_neg k1] at hf
    by_cases k2 : o.kind = 2
    · rw [if_pos k2] at hf
      simp only [decide_eq_true_eq] at hf
      obtain ⟨_, _, _, _, q1, q2, q3, q4, q5, q6, q7, q8⟩ := hf
      rw [k2]
      have e1 : doL o D Sr (vs.getD o.other.toNat []) = gemmL o.weights o.bias Sr o.inner.toNat o.cols.toNat D.length := by unfold doL; rw [if_neg k1, if_pos k2]
      rw [e1]
      obtain ⟨cn, hcn⟩ : ∃ n : Nat, o.cols = n := ⟨o.cols.toNat, by omega⟩
      obtain ⟨inn, hin⟩ : ∃ n : Nat, o.inner = n := ⟨o.inner.toNat, by omega⟩
      rw [hcn] at q1 q2 q5 q6 q7 ⊢
      rw [hin] at q3 q4 q5 q8 ⊢
      simp only [Int.toNat_natCast]
      have hdm : nD = nD / (cn : Int) * cn := by have := Int.mul_ediv_add_emod nD cn; rw [q6, Int.add_zero, Int.mul_comm] at this; exact this.symm
      have hDB : D.length = o.bias.length * cn := by
        have : (D.length : Int) = ((o.bias.length * cn : Nat) : Int) := by rw [dl, hdm, ← q7]; simp
        exact_mod_cast this
      have hSB : Sr.length = inn * cn := by
        have : (Sr.length : Int) = ((inn * cn : Nat) : Int) := by rw [sl, q5]; simp
        exact_mod_cast this
      have hWB : o.weights.length = o.bias.length * inn := by exact_mod_cast q8
      have hb1 : 1 ≤ o.bias.length := by
        rcases Nat.eq_zero_or_pos o.bias.length with h0 | h0
        · rw [h0, Nat.zero_mul] at hDB; omega
        · exact h0
      have hb2 : o.bias.length ≤ 262144 := by
        have := Nat.mul_le_mul_left o.bias.length (show 1 ≤ cn by omega)
        rw [Nat.mul_one, ← hDB] at this
        omega
      obtain ⟨th, tw, hm, t1, t2⟩ : ∃ th tw : Nat, ((h = 0 ∧ th = o.bias.length ∧ tw = cn) ∨ (h = th ∧ wd = tw)) ∧ (1 ≤ th ∧ 1 ≤ tw) ∧ (th ≤ 9223372036854775807 ∧ tw ≤ 9223372036854775807) := by
        rcases ht with ⟨h0, w0⟩ | ⟨p1, p2, p3, p4⟩
        · exact ⟨o.bias.length, cn, .inl ⟨h0, rfl, rfl⟩, ⟨hb1, by omega⟩, by omega, by omega⟩
        · exact ⟨h.toNat, wd.toNat, .inr ⟨by omega, by omega⟩, ⟨by omega, by omega⟩, by omega, by omega⟩
      have hc := doGemm m d1 d2 s1 s2 hnn o.other o.mul o.shift a1 a2 a3 o.index.length c1 c2 c3 i2 i3 hF cn inn hb1 (by omega) hDB hSB hWB ⟨hb2, by omega, by omega⟩ th tw hm t1 t2
      exact hc.mono fun e w' hh => fin (by simp [gemmL]) hh
    · rw [if_neg k2] at hf
      by_cases k3 : o.kind = 3
      · rw [if_pos k3] at hf
        simp only [decide_eq_true_eq] at hf
        obtain ⟨_, _, _, _, _, _, _, _, hmn⟩ := hf
        rw [k3]
        have e1 : doL o D Sr (vs.getD o.other.toNat []) = Sr.map (fun x => max 0 x) := by unfold doL; rw [if_neg k1, if_neg k2, if_pos k3]
        rw [e1]
        have hc := doRelu m d1 d2 s1 s2 hnn o.other o.cols o.inner o.mul o.shift a1 a2 a3 o.index.length o.weights.length o.bias.length c1 c2 c3 (by omega) hSl hDl
        exact hc.mono fun e w' hh => fin (by simp; omega) hh
      · rw [if_neg k3] at hf
        by_cases k45 : o.kind = 4 ∨ o.kind = 5
        · rw [if_pos k45] at hf
          simp only [decide_eq_true_eq] at hf
          obtain ⟨_, _, _, _, _, _, _, hi1, hi2, hmn⟩ := hf
          obtain ⟨inn, hin⟩ : ∃ n : Nat, o.inner = n := ⟨o.inner.toNat, by omega⟩
          have hSB : Sr.length = D.length * inn := by
            have : (Sr.length : Int) = ((D.length * inn : Nat) : Int) := by rw [sl, hmn, hin, ← dl]; simp
            exact_mod_cast this
          rw [hin] at hi1 hi2 ⊢
          rcases k45 with k4 | k5
          · rw [k4]
            have e1 : doL o D Sr (vs.getD o.other.toNat []) = maxL Sr inn D.length := by unfold doL; rw [if_neg k1, if_neg k2, if_neg k3, if_pos k4, hin, Int.toNat_natCast]
            rw [e1]
            have hc := doMax m d1 d2 s1 s2 hnn o.other o.cols o.mul o.shift inn a1 a2 a3 o.index.length o.weights.length o.bias.length c1 c2 c3 hSB (by omega) (by omega) hSl hDl
            exact hc.mono fun e w' hh => fin (by simp [maxL]) hh
          · rw [k5]
            have e1 : doL o D Sr (vs.getD o.other.toNat []) = sumL Sr inn D := by unfold doL; rw [if_neg k1, if_neg k2, if_neg k3, if_neg (by omega), if_pos k5, hin, Int.toNat_natCast]
            rw [e1]
            have hc := doSum m d1 d2 s1 s2 hnn o.other o.cols o.mul o.shift inn a1 a2 a3 o.index.length o.weights.length o.bias.length c1 c2 c3 hSB (by omega) (by omega) hSl hDl
            exact hc.mono fun e w' hh => fin (by simp [sumL]) hh
        rw [if_neg k45] at hf
        have k4 : o.kind ≠ 4 := fun e => k45 (.inl e)
        have k5 : o.kind ≠ 5 := fun e => k45 (.inr e)
        by_cases k6 : o.kind = 6
        · rw [if_pos k6] at hf
          simp only [decide_eq_true_eq] at hf
          obtain ⟨_, _, _, _, _, _, _, hmn, htn⟩ := hf
          rw [k6]
          have e1 : doL o D Sr (vs.getD o.other.toNat []) = List.zipWith (fun a b => wrap64 (a + b)) Sr (vs.getD o.other.toNat []) := by unfold doL; rw [if_neg k1, if_neg k2, if_neg k3, if_neg k4, if_neg k5, if_pos k6]
          rw [e1]
          have hso : S o.other = true := by
            rcases hot with h0 | h0
            · simp [k6] at h0
            · exact h0
          have ho' := hS _ hso
          have hneo : o.dst ≠ o.other := fun e => by rw [e, hso] at hnd; cases hnd
          obtain ⟨O, o2, oD, ol, ow⟩ := hr.pick (i := o.other.toNat) (by omega)
          obtain ⟨go, o1⟩ : ∃ g, gs[o.other.toNat]? = some g := ⟨gs[o.other.toNat]'(by omega), List.getElem?_eq_getElem (by omega)⟩
          have eo : o.other = ((o.other.toNat : Nat) : Int) := by omega
          unfold otherOf at htn
          rw [if_pos k6] at htn
          rw [oD, eo]
          have hc := doAdd m d1 d2 s1 s2 hnn o.cols o.inner o.mul o.shift a1 a2 a3 o.index.length o.weights.length o.bias.length c1 c2 c3 (by omega) hSl hDl o1 o2 (by omega) (by omega)
          exact hc.mono fun e w' hh => fin (by simp; omega) hh
        · rw [if_neg k6] at hf
          by_cases k7 : o.kind = 7
          · rw [if_pos k7] at hf
            simp only [decide_eq_true_eq] at hf
            obtain ⟨_, _, _, _, _, _, hmn, hh0, hh1⟩ := hf
            rw [k7]
            have e1 : doL o D Sr (vs.getD o.other.toNat []) = Sr.map (fun x => scaleL x o.mul o.shift.toNat) := by unfold doL; rw [if_neg k1, if_neg k2, if_neg k3, if_neg k4, if_neg k5, if_neg k6]
            rw [e1]
            have hc := doScale m d1 d2 s1 s2 hnn o.other o.cols o.inner o.mul a1 a2 a3 o.index.length o.weights.length o.bias.length c1 c2 c3 (by omega) hSl hDl o.shift.toNat (by omega) hmu sw
            rw [show ((o.shift.toNat : Nat) : Int) = o.shift by omega] at hc
            exact hc.mono fun e w' hh => fin (by simp; omega) hh
          · rw [if_neg k7] at hf
            cases hf

end Go.Proofs.YthlmgejikbmmaaaGreat

/-
  kernel.Buffers, kernel.Run: by contract.
-/
namespace Go.Proofs.YthlmgejikbmmaaaGreat
open Go.RowKit

/-- The buffers after j operations. -/
def runL (k : KerL) (inp : List Int) (j : Nat) : List (List Int) := (k.ops.take j).foldl (fun vs o => stepL o vs) ((k.sizes.map fun n => List.replicate n.toNat (0 : Int)).set 0 inp)
theorem runL_succ {k : KerL} {inp : List Int} {j : Nat} {o : OpL} (h : k.ops[j]? = some o) : runL k inp (j + 1) = stepL o (runL k inp j) := by
  unfold runL
  rw [take_succ_at h, List.foldl_append]
  rfl
theorem wrap64_I64 (x : Int) : I64 (wrap64 x) := by unfold I64 wrap64; omega
theorem getD_I64 {l : List Int} (h : ∀ x ∈ l, I64 x) (i : Nat) : I64 (l.getD i 0) := by
  by_cases hi : i < l.length
  · exact h _ (List.mem_of_getElem? (getD_at hi))
  · rw [List.getD_eq_getElem?_getD, List.getElem?_eq_none (by omega)]; unfold I64; simp
theorem scaleL_I64 (a m : Int) (s : Nat) : I64 (scaleL a m s) := by
  have h : ∀ y : Int, I64 (clamp32 y) := fun y => by unfold clamp32 I64; omega
  exact h _
theorem mxAt_I64 {S : List Int} (h : ∀ x ∈ S, I64 x) (b : Nat) : ∀ j, I64 (mxAt S b j) := by
  intro j
  induction j with
  | zero => exact getD_I64 h b
  | succ j ih =>
    have h2 := getD_I64 h (b + j)
    unfold mxAt
    unfold I64 at *
    omega
theorem smAt_I64 {S : List Int} {b : Nat} {d : Int} {k : Nat} (hk : 1 ≤ k) : I64 (smAt S b d k) := by
  obtain ⟨k, rfl⟩ : ∃ k', k = k' + 1 := ⟨k - 1, by omega⟩
  exact wrap64_I64 _
theorem gsum_I64 {Wt S : List Int} {b : Int} {inner cols r c k : Nat} (hk : 1 ≤ k) : I64 (gsum Wt S b inner cols r c k) := by
  obtain ⟨k, rfl⟩ : ∃ k', k = k' + 1 := ⟨k - 1, by omega⟩
  exact wrap64_I64 _

theorem doL_ok {o : OpL} {sizes : List Int} {S : Int → Bool} (hop : opOK sizes S o = true) {D Sr O : List Int} (hd : (D.length : Int) = sizes.getD o.dst.toNat 0) (hs : (Sr.length : Int) = sizes.getD o.src.toNat 0) (ho : o.kind = 6 → (O.length : Int) = sizes.getD o.other.toNat 0)
    (wd : ∀ x ∈ D, I64 x) (ws : ∀ x ∈ Sr, I64 x) : (doL o D Sr O).length = D.length ∧ ∀ x ∈ doL o D Sr O, I64 x := by
  unfold opOK at hop
  simp only [Bool.and_eq_true] at hop
  obtain ⟨_, _, _, _, hf⟩ := hop
  unfold fitsL at hf
  unfold doL
  by_cases k1 : o.kind = 1
  · rw [if_pos k1] at hf ⊢
    simp only [Bool.and_eq_true, decide_eq_true_eq] at hf
    refine ⟨by simp; omega, ?_⟩
    intro x hx
    obtain ⟨i, hi⟩ := List.getElem?_of_mem hx
    rw [List.getElem?_zipWith] at hi
    cases h1 : o.index[i]? with
    | none => simp [h1] at hi
    | some a =>
      cases h2 : D[i]? with
      | none => simp [h1, h2] at hi
      | some d =>
        simp only [h1, h2, Option.some.injEq] at hi
        subst hi
        split
        · exact getD_I64 ws _
        · exact wd _ (List.mem_of_getElem? h2)
  · rw [if_neg k1] at hf ⊢
    by_cases k2 : o.kind = 2
    · rw [if_pos k2] at hf ⊢
      simp only [decide_eq_true_eq] at hf
      refine ⟨by simp [gemmL], ?_⟩
      intro x hx
      unfold gemmL at hx
      obtain ⟨q, _, rfl⟩ := List.mem_map.1 hx
      exact gsum_I64 (by omega)
    · rw [if_neg k2] at hf ⊢
      by_cases k3 : o.kind = 3
      · rw [if_pos k3] at hf ⊢
        simp only [decide_eq_true_eq] at hf
        refine ⟨by simp; omega, ?_⟩
        intro x hx
        obtain ⟨y, hy, rfl⟩ := List.mem_map.1 hx
        have := ws y hy
        unfold I64 at this ⊢
        omega
      · rw [if_neg k3] at hf
        rw [if_neg k3]
        by_cases k45 : o.kind = 4 ∨ o.kind = 5
        · rw [if_pos k45] at hf
          simp only [decide_eq_true_eq] at hf
          rcases k45 with k4 | k5
          · rw [if_pos k4]
            refine ⟨by simp [maxL], ?_⟩
            intro x hx
            unfold maxL at hx
            obtain ⟨q, _, rfl⟩ := List.mem_map.1 hx
            exact mxAt_I64 ws _ _
          · rw [if_neg (by omega), if_pos k5]
            refine ⟨by simp [sumL], ?_⟩
            intro x hx
            unfold sumL at hx
            obtain ⟨q, _, rfl⟩ := List.mem_map.1 hx
            exact smAt_I64 (by omega)
        rw [if_neg k45] at hf
        rw [if_neg (fun e => k45 (.inl e)), if_neg (fun e => k45 (.inr e))]
        by_cases k6 : o.kind = 6
        · rw [if_pos k6] at hf ⊢
          simp only [decide_eq_true_eq] at hf
          have h6 := ho k6
          unfold otherOf at hf
          rw [if_pos k6] at hf
          refine ⟨by simp; omega, ?_⟩
          intro x hx
          obtain ⟨i, hi⟩ := List.getElem?_of_mem hx
          rw [List.getElem?_zipWith] at hi
          cases h1 : Sr[i]? with
          | none => simp [h1] at hi
          | some a =>
            cases h2 : O[i]? with
            | none => simp [h1, h2] at hi
            | some d =>
              simp only [h1, h2, Option.some.injEq] at hi
              subst hi
              exact wrap64_I64 _
        · rw [if_neg k6] at hf ⊢
          by_cases k7 : o.kind = 7
          · rw [if_pos k7] at hf
            simp only [decide_eq_true_eq] at hf
            refine ⟨by simp; omega, ?_⟩
            intro x hx
            obtain ⟨y, _, rfl⟩ := List.mem_map.1 hx
            exact scaleL_I64 _ _ _
          · rw [if_neg k7] at hf; cases hf

theorem stepL_rows {o : OpL} {sizes : List Int} {S : Int → Bool} (hop : opOK sizes S o = true) (hS : ∀ y, S y = true → 0 ≤ y ∧ y < (sizes.length : Int)) {vs : List (List Int)} (hr : RowsOK sizes vs) : RowsOK sizes (stepL o vs) := by
  have hop0 := hop
  unfold opOK at hop
  simp only [Bool.and_eq_true, Bool.not_eq_true', Bool.or_eq_true] at hop
  obtain ⟨hd, _, hsr, hot, _⟩ := hop
  have hd' := wthn_iff.1 hd
  have hs' := hS _ hsr
  obtain ⟨D, d2, dD, dl, dw⟩ := hr.pick (i := o.dst.toNat) (by omega)
  obtain ⟨Sr, s2, sD, sl, sw⟩ := hr.pick (i := o.src.toNat) (by omega)
  have ho : o.kind = 6 → ((vs.getD o.other.toNat []).length : Int) = sizes.getD o.other.toNat 0 := by
    intro k6
    have hso : S o.other = true := by
      rcases hot with h0 | h0
      · simp [k6] at h0
      · exact h0
    have ho' := hS _ hso
    obtain ⟨O, _, oD, ol, _⟩ := hr.pick (i := o.other.toNat) (by omega)
    rw [oD]; exact ol
  obtain ⟨hl, hw⟩ := doL_ok (O := vs.getD o.other.toNat []) hop0 dl sl ho dw sw
  have hst : stepL o vs = vs.set o.dst.toNat (doL o D Sr (vs.getD o.other.toNat [])) := by unfold stepL; rw [dD, sD]
  rw [hst]
  have hdv : o.dst.toNat < vs.length := (List.getElem?_eq_some_iff.1 d2).1
  refine ⟨by simp [hr.len], ?_, ?_⟩
  · intro i n v hn hv
    by_cases he : o.dst.toNat = i
    · subst he
      rw [List.getElem?_set_self hdv] at hv
      cases hv
      rw [hl]
      exact hr.row _ n D hn d2
    · rw [List.getElem?_set_ne he] at hv
      exact hr.row i n v hn hv
  · intro v hv
    rcases List.mem_or_eq_of_mem_set hv with h1 | h1
    · exact hr.wf v h1
    · rw [h1]; exact hw

/-- All the operations of a valid kernel can be done. -/
theorem run_inv {k : KerL} (hz : k.sizes.all (fun n => wthn n 1 262144) = true) (hs : 0 < k.sizes.length) {T : Int → Bool} (hT : opsRun k.sizes k.ops = some T) {inp : List Int} (hi : (inp.length : Int) = k.sizes.getD 0 0) (hw : ∀ x ∈ inp, I64 x) :
    ∀ j, j ≤ k.ops.length → ∃ S, opsRun k.sizes (k.ops.take j) = some S ∧ (∀ y, S y = true → 0 ≤ y ∧ y < (k.sizes.length : Int)) ∧ RowsOK k.sizes (runL k inp j) ∧ ∀ o, k.ops[j]? = some o → opOK k.sizes S o = true := by
  have hok : ∀ j S, opsRun k.sizes (k.ops.take j) = some S → ∀ o, k.ops[j]? = some o → opOK k.sizes S o = true := by
    intro j S h o ho
    by_cases hc : opOK k.sizes S o = true
    · exact hc
    · have h2 : opsRun k.sizes (k.ops.take (j + 1)) = none := by
        rw [opsRun_succ ho, h]
        show (if opOK k.sizes S o = true then some (putS S o.dst) else none) = none
        rw [if_neg hc]
      rw [opsRun_fail h2] at hT
      cases hT
  intro j
  induction j with
  | zero =>
    intro _
    refine ⟨putS (fun _ => false) 0, rfl, ?_, ?_, hok 0 _ rfl⟩
    · intro y hy
      simp [putS] at hy
      omega
    · unfold runL
      simp only [List.take_zero, List.foldl_nil]
      refine ⟨by simp, ?_, ?_⟩
      · intro i n v hn hv
        by_cases he : 0 = i
        · subst he
          rw [List.getElem?_set_self (by simp; omega)] at hv
          cases hv
          rw [hi, List.getD_eq_getElem?_getD, hn]; rfl
        · rw [List.getElem?_set_ne he, List.getElem?_map, hn] at hv
          simp at hv
          subst hv
          have := wthn_iff.1 (List.all_eq_true.1 hz n (List.mem_of_getElem? hn))
          simp; omega
      · intro v hv
        rcases List.mem_or_eq_of_mem_set hv with h1 | h1
        · obtain ⟨n, _, rfl⟩ := List.mem_map.1 h1
          intro x hx
          rw [List.eq_of_mem_replicate hx]; unfold I64; omega
        · rw [h1]; exact hw
  | succ j ih =>
    intro hj
    obtain ⟨S, h1, h2, h3, h4⟩ := ih (by omega)
    have ho : k.ops[j]? = some k.ops[j] := List.getElem?_eq_getElem (by omega)
    have h5 := h4 _ ho
    have h6 : opsRun k.sizes (k.ops.take (j + 1)) = some (putS S k.ops[j].dst) := by
      rw [opsRun_succ ho, h1]
      show (if opOK k.sizes S _ = true then some (putS S _) else none) = _
      rw [if_pos h5]
    refine ⟨_, h6, opOK_range h5 h2, ?_, hok _ _ h6⟩
    rw [runL_succ ho]
    exact stepL_rows h5 h2 h3

end Go.Proofs.YthlmgejikbmmaaaGreat

/-
  Plain laws for the reference of layer 54: comparing numbers by their fields and by their values; one operation of a kernel, checked. No program in sight.
-/
namespace Go.Proofs.YthlmgejikbmmaaaGreat
open Go.RowKit

theorem ratOf_lt (x y : RatL) : ratOf x < ratOf y ↔ sgn x.neg (lval x.num * underN y.den) < sgn y.neg (lval y.num * underN x.den) := by
  have h : ratOf y - ratOf x = mkRat (sgn y.neg (lval y.num * underN x.den) + sgn (!x.neg) (lval x.num * underN y.den)) (underN y.den * underN x.den) := by
    rw [addQ _ _ _ _ (underN_pos _) (underN_pos _), negQ, ← Rat.sub_eq_add_neg]
    rfl
  have h1 : ratOf x < ratOf y ↔ 0 < ratOf y - ratOf x := by
    generalize ratOf x = p
    generalize ratOf y = q
    grind
  rw [h1, h, mkRat_pos_iff (Nat.mul_pos (underN_pos _) (underN_pos _)), sgn_not]
  omega
theorem cmpR_cmpQ (x y : RatL) : cmpR x y = cmpQ (ratOf x) (ratOf y) := by
  unfold cmpR cmpQ cmpI
  simp only [ratOf_lt]
theorem errOK_eq (e : RatL) : errOK e = (validR e && !decide (signQ (ratOf e) < 0)) := by
  unfold errOK
  cases hv : validR e with
  | false => rfl
  | true =>
    have h1 : e = ratL (ratOf e) := by rw [← canonL_ratL]; exact of_decide_eq_true hv
    have h2 : e.neg = decide (ratOf e < 0) := by
      have := neg_ratL (ratOf e)
      rw [← h1] at this
      exact this
    rw [h2]
    simp only [Bool.true_and]
    unfold signQ
    by_cases h : ratOf e < 0
    · simp [h]
    · simp only [h, if_false]
      split <;> simp
theorem cmpQ_pos {p q : Rat} : (0 < cmpQ p q) ↔ q < p := by
  unfold cmpQ
  by_cases h1 : p < q
  · rw [if_pos h1]
    have : ¬ q < p := by grind
    simp [this]
  · rw [if_neg h1]
    by_cases h2 : q < p
    · rw [if_pos h2]; simp [h2]
    · rw [if_neg h2]; simp [h2]
theorem pairOK_eq (a b : RatL) : pairOK a b = (validR a && (validR b && !decide (0 < cmpQ (ratOf a) (ratOf b)))) := by
  unfold pairOK; rw [cmpR_cmpQ]

/-- What is so of the reference's marks. -/
structure Wrt (sizes : List Int) (S : Int → Bool) (W : List Bool) : Prop where
  len : W.length = sizes.length
  at_ : ∀ i : Nat, i < sizes.length → W[i]? = some (S (i : Int))
  rng : ∀ y, S y = true → 0 ≤ y ∧ y < (sizes.length : Int)
theorem Wrt.put {sizes : List Int} {S : Int → Bool} {W : List Bool} (h : Wrt sizes S W) {d : Nat} (hd : d < sizes.length) : Wrt sizes (putS S (d : Int)) (W.set d true) := by
  refine ⟨by rw [List.length_set, h.len], fun i hi => ?_, fun y hy => ?_⟩
  · unfold putS
    by_cases hid : d = i
    · subst hid
      rw [List.getElem?_set_self (by rw [h.len]; exact hd)]
      simp
    · rw [List.getElem?_set_ne hid, h.at_ i hi]
      have : ((i : Int) == (d : Int)) = false := by rw [beq_eq_false_iff_ne]; omega
      rw [this, Bool.false_or]
  · unfold putS at hy
    rw [Bool.or_eq_true, beq_iff_eq] at hy
    rcases hy with rfl | hy
    · omega
    · exact h.rng y hy
theorem Wrt.start {sizes : List Int} (hn : 0 < sizes.length) : Wrt sizes (putS (fun _ => false) 0) ((List.replicate sizes.length false).set 0 true) := by
  have h0 : Wrt sizes (fun _ => false) (List.replicate sizes.length false) := ⟨by simp, fun i hi => by simp [hi], fun y hy => by cases hy⟩
  exact h0.put hn

/-- kind apart, what fits does not look at the other. -/
theorem fitsL_other {o : OpL} {n m t t' : Int} (h : o.kind ≠ 6) : fitsL o n m t = fitsL o n m t' := by
  unfold fitsL
  simp only [h, if_false]
theorem fitsL_other0 {o : OpL} {n m t : Int} (h : o.kind ≠ 6) (hf : fitsL o n m t = true) : o.other = 0 := by
  unfold fitsL at hf
  by_cases k1 : o.kind = 1
  · rw [if_pos k1, Bool.and_eq_true, decide_eq_true_eq] at hf; exact hf.1.1
  rw [if_neg k1] at hf
  by_cases k2 : o.kind = 2
  · rw [if_pos k2, decide_eq_true_eq] at hf; exact hf.1
  rw [if_neg k2] at hf
  by_cases k3 : o.kind = 3
  · rw [if_pos k3, decide_eq_true_eq] at hf; exact hf.1
  rw [if_neg k3] at hf
  by_cases k4 : o.kind = 4 ∨ o.kind = 5
  · rw [if_pos k4, decide_eq_true_eq] at hf; exact hf.1
  rw [if_neg k4, if_neg h] at hf
  by_cases k7 : o.kind = 7
  · rw [if_pos k7, decide_eq_true_eq] at hf; exact hf.1
  rw [if_neg k7] at hf; cases hf

/-- The reference's test of an operation, in the order of its text. -/
def refOp (sizes : List Int) (S : Int → Bool) (o : OpL) : Bool :=
  wthn o.dst 1 ((sizes.length : Int) - 1) && (!S o.dst && (wthn o.src 0 ((sizes.length : Int) - 1) && (S o.src && (wthn o.other 0 ((sizes.length : Int) - 1) && ((!decide (o.kind = 6) || S o.other) && fitsL o (sizes.getD o.dst.toNat 0) (sizes.getD o.src.toNat 0) (sizes.getD o.other.toNat 0))))))
theorem refOp_eq {sizes : List Int} {S : Int → Bool} {W : List Bool} (h : Wrt sizes S W) (hn : 0 < sizes.length) (o : OpL) : refOp sizes S o = opOK sizes S o := by
  unfold refOp opOK otherOf
  rw [Bool.eq_iff_iff]
  simp only [Bool.and_eq_true, Bool.not_eq_true', Bool.or_eq_true, decide_eq_false_iff_not, wthn_iff]
  by_cases k6 : o.kind = 6
  · simp only [k6, not_true_eq_false, false_or, if_true]
    constructor
    · rintro ⟨h1, h2, _, h4, _, h6, h7⟩
      exact ⟨h1, h2, h4, h6, h7⟩
    · rintro ⟨h1, h2, h4, h6, h7⟩
      have r1 := h.rng _ h4
      have r2 := h.rng _ h6
      exact ⟨h1, h2, by omega, h4, by omega, h6, h7⟩
  · simp only [k6, not_false_eq_true, true_or, true_and, if_false]
    rw [fitsL_other (t := sizes.getD o.other.toNat 0) (t' := 0) k6]
    constructor
    · rintro ⟨h1, h2, _, h4, _, h7⟩
      exact ⟨h1, h2, h4, h7⟩
    · rintro ⟨h1, h2, h4, h7⟩
      have r1 := h.rng _ h4
      have r2 := fitsL_other0 k6 h7
      exact ⟨h1, h2, by omega, h4, by omega, h7⟩

/-- One operation that is not permitted: the kernel is not valid. -/
theorem validK_stop {k : KerL} {S : Int → Bool} {j : Nat} {o : OpL} (hS : opsRun k.sizes (k.ops.take j) = some S) (ho : k.ops[j]? = some o) (hb : opOK k.sizes S o = false) : validK k = false := by
  have h1 : opsRun k.sizes k.ops = none := by
    refine opsRun_fail (j := j + 1) ?_
    rw [opsRun_succ ho, hS]
    simp [opStep, hb]
  unfold validK
  rw [h1]
  simp
theorem opsRun_next {sizes : List Int} {L : List OpL} {S : Int → Bool} {j : Nat} {o : OpL} (hS : opsRun sizes (L.take j) = some S) (ho : L[j]? = some o) (hb : opOK sizes S o = true) : opsRun sizes (L.take (j + 1)) = some (putS S o.dst) := by
  rw [opsRun_succ ho, hS]
  simp [opStep, hb]
theorem validK_tail {k : KerL} {S : Int → Bool} (h1 : wthn k.sizes.length 1 1024 = true) (h2 : k.ops.length ≤ 1024) (h3 : k.sizes.all (fun n => wthn n 1 262144) = true) (hS : opsRun k.sizes k.ops = some S) : validK k = tailOK k S := by
  unfold validK
  rw [h1, h3, hS, decide_eq_true h2]
  rfl

/-- Element i of what an operation lays. -/
def elemL (o : OpL) (S O : List Int) (i : Nat) : Int :=
  if o.kind = 1 then (if o.index.getD i 0 < 0 then 0 else S.getD (o.index.getD i 0).toNat 0)
  else if o.kind = 2 then gemmAt o.weights o.bias S o.inner.toNat o.cols.toNat i
  else if o.kind = 3 then max 0 (S.getD i 0)
  else if o.kind = 4 then mxAt S (i * o.inner.toNat) o.inner.toNat
  else if o.kind = 5 then smAt S (i * o.inner.toNat) 0 o.inner.toNat
  else if o.kind = 6 then wrap64 (S.getD i 0 + O.getD i 0)
  else scaleL (S.getD i 0) o.mul o.shift.toNat
theorem list_ext_getD {a b : List Int} (hl : a.length = b.length) (h : ∀ i, i < a.length → a.getD i 0 = b.getD i 0) : a = b := by
  apply List.ext_getElem hl
  intro i h1 h2
  have := h i h1
  rw [List.getD_eq_getElem?_getD, List.getD_eq_getElem?_getD, List.getElem?_eq_getElem h1, List.getElem?_eq_getElem h2] at this
  exact this
theorem rangeMap_getD {f : Nat → Int} {n i : Nat} (h : i < n) : ((List.range n).map f).getD i 0 = f i := by
  rw [List.getD_eq_getElem?_getD, List.getElem?_map, List.getElem?_range h]; rfl
theorem repl_getD (n i : Nat) : (List.replicate n (0 : Int)).getD i 0 = 0 := by
  rw [List.getD_eq_getElem?_getD, List.getElem?_replicate]; split <;> rfl
theorem zipWith_getD {f : Int → Int → Int} {a b : List Int} {i : Nat} (ha : i < a.length) (hb : i < b.length) : (List.zipWith f a b).getD i 0 = f (a.getD i 0) (b.getD i 0) := by
  simp only [List.getD_eq_getElem?_getD, List.getElem?_zipWith, List.getElem?_eq_getElem ha, List.getElem?_eq_getElem hb, Option.getD_some]
theorem map_getD {f : Int → Int} {a : List Int} {i : Nat} (ha : i < a.length) : (a.map f).getD i 0 = f (a.getD i 0) := by
  simp only [List.getD_eq_getElem?_getD, List.getElem?_map, List.getElem?_eq_getElem ha, Option.map_some, Option.getD_some]
theorem doL_elem {o : OpL} {sizes : List Int} {S : Int → Bool} (hop : opOK sizes S o = true) {n : Nat} {Sr O : List Int} (hd : (n : Int) = sizes.getD o.dst.toNat 0) (hs : (Sr.length : Int) = sizes.getD o.src.toNat 0) (ho : o.kind = 6 → (O.length : Int) = sizes.getD o.other.toNat 0) :
    doL o (List.replicate n 0) Sr O = (List.range n).map (elemL o Sr O) := by
  unfold opOK at hop
  simp only [Bool.and_eq_true] at hop
  obtain ⟨_, _, _, _, hf⟩ := hop
  unfold fitsL at hf
  unfold doL elemL
  by_cases k1 : o.kind = 1
  · simp only [k1, if_true, Bool.and_eq_true, decide_eq_true_eq] at hf ⊢
    have hl : o.index.length = n := by omega
    refine list_ext_getD (by simp [hl]) fun i hi => ?_
    have hin : i < n := by simp [hl] at hi; omega
    rw [rangeMap_getD hin, zipWith_getD (by omega) (by simpa using hin), repl_getD]
    by_cases hx : o.index.getD i 0 < 0
    · rw [if_neg (by omega), if_pos hx]
    · rw [if_pos (by omega), if_neg hx]
  simp only [k1, if_false] at hf ⊢
  by_cases k2 : o.kind = 2
  · simp only [k2, if_true] at hf ⊢
    unfold gemmL
    rw [List.length_replicate]
  simp only [k2, if_false] at hf ⊢
  by_cases k3 : o.kind = 3
  · simp only [k3, if_true, decide_eq_true_eq] at hf ⊢
    have hl : Sr.length = n := by omega
    refine list_ext_getD (by simp [hl]) fun i hi => ?_
    have hin : i < n := by simp [hl] at hi; omega
    rw [rangeMap_getD hin, map_getD (by omega)]
  simp only [k3, if_false] at hf ⊢
  by_cases k4 : o.kind = 4
  · simp only [k4, if_true] at hf ⊢
    unfold maxL
    rw [List.length_replicate]
  simp only [k4, if_false, false_or] at hf ⊢
  by_cases k5 : o.kind = 5
  · simp only [k5, if_true] at hf ⊢
    unfold sumL
    rw [List.length_replicate]
    simp only [repl_getD]
  simp only [k5, if_false] at hf ⊢
  by_cases k6 : o.kind = 6
  · have h6 := ho k6
    unfold otherOf at hf
    simp only [k6, if_true, decide_eq_true_eq] at hf ⊢
    have hl : Sr.length = n := by omega
    have hl2 : O.length = n := by omega
    refine list_ext_getD (by simp [hl, hl2]) fun i hi => ?_
    have hin : i < n := by simp [hl, hl2] at hi; omega
    rw [rangeMap_getD hin, zipWith_getD (by omega) (by omega)]
  simp only [k6, if_false] at hf ⊢
  by_cases k7 : o.kind = 7
  · simp only [k7, if_true, decide_eq_true_eq] at hf
    have hl : Sr.length = n := by omega
    refine list_ext_getD (by simp [hl]) fun i hi => ?_
    have hin : i < n := by simp [hl] at hi; omega
    rw [rangeMap_getD hin, map_getD (by omega)]
  · simp only [k7, if_false] at hf
    cases hf

/-- Where nothing was written, zeros lie. -/
theorem run_zero {k : KerL} {inp : List Int} : ∀ (j : Nat) (S : Int → Bool), j ≤ k.ops.length → opsRun k.sizes (k.ops.take j) = some S → ∀ i : Nat, i < k.sizes.length → S (i : Int) = false → (runL k inp j)[i]? = some (List.replicate (k.sizes.getD i 0).toNat 0) := by
  intro j
  induction j with
  | zero =>
    intro S _ hS i hi hf
    simp only [List.take_zero, opsRun, List.foldl_nil, Option.some.injEq] at hS
    subst hS
    have hi0 : i ≠ 0 := by rintro rfl; simp [putS] at hf
    unfold runL
    simp only [List.take_zero, List.foldl_nil]
    rw [List.getElem?_set_ne (Ne.symm hi0), List.getElem?_map, getD_at hi]
    rfl
  | succ j ih =>
    intro S hj hS i hi hf
    have hlt : j < k.ops.length := hj
    obtain ⟨o, ho⟩ : ∃ o, k.ops[j]? = some o := ⟨k.ops[j], List.getElem?_eq_getElem hlt⟩
    have hS' := hS
    rw [opsRun_succ ho] at hS'
    cases hq : opsRun k.sizes (k.ops.take j) with
    | none => rw [hq] at hS'; cases hS'
    | some S0 =>
      rw [hq] at hS'
      unfold opStep at hS'
      rw [Option.bind_some] at hS'
      by_cases hop : opOK k.sizes S0 o = true
      · rw [if_pos hop, Option.some.injEq] at hS'
        subst hS'
        unfold putS at hf
        rw [Bool.or_eq_false_iff, beq_eq_false_iff_ne] at hf
        rw [runL_succ ho]
        unfold stepL
        have hd : 1 ≤ o.dst := by
          unfold opOK at hop
          rw [Bool.and_eq_true] at hop
          exact (wthn_iff.1 hop.1).1
        rw [List.getElem?_set_ne (by omega)]
        exact ih S0 (by omega) hq i hi hf.2
      · rw [if_neg hop] at hS'; cases hS'

end Go.Proofs.YthlmgejikbmmaaaGreat

/-
  kernel.Buffers, kernel.Run: by contract.
-/
namespace Go.Proofs.YthlmgejikbmmaaaGreat
open Go.RowKit

theorem validK_parts {k : KerL} (h : validK k = true) : wthn k.sizes.length 1 1024 = true ∧ k.ops.length ≤ 1024 ∧ k.sizes.all (fun n => wthn n 1 262144) = true ∧ ∃ S, opsRun k.sizes k.ops = some S ∧ tailOK k S = true := by
  unfold validK at h
  simp only [Bool.and_eq_true, decide_eq_true_eq] at h
  obtain ⟨h1, h2, h3, h4⟩ := h
  refine ⟨h1, h2, h3, ?_⟩
  cases hq : opsRun k.sizes k.ops with
  | none => rw [hq] at h4; cases h4
  | some S => rw [hq] at h4; exact ⟨S, rfl, h4⟩
theorem runSteps {k : KerL} (hval : validK k = true) (hwf : k.WF) {inp : List Int} (hw : ∀ x ∈ inp, I64 x) {h wd : Int} (ht : TileOK h wd) (base : Nat) (hi : (inp.length : Int) = k.sizes.getD 0 0) :
    ∀ j o, k.ops[j]? = some o → StepOK base o (runL k inp j) (runL k inp (j + 1)) h wd := by
  intro j o ho
  obtain ⟨h1, h2, h3, S, h4, _⟩ := validK_parts hval
  have hs := wthn_iff.1 h1
  have hlt := (List.getElem?_eq_some_iff.1 ho).1
  have hm := List.mem_of_getElem? ho
  obtain ⟨S', _, g2, g3, g4⟩ := run_inv h3 (by omega) h4 hi hw j (by omega)
  rw [runL_succ ho]
  exact stepOK (g4 o ho) g2 g3 h3 (hwf.ops o hm).2.2.2 ht

theorem RunPost.from {w w1 w' : World} {k : KerL} {inp : List Int} {vs : List (List Int)} {h wd : Int} {e : Ending} (hb : Below w.heap.size w w1) (hp : RunPost w1 k inp vs h wd e w') : RunPost w k inp vs h wd e w' := by
  rcases hp with ⟨h1, h2, h3⟩ | ⟨h1, h2, h3⟩
  · exact .inl ⟨h1, hb.trans (h2.mono hb.size), h3⟩
  · exact .inr ⟨h1, hb.trans (h2.mono hb.size), h3⟩

/-- What Buffers leaves. -/
def BufPost (w : World) (k : KerL) (inp : List Int) (e : Ending) (w' : World) : Prop :=
  (validK k = true ∧ RunPost w k inp (runL k inp k.ops.length) 0 0 e w') ∨ (validK k = false ∧ Below w.heap.size w w' ∧ e = .returned (.tuple #[.slice none 0 0, .int .i64 1]))

set_option maxRecDepth 100000 in
set_option maxHeartbeats 3200000 in
theorem kBuffers {w : World} {v : Value} {k : KerL} (hv : KerV w v k) (hwf : k.WF) {inp : List Int} {ai : Option Addr} {ci : Nat} (hin : Ints w Any ai inp) :
    Calls Tryz.prog 6 #[v, .slice ai inp.length ci] w (BufPost w k inp) := by
  have HKV := Lib.hid hv
  obtain ⟨a1, a2, a3, a4, a5, c1, c2, c3, c4, c5, rfl, _⟩ := hv.ex
  have HIN := Lib.hid hin
  have HWF := Lib.hid hwf
  clear hv hin hwf
  go_enter Tryz.func6, Tryz.ntmps6
  go_upto_region 1 with fail
  have hbx := Box8.alloc w (.slice a1 k.sizes.length c1) (.slice a2 k.ops.length c2) (.int .i64 k.output) (.int .i64 k.inShift) (.int .i64 k.outShift) (.slice a3 k.lo.length c3) (.slice a4 k.hi.length c4) (.slice a5 k.err.length c5) 26
  have hb1 : Below w.heap.size w (w.alloc (.cells #[.slice a1 k.sizes.length c1, .slice a2 k.ops.length c2, .int .i64 k.output, .int .i64 k.inShift, .int .i64 k.outShift, .slice a3 k.lo.length c3, .slice a4 k.hi.length c4, .slice a5 k.err.length c5] 26)) := (Below.refl _ w).alloc (Nat.le_refl _) _
  generalize w.alloc (.cells #[.slice a1 k.sizes.length c1, .slice a2 k.ops.length c2, .int .i64 k.output, .int .i64 k.inShift, .int .i64 k.outShift, .slice a3 k.lo.length c3, .slice a4 k.hi.length c4, .slice a5 k.err.length c5] 26) = W at *
  have HBx := Lib.hid hbx
  have HB1 := Lib.hid hb1
  obtain ⟨x0, x1, x2, x3, x4, x5, x6, x7, xlt⟩ := hbx
  clear hb1
  go_wp2_with fail
  refine (kValid (HKV.out.below HB1.out) HWF.out).mono ?_
  rintro e w2 ⟨rfl, hb2⟩
  have HB2 := Lib.hid (HB1.out.trans (hb2.mono HB1.out.size))
  obtain ⟨y0, y1, y2, y3, y4, y5, y6, y7, ylt⟩ := HBx.out.below hb2
  clear hb2 x0 x1 x2 x3 x4 x5 x6 x7 xlt
  cases hq : validK k with
  | false =>
    have HQ := Lib.hid hq
    clear hq
    go_wp2
    go_ret2
    exact .inr ⟨HQ.out, HB2.out, rfl⟩
  | true =>
    have HQ := Lib.hid hq
    clear hq
    go_wp2_with fail
    obtain ⟨q1, q2, q3, _⟩ := validK_parts HQ.out
    refine (kRun (HKV.out.below HB2.out) (HIN.out.below HB2.out) q1 q3 0 0 q2 (runL k inp) rfl (runSteps HQ.out HWF.out HIN.out.wf (.inl ⟨rfl, rfl⟩) _)).mono ?_
    intro e w3 hp
    have hp' := hp.from HB2.out
    rcases hp' with ⟨h1, h2, M, B, cap, gs, rfl, h3⟩ | ⟨h1, h2, rfl⟩
    · have H3 := Lib.hid h3
      have H2 := Lib.hid h2
      have H1 := Lib.hid h1
      clear h1 h2 h3 hp
      go_wp2
      go_ret2
      exact .inl ⟨HQ.out, .inl ⟨H1.out, H2.out, M, B, cap, gs, rfl, H3.out⟩⟩
    · have H2 := Lib.hid h2
      have H1 := Lib.hid h1
      clear h1 h2 hp
      go_wp2
      go_ret2
      exact .inl ⟨HQ.out, .inr ⟨H1.out, H2.out, rfl⟩⟩

end Go.Proofs.YthlmgejikbmmaaaGreat

/-
  kernel.Run: by contract.
-/
namespace Go.Proofs.YthlmgejikbmmaaaGreat
open Go.RowKit

/-- What Run returns. -/
def outL (k : KerL) (inp : List Int) : List Int := (runL k inp k.ops.length).getD k.output.toNat []
def OutPost (w : World) (k : KerL) (inp : List Int) (e : Ending) (w' : World) : Prop :=
  (validK k = true ∧ (inp.length : Int) = k.sizes.getD 0 0 ∧ Below w.heap.size w w' ∧ ∃ a c, e = .returned (.tuple #[.slice a (outL k inp).length c, .int .i64 0]) ∧ Ints w' Any a (outL k inp)) ∨
  (validK k = true ∧ ¬ (inp.length : Int) = k.sizes.getD 0 0 ∧ Below w.heap.size w w' ∧ e = .returned (.tuple #[.slice none 0 0, .int .i64 11])) ∨
  (validK k = false ∧ Below w.heap.size w w' ∧ e = .returned (.tuple #[.slice none 0 0, .int .i64 1]))

theorem out_parts {k : KerL} (hval : validK k = true) {inp : List Int} (hw : ∀ x ∈ inp, I64 x) (hi : (inp.length : Int) = k.sizes.getD 0 0) :
    0 ≤ k.output ∧ k.output < (k.sizes.length : Int) ∧ RowsOK k.sizes (runL k inp k.ops.length) ∧ k.sizes.length ≤ 1024 ∧ k.sizes.all (fun n => wthn n 1 262144) = true := by
  obtain ⟨h1, h2, h3, S, h4, h5⟩ := validK_parts hval
  have hs := wthn_iff.1 h1
  obtain ⟨S', g1, g2, g3, _⟩ := run_inv h3 (by omega) h4 hi hw k.ops.length (Nat.le_refl _)
  rw [List.take_length, h4] at g1
  cases g1
  unfold tailOK at h5
  rw [Bool.and_eq_true] at h5
  have := g2 _ h5.1
  exact ⟨this.1, this.2, g3, by omega, h3⟩

set_option maxRecDepth 100000 in
set_option maxHeartbeats 3200000 in
theorem kOut {w : World} {v : Value} {k : KerL} (hv : KerV w v k) (hwf : k.WF) {inp : List Int} {ai : Option Addr} {ci : Nat} (hin : Ints w Any ai inp) :
    Calls Tryz.prog 8 #[v, .slice ai inp.length ci] w (OutPost w k inp) := by
  have HKV := Lib.hid hv
  obtain ⟨a1, a2, a3, a4, a5, c1, c2, c3, c4, c5, rfl, _⟩ := hv.ex
  have HIN := Lib.hid hin
  have HWF := Lib.hid hwf
  clear hv hin hwf
  go_enter Tryz.func8, Tryz.ntmps8
  go_upto_region 1 with fail
  have hbx := Box8.alloc w (.slice a1 k.sizes.length c1) (.slice a2 k.ops.length c2) (.int .i64 k.output) (.int .i64 k.inShift) (.int .i64 k.outShift) (.slice a3 k.lo.length c3) (.slice a4 k.hi.length c4) (.slice a5 k.err.length c5) 26
  have hb1 : Below w.heap.size w (w.alloc (.cells #[.slice a1 k.sizes.length c1, .slice a2 k.ops.length c2, .int .i64 k.output, .int .i64 k.inShift, .int .i64 k.outShift, .slice a3 k.lo.length c3, .slice a4 k.hi.length c4, .slice a5 k.err.length c5] 26)) := (Below.refl _ w).alloc (Nat.le_refl _) _
  generalize w.alloc (.cells #[.slice a1 k.sizes.length c1, .slice a2 k.ops.length c2, .int .i64 k.output, .int .i64 k.inShift, .int .i64 k.outShift, .slice a3 k.lo.length c3, .slice a4 k.hi.length c4, .slice a5 k.err.length c5] 26) = W at *
  have HBx := Lib.hid hbx
  have HB1 := Lib.hid hb1
  obtain ⟨x0, x1, x2, x3, x4, x5, x6, x7, xlt⟩ := hbx
  clear hb1
  go_wp2_with fail
  refine (kBuffers (HKV.out.below HB1.out) HWF.out (HIN.out.below HB1.out)).mono ?_
  intro e w2 hp
  clear x0 x1 x2 x3 x4 x5 x6 x7 xlt
  rcases hp with ⟨h0, ⟨h1, h2, M, B, cap, gs, rfl, h3, h4⟩ | ⟨h1, h2, rfl⟩⟩ | ⟨h0, h2, rfl⟩
  · obtain ⟨p1, p2, p3, p4, p5⟩ := out_parts h0 HIN.out.wf h1
    obtain ⟨on, hon⟩ : ∃ n : Nat, k.output = n := ⟨k.output.toNat, by omega⟩
    obtain ⟨l, o2, oD, ol, ow⟩ := p3.pick (i := on) (by omega)
    have HL : Hid (outL k inp = l) := by unfold Hid outL; rw [hon, Int.toNat_natCast]; exact oD
    obtain ⟨g, o1⟩ : ∃ g, gs[on]? = some g := ⟨gs[on]'(by omega), List.getElem?_eq_getElem (by omega)⟩
    obtain ⟨r1, r2⟩ := h3.row on g l o1 o2
    have hsz := sizes_range p5 on (by omega) (by omega)
    rw [Int.toNat_natCast] at hsz
    have HI : Hid (Ints w2 Any (some ⟨g, 0, none⟩) l) := r2.ints trivial ow (by omega)
    have z2 := (HBx.out.below h2).c2
    rw [hon] at z2
    have hol : on < k.sizes.length := by omega
    have H1 := Lib.hid h1
    have H0 := Lib.hid h0
    have H2 := Lib.hid (HB1.out.trans (h2.mono HB1.out.size))
    have HON := Lib.hid hon
    clear h0 h1 h2 h3 p1 p2 p3 p5 r2 hon oD ol ow o2 hsz
    go_wp2
    go_ret2
    refine .inl ⟨H0.out, H1.out, H2.out, some ⟨g, 0, none⟩, l.length, ?_, ?_⟩
    · rw [HL.out]; rfl
    · rw [HL.out]; exact HI.out
  · have H1 := Lib.hid h1
    have H0 := Lib.hid h0
    have H2 := Lib.hid (HB1.out.trans (h2.mono HB1.out.size))
    clear h0 h1 h2
    go_wp2
    go_ret2
    exact .inr (.inl ⟨H0.out, H1.out, H2.out, rfl⟩)
  · have H0 := Lib.hid h0
    have H2 := Lib.hid (HB1.out.trans (h2.mono HB1.out.size))
    clear h0 h2
    go_wp2
    go_ret2
    exact .inr (.inr ⟨H0.out, H2.out, rfl⟩)

end Go.Proofs.YthlmgejikbmmaaaGreat

/-
  The reference's SameInts: by contract.
-/
namespace Go.Proofs.YthlmgejikbmmaaaGreat
open Go.RowKit

theorem drewN_below (w : World) (n : Nat) : Below w.heap.size w (w.drewN n) := ⟨rfl, rfl, rfl, Nat.le_refl _, fun _ _ => rfl⟩

set_option maxRecDepth 100000 in
set_option maxHeartbeats 1600000 in
theorem rSameInts {w : World} {F G : Nat → Prop} {a b : Option Addr} {A B : List Int} (ha : Ints w F a A) (hb : Ints w G b B) (ca cb : Nat) :
    Calls Tryz.prog 9 #[.slice a A.length ca, .slice b B.length cb] w fun e w' => e = .returned (.bool (decide (A = B))) ∧ Below w.heap.size w w' := by
  have HA := Lib.hid ha
  have HB := Lib.hid hb
  have la := ha.len
  have lb := hb.len
  clear ha hb
  go_enter Tryz.func9, Tryz.ntmps9
  by_cases hl : A.length = B.length
  · have HL := Lib.hid hl
    have hli : decide (¬ (A.length : Int) = (B.length : Int)) = false := by simp; omega
    have hlb : ((A.length : Int) == (B.length : Int)) = true := by simp; omega
    go_wp2
    go_loopw [5] (fun i wr => ∃ j : Nat, j ≤ A.length ∧ i = .int .i64 (j : Int) ∧ Hid (A.take j = B.take j) ∧ Hid (∃ n, wr = w.drewN n)) (fun i _ => A.length - (intOf i).toNat)
    case atStart => exact ⟨0, Nat.zero_le _, rfl, by simp [Hid], 0, rfl⟩
    case round =>
      obtain ⟨j, hj, rfl, HT, HN⟩ := hrel
      obtain ⟨nd, rfl⟩ := HN.out
      by_cases hlt : j < A.length
      · have hltb : j < B.length := by rw [← HL.out]; exact hlt
        obtain ⟨ba, oa, rfl, _, _, hca⟩ := HA.out.cells hlt
        obtain ⟨bb, ob, rfl, _, _, hcb⟩ := HB.out.cells hltb
        have cA : w.cell? ⟨ba, oa + j, none⟩ = _ := hca j hlt
        have cB : w.cell? ⟨bb, ob + j, none⟩ = _ := hcb j hltb
        have TA := Lib.hid (take_succ_at (getD_at hlt))
        have TB := Lib.hid (take_succ_at (getD_at hltb))
        have GA := Lib.hid (getD_at hlt)
        have GB := Lib.hid (getD_at hltb)
        clear hca hcb
        generalize A.getD j 0 = x at cA TA GA
        generalize B.getD j 0 = y at cB TB GB
        by_cases hxy : x = y
        · subst hxy
          go_wp2
          go_quiet (fail)
          go_wp2
          go_roundw
          case rel => exact ⟨j + 1, hlt, by go_num, by unfold Hid; rw [TA.out, TB.out, HT.out], _, rfl⟩
          case measure => simp [intOf]; omega
        · have hne : Hid (decide (A = B) = false) := by
            unfold Hid
            rw [decide_eq_false_iff_not]
            rintro rfl
            have h1 := GA.out.symm.trans GB.out
            cases h1
            exact hxy rfl
          have hxb : (x == y) = false := by simp [hxy]
          go_wp2
          go_quiet (fail)
          go_wp2
          go_ret
          exact ⟨by rw [hne.out]; rfl, ⟨rfl, rfl, rfl, Nat.le_refl _, fun _ _ => rfl⟩⟩
      · obtain rfl : j = A.length := by omega
        have he : Hid (decide (A = B) = true) := by
          have h1 := HT.out
          rw [List.take_length, HL.out, List.take_length] at h1
          unfold Hid; simp [h1]
        go_wp2
        go_ret
        exact ⟨by rw [he.out]; rfl, ⟨rfl, rfl, rfl, Nat.le_refl _, fun _ _ => rfl⟩⟩
  · have hne : Hid (decide (A = B) = false) := by
      unfold Hid
      rw [decide_eq_false_iff_not]
      rintro rfl
      exact hl rfl
    have hlb : ((A.length : Int) == (B.length : Int)) = false := by simp; omega
    go_wp2
    go_ret
    exact ⟨by rw [hne.out]; rfl, Below.refl _ _⟩

end Go.Proofs.YthlmgejikbmmaaaGreat
