/-
  The walk of im2col.Pool.
-/
import Derived.Test.YtcgpidicegbnoaaColB
import Derived.Test.YtcgpidicegbnoaaBaseB
namespace Go.Proofs.Ytcgpidicegbnoaa
open Go.RowKit

theorem poolL_kind {l : List Int} {kind kh kw s : Int} (h : ¬ (kind = 3 ∨ kind = 4)) : poolL l kind kh kw s = ([], 0, 1) := by
  unfold poolL; rw [if_pos (by omega)]
theorem poolL_err {l : List Int} {kind kh kw s e : Int} (hk : kind = 3 ∨ kind = 4) (h : windowsL l kh kw s 0 = ([], 0, 0, e)) (he : e ≠ 0) : poolL l kind kh kw s = ([], 0, e) := by
  unfold poolL; rw [if_neg (by omega), h]; simp [he]
theorem poolL_ok {l : List Int} {kind kh kw s : Int} {q : Win} {n : Nat} (hk : kind = 3 ∨ kind = 4) (hl : l = [(q.C : Int), (q.H : Int), (q.W : Int)]) (h1 : kh = q.kh) (h2 : kw = q.kw) (hn : q.kh * q.kw = n)
    (h : windowsL l kh kw s 0 = (q.all, (q.R : Int), (q.Q : Int), 0)) : poolL l kind kh kw s = (poolOf q.all q.C n, (n : Int), 0) := by
  unfold poolL
  rw [if_neg (by omega), h, ← hn]
  subst hl h1 h2
  simp
theorem pool_wf {q : Win} (hq : q.Ok) (C n : Nat) : ∀ x ∈ poolOf q.all C n, -1 ≤ x ∧ x < 16384 := by
  intro x hx
  simp only [poolOf, List.mem_flatMap, List.mem_range] at hx
  obtain ⟨ch, _, y, hy, hx⟩ := hx
  obtain ⟨i, hi, e⟩ := List.getElem_of_mem hy
  obtain ⟨_, _, _, h⟩ := q.all_pos hi
  rw [List.getElem?_eq_getElem hi, e] at h
  have hx' := List.mem_of_mem_drop (List.mem_of_mem_take hx)
  rw [Option.some.inj h] at hx'
  exact hq.one_bd _ _ _ hx'

theorem suc_mul_cast (r n : Nat) : ((r : Int) + 1) * (n : Int) = ((r * n + n : Nat) : Int) := by rw [Int.add_mul]; simp
theorem toNat_suc_mul (r n : Nat) : (((r : Int) + 1) * (n : Int)).toNat = r * n + n := by rw [suc_mul_cast]; exact Int.toNat_natCast _

theorem wpList_appIntsN {P : Program} {w : World} {ops : Array Oper} {rest : List Oper} {o : Oper} {a : Act} {Q : Exit → Act → World → Prop} (hgd : o.guard = none) (s x : Operand) (t : TypeId)
    (ho : o.op = .call { callee := .builtin .append, args := #[s, x], argTypes := #[t, t] })
    (base : Nat) (e : TypeId) (z : Value) (bytes : Nat) (ht : P.underlying t = some (.slice e)) (hinfo : (P.info? e).map (fun i => (i.zero, i.size, i.bytes)) = some (some z, 1, bytes)) (hz1 : z.cells.size = 1)
    (v : Value) (n : Nat) (xs : List Value) (hs : a.eval s = v) (hown : w.ownsRow base e 1 v n xs) {F : Nat → Prop} {ad : Option Addr} {l : List Int} (c : Nat) (hl : Ints w F ad l) {m : Nat} (hm : l.length = m)
    (hx : a.eval x = .slice ad m c)
    (hbytes : (n + m) * bytes ≤ 140737488355328) (h63 : n + m ≤ maxLen) (hbase : base ≤ w.heap.size)
    (h : ∀ v' w', w'.ownsRow base e 1 v' (n + m) (xs ++ l.map (Value.int .i64)) → w.grownBy w' v.ownBlock → Next w v v' → wpList P ops Q rest (a.put o.dst v') w') :
    wpList P ops Q (o :: rest) a w := by
  subst hm
  exact wpList_appInts hgd s x t ho base e z bytes ht hinfo hz1 v n xs hs hown c hl hx hbytes h63 hbase h

/-- A part of a slice of integers. -/
theorem Ints.sub {w : World} {F : Nat → Prop} {b off : Nat} {l : List Int} (h : Ints w F (some ⟨b, off, none⟩) l) {lo n : Nat} (hn : lo + n ≤ l.length) :
    ((l.drop lo).take n).length = n ∧ Ints w F (some ⟨b, off + lo, none⟩) ((l.drop lo).take n) := by
  have hlen : ((l.drop lo).take n).length = n := by simp; omega
  refine ⟨hlen, fun x hx => h.wf x (List.mem_of_mem_drop (List.mem_of_mem_take hx)), by have := h.len; omega, ?_⟩
  rcases h.row with rfl | ⟨b', off', hb, hF, hs, hc⟩
  · exact .inl (by simp)
  · cases hb
    refine .inr ⟨b, off + lo, rfl, hF, hs, fun j d hj => ?_⟩
    have hj' : j < n := by have := (List.getElem?_eq_some_iff.1 hj).1; omega
    rw [List.getElem?_take_of_lt hj', List.getElem?_drop] at hj
    rw [Nat.add_assoc]
    exact hc _ _ hj

set_option maxRecDepth 100000 in
set_option maxHeartbeats 3200000 in
theorem tPool {w : World} {F : Nat → Prop} {a : Option Addr} {l : List Int} (ca : Nat) (kind fr o kh kw s p : Int) (aw : Option Addr) (nw cw : Nat) (ab : Option Addr) (nb cb : Nat) (h : Ints w F a l) :
    Calls Try.prog 35 #[.slice a l.length ca, layerV kind fr o kh kw s p aw nw cw ab nb cb] w (PoolPost w (poolL l kind kh kw s)) := by
  have h1 := h.below ((Below.refl _ w).alloc (Nat.le_refl _) (.cells #[.int .i64 kind, .int .i64 fr, .int .i64 o, .int .i64 kh, .int .i64 kw, .int .i64 s, .int .i64 p, .slice aw nw cw, .slice ab nb cb] 44))
  have HZ := Lib.hid (tWin ca kh kw s 0 h1)
  have HH := Lib.hid h
  clear h h1
  by_cases hk : kind = 3 ∨ kind = 4
  · have hkd : ((kind != 3) = false) ∨ ((kind != 3) = true ∧ (kind != 4) = false) := by
      rcases hk with rfl | rfl
      · exact .inl rfl
      · exact .inr ⟨rfl, rfl⟩
    have HB : Hid (Below w.heap.size w (w.alloc (.cells #[.int .i64 kind, .int .i64 fr, .int .i64 o, .int .i64 kh, .int .i64 kw, .int .i64 s, .int .i64 p, .slice aw nw cw, .slice ab nb cb] 44))) := (Below.refl _ w).alloc (Nat.le_refl _) _
    rcases windowsL_cases l kh kw s 0 with ⟨er, he, hw⟩ | ⟨q, hq, ht, hl, hkh, hkw, hs, hp, hw⟩
    · have HG := Lib.hid (poolL_err hk hw (by omega))
      have HW := Lib.hid hw
      have hne : (er != 0) = true := by rw [bne_iff_ne]; omega
      clear hw he hk
      rcases hkd with hkd | ⟨hkd, hkd2⟩
      all_goals
        go_enter Try.func35, Try.ntmps35
        go_wp2_with fail
        refine HZ.out.mono ?_
        rintro e w2 ⟨a2, c2, rfl, _, hb⟩
        rw [HW.out]
        go_wp2
        refine bodyPost_ret (results_tmp3 rfl _ _ _) rfl ?_
        exact poolPost_err HG.out (HB.out.trans (hb.mono (by simp)))
    · obtain ⟨n, hn⟩ : ∃ n : Nat, q.kh * q.kw = n := ⟨_, rfl⟩
      have HG := Lib.hid (poolL_ok hk hl hkh hkw hn hw)
      have HW := Lib.hid hw
      obtain ⟨b1, b2, b3, b4, b5⟩ := Win.len_bd hq ht
      have hn1 : 1 ≤ n := by have : 1 * 1 ≤ q.kh * q.kw := Nat.mul_le_mul hq.kh1 hq.kw1; omega
      have hn2 : n ≤ 4096 := by have : q.kh * q.kw ≤ 64 * 64 := Nat.mul_le_mul hq.kh2 hq.kw2; omega
      have hone : ∀ (c : Nat) (x : List Int), q.all[c]? = some x → x.length = q.C * n := fun c x hx => by rw [all_one_len q hx, q.one_len, hn]
      have hNn : q.all.length * n ≤ 262144 := by
        have h1 : q.all.length * n ≤ q.all.length * (q.one 0 0).length := Nat.mul_le_mul_left _ (by rw [q.one_len, hn]; exact Nat.le_mul_of_pos_left n hq.c1)
        omega
      have HO1 := Lib.hid hone
      have HPW := Lib.hid (pool_wf hq q.C n)
      have hcst : (q.kh : Int) * (q.kw : Int) = (n : Int) := by rw [← hn]; simp
      have hC1 := hq.c1
      have hC2 := hq.c2
      obtain ⟨bs, os, x0, x1, x2, rfl, g0, _, _, e0, _, _⟩ := HH.out.three (by rw [hl]; rfl)
      obtain rfl : x0 = q.C := by rw [hl] at e0; simpa using e0.symm
      have hbs := World.block_lt_of_cell? w _ g0
      have HG0 := Lib.hid g0
      have h3 : 0 < l.length := by rw [hl]; simp
      have HCST := Lib.hid hcst
      have hkh1 := hq.kh1; have hkh2 := hq.kh2; have hkw1 := hq.kw1; have hkw2 := hq.kw2
      subst hkh
      subst hkw
      clear hw ht hl hs hp b3 e0 g0 hn hk hone hcst HH
      rcases hkd with hkd | ⟨hkd, hkd2⟩
      all_goals
        go_enter Try.func35, Try.ntmps35
        go_wp2_with fail
        refine HZ.out.mono ?_
        rintro e w2 ⟨a2, c2, rfl, hI, hb⟩
        rw [HW.out] at hI ⊢
        have hB2 : Below w.heap.size w w2 := HB.out.trans (hb.mono (by simp))
        have hbx : Below (w.heap.size + 1) (w.alloc (.cells #[.int .i64 kind, .int .i64 fr, .int .i64 o, .int .i64 q.kh, .int .i64 q.kw, .int .i64 s, .int .i64 p, .slice aw nw cw, .slice ab nb cb] 44)) w2 := by simpa using hb
        have c3 := box_cells hbx 3 _ rfl
        have c4 := box_cells hbx 4 _ rfl
        have HI := Lib.hid hI
        have hcst := HCST.out
        have g0 := (hB2.cell (p := ⟨bs, os, none⟩) hbs).trans HG0.out
        clear hI hb hbx
        go_wp2
        clear c3 c4 hcst g0
        go_loopw [12, 48] (fun v j wr => ∃ (r : Nat) (P : List Int), r ≤ q.C ∧ j = .int .i64 r ∧ Hid (P = (List.range r).flatMap fun ch => q.all.flatMap fun x => (x.drop (ch * n)).take n) ∧
            P.length ≤ r * 262144 ∧ Hid (wr.ownsRow w2.heap.size 3 1 v P.length (P.map (Value.int .i64))) ∧ Below w2.heap.size w2 wr)
          (fun _ j _ => q.C - (intOf j).toNat)
        case atStart => exact ⟨0, [], Nat.zero_le _, rfl, rfl, by simp, World.ownsRow_nil _ _ _ _, Below.refl _ _⟩
        case round =>
          obtain ⟨r, P, hr, rfl, HP, hPl, hO, hBr⟩ := hrel
          have g0 := ((hB2.trans (hBr.mono hB2.size)).cell (p := ⟨bs, os, none⟩) hbs).trans HG0.out
          by_cases hlt : r < q.C
          · go_wp2
            go_loopw [12, 53] (fun v j wi => ∃ (c : Nat) (T : List Int), c ≤ q.all.length ∧ j = .int .i64 c ∧ Hid (T = P ++ (q.all.take c).flatMap fun x => (x.drop (r * n)).take n) ∧ T.length ≤ r * 262144 + c * n ∧
                Hid (wi.ownsRow w2.heap.size 3 1 v T.length (T.map (Value.int .i64))) ∧ Below w2.heap.size w2 wi)
              (fun _ j _ => q.all.length - (intOf j).toNat)
            case atStart => exact ⟨0, P, Nat.zero_le _, rfl, by simp [Hid], by rw [Nat.zero_mul, Nat.add_zero]; exact hPl, hO, hBr⟩
            case round =>
              clear hO hBr g0
              obtain ⟨c, T, hc, rfl, HT, hTl, hO, hBr⟩ := hrel
              by_cases hltc : c < q.all.length
              · obtain ⟨y1, o1, l1, a1, k1, rfl, d1, e1, hcap, f1, _, _⟩ := (HI.out.below hBr).pickc hltc
                have hl1 := HO1.out c l1 e1
                have hrn : (r + 1) * n ≤ q.C * n := Nat.mul_le_mul_right _ hlt
                have hrs : (r + 1) * n = r * n + n := Nat.succ_mul _ _
                have hcn : (c + 1) * n ≤ q.all.length * n := Nat.mul_le_mul_right _ hltc
                have hcs : (c + 1) * n = c * n + n := Nat.succ_mul _ _
                obtain ⟨z1, p1, v1, rfl, m1, r1, _, _, _⟩ := f1.pick (k := 0) (show 0 < l1.length by omega)
                have hsub := f1.sub (lo := r * n) (n := n) (by omega)
                have HSUB := Lib.hid hsub.2
                have hsl := hsub.1
                have HSL := Lib.hid hsl
                have HE1 := Lib.hid e1
                have i1 : (0 : Int) ≤ (r : Int) * (n : Int) ∧ (r : Int) * (n : Int) ≤ 16384 * 4096 := prod_bd (by omega) (by omega) (by omega) (by omega)
                have i2 : (0 : Int) ≤ ((r : Int) + 1) * (n : Int) ∧ ((r : Int) + 1) * (n : Int) ≤ 16385 * 4096 := prod_bd (by omega) (by omega) (by omega) (by omega)
                have i3 : ((r : Int) * (n : Int)).toNat = r * n := by rw [← Int.natCast_mul, Int.toNat_natCast]
                have i4 : (((r : Int) + 1) * (n : Int)).toNat = r * n + n := toNat_suc_mul r n
                have i5 : (r : Int) * (n : Int) = ((r * n : Nat) : Int) := by simp
                have i6 : ((r : Int) + 1) * (n : Int) = ((r * n + n : Nat) : Int) := suc_mul_cast r n
                have hcl : r * n + n ≤ l1.length := by omega
                have hck : r * n + n ≤ k1 := by omega
                have hcne : ¬ k1 = r * n := by omega
                obtain ⟨i1a, i1b⟩ := i1
                obtain ⟨i2a, i2b⟩ := i2
                have I5 := Lib.hid i5
                have I6 := Lib.hid i6
                clear e1 r1 f1 hl1 hsub hsl m1 i5 i6
                go_wp2_with (at_builtin; refine wpList_appIntsN rfl (.tmp 57) (.tmp 66) 22 rfl w2.heap.size 3 (.int .i64 0) 8 Try.underlying22 Try.info3 rfl _ T.length _ rfl hO.out _ HSUB.out HSL.out rfl (by omega) (by unfold maxLen; omega) hBr.size ?_; intro v' w' hown hg hn)
                go_roundw
                case rel =>
                  have hTl' : (T ++ (l1.drop (r * n)).take n).length = T.length + ((l1.drop (r * n)).take n).length := List.length_append
                  refine ⟨c + 1, T ++ (l1.drop (r * n)).take n, by omega, by go_num, ?_, by rw [hTl', HSL.out, hcs]; omega, ?_, hBr.grown hg hBr.size (fun k hk => (hO.out.lt k hk).1)⟩
                  · unfold Hid; rw [List.take_add_one, HE1.out, HT.out]; simp
                  · unfold Hid; rw [hTl', HSL.out, List.map_append]; exact hown
                case measure => simp [intOf]; omega
              · obtain rfl : c = q.all.length := by omega
                go_wp2
                go_roundw
                case rel => exact ⟨r + 1, T, by omega, by go_num, by
                  unfold Hid
                  have := flat_snoc [] (fun ch => q.all.flatMap fun x => (x.drop (ch * n)).take n) r
                  simp only [List.nil_append] at this
                  rw [this, ← HP.out]; have h2 := HT.out; rw [List.take_length] at h2; exact h2, by rw [Nat.succ_mul]; omega, hO, hBr⟩
                case measure => simp [intOf]; omega
          · obtain rfl : r = q.C := by omega
            go_wp2
            refine bodyPost_ret (results_tmp3 rfl _ _ _) rfl ?_
            have hPe : P = poolOf q.all q.C n := HP.out
            have hown := hO.out
            obtain ⟨a', c', hv', hI'⟩ := Ints.own hown (fun x hx => by have := HPW.out x (hPe ▸ hx); omega) (by omega)
            unfold PoolPost
            rw [HG.out]
            refine ⟨a', c', ?_, ?_, hB2.trans (hBr.mono hB2.size)⟩
            · rw [← hPe, ← hv']; rfl
            · rw [← hPe]
              have hlt := hown.lt
              exact hI'.mono (fun b _ hb => by have := (hlt b hb).1; have := hB2.size; omega)
  · have HG := Lib.hid (poolL_kind (l := l) (kh := kh) (kw := kw) (s := s) hk)
    have hne : (kind != 3) = true := by rw [bne_iff_ne]; omega
    have hne4 : (kind != 4) = true := by rw [bne_iff_ne]; omega
    clear hk
    go_enter Try.func35, Try.ntmps35
    go_wp2
    refine bodyPost_ret (results_tmp3 rfl _ _ _) rfl ?_
    exact poolPost_err HG.out ((Below.refl _ w).alloc (Nat.le_refl _) _)

end Go.Proofs.Ytcgpidicegbnoaa
