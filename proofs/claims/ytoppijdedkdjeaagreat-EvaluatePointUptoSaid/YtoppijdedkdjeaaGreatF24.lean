/-
  Contracts of the functions that the statement reaches: OwnR.
-/
import Derived.Test.YtoppijdedkdjeaaGreatF23
set_option linter.unusedVariables false
set_option linter.unusedSimpArgs false
set_option linter.constructorNameAsVariable false
set_option linter.deprecated false
set_option maxRecDepth 100000
set_option maxHeartbeats 3200000
namespace Go.Proofs.YtoppijdedkdjeaaGreat
open Go.RowKit
open Go.Lib (hid)
def noI (v : Value) : Bool := match v with | .int .u32 _ => false | _ => true
def NoO (w : World) (v : Value) : Prop := ∀ g, v.ownBlock = some g -> NoInt w g
theorem noI_of {v : Value} (h : ∀ x, v ≠ .int .u32 x) : noI v = true := by
 unfold noI
 split
 ·exact absurd rfl (h _)
 ·rfl
theorem NoInt.of_heap {w : World} {g T : Nat} {c : Array Value} {f : Nat × Nat} (h : w.heap[g]? = some (.cells c T f)) (hc : ∀ u ∈ c, noI u = true) : NoInt w g := by
 intro o x e
 simp only [World.cell?, h] at e
 have := hc _ (Array.mem_of_getElem? e)
 cases this
theorem noI_zero {z : Value} {n : Nat} (h : ∀ u ∈ z.cells, noI u = true) : ∀ u ∈ Builtin.zeroCells z.cells n, noI u = true := by
 intro u hu
 unfold Builtin.zeroCells at hu
 obtain ⟨i, hi, rfl⟩ := Array.mem_map.1 hu
 rw [Array.mem_range] at hi
 have hp : 0 < z.cells.size := by
  rcases Nat.eq_zero_or_pos z.cells.size with h0 | h0
  ·rw [h0] at hi; omega
  ·exact h0
 have hlt : i % z.cells.size < z.cells.size := Nat.mod_lt _ hp
 rw [getElem!_pos z.cells _ hlt]
 exact h _ (Array.getElem_mem hlt)
theorem run_append_ni {P : Program} (w : World) (base : Nat) (t ty e : TypeId) (i : TypeInfo) (z : Value) (size bytes : Nat) (ht : P.underlying t = some (.slice e)) (hi : P.info? e = some i) (hz : i.zero = some z)
  (hsize : i.size = size) (hby : i.bytes = bytes) (hzs : z.cells.size = size) (hsz : 0 < size)
  (v : Value) (n : Nat) (xs : List Value) (hown : w.ownsRow base e size v n xs)
  (a : Addr) (m c : Nat) (news : List Value) (hl : news.length = m * size) (hnews : ∀ j u, news[j]? = some u -> w.cell? (a.add j) = some u) (h1 : ∀ u ∈ news, u.oneCell' = true)
  (hm : 0 < m) (h63 : n + m <= maxLen) (hbytes : (n + m) * bytes <= 140737488355328) (hbase : base <= w.heap.size)
  (hno : NoO w v) (hnn : ∀ u ∈ news, noI u = true) (hzn : ∀ u ∈ z.cells, noI u = true) :
  ∃ v' w', (Builtin.append_ #[t, t] ty #[v, .slice (some a) m c]).run P w = .ok v' w' /\ w'.ownsRow base e size v' (n + m) (xs ++ news) /\ w.grownBy w' v.ownBlock /\ Next w v v' /\ NoO w' v' := by
 obtain ⟨v', w', hr, h2, h3, h4⟩ := run_append_next (P := P) w base t ty e i z size bytes ht hi hz hsize hby hzs hsz v n xs hown a m c news hl hnews h1 hm h63 hbytes hbase
 refine ⟨v', w', hr, h2, h3, h4, ?_⟩
 subst hsize
 subst hby
 have hsmall : n + m <= 9223372036854775807 := by simp only [maxLen] at h63; omega
 rcases hown.2 with ⟨rfl, rfl⟩ | ⟨g, cap, cur, rfl, hbg, hg, hnc, hcm, hcs, htake⟩
 ·have hr' := run_append_nil (P := P) w t ty e i z ht hi hz a m c news hl hnews hm (by omega) (by simp only [Nat.zero_add] at hbytes; omega)
  rw [hr'] at hr
  cases hr
  intro g' hg'
  cases hg'
  refine NoInt.of_heap (heap_alloc_new w.drew _) ?_
  intro u hu
  rcases Array.mem_append.1 hu with hu | hu
  ·exact hnn _ (by simpa using hu)
  ·exact noI_zero hzn _ hu
 ·have hcur : ∀ u ∈ cur, noI u = true := by
   intro u hu
   refine noI_of fun x ex => ?_
   subst ex
   obtain ⟨j, hj⟩ := Array.getElem?_of_mem hu
   exact hno g rfl j x (by simp only [World.cell?, hg]; exact hj)
  by_cases hroom : n + m <= cap
  ·have hfit : n * i.size + news.length <= cur.size := by rw [hl, hcs, <- Nat.add_mul]; exact Nat.mul_le_mul_right _ hroom
   have hr' := run_append_room (P := P) w t ty e i ht hi g n cap cur hg a m c news hl hnews h1 hroom hfit
   rw [hr'] at hr
   cases hr
   intro g' hg'
   cases hg'
   intro o x ee
   simp only [World.cell?, World.setRow] at ee
   have hgs := (Array.getElem?_eq_some_iff.1 hg).1
   have hmem : ∀ u ∈ (cur.toList.take (n * i.size) ++ news ++ cur.toList.drop (n * i.size + news.length)), noI u = true := by
    intro u hu
    rcases List.mem_append.1 hu with hu | hu
    ·rcases List.mem_append.1 hu with hu | hu
     ·exact hcur _ (by simpa using List.mem_of_mem_take hu)
     ·exact hnn _ hu
    ·exact hcur _ (by simpa using List.mem_of_mem_drop hu)
   have key : ∀ (u : Value), (cur.toList.take (n * i.size) ++ news ++ cur.toList.drop (n * i.size + news.length)).toArray[o]? = some u -> noI u = true := fun u hu => hmem u (by simpa using Array.mem_of_getElem? hu)
   have hcell : (w.setRow g (cur.toList.take (n * i.size) ++ news ++ cur.toList.drop (n * i.size + news.length)).toArray).cell? ⟨g, o, none⟩ = (cur.toList.take (n * i.size) ++ news ++ cur.toList.drop (n * i.size + news.length)).toArray[o]? := by
    simp [World.cell?, World.setRow, Array.getElem?_modify, hg]
   have := key (.int .u32 x) (hcell.symm.trans (by simpa [World.cell?, World.setRow] using ee))
   cases this
  ·have holds : ∀ j u, xs[j]? = some u -> w.cell? ((⟨g, 0, none⟩ : Addr).add j) = some u := hown.cells (g := g) rfl
   have hr' := run_append_grow (P := P) w t ty e i z ht hi hz ⟨g, 0, none⟩ n cap xs hown.1 holds a m c news hl hnews (by omega) (by omega) (growslice_fits (by omega) hbytes)
   rw [hr'] at hr
   cases hr
   intro g' hg'
   cases hg'
   refine NoInt.of_heap (heap_alloc_new w.drew _) ?_
   intro u hu
   rcases Array.mem_append.1 hu with hu | hu
   ·rcases Array.mem_append.1 hu with hu | hu
    ·refine hcur _ ?_
     rw [<- htake] at hu
     exact Array.mem_toList_iff.1 (List.mem_of_mem_take (by simpa using hu))
    ·exact hnn _ (by simpa using hu)
   ·exact noI_zero hzn _ hu
structure OwnR (w : World) (base : Nat) (v : Value) (L : List RatL) : Prop where
 ex : ∃ xs, w.ownsRow base 37 3 v L.length xs /\ ∀ (j : Nat) (x : RatL), L[j]? = some x -> ∃ (an ad : Option Addr) (cn cd : Nat), xs[j * 3]? = some (.bool x.neg) /\ xs[j * 3 + 1]? = some (.slice an x.num.length cn) /\ xs[j * 3 + 2]? = some (.slice ad x.den.length cd) /\
  x.num.length <= cn /\ x.den.length <= cd /\ U32s w an x.num /\ U32s w ad x.den
 no : NoO w v
theorem OwnR.nil (w : World) (base : Nat) : OwnR w base (.slice none 0 0) [] := ⟨⟨[], World.ownsRow_nil _ _ _ _, by simp⟩, by intro g h; cases h⟩
theorem U32s.grown {w w' : World} {a : Option Addr} {l : List Nat} {v : Value} (h : U32s w a l) (hg : w.grownBy w' v.ownBlock) (hn : NoO w v) : U32s w' a l := by
 by_cases hl : l = []
 ·rw [hl]; exact U32s.nil _ _
 obtain ⟨b, off, rfl, hb, hc⟩ := h.open hl
 have hp := List.length_pos_iff.2 hl
 have hne : some b ≠ v.ownBlock := fun e => hn b e.symm _ _ (hc 0 hp)
 refine ⟨h.lim, h.len, h.row.imp id ?_⟩
 rintro ⟨b', off', e, _, hcc⟩
 cases e
 exact ⟨b, off, rfl, Nat.lt_of_lt_of_le hb hg.size, fun j d hj => (World.cell?_of_block (hg.block b hb hne)).trans (hcc j d hj)⟩
theorem RatV.grown {w w' : World} {u v : Value} {x : RatL} (h : RatV w u x) (hg : w.grownBy w' v.ownBlock) (hn : NoO w v) : RatV w' u x := by
 obtain ⟨an, ad, cn, cd, h1, h2, h3, h4, h5⟩ := h.ex
 exact ⟨an, ad, cn, cd, h1, h2, h3, h4.grown hg hn, h5.grown hg hn⟩
theorem OwnR.lt {w : World} {base : Nat} {v : Value} {L : List RatL} (h : OwnR w base v L) {k : Nat} (hk : v.ownBlock = some k) : base <= k /\ k < w.heap.size := by
 obtain ⟨xs, ho, _⟩ := h.ex
 exact ho.lt k hk
theorem OwnR.below {w w' : World} {base : Nat} {v : Value} {L : List RatL} (h : OwnR w base v L) (hb : Below w.heap.size w w') : OwnR w' base v L := by
 obtain ⟨xs, ho, he⟩ := h.ex
 refine ⟨⟨xs, ho.kept (row := none) ⟨hb.os, hb.tape, hb.output, hb.size, fun k hk _ => hb.block k hk⟩ (by cases hv : v.ownBlock <;> simp), fun j x hj => ?_⟩, fun g hg => (h.no g hg).below hb (h.lt hg).2⟩
 obtain ⟨an, ad, cn, cd, h1, h2, h3, h4, h5, h6, h7⟩ := he j x hj
 exact ⟨an, ad, cn, cd, h1, h2, h3, h4, h5, h6.below hb, h7.below hb⟩
theorem own_form3 {w : World} {base T n : Nat} {v : Value} {xs : List Value} (h : w.ownsRow base T 3 v n xs) : ∃ a c, v = .slice a n c /\ n <= c := by
 rcases h.2 with ⟨rfl, hn⟩ | ⟨g, cap, cur, rfl, hb, hg, hnc, hcm, hcs, htake⟩
 ·exact ⟨none, 0, by rw [hn], by omega⟩
 ·exact ⟨_, cap, rfl, hnc⟩
theorem OwnR.form {w : World} {base : Nat} {v : Value} {L : List RatL} (h : OwnR w base v L) : ∃ a c, v = .slice a L.length c /\ L.length <= c := by
 obtain ⟨xs, ho, _⟩ := h.ex
 exact own_form3 ho
theorem OwnR.rats {w : World} {base : Nat} {a : Option Addr} {n c : Nat} {L : List RatL} (h : OwnR w base (.slice a n c) L) (hl : L.length <= 9223372036854775807) : RatsAt w a L := by
 obtain ⟨xs, ho, he⟩ := h.ex
 rcases ho.2 with ⟨e, hn⟩ | ⟨g, cap, cur, e, hb, hg, hnc, hcm, hcs, htake⟩
 ·exact ⟨hl, .inl (List.eq_nil_of_length_eq_zero hn)⟩
 ·cases e
  refine ⟨hl, .inr ⟨g, 0, rfl, (Array.getElem?_eq_some_iff.1 hg).1, fun j x hj => ?_⟩⟩
  obtain ⟨an, ad, cn, cd, h1, h2, h3, h4, h5, h6, h7⟩ := he j x hj
  have k0 := ho.cells (g := g) rfl _ _ h1
  have k1 := ho.cells (g := g) rfl _ _ h2
  have k2 := ho.cells (g := g) rfl _ _ h3
  simp only [Addr.add_lit] at k0 k1 k2
  exact ⟨an, ad, cn, cd, k0, k1, k2, an, ad, cn, cd, rfl, h4, h5, h6, h7⟩
theorem OwnR.app {w w' : World} {base : Nat} {v v' : Value} {L : List RatL} {x : RatL} {an ad : Option Addr} {cn cd : Nat} {xs : List Value} (h : OwnR w base v L)
  (he : ∀ (j : Nat) (x : RatL), L[j]? = some x -> ∃ (an ad : Option Addr) (cn cd : Nat), xs[j * 3]? = some (.bool x.neg) /\ xs[j * 3 + 1]? = some (.slice an x.num.length cn) /\ xs[j * 3 + 2]? = some (.slice ad x.den.length cd) /\
   x.num.length <= cn /\ x.den.length <= cd /\ U32s w an x.num /\ U32s w ad x.den) (hxl : xs.length = L.length * 3)
  (h1 : x.num.length <= cn) (h2 : x.den.length <= cd) (h3 : U32s w an x.num) (h4 : U32s w ad x.den)
  (hown : w'.ownsRow base 37 3 v' (L.length + 1) (xs ++ [.bool x.neg, .slice an x.num.length cn, .slice ad x.den.length cd])) (hg : w.grownBy w' v.ownBlock) (hno : NoO w' v') : OwnR w' base v' (L ++ [x]) := by
 refine ⟨⟨_, by simpa using hown, fun j y hj => ?_⟩, hno⟩
 by_cases hlt : j < L.length
 ·rw [List.getElem?_append_left hlt] at hj
  obtain ⟨bn, bd, dn, dd, q1, q2, q3, q4, q5, q6, q7⟩ := he j y hj
  refine ⟨bn, bd, dn, dd, ?_, ?_, ?_, q4, q5, q6.grown hg h.no, q7.grown hg h.no⟩
  ·rw [List.getElem?_append_left (by omega)]; exact q1
  ·rw [List.getElem?_append_left (by omega)]; exact q2
  ·rw [List.getElem?_append_left (by omega)]; exact q3
 ·have hlt' := (List.getElem?_eq_some_iff.1 hj).1
  simp only [List.length_append, List.length_cons, List.length_nil] at hlt'
  obtain rfl : j = L.length := by omega
  have e2 : y = x := by simpa using hj.symm
  subst e2
  refine ⟨an, ad, cn, cd, ?_, ?_, ?_, h1, h2, h3.grown hg h.no, h4.grown hg h.no⟩
  ·rw [List.getElem?_append_right (by omega)]; simp [hxl]
  ·rw [List.getElem?_append_right (by omega), show L.length * 3 + 1 - xs.length = 1 by omega]; rfl
  ·rw [List.getElem?_append_right (by omega), show L.length * 3 + 2 - xs.length = 2 by omega]; rfl
theorem wpList_appR {P : Program} {w : World} {ops : Array Oper} {rest : List Oper} {o : Oper} {a : Act} {Q : Exit -> Act -> World -> Prop} (hgd : o.guard = none) (s x : Operand) (t : TypeId)
  (ho : o.op = .call { callee := .builtin .append, args := #[s, x], argTypes := #[t, t] })
  (base : Nat) (ht : P.underlying t = some (.slice 37)) (hinfo : (P.info? 37).map (fun i => (i.zero, i.size, i.bytes)) = some (some (.agg #[.bool false, .slice none 0 0, .slice none 0 0]), 3, 56))
  (v : Value) (n : Nat) (L : List RatL) (hn : L.length = n) (hs : a.eval s = v) (hown : OwnR w base v L) (u : Value) (y : RatL) (hu : Row1 w u y)
  (hx : a.eval x = u) (hL : n + 1 <= 2000000000000) (hbase : base <= w.heap.size)
  (h : ∀ b k w', OwnR w' base (.slice b (n + 1) k) (L ++ [y]) -> n + 1 <= k -> w.grownBy w' v.ownBlock -> Below base w w' -> wpList P ops Q rest (a.put o.dst (.slice b (n + 1) k)) w') :
  wpList P ops Q (o :: rest) a w := by
 subst hn
 refine wpList_plain hgd fun K hK => ?_
 obtain ⟨i, hi, hz, hsize, hby⟩ := info_parts hinfo
 obtain ⟨xs, hox, he⟩ := hown.ex
 obtain ⟨g, an, ad, cn, cd, rfl, hg, c0, c1, c2, h1, h2, h3, h4⟩ := hu.ex
 have hcells : ∀ (j : Nat) (u : Value), [Value.bool y.neg, .slice an y.num.length cn, .slice ad y.den.length cd][j]? = some u -> w.cell? (Addr.add ⟨g, 0, none⟩ j) = some u := by
  intro j u hj
  rw [Addr.add_lit]
  match j, hj with
  | 0, hj => rw [<- hj]; exact c0
  | 1, hj => rw [<- hj]; exact c1
  | 2, hj => rw [<- hj]; exact c2
 obtain ⟨v', w', hr, r2, r3, r4, r5⟩ := run_append_ni (P := P) w base t o.type _ i _ 3 56 ht hi hz hsize hby (by simp [Value.cells]) (by omega) v L.length xs hox ⟨g, 0, none⟩ 1 1
  [.bool y.neg, .slice an y.num.length cn, .slice ad y.den.length cd] rfl hcells
  (by intro u hu; simp at hu; rcases hu with rfl | rfl | rfl <;> rfl) (by omega) (by unfold maxLen; omega) (by omega) hbase
  hown.no (by intro u hu; simp at hu; rcases hu with rfl | rfl | rfl <;> rfl) (by intro u hu; simp [Value.cells] at hu; rcases hu with rfl | rfl <;> rfl)
 have hO := hown.app (x := y) (w' := w') (v' := v') (xs := xs) (an := an) (ad := ad) (cn := cn) (cd := cd) he hox.1 h1 h2 h3 h4 r2 r3 r5
 have hbe : Below base w w' := (Below.refl base w).grown r3 hbase (fun k hk => (hown.lt hk).1)
 obtain ⟨b, k, e, hk⟩ := own_form3 r2
 subst e
 unfold Oper.wp execOp
 simp only [ho, resolve, invoke, builtin, Sem.run_bind, Sem.run_pure, Result.andThen_ok, List.map_toArray, List.map_cons, List.map_nil, hs, hx, hr]
 exact hK _ _ (h b k w' hO hk r3 hbe)
end Go.Proofs.YtoppijdedkdjeaaGreat
