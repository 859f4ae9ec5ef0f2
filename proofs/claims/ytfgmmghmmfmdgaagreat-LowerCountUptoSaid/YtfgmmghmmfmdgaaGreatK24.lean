/-
  Contracts of the functions that the statement reaches: TenN, TenO, ColSpec, ColA, ColB, ColC, TenP, TenQ.
-/
import Derived.Test.YtfgmmghmmfmdgaaGreatK23
import Derived.Test.YtfgmmghmmfmdgaaGreatK2
set_option linter.all false
set_option maxRecDepth 100000
set_option maxHeartbeats 3200000
namespace Go.Proofs.YtfgmmghmmfmdgaaGreat
open Go.RowKit
open Go.Lib (hid)
theorem Win.len_bd {q:Win} (h:q.Ok) (ht:q.total<=262144):q.all.length<=262144/\(q.one 0 0).length<=262144/\q.all.length * (q.one 0 0).length=q.total/\1<=q.all.length/\1<=(q.one 0 0).length:=by
 have e:q.all.length * (q.one 0 0).length=q.total:=by
  rw [q.all_len,q.one_len];unfold Win.total;rw [Nat.mul_assoc (q.R * q.Q * q.C),Nat.mul_assoc (q.R * q.Q)]
 have a1:1 * 1<=q.all.length:=by rw [q.all_len];exact Nat.mul_le_mul h.r2.1 h.q2.1
 have a2:1 * (1 * 1)<=(q.one 0 0).length:=by rw [q.one_len];exact Nat.mul_le_mul h.c1 (Nat.mul_le_mul h.kh1 h.kw1)
 refine ⟨?_,?_,e,by omega,by omega⟩
 ·exact Nat.le_trans (le_of_mul (b:=(q.one 0 0).length) (by omega) (by rw [e];exact Nat.le_refl _)) ht
 ·exact Nat.le_trans (le_of_mul (b:=q.all.length) (by omega) (by rw [Nat.mul_comm,e];exact Nat.le_refl _)) ht
theorem Ints.sub {w:World} {F:Nat->Prop} {b off:Nat} {l:List Int} (h:Ints w F (some ⟨b,off,none⟩) l) {lo n:Nat} (hn:lo+n<=l.length):
  ((l.drop lo).take n).length=n/\Ints w F (some ⟨b,off+lo,none⟩) ((l.drop lo).take n):=by
 have hlen:((l.drop lo).take n).length=n:=by simp;omega
 refine ⟨hlen,fun x hx=>h.wf x (List.mem_of_mem_drop (List.mem_of_mem_take hx)),by have:=h.len;omega,?_⟩
 rcases h.row with rfl | ⟨b',off',hb,hF,hs,hc⟩
 ·exact .inl (by simp)
 ·cases hb
  refine .inr ⟨b,off+lo,rfl,hF,hs,fun j d hj=>?_⟩
  have hj':j < n:=by have:=(List.getElem?_eq_some_iff.1 hj).1;omega
  rw [List.getElem?_take_of_lt hj',List.getElem?_drop] at hj;rw [Nat.add_assoc];exact hc _ _ hj
end Go.Proofs.YtfgmmghmmfmdgaaGreat
