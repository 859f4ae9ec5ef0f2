/-
  Contracts: TenN, TenO, ColSpec, ColA, ColB, ColC, TenP, TenQ.
-/
import Derived.Test.YtfgmmghmmfmdgaaGreatO4
import Derived.Test.YtfgmmghmmfmdgaaGreatO2
import Derived.Test.YtfgmmghmmfmdgaaGreatO0
set_option linter.all false
set_option maxRecDepth 100000
set_option maxHeartbeats 3200000
namespace Go.Proofs.YtfgmmghmmfmdgaaGreat
open Go.RowKit
open Go.Lib (hid)
theorem Win.len_bd{q:Win}(h:q.Ok)(ht:q.total<=262144):q.all.length<=262144/\(q.one 0 0).length<=262144/\q.all.length*(q.one 0 0).length=q.total/\1<=q.all.length/\1<=(q.one 0 0).length:=by
 have e:q.all.length*(q.one 0 0).length=q.total:=by
  rw[q.all_len,q.one_len];unfold Win.total;rw[ZL (q.R*q.Q*q.C),ZL (q.R*q.Q)]
 have a1:1*1<=q.all.length:=by rw[q.all_len];exact ZY h.r2.1 h.q2.1
 have a2:1*(1*1)<=(q.one 0 0).length:=by rw[q.one_len];exact ZY h.c1 (ZY h.kh1 h.kw1)
 refine⟨?_,?_,e,Ya,Ya⟩
 ·exact Zi (zcL (b:=(q.one 0 0).length) Ya (by rw[e];exact Za _)) ht
 ·exact Zi (zcL (b:=q.all.length) Ya (by rw[ZD,e];exact Za _)) ht
theorem zah.sub{w:World}{F:Nat->Prop}{b off:Nat}{l:List Int}(h:zah w F (some ⟨b,off,none⟩) l){lo n:Nat}(hn:lo+n<=l.length):
  ((l.drop lo).take n).length=n/\zah w F (some ⟨b,off+lo,none⟩) ((l.drop lo).take n):=by
 have hlen:((l.drop lo).take n).length=n:=Yi
 refine⟨hlen,fun x hx=>h.wf x (ZX (ZT hx)),by have:=h.len;omega,?_⟩
 rcases h.row with rfl|⟨b',off',hb,hF,hs,hc⟩
 ·exact .inl Yc
 ·cases hb
  refine .inr ⟨b,off+lo,rfl,hF,hs,fun j d hj=>?_⟩
  have hj':j<n:=by have:=(Zr.1 hj).1;omega
  rw[ZaZ hj',List.getElem?_drop]at hj;rw[Zat];exact hc _ _ hj
