/-
  Contracts: Open, OpenN.
-/
import Derived.Test.YtfgmmghmmfmdgaaGreatO1
import Derived.Deep.Slices
import Derived.Deep.Fields
import Derived.ChangeSame
import Derived.Lib.SmallJoins
import Derived.SizedLaws
import Derived.ProofKit
import Derived.OpenShut
import Derived.ShutString
import Derived.ChangeOld
import Derived.Test.YtfgmmghmmfmdgaaGreatO0
set_option linter.all false
set_option maxRecDepth 100000
set_option maxHeartbeats 3200000
namespace Go.Proofs.YtfgmmghmmfmdgaaGreat
open Go.RowKit Go.ChangeShapes Go.WideShapes Go.ChangeAt Go.Deep
open Go.Lib (hid)
theorem IA{P:Prop}(h:P:=by simp[Lit.wf,IntKind.min,IntKind.max,IntKind.bits,IntKind.signed]at this;omega):P:=h
section
variable {H:Type} {enc:TypeId×Value->H} {P:Program} {w:World} {base:Nat} {spare:Nat->Bool} {held:Bool}
theorem zeI{t:TypeId}{fs:Array Field}{fuel:Nat}{cs:List Value}{x:DataW H×List MemPlace}(hs:P.underlying t=some (.struct fs))(hone:oneCellFields P fs=true)(hC:P.cellsOf t=fs.size)
 (h:DataW.trod enc P w base spare held fuel t cs=some x):
  ∃(ys:List (DataW H×List MemPlace)) (n:Nat),cs.length=fs.size/\ys.length=fs.size/\x.1=.agg (ys.map (·.1))/\
   ∀(j:Nat) (f:Field),fs[j]? =some f->∃c y,cs[j]? =some c/\ys[j]? =some y/\DataW.trod enc P w base spare held n f.type [c]=some y:=by
 obtain⟨ys,n,_,hx,hcl,hyl,hf⟩:=DataW.trod_struct hs h
 refine⟨ys,n,hcl.trans hC,hyl,by rw[hx],fun j f hj=>?_⟩
 obtain⟨ho,hk⟩:=hone_of hone j f hj;have hjl:j<fs.size:=(ZF.1 hj).1;have hjc:j<cs.length:=Ya;have h1:=hf j f hj;rw[ho,hk]at h1;have e:(cs.drop j).take 1=[cs[j]]:=by
  rw[ZaR hjc];rfl
 rw[e]at h1;have hys:ys[j]? =some ys[j]:=Zh Ya;exact⟨cs[j],ys[j],Zh hjc,hys,h1.trans hys⟩
theorem zjW{r:Reach}{b0:Nat}{t:TypeId}{fs:Array Field}{v:Value}{d:DataW H}{p:List MemPlace}(hs:P.underlying t=some (.struct fs))(hone:oneCellFields P fs=true)(hC:P.cellsOf t=fs.size)
 (hv:Value.okWide P w r b0 t v)(h:DataW.Trod enc P w base spare held t v d p):
  ∃(cs:List Value) (ys:List (DataW H×List MemPlace)) (n:Nat),v=.agg cs.toArray/\cs.length=fs.size/\ys.length=fs.size/\d=.agg (ys.map (·.1))/\
   ∀(j:Nat) (f:Field),fs[j]? =some f->∃c y,cs[j]? =some c/\ys[j]? =some y/\DataW.trod enc P w base spare held n f.type [c]=some y:=by
 obtain⟨cs,rfl,_⟩:=okWide_struct hs hv;obtain⟨l⟩:=cs;obtain⟨fuel,hf⟩:=h;obtain⟨ys,n,h1,h2,h3,h4⟩:=zeI hs hone hC hf;exact⟨l,ys,n,rfl,by simpa [Value.cells]using h1,h2,h3,by simpa [Value.cells]using h4⟩
theorem zkg{t e:TypeId}{fuel:Nat}{cs:List Value}{x:DataW H×List MemPlace}(ht:P.underlying t=some (.slice e))(he:P.underlying e=some (.int .i64))(hc:P.cellsOf e=1)
 (h:DataW.trod enc P w base spare held fuel t cs=some x):
  ∃a l c,cs=[.slice a l.length c]/\zah w Any a l/\l.length<=c/\(x.1=.nil/\l=[] ∨ ∃E S,x.1=.slice E S/\E.length=l.length):=by
 rcases open_ints ht he hc h with⟨hcs,hx⟩|⟨x',l,c,zs,hcs,_,hl,hm,hz,hx,hcell,hwz⟩
 ·exact⟨none,[],0,hcs,zah.nil _ _ _,Za _,.inl ⟨by rw[hx],rfl⟩⟩
 ·have hlz:l<=zs.length:=by rw[hz];split<;>omega
  have hlen:(zs.take l).length=l:=Yi
  refine⟨_,zs.take l,c,by rw[hlen];exact hcs,?_,Ya,.inr ⟨_,_,by rw[hx],by simp[lits]⟩⟩
  refine⟨?_,JX,?_⟩
  ·intro n hn;have:=hwz n (ZT hn);exact IA
  ·by_cases h0:zs.take l=[]
   ·exact .inl h0
   ·have h1:0<(zs.take l).length:=ZJ.2 h0;obtain⟨b,off,spot⟩:=x';have hc:=hcell 0 Ya;have hspot:spot=none:=by simpa [Addr.add]using World.cell?_spot hc
    subst hspot;have hb:=Zbs w _ hc
    refine .inr ⟨b,off,rfl,trivial,by simpa [Addr.add]using hb,?_⟩
    intro j d hj;have hj':j<l:=by have:=(Zr.1 hj).1;omega
    have:=hcell j Ya;rw[ZaZ hj']at hj
    simpa [Zaq,List.getD,hj]using this
theorem zdB{t:TypeId}{fuel:Nat}{c:Value}{x:DataW H×List MemPlace}(ht:P.underlying t=some (.int .i64))(h:DataW.trod enc P w base spare held fuel t [c]=some x):
  ∃n:Int,c=.int .i64 n/\ -9223372036854775808<=n/\n<=9223372036854775807:=by
 obtain⟨n,h1,_,h2⟩:=DataW.trod_int ht h;simp[Lit.wf,IntKind.min,IntKind.max,IntKind.bits,IntKind.signed]at h2;exact⟨n,VP,Ya,Ya⟩
end
