/-
  Contracts: KerH, KerI.
-/
import Derived.Test.YtfgmmghmmfmdgaaGreatO7
import Derived.Maps.OwnOps
import Derived.Maps.Views
import Derived.Test.YtfgmmghmmfmdgaaGreatO0
set_option linter.all false
set_option maxRecDepth 100000
set_option maxHeartbeats 3200000
namespace Go.Proofs.YtfgmmghmmfmdgaaGreat
open Go.RowKit
open Go.Lib (hid)
variable {x:Int}
theorem Tryz.mapKeyed:Go.Maps.Keyed Tryz.prog 3:=Go.Maps.int_keyed Tryz.underlying3
def I64(x:Int):Prop:= -9223372036854775808<=x/\x<=9223372036854775807
theorem zpq{P:Program}{k:TypeId}(hk:P.underlying k=some (.int .i64))(h:I64 x):keyOf P k (.int .i64 x)=some (.int .i64 x):=by
 have hw:(Lit.int .i64 x).wf=true:=by
  unfold I64 at h;show(decide (IntKind.i64.min<=x) && decide (x<=IntKind.i64.max))=true
  rw[Zu,ZC,ZC];exact h
 unfold keyOf;rw[hk];simp only;unfold mapKey;rw[hk];simp[hw]
theorem ziF(h:I64 x):keyOf Tryz.prog 3 (.int .i64 x)=some (.int .i64 x):=zpq Tryz.underlying3 h
