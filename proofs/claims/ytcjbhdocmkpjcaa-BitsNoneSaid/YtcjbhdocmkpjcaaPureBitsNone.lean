/- The plain law of BitsNone. No condition. -/
import Derived.Test.YtcjbhdocmkpjcaaE9
namespace Go.Proofs.Ytcjbhdocmkpjcaa.Pure
theorem BitsNone (a0 : Int) (_h : (Lit.int .i64 a0).wf = true) : Ext.gumshoelaw01_BitsNone.f a0 = some true := rfl
end Go.Proofs.Ytcjbhdocmkpjcaa.Pure
