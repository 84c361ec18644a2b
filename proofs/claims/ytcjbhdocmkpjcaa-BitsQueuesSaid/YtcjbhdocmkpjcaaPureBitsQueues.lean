/- The plain law of BitsQueues. No condition. -/
import Derived.Test.YtcjbhdocmkpjcaaE13
namespace Go.Proofs.Ytcjbhdocmkpjcaa.Pure
theorem BitsQueues (l0 : List Int) (h0 : ∀ a ∈ l0, (Lit.int .i64 a).wf = true) : Ext.gumshoelaw01_BitsQueues.f l0 = some true := by
  unfold Ext.gumshoelaw01_BitsQueues.f
  rw [if_pos (List.all_eq_true.2 h0)]
end Go.Proofs.Ytcjbhdocmkpjcaa.Pure
