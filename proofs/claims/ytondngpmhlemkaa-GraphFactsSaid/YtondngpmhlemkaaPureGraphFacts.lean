/- The plain law of GraphFacts. No condition. -/
import Derived.Test.YtondngpmhlemkaaGrR
namespace Go.Proofs.Ytondngpmhlemkaa.Pure
open Go.RowKit Go.Proofs.Ytondngpmhlemkaa.Ev Go.Proofs.Ytondngpmhlemkaa.Pr Go.Proofs.Ytondngpmhlemkaa.Gr Go.Proofs.Ytondngpmhlemkaa.Ext Go.Proofs.Ytondngpmhlemkaa.Reach Go.Proofs.Ytondngpmhlemkaa.Ref Go.Proofs.Ytondngpmhlemkaa.Sets
set_option linter.unusedVariables false
theorem sset_len (xs : List Int) : (sset xs).length ≤ xs.length := nodup_le ((sset_facts _).1.imp (fun h => by omega)) (fun x hx => ((sset_facts _).2 x).1 hx)
theorem GraphFacts (l0 : List S49) (h0 : ∀ a ∈ l0, (Lit.int .i64 a.f0).wf = true ∧ (Lit.int .i64 a.f1).wf = true ∧ a.f2.size ≤ maxLen ∧ (Lit.int .i64 a.f3).wf = true) (a1 : Int) (h1 : (Lit.int .i64 a1).wf = true) : ∃ k, gumshoelaw15_GraphFacts.f k l0 a1 = some true := by
  have hl : (l0.take 100).length ≤ 100 := by rw [List.length_take]; omega
  have hC : graph_Callees.f (l0.take 100) a1 = some (sset (calleesL (l0.take 100) a1)) := by
    unfold graph_Callees.f
    rw [if_pos (by omega)]
  have hE : graph_Entered.f (l0.take 100) = some (sset (enteredL (l0.take 100))) := by
    unfold graph_Entered.f
    rw [if_pos (by omega)]
  have hb1 : (sset (calleesL (l0.take 100) a1)).length ≤ 9223372036854775807 := by
    have h1 := sset_len (calleesL (l0.take 100) a1)
    have h2 : (calleesL (l0.take 100) a1).length ≤ (toldL (l0.take 100) 5).length := List.length_filterMap_le _ _
    have h3 := toldL_length (l0.take 100) 5
    omega
  have hb2 : (sset (enteredL (l0.take 100))).length ≤ 9223372036854775807 := by
    have h1 := sset_len (enteredL (l0.take 100))
    have h3 := toldL_length (l0.take 100) 6
    have h2 : (enteredL (l0.take 100)).length = (toldL (l0.take 100) 6).length := by simp [enteredL]
    omega
  refine ((shown_tells.and ((callees_tells (l0.take 100) a1 (by omega)).and (same_self _ hb1))).and ((entered_tells (l0.take 100) (by omega)).and (same_self _ hb2))).mono (fun k hk => ?_) |>.ex
  obtain ⟨⟨h1, h2, h3⟩, h4, h5⟩ := hk
  simp [gumshoelaw15_GraphFacts.f, h1, few_tells, hC, h2, h3, hE, h4, h5]
end Go.Proofs.Ytondngpmhlemkaa.Pure
