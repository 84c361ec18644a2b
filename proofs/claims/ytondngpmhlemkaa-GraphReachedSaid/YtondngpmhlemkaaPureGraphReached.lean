/- The plain law of GraphReached. No condition. -/
import Derived.Test.YtondngpmhlemkaaGrR
namespace Go.Proofs.Ytondngpmhlemkaa.Pure
open Go.RowKit Go.Proofs.Ytondngpmhlemkaa.Ev Go.Proofs.Ytondngpmhlemkaa.Pr Go.Proofs.Ytondngpmhlemkaa.Gr Go.Proofs.Ytondngpmhlemkaa.Ext Go.Proofs.Ytondngpmhlemkaa.Reach Go.Proofs.Ytondngpmhlemkaa.Ref Go.Proofs.Ytondngpmhlemkaa.Sets
set_option linter.unusedVariables false
theorem GraphReached (l0 : List S24) (h0 : ∀ a ∈ l0, (Lit.int .i64 a.f0).wf = true ∧ (Lit.int .i64 a.f1).wf = true ∧ (Lit.int .i64 a.f2).wf = true) (a1 : Int) (h1 : (Lit.int .i64 a1).wf = true) : ∃ k, gumshoelaw15_GraphReached.f k l0 a1 = some true := by
  have hl : (l0.take 100).length ≤ 100 := by rw [List.length_take]; omega
  have hR : graph_Reached.f (l0.take 100) = some (reachL (edgesL (l0.take 100))) := by
    unfold graph_Reached.f
    rw [if_pos]
    exact ⟨by omega, List.all_eq_true.2 (fun e he => (h0 e (List.mem_of_mem_take he)).2.2)⟩
  have hC : graph_Callers.f (l0.take 100) a1 = some (sset (callersL (l0.take 100) a1)) := by
    unfold graph_Callers.f
    rw [if_pos (by omega)]
  have hb1 : (reachL (edgesL (l0.take 100))).length ≤ 9223372036854775807 := by
    have h1 := nodup_le (a := reachL (edgesL (l0.take 100))) (b := 0 :: (edgesL (l0.take 100)).map (·.2)) ((reachL_rising _).imp (fun h => by omega)) (fun x hx => by
      have := (mem_reachL _ x).1 hx
      cases this with
      | zero => simp
      | step _ he => exact List.mem_cons_of_mem _ (List.mem_map.2 ⟨_, he, rfl⟩))
    have h2 : (edgesL (l0.take 100)).length = (l0.take 100).length := List.length_map ..
    rw [List.length_cons, List.length_map] at h1
    omega
  have hb2 : (sset (callersL (l0.take 100) a1)).length ≤ 9223372036854775807 := by
    have h1 := nodup_le (a := sset (callersL (l0.take 100) a1)) (b := callersL (l0.take 100) a1) ((sset_facts _).1.imp (fun h => by omega)) (fun x hx => ((sset_facts _).2 x).1 hx)
    have h2 : (callersL (l0.take 100) a1).length ≤ (l0.take 100).length := List.length_filterMap_le _ _
    omega
  refine ((shown_tells.and ((reached_tells (l0.take 100) (by omega)).and (same_self _ hb1))).and ((callers_tells (l0.take 100) a1 (by omega)).and (same_self _ hb2))).mono (fun k hk => ?_) |>.ex
  obtain ⟨⟨h1, h2, h3⟩, h4, h5⟩ := hk
  simp [gumshoelaw15_GraphReached.f, h1, some_tells, hR, h2, h3, hC, h4, h5]
end Go.Proofs.Ytondngpmhlemkaa.Pure
