/- The plain law of GraphGrows. No condition. -/
import Derived.Test.YtondngpmhlemkaaGrR
import Derived.Test.YtondngpmhlemkaaPr4
namespace Go.Proofs.Ytondngpmhlemkaa.Pure
open Go.RowKit Go.Proofs.Ytondngpmhlemkaa.Ev Go.Proofs.Ytondngpmhlemkaa.Pr Go.Proofs.Ytondngpmhlemkaa.Gr Go.Proofs.Ytondngpmhlemkaa.Ext Go.Proofs.Ytondngpmhlemkaa.Reach Go.Proofs.Ytondngpmhlemkaa.Ref Go.Proofs.Ytondngpmhlemkaa.Sets Go.Proofs.YtondngpmhlemkaaW.PrintWords Go.Proofs.YtondngpmhlemkaaW.PrintMore
set_option linter.unusedVariables false
set_option linter.unusedSimpArgs false
theorem reach_len (l : List S24) (h : l.length ≤ 1000) : (reachL (edgesL l)).length ≤ 1001 := by
  have h1 := nodup_le (a := reachL (edgesL l)) (b := 0 :: (edgesL l).map (·.2)) ((reachL_rising _).imp (fun h => by omega)) (fun x hx => by
    have := (mem_reachL _ x).1 hx
    cases this with
    | zero => simp
    | step _ he => exact List.mem_cons_of_mem _ (List.mem_map.2 ⟨_, he, rfl⟩))
  have h2 : (edgesL l).length = l.length := List.length_map ..
  rw [List.length_cons, List.length_map] at h1
  omega
theorem leads_mono {es es' : List (Int × Int)} (hs : ∀ e ∈ es, e ∈ es') {x : Int} (h : Leads es x) : Leads es' x := by
  induction h with
  | zero => exact .zero
  | step _ he ih => exact .step ih (hs _ he)
theorem grows (es : List (Int × Int)) (a b : Int) : (∀ x ∈ reachL es, x ∈ reachL (es ++ [(a, b)])) ∧ ((a ∉ reachL es ∨ b ∈ reachL es) → reachL es = reachL (es ++ [(a, b)])) := by
  refine ⟨fun x hx => (mem_reachL _ x).2 (leads_mono (fun e he => List.mem_append_left _ he) ((mem_reachL _ x).1 hx)), fun h => ?_⟩
  refine rising_eq (reachL_rising _) (reachL_rising _) (fun x => ?_)
  rw [mem_reachL, mem_reachL]
  refine ⟨leads_mono (fun e he => List.mem_append_left _ he), fun hr => ?_⟩
  induction hr with
  | zero => exact .zero
  | step _ he ih =>
    rcases List.mem_append.1 he with he | he
    · exact .step ih he
    · simp only [List.mem_singleton, Prod.mk.injEq] at he
      obtain ⟨rfl, rfl⟩ := he
      rw [mem_reachL, mem_reachL] at h
      exact h.resolve_left (fun hn => hn ih)

theorem end_tells (A B : List Int) (h : (reachL []).length ≤ 1 → True) (hA : A.length ≤ 1001) (hB : B.length ≤ 1001) (h0 : 0 ∈ A) (idle : Bool) (hi : idle = true → A = B) : Ev fun k => gumshoelaw15_GraphGrows.j1 k true A B idle = some true := by
  have hr : Ev fun k => gumshoeref01_Right.f k [] = some true := Ev.step fun k => rfl
  refine ((same_tells A B (by omega)).and (hr.and (has_tells A 0 (by omega)))).succ fun k hk => ?_
  obtain ⟨h1, h2, h3⟩ := hk
  have hc : A.contains 0 = true := List.contains_iff_mem.2 h0
  cases idle with
  | true =>
    have hAB := hi rfl
    subst hAB
    simp [gumshoelaw15_GraphGrows.j1, h1, h2, h3, hc, h0]
  | false => simp [gumshoelaw15_GraphGrows.j1, h1, h2, h3, hc, h0]
theorem loop_tells (A B : List Int) (hA : A.length ≤ 1001) (hB : B.length ≤ 1001) (hs : ∀ x ∈ A, x ∈ B) (h0 : 0 ∈ A) (f m t : Int) (hi : (f ∉ A ∨ t ∈ A) → A = B) (d : Nat) : ∀ i, i + d = A.length → Ev fun k => gumshoelaw15_GraphGrows.l0 k true A B (i : Int) f m t = some true := by
  induction d with
  | zero =>
    intro i h
    by_cases hf : A.contains f = true
    · refine ((has_tells A f (by omega)).and ((has_tells A t (by omega)).and (end_tells A B (fun _ => trivial) hA hB h0 (A.contains t) (fun h => hi (.inr (List.contains_iff_mem.1 h)))))).succ fun k hk => ?_
      obtain ⟨h1, h2, h3⟩ := hk
      rw [gumshoelaw15_GraphGrows.l0, if_neg (by omega), h1, Option.bind_some, if_pos hf, h2, Option.bind_some, h3]
    · refine ((has_tells A f (by omega)).and (end_tells A B (fun _ => trivial) hA hB h0 true (fun _ => hi (.inl (fun hm => hf (List.contains_iff_mem.2 hm)))))).succ fun k hk => ?_
      obtain ⟨h1, h2⟩ := hk
      rw [gumshoelaw15_GraphGrows.l0, if_neg (by omega), h1, Option.bind_some, if_neg hf, h2]
  | succ d ih =>
    intro i h
    have hlt : i < A.length := by omega
    have hx : A.getD i 0 ∈ B := hs _ (by rw [List.getD_eq_getElem?_getD, List.getElem?_eq_getElem hlt]; exact List.getElem_mem hlt)
    refine ((has_tells B (A.getD i 0) (by omega)).and (ih (i + 1) (by omega))).succ fun k hk => ?_
    rw [gumshoelaw15_GraphGrows.l0, if_pos (by omega), if_pos (by omega), rd_nat, hk.1, Option.bind_some, if_pos (List.contains_iff_mem.2 hx), wrap_nat i (by omega), hk.2]

theorem GraphGrows (l0 : List S24) (h0 : ∀ a ∈ l0, (Lit.int .i64 a.f0).wf = true ∧ (Lit.int .i64 a.f1).wf = true ∧ (Lit.int .i64 a.f2).wf = true) (f m t : Int) (h1 : (Lit.int .i64 f).wf = true ∧ (Lit.int .i64 m).wf = true ∧ (Lit.int .i64 t).wf = true) : ∃ k, gumshoelaw15_GraphGrows.f k l0 f m t = some true := by
  have hl : (l0.take 100).length ≤ 100 := by rw [List.length_take]; omega
  have hwf : ∀ e ∈ l0.take 100, (Lit.int .i64 e.f2).wf = true := fun e he => (h0 e (List.mem_of_mem_take he)).2.2
  have hA : graph_Reached.f (l0.take 100) = some (reachL (edgesL (l0.take 100))) := by
    unfold graph_Reached.f
    rw [if_pos]
    exact ⟨by omega, List.all_eq_true.2 hwf⟩
  have hsome := some_tells l0
  generalize l0.take 100 = l at *
  have hee : edgesL (l ++ [⟨f, m, t⟩]) = edgesL l ++ [(f, t)] := by simp [edgesL]
  have hB : graph_Reached.f (l ++ [⟨f, m, t⟩]) = some (reachL (edgesL l ++ [(f, t)])) := by
    unfold graph_Reached.f
    rw [if_pos, hee]
    refine ⟨by simp; omega, List.all_eq_true.2 (fun e he => ?_)⟩
    rcases List.mem_append.1 he with he | he
    · exact hwf e he
    · obtain rfl := List.mem_singleton.1 he
      exact h1.2.2
  have hlA := reach_len l (by omega)
  have hlB := reach_len (l ++ [⟨f, m, t⟩]) (by simp; omega)
  rw [hee] at hlB
  obtain ⟨g1, g2⟩ := grows (edgesL l) f t
  refine (shown_tells.and (loop_tells (reachL (edgesL l)) (reachL (edgesL l ++ [(f, t)])) hlA hlB g1 ((mem_reachL _ 0).2 .zero) f m t g2 (reachL (edgesL l)).length 0 (by omega))).mono (fun k hk => ?_) |>.ex
  obtain ⟨h2, h3⟩ := hk
  have hw : wrap64 ((l.length : Int) + 1) = (l.length : Int) + 1 := wrap_id _ (by omega) (by omega)
  have h3' : gumshoelaw15_GraphGrows.l0 k true (reachL (edgesL l)) (reachL (edgesL l ++ [(f, t)])) 0 f m t = some true := h3
  have e1 : (([] : List S24) ++ l) ++ [⟨f, m, t⟩] = l ++ [⟨f, m, t⟩] := rfl
  simp only [gumshoelaw15_GraphGrows.f, h2, hsome, hA, hw, Option.bind_some, List.replicate_zero, List.nil_append, List.length_nil, List.length_singleton, Nat.zero_add]
  rw [if_pos (by omega), if_pos (by omega), if_pos (by omega), if_pos (by omega), hB, Option.bind_some, h3']
end Go.Proofs.Ytondngpmhlemkaa.Pure
