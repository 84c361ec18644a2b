/- The plain law of BitsUnions. No condition. -/
import Derived.Test.YtcjbhdocmkpjcaaR1
namespace Go.Proofs.Ytcjbhdocmkpjcaa.Pure
open Go.RowKit Go.Proofs.Ytcjbhdocmkpjcaa.Ev Go.Proofs.Ytcjbhdocmkpjcaa.Pb Go.Proofs.Ytcjbhdocmkpjcaa.Ref Go.Proofs.YtcjbhdocmkpjcaaW.PrintWords Go.Proofs.YtcjbhdocmkpjcaaW.PrintMore Go.Proofs.Ytcjbhdocmkpjcaa.Ext Go.Proofs.Ytcjbhdocmkpjcaa.Base Go.Proofs.Ytcjbhdocmkpjcaa.Sets
set_option linter.unusedVariables false
set_option linter.unusedSimpArgs false

theorem flatten_le (m : Nat) (l : List (List Int)) (h : ∀ x ∈ l, x.length ≤ m) : l.flatten.length ≤ l.length * m := by
  induction l with
  | nil => simp
  | cons x r ih =>
    have h1 := h x (by simp)
    have h2 := ih (fun y hy => h y (by simp [hy]))
    rw [List.flatten_cons, List.length_append, List.length_cons, Nat.succ_mul]
    omega
theorem union_f (l : List (List Int)) (h : l.flatten.length ≤ 17592186044416) : bits_Union.f l = some (unionR [] l) := by
  rw [unionR_sset]
  unfold bits_Union.f
  split <;> simp [h]

theorem unions_end (l few : List (List Int)) (i : Int) (hf : few.length ≤ 10) (h2 : ∀ x ∈ few, x.length ≤ 200) : Ev fun k => gumshoelaw01_BitsUnions.j1 k l true few i false = some true := by
  have hl := flatten_le 200 few h2
  have hn : (unionR [] few).1.length ≤ 9223372036854775807 := by
    rw [unionR_all]
    split
    · have := allL_length [] few.flatten; rw [List.length_nil] at this; show (allL [] few.flatten).length ≤ _; omega
    · simp
  refine ((union_tells few (by omega) (by omega)).and (same_tells (unionR [] few).1 (unionR [] few).1 hn)).succ fun k hk => ?_
  rw [gumshoelaw01_BitsUnions.j1, if_neg (by decide), union_f few (by omega), Option.bind_some, hk.1, Option.bind_some, if_pos rfl, hk.2, Option.bind_some]
  simp

theorem unions_loop (l : List (List Int)) (d : Nat) : ∀ (i : Nat) (few : List (List Int)), i + d = 10 → few.length ≤ i → (∀ x ∈ few, x.length ≤ 200) → Ev fun k => gumshoelaw01_BitsUnions.l0 k l true few (i : Int) = some true := by
  induction d with
  | zero =>
    intro i few h hf h2
    refine (unions_end l few (i : Int) (by omega) h2).succ fun k hk => ?_
    rw [gumshoelaw01_BitsUnions.l0, show (decide ((i : Int) < 10)) = false from decide_eq_false (by omega), hk]
    simp
  | succ d ih =>
    intro i few h hf h2
    by_cases hi : i < l.length
    · refine ((ih (i + 1) (few ++ [(l.getD i []).take 200]) (by omega) (by simp; omega) ?_).succ (q := fun k => gumshoelaw01_BitsUnions.j1 k l true few (i : Int) true = some true) fun k hk => ?_).succ fun k hk => ?_
      · intro x hx
        rcases List.mem_append.1 hx with hx | hx
        · exact h2 x hx
        · obtain rfl := List.mem_singleton.1 hx
          rw [List.length_take]; omega
      · rw [gumshoelaw01_BitsUnions.j1, if_pos rfl, if_pos (by omega), if_pos (by omega), rd_L2_nat, cut_tells, Option.bind_some, if_pos (by omega), wrap_nat i (by omega), hk]
      · rw [gumshoelaw01_BitsUnions.l0, if_pos (by omega), decide_eq_true (by omega), hk]
    · refine (unions_end l few (i : Int) (by omega) h2).succ fun k hk => ?_
      rw [gumshoelaw01_BitsUnions.l0, if_neg (by omega), hk]

theorem BitsUnions (l0 : List (List Int)) (h0 : ∀ a ∈ l0, ∀ b ∈ a, (Lit.int .i64 b).wf = true) : ∃ k, gumshoelaw01_BitsUnions.f k l0 = some true := by
  refine ((unions_loop l0 10 0 [] (by omega) (by simp) (by simp)).mono fun k hk => ?_).ex
  rw [gumshoelaw01_BitsUnions.f, gumshoelaw01_shown.f, Option.bind_some]
  exact hk
end Go.Proofs.Ytcjbhdocmkpjcaa.Pure
