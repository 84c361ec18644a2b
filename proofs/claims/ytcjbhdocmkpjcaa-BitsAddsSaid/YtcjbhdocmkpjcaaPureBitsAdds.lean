/- The plain law of BitsAdds. No condition. -/
import Derived.Test.YtcjbhdocmkpjcaaE15
import Derived.Test.YtcjbhdocmkpjcaaPd1
namespace Go.Proofs.Ytcjbhdocmkpjcaa.Pure
open Go.RowKit Go.Proofs.Ytcjbhdocmkpjcaa.Ev Go.Proofs.YtcjbhdocmkpjcaaW.PrintWords Go.Proofs.YtcjbhdocmkpjcaaW.PrintMore Go.Proofs.Ytcjbhdocmkpjcaa.Ext Go.Proofs.Ytcjbhdocmkpjcaa.Giv Go.Proofs.Ytcjbhdocmkpjcaa.Base Go.Proofs.Ytcjbhdocmkpjcaa.Sets
set_option linter.unusedVariables false
set_option linter.unusedSimpArgs false

theorem cut_tells_d (l : List Int) : Pd.gumshoelaw01_cut.f l = some (l.take 200) := by
  unfold Pd.gumshoelaw01_cut.f mn
  by_cases h : (200 : Int) < (l.length : Int)
  · rw [if_pos h, if_pos (by omega), if_pos (by omega)]; rfl
  · rw [if_neg h, if_pos (by omega), if_pos (by omega), Int.toNat_natCast, List.take_of_length_le (Nat.le_refl _), List.take_of_length_le (by omega)]
theorem with_loop (a : List Int) (n : Int) (hm : a.length ≤ 8796093022208) (d : Nat) : ∀ i out (b : Bool), i + d = a.length → out.length ≤ i + (if b then 1 else 0) → Ev fun k => Pd.gumshoeref01_With.l0 k a n out b (i : Int) = some (out ++ if b = true then a.drop i else Ref.insL n (a.drop i)) := by
  induction d with
  | zero =>
    intro i out b h ho
    refine Ev.step fun k => ?_
    rw [Pd.gumshoeref01_With.l0, if_neg (by omega), drop_len a i (by omega)]
    cases b with
    | true => simp
    | false => rw [if_neg (by decide), if_pos (by simp at ho; omega)]; simp [Ref.insL]
  | succ d ih =>
    intro i out b h ho
    have hi : i < a.length := by omega
    cases b with
    | true =>
      refine ((ih (i + 1) (out ++ [a.getD i 0]) true (by omega) (by simp at ho ⊢; omega)).succ (q := fun k => Pd.gumshoeref01_With.j1 k a n out true (i : Int) false = some (out ++ a.drop i)) fun k hk => ?_).succ fun k hk => ?_
      · rw [Pd.gumshoeref01_With.j1, if_neg (by decide), if_pos (by omega), if_pos (by omega), if_pos (by simp at ho; omega), rd_nat, wrap_nat i (by omega), hk, Go.Proofs.Ytcjbhdocmkpjcaa.Ev.drop_at a i 0 hi]
        simp
      · rw [Pd.gumshoeref01_With.l0, if_pos (by omega), if_pos rfl, hk]; simp
    | false =>
      by_cases e : a.getD i 0 > n
      · refine ((ih (i + 1) (out ++ [n] ++ [a.getD i 0]) true (by omega) (by simp at ho ⊢; omega)).succ (q := fun k => Pd.gumshoeref01_With.j1 k a n out false (i : Int) true = some (out ++ Ref.insL n (a.drop i))) fun k hk => ?_).succ fun k hk => ?_
        · rw [Pd.gumshoeref01_With.j1, if_pos rfl, if_pos (by simp at ho; omega), Option.bind_some, if_pos (by omega), if_pos (by omega), if_pos (by simp at ho ⊢; omega), rd_nat, wrap_nat i (by omega), hk, Go.Proofs.Ytcjbhdocmkpjcaa.Ev.drop_at a i 0 hi, Ref.insL, if_pos e]
          simp
        · rw [Pd.gumshoeref01_With.l0, if_pos (by omega), if_neg (by decide), if_pos (by omega), rd_nat, decide_eq_true e, hk]; simp
      · refine ((ih (i + 1) (out ++ [a.getD i 0]) false (by omega) (by simp at ho ⊢; omega)).succ (q := fun k => Pd.gumshoeref01_With.j1 k a n out false (i : Int) false = some (out ++ Ref.insL n (a.drop i))) fun k hk => ?_).succ fun k hk => ?_
        · rw [Pd.gumshoeref01_With.j1, if_neg (by decide), if_pos (by omega), if_pos (by omega), if_pos (by simp at ho; omega), rd_nat, wrap_nat i (by omega), hk, Go.Proofs.Ytcjbhdocmkpjcaa.Ev.drop_at a i 0 hi, Ref.insL, if_neg e]
          simp
        · rw [Pd.gumshoeref01_With.l0, if_pos (by omega), if_neg (by decide), if_pos (by omega), rd_nat, decide_eq_false e, hk]; simp
theorem with_tells (a : List Int) (n : Int) (hm : a.length ≤ 8796093022208) : Ev fun k => Pd.gumshoeref01_With.f k a n = some (Ref.withL a n) := by
  refine (with_loop a n hm a.length 0 [] (a.contains n) (by omega) (by simp)).mono fun k hk => ?_
  rw [Pd.gumshoeref01_With.f, gumshoeref01_Has.f, Option.bind_some]
  have h2' : Pd.gumshoeref01_With.l0 k a n [] (a.contains n) 0 = _ := hk
  rw [h2', Ref.withL]
  simp
theorem add_tells (a : List Int) (n : Int) (hm : a.length ≤ 8796093022208) : Ev fun k => Pd.gumshoeref01_Add.f k a n = some (if setB a = true ∧ 0 ≤ n ∧ n ≤ 1073741824 then (Ref.withL a n, !a.contains n, 0) else ([], false, 2)) := by
  refine (with_tells a n hm).succ fun k hk => ?_
  rw [Pd.gumshoeref01_Add.f, gumshoeref01_Right.f, Option.bind_some]
  by_cases h1 : setB a = true
  · rw [if_pos h1]
    by_cases h2 : n < 0
    · rw [if_pos h2, Pd.gumshoeref01_Add.j0, if_pos rfl, if_neg (by omega)]
    · rw [if_neg h2, Pd.gumshoeref01_Add.j0]
      by_cases h3 : n > 1073741824
      · rw [if_pos (by simpa using h3), if_neg (by omega)]
      · rw [if_neg (by simpa using h3), if_pos ⟨h1, by omega, by omega⟩, gumshoeref01_Has.f, Option.bind_some, hk, Option.bind_some]
  · rw [if_neg h1, Pd.gumshoeref01_Add.j0, if_pos rfl, if_neg (fun h => h1 h.1)]
theorem BitsAdds (l0 : List Int) (h0 : ∀ a ∈ l0, (Lit.int .i64 a).wf = true) (a1 : Int) (h1 : (Lit.int .i64 a1).wf = true) : ∃ k, Pd.gumshoelaw01_BitsAdds.f k l0 a1 = some true := by
  refine (add_tells (l0.take 200) a1 (by rw [List.length_take]; omega)).ex.imp fun k hk => ?_
  rw [Pd.gumshoelaw01_BitsAdds.f, gumshoelaw01_shown.f, Option.bind_some, cut_tells_d, Option.bind_some, bits_Add.f, if_pos (by rw [List.length_take]; omega), Option.bind_some, hk, Option.bind_some]
  simp [bits_Right.f, gumshoeref01_Right.f, bits_Has.f, gumshoeref01_Has.f, gumshoeref01_Same.f]
end Go.Proofs.Ytcjbhdocmkpjcaa.Pure
