/- What gumshoeref01's printed Same, Has, With compute, in closed form. No condition. -/
import Derived.Test.YtondngpmhlemkaaEv
import Derived.Test.YtondngpmhlemkaaPr1
import Derived.Test.YtondngpmhlemkaaSets
namespace Go.Proofs.Ytondngpmhlemkaa.Ref
open Go.RowKit Go.Proofs.Ytondngpmhlemkaa.Ev Go.Proofs.Ytondngpmhlemkaa.Pr Go.Proofs.YtondngpmhlemkaaW.PrintWords Go.Proofs.YtondngpmhlemkaaW.PrintMore Go.Proofs.Ytondngpmhlemkaa.Sets

theorem same_loop (a b : List Int) (hl : a.length = b.length) (hm : a.length ≤ 9223372036854775807) (d : Nat) : ∀ i, i + d = a.length → Ev fun k => gumshoeref01_Same.l0 k a b (i : Int) = some (decide (a.drop i = b.drop i)) := by
  induction d with
  | zero =>
    intro i h
    refine Ev.step fun k => ?_
    rw [gumshoeref01_Same.l0, if_neg (by omega), drop_len a i (by omega), drop_len b i (by omega)]
    simp
  | succ d ih =>
    intro i h
    refine (ih (i + 1) (by omega)).succ fun k hk => ?_
    rw [gumshoeref01_Same.l0, if_pos (by omega), if_pos (by omega), if_pos (by omega), rd_nat, rd_nat, drop_at a i 0 (by omega), drop_at b i 0 (by omega), wrap_nat i (by omega), hk]
    by_cases e : a.getD i 0 = b.getD i 0
    · rw [if_pos e, e]; simp
    · rw [if_neg e]; simp only [List.cons.injEq, e, false_and, decide_false]
theorem same_tells (a b : List Int) (hm : a.length ≤ 9223372036854775807) : Ev fun k => gumshoeref01_Same.f k a b = some (decide (a = b)) := by
  by_cases hl : a.length = b.length
  · refine (same_loop a b hl hm a.length 0 (by omega)).mono fun k hk => ?_
    rw [gumshoeref01_Same.f, if_pos (by omega)]
    simpa using hk
  · refine Ev.all fun k => ?_
    rw [gumshoeref01_Same.f, if_neg (by omega)]
    have : a ≠ b := fun h => hl (by rw [h])
    simp [this]

theorem same_self (a : List Int) (hm : a.length ≤ 9223372036854775807) : Ev fun k => gumshoeref01_Same.f k a a = some true := (same_tells a a hm).mono fun k hk => by rw [hk]; simp

theorem has_loop (a : List Int) (n : Int) (hm : a.length ≤ 9223372036854775807) (d : Nat) : ∀ i, i + d = a.length → Ev fun k => gumshoeref01_Has.l0 k a n (i : Int) = some ((a.drop i).contains n) := by
  induction d with
  | zero =>
    intro i h
    refine Ev.step fun k => ?_
    rw [gumshoeref01_Has.l0, if_neg (by omega), drop_len a i (by omega)]
    rfl
  | succ d ih =>
    intro i h
    refine (ih (i + 1) (by omega)).succ fun k hk => ?_
    rw [gumshoeref01_Has.l0, if_pos (by omega), if_pos (by omega), rd_nat, drop_at a i 0 (by omega), wrap_nat i (by omega), hk, List.contains_cons]
    by_cases e : a.getD i 0 = n
    · rw [if_pos e, e]; simp
    · rw [if_neg e, beq_false_of_ne (Ne.symm e)]; simp
theorem has_tells (a : List Int) (n : Int) (hm : a.length ≤ 9223372036854775807) : Ev fun k => gumshoeref01_Has.f k a n = some (a.contains n) := by
  refine (has_loop a n hm a.length 0 (by omega)).mono fun k hk => ?_
  simpa [gumshoeref01_Has.f] using hk

/-- A number put in ahead of the first greater one. -/
def insL (n : Int) : List Int → List Int
  | [] => [n]
  | x :: r => if x > n then n :: x :: r else x :: insL n r
def withL (l : List Int) (n : Int) : List Int := if l.contains n = true then l else insL n l

theorem with_loop (a : List Int) (n : Int) (hm : a.length ≤ 8796093022208) (d : Nat) : ∀ i out (b : Bool), i + d = a.length → out.length ≤ i + (if b then 1 else 0) → Ev fun k => gumshoeref01_With.l0 k a n out b (i : Int) = some (out ++ if b = true then a.drop i else insL n (a.drop i)) := by
  induction d with
  | zero =>
    intro i out b h ho
    refine Ev.step fun k => ?_
    rw [gumshoeref01_With.l0, if_neg (by omega), drop_len a i (by omega)]
    cases b with
    | true => simp
    | false => rw [if_neg (by decide), if_pos (by simp at ho; omega)]; simp [insL]
  | succ d ih =>
    intro i out b h ho
    have hi : i < a.length := by omega
    cases b with
    | true =>
      refine ((ih (i + 1) (out ++ [a.getD i 0]) true (by omega) (by simp at ho ⊢; omega)).succ (q := fun k => gumshoeref01_With.j1 k a n out true (i : Int) false = some (out ++ a.drop i)) fun k hk => ?_).succ fun k hk => ?_
      · rw [gumshoeref01_With.j1, if_neg (by decide), if_pos (by omega), if_pos (by omega), if_pos (by simp at ho; omega), rd_nat, wrap_nat i (by omega), hk, drop_at a i 0 hi]
        simp
      · rw [gumshoeref01_With.l0, if_pos (by omega), if_pos rfl, hk]; simp
    | false =>
      by_cases e : a.getD i 0 > n
      · refine ((ih (i + 1) (out ++ [n] ++ [a.getD i 0]) true (by omega) (by simp at ho ⊢; omega)).succ (q := fun k => gumshoeref01_With.j1 k a n out false (i : Int) true = some (out ++ insL n (a.drop i))) fun k hk => ?_).succ fun k hk => ?_
        · rw [gumshoeref01_With.j1, if_pos rfl, if_pos (by simp at ho; omega), Option.bind_some, if_pos (by omega), if_pos (by omega), if_pos (by simp at ho ⊢; omega), rd_nat, wrap_nat i (by omega), hk, drop_at a i 0 hi, insL, if_pos e]
          simp
        · rw [gumshoeref01_With.l0, if_pos (by omega), if_neg (by decide), if_pos (by omega), rd_nat, decide_eq_true e, hk]; simp
      · refine ((ih (i + 1) (out ++ [a.getD i 0]) false (by omega) (by simp at ho ⊢; omega)).succ (q := fun k => gumshoeref01_With.j1 k a n out false (i : Int) false = some (out ++ insL n (a.drop i))) fun k hk => ?_).succ fun k hk => ?_
        · rw [gumshoeref01_With.j1, if_neg (by decide), if_pos (by omega), if_pos (by omega), if_pos (by simp at ho; omega), rd_nat, wrap_nat i (by omega), hk, drop_at a i 0 hi, insL, if_neg e]
          simp
        · rw [gumshoeref01_With.l0, if_pos (by omega), if_neg (by decide), if_pos (by omega), rd_nat, decide_eq_false e, hk]; simp
theorem with_tells (a : List Int) (n : Int) (hm : a.length ≤ 8796093022208) : Ev fun k => gumshoeref01_With.f k a n = some (withL a n) := by
  refine ((has_tells a n (by omega)).and (with_loop a n hm a.length 0 [] (a.contains n) (by omega) (by simp))).mono fun k hk => ?_
  obtain ⟨h1, h2⟩ := hk
  rw [gumshoeref01_With.f, h1, Option.bind_some]
  have h2' : gumshoeref01_With.l0 k a n [] (a.contains n) 0 = _ := h2
  rw [h2', withL]
  simp

theorem insL_length (n : Int) (l : List Int) : (insL n l).length = l.length + 1 := by
  induction l with
  | nil => rfl
  | cons x r ih => unfold insL; split <;> simp [ih]
theorem withL_length (n : Int) (l : List Int) : (withL l n).length ≤ l.length + 1 := by
  unfold withL
  split
  · omega
  · rw [insL_length]; omega
theorem insL_mem (n : Int) (l : List Int) (x : Int) : x ∈ insL n l ↔ x = n ∨ x ∈ l := by
  induction l with
  | nil => simp [insL]
  | cons y r ih =>
    unfold insL
    split
    · simp
    · simp only [List.mem_cons, ih]
      constructor
      · rintro (h | h | h) <;> simp [h]
      · rintro (h | h | h) <;> simp [h]
theorem insL_rising (n : Int) (l : List Int) (h : l.Pairwise (· < ·)) (hn : n ∉ l) : (insL n l).Pairwise (· < ·) := by
  induction l with
  | nil => simp [insL]
  | cons y r ih =>
    have hp := List.pairwise_cons.1 h
    simp only [List.mem_cons, not_or] at hn
    unfold insL
    split
    · rename_i hy
      rw [List.pairwise_cons]
      refine ⟨fun z hz => ?_, h⟩
      rcases List.mem_cons.1 hz with rfl | hz
      · omega
      · have := hp.1 z hz; omega
    · rename_i hy
      rw [List.pairwise_cons]
      refine ⟨fun z hz => ?_, ih hp.2 hn.2⟩
      rcases (insL_mem n r z).1 hz with rfl | hz
      · have := hn.1; omega
      · exact hp.1 z hz
theorem withL_mem (n : Int) (l : List Int) (x : Int) : x ∈ withL l n ↔ x = n ∨ x ∈ l := by
  unfold withL
  split
  · rename_i h
    rw [List.contains_iff_mem] at h
    constructor
    · exact fun h => .inr h
    · rintro (rfl | h') <;> assumption
  · exact insL_mem n l x
theorem withL_rising (n : Int) (l : List Int) (h : l.Pairwise (· < ·)) : (withL l n).Pairwise (· < ·) := by
  unfold withL
  split
  · exact h
  · rename_i hn
    exact insL_rising n l h (fun hm => hn (List.contains_iff_mem.2 hm))

def allL (a b : List Int) : List Int := b.foldl withL a
theorem allL_mem (a b : List Int) (x : Int) : x ∈ allL a b ↔ x ∈ a ∨ x ∈ b := by
  unfold allL
  induction b generalizing a with
  | nil => simp
  | cons y r ih =>
    rw [List.foldl_cons, ih, withL_mem, List.mem_cons]
    constructor
    · rintro ((h | h) | h) <;> simp [h]
    · rintro (h | h | h) <;> simp [h]
theorem allL_rising (a b : List Int) (h : a.Pairwise (· < ·)) : (allL a b).Pairwise (· < ·) := by
  unfold allL
  induction b generalizing a with
  | nil => exact h
  | cons y r ih => rw [List.foldl_cons]; exact ih _ (withL_rising y a h)
theorem allL_length (a b : List Int) : (allL a b).length ≤ a.length + b.length := by
  unfold allL
  induction b generalizing a with
  | nil => simp
  | cons y r ih => rw [List.foldl_cons]; have := ih (withL a y); have := withL_length y a; simp; omega

theorem allL_sset (xs : List Int) : allL [] xs = sset xs := rising_eq (allL_rising _ _ (by simp)) (sset_facts _).1 (fun x => by rw [allL_mem, (sset_facts _).2]; simp)
theorem allL_cons (a : List Int) (x : Int) (xs : List Int) : allL a (x :: xs) = allL (withL a x) xs := rfl
theorem sset_rising {xs : List Int} (h : xs.Pairwise (· < ·)) : sset xs = xs := rising_eq (sset_facts xs).1 h (fun x => (sset_facts xs).2 x)
end Go.Proofs.Ytondngpmhlemkaa.Ref
