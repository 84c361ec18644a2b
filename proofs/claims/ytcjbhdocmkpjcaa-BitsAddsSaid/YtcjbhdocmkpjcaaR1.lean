/- What the first reference's printed functions compute, in closed form. No condition. -/
import Derived.Test.YtcjbhdocmkpjcaaEv
import Derived.Test.YtcjbhdocmkpjcaaPb2
import Derived.Test.YtcjbhdocmkpjcaaSets
import Derived.Test.YtcjbhdocmkpjcaaBase
namespace Go.Proofs.Ytcjbhdocmkpjcaa.Ref
open Go.RowKit Go.Proofs.Ytcjbhdocmkpjcaa.Ev Go.Proofs.Ytcjbhdocmkpjcaa.Pb Go.Proofs.YtcjbhdocmkpjcaaW.PrintWords Go.Proofs.YtcjbhdocmkpjcaaW.PrintMore Go.Proofs.Ytcjbhdocmkpjcaa.Ext Go.Proofs.Ytcjbhdocmkpjcaa.Base Go.Proofs.Ytcjbhdocmkpjcaa.Sets

theorem same_loop (a b : List Int) (hl : a.length = b.length) (hm : a.length ≤ 9223372036854775807) (d : Nat) : ∀ i, i + d = a.length → Ev fun k => gumshoeref01_Same.l0 k a b (i : Int) = some (decide (a.drop i = b.drop i)) := by
  induction d with
  | zero =>
    intro i h
    refine Ev.step fun k => ?_
    rw [gumshoeref01_Same.l0, if_neg (by omega), drop_len a i (by omega), drop_len b i (by omega)]
    simp
  | succ d ih =>
    intro i h
    refine (ih (i + 1) (by omega)).succ fun k hk => ?_
    rw [gumshoeref01_Same.l0, if_pos (by omega), if_pos (by omega), if_pos (by omega), rd_nat, rd_nat, drop_at a i 0 (by omega), drop_at b i 0 (by omega), wrap_nat i (by omega), hk]
    by_cases e : a.getD i 0 = b.getD i 0
    · rw [if_pos e, e]; simp
    · rw [if_neg e]; simp only [List.cons.injEq, e, false_and, decide_false]
theorem same_tells (a b : List Int) (hm : a.length ≤ 9223372036854775807) : Ev fun k => gumshoeref01_Same.f k a b = some (decide (a = b)) := by
  by_cases hl : a.length = b.length
  · refine (same_loop a b hl hm a.length 0 (by omega)).mono fun k hk => ?_
    rw [gumshoeref01_Same.f, if_pos (by omega)]
    simpa using hk
  · refine Ev.all fun k => ?_
    rw [gumshoeref01_Same.f, if_neg (by omega)]
    have : a ≠ b := fun h => hl (by rw [h])
    simp [this]

theorem has_loop (a : List Int) (n : Int) (hm : a.length ≤ 9223372036854775807) (d : Nat) : ∀ i, i + d = a.length → Ev fun k => gumshoeref01_Has.l0 k a n (i : Int) = some ((a.drop i).contains n) := by
  induction d with
  | zero =>
    intro i h
    refine Ev.step fun k => ?_
    rw [gumshoeref01_Has.l0, if_neg (by omega), drop_len a i (by omega)]
    rfl
  | succ d ih =>
    intro i h
    refine (ih (i + 1) (by omega)).succ fun k hk => ?_
    rw [gumshoeref01_Has.l0, if_pos (by omega), if_pos (by omega), rd_nat, drop_at a i 0 (by omega), wrap_nat i (by omega), hk, List.contains_cons]
    by_cases e : a.getD i 0 = n
    · rw [if_pos e, e]; simp
    · rw [if_neg e, beq_false_of_ne (Ne.symm e)]; simp
theorem has_tells (a : List Int) (n : Int) (hm : a.length ≤ 9223372036854775807) : Ev fun k => gumshoeref01_Has.f k a n = some (a.contains n) := by
  refine (has_loop a n hm a.length 0 (by omega)).mono fun k hk => ?_
  simpa [gumshoeref01_Has.f] using hk

/-- A number put in ahead of the first greater one. -/
def insL (n : Int) : List Int → List Int
  | [] => [n]
  | x :: r => if x > n then n :: x :: r else x :: insL n r
def withL (l : List Int) (n : Int) : List Int := if l.contains n = true then l else insL n l

theorem with_loop (a : List Int) (n : Int) (hm : a.length ≤ 8796093022208) (d : Nat) : ∀ i out (b : Bool), i + d = a.length → out.length ≤ i + (if b then 1 else 0) → Ev fun k => gumshoeref01_With.l0 k a n out b (i : Int) = some (out ++ if b = true then a.drop i else insL n (a.drop i)) := by
  induction d with
  | zero =>
    intro i out b h ho
    refine Ev.step fun k => ?_
    rw [gumshoeref01_With.l0, if_neg (by omega), drop_len a i (by omega)]
    cases b with
    | true => simp
    | false => rw [if_neg (by decide), if_pos (by simp at ho; omega)]; simp [insL]
  | succ d ih =>
    intro i out b h ho
    have hi : i < a.length := by omega
    cases b with
    | true =>
      refine ((ih (i + 1) (out ++ [a.getD i 0]) true (by omega) (by simp at ho ⊢; omega)).succ (q := fun k => gumshoeref01_With.j1 k a n out true (i : Int) false = some (out ++ a.drop i)) fun k hk => ?_).succ fun k hk => ?_
      · rw [gumshoeref01_With.j1, if_neg (by decide), if_pos (by omega), if_pos (by omega), if_pos (by simp at ho; omega), rd_nat, wrap_nat i (by omega), hk, drop_at a i 0 hi]
        simp
      · rw [gumshoeref01_With.l0, if_pos (by omega), if_pos rfl, hk]; simp
    | false =>
      by_cases e : a.getD i 0 > n
      · refine ((ih (i + 1) (out ++ [n] ++ [a.getD i 0]) true (by omega) (by simp at ho ⊢; omega)).succ (q := fun k => gumshoeref01_With.j1 k a n out false (i : Int) true = some (out ++ insL n (a.drop i))) fun k hk => ?_).succ fun k hk => ?_
        · rw [gumshoeref01_With.j1, if_pos rfl, if_pos (by simp at ho; omega), Option.bind_some, if_pos (by omega), if_pos (by omega), if_pos (by simp at ho ⊢; omega), rd_nat, wrap_nat i (by omega), hk, drop_at a i 0 hi, insL, if_pos e]
          simp
        · rw [gumshoeref01_With.l0, if_pos (by omega), if_neg (by decide), if_pos (by omega), rd_nat, decide_eq_true e, hk]; simp
      · refine ((ih (i + 1) (out ++ [a.getD i 0]) false (by omega) (by simp at ho ⊢; omega)).succ (q := fun k => gumshoeref01_With.j1 k a n out false (i : Int) false = some (out ++ insL n (a.drop i))) fun k hk => ?_).succ fun k hk => ?_
        · rw [gumshoeref01_With.j1, if_neg (by decide), if_pos (by omega), if_pos (by omega), if_pos (by simp at ho; omega), rd_nat, wrap_nat i (by omega), hk, drop_at a i 0 hi, insL, if_neg e]
          simp
        · rw [gumshoeref01_With.l0, if_pos (by omega), if_neg (by decide), if_pos (by omega), rd_nat, decide_eq_false e, hk]; simp
theorem with_tells (a : List Int) (n : Int) (hm : a.length ≤ 8796093022208) : Ev fun k => gumshoeref01_With.f k a n = some (withL a n) := by
  refine ((has_tells a n (by omega)).and (with_loop a n hm a.length 0 [] (a.contains n) (by omega) (by simp))).mono fun k hk => ?_
  obtain ⟨h1, h2⟩ := hk
  rw [gumshoeref01_With.f, h1, Option.bind_some]
  have h2' : gumshoeref01_With.l0 k a n [] (a.contains n) 0 = _ := h2
  rw [h2', withL]
  simp

theorem insL_length (n : Int) (l : List Int) : (insL n l).length = l.length + 1 := by
  induction l with
  | nil => rfl
  | cons x r ih => unfold insL; split <;> simp [ih]
theorem withL_length (n : Int) (l : List Int) : (withL l n).length ≤ l.length + 1 := by
  unfold withL
  split
  · omega
  · rw [insL_length]; omega
theorem insL_mem (n : Int) (l : List Int) (x : Int) : x ∈ insL n l ↔ x = n ∨ x ∈ l := by
  induction l with
  | nil => simp [insL]
  | cons y r ih =>
    unfold insL
    split
    · simp
    · simp only [List.mem_cons, ih]
      constructor
      · rintro (h | h | h) <;> simp [h]
      · rintro (h | h | h) <;> simp [h]
theorem insL_rising (n : Int) (l : List Int) (h : l.Pairwise (· < ·)) (hn : n ∉ l) : (insL n l).Pairwise (· < ·) := by
  induction l with
  | nil => simp [insL]
  | cons y r ih =>
    have hp := List.pairwise_cons.1 h
    simp only [List.mem_cons, not_or] at hn
    unfold insL
    split
    · rename_i hy
      rw [List.pairwise_cons]
      refine ⟨fun z hz => ?_, h⟩
      rcases List.mem_cons.1 hz with rfl | hz
      · omega
      · have := hp.1 z hz; omega
    · rename_i hy
      rw [List.pairwise_cons]
      refine ⟨fun z hz => ?_, ih hp.2 hn.2⟩
      rcases (insL_mem n r z).1 hz with rfl | hz
      · have := hn.1; omega
      · exact hp.1 z hz
theorem withL_mem (n : Int) (l : List Int) (x : Int) : x ∈ withL l n ↔ x = n ∨ x ∈ l := by
  unfold withL
  split
  · rename_i h
    rw [List.contains_iff_mem] at h
    constructor
    · exact fun h => .inr h
    · rintro (rfl | h') <;> assumption
  · exact insL_mem n l x
theorem withL_rising (n : Int) (l : List Int) (h : l.Pairwise (· < ·)) : (withL l n).Pairwise (· < ·) := by
  unfold withL
  split
  · exact h
  · rename_i hn
    exact insL_rising n l h (fun hm => hn (List.contains_iff_mem.2 hm))

def allL (a b : List Int) : List Int := b.foldl withL a
theorem allL_mem (a b : List Int) (x : Int) : x ∈ allL a b ↔ x ∈ a ∨ x ∈ b := by
  unfold allL
  induction b generalizing a with
  | nil => simp
  | cons y r ih =>
    rw [List.foldl_cons, ih, withL_mem, List.mem_cons]
    constructor
    · rintro ((h | h) | h) <;> simp [h]
    · rintro (h | h | h) <;> simp [h]
theorem allL_rising (a b : List Int) (h : a.Pairwise (· < ·)) : (allL a b).Pairwise (· < ·) := by
  unfold allL
  induction b generalizing a with
  | nil => exact h
  | cons y r ih => rw [List.foldl_cons]; exact ih _ (withL_rising y a h)
theorem allL_length (a b : List Int) : (allL a b).length ≤ a.length + b.length := by
  unfold allL
  induction b generalizing a with
  | nil => simp
  | cons y r ih => rw [List.foldl_cons]; have := ih (withL a y); have := withL_length y a; simp; omega

theorem all_loop (b : List Int) (hb : b.length ≤ 9223372036854775807) (d : Nat) : ∀ i a, i + d = b.length → a.length + d ≤ 8796093022208 → Ev fun k => gumshoeref01_All.l0 k a b (i : Int) = some (allL a (b.drop i)) := by
  induction d with
  | zero =>
    intro i a h ha
    refine Ev.step fun k => ?_
    rw [gumshoeref01_All.l0, if_neg (by omega), drop_len b i (by omega)]
    rfl
  | succ d ih =>
    intro i a h ha
    have hl := withL_length (b.getD i 0) a
    refine ((with_tells a (b.getD i 0) (by omega)).and (ih (i + 1) (withL a (b.getD i 0)) (by omega) (by omega))).succ fun k hk => ?_
    rw [gumshoeref01_All.l0, if_pos (by omega), if_pos (by omega), rd_nat, hk.1, Option.bind_some, wrap_nat i (by omega), hk.2, drop_at b i 0 (by omega)]
    rfl
theorem all_tells (a b : List Int) (h : a.length + b.length ≤ 8796093022208) : Ev fun k => gumshoeref01_All.f k a b = some (allL a b) := by
  refine (all_loop b (by omega) b.length 0 a (by omega) (by omega)).mono fun k hk => ?_
  simpa [gumshoeref01_All.f] using hk

theorem right_step (l : List Int) (hl : l.length ≤ 9223372036854775807) (i k : Nat) (hi : i < l.length) : gumshoeref01_Right.l0 (k + 1) l (i : Int) = gumshoeref01_Right.j1 k l (i : Int) (!decide (okAt l i)) := by
  rw [gumshoeref01_Right.l0, if_pos (by omega), if_pos (by omega), rd_nat]
  by_cases c1 : l.getD i 0 < 0
  · rw [if_pos c1, decide_eq_false (p := okAt l i) (fun h => absurd h.1 (by omega))]; rfl
  · rw [if_neg c1]
    by_cases c2 : l.getD i 0 > 1073741824
    · rw [if_pos c2, decide_eq_false (p := okAt l i) (fun h => absurd h.2.1 (by omega))]; rfl
    · rw [if_neg c2]
      by_cases c3 : 0 < i
      · have hw : wrap64 ((i : Int) - 1) = ((i - 1 : Nat) : Int) := by rw [wrap_id _ (by omega) (by omega)]; omega
        rw [if_pos (by omega), hw, if_pos (by omega), if_pos (by omega), rd_nat]
        congr 1
        by_cases c4 : l.getD (i - 1) 0 < l.getD i 0
        · rw [decide_eq_false (by omega), decide_eq_true (p := okAt l i) ⟨by omega, by omega, fun _ => c4⟩]; rfl
        · rw [decide_eq_true (by omega), decide_eq_false (p := okAt l i) (fun h => c4 (h.2.2 c3))]; rfl
      · rw [if_neg (by omega), decide_eq_true (p := okAt l i) ⟨by omega, by omega, fun h => absurd h c3⟩]; rfl

def okFrom (l : List Int) (i : Nat) : Bool := (List.range' i (l.length - i)).all fun j => decide (okAt l j)
theorem right_loop (l : List Int) (hl : l.length ≤ 9223372036854775807) (d : Nat) : ∀ i, i + d = l.length → Ev fun k => gumshoeref01_Right.l0 k l (i : Int) = some (okFrom l i) := by
  induction d with
  | zero =>
    intro i h
    refine Ev.step fun k => ?_
    rw [gumshoeref01_Right.l0, if_neg (by omega), okFrom, show l.length - i = 0 by omega]
    rfl
  | succ d ih =>
    intro i h
    have hi : i < l.length := by omega
    refine ((ih (i + 1) (by omega)).succ (q := fun k => gumshoeref01_Right.j1 k l (i : Int) (!decide (okAt l i)) = some (okFrom l i)) fun k hk => ?_).succ fun k hk => ?_
    · rw [gumshoeref01_Right.j1, wrap_nat i (by omega), hk, okFrom, okFrom, show l.length - i = (l.length - (i + 1)) + 1 by omega, List.range'_succ, List.all_cons]
      cases decide (okAt l i) <;> simp
    · rw [right_step l hl i k hi, hk]
theorem right_tells (l : List Int) (hl : l.length ≤ 9223372036854775807) : Ev fun k => gumshoeref01_Right.f k l = some (setB l) := by
  refine (right_loop l hl l.length 0 (by omega)).mono fun k hk => ?_
  rw [gumshoeref01_Right.f, show (0 : Int) = ((0 : Nat) : Int) from rfl, hk]
  congr 1
  unfold okFrom setB
  rw [Bool.eq_iff_iff, List.all_eq_true, decide_eq_true_eq, setOk_iff]
  constructor
  · intro h j hj
    have := h j (by rw [List.mem_range'_1]; omega)
    simpa using this
  · intro h j hj
    rw [List.mem_range'_1] at hj
    simpa using h j (by omega)

theorem rd_L2_nat (l : List (List Int)) (i : Nat) : rd_L2 l (i : Int) = l.getD i [] := by unfold rd_L2; rw [Int.toNat_natCast]

/-- The reference's union. -/
def unionR (a : List Int) : List (List Int) → List Int × Int
  | [] => (a, 0)
  | x :: r => if setB x = true then unionR (allL a x) r else ([], 2)
theorem union_loop (l : List (List Int)) (hl : l.length ≤ 9223372036854775807) (d : Nat) : ∀ i a, i + d = l.length → a.length + (l.drop i).flatten.length ≤ 8796093022208 → Ev fun k => gumshoeref01_Union.l0 k l a (i : Int) = some (unionR a (l.drop i)) := by
  induction d with
  | zero =>
    intro i a h ha
    refine Ev.step fun k => ?_
    rw [gumshoeref01_Union.l0, if_neg (by omega), drop_len l i (by omega)]
    rfl
  | succ d ih =>
    intro i a h ha
    have hi : i < l.length := by omega
    have hd := drop_at l i [] hi
    rw [hd, List.flatten_cons, List.length_append] at ha
    have hx := allL_length a (l.getD i [])
    cases hb : setB (l.getD i []) with
    | true =>
      refine ((right_tells (l.getD i []) (by omega)).and ((all_tells a (l.getD i []) (by omega)).and (ih (i + 1) (allL a (l.getD i [])) (by omega) (by omega)))).succ fun k hk => ?_
      obtain ⟨h1, h2, h3⟩ := hk
      rw [gumshoeref01_Union.l0, if_pos (by omega), if_pos (by omega), rd_L2_nat, h1, Option.bind_some, hb, if_pos rfl, h2, Option.bind_some, wrap_nat i (by omega), h3, hd, unionR, if_pos hb]
    | false =>
      refine (right_tells (l.getD i []) (by omega)).succ fun k h1 => ?_
      rw [gumshoeref01_Union.l0, if_pos (by omega), if_pos (by omega), rd_L2_nat, h1, Option.bind_some, hb, if_neg (by decide), hd, unionR, if_neg (by rw [hb]; decide)]
theorem union_tells (l : List (List Int)) (hl : l.length ≤ 9223372036854775807) (h : l.flatten.length ≤ 8796093022208) : Ev fun k => gumshoeref01_Union.f k l = some (unionR [] l) := by
  refine (union_loop l hl l.length 0 [] (by omega) (by simpa using h)).mono fun k hk => ?_
  simpa [gumshoeref01_Union.f] using hk
theorem unionR_all (l : List (List Int)) : ∀ a, unionR a l = if l.all setB = true then (allL a l.flatten, 0) else ([], 2) := by
  induction l with
  | nil => intro a; simp [unionR, allL]
  | cons x r ih =>
    intro a
    rw [unionR, List.all_cons]
    cases hb : setB x with
    | true =>
      rw [if_pos rfl, ih, Bool.true_and]
      have : allL (allL a x) r.flatten = allL a (x :: r).flatten := by unfold allL; rw [List.flatten_cons, List.foldl_append]
      rw [this]
    | false => simp
/-- The reference's union is the program's. -/
theorem unionR_sset (l : List (List Int)) : unionR [] l = if l.all setB = true then (sset l.flatten, 0) else ([], 2) := by
  rw [unionR_all]
  have : allL [] l.flatten = sset l.flatten := rising_eq (allL_rising _ _ (by simp)) (sset_facts _).1 (fun x => by rw [allL_mem, (sset_facts _).2]; simp)
  rw [this]

/-- The reference's parts. -/
theorem parts_loop (a b : List Int) (inn : Bool) (hb : b.length ≤ 9223372036854775807) (hm : a.length ≤ 8796093022208) (d : Nat) : ∀ i out, i + d = a.length → out.length ≤ i → Ev fun k => gumshoeref01_Parts.l0 k a b inn out (i : Int) = some (out ++ (a.drop i).filter fun x => b.contains x == inn) := by
  induction d with
  | zero =>
    intro i out h ho
    refine Ev.step fun k => ?_
    rw [gumshoeref01_Parts.l0, if_neg (by omega), drop_len a i (by omega)]
    simp
  | succ d ih =>
    intro i out h ho
    have hi : i < a.length := by omega
    by_cases e : (b.contains (a.getD i 0) == inn) = true
    · refine ((has_tells b (a.getD i 0) hb).and (ih (i + 1) (out ++ [a.getD i 0]) (by omega) (by simp; omega))).succ fun k hk => ?_
      rw [gumshoeref01_Parts.l0, if_pos (by omega), if_pos (by omega), rd_nat, hk.1, Option.bind_some, if_pos e, if_pos (by omega), wrap_nat i (by omega), hk.2, drop_at a i 0 hi, List.filter_cons, if_pos e]
      simp
    · refine ((has_tells b (a.getD i 0) hb).and (ih (i + 1) out (by omega) (by omega))).succ fun k hk => ?_
      rw [gumshoeref01_Parts.l0, if_pos (by omega), if_pos (by omega), rd_nat, hk.1, Option.bind_some, if_neg e, wrap_nat i (by omega), hk.2, drop_at a i 0 hi, List.filter_cons, if_neg e]
theorem parts_tells (a b : List Int) (inn : Bool) (hb : b.length ≤ 9223372036854775807) (hm : a.length ≤ 8796093022208) : Ev fun k => gumshoeref01_Parts.f k a b inn = some (a.filter fun x => b.contains x == inn) := by
  refine (parts_loop a b inn hb hm a.length 0 [] (by omega) (by simp)).mono fun k hk => ?_
  simpa [gumshoeref01_Parts.f] using hk

theorem cut_tells (l : List Int) : gumshoelaw01_cut.f l = some (l.take 200) := by
  unfold gumshoelaw01_cut.f mn
  by_cases h : (200 : Int) < (l.length : Int)
  · rw [if_pos h, if_pos (by omega), if_pos (by omega)]; rfl
  · rw [if_neg h, if_pos (by omega), if_pos (by omega), Int.toNat_natCast, List.take_of_length_le (Nat.le_refl _), List.take_of_length_le (by omega)]
end Go.Proofs.Ytcjbhdocmkpjcaa.Ref
