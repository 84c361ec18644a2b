/- The plain law of BitsParts. No condition. -/
import Derived.Test.YtcjbhdocmkpjcaaR1
import Derived.Test.YtcjbhdocmkpjcaaPb3
namespace Go.Proofs.Ytcjbhdocmkpjcaa.Pure
open Go.RowKit Go.Proofs.Ytcjbhdocmkpjcaa.Ev Go.Proofs.Ytcjbhdocmkpjcaa.Pb Go.Proofs.Ytcjbhdocmkpjcaa.Ref Go.Proofs.YtcjbhdocmkpjcaaW.PrintWords Go.Proofs.YtcjbhdocmkpjcaaW.PrintMore Go.Proofs.Ytcjbhdocmkpjcaa.Ext Go.Proofs.Ytcjbhdocmkpjcaa.Base Go.Proofs.Ytcjbhdocmkpjcaa.Sets
set_option linter.unusedVariables false
set_option linter.unusedSimpArgs false

theorem dropWhile_lt (b : List Int) (n : Int) (h : b.Pairwise (· < ·)) : (b.dropWhile fun x => decide (x < n)) = b.filter fun x => decide (n ≤ x) := by
  induction b with
  | nil => rfl
  | cons y r ih =>
    have hp := List.pairwise_cons.1 h
    by_cases e : y < n
    · rw [List.dropWhile_cons, if_pos (decide_eq_true e), ih hp.2, List.filter_cons, if_neg (by simp; omega)]
    · rw [List.dropWhile_cons, if_neg (by simpa using e), List.filter_cons, if_pos (by simp; omega)]
      congr 1
      symm
      rw [List.filter_eq_self]
      intro x hx
      have := hp.1 x hx
      simp
      omega
theorem restAt_eq (a b : List Int) (ha : a.Pairwise (· < ·)) (hb : b.Pairwise (· < ·)) : ∀ k, k < a.length → restAt a b (k + 1) = b.filter fun x => decide (a.getD k 0 ≤ x)
  | 0, h => by rw [restAt, restAt, dropWhile_lt b _ hb]
  | k + 1, h => by
    rw [restAt, restAt_eq a b ha hb k (by omega), dropWhile_lt _ _ (hb.sublist List.filter_sublist), List.filter_filter]
    have hlt : a.getD k 0 < a.getD (k + 1) 0 := by
      rw [List.getD_eq_getElem?_getD, List.getD_eq_getElem?_getD, List.getElem?_eq_getElem h, List.getElem?_eq_getElem (show k < a.length by omega)]
      exact (List.pairwise_iff_getElem.1 ha) k (k + 1) (by omega) h (by omega)
    congr 1
    funext x
    rw [Bool.eq_iff_iff, Bool.and_eq_true, decide_eq_true_eq, decide_eq_true_eq]
    omega
theorem isAt_eq (a b : List Int) (ha : a.Pairwise (· < ·)) (hb : b.Pairwise (· < ·)) (k : Nat) (hk : k < a.length) : isAt a b k = b.contains (a.getD k 0) := by
  rw [isAt, restAt_eq a b ha hb k hk]
  generalize a.getD k 0 = n
  rw [Bool.eq_iff_iff, List.contains_iff_mem]
  clear hk ha
  induction b with
  | nil => simp
  | cons y r ih =>
    have hp := List.pairwise_cons.1 hb
    rw [List.filter_cons]
    by_cases e : n ≤ y
    · rw [if_pos (by simpa using e)]
      simp only [List.head?_cons, List.mem_cons]
      constructor
      · intro h; left; simpa using (by simpa using h : y = n).symm
      · rintro (rfl | h)
        · simp
        · have := hp.1 n h; omega
    · rw [if_neg (by simpa using e), ih hp.2, List.mem_cons]
      constructor
      · exact fun h => .inr h
      · rintro (rfl | h)
        · omega
        · exact h
/-- For sets: which numbers of the first are in the second. -/
theorem bothL_sets (a b : List Int) (ha : a.Pairwise (· < ·)) (hb : b.Pairwise (· < ·)) : bothL a b = a.map fun n => (n, b.contains n) := by
  apply List.ext_getElem?
  intro k
  by_cases hk : k < a.length
  · rw [bothL_at a b k hk, isAt_eq a b ha hb k hk, List.getElem?_map, List.getD_eq_getElem?_getD, List.getElem?_eq_getElem hk]
    rfl
  · rw [List.getElem?_eq_none (by rw [bothL_length]; omega), List.getElem?_eq_none (by rw [List.length_map]; omega)]
theorem pickL_sets (inn : Bool) (a b : List Int) (ha : a.Pairwise (· < ·)) (hb : b.Pairwise (· < ·)) : pickL inn (bothL a b) = a.filter fun n => b.contains n == inn := by
  rw [bothL_sets a b ha hb]
  unfold pickL
  rw [List.filter_map, List.map_map]
  simp [Function.comp_def]

theorem setB_rising (l : List Int) (h : setB l = true) : l.Pairwise (· < ·) := (of_decide_eq_true h : SetOk l).2
theorem parts_all (a b : List Int) (ha : a.length ≤ 200) (hb : b.length ≤ 200) : Ev fun k => ((bits_Minus.f a b).bind fun bt169 => ((bits_Meet.f a b).bind fun bt173 => ((bits_Within.f a b).bind fun bt177 => ((gumshoeref01_Right.f k a).bind fun t179 => ((gumshoeref01_Right.f k b).bind fun t180 => (if t179 = true then (gumshoelaw01_BitsParts.j0 k a b true bt169.1 bt169.2 bt173.1 bt173.2 bt177.1 bt177.2 (!t180)) else (gumshoelaw01_BitsParts.j0 k a b true bt169.1 bt169.2 bt173.1 bt173.2 bt177.1 bt177.2 true))))))) = some true := by
  unfold bits_Minus.f bits_Meet.f bits_Within.f bits_picked.g
  have e : [a, b].all setB = (setB a && setB b) := by simp
  rw [e]
  cases h1 : setB a with
  | false =>
    refine ((Ref.right_tells a (by omega)).and ((Ref.right_tells b (by omega)).and (Ev.step (q := fun k => gumshoelaw01_BitsParts.j0 k a b true [] 2 [] 2 false 2 true = some true) fun k => ?_))).mono fun k hk => ?_
    · rw [gumshoelaw01_BitsParts.j0]; rfl
    · obtain ⟨h2, h3, h4⟩ := hk
      rw [h1] at h2
      simp [h2, h3, h4]
  | true =>
    cases h2 : setB b with
    | false =>
      refine ((Ref.right_tells a (by omega)).and ((Ref.right_tells b (by omega)).and (Ev.step (q := fun k => gumshoelaw01_BitsParts.j0 k a b true [] 2 [] 2 false 2 true = some true) fun k => ?_))).mono fun k hk => ?_
      · rw [gumshoelaw01_BitsParts.j0]; rfl
      · obtain ⟨h3, h4, h5⟩ := hk
        rw [h1] at h3
        rw [h2] at h4
        simp [h3, h4, h5]
    | true =>
      have ra := setB_rising a h1
      have rb := setB_rising b h2
      have hf : ∀ p : Int → Bool, (a.filter p).length ≤ 9223372036854775807 := fun p => by have := List.length_filter_le p a; omega
      rw [pickL_sets _ a b ra rb, pickL_sets _ a b ra rb, bothL_sets a b ra rb]
      refine ((Ref.right_tells a (by omega)).and ((Ref.right_tells b (by omega)).and ?_)).mono (fun k hk => ?_) (p := fun k => gumshoeref01_Right.f k a = some (setB a) ∧ gumshoeref01_Right.f k b = some (setB b) ∧ gumshoelaw01_BitsParts.j0 k a b true (a.filter fun n => b.contains n == false) 0 (a.filter fun n => b.contains n == true) 0 ((a.map fun n => (n, b.contains n)).all (·.2)) 0 false = some true)
      · refine ((parts_tells a b false (by omega) (by omega)).and ((parts_tells a b true (by omega) (by omega)).and ((same_tells (a.filter fun n => b.contains n == false) (a.filter fun n => b.contains n == false) (hf _)).and (same_tells (a.filter fun n => b.contains n == true) (a.filter fun n => b.contains n == true) (hf _))))).succ fun k hk => ?_
        obtain ⟨h3, h4, h5, h6⟩ := hk
        rw [gumshoelaw01_BitsParts.j0, if_neg (by decide), if_pos rfl, if_pos rfl, if_pos rfl, if_pos rfl, h3, Option.bind_some, h5, Option.bind_some, if_pos (by simp), h4, Option.bind_some, h6, Option.bind_some, if_pos (by simp)]
        congr 1
        rw [beq_iff_eq, Bool.eq_iff_iff, List.all_map, List.all_eq_true, beq_iff_eq, Int.natCast_eq_zero, List.length_eq_zero_iff, List.filter_eq_nil_iff]
        constructor
        · intro h x hx; have := h x hx; simp at this ⊢; exact this
        · intro h x hx; have := h x hx; simp at this ⊢; exact this
      · obtain ⟨h3, h4, h5⟩ := hk
        rw [h1] at h3
        rw [h2] at h4
        rw [if_pos (by decide), if_pos (by omega), if_pos (by decide), if_pos (by omega), if_pos (by decide)]
        simp only [Option.bind_some, h3, h4]
        exact h5

theorem BitsParts (l0 : List Int) (h0 : ∀ a ∈ l0, (Lit.int .i64 a).wf = true) (l1 : List Int) (h1 : ∀ a ∈ l1, (Lit.int .i64 a).wf = true) : ∃ k, gumshoelaw01_BitsParts.f k l0 l1 = some true := by
  refine (parts_all (l0.take 200) (l1.take 200) (by rw [List.length_take]; omega) (by rw [List.length_take]; omega)).ex.imp fun k hk => ?_
  rw [gumshoelaw01_BitsParts.f, gumshoelaw01_shown.f, Option.bind_some, cut_tells, Option.bind_some, cut_tells, Option.bind_some]
  exact hk
end Go.Proofs.Ytcjbhdocmkpjcaa.Pure
