/- Plain facts on sorted lists: what sorting and compacting makes of numbers; a rising list is known by what is in it. -/
import Derived.Lib.SlicesCompact
import Derived.Lib.RowBridge
namespace Go.Proofs.Ytcjbhdocmkpjcaa.Sets
open Go.Lib
set_option linter.unusedVariables false

/-- Numbers, rising, each once. -/
def sset (xs : List Int) : List Int := Lib.compact (xs.mergeSort fun x y => decide (x ≤ y))

theorem getBang (zs : List Int) (m : Nat) (h : m < zs.length) : zs.toArray[m]! = zs[m] := by
  rw [getElem!_pos zs.toArray m (by simpa using h)]
  simp

theorem compactUpTo_sorted (zs : List Int) (hs : zs.Pairwise (· ≤ ·)) : ∀ m, m ≤ zs.length →
    (compactUpTo zs.toArray m).Pairwise (· < ·) ∧ (∀ x, x ∈ compactUpTo zs.toArray m ↔ x ∈ zs.take m) ∧ ∀ x ∈ compactUpTo zs.toArray m, ∀ (h : 0 < m) (h2 : m - 1 < zs.length), x ≤ zs[m - 1]
  | 0, _ => by
    have h0 : compactUpTo zs.toArray 0 = [] := by
      cases hc : compactUpTo zs.toArray 0 with
      | nil => rfl
      | cons a l => simp [compactUpTo] at hc
    rw [h0]
    simp
  | m + 1, hm => by
    obtain ⟨h1, h2, h3⟩ := compactUpTo_sorted zs hs m (by omega)
    have hlt : m < zs.length := by omega
    rw [compactUpTo_succ, getBang zs m hlt]
    have htk : zs.take (m + 1) = zs.take m ++ [zs[m]] := by rw [List.take_succ_eq_append_getElem hlt]
    have hle : ∀ x ∈ compactUpTo zs.toArray m, x ≤ zs[m] := by
      intro x hx
      have hx' := (h2 x).1 hx
      obtain ⟨i, hi, rfl⟩ := List.mem_iff_getElem.1 hx'
      rw [List.length_take] at hi
      rw [List.getElem_take]
      exact (List.pairwise_iff_getElem.1 hs) i m (by omega) hlt (by omega)
    by_cases hk : keeps zs.toArray m = true
    · rw [if_pos hk]
      have hstrict : ∀ x ∈ compactUpTo zs.toArray m, x < zs[m] := by
        intro x hx
        rcases Nat.eq_zero_or_pos m with h0 | h0
        · subst h0
          have := (h2 x).1 hx
          simp at this
        · have ha := h3 x hx h0 (by omega)
          have hne : zs[m] ≠ zs[m - 1] := by
            intro e
            have := keeps_neg (d := zs.toArray) h0 (by rw [getBang zs m hlt, getBang zs (m - 1) (by omega)]; exact e)
            rw [this] at hk
            cases hk
          have hb := (List.pairwise_iff_getElem.1 hs) (m - 1) m (by omega) hlt (by omega)
          omega
      refine ⟨?_, ?_, ?_⟩
      · rw [List.pairwise_append]
        exact ⟨h1, by simp, fun a ha b hb => by simp at hb; subst hb; exact hstrict a ha⟩
      · intro x
        rw [htk, List.mem_append, List.mem_append, h2]
      · intro x hx _ _
        simp only [Nat.add_sub_cancel]
        rw [List.mem_append] at hx
        rcases hx with hx | hx
        · exact hle x hx
        · simp at hx; omega
    · rw [if_neg hk, List.append_nil]
      have h0 : 0 < m := by
        rcases Nat.eq_zero_or_pos m with h0 | h0
        · subst h0
          exact absurd (keeps_lt_one zs.toArray 0 (by omega)) hk
        · exact h0
      have he : zs[m] = zs[m - 1] := by
        by_cases e : zs[m] = zs[m - 1]
        · exact e
        · exact absurd (keeps_pos (d := zs.toArray) (m := m) (by rw [getBang zs m hlt, getBang zs (m - 1) (by omega)]; exact e)) hk
      refine ⟨h1, ?_, ?_⟩
      · intro x
        rw [htk, List.mem_append, h2]
        constructor
        · exact .inl
        · rintro (h | h)
          · exact h
          · simp at h
            rw [h, he]
            exact List.mem_iff_getElem.2 ⟨m - 1, by rw [List.length_take]; omega, by rw [List.getElem_take]⟩
      · intro x hx _ _
        simp only [Nat.add_sub_cancel]
        exact hle x hx

theorem sset_facts (xs : List Int) : (sset xs).Pairwise (· < ·) ∧ ∀ x, x ∈ sset xs ↔ x ∈ xs := by
  have hs : (xs.mergeSort fun x y => decide (x ≤ y)).Pairwise (· ≤ ·) := by
    have := List.pairwise_mergeSort (le := fun x y : Int => decide (x ≤ y)) (fun a b c h1 h2 => by simp at *; omega) (fun a b => by simp; omega) xs
    exact this.imp (fun h => by simpa using h)
  obtain ⟨h1, h2, _⟩ := compactUpTo_sorted _ hs _ (Nat.le_refl _)
  refine ⟨h1, fun x => ?_⟩
  have := h2 x
  rw [List.take_length] at this
  rw [show sset xs = compactUpTo (xs.mergeSort fun x y => decide (x ≤ y)).toArray (xs.mergeSort fun x y => decide (x ≤ y)).length from rfl, this]
  exact (List.mergeSort_perm xs _).mem_iff

/-- A rising list is known by what is in it. -/
theorem rising_eq : ∀ {a b : List Int}, a.Pairwise (· < ·) → b.Pairwise (· < ·) → (∀ x, x ∈ a ↔ x ∈ b) → a = b
  | [], [], _, _, _ => rfl
  | [], y :: b, _, _, h => absurd ((h y).2 (by simp)) (by simp)
  | x :: a, [], _, _, h => absurd ((h x).1 (by simp)) (by simp)
  | x :: a, y :: b, ha, hb, h => by
    have ha' := List.pairwise_cons.1 ha
    have hb' := List.pairwise_cons.1 hb
    have hxy : x = y := by
      have h1 := (h x).1 (by simp)
      have h2 := (h y).2 (by simp)
      rw [List.mem_cons] at h1 h2
      rcases h1 with e | h1
      · exact e
      · rcases h2 with e | h2
        · exact e.symm
        · have := hb'.1 x h1
          have := ha'.1 y h2
          omega
    subst hxy
    congr 1
    refine rising_eq ha'.2 hb'.2 (fun z => ?_)
    constructor
    · intro hz
      have := (h z).1 (by simp [hz])
      rw [List.mem_cons] at this
      rcases this with e | h1
      · subst e; have := ha'.1 z hz; omega
      · exact h1
    · intro hz
      have := (h z).2 (by simp [hz])
      rw [List.mem_cons] at this
      rcases this with e | h1
      · subst e; have := hb'.1 z hz; omega
      · exact h1

end Go.Proofs.Ytcjbhdocmkpjcaa.Sets
