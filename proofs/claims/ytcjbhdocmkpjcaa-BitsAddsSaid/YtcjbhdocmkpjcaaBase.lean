/- Plain facts on lists of whole numbers: which lists are sets. No program in sight. -/
namespace Go.Proofs.Ytcjbhdocmkpjcaa.Base

/-- A set: numbers of 0 to 2^30, rising. -/
def SetOk (l : List Int) : Prop := (∀ n ∈ l, 0 ≤ n ∧ n ≤ 1073741824) ∧ l.Pairwise (· < ·)
instance (l : List Int) : Decidable (SetOk l) := inferInstanceAs (Decidable (_ ∧ _))
def setB (l : List Int) : Bool := decide (SetOk l)

def okAt (l : List Int) (j : Nat) : Prop := 0 ≤ l.getD j 0 ∧ l.getD j 0 ≤ 1073741824 ∧ (0 < j → l.getD (j - 1) 0 < l.getD j 0)
instance (l : List Int) (j : Nat) : Decidable (okAt l j) := inferInstanceAs (Decidable (_ ∧ _ ∧ _))

theorem setOk_iff (l : List Int) : SetOk l ↔ ∀ j, j < l.length → okAt l j := by
  constructor
  · rintro ⟨h1, h2⟩ j hj
    have hm : l.getD j 0 ∈ l := by rw [List.getD_eq_getElem?_getD, List.getElem?_eq_getElem hj]; exact List.getElem_mem hj
    refine ⟨(h1 _ hm).1, (h1 _ hm).2, fun h0 => ?_⟩
    rw [List.getD_eq_getElem?_getD, List.getD_eq_getElem?_getD, List.getElem?_eq_getElem hj, List.getElem?_eq_getElem (show j - 1 < l.length by omega)]
    exact (List.pairwise_iff_getElem.1 h2) (j - 1) j (by omega) hj (by omega)
  · intro h
    have hg : ∀ j (hj : j < l.length), l.getD j 0 = l[j] := fun j hj => by rw [List.getD_eq_getElem?_getD, List.getElem?_eq_getElem hj]; rfl
    refine ⟨fun n hn => ?_, ?_⟩
    · obtain ⟨j, hj, rfl⟩ := List.mem_iff_getElem.1 hn
      have := h j hj
      rw [← hg j hj]
      exact ⟨this.1, this.2.1⟩
    · rw [List.pairwise_iff_getElem]
      intro i j hi hj hij
      induction j with
      | zero => omega
      | succ j ih =>
        have h1 := (h (j + 1) hj).2.2 (by omega)
        rw [hg _ hj, Nat.add_sub_cancel, hg j (by omega)] at h1
        rcases Nat.lt_or_ge i j with hlt | hge
        · exact Int.lt_trans (ih (by omega) hlt) h1
        · have : i = j := by omega
          subst this
          exact h1

end Go.Proofs.Ytcjbhdocmkpjcaa.Base
