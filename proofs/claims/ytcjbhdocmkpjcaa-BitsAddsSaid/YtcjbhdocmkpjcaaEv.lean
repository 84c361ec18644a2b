/- What holds for all large numbers of rounds; small facts on lists and whole numbers. No condition. -/
import Derived.Test.YtcjbhdocmkpjcaaWWords
namespace Go.Proofs.Ytcjbhdocmkpjcaa.Ev
open Go.RowKit Go.Proofs.YtcjbhdocmkpjcaaW.PrintWords

def Ev (p : Nat → Prop) : Prop := ∃ K, ∀ k, K ≤ k → p k
theorem Ev.all {p : Nat → Prop} (h : ∀ k, p k) : Ev p := ⟨0, fun k _ => h k⟩
theorem Ev.ex {p : Nat → Prop} (h : Ev p) : ∃ k, p k := by obtain ⟨K, h⟩ := h; exact ⟨K, h K (Nat.le_refl _)⟩
theorem Ev.and {p q : Nat → Prop} (h : Ev p) (g : Ev q) : Ev fun k => p k ∧ q k := by
  obtain ⟨K, h⟩ := h
  obtain ⟨M, g⟩ := g
  exact ⟨K + M, fun k hk => ⟨h k (by omega), g k (by omega)⟩⟩
theorem Ev.mono {p q : Nat → Prop} (h : Ev p) (f : ∀ k, p k → q k) : Ev q := by
  obtain ⟨K, h⟩ := h
  exact ⟨K, fun k hk => f k (h k hk)⟩
theorem Ev.succ {p q : Nat → Prop} (h : Ev p) (f : ∀ k, p k → q (k + 1)) : Ev q := by
  obtain ⟨K, h⟩ := h
  refine ⟨K + 1, fun k hk => ?_⟩
  obtain ⟨k, rfl⟩ : ∃ j, k = j + 1 := ⟨k - 1, by omega⟩
  exact f k (h k (by omega))
theorem Ev.step {q : Nat → Prop} (f : ∀ k, q (k + 1)) : Ev q := (Ev.all (p := fun _ => True) fun _ => trivial).succ fun k _ => f k

theorem rd_nat (l : List Int) (i : Nat) : rd l (i : Int) = l.getD i 0 := by unfold rd; rw [Int.toNat_natCast]
theorem drop_at {α : Type} (l : List α) (i : Nat) (d : α) (h : i < l.length) : l.drop i = l.getD i d :: l.drop (i + 1) := by
  rw [List.drop_eq_getElem_cons h, List.getD_eq_getElem?_getD, List.getElem?_eq_getElem h]
  rfl
theorem take_at {α : Type} (l : List α) (i : Nat) (d : α) (h : i < l.length) : l.take (i + 1) = l.take i ++ [l.getD i d] := by
  rw [List.take_succ_eq_append_getElem h, List.getD_eq_getElem?_getD, List.getElem?_eq_getElem h]
  rfl
theorem wrap_nat (i : Nat) (h : i + 1 ≤ 9223372036854775807) : wrap64 ((i : Int) + 1) = ((i + 1 : Nat) : Int) := by
  unfold wrap64
  omega
theorem wrap_id (x : Int) (h0 : -9223372036854775808 ≤ x) (h1 : x ≤ 9223372036854775807) : wrap64 x = x := by
  unfold wrap64
  omega
theorem drop_len {α : Type} (l : List α) (i : Nat) (h : l.length ≤ i) : l.drop i = [] := List.drop_eq_nil_of_le h
end Go.Proofs.Ytcjbhdocmkpjcaa.Ev
