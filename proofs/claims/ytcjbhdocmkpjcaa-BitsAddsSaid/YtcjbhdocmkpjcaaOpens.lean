/- What a row reads of an argument, as a value of a kind: over whatever program. -/
import Derived.Test.YtcjbhdocmkpjcaaWWords
import Derived.Deep.Slices
import Derived.ChangeSlices
import Derived.DataReads
namespace Go.Proofs.Ytcjbhdocmkpjcaa.Opens
open Go.RowKit Go.Deep Go.ChangeShapes Go.WideShapes Go.Proofs.YtcjbhdocmkpjcaaW.PrintWords
set_option linter.unusedVariables false

def OpensTo {α : Type} (P : Program) (t : TypeId) (K : World → α → List Value → Prop) (Wf : α → Prop) : Prop :=
  ∀ (H : Type) (enc : TypeId × Value → H) (w : World) (base : Nat) (sp : Nat → Bool) (held : Bool) (fuel : Nat) (cs : List Value) (x : DataW H × List MemPlace), DataW.trod enc P w base sp held fuel t cs = some x → ∃ a, K w a cs ∧ Wf a

variable {P : Program} {t e : TypeId}

theorem opens_int {k : IntKind} (ht : P.underlying t = some (.int k)) : OpensTo P t (Kd.int k).K (fun n => (Lit.int k n).wf = true) := by
  intro H enc w base sp held fuel cs x h
  cases fuel with
  | zero => simp [DataW.trod] at h
  | succ fuel =>
    unfold DataW.trod at h
    rw [ht] at h
    split at h <;> first | (rename_i heq; cases heq; done) | (cases h; done) | skip
    rename_i heq
    injection heq with heq
    injection heq with heq
    subst heq
    split at h
    · rename_i hk
      obtain ⟨rfl, hk⟩ := hk
      exact ⟨_, rfl, hk⟩
    · exact absurd h (by simp)
theorem opens_bool (ht : P.underlying t = some .bool) : OpensTo P t Kd.bool.K (fun _ => True) := by
  intro H enc w base sp held fuel cs x h
  cases fuel with
  | zero => simp [DataW.trod] at h
  | succ fuel =>
    unfold DataW.trod at h
    rw [ht] at h
    split at h <;> first | (rename_i heq; cases heq; done) | (cases h; done) | skip
    exact ⟨_, rfl, trivial⟩
theorem opens_string (ht : P.underlying t = some .string) : OpensTo P t Kd.string.K (fun s => s.size ≤ maxLen) := by
  intro H enc w base sp held fuel cs x h
  cases fuel with
  | zero => simp [DataW.trod] at h
  | succ fuel =>
    unfold DataW.trod at h
    rw [ht] at h
    split at h <;> first | (rename_i heq; cases heq; done) | (cases h; done) | skip
    split at h
    · rename_i hk
      exact ⟨_, rfl, hk⟩
    · exact absurd h (by simp)

theorem opens_slice {α : Type} [Inhabited α] {d : Kd α} {Wf : α → Prop} (ht : P.underlying t = some (.slice e)) (hc : P.cellsOf e = d.sz) (he : OpensTo P e d.K Wf) : OpensTo P t (Kd.slice e d).K (fun l => ∀ a ∈ l, Wf a) := by
  intro H enc w base sp held fuel cs x h
  rcases open_slice ht h with ⟨rfl, _⟩ | ⟨a, len, cap, m, n, D, Pl, rfl, hb, hl, hcap, hm, _, hel⟩
  · exact ⟨[], ⟨none, 0, rfl, Nat.le_refl _, rfl, by simp, fun h => by simp at h⟩, by simp⟩
  · have hmm : len ≤ m := by rw [hm]; split <;> omega
    have hx : ∀ i, i < len → ∃ (y : α) (cs' : List Value), w.cells? base (a.add (i * d.sz)) d.sz = some cs' ∧ d.K w y cs' ∧ Wf y := by
      intro i hi
      obtain ⟨cs', h1, h2⟩ := hel i (by omega)
      rw [hc] at h1
      obtain ⟨y, h3, h4⟩ := he H enc w base sp held n cs' _ h2
      exact ⟨y, cs', h1, h3, h4⟩
    let f : Nat → α := fun i => if h : i < len then Classical.choose (hx i h) else default
    have hf : ∀ i, i < len → ∃ cs', w.cells? base (a.add (i * d.sz)) d.sz = some cs' ∧ d.K w (f i) cs' ∧ Wf (f i) := by
      intro i hi
      have : f i = Classical.choose (hx i hi) := dif_pos hi
      rw [this]
      exact Classical.choose_spec (hx i hi)
    have hlen : ((List.range len).map f).length = len := by simp
    refine ⟨(List.range len).map f, ⟨some a, cap, by rw [hlen], by rw [hlen]; exact hl, ?_⟩, ?_⟩
    · refine ⟨rfl, by rw [hlen]; simp only [maxLen] at hcap; omega, fun _ => ⟨a, rfl, fun j p hj => ?_⟩⟩
      have hj' : j < len := by
        have := (List.getElem?_eq_some_iff.1 hj).1
        omega
      have hp : p = f j := by simp [hj'] at hj; exact hj.symm
      subst hp
      obtain ⟨cs', h1, h2, _⟩ := hf j hj'
      refine ⟨cs', d.K_len h2, h2, fun i u hu => ?_⟩
      obtain ⟨_, h3, h4⟩ := World.cells?_some h1
      have hi : i < d.sz := by have := (List.getElem?_eq_some_iff.1 hu).1; have := d.K_len h2; omega
      have h5 := h4 i hi
      rw [show (a.add (j * d.sz + i)) = (a.add (j * d.sz)).add i from ?_, h5, hu]
      unfold Addr.add
      by_cases e1 : j * d.sz = 0 <;> by_cases e2 : i = 0 <;> simp [e1, e2, Nat.add_assoc]
    · intro y hy
      rw [List.mem_map] at hy
      obtain ⟨i, hi, rfl⟩ := hy
      obtain ⟨_, _, _, h⟩ := hf i (List.mem_range.1 hi)
      exact h

/-- A slice's value. -/
theorem slice_of_K {α : Type} {d : Kd α} {w : World} {l : List α} {v : Value} {A : Option Addr} {n c : Nat} (hv : v = .slice A n c) (h : (Kd.slice e d).K w l v.cells.toList) : n = l.length ∧ l.length ≤ c ∧ d.C w A l.length l := by
  subst hv
  obtain ⟨A', c', h1, h2, h3⟩ := h
  simp [Value.cells] at h1
  obtain ⟨rfl, rfl, rfl⟩ := h1
  exact ⟨rfl, h2, h3⟩

end Go.Proofs.Ytcjbhdocmkpjcaa.Opens
