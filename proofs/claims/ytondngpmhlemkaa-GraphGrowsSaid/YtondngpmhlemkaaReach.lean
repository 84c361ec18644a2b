/- Which numbers edges lead to, from 0 on. No program in sight. -/
import Derived.Test.YtondngpmhlemkaaSets
namespace Go.Proofs.Ytondngpmhlemkaa.Reach
open Go.Proofs.Ytondngpmhlemkaa.Sets
set_option linter.unusedVariables false

inductive Leads (es : List (Int × Int)) : Int → Prop
  | zero : Leads es 0
  | step {a b : Int} : Leads es a → (a, b) ∈ es → Leads es b

def grow (es : List (Int × Int)) : Nat → List Int → List Int
  | 0, S => S
  | k + 1, S => match es.find? (fun e => S.contains e.1 && !S.contains e.2) with
    | none => S
    | some e => grow es k (S ++ [e.2])

theorem grow_sub {es : List (Int × Int)} : ∀ (k : Nat) {S : List Int} {x : Int}, x ∈ S → x ∈ grow es k S
  | 0, S, x, h => h
  | k + 1, S, x, h => by
    unfold grow
    split
    · exact h
    · exact grow_sub k (List.mem_append_left _ h)
theorem grow_sound {es : List (Int × Int)} : ∀ (k : Nat) {S : List Int}, (∀ x ∈ S, Leads es x) → ∀ x ∈ grow es k S, Leads es x
  | 0, S, h => h
  | k + 1, S, h => by
    unfold grow
    split
    · exact h
    · rename_i e he
      refine grow_sound k (fun x hx => ?_)
      rcases List.mem_append.1 hx with hx | hx
      · exact h x hx
      · obtain rfl := List.mem_singleton.1 hx
        have h1 := List.find?_some he
        simp only [Bool.and_eq_true, List.contains_iff_mem] at h1
        exact .step (h _ h1.1) (List.mem_of_find?_eq_some he)
theorem filter_lt {α : Type} {p q : α → Bool} (hpq : ∀ x, q x = true → p x = true) {x : α} : ∀ {l : List α}, x ∈ l → p x = true → q x = false → (l.filter q).length < (l.filter p).length
  | y :: l, hx, hp, hq => by
    have hle : ∀ l : List α, (l.filter q).length ≤ (l.filter p).length := by
      intro l
      induction l with
      | nil => simp
      | cons z l ih =>
        rw [List.filter_cons, List.filter_cons]
        by_cases h : q z = true
        · rw [if_pos h, if_pos (hpq z h)]; simpa using ih
        · rw [if_neg h]; split
          · rw [List.length_cons]; omega
          · exact ih
    rw [List.filter_cons, List.filter_cons]
    rcases List.mem_cons.1 hx with rfl | hx
    · rw [if_neg (by simp [hq]), if_pos hp]
      have := hle l
      rw [List.length_cons]; omega
    · have ih := filter_lt hpq hx hp hq
      by_cases h : q y = true
      · rw [if_pos h, if_pos (hpq y h)]; simpa using ih
      · rw [if_neg h]; split
        · rw [List.length_cons]; omega
        · exact ih
theorem grow_closed {es : List (Int × Int)} : ∀ (k : Nat) {S : List Int}, (es.filter (fun e => !S.contains e.2)).length ≤ k → ∀ e ∈ es, e.1 ∈ grow es k S → e.2 ∈ grow es k S
  | 0, S, h, e, he, h1 => by
    unfold grow
    have h0 : es.filter (fun e => !S.contains e.2) = [] := List.eq_nil_of_length_eq_zero (by omega)
    rw [List.filter_eq_nil_iff] at h0
    have h1 := h0 e he
    rwa [Bool.not_eq_true', Bool.not_eq_false, List.contains_iff_mem] at h1
  | k + 1, S, h, e, he, h1 => by
    unfold grow at h1 ⊢
    split at h1 <;> rename_i hf
    · rw [List.find?_eq_none] at hf
      have := hf e he
      simp only [Bool.and_eq_true, List.contains_iff_mem, Bool.not_eq_true', not_and, Bool.not_eq_false] at this
      exact this h1
    · rename_i e'
      refine grow_closed k ?_ e he h1
      have hs := List.find?_some hf
      have hm := List.mem_of_find?_eq_some hf
      simp only [Bool.and_eq_true] at hs
      have hlt := filter_lt (p := fun e : Int × Int => !S.contains e.2) (q := fun e : Int × Int => !(S ++ [e'.2]).contains e.2) (fun x hx => by
        simp only [Bool.not_eq_true', Bool.eq_false_iff] at hx ⊢
        intro hc
        exact hx (List.contains_iff_mem.2 (List.mem_append_left _ (List.contains_iff_mem.1 hc)))) hm hs.2 (by simp)
      omega

/-- The numbers that edges lead to. -/
def reachL (es : List (Int × Int)) : List Int := sset (grow es es.length [0])
theorem mem_reachL (es : List (Int × Int)) (x : Int) : x ∈ reachL es ↔ Leads es x := by
  unfold reachL
  rw [(sset_facts _).2]
  constructor
  · exact fun h => grow_sound _ (fun y hy => by obtain rfl := List.mem_singleton.1 hy; exact .zero) x h
  · intro h
    induction h with
    | zero => exact grow_sub _ (by simp)
    | step _ he ih => exact grow_closed _ (List.length_filter_le _ _) _ he ih
theorem reachL_rising (es : List (Int × Int)) : (reachL es).Pairwise (· < ·) := (sset_facts _).1
/-- Whatever has just these numbers is, sorted, each once, that list. -/
theorem sset_reach {es : List (Int × Int)} {S : List Int} (h : ∀ x, x ∈ S ↔ Leads es x) : sset S = reachL es :=
  rising_eq (sset_facts S).1 (reachL_rising es) (fun x => by rw [(sset_facts S).2, mem_reachL, h])
theorem rising_reach {es : List (Int × Int)} {S : List Int} (hs : S.Pairwise (· < ·)) (h : ∀ x, x ∈ S ↔ Leads es x) : S = reachL es :=
  rising_eq hs (reachL_rising es) (fun x => by rw [mem_reachL, h])

/-! ### going by a queue -/
def pushL (q : List Int) (x : Int) : List Int := if x ∈ q then q else q ++ [x]
theorem mem_pushL (q : List Int) (x y : Int) : y ∈ pushL q x ↔ y ∈ q ∨ y = x := by
  unfold pushL
  split
  · rename_i h
    constructor
    · exact .inl
    · rintro (h' | rfl) <;> assumption
  · simp
theorem nodup_pushL {q : List Int} (x : Int) (h : q.Nodup) : (pushL q x).Nodup := by
  unfold pushL
  split
  · exact h
  · rename_i hx
    rw [List.nodup_append]
    exact ⟨h, by simp, fun a ha b hb => by simp at hb; subst hb; rintro rfl; exact hx ha⟩
theorem length_pushL (q : List Int) (x : Int) : (pushL q x).length ≤ q.length + 1 := by unfold pushL; split <;> simp
/-- The queue behind all edges of n. -/
def pushes (n : Int) (q : List Int) (es : List (Int × Int)) : List Int := es.foldl (fun q e => if e.1 = n then pushL q e.2 else q) q
theorem pushes_snoc (n : Int) (q : List Int) (es : List (Int × Int)) (e : Int × Int) : pushes n q (es ++ [e]) = if e.1 = n then pushL (pushes n q es) e.2 else pushes n q es := by
  unfold pushes
  rw [List.foldl_append]
  rfl
theorem mem_pushes (n : Int) (es : List (Int × Int)) : ∀ (q : List Int) (y : Int), y ∈ pushes n q es ↔ y ∈ q ∨ (n, y) ∈ es := by
  induction es with
  | nil => intro q y; simp [pushes]
  | cons e es ih =>
    intro q y
    have h1 : pushes n q (e :: es) = pushes n (if e.1 = n then pushL q e.2 else q) es := rfl
    rw [h1, ih]
    obtain ⟨a, b⟩ := e
    simp only [List.mem_cons, Prod.mk.injEq]
    by_cases h : a = n
    · subst h
      simp only [if_pos, mem_pushL, true_and]
      constructor
      · rintro ((h | h) | h) <;> simp [h]
      · rintro (h | h | h) <;> simp [h]
    · rw [if_neg h]
      constructor
      · rintro (h' | h') <;> simp [h']
      · rintro (h' | ⟨h', _⟩ | h')
        · exact .inl h'
        · exact absurd h'.symm h
        · exact .inr h'
theorem nodup_pushes (n : Int) (es : List (Int × Int)) : ∀ (q : List Int), q.Nodup → (pushes n q es).Nodup := by
  induction es with
  | nil => intro q h; exact h
  | cons e es ih =>
    intro q h
    have h1 : pushes n q (e :: es) = pushes n (if e.1 = n then pushL q e.2 else q) es := rfl
    rw [h1]
    refine ih _ ?_
    split
    · exact nodup_pushL _ h
    · exact h

theorem nodup_le {α : Type} [DecidableEq α] : ∀ {a b : List α}, a.Nodup → (∀ x ∈ a, x ∈ b) → a.length ≤ b.length
  | [], b, _, _ => by simp
  | x :: a, b, hn, hs => by
    have hn' := List.nodup_cons.1 hn
    have hx : x ∈ b := hs x (by simp)
    have h1 := nodup_le (a := a) (b := b.erase x) hn'.2 (fun y hy => (List.mem_erase_of_ne (by rintro rfl; exact hn'.1 hy)).2 (hs y (by simp [hy])))
    have h2 := List.length_erase_of_mem hx
    have h3 : 0 < b.length := List.length_pos_of_mem hx
    simp; omega

/-- What is so between two rounds: met are the numbers that have been looked at, q those that wait. -/
structure BInv (es : List (Int × Int)) (met q : List Int) : Prop where
  sound : ∀ x, x ∈ met ∨ x ∈ q → Leads es x
  zero : 0 ∈ met ∨ 0 ∈ q
  closed : ∀ n ∈ met, ∀ b, (n, b) ∈ es → b ∈ met ∨ b ∈ q
  nm : met.Nodup
  nq : q.Nodup
  um : ∀ x ∈ met, x ∈ 0 :: es.map (·.2)
  uq : ∀ x ∈ q, x ∈ 0 :: es.map (·.2)
def left (es : List (Int × Int)) (met q : List Int) : Nat := (es.length + 1 - met.length) * (es.length + 2) + q.length
theorem BInv.start (es : List (Int × Int)) : BInv es [] [0] :=
  ⟨fun x h => by rcases h with h | h <;> simp at h; subst h; exact .zero, .inr (by simp), fun n h => by simp at h, by simp, by simp, by simp, by simp⟩
theorem BInv.lens {es : List (Int × Int)} {met q : List Int} (h : BInv es met q) : met.length ≤ es.length + 1 ∧ q.length ≤ es.length + 1 := by
  have h1 := nodup_le h.nm h.um
  have h2 := nodup_le h.nq h.uq
  simp at h1 h2
  exact ⟨h1, h2⟩
theorem BInv.skip {es : List (Int × Int)} {met q : List Int} {n : Int} (h : BInv es met (n :: q)) (hn : n ∈ met) : BInv es met q ∧ left es met q < left es met (n :: q) := by
  refine ⟨⟨fun x hx => h.sound x (hx.imp_right (List.mem_cons_of_mem _)), ?_, fun m hm b hb => ?_, h.nm, (List.nodup_cons.1 h.nq).2, h.um, fun x hx => h.uq x (List.mem_cons_of_mem _ hx)⟩, by simp [left]⟩
  · rcases h.zero with h0 | h0
    · exact .inl h0
    · rcases List.mem_cons.1 h0 with rfl | h0
      · exact .inl hn
      · exact .inr h0
  · rcases h.closed m hm b hb with h0 | h0
    · exact .inl h0
    · rcases List.mem_cons.1 h0 with rfl | h0
      · exact .inl hn
      · exact .inr h0
theorem BInv.take {es : List (Int × Int)} {met q : List Int} {n : Int} (h : BInv es met (n :: q)) (hn : n ∉ met) : BInv es (met ++ [n]) (pushes n q es) ∧ left es (met ++ [n]) (pushes n q es) < left es met (n :: q) := by
  have hb : BInv es (met ++ [n]) (pushes n q es) := by
    have hr : Leads es n := h.sound n (.inr (by simp))
    refine ⟨fun x hx => ?_, ?_, fun m hm b hb => ?_, ?_, nodup_pushes _ _ _ (List.nodup_cons.1 h.nq).2, fun x hx => ?_, fun x hx => ?_⟩
    · rcases hx with hx | hx
      · rcases List.mem_append.1 hx with hx | hx
        · exact h.sound x (.inl hx)
        · obtain rfl := List.mem_singleton.1 hx; exact hr
      · rcases (mem_pushes n es q x).1 hx with hx | hx
        · exact h.sound x (.inr (List.mem_cons_of_mem _ hx))
        · exact .step hr hx
    · rcases h.zero with h0 | h0
      · exact .inl (List.mem_append_left _ h0)
      · rcases List.mem_cons.1 h0 with rfl | h0
        · exact .inl (by simp)
        · exact .inr ((mem_pushes n es q 0).2 (.inl h0))
    · rcases List.mem_append.1 hm with hm | hm
      · rcases h.closed m hm b hb with h0 | h0
        · exact .inl (List.mem_append_left _ h0)
        · rcases List.mem_cons.1 h0 with rfl | h0
          · exact .inl (by simp)
          · exact .inr ((mem_pushes n es q b).2 (.inl h0))
      · obtain rfl := List.mem_singleton.1 hm
        exact .inr ((mem_pushes m es q b).2 (.inr hb))
    · rw [List.nodup_append]
      exact ⟨h.nm, by simp, fun a ha b hb => by simp at hb; subst hb; rintro rfl; exact hn ha⟩
    · rcases List.mem_append.1 hx with hx | hx
      · exact h.um x hx
      · obtain rfl := List.mem_singleton.1 hx; exact h.uq x (by simp)
    · rcases (mem_pushes n es q x).1 hx with hx | hx
      · exact h.uq x (List.mem_cons_of_mem _ hx)
      · exact List.mem_cons_of_mem _ (List.mem_map.2 ⟨_, hx, rfl⟩)
  refine ⟨hb, ?_⟩
  have h1 := hb.lens
  rw [List.length_append, List.length_singleton] at h1
  unfold left
  rw [List.length_append, List.length_singleton, List.length_cons]
  have h2 : es.length + 1 - met.length = (es.length + 1 - (met.length + 1)) + 1 := by omega
  rw [h2, Nat.add_one_mul]
  omega
theorem BInv.done {es : List (Int × Int)} {met : List Int} (h : BInv es met []) (x : Int) : x ∈ met ↔ Leads es x := by
  constructor
  · exact fun hx => h.sound x (.inl hx)
  · intro hr
    induction hr with
    | zero => simpa using h.zero
    | step _ he ih => simpa using h.closed _ ih _ he
end Go.Proofs.Ytondngpmhlemkaa.Reach
