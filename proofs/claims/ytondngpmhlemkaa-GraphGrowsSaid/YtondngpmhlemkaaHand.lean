/- An iterator that goes through another one and hands on what it is given: what is so between two rounds. No condition. -/
import Derived.Test.YtondngpmhlemkaaIter
namespace Go.Proofs.Ytondngpmhlemkaa.Iter
open Go.RowKit
set_option linter.unusedVariables false

/-- The outer party's word J at n, in blocks Oj; cells cs of one's own beside it. -/
def HandOn (B0 : Nat) (J : Nat → (Nat → Prop) → World → Prop) (cs : List (Nat × Value)) (n : Nat) (O1 : Nat → Prop) (W : World) : Prop :=
  ∃ Oj : Nat → Prop, J n Oj W ∧ (∀ i, Oj i ∨ i ∈ cs.map (·.1) → O1 i) ∧ (∀ i, Oj i → B0 ≤ i ∧ i ∉ cs.map (·.1)) ∧ ∀ c ∈ cs, W.cell? ⟨c.1, 0, none⟩ = some c.2
/-- The outer party has said 'no more'. -/
def HandX (Jx : Nat → (Nat → Prop) → World → Prop) (N : Nat) (c : Code) (O1 : Nat → Prop) (W : World) : Prop :=
  c = .ret ∧ ∃ (n : Nat) (Oj : Nat → Prop), n < N ∧ Jx n Oj W ∧ ∀ i, Oj i → O1 i

variable {B0 : Nat} {J Jx : Nat → (Nat → Prop) → World → Prop} {cs : List (Nat × Value)} {n N : Nat} {O1 : Nat → Prop} {W W' : World}
theorem HandOn.abide (hJ : ∀ k, Abide B0 (J k)) (cs : List (Nat × Value)) (n : Nat) : Abide B0 (HandOn B0 J cs n) := by
  rintro O A B T ⟨Oj, h1, h2, h3, h4⟩ hc hT
  refine ⟨Oj, hJ n Oj A B T h1 hc (fun i hi => ⟨(hT i hi).1, fun h => (hT i hi).2 (h2 i (.inl h))⟩), h2, h3, fun c hcs => hc.cell (h4 c hcs) (fun ht => (hT _ ht).2 (h2 _ (.inr (List.mem_map_of_mem hcs))))⟩
theorem HandX.abide (hJx : ∀ k, Abide B0 (Jx k)) (N : Nat) (c : Code) : Abide B0 (HandX Jx N c) := by
  rintro O A B T ⟨e, n, Oj, h1, h2, h3⟩ hc hT
  exact ⟨e, n, Oj, h1, hJx n Oj A B T h2 hc (fun i hi => ⟨(hT i hi).1, fun h => (hT i hi).2 (h3 i h)⟩), h3⟩
theorem HandOn.cell (h : HandOn B0 J cs n O1 W) {g : Nat} {v : Value} (hm : (g, v) ∈ cs) : W.cell? ⟨g, 0, none⟩ = some v := by
  obtain ⟨Oj, _, _, _, h4⟩ := h
  exact h4 _ hm
theorem HandOn.start (hJ : J n O1 W) (hO : ∀ i, O1 i → B0 ≤ i ∧ i ∉ cs.map (·.1)) (hcs : ∀ c ∈ cs, W.cell? ⟨c.1, 0, none⟩ = some c.2) : HandOn B0 J cs n (fun i => O1 i ∨ i ∈ cs.map (·.1)) W :=
  ⟨O1, hJ, fun _ h => h, hO, hcs⟩
theorem HandOn.more (h : HandOn B0 J cs n O1 W) {O2 : Nat → Prop} (hO : ∀ i, O1 i → O2 i) : HandOn B0 J cs n O2 W := by
  obtain ⟨Oj, h1, h2, h3, h4⟩ := h
  exact ⟨Oj, h1, fun i hi => hO i (h2 i hi), h3, h4⟩
theorem HandOn.alloc (hJ : ∀ k, Abide B0 (J k)) (h : HandOn B0 J cs n O1 W) (o : Obj) : HandOn B0 J cs n (fun i => O1 i ∨ i = W.heap.size) (W.alloc o) :=
  (HandOn.abide hJ cs n O1 W _ (fun _ => False) h ((Chg.refl _ _).alloc o) (fun _ h => h.elim)).more (fun _ h => .inl h)
theorem grow_alloc {O : Nat → Prop} (hO : ∀ i, O i → i < W.heap.size) (o : Obj) : Grow O W (fun i => O i ∨ i = W.heap.size) (W.alloc o) := fun i hi => by
  rw [World.size_alloc]
  rcases hi with hi | rfl
  · have := hO i hi
    exact ⟨.inl hi, by omega⟩
  · exact ⟨.inr (Nat.le_refl _), by omega⟩
/-- The outer yield is called: its word, in its own blocks. -/
theorem HandOn.call {P : Program} {y : Nat} {args : Array Value} (h : HandOn B0 J cs n O1 W) (hOb : ∀ i, O1 i → i < W.heap.size)
    (hY : ∀ Oj, J n Oj W → (∀ i, Oj i → i < W.heap.size) → YieldAt Fence.wide 0 P y args W fun e W' =>
      (e = .returned (.bool true) ∧ (∃ O2 : Nat → Prop, Grow Oj W O2 W' ∧ J (n + 1) O2 W') ∧ Chg Oj W W') ∨ (e = .returned (.bool false) ∧ (∃ O2 : Nat → Prop, Grow Oj W O2 W' ∧ Jx n O2 W') ∧ Chg Oj W W')) (hN : n < N) (hsz : B0 ≤ W.heap.size) :
    YieldAt Fence.wide 0 P y args W fun e W' =>
      (e = .returned (.bool true) ∧ (Chg O1 W W' ∧ ∃ O2 : Nat → Prop, Grow O1 W O2 W' ∧ HandOn B0 J cs (n + 1) O2 W')) ∨
      (e = .returned (.bool false) ∧ (Chg O1 W W' ∧ ∃ O2 : Nat → Prop, Grow O1 W O2 W' ∧ HandX Jx N .ret O2 W')) := by
  obtain ⟨Oj, h1, h2, h3, h4⟩ := h
  have hj : ∀ i, Oj i → i < W.heap.size := fun i hi => hOb i (h2 i (.inl hi))
  refine (hY Oj h1 hj).mono ?_
  rintro e W' (⟨rfl, ⟨O2, hg, hj2⟩, hc⟩ | ⟨rfl, ⟨O2, hg, hj2⟩, hc⟩)
  · refine .inl ⟨rfl, hc.mono (fun i _ hi => h2 i (.inl hi)), fun i => O2 i ∨ i ∈ cs.map (·.1), ?_, O2, hj2, fun _ h => h, ?_, fun c hcs => hc.cell (h4 c hcs) (fun ho => (h3 _ ho).2 (List.mem_map_of_mem hcs))⟩
    · intro i hi
      rcases hi with hi | hi
      · exact ⟨(hg i hi).1.imp_left (fun h => h2 i (.inl h)), (hg i hi).2⟩
      · exact ⟨.inl (h2 i (.inr hi)), Nat.lt_of_lt_of_le (hOb i (h2 i (.inr hi))) hc.size⟩
    · intro i hi
      rcases (hg i hi).1 with h | h
      · exact h3 i h
      · exact ⟨by omega, fun hm => by have := hOb i (h2 i (.inr hm)); omega⟩
  · exact .inr ⟨rfl, hc.mono (fun i _ hi => h2 i (.inl hi)), O2, fun i hi => ⟨(hg i hi).1.imp_left (fun h => h2 i (.inl h)), (hg i hi).2⟩, rfl, n, O2, hN, hj2, fun _ h => h⟩
/-- At the end. -/
theorem HandOn.out (h : HandOn B0 J cs n O1 W) : ∃ Oj, J n Oj W ∧ ∀ i, Oj i → O1 i := by
  obtain ⟨Oj, h1, h2, _, _⟩ := h
  exact ⟨Oj, h1, fun i hi => h2 i (.inl hi)⟩
end Go.Proofs.Ytondngpmhlemkaa.Iter
