/- A range over a function: one law for the caller, one word for an iterator's contract. Each party owns blocks: the caller those of O (which may grow by new ones), the iterator others; what neither owns stays as it is. -/
import Derived.RangeFuncNested
import Derived.RangeFuncBound
import Derived.RangeFuncCalls
import Derived.RangeFuncLeaves
import Derived.Below
import Derived.Deep.Draws
namespace Go.Proofs.Ytcjbhdocmkpjcaa.Iter
open Go.RowKit
set_option linter.unusedVariables false

/-- From W to W' no old block has turned but those of S. -/
structure Chg (S : Nat → Prop) (W W' : World) : Prop where
  os : W'.os = W.os
  tape : W'.tape = W.tape
  output : W'.output = W.output
  size : W.heap.size ≤ W'.heap.size
  block : ∀ k, k < W.heap.size → ¬ S k → W'.heap[k]? = W.heap[k]?

theorem Chg.refl (S : Nat → Prop) (W : World) : Chg S W W := ⟨rfl, rfl, rfl, Nat.le_refl _, fun _ _ _ => rfl⟩
theorem Chg.mono {S T : Nat → Prop} {W W' : World} (h : Chg S W W') (hs : ∀ k, k < W.heap.size → S k → T k) : Chg T W W' :=
  ⟨h.os, h.tape, h.output, h.size, fun k hk hn => h.block k hk (fun hS => hn (hs k hk hS))⟩
theorem Chg.trans {S T : Nat → Prop} {A B C : World} (h : Chg S A B) (k : Chg T B C) (hT : ∀ i, T i → S i ∨ A.heap.size ≤ i) : Chg S A C :=
  ⟨k.os.trans h.os, k.tape.trans h.tape, k.output.trans h.output, Nat.le_trans h.size k.size, fun i hi hn =>
    (k.block i (Nat.lt_of_lt_of_le hi h.size) (fun hTi => (hT i hTi).elim hn (fun h' => by omega))).trans (h.block i hi hn)⟩
theorem Chg.then_ {S : Nat → Prop} {A B C : World} (h : Chg S A B) (k : Chg S B C) : Chg S A C := h.trans k (fun _ hi => .inl hi)
theorem Chg.alloc {S : Nat → Prop} {A B : World} (h : Chg S A B) (o : Obj) : Chg S A (B.alloc o) :=
  h.then_ ⟨rfl, rfl, rfl, by simp, fun k hk _ => Below.heap_alloc _ _ _ hk⟩
theorem Chg.drew {S : Nat → Prop} {A B : World} (h : Chg S A B) : Chg S A B.drew := ⟨h.os, h.tape, h.output, h.size, h.block⟩
theorem Chg.drewN {S : Nat → Prop} {A B : World} (h : Chg S A B) (n : Nat) : Chg S A (B.drewN n) := ⟨h.os, h.tape, h.output, h.size, h.block⟩
theorem Chg.setCell {S : Nat → Prop} {A B : World} (h : Chg S A B) {p : Addr} (hp : S p.block ∨ A.heap.size ≤ p.block) (u : Value) : Chg S A (B.setCell p u) :=
  h.trans (T := fun k => k = p.block) ⟨rfl, rfl, rfl, by simp [World.setCell], fun k _ hn => Below.heap_setCell _ _ _ _ hn⟩ (fun k hk => by rw [hk]; exact hp)
theorem Chg.putObj {S : Nat → Prop} {A B : World} (h : Chg S A B) {l : Nat} (hl : S l ∨ A.heap.size ≤ l) (o : Obj) : Chg S A (B.putObj l o) :=
  h.trans (T := fun k => k = l) ⟨rfl, rfl, rfl, by simp, fun k _ hn => World.putObj_heap_other hn⟩ (fun k hk => by rw [hk]; exact hl)
theorem Chg.put1 (A : World) (l : Nat) (o : Obj) : Chg (fun i => i = l) A (A.putObj l o) := (Chg.refl (fun i => i = l) A).putObj (.inl rfl) o
theorem Chg.grown {S : Nat → Prop} {A B C : World} {row : Option Nat} (h : Chg S A B) (hg : B.grownBy C row) (hr : ∀ k, row = some k → S k ∨ A.heap.size ≤ k) : Chg S A C :=
  h.trans (T := fun k => row = some k) ⟨hg.os, hg.tape, hg.output, hg.size, fun k hk hn => hg.block k hk (fun e => hn e.symm)⟩ hr
theorem Chg.of_grown {A B : World} {row : Option Nat} (hg : A.grownBy B row) : Chg (fun k => row = some k) A B := ⟨hg.os, hg.tape, hg.output, hg.size, fun k hk hn => hg.block k hk (fun e => hn e.symm)⟩
theorem Chg.then_below {S : Nat → Prop} {A B C : World} (h : Chg S A B) (hb : Below B.heap.size B C) : Chg S A C :=
  h.trans (T := fun _ => False) ⟨hb.os, hb.tape, hb.output, hb.size, fun k hk _ => hb.block k hk⟩ (fun _ hk => hk.elim)
theorem Chg.of_below {A B : World} (hb : Below A.heap.size A B) (S : Nat → Prop) : Chg S A B := ⟨hb.os, hb.tape, hb.output, hb.size, fun k hk _ => hb.block k hk⟩
theorem Chg.below {A B : World} {S : Nat → Prop} (h : Chg S A B) {n : Nat} (hn : n ≤ A.heap.size) (hS : ∀ k, S k → n ≤ k) : Below n A B :=
  ⟨h.os, h.tape, h.output, h.size, fun k hk => h.block k (by omega) (fun hs => by have := hS k hs; omega)⟩
theorem Chg.blk {S : Nat → Prop} {A B : World} (h : Chg S A B) {k : Nat} {o : Obj} (hk : A.heap[k]? = some o) (hn : ¬ S k) : B.heap[k]? = some o :=
  (h.block k (Array.getElem?_eq_some_iff.1 hk).1 hn).trans hk
theorem Chg.cell {S : Nat → Prop} {A B : World} (h : Chg S A B) {a : Addr} {v : Value} (hc : A.cell? a = some v) (hn : ¬ S a.block) : B.cell? a = some v := by
  have := h.block a.block (World.block_lt_of_cell? A a hc) hn
  simpa [World.cell?, this] using hc

/-- What holds of a world abides whatever turns no block of O and none below B0. -/
def Abide (B0 : Nat) (J : (Nat → Prop) → World → Prop) : Prop :=
  ∀ (O : Nat → Prop) (A B : World) (T : Nat → Prop), J O A → Chg T A B → (∀ i, T i → B0 ≤ i ∧ ¬ O i) → J O B

/-- AN ITERATOR's CONTRACT: it gives xs, one behind the other, to whatever body keeps to its own blocks. -/
def IterOK {α : Type} (P : Program) (gf : Nat) (lb : Array Value) (encs : α → Array Value) (xs : List α) (B0 : Nat) (Oi : Nat → Prop) (w : World) : Prop :=
  ∀ (l : Nat) (J : Nat → (Nat → Prop) → World → Prop) (Jx : Nat → World → Prop) (O : Nat → Prop) (W : World),
    Chg (fun i => O i ∧ w.heap.size ≤ i) w W → (∀ i, O i → ¬ Oi i ∧ B0 ≤ i) → (∀ k, Abide B0 (J k)) →
    (∀ k (x : α) (O1 : Nat → Prop) (W1 : World), xs[k]? = some x → J k O1 W1 → YieldAt Fence.wide 0 P l (encs x) W1 fun e W' =>
      (e = .returned (.bool true) ∧ (∃ O2 : Nat → Prop, (∀ i, O2 i → O1 i ∨ W1.heap.size ≤ i) ∧ J (k + 1) O2 W') ∧ Chg O1 W1 W') ∨ (e = .returned (.bool false) ∧ Jx k W')) →
    J 0 O W →
    Calls P gf (#[.func (.yield l) #[] #[]] ++ lb) W fun e W' => (∃ v, e = .returned v) ∧ ((∃ O2, J xs.length O2 W') ∨ (∃ k, k < xs.length ∧ Jx k W'))

/-- How the body of a round may be left. -/
def rPost (I : Nat → (Nat → Prop) → World → Prop) (Ix : Code → Nat → World → Prop) (k : Nat) (O : Nat → Prop) (W : World) : Exit → Act → World → Prop
  | .normal, _, W' => Chg O W W' ∧ ∃ O2 : Nat → Prop, (∀ i, O2 i → O i ∨ W.heap.size ≤ i) ∧ I (k + 1) O2 W'
  | .ret, _, W' => Chg O W W' ∧ Ix .ret k W'
  | .exit id, _, W' => Chg O W W' ∧ Ix (.exit id) k W'
  | .goto t, _, W' => Chg O W W' ∧ Ix (.goto t) k W'
  | .panic _, _, _ => False
  | .outgrown, _, _ => False

variable {P : Program}

/-- THE CALLER's LAW, outside of any round. -/
theorem wp_rangeFunc_own {α : Type} {g : Operand} {ps : Array Tmp} {assign body : Code} {Q : Exit → Act → World → Prop} {a : Act} {w : World} {gf : Nat} {lb : Array Value}
    (hg : a.eval g = .func (.func gf) #[] lb) (eg : ∀ args w, (callFunc gf args).run P w = .ok (.enter gf args) w)
    {encs : α → Array Value} {xs : List α} {B0 : Nat} {Oi : Nat → Prop} {w0 : World} (hit : IterOK P gf lb encs xs B0 Oi w0) (hps : ∀ x, (encs x).size = ps.size)
    (O : Nat → Prop) (hB0 : B0 ≤ w.heap.size) (hO : ∀ i, O i → B0 ≤ i ∧ i < w.heap.size ∧ ¬ Oi i) (hOi : ∀ i, Oi i → i < w.heap.size) (hw0 : Chg (fun i => O i ∧ w0.heap.size ≤ i) w0 w)
    (I : Nat → (Nat → Prop) → World → Prop) (Ix : Code → Nat → World → Prop) (Ax : α → (Nat → Prop) → Act → World → Prop)
    (hI : ∀ k, Abide B0 (I k)) (hAx : ∀ x a', Abide B0 (fun O W => Ax x O a' W)) (hIx : ∀ c k (A : World) (l : Nat) (o : Obj), Ix c k A → w.heap.size ≤ l → l < A.heap.size → Ix c k (A.putObj l o))
    (h0 : I 0 O w)
    (hassign : ∀ (l k : Nat) (x : α) (O1 : Nat → Prop) (W : World) (K : Act → World → Prop), xs[k]? = some x → I k O1 W →
      (∀ a' W' (O2 : Nat → Prop), Chg O1 W W' → (∀ i, O2 i → O1 i ∨ W.heap.size ≤ i) → I k O2 W' → Ax x O2 a' W' → K a' W') →
      assign.wpIn (Fence.wide.inRound l) 0 P (Exit.then K (fun _ _ _ => False)) { tmps := (ps.zip (encs x)).foldl (fun t (p, v) => t.setIfInBounds p v) a.tmps, defers := [] } W)
    (hbody : ∀ (l k : Nat) (x : α) (O1 : Nat → Prop) (a' : Act) (W : World), xs[k]? = some x → w.heap.size ≤ l → ¬ O1 l → (∃ r, W.heap[l]? = some (.loop r)) → I k O1 W → Ax x O1 a' W → body.wpIn (Fence.wide.inRound l) 0 P (rPost I Ix k O1 W) a' W)
    (hdone : ∀ (D : Nat) (O1 : Nat → Prop) (W : World), w.heap.size ≤ D → ¬ O1 D → I xs.length O1 W → W.heap[D]? = some (.deferred (some [])) → Q .normal { a with defers := { target := .collected D, args := #[] } :: a.defers } W)
    (hstop : ∀ (D k : Nat) (c : Code) (W : World), w.heap.size ≤ D → k < xs.length → Ix c k W → W.heap[D]? = some (.deferred (some [])) → c.wpIn Fence.wide 0 P Q { a with defers := { target := .collected D, args := #[] } :: a.defers } W) :
    (Code.rangeFunc g ps assign body).wpIn Fence.wide 0 P Q a w := by
  refine wpIn_rangeFunc ?_
  intro fn hfn
  have hro : Fence.wide.round = none := rfl
  rw [hro]
  obtain ⟨rec, hrec⟩ : ∃ rec : LoopState → Option Code → Loop, rec = fun st pe => { state := st, pending := pe, fn, tmps := a.tmps, params := ps, assign, body, defers := w.heap.size } := ⟨_, rfl⟩
  obtain ⟨W1, hW1⟩ : ∃ W1, (w.alloc (.deferred (some []))).alloc (.loop (rec .ready none)) = W1 := ⟨_, rfl⟩
  have hL1 : W1.heap[w.heap.size + 1]? = some (.loop (rec .ready none)) := by
    rw [← hW1]; have := World.alloc_heap_new (w.alloc (.deferred (some []))) (.loop (rec .ready none)); rwa [World.size_alloc] at this
  have hK1 : W1.heap[w.heap.size]? = some (.deferred (some [])) := by
    rw [← hW1]; exact (Below.heap_alloc _ _ _ (by simp)).trans (World.alloc_heap_new w _)
  have hcw : Chg (fun _ => False) w W1 := by rw [← hW1]; exact ((Chg.refl _ w).alloc _).alloc _
  have hI1 : I 0 O W1 := hI 0 O w W1 _ h0 hcw (fun i hi => hi.elim)
  -- the caller's blocks, the loop's record, the block for the rounds' deferred calls
  let OO : (Nat → Prop) → Nat → Prop := fun O1 i => O1 i ∨ i = w.heap.size ∨ i = w.heap.size + 1
  refine ⟨w.heap.size + 1, [{ target := .collected w.heap.size, args := #[] }], W1, { target := .fn (.func gf) lb, args := #[.func (.yield (w.heap.size + 1)) #[] #[]] }, W1, gf,
    #[.func (.yield (w.heap.size + 1)) #[] #[]] ++ lb, W1, ?_, ?_, ?_, ?_, (fun h => by cases h), ?_⟩
  · rw [← hW1, hrec]; exact run_enterLoop_outer _ _ _ _ _
  · simp only [resolve, hg]
    simp [go_sem]
  · intro f' hf'; trivial
  · simp [invoke, go_sem, eg]
  · refine callsIn_wide.2 ?_
    refine (hit (w.heap.size + 1)
      (fun k O2 W => ∃ O1 : Nat → Prop, (∀ i, O2 i ↔ OO O1 i) ∧ ¬ O1 w.heap.size ∧ ¬ O1 (w.heap.size + 1) ∧ I k O1 W ∧ W.heap[w.heap.size + 1]? = some (.loop (rec .ready none)) ∧ W.heap[w.heap.size]? = some (.deferred (some [])))
      (fun k W => ∃ c, Ix c k W ∧ W.heap[w.heap.size + 1]? = some (.loop (rec .done (some c))) ∧ W.heap[w.heap.size]? = some (.deferred (some [])))
      (OO O) W1 ?_ ?_ ?_ ?_ ?_).mono ?_
    · refine (hw0.mono (fun k hk hs => ⟨.inl hs.1, hs.2⟩)).trans hcw (fun i hi => hi.elim)
    · intro i hi
      rcases hi with hi | hi | hi
      · exact ⟨(hO i hi).2.2, (hO i hi).1⟩
      · exact ⟨fun h => by have := hOi i h; omega, by omega⟩
      · exact ⟨fun h => by have := hOi i h; omega, by omega⟩
    · -- all of it abides the iterator's own steps
      intro k O2 A B T hs hc hT
      obtain ⟨O1, hO1, hn1, hn2, hi, hl, hk⟩ := hs
      have hT1 : ∀ i, T i → B0 ≤ i ∧ ¬ O1 i := fun i h => ⟨(hT i h).1, fun h1 => (hT i h).2 ((hO1 i).2 (.inl h1))⟩
      refine ⟨O1, hO1, hn1, hn2, hI k O1 A B T hi hc hT1, hc.blk hl (fun h => (hT _ h).2 ((hO1 _).2 (.inr (.inr rfl)))), hc.blk hk (fun h => (hT _ h).2 ((hO1 _).2 (.inr (.inl rfl))))⟩
    · -- ONE ROUND
      rintro k x O2 W hx ⟨O1, hO1, hn1, hn2, hi, hl, hk⟩
      have hlt : w.heap.size + 1 < W.heap.size := (Array.getElem?_eq_some_iff.1 hl).1
      have hy := run_yield (P := P) (args := encs x) hl (by rw [hrec]; exact hps x)
      rw [hrec] at hy
      refine ⟨fn, _, assign, body, hy, roundIn_of_wpIn trivial (hassign _ k x O1 W _ hx hi ?_)⟩
      clear hy
      intro a' Wa O3 hca hO3 hia hax
      have hl' := hca.blk hl hn2
      have hk' := hca.blk hk hn1
      have hn1' : ¬ O3 w.heap.size := fun h => (hO3 _ h).elim hn1 (fun h' => by omega)
      have hn2' : ¬ O3 (w.heap.size + 1) := fun h => (hO3 _ h).elim hn2 (fun h' => by omega)
      have hlta : w.heap.size + 1 < Wa.heap.size := (Array.getElem?_eq_some_iff.1 hl').1
      refine ⟨_, run_beginRound hl' (by rw [hrec]), ?_⟩
      obtain ⟨Wb, hWb⟩ : ∃ Wb, Wa.putObj (w.heap.size + 1) (.loop { rec .ready none with state := .busy }) = Wb := ⟨_, rfl⟩
      have hcb : Chg (fun i => i = w.heap.size + 1) Wa Wb := by rw [← hWb]; exact Chg.put1 Wa _ _
      have hl2 : Wb.heap[w.heap.size + 1]? = some (.loop { rec .ready none with state := .busy }) := by rw [← hWb]; exact World.putObj_heap_same hlta
      have hk2 : Wb.heap[w.heap.size]? = some (.deferred (some [])) := hcb.blk hk' (by omega)
      have hTb : ∀ i, i = w.heap.size + 1 → B0 ≤ i ∧ ¬ O3 i := fun i e => by subst e; exact ⟨by omega, hn2'⟩
      have hib : I k O3 Wb := hI k O3 Wa Wb _ hia hcb hTb
      have haxb : Ax x O3 a' Wb := hAx x a' O3 Wa Wb _ hax hcb hTb
      rw [hWb]
      have fin : ∀ (jump : Option Code) (W3 : World), Chg O3 Wb W3 →
          (Instr.endRound (w.heap.size + 1) jump).run P W3 = .ok (.bool jump.isNone) (W3.putObj (w.heap.size + 1) (.loop (rec (if jump.isNone then .ready else .done) jump))) ∧
          w.heap.size + 1 < W3.heap.size ∧
          (W3.putObj (w.heap.size + 1) (.loop (rec (if jump.isNone then .ready else .done) jump))).heap[w.heap.size + 1]? = some (.loop (rec (if jump.isNone then .ready else .done) jump)) ∧
          (W3.putObj (w.heap.size + 1) (.loop (rec (if jump.isNone then .ready else .done) jump))).heap[w.heap.size]? = some (.deferred (some [])) ∧
          Chg O2 W (W3.putObj (w.heap.size + 1) (.loop (rec (if jump.isNone then .ready else .done) jump))) := fun jump W3 hk3 => by
        have hl3 := hk3.blk hl2 hn2'
        have := run_endRound (P := P) jump hl3
        rw [hrec] at this ⊢
        have hlt3 := (Array.getElem?_eq_some_iff.1 hl3).1
        refine ⟨this, hlt3, World.putObj_heap_same hlt3, (World.putObj_heap_other (by omega)).trans (hk3.blk hk2 hn1'), ?_⟩
        have c1 : Chg O2 W Wa := hca.mono (fun i _ h => (hO1 i).2 (.inl h))
        have c2 : Chg O2 W Wb := c1.trans hcb (fun i e => by subst e; exact .inl ((hO1 _).2 (.inr (.inr rfl))))
        have c3 : Chg O2 W W3 := c2.trans hk3 (fun i h => (hO3 i h).elim (fun h' => .inl ((hO1 i).2 (.inl h'))) .inr)
        exact c3.putObj (.inl ((hO1 _).2 (.inr (.inr rfl)))) _
      refine wpIn_mono (hbody _ k x O3 a' _ hx (by omega) hn2' ⟨_, hl2⟩ hib haxb) ?_
      rintro e a3 W3 hp
      cases e with
      | normal =>
        obtain ⟨hk3, O4, hO4, hi4⟩ := hp
        obtain ⟨hr, hlt3, hl4, hk4, hc4⟩ := fin none W3 hk3
        have hn1'' : ¬ O4 w.heap.size := fun h => (hO4 _ h).elim hn1' (fun h' => by have := hcb.size; omega)
        have hn2'' : ¬ O4 (w.heap.size + 1) := fun h => (hO4 _ h).elim hn2' (fun h' => by have := hcb.size; omega)
        refine ⟨_, _, hr, .inl ⟨rfl, ⟨OO O4, ?_, O4, fun _ => Iff.rfl, hn1'', hn2'', hI (k + 1) O4 W3 _ (fun i => i = w.heap.size + 1) hi4 (Chg.put1 _ _ _) (fun i e => by subst e; exact ⟨by omega, hn2''⟩), hl4, hk4⟩, hc4⟩⟩
        intro i hi
        rcases hi with hi | hi | hi
        · rcases hO4 i hi with h | h
          · rcases hO3 i h with h | h
            · exact .inl ((hO1 i).2 (.inl h))
            · exact .inr h
          · refine .inr ?_
            have := hcb.size
            have := hca.size
            omega
        · exact .inl ((hO1 i).2 (.inr (.inl hi)))
        · exact .inl ((hO1 i).2 (.inr (.inr hi)))
      | ret =>
        obtain ⟨hk3, hi3⟩ := hp
        obtain ⟨hr, hlt3, hl4, hk4, hc4⟩ := fin (some .ret) W3 hk3
        exact ⟨_, _, hr, .inr ⟨rfl, .ret, hIx _ _ _ _ _ hi3 (by omega) hlt3, hl4, hk4⟩⟩
      | exit id =>
        obtain ⟨hk3, hi3⟩ := hp
        obtain ⟨hr, hlt3, hl4, hk4, hc4⟩ := fin (some (.exit id)) W3 hk3
        exact ⟨_, _, hr, .inr ⟨rfl, .exit id, hIx _ _ _ _ _ hi3 (by omega) hlt3, hl4, hk4⟩⟩
      | goto t =>
        obtain ⟨hk3, hi3⟩ := hp
        obtain ⟨hr, hlt3, hl4, hk4, hc4⟩ := fin (some (.goto t)) W3 hk3
        exact ⟨_, _, hr, .inr ⟨rfl, .goto t, hIx _ _ _ _ _ hi3 (by omega) hlt3, hl4, hk4⟩⟩
      | panic ch => exact hp.elim
      | outgrown => exact hp.elim
    · exact ⟨O, fun _ => Iff.rfl, fun h => by have := (hO _ h).2.1; omega, fun h => by have := (hO _ h).2.1; omega, hI1, hL1, hK1⟩
    · -- BEHIND THE ITERATOR
      rintro e W2 ⟨⟨v, rfl⟩, (⟨O2, O1, hO1, hn1, hn2, hi, hl, hk⟩ | ⟨k, hlen, c, hi, hl, hk⟩)⟩
      · refine ⟨none, _, by have := run_endLoop (P := P) hl (by rw [hrec]; simp); rw [hrec] at this; exact this, hdone _ O1 _ (Nat.le_refl _) hn1 (hI _ O1 W2 _ (fun i => i = w.heap.size + 1) hi (Chg.put1 _ _ _) (fun i e => by subst e; exact ⟨by omega, hn2⟩)) ((World.putObj_heap_other (by omega)).trans hk)⟩
      · exact ⟨some c, _, by have := run_endLoop (P := P) hl (by rw [hrec]; simp); rw [hrec] at this; exact this, hstop _ k c _ (Nat.le_refl _) hlen (hIx _ _ _ _ _ hi (by omega) (Array.getElem?_eq_some_iff.1 hl).1) ((World.putObj_heap_other (by omega)).trans hk)⟩

end Go.Proofs.Ytcjbhdocmkpjcaa.Iter
