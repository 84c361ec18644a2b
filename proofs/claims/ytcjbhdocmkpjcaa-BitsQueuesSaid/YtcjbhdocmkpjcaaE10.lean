/- Helpers for the laws on queues: a cut, a queue beside a row of the call's own. No condition. -/
import Derived.Test.YtcjbhdocmkpjcaaE8
import Derived.Test.YtcjbhdocmkpjcaaE5
namespace Go.Proofs.Ytcjbhdocmkpjcaa.Ext
open Go.RowKit Go.Proofs.YtcjbhdocmkpjcaaW.PrintWords Go.Proofs.YtcjbhdocmkpjcaaW.PrintLast Go.Proofs.YtcjbhdocmkpjcaaW.PrintMore Go.Proofs.Ytcjbhdocmkpjcaa.Pr Go.Proofs.Ytcjbhdocmkpjcaa.Base Go.Proofs.Ytcjbhdocmkpjcaa.Iter Go.Proofs.Ytcjbhdocmkpjcaa.ISet Go.Proofs.Ytcjbhdocmkpjcaa.Sets
set_option linter.unusedVariables false
set_option linter.unusedSimpArgs false

theorem cut_C (A : Option Addr) (c : Nat) (l : List Int) (w : World) (hr : Kd.C (Kd.int .i64) w A l.length l) (hc : l.length ≤ c) :
    Calls Try.prog 11 #[.slice A l.length c] w fun e w' => e = .returned (.slice A (l.take 200).length c) ∧ Drawn0 w w' := by
  have hm : l.length ≤ 9223372036854775807 := hr.2.1
  clear hr
  have hl : (l.take 200).length = (min (l.length : Int) 200).toNat := by rw [List.length_take]; omega
  rw [hl]
  go_enter Try.func11, Try.ntmps11
  go_wp2
  go_ret
  exact ⟨rfl, Drawn0.refl _⟩
theorem take_C {A : Option Addr} {l : List Int} {w : World} (hr : Kd.C (Kd.int .i64) w A l.length l) : Kd.C (Kd.int .i64) w A (l.take 200).length (l.take 200) := by
  have := Kd.C_take hr (m := (l.take 200).length) (by rw [List.length_take]; omega)
  rwa [show l.take (l.take 200).length = l.take 200 by rw [List.length_take, List.take_eq_take_iff]; omega] at this

theorem QIs.tight {W : World} {base gq n : Nat} {l : List Int} {O : Nat → Prop} (h : QIs W base gq l n O) : QIs W base gq l n (fun i => O i ∧ i < W.heap.size) := by
  obtain ⟨gm, v, S, h⟩ := h
  exact ⟨gm, v, S, { h with oq := ⟨h.oq, (Array.getElem?_eq_some_iff.1 h.blk).1⟩, om := ⟨h.om, h.set.lt⟩, orow := fun i hi => ⟨⟨(h.orow i hi).1, Kd.Q_lt h.row i hi⟩, (h.orow i hi).2⟩ }⟩

/-- A queue of T beside a row v of X: both made by the call that began in w. -/
structure QRow (w W : World) (gq : Nat) (T : List Int) (n : Nat) (v : Value) (X : List Int) : Prop where
  bel : Below w.heap.size w W
  own : OwnI W w.heap.size v X
  que : ∃ (base : Nat) (O : Nat → Prop), base ≤ W.heap.size ∧ QIs W base gq T n O ∧ (∀ i, O i → w.heap.size ≤ i ∧ i < W.heap.size) ∧ ∀ i, v.ownBlock = some i → ¬ O i

theorem QRow.drawn {w W W' : World} {gq n : Nat} {T X : List Int} {v : Value} (h : QRow w W gq T n v X) (hd : Drawn0 W W') : QRow w W' gq T n v X := by
  obtain ⟨base, O, h1, h2, h3, h4⟩ := h.que
  have hc : Chg (fun _ => False) W W' := Chg.of_below hd.below _
  exact ⟨h.bel.trans (hd.below.mono h.bel.size), own_chg h.own hc (fun _ _ h => h), base, O, Nat.le_trans h1 hc.size, h2.chg hc (fun _ h => h.elim), fun i hi => ⟨(h3 i hi).1, Nat.lt_of_lt_of_le (h3 i hi).2 hc.size⟩, h4⟩

/-- The queue has turned. -/
theorem QRow.turned {w W W' : World} {gq n n' base : Nat} {T T' X : List Int} {v : Value} {O O2 : Nat → Prop} (h : QRow w W gq T n v X) (hb : base ≤ W.heap.size) (h3 : ∀ i, O i → w.heap.size ≤ i ∧ i < W.heap.size) (h4 : ∀ i, v.ownBlock = some i → ¬ O i) (hc : Chg O W W') (hO2 : ∀ i, O2 i → O i ∨ W.heap.size ≤ i) (hq : QIs W' base gq T' n' O2) : QRow w W' gq T' n' v X := by
  have hs := h.bel.size
  have hl := own_lt (Kd.own_of_R h.own)
  refine ⟨h.bel.trans (hc.below hs (fun i hi => (h3 i hi).1)), own_chg h.own hc h4, base, _, Nat.le_trans hb hc.size, hq.tight, fun i hi => ⟨?_, hi.2⟩, fun i hi h => ?_⟩
  · rcases hO2 i hi.1 with h | h
    · exact (h3 i h).1
    · omega
  · rcases hO2 i h.1 with h | h
    · exact h4 i hi h
    · have := hl i hi; omega

/-- The row has grown. -/
theorem QRow.longer {w W W1 : World} {gq n : Nat} {T X Y : List Int} {v v1 : Value} (h : QRow w W gq T n v X) (hg : W.grownBy W1 v.ownBlock) (hO : OwnI W1 w.heap.size v1 Y) (hat : v1.ownBlock = v.ownBlock ∨ ∃ b, v1.ownBlock = some b ∧ W.heap.size ≤ b) : QRow w W1 gq T n v1 Y := by
  obtain ⟨base, O, h1, h2, h3, h4⟩ := h.que
  have hs := h.bel.size
  have hl := own_base_lt h.own
  have hc : Chg (fun i => v.ownBlock = some i) W W1 := Chg.of_grown hg
  refine ⟨h.bel.trans (hc.below hs (fun i hi => hl i hi)), hO, base, O, Nat.le_trans h1 hc.size, h2.chg hc h4, fun i hi => ⟨(h3 i hi).1, Nat.lt_of_lt_of_le (h3 i hi).2 hc.size⟩, fun i hi ho => ?_⟩
  rcases hat with e | ⟨b, e, hb⟩
  · exact h4 i (e ▸ hi) ho
  · rw [e] at hi
    injection hi with hi
    have := (h3 i ho).2
    omega

/-- A number is pushed. -/
theorem QRow.push {w W : World} {gq n : Nat} {T X : List Int} {v : Value} (h : QRow w W gq T n v X) (hn : n < 1000000000000) (x : Int) (hx : wfI x) :
    Calls Try.prog 18 #[.pointer (some ⟨gq, 0, none⟩), .int .i64 x] W fun e W' => e = .returned (.bool (!decide (x ∈ T))) ∧ QRow w W' gq (if x ∈ T then T else T ++ [x]) (n + 1) v X := by
  obtain ⟨base, O, h1, h2, h3, h4⟩ := h.que
  by_cases hm : x ∈ T
  · refine (push_in base gq n T O x W h2 hm).mono ?_
    rintro e W' ⟨rfl, hd⟩
    obtain ⟨b, o, O', h1, h2, h3⟩ := h.drawn hd
    refine ⟨by simp [hm], ?_⟩
    rw [if_pos hm]
    obtain ⟨base', O', g1, ⟨gm, v', S, g2⟩, g3, g4⟩ := (h.drawn hd).que
    exact ⟨(h.drawn hd).bel, (h.drawn hd).own, base', O', g1, ⟨gm, v', S, { g2 with set := g2.set.mono (Nat.le_succ _), len := Nat.le_succ_of_le g2.len }⟩, g3, g4⟩
  · refine (push_new base gq n T O x W h2 h1 hn hx hm).mono ?_
    rintro e W' ⟨rfl, hc, O2, hO2, hq⟩
    refine ⟨by simp [hm], ?_⟩
    rw [if_neg hm]
    exact h.turned h1 h3 h4 hc hO2 hq
theorem QRow.len {w W : World} {gq n : Nat} {T X : List Int} {v : Value} (h : QRow w W gq T n v X) :
    Calls Try.prog 19 #[.pointer (some ⟨gq, 0, none⟩)] W fun e W' => e = .returned (.int .i64 T.length) ∧ QRow w W' gq T n v X := by
  obtain ⟨base, O, h1, h2, h3, h4⟩ := h.que
  refine (len_calls base gq n T O W h2).mono ?_
  rintro e W' ⟨rfl, hd⟩
  exact ⟨rfl, h.drawn hd⟩
theorem QRow.pop_none {w W : World} {gq n : Nat} {X : List Int} {v : Value} (h : QRow w W gq [] n v X) :
    Calls Try.prog 16 #[.pointer (some ⟨gq, 0, none⟩)] W fun e W' => e = .returned (.tuple #[.int .i64 0, .bool false]) ∧ QRow w W' gq [] n v X := by
  obtain ⟨base, O, h1, h2, h3, h4⟩ := h.que
  refine (pop_empty base gq n O W h2).mono ?_
  rintro e W' ⟨rfl, hd⟩
  exact ⟨rfl, h.drawn hd⟩
theorem QRow.pop {w W : World} {gq n : Nat} {x : Int} {T X : List Int} {v : Value} (h : QRow w W gq (x :: T) n v X) :
    Calls Try.prog 16 #[.pointer (some ⟨gq, 0, none⟩)] W fun e W' => e = .returned (.tuple #[.int .i64 x, .bool true]) ∧ QRow w W' gq T n v X := by
  obtain ⟨base, O, h1, h2, h3, h4⟩ := h.que
  refine (pop_some base gq n x T O W h2).mono ?_
  rintro e W' ⟨rfl, hc, hq⟩
  exact ⟨rfl, h.turned h1 h3 h4 hc (fun i h => .inl h) hq⟩
/-- A new queue. -/
theorem new_row (w W : World) (h : Below w.heap.size w W) :
    Calls Try.prog 15 #[] W fun e W' => ∃ gq, e = .returned (.pointer (some ⟨gq, 0, none⟩)) ∧ QRow w W' gq [] 0 (.slice none 0 0) [] := by
  refine (new_calls W).mono ?_
  rintro e W' ⟨rfl, hq, hb, hs⟩
  have := h.size
  exact ⟨_, rfl, h.trans (hb.mono h.size), Kd.R_nil _ _ _ _ _, W.heap.size, _, by omega, ⟨_, _, _, hq⟩, fun i hi => by rcases hi with rfl | rfl <;> omega, fun i hi => by simp [Value.ownBlock] at hi⟩
end Go.Proofs.Ytcjbhdocmkpjcaa.Ext
