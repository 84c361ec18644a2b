/- Rows of whole numbers of a call's own: sorted, each once, longer by one; small facts on worlds. No condition. -/
import Derived.Test.YtondngpmhlemkaaWWords
import Derived.Test.YtondngpmhlemkaaWLast
import Derived.Test.YtondngpmhlemkaaWMore
import Derived.Test.YtondngpmhlemkaaShelf
import Derived.Test.YtondngpmhlemkaaSets
import Derived.Test.YtondngpmhlemkaaIter
import Derived.Sort.OwnSortedInts
import Derived.Sort.LoopGhostIn
import Derived.Lib.OwnBridge
import Derived.Lib.SlicesCompact
import Derived.Lib.RowBridge
import Derived.Maps.OwnIn
import Derived.Shelf.Abstract
import Derived.Shelf.RegionOpen
import Derived.OwnWalkIn
import Derived.TacticsInMore
import Derived.LoopNIn
import Derived.LoopIn
namespace Go.Proofs.Ytondngpmhlemkaa.Ext
open Go.RowKit Go.Proofs.YtondngpmhlemkaaW.PrintWords Go.Proofs.YtondngpmhlemkaaW.PrintLast Go.Proofs.YtondngpmhlemkaaW.PrintMore Go.Proofs.Ytondngpmhlemkaa.Sets Go.Proofs.Ytondngpmhlemkaa.Iter
set_option linter.unusedVariables false
set_option linter.unusedSimpArgs false
attribute [local go_sem] Oper.semAt_some

theorem wrap_in (x : Int) (h0 : -9223372036854775808 ≤ x) (h1 : x ≤ 9223372036854775807) : wrap64 x = x := by
  unfold wrap64; omega

theorem drawnC {α : Type} {d : Kd α} {w w' : World} {A : Option Addr} {n : Nat} {xs : List α} (h : d.C w A n xs) (hd : Drawn0 w w') : d.C w' A n xs := Kd.C_below h hd.below
theorem drawn_trans {w w1 w2 : World} (h : Drawn0 w w1) (k : Drawn0 w1 w2) : Drawn0 w w2 := by
  obtain ⟨m, rfl⟩ := h
  obtain ⟨n, rfl⟩ := k
  exact ⟨⟨m + n, World.drewN_drewN ..⟩⟩

abbrev OwnI (W : World) (base : Nat) (v : Value) (xs : List Int) : Prop := Kd.R (Kd.int .i64) 3 W base (fun _ => True) v xs

theorem infoI : (Try.prog.info? 3).map (fun i => (i.zero, i.size, i.bytes)) = some (some (.int .i64 0), 1, 8) := by kernel_rfl

theorem own_slice3 {w : World} {base : Nat} {v : Value} {xs : List Int} (h : OwnI w base v xs) : ∃ A c, v = .slice A xs.length c ∧ xs.length ≤ c ∧ c ≤ 9223372036854775807 := by
  have ho := Kd.own_of_R h
  rcases ho.2 with ⟨rfl, h0⟩ | ⟨g, cap, cur, rfl, _, _, h1, h2, _⟩
  · exact ⟨none, 0, by rw [h0], by omega, by omega⟩
  · exact ⟨_, cap, rfl, h1, h2⟩

def OwnPost (w : World) (xs : List Int) (e : Ending) (w' : World) : Prop := ∃ v : Value, e = .returned v ∧ OwnI w' w.heap.size v xs ∧ Below w.heap.size w w'

/-! ### slices.Sort and slices.Compact on what the call owns -/
theorem sort_own (v : Value) (xs : List Int) (base : Nat) (w : World) (h : OwnI w base v xs) (hl : xs.length < 4611686018427387904) :
    Calls Try.prog 54 #[v] w fun e w' => e = .returned (.tuple #[]) ∧ OwnI w' base v (xs.mergeSort fun x y => decide (x ≤ y)) ∧ w.grownBy w' v.ownBlock := by
  have ho := Kd.own_of_R h
  rcases ho.2 with ⟨rfl, h0⟩ | ⟨g, cap, cur, rfl, hb, hg, h1, h2, h3, h4⟩
  · obtain rfl : xs = [] := List.eq_nil_of_length_eq_zero h0
    refine (Try.slices_Sort_int_none none 0 w).mono ?_
    rintro e w' ⟨rfl, rfl⟩
    exact ⟨rfl, by simpa using h, World.grownBy.refl _ _⟩
  · have hH : Sort.Holds (Value.int .i64) w g 0 xs.toArray := holds_of_blockI hg (by rw [Nat.mul_one] at h4; exact h4)
    refine (Try.slices_Sort_int g 0 cap xs w hH (Array.getElem?_eq_some_iff.1 hg).1 hl).mono ?_
    rintro e w' ⟨rfl, n, os, rfl⟩
    have hlen : (xs.mergeSort fun x y => decide (x ≤ y)).length = xs.length := List.length_mergeSort _
    have hs := ownsRow_sortedI (w := w) (n := n) (os := os) (ss := xs) (ts := xs.mergeSort fun x y => decide (x ≤ y)) hlen hb hg h1 h2 h3
    refine ⟨rfl, Kd.R_of_own ?_ (fun _ _ => trivial), grownBy_sortedI _⟩
    rw [hlen]
    exact hs

theorem putRow_sort (w : World) (q g : Nat) (d : Array Int) : Sort.putRow (Value.int .i64) (Sort.ahead w q) g 0 d = Sort.grow (Sort.putRow (Value.int .i64) (Sort.ahead w q) g 0 d) #[] := by rw [Sort.grow_empty]

theorem compact_own (v : Value) (xs : List Int) (base : Nat) (w : World) (h : OwnI w base v xs) (hl : xs.length < 4611686018427387904) :
    Calls Try.prog 45 #[v] w fun e w' => ∃ v', e = .returned v' ∧ OwnI w' base v' (Lib.compact xs) ∧ w.grownBy w' v.ownBlock ∧ v'.ownBlock = v.ownBlock := by
  have ho := Kd.own_of_R h
  rcases ho.2 with ⟨rfl, h0⟩ | ⟨g, cap, cur, rfl, hb, hg, h1, h2, h3, h4⟩
  · obtain rfl : xs = [] := List.eq_nil_of_length_eq_zero h0
    refine (Try.slices_Compact_int_empty none 0 w).mono ?_
    rintro e w' ⟨rfl, rfl⟩
    exact ⟨_, rfl, Kd.R_nil _ _ _ _ _, World.grownBy.refl _ _, rfl⟩
  · have hH : Sort.Holds (Value.int .i64) w g 0 xs.toArray := holds_of_blockI hg (by rw [Nat.mul_one] at h4; exact h4)
    refine (Try.slices_Compact_int g 0 cap xs w hH (by omega) h1).mono ?_
    rintro e w' ⟨rfl, q, rfl⟩
    have hcl : (Lib.compact xs).length ≤ xs.length := Lib.compact_length_le xs
    have hr := Lib.ownsRow_putRow (enc := Value.int .i64) (q := q) (k := (Lib.compact xs).length) (ys := Lib.compact xs ++ List.replicate (xs.length - (Lib.compact xs).length) 0) ho (by simp; omega) hcl
    refine ⟨_, rfl, Kd.R_of_own ?_ (fun _ _ => trivial), ?_, rfl⟩
    · have hr' := hr
      simp only [List.take_left'] at hr'
      exact hr'
    · have := grownBy_sortedI (w := w) (g := g) (n := q) (os := #[]) (Lib.compact xs ++ List.replicate (xs.length - (Lib.compact xs).length) 0).toArray
      rw [Sort.grow_empty] at this
      exact this

theorem own_base_lt {w : World} {base : Nat} {v : Value} {xs : List Int} (h : OwnI w base v xs) (k : Nat) (hk : v.ownBlock = some k) : base ≤ k := own_base (Kd.own_of_R h) k hk

/-- append(v, y), the row the call's own, inside a fence. -/
theorem append1_in {F : Fence} {m : Nat} {ops : Array Oper} {rest : List Oper} {o : Oper} {act : Act} {Q : Exit → Act → World → Prop} {W : World} (base : Nat) (hgd : o.guard = none) (s x : Operand)
    (ho : o.op = .call { callee := .builtin .append, args := #[s, x], argTypes := #[27, 27] })
    (v : Value) (xs : List Int) (y : Int) (gb : Nat) (hs : act.eval s = v) (hx : act.eval x = .slice (some ⟨gb, 0, none⟩) 1 1) (hy : W.cell? ⟨gb, 0, none⟩ = some (.int .i64 y)) (HO : OwnI W base v xs) (hbase : base ≤ W.heap.size) (hl : xs.length < 17592186044416)
    (h : ∀ v1 w1, OwnI w1 base v1 (xs ++ [y]) → W.grownBy w1 v.ownBlock → (v1.ownBlock = v.ownBlock ∨ v1.ownBlock = some W.heap.size) → (∃ g n c, v1 = .slice (some ⟨g, 0, none⟩) n c) → wpListIn F m Try.prog ops Q rest (act.put o.dst v1) w1) :
    wpListIn F m Try.prog ops Q (o :: rest) act W := by
  obtain ⟨i0, hi, hz0, hz1, hz2⟩ := info_parts infoI
  refine wpListIn_append_own_at W hgd s x 27 ho base 3 i0 (.int .i64 0) 1 8 Try.underlying27 hi hz0 hz1 hz2 rfl (by decide) v xs.length _ hs (Kd.own_of_R HO) ⟨gb, 0, none⟩ 1 1 [.int .i64 y] hx rfl (fun j u hj => ?_) (by simp [Value.oneCell']) (by simp only [maxLen]; omega) (by omega) hbase ?_
  · match j, hj with
    | 0, hj => obtain rfl : Value.int .i64 y = u := by simpa using hj
               simpa [Addr.add] using hy
    | j + 1, hj => simp at hj
  intro v1 w1 hown hg hnil hat
  have hown' : w1.ownsRow base 3 1 v1 (xs ++ [y]).length (encs (Value.int .i64) (xs ++ [y])) := by simpa [encs] using hown
  refine h v1 w1 (Kd.R_of_own hown' (fun _ _ => trivial)) hg hat ?_
  rcases hown'.2 with ⟨_, h0⟩ | ⟨g, cap, cur, e, _⟩
  · simp at h0
  · exact ⟨g, _, cap, e⟩

theorem own_chg {W W' : World} {base : Nat} {v : Value} {xs : List Int} {T : Nat → Prop} (h : OwnI W base v xs) (hc : Chg T W W') (hn : ∀ k, v.ownBlock = some k → ¬ T k) : OwnI W' base v xs :=
  Kd.R_of_own (own_move (Kd.own_of_R h) (fun k hk => hc.block k (own_lt (Kd.own_of_R h) k hk) (hn k hk))) (fun _ _ => trivial)

theorem frozen_chg {W W' : World} {T : Nat → Prop} (hc : Chg T W W') {a : Addr} (hlt : a.block < W.heap.size) (hn : ¬ T a.block) : W'.frozen? a = W.frozen? a := by
  have := hc.block a.block hlt hn
  simp only [World.frozen?, this]

theorem alloc_at (w : World) (o : Obj) (k : Nat) : (w.alloc o).heap[k]? = if k = w.heap.size then some o else w.heap[k]? := by
  show (w.heap.push o)[k]? = _
  rw [Array.getElem?_push]
theorem heap_drewN (w : World) (q : Nat) : (w.drewN q).heap = w.heap := rfl

theorem cell_of_blk {W : World} {g : Nat} {v : Value} {t : TypeId} (h : W.heap[g]? = some (.cells #[v] t (0, 0))) : W.cell? ⟨g, 0, none⟩ = some v ∧ W.frozen? ⟨g, 0, none⟩ = false := by
  constructor <;> simp [World.cell?, World.frozen?, h]

end Go.Proofs.Ytondngpmhlemkaa.Ext
