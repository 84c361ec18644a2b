/- Lemmas for the claims of this seat (own texts, packed; what the claims do not use is left out). No condition. -/
import Derived.KernelRfl
import Derived.Lib.SlicesCompact
import Derived.Lib.RowBridge
import Derived.RangeFuncNested
import Derived.RangeFuncBound
import Derived.RangeFuncCalls
import Derived.RangeFuncLeaves
import Derived.Below
import Derived.Deep.Draws
import Derived.Maps.OwnSet
import Derived.Maps.Keyed
import Derived.Maps.Views
import Derived.Test.YtngppcmdaanheaaProg
import Derived.Deep.AppendLies
import Derived.Maps.AppendAt
import Derived.OwnWalk
import Derived.Laws.BytesArg
import Derived.Laws.MakeOwn
import Derived.Laws.OwnMore
import Derived.Deep.OwnRows
import Derived.Tactics
import Derived.Lib.ConvBytes
import Derived.Laws.Slices
import Derived.WalkKit
import Derived.RowKit3
import Derived.Deep.LoopGhost
import Derived.Deep.QuietTactic
import Derived.BigQuiet
import Derived.WideLaws
import Derived.Deep.DeepCutAuto
import Derived.Deep.CutBlock
import Derived.Deep.RegionHeld3
import Derived.Laws.Rows
import Derived.Lib.AppendStr
import Derived.ArgAppend
import Derived.Laws.IdiomCopy
import Derived.OrdersHeld
import Derived.Laws.BitsLemmas
import Derived.RowKit
import Derived.DeepKeys4
import Derived.Sort.MapsRangeIn
import Derived.TacticsInMore
import Derived.LoopNIn
import Derived.LoopIn
import Derived.RegionIn
import Derived.OwnWalkIn
import Derived.Sort.OwnSortedInts
import Derived.Sort.LoopGhostIn
import Derived.Lib.OwnBridge
import Derived.Maps.OwnIn
import Derived.Shelf.Abstract
import Derived.Shelf.RegionOpen
import Derived.Laws.Cover1
import Derived.Shelf.SlSortCmp.WholeK
import Derived.Shelf.SlGeneric
import Derived.Ground.SlsfProg
import Derived.Shelf.SlSortCmp.NoneTotal
import Derived.Sort.Walk0
import Derived.Test.YtngppcmdaanheaaMp0
/- Short words for the steps that printed walks take again and again. No condition. -/
namespace Go.Proofs.YtngppcmdaanheaaW.PrintWords
open Go.RowKit
set_option linter.unusedVariables false
theorem zK {p : Prop} (h : p := by (with_reducible repeat (first | refine blk_drewN ?_ _ | refine blk_drew ?_ | refine blk_alloc ?_ _)); exact Aside0.out (by with_reducible assumption)) : p := h
theorem zB {p : Prop} (h : p := by repeat (first | (with_reducible first | exact HB.out | apply below_alloc | apply pw_below_drewN | apply below_drew1) | exact HB.out)) : p := h
theorem zG {p : Prop} (h : p := by repeat (first | (with_reducible first | exact HB.out | apply below_alloc | apply pw_below_drewN | apply below_drew1 | refine below_set ?_ (Aside0.out (by with_reducible assumption))) | exact HB.out)) : p := h
theorem zS {p : Prop} (h : p := by rw [hg]; exact below_size (by repeat (first | (with_reducible first | exact HB.out | apply below_alloc | apply pw_below_drewN | apply below_drew1) | exact HB.out))) : p := h
theorem zT {p : Prop} (h : p := by rw [hg]; exact below_size (by repeat (first | (with_reducible first | exact HB.out | apply below_alloc | apply pw_below_drewN | apply below_drew1 | refine below_set ?_ (Aside0.out (by with_reducible assumption))) | exact HB.out))) : p := h
theorem zL {p : Prop} (h : p := by rw [hg]; exact Nat.ne_of_lt (blk_lt (by (with_reducible repeat (first | refine blk_drewN ?_ _ | refine blk_drew ?_ | refine blk_alloc ?_ _)); exact Aside0.out (by with_reducible assumption)))) : p := h
theorem zM {p : Prop} (h : p := by rw [hg]; exact Nat.ne_of_gt (blk_lt (by (with_reducible repeat (first | refine blk_drewN ?_ _ | refine blk_drew ?_ | refine blk_alloc ?_ _)); exact Aside0.out (by with_reducible assumption)))) : p := h
theorem zR {p : Prop} (h : p := by first | rfl | (simp; done) | (simp [*]; done) | (simp [*]; exact (fun (l_ : List UInt8) => (by cases l_ <;> rfl : l_.isEmpty = !(l_ != []))) _)) : p := h
theorem zE {p : Prop} (h : p := by first | rfl | (simp [errW_none, errW_some] <;> rfl) | (simp [*, errW_none, errW_some] <;> rfl) | (simp [*, errW_none, errW_some]; exact (fun (l_ : List UInt8) => (by cases l_ <;> rfl : l_.isEmpty = !(l_ != []))) _)) : p := h
theorem zP {p : Prop} (h : p := by (try simp only [List.map_toArray, List.map_cons, List.map_nil]); first | done | rfl | (simp only [List.length_drop, List.length_take]; rfl)) : p := h
theorem zA {p : Prop} (h : p := by first | (with_reducible assumption) | assumption) : p := h
theorem zO {α β : Type} {o : Option α} {f : α → Option β} {r : β} (h : o.bind f = some r) : ∃ a, Aside0 (o = some a) ∧ f a = some r := by
 obtain ⟨a, h1, h2⟩ := Option.bind_eq_some_iff.mp h
 exact ⟨a, ⟨h1⟩, h2⟩
theorem zX {P : Program} {ops : Array Oper} {rest : List Oper} {o : Oper} {a : Act} {Q : Exit → Act → World → Prop} {W : World} {N : Tmp} {cs : Array Value} {t : TypeId} (_hd : o.dst = some N := by rfl) (hgd : o.guard = none := by rfl)
    (hrun : (execOp a.eval o).run P W = .ok (.value (.pointer (some ⟨W.heap.size, 0, none⟩))) (W.alloc (.cells cs t (0, 0))) := by first | (go_simp; done) | (go_simp; rfl))
    (h : ∀ g, g = W.heap.size → ∀ w1, w1.heap[g]? = some (.cells cs t (0, 0)) → Below W.heap.size W w1 → wpList P ops Q rest (a.put o.dst (.pointer (some ⟨g, 0, none⟩))) w1) : wpList P ops Q (o :: rest) a W := box_event hgd (N := N) _hd hrun h
theorem zc1 {w : World} {g : Nat} {t : TypeId} {cs : Array Value} (h : w.heap[g]? = some (.cells cs t (0, 0))) (a0 : Value) (e : cs = #[a0] := by rfl) : w.cell? ⟨g, 0, none⟩ = some a0 := by subst e; exact (blk_cell h 0).trans rfl
theorem zf1 {w : World} {g : Nat} {t : TypeId} {cs : Array Value} (h : w.heap[g]? = some (.cells cs t (0, 0))) : w.frozen? ⟨g, 0, none⟩ = false := blk_frozen h 0
theorem zd1 {w : World} {g : Nat} {t : TypeId} {cs : Array Value} (h : w.heap[g]? = some (.cells cs t (0, 0))) (a0 : Value) (e : cs = #[a0] := by rfl) : w.cell? ⟨g, 0, none⟩ = some a0 ∧ w.frozen? ⟨g, 0, none⟩ = false := by subst e; exact ⟨(blk_cell h 0).trans rfl, blk_frozen h 0⟩
theorem zc2 {w : World} {g : Nat} {t : TypeId} {cs : Array Value} (h : w.heap[g]? = some (.cells cs t (0, 0))) (a0 a1 : Value) (e : cs = #[a0, a1] := by rfl) : w.cell? ⟨g, 0, none⟩ = some a0 ∧ w.cell? ⟨g, 1, none⟩ = some a1 := by subst e; exact ⟨(blk_cell h 0).trans rfl, (blk_cell h 1).trans rfl⟩
theorem zf2 {w : World} {g : Nat} {t : TypeId} {cs : Array Value} (h : w.heap[g]? = some (.cells cs t (0, 0))) : w.frozen? ⟨g, 0, none⟩ = false ∧ w.frozen? ⟨g, 1, none⟩ = false := ⟨blk_frozen h 0, blk_frozen h 1⟩
theorem zd2 {w : World} {g : Nat} {t : TypeId} {cs : Array Value} (h : w.heap[g]? = some (.cells cs t (0, 0))) (a0 a1 : Value) (e : cs = #[a0, a1] := by rfl) : w.cell? ⟨g, 0, none⟩ = some a0 ∧ w.cell? ⟨g, 1, none⟩ = some a1 ∧ w.frozen? ⟨g, 0, none⟩ = false ∧ w.frozen? ⟨g, 1, none⟩ = false := by subst e; exact ⟨(blk_cell h 0).trans rfl, (blk_cell h 1).trans rfl, blk_frozen h 0, blk_frozen h 1⟩
theorem zc3 {w : World} {g : Nat} {t : TypeId} {cs : Array Value} (h : w.heap[g]? = some (.cells cs t (0, 0))) (a0 a1 a2 : Value) (e : cs = #[a0, a1, a2] := by rfl) : w.cell? ⟨g, 0, none⟩ = some a0 ∧ w.cell? ⟨g, 1, none⟩ = some a1 ∧ w.cell? ⟨g, 2, none⟩ = some a2 := by subst e; exact ⟨(blk_cell h 0).trans rfl, (blk_cell h 1).trans rfl, (blk_cell h 2).trans rfl⟩
theorem zf3 {w : World} {g : Nat} {t : TypeId} {cs : Array Value} (h : w.heap[g]? = some (.cells cs t (0, 0))) : w.frozen? ⟨g, 0, none⟩ = false ∧ w.frozen? ⟨g, 1, none⟩ = false ∧ w.frozen? ⟨g, 2, none⟩ = false := ⟨blk_frozen h 0, blk_frozen h 1, blk_frozen h 2⟩
theorem zd3 {w : World} {g : Nat} {t : TypeId} {cs : Array Value} (h : w.heap[g]? = some (.cells cs t (0, 0))) (a0 a1 a2 : Value) (e : cs = #[a0, a1, a2] := by rfl) : w.cell? ⟨g, 0, none⟩ = some a0 ∧ w.cell? ⟨g, 1, none⟩ = some a1 ∧ w.cell? ⟨g, 2, none⟩ = some a2 ∧ w.frozen? ⟨g, 0, none⟩ = false ∧ w.frozen? ⟨g, 1, none⟩ = false ∧ w.frozen? ⟨g, 2, none⟩ = false := by subst e; exact ⟨(blk_cell h 0).trans rfl, (blk_cell h 1).trans rfl, (blk_cell h 2).trans rfl, blk_frozen h 0, blk_frozen h 1, blk_frozen h 2⟩
theorem zc4 {w : World} {g : Nat} {t : TypeId} {cs : Array Value} (h : w.heap[g]? = some (.cells cs t (0, 0))) (a0 a1 a2 a3 : Value) (e : cs = #[a0, a1, a2, a3] := by rfl) : w.cell? ⟨g, 0, none⟩ = some a0 ∧ w.cell? ⟨g, 1, none⟩ = some a1 ∧ w.cell? ⟨g, 2, none⟩ = some a2 ∧ w.cell? ⟨g, 3, none⟩ = some a3 := by subst e; exact ⟨(blk_cell h 0).trans rfl, (blk_cell h 1).trans rfl, (blk_cell h 2).trans rfl, (blk_cell h 3).trans rfl⟩
theorem zf4 {w : World} {g : Nat} {t : TypeId} {cs : Array Value} (h : w.heap[g]? = some (.cells cs t (0, 0))) : w.frozen? ⟨g, 0, none⟩ = false ∧ w.frozen? ⟨g, 1, none⟩ = false ∧ w.frozen? ⟨g, 2, none⟩ = false ∧ w.frozen? ⟨g, 3, none⟩ = false := ⟨blk_frozen h 0, blk_frozen h 1, blk_frozen h 2, blk_frozen h 3⟩
theorem zd4 {w : World} {g : Nat} {t : TypeId} {cs : Array Value} (h : w.heap[g]? = some (.cells cs t (0, 0))) (a0 a1 a2 a3 : Value) (e : cs = #[a0, a1, a2, a3] := by rfl) : w.cell? ⟨g, 0, none⟩ = some a0 ∧ w.cell? ⟨g, 1, none⟩ = some a1 ∧ w.cell? ⟨g, 2, none⟩ = some a2 ∧ w.cell? ⟨g, 3, none⟩ = some a3 ∧ w.frozen? ⟨g, 0, none⟩ = false ∧ w.frozen? ⟨g, 1, none⟩ = false ∧ w.frozen? ⟨g, 2, none⟩ = false ∧ w.frozen? ⟨g, 3, none⟩ = false := by subst e; exact ⟨(blk_cell h 0).trans rfl, (blk_cell h 1).trans rfl, (blk_cell h 2).trans rfl, (blk_cell h 3).trans rfl, blk_frozen h 0, blk_frozen h 1, blk_frozen h 2, blk_frozen h 3⟩
theorem zc5 {w : World} {g : Nat} {t : TypeId} {cs : Array Value} (h : w.heap[g]? = some (.cells cs t (0, 0))) (a0 a1 a2 a3 a4 : Value) (e : cs = #[a0, a1, a2, a3, a4] := by rfl) : w.cell? ⟨g, 0, none⟩ = some a0 ∧ w.cell? ⟨g, 1, none⟩ = some a1 ∧ w.cell? ⟨g, 2, none⟩ = some a2 ∧ w.cell? ⟨g, 3, none⟩ = some a3 ∧ w.cell? ⟨g, 4, none⟩ = some a4 := by subst e; exact ⟨(blk_cell h 0).trans rfl, (blk_cell h 1).trans rfl, (blk_cell h 2).trans rfl, (blk_cell h 3).trans rfl, (blk_cell h 4).trans rfl⟩
theorem zf5 {w : World} {g : Nat} {t : TypeId} {cs : Array Value} (h : w.heap[g]? = some (.cells cs t (0, 0))) : w.frozen? ⟨g, 0, none⟩ = false ∧ w.frozen? ⟨g, 1, none⟩ = false ∧ w.frozen? ⟨g, 2, none⟩ = false ∧ w.frozen? ⟨g, 3, none⟩ = false ∧ w.frozen? ⟨g, 4, none⟩ = false := ⟨blk_frozen h 0, blk_frozen h 1, blk_frozen h 2, blk_frozen h 3, blk_frozen h 4⟩
theorem zd5 {w : World} {g : Nat} {t : TypeId} {cs : Array Value} (h : w.heap[g]? = some (.cells cs t (0, 0))) (a0 a1 a2 a3 a4 : Value) (e : cs = #[a0, a1, a2, a3, a4] := by rfl) : w.cell? ⟨g, 0, none⟩ = some a0 ∧ w.cell? ⟨g, 1, none⟩ = some a1 ∧ w.cell? ⟨g, 2, none⟩ = some a2 ∧ w.cell? ⟨g, 3, none⟩ = some a3 ∧ w.cell? ⟨g, 4, none⟩ = some a4 ∧ w.frozen? ⟨g, 0, none⟩ = false ∧ w.frozen? ⟨g, 1, none⟩ = false ∧ w.frozen? ⟨g, 2, none⟩ = false ∧ w.frozen? ⟨g, 3, none⟩ = false ∧ w.frozen? ⟨g, 4, none⟩ = false := by subst e; exact ⟨(blk_cell h 0).trans rfl, (blk_cell h 1).trans rfl, (blk_cell h 2).trans rfl, (blk_cell h 3).trans rfl, (blk_cell h 4).trans rfl, blk_frozen h 0, blk_frozen h 1, blk_frozen h 2, blk_frozen h 3, blk_frozen h 4⟩
theorem zc6 {w : World} {g : Nat} {t : TypeId} {cs : Array Value} (h : w.heap[g]? = some (.cells cs t (0, 0))) (a0 a1 a2 a3 a4 a5 : Value) (e : cs = #[a0, a1, a2, a3, a4, a5] := by rfl) : w.cell? ⟨g, 0, none⟩ = some a0 ∧ w.cell? ⟨g, 1, none⟩ = some a1 ∧ w.cell? ⟨g, 2, none⟩ = some a2 ∧ w.cell? ⟨g, 3, none⟩ = some a3 ∧ w.cell? ⟨g, 4, none⟩ = some a4 ∧ w.cell? ⟨g, 5, none⟩ = some a5 := by subst e; exact ⟨(blk_cell h 0).trans rfl, (blk_cell h 1).trans rfl, (blk_cell h 2).trans rfl, (blk_cell h 3).trans rfl, (blk_cell h 4).trans rfl, (blk_cell h 5).trans rfl⟩
theorem zf6 {w : World} {g : Nat} {t : TypeId} {cs : Array Value} (h : w.heap[g]? = some (.cells cs t (0, 0))) : w.frozen? ⟨g, 0, none⟩ = false ∧ w.frozen? ⟨g, 1, none⟩ = false ∧ w.frozen? ⟨g, 2, none⟩ = false ∧ w.frozen? ⟨g, 3, none⟩ = false ∧ w.frozen? ⟨g, 4, none⟩ = false ∧ w.frozen? ⟨g, 5, none⟩ = false := ⟨blk_frozen h 0, blk_frozen h 1, blk_frozen h 2, blk_frozen h 3, blk_frozen h 4, blk_frozen h 5⟩
theorem zd6 {w : World} {g : Nat} {t : TypeId} {cs : Array Value} (h : w.heap[g]? = some (.cells cs t (0, 0))) (a0 a1 a2 a3 a4 a5 : Value) (e : cs = #[a0, a1, a2, a3, a4, a5] := by rfl) : w.cell? ⟨g, 0, none⟩ = some a0 ∧ w.cell? ⟨g, 1, none⟩ = some a1 ∧ w.cell? ⟨g, 2, none⟩ = some a2 ∧ w.cell? ⟨g, 3, none⟩ = some a3 ∧ w.cell? ⟨g, 4, none⟩ = some a4 ∧ w.cell? ⟨g, 5, none⟩ = some a5 ∧ w.frozen? ⟨g, 0, none⟩ = false ∧ w.frozen? ⟨g, 1, none⟩ = false ∧ w.frozen? ⟨g, 2, none⟩ = false ∧ w.frozen? ⟨g, 3, none⟩ = false ∧ w.frozen? ⟨g, 4, none⟩ = false ∧ w.frozen? ⟨g, 5, none⟩ = false := by subst e; exact ⟨(blk_cell h 0).trans rfl, (blk_cell h 1).trans rfl, (blk_cell h 2).trans rfl, (blk_cell h 3).trans rfl, (blk_cell h 4).trans rfl, (blk_cell h 5).trans rfl, blk_frozen h 0, blk_frozen h 1, blk_frozen h 2, blk_frozen h 3, blk_frozen h 4, blk_frozen h 5⟩
theorem zc7 {w : World} {g : Nat} {t : TypeId} {cs : Array Value} (h : w.heap[g]? = some (.cells cs t (0, 0))) (a0 a1 a2 a3 a4 a5 a6 : Value) (e : cs = #[a0, a1, a2, a3, a4, a5, a6] := by rfl) : w.cell? ⟨g, 0, none⟩ = some a0 ∧ w.cell? ⟨g, 1, none⟩ = some a1 ∧ w.cell? ⟨g, 2, none⟩ = some a2 ∧ w.cell? ⟨g, 3, none⟩ = some a3 ∧ w.cell? ⟨g, 4, none⟩ = some a4 ∧ w.cell? ⟨g, 5, none⟩ = some a5 ∧ w.cell? ⟨g, 6, none⟩ = some a6 := by subst e; exact ⟨(blk_cell h 0).trans rfl, (blk_cell h 1).trans rfl, (blk_cell h 2).trans rfl, (blk_cell h 3).trans rfl, (blk_cell h 4).trans rfl, (blk_cell h 5).trans rfl, (blk_cell h 6).trans rfl⟩
theorem zf7 {w : World} {g : Nat} {t : TypeId} {cs : Array Value} (h : w.heap[g]? = some (.cells cs t (0, 0))) : w.frozen? ⟨g, 0, none⟩ = false ∧ w.frozen? ⟨g, 1, none⟩ = false ∧ w.frozen? ⟨g, 2, none⟩ = false ∧ w.frozen? ⟨g, 3, none⟩ = false ∧ w.frozen? ⟨g, 4, none⟩ = false ∧ w.frozen? ⟨g, 5, none⟩ = false ∧ w.frozen? ⟨g, 6, none⟩ = false := ⟨blk_frozen h 0, blk_frozen h 1, blk_frozen h 2, blk_frozen h 3, blk_frozen h 4, blk_frozen h 5, blk_frozen h 6⟩
theorem zd7 {w : World} {g : Nat} {t : TypeId} {cs : Array Value} (h : w.heap[g]? = some (.cells cs t (0, 0))) (a0 a1 a2 a3 a4 a5 a6 : Value) (e : cs = #[a0, a1, a2, a3, a4, a5, a6] := by rfl) : w.cell? ⟨g, 0, none⟩ = some a0 ∧ w.cell? ⟨g, 1, none⟩ = some a1 ∧ w.cell? ⟨g, 2, none⟩ = some a2 ∧ w.cell? ⟨g, 3, none⟩ = some a3 ∧ w.cell? ⟨g, 4, none⟩ = some a4 ∧ w.cell? ⟨g, 5, none⟩ = some a5 ∧ w.cell? ⟨g, 6, none⟩ = some a6 ∧ w.frozen? ⟨g, 0, none⟩ = false ∧ w.frozen? ⟨g, 1, none⟩ = false ∧ w.frozen? ⟨g, 2, none⟩ = false ∧ w.frozen? ⟨g, 3, none⟩ = false ∧ w.frozen? ⟨g, 4, none⟩ = false ∧ w.frozen? ⟨g, 5, none⟩ = false ∧ w.frozen? ⟨g, 6, none⟩ = false := by subst e; exact ⟨(blk_cell h 0).trans rfl, (blk_cell h 1).trans rfl, (blk_cell h 2).trans rfl, (blk_cell h 3).trans rfl, (blk_cell h 4).trans rfl, (blk_cell h 5).trans rfl, (blk_cell h 6).trans rfl, blk_frozen h 0, blk_frozen h 1, blk_frozen h 2, blk_frozen h 3, blk_frozen h 4, blk_frozen h 5, blk_frozen h 6⟩
theorem zc8 {w : World} {g : Nat} {t : TypeId} {cs : Array Value} (h : w.heap[g]? = some (.cells cs t (0, 0))) (a0 a1 a2 a3 a4 a5 a6 a7 : Value) (e : cs = #[a0, a1, a2, a3, a4, a5, a6, a7] := by rfl) : w.cell? ⟨g, 0, none⟩ = some a0 ∧ w.cell? ⟨g, 1, none⟩ = some a1 ∧ w.cell? ⟨g, 2, none⟩ = some a2 ∧ w.cell? ⟨g, 3, none⟩ = some a3 ∧ w.cell? ⟨g, 4, none⟩ = some a4 ∧ w.cell? ⟨g, 5, none⟩ = some a5 ∧ w.cell? ⟨g, 6, none⟩ = some a6 ∧ w.cell? ⟨g, 7, none⟩ = some a7 := by subst e; exact ⟨(blk_cell h 0).trans rfl, (blk_cell h 1).trans rfl, (blk_cell h 2).trans rfl, (blk_cell h 3).trans rfl, (blk_cell h 4).trans rfl, (blk_cell h 5).trans rfl, (blk_cell h 6).trans rfl, (blk_cell h 7).trans rfl⟩
theorem zf8 {w : World} {g : Nat} {t : TypeId} {cs : Array Value} (h : w.heap[g]? = some (.cells cs t (0, 0))) : w.frozen? ⟨g, 0, none⟩ = false ∧ w.frozen? ⟨g, 1, none⟩ = false ∧ w.frozen? ⟨g, 2, none⟩ = false ∧ w.frozen? ⟨g, 3, none⟩ = false ∧ w.frozen? ⟨g, 4, none⟩ = false ∧ w.frozen? ⟨g, 5, none⟩ = false ∧ w.frozen? ⟨g, 6, none⟩ = false ∧ w.frozen? ⟨g, 7, none⟩ = false := ⟨blk_frozen h 0, blk_frozen h 1, blk_frozen h 2, blk_frozen h 3, blk_frozen h 4, blk_frozen h 5, blk_frozen h 6, blk_frozen h 7⟩
theorem zd8 {w : World} {g : Nat} {t : TypeId} {cs : Array Value} (h : w.heap[g]? = some (.cells cs t (0, 0))) (a0 a1 a2 a3 a4 a5 a6 a7 : Value) (e : cs = #[a0, a1, a2, a3, a4, a5, a6, a7] := by rfl) : w.cell? ⟨g, 0, none⟩ = some a0 ∧ w.cell? ⟨g, 1, none⟩ = some a1 ∧ w.cell? ⟨g, 2, none⟩ = some a2 ∧ w.cell? ⟨g, 3, none⟩ = some a3 ∧ w.cell? ⟨g, 4, none⟩ = some a4 ∧ w.cell? ⟨g, 5, none⟩ = some a5 ∧ w.cell? ⟨g, 6, none⟩ = some a6 ∧ w.cell? ⟨g, 7, none⟩ = some a7 ∧ w.frozen? ⟨g, 0, none⟩ = false ∧ w.frozen? ⟨g, 1, none⟩ = false ∧ w.frozen? ⟨g, 2, none⟩ = false ∧ w.frozen? ⟨g, 3, none⟩ = false ∧ w.frozen? ⟨g, 4, none⟩ = false ∧ w.frozen? ⟨g, 5, none⟩ = false ∧ w.frozen? ⟨g, 6, none⟩ = false ∧ w.frozen? ⟨g, 7, none⟩ = false := by subst e; exact ⟨(blk_cell h 0).trans rfl, (blk_cell h 1).trans rfl, (blk_cell h 2).trans rfl, (blk_cell h 3).trans rfl, (blk_cell h 4).trans rfl, (blk_cell h 5).trans rfl, (blk_cell h 6).trans rfl, (blk_cell h 7).trans rfl, blk_frozen h 0, blk_frozen h 1, blk_frozen h 2, blk_frozen h 3, blk_frozen h 4, blk_frozen h 5, blk_frozen h 6, blk_frozen h 7⟩
theorem zc9 {w : World} {g : Nat} {t : TypeId} {cs : Array Value} (h : w.heap[g]? = some (.cells cs t (0, 0))) (a0 a1 a2 a3 a4 a5 a6 a7 a8 : Value) (e : cs = #[a0, a1, a2, a3, a4, a5, a6, a7, a8] := by rfl) : w.cell? ⟨g, 0, none⟩ = some a0 ∧ w.cell? ⟨g, 1, none⟩ = some a1 ∧ w.cell? ⟨g, 2, none⟩ = some a2 ∧ w.cell? ⟨g, 3, none⟩ = some a3 ∧ w.cell? ⟨g, 4, none⟩ = some a4 ∧ w.cell? ⟨g, 5, none⟩ = some a5 ∧ w.cell? ⟨g, 6, none⟩ = some a6 ∧ w.cell? ⟨g, 7, none⟩ = some a7 ∧ w.cell? ⟨g, 8, none⟩ = some a8 := by subst e; exact ⟨(blk_cell h 0).trans rfl, (blk_cell h 1).trans rfl, (blk_cell h 2).trans rfl, (blk_cell h 3).trans rfl, (blk_cell h 4).trans rfl, (blk_cell h 5).trans rfl, (blk_cell h 6).trans rfl, (blk_cell h 7).trans rfl, (blk_cell h 8).trans rfl⟩
theorem zf9 {w : World} {g : Nat} {t : TypeId} {cs : Array Value} (h : w.heap[g]? = some (.cells cs t (0, 0))) : w.frozen? ⟨g, 0, none⟩ = false ∧ w.frozen? ⟨g, 1, none⟩ = false ∧ w.frozen? ⟨g, 2, none⟩ = false ∧ w.frozen? ⟨g, 3, none⟩ = false ∧ w.frozen? ⟨g, 4, none⟩ = false ∧ w.frozen? ⟨g, 5, none⟩ = false ∧ w.frozen? ⟨g, 6, none⟩ = false ∧ w.frozen? ⟨g, 7, none⟩ = false ∧ w.frozen? ⟨g, 8, none⟩ = false := ⟨blk_frozen h 0, blk_frozen h 1, blk_frozen h 2, blk_frozen h 3, blk_frozen h 4, blk_frozen h 5, blk_frozen h 6, blk_frozen h 7, blk_frozen h 8⟩
theorem zd9 {w : World} {g : Nat} {t : TypeId} {cs : Array Value} (h : w.heap[g]? = some (.cells cs t (0, 0))) (a0 a1 a2 a3 a4 a5 a6 a7 a8 : Value) (e : cs = #[a0, a1, a2, a3, a4, a5, a6, a7, a8] := by rfl) : w.cell? ⟨g, 0, none⟩ = some a0 ∧ w.cell? ⟨g, 1, none⟩ = some a1 ∧ w.cell? ⟨g, 2, none⟩ = some a2 ∧ w.cell? ⟨g, 3, none⟩ = some a3 ∧ w.cell? ⟨g, 4, none⟩ = some a4 ∧ w.cell? ⟨g, 5, none⟩ = some a5 ∧ w.cell? ⟨g, 6, none⟩ = some a6 ∧ w.cell? ⟨g, 7, none⟩ = some a7 ∧ w.cell? ⟨g, 8, none⟩ = some a8 ∧ w.frozen? ⟨g, 0, none⟩ = false ∧ w.frozen? ⟨g, 1, none⟩ = false ∧ w.frozen? ⟨g, 2, none⟩ = false ∧ w.frozen? ⟨g, 3, none⟩ = false ∧ w.frozen? ⟨g, 4, none⟩ = false ∧ w.frozen? ⟨g, 5, none⟩ = false ∧ w.frozen? ⟨g, 6, none⟩ = false ∧ w.frozen? ⟨g, 7, none⟩ = false ∧ w.frozen? ⟨g, 8, none⟩ = false := by subst e; exact ⟨(blk_cell h 0).trans rfl, (blk_cell h 1).trans rfl, (blk_cell h 2).trans rfl, (blk_cell h 3).trans rfl, (blk_cell h 4).trans rfl, (blk_cell h 5).trans rfl, (blk_cell h 6).trans rfl, (blk_cell h 7).trans rfl, (blk_cell h 8).trans rfl, blk_frozen h 0, blk_frozen h 1, blk_frozen h 2, blk_frozen h 3, blk_frozen h 4, blk_frozen h 5, blk_frozen h 6, blk_frozen h 7, blk_frozen h 8⟩
theorem zc10 {w : World} {g : Nat} {t : TypeId} {cs : Array Value} (h : w.heap[g]? = some (.cells cs t (0, 0))) (a0 a1 a2 a3 a4 a5 a6 a7 a8 a9 : Value) (e : cs = #[a0, a1, a2, a3, a4, a5, a6, a7, a8, a9] := by rfl) : w.cell? ⟨g, 0, none⟩ = some a0 ∧ w.cell? ⟨g, 1, none⟩ = some a1 ∧ w.cell? ⟨g, 2, none⟩ = some a2 ∧ w.cell? ⟨g, 3, none⟩ = some a3 ∧ w.cell? ⟨g, 4, none⟩ = some a4 ∧ w.cell? ⟨g, 5, none⟩ = some a5 ∧ w.cell? ⟨g, 6, none⟩ = some a6 ∧ w.cell? ⟨g, 7, none⟩ = some a7 ∧ w.cell? ⟨g, 8, none⟩ = some a8 ∧ w.cell? ⟨g, 9, none⟩ = some a9 := by subst e; exact ⟨(blk_cell h 0).trans rfl, (blk_cell h 1).trans rfl, (blk_cell h 2).trans rfl, (blk_cell h 3).trans rfl, (blk_cell h 4).trans rfl, (blk_cell h 5).trans rfl, (blk_cell h 6).trans rfl, (blk_cell h 7).trans rfl, (blk_cell h 8).trans rfl, (blk_cell h 9).trans rfl⟩
theorem zf10 {w : World} {g : Nat} {t : TypeId} {cs : Array Value} (h : w.heap[g]? = some (.cells cs t (0, 0))) : w.frozen? ⟨g, 0, none⟩ = false ∧ w.frozen? ⟨g, 1, none⟩ = false ∧ w.frozen? ⟨g, 2, none⟩ = false ∧ w.frozen? ⟨g, 3, none⟩ = false ∧ w.frozen? ⟨g, 4, none⟩ = false ∧ w.frozen? ⟨g, 5, none⟩ = false ∧ w.frozen? ⟨g, 6, none⟩ = false ∧ w.frozen? ⟨g, 7, none⟩ = false ∧ w.frozen? ⟨g, 8, none⟩ = false ∧ w.frozen? ⟨g, 9, none⟩ = false := ⟨blk_frozen h 0, blk_frozen h 1, blk_frozen h 2, blk_frozen h 3, blk_frozen h 4, blk_frozen h 5, blk_frozen h 6, blk_frozen h 7, blk_frozen h 8, blk_frozen h 9⟩
theorem zd10 {w : World} {g : Nat} {t : TypeId} {cs : Array Value} (h : w.heap[g]? = some (.cells cs t (0, 0))) (a0 a1 a2 a3 a4 a5 a6 a7 a8 a9 : Value) (e : cs = #[a0, a1, a2, a3, a4, a5, a6, a7, a8, a9] := by rfl) : w.cell? ⟨g, 0, none⟩ = some a0 ∧ w.cell? ⟨g, 1, none⟩ = some a1 ∧ w.cell? ⟨g, 2, none⟩ = some a2 ∧ w.cell? ⟨g, 3, none⟩ = some a3 ∧ w.cell? ⟨g, 4, none⟩ = some a4 ∧ w.cell? ⟨g, 5, none⟩ = some a5 ∧ w.cell? ⟨g, 6, none⟩ = some a6 ∧ w.cell? ⟨g, 7, none⟩ = some a7 ∧ w.cell? ⟨g, 8, none⟩ = some a8 ∧ w.cell? ⟨g, 9, none⟩ = some a9 ∧ w.frozen? ⟨g, 0, none⟩ = false ∧ w.frozen? ⟨g, 1, none⟩ = false ∧ w.frozen? ⟨g, 2, none⟩ = false ∧ w.frozen? ⟨g, 3, none⟩ = false ∧ w.frozen? ⟨g, 4, none⟩ = false ∧ w.frozen? ⟨g, 5, none⟩ = false ∧ w.frozen? ⟨g, 6, none⟩ = false ∧ w.frozen? ⟨g, 7, none⟩ = false ∧ w.frozen? ⟨g, 8, none⟩ = false ∧ w.frozen? ⟨g, 9, none⟩ = false := by subst e; exact ⟨(blk_cell h 0).trans rfl, (blk_cell h 1).trans rfl, (blk_cell h 2).trans rfl, (blk_cell h 3).trans rfl, (blk_cell h 4).trans rfl, (blk_cell h 5).trans rfl, (blk_cell h 6).trans rfl, (blk_cell h 7).trans rfl, (blk_cell h 8).trans rfl, (blk_cell h 9).trans rfl, blk_frozen h 0, blk_frozen h 1, blk_frozen h 2, blk_frozen h 3, blk_frozen h 4, blk_frozen h 5, blk_frozen h 6, blk_frozen h 7, blk_frozen h 8, blk_frozen h 9⟩
theorem zc11 {w : World} {g : Nat} {t : TypeId} {cs : Array Value} (h : w.heap[g]? = some (.cells cs t (0, 0))) (a0 a1 a2 a3 a4 a5 a6 a7 a8 a9 a10 : Value) (e : cs = #[a0, a1, a2, a3, a4, a5, a6, a7, a8, a9, a10] := by rfl) : w.cell? ⟨g, 0, none⟩ = some a0 ∧ w.cell? ⟨g, 1, none⟩ = some a1 ∧ w.cell? ⟨g, 2, none⟩ = some a2 ∧ w.cell? ⟨g, 3, none⟩ = some a3 ∧ w.cell? ⟨g, 4, none⟩ = some a4 ∧ w.cell? ⟨g, 5, none⟩ = some a5 ∧ w.cell? ⟨g, 6, none⟩ = some a6 ∧ w.cell? ⟨g, 7, none⟩ = some a7 ∧ w.cell? ⟨g, 8, none⟩ = some a8 ∧ w.cell? ⟨g, 9, none⟩ = some a9 ∧ w.cell? ⟨g, 10, none⟩ = some a10 := by subst e; exact ⟨(blk_cell h 0).trans rfl, (blk_cell h 1).trans rfl, (blk_cell h 2).trans rfl, (blk_cell h 3).trans rfl, (blk_cell h 4).trans rfl, (blk_cell h 5).trans rfl, (blk_cell h 6).trans rfl, (blk_cell h 7).trans rfl, (blk_cell h 8).trans rfl, (blk_cell h 9).trans rfl, (blk_cell h 10).trans rfl⟩
theorem zf11 {w : World} {g : Nat} {t : TypeId} {cs : Array Value} (h : w.heap[g]? = some (.cells cs t (0, 0))) : w.frozen? ⟨g, 0, none⟩ = false ∧ w.frozen? ⟨g, 1, none⟩ = false ∧ w.frozen? ⟨g, 2, none⟩ = false ∧ w.frozen? ⟨g, 3, none⟩ = false ∧ w.frozen? ⟨g, 4, none⟩ = false ∧ w.frozen? ⟨g, 5, none⟩ = false ∧ w.frozen? ⟨g, 6, none⟩ = false ∧ w.frozen? ⟨g, 7, none⟩ = false ∧ w.frozen? ⟨g, 8, none⟩ = false ∧ w.frozen? ⟨g, 9, none⟩ = false ∧ w.frozen? ⟨g, 10, none⟩ = false := ⟨blk_frozen h 0, blk_frozen h 1, blk_frozen h 2, blk_frozen h 3, blk_frozen h 4, blk_frozen h 5, blk_frozen h 6, blk_frozen h 7, blk_frozen h 8, blk_frozen h 9, blk_frozen h 10⟩
theorem zd11 {w : World} {g : Nat} {t : TypeId} {cs : Array Value} (h : w.heap[g]? = some (.cells cs t (0, 0))) (a0 a1 a2 a3 a4 a5 a6 a7 a8 a9 a10 : Value) (e : cs = #[a0, a1, a2, a3, a4, a5, a6, a7, a8, a9, a10] := by rfl) : w.cell? ⟨g, 0, none⟩ = some a0 ∧ w.cell? ⟨g, 1, none⟩ = some a1 ∧ w.cell? ⟨g, 2, none⟩ = some a2 ∧ w.cell? ⟨g, 3, none⟩ = some a3 ∧ w.cell? ⟨g, 4, none⟩ = some a4 ∧ w.cell? ⟨g, 5, none⟩ = some a5 ∧ w.cell? ⟨g, 6, none⟩ = some a6 ∧ w.cell? ⟨g, 7, none⟩ = some a7 ∧ w.cell? ⟨g, 8, none⟩ = some a8 ∧ w.cell? ⟨g, 9, none⟩ = some a9 ∧ w.cell? ⟨g, 10, none⟩ = some a10 ∧ w.frozen? ⟨g, 0, none⟩ = false ∧ w.frozen? ⟨g, 1, none⟩ = false ∧ w.frozen? ⟨g, 2, none⟩ = false ∧ w.frozen? ⟨g, 3, none⟩ = false ∧ w.frozen? ⟨g, 4, none⟩ = false ∧ w.frozen? ⟨g, 5, none⟩ = false ∧ w.frozen? ⟨g, 6, none⟩ = false ∧ w.frozen? ⟨g, 7, none⟩ = false ∧ w.frozen? ⟨g, 8, none⟩ = false ∧ w.frozen? ⟨g, 9, none⟩ = false ∧ w.frozen? ⟨g, 10, none⟩ = false := by subst e; exact ⟨(blk_cell h 0).trans rfl, (blk_cell h 1).trans rfl, (blk_cell h 2).trans rfl, (blk_cell h 3).trans rfl, (blk_cell h 4).trans rfl, (blk_cell h 5).trans rfl, (blk_cell h 6).trans rfl, (blk_cell h 7).trans rfl, (blk_cell h 8).trans rfl, (blk_cell h 9).trans rfl, (blk_cell h 10).trans rfl, blk_frozen h 0, blk_frozen h 1, blk_frozen h 2, blk_frozen h 3, blk_frozen h 4, blk_frozen h 5, blk_frozen h 6, blk_frozen h 7, blk_frozen h 8, blk_frozen h 9, blk_frozen h 10⟩
theorem zc12 {w : World} {g : Nat} {t : TypeId} {cs : Array Value} (h : w.heap[g]? = some (.cells cs t (0, 0))) (a0 a1 a2 a3 a4 a5 a6 a7 a8 a9 a10 a11 : Value) (e : cs = #[a0, a1, a2, a3, a4, a5, a6, a7, a8, a9, a10, a11] := by rfl) : w.cell? ⟨g, 0, none⟩ = some a0 ∧ w.cell? ⟨g, 1, none⟩ = some a1 ∧ w.cell? ⟨g, 2, none⟩ = some a2 ∧ w.cell? ⟨g, 3, none⟩ = some a3 ∧ w.cell? ⟨g, 4, none⟩ = some a4 ∧ w.cell? ⟨g, 5, none⟩ = some a5 ∧ w.cell? ⟨g, 6, none⟩ = some a6 ∧ w.cell? ⟨g, 7, none⟩ = some a7 ∧ w.cell? ⟨g, 8, none⟩ = some a8 ∧ w.cell? ⟨g, 9, none⟩ = some a9 ∧ w.cell? ⟨g, 10, none⟩ = some a10 ∧ w.cell? ⟨g, 11, none⟩ = some a11 := by subst e; exact ⟨(blk_cell h 0).trans rfl, (blk_cell h 1).trans rfl, (blk_cell h 2).trans rfl, (blk_cell h 3).trans rfl, (blk_cell h 4).trans rfl, (blk_cell h 5).trans rfl, (blk_cell h 6).trans rfl, (blk_cell h 7).trans rfl, (blk_cell h 8).trans rfl, (blk_cell h 9).trans rfl, (blk_cell h 10).trans rfl, (blk_cell h 11).trans rfl⟩
theorem zf12 {w : World} {g : Nat} {t : TypeId} {cs : Array Value} (h : w.heap[g]? = some (.cells cs t (0, 0))) : w.frozen? ⟨g, 0, none⟩ = false ∧ w.frozen? ⟨g, 1, none⟩ = false ∧ w.frozen? ⟨g, 2, none⟩ = false ∧ w.frozen? ⟨g, 3, none⟩ = false ∧ w.frozen? ⟨g, 4, none⟩ = false ∧ w.frozen? ⟨g, 5, none⟩ = false ∧ w.frozen? ⟨g, 6, none⟩ = false ∧ w.frozen? ⟨g, 7, none⟩ = false ∧ w.frozen? ⟨g, 8, none⟩ = false ∧ w.frozen? ⟨g, 9, none⟩ = false ∧ w.frozen? ⟨g, 10, none⟩ = false ∧ w.frozen? ⟨g, 11, none⟩ = false := ⟨blk_frozen h 0, blk_frozen h 1, blk_frozen h 2, blk_frozen h 3, blk_frozen h 4, blk_frozen h 5, blk_frozen h 6, blk_frozen h 7, blk_frozen h 8, blk_frozen h 9, blk_frozen h 10, blk_frozen h 11⟩
theorem zd12 {w : World} {g : Nat} {t : TypeId} {cs : Array Value} (h : w.heap[g]? = some (.cells cs t (0, 0))) (a0 a1 a2 a3 a4 a5 a6 a7 a8 a9 a10 a11 : Value) (e : cs = #[a0, a1, a2, a3, a4, a5, a6, a7, a8, a9, a10, a11] := by rfl) : w.cell? ⟨g, 0, none⟩ = some a0 ∧ w.cell? ⟨g, 1, none⟩ = some a1 ∧ w.cell? ⟨g, 2, none⟩ = some a2 ∧ w.cell? ⟨g, 3, none⟩ = some a3 ∧ w.cell? ⟨g, 4, none⟩ = some a4 ∧ w.cell? ⟨g, 5, none⟩ = some a5 ∧ w.cell? ⟨g, 6, none⟩ = some a6 ∧ w.cell? ⟨g, 7, none⟩ = some a7 ∧ w.cell? ⟨g, 8, none⟩ = some a8 ∧ w.cell? ⟨g, 9, none⟩ = some a9 ∧ w.cell? ⟨g, 10, none⟩ = some a10 ∧ w.cell? ⟨g, 11, none⟩ = some a11 ∧ w.frozen? ⟨g, 0, none⟩ = false ∧ w.frozen? ⟨g, 1, none⟩ = false ∧ w.frozen? ⟨g, 2, none⟩ = false ∧ w.frozen? ⟨g, 3, none⟩ = false ∧ w.frozen? ⟨g, 4, none⟩ = false ∧ w.frozen? ⟨g, 5, none⟩ = false ∧ w.frozen? ⟨g, 6, none⟩ = false ∧ w.frozen? ⟨g, 7, none⟩ = false ∧ w.frozen? ⟨g, 8, none⟩ = false ∧ w.frozen? ⟨g, 9, none⟩ = false ∧ w.frozen? ⟨g, 10, none⟩ = false ∧ w.frozen? ⟨g, 11, none⟩ = false := by subst e; exact ⟨(blk_cell h 0).trans rfl, (blk_cell h 1).trans rfl, (blk_cell h 2).trans rfl, (blk_cell h 3).trans rfl, (blk_cell h 4).trans rfl, (blk_cell h 5).trans rfl, (blk_cell h 6).trans rfl, (blk_cell h 7).trans rfl, (blk_cell h 8).trans rfl, (blk_cell h 9).trans rfl, (blk_cell h 10).trans rfl, (blk_cell h 11).trans rfl, blk_frozen h 0, blk_frozen h 1, blk_frozen h 2, blk_frozen h 3, blk_frozen h 4, blk_frozen h 5, blk_frozen h 6, blk_frozen h 7, blk_frozen h 8, blk_frozen h 9, blk_frozen h 10, blk_frozen h 11⟩
end Go.Proofs.YtngppcmdaanheaaW.PrintWords
/- Short words for the steps of a region whose order is drawn, as walks by hand take them again and again (HT_, HW_, hHeld: the caller's names). No condition. -/
namespace Go.Proofs.YtngppcmdaanheaaW.PrintLast
open Go.RowKit Go.Proofs.YtngppcmdaanheaaW.PrintWords
set_option linter.unusedVariables false
theorem zs0 (a : Act) (n : Tmp) (v : Value) : a.put (some n) v = { a with tmps := a.tmps.setIfInBounds n v } := rfl
theorem zs : (∀ (a : Act) (n : Tmp) (v : Value), a.put (some n) v = { a with tmps := a.tmps.setIfInBounds n v }) ∧ (∀ (l : List Value) (i : Nat) (v : Value), l.toArray.setIfInBounds i v = (l.set i v).toArray) ∧ (∀ (x y : Value) (l : List Value), (x :: l).set 0 y = y :: l) ∧ (∀ (x y : Value) (l : List Value) (n : Nat), (x :: l).set (n + 1) y = x :: l.set n y) ∧ (∀ z : Int, IntKind.i64.wrap z = wrap64 z) ∧ ∀ z : Int, IntKind.i32.wrap z = wrap32 z :=
  ⟨zs0, fun _ _ _ => by simp, fun _ _ _ => rfl, fun _ _ _ _ => rfl, fun z => by rw [i64_w], fun z => by rw [i32_w]⟩
theorem zl : (∀ (l : List Bool) (i : Nat) (v : Bool), l.toArray.setIfInBounds i v = (l.set i v).toArray) ∧ (∀ (x y : Bool) (l : List Bool), (x :: l).set 0 y = y :: l) ∧ ∀ (x y : Bool) (l : List Bool) (n : Nat), (x :: l).set (n + 1) y = x :: l.set n y :=
  ⟨fun _ _ _ => by simp, fun _ _ _ => rfl, fun _ _ _ _ => rfl⟩
theorem zm {p : Prop} (h : p) : Aside0 p := ⟨h⟩
theorem zH {w w' : World} {p : Addr} {v : Value} (h : Below w.heap.size w w') (hx : w.cell? p = some v) : w'.cell? p = some v := (h.cell (World.block_lt_of_cell? w _ hx)).trans hx
theorem zj {w : World} {g : Nat} {t : TypeId} {cs : Array Value} (h : w.heap[g]? = some (.cells cs t (0, 0))) (i : Nat) {v : Value} (e : cs[i]? = some v := by rfl) : w.cell? ⟨g, i, none⟩ = some v := (blk_cell h i).trans e
theorem zC {p q : Prop} (e : q) (h : q → p := by intro e; repeat (first | exact e | (with_reducible refine Kd.C_alloc ?_ _) | (with_reducible refine Kd.C_drewN ?_ _) | (with_reducible refine Kd.C_drew ?_))) : p := h e
section
variable {P : Program} {md : Region.Mode} {ops : Array Oper} {Q : Exit → Act → World → Prop} {S : World → Prop} {ds : List Nat}
theorem zp (i N : Nat) {oi : Oper} {v : Value} {fuel : Nat} {l l' : Array Bool} {a : Act} {w : World} {a' : Act} (hi : ops[i]? = some oi := by rfl) (hN : oi.dst = some N := by rfl) (hl : l.setIfInBounds i true = l' := by simp only [zl]; rfl) (hc : anyB md ops l l' i = true := by exact any_of HT_.out (by kernel_rfl))
    (hQ : ∀ c a w, Q (.panic c) (a.put oi.dst v) w → Q (.panic c) a w := by exact fun _ _ _ h => h) (hy1 : Region.wanted oi (yielded ops a.tmps) = true := by rfl) (hy : ∀ w, (execOp a.eval oi).run P w = .ok (.value v) w := by intro w'; go_simp; with_reducible rfl) (ha : a.put (some N) v = a' := by simp only [zs]; rfl)
    (h : wpAnyLast P md ops Q S ds fuel l' a' w) : wpAnyLast P md ops Q S ds (fuel + 1) l a w := pure_ l' hi hN hc hQ (.inl ⟨hy1, hy⟩) ha h
theorem zu (i N : Nat) {oi : Oper} {fuel : Nat} {l l' : Array Bool} {a : Act} {w : World} {a' : Act} (hi : ops[i]? = some oi := by rfl) (hN : oi.dst = some N := by rfl) (hl : l.setIfInBounds i true = l' := by simp only [zl]; rfl) (hc : anyB md ops l l' i = true := by exact any_of HT_.out (by kernel_rfl))
    (hQ : ∀ c a w, Q (.panic c) (a.put oi.dst undef) w → Q (.panic c) a w := by exact fun _ _ _ h => h) (hy1 : Region.wanted oi (yielded ops a.tmps) = false := by rfl) (ha : a.put (some N) undef = a' := by simp only [zs]; rfl)
    (h : wpAnyLast P md ops Q S ds fuel l' a' w) : wpAnyLast P md ops Q S ds (fuel + 1) l a w := pure_ l' hi hN hc hQ (.inr ⟨hy1, rfl⟩) ha h
theorem zt (i N : Nat) {oi : Oper} {v : Value} {fuel : Nat} {l l' : Array Bool} {a : Act} {w : World} {a' : Act} (hi : ops[i]? = some oi := by rfl) (hN : oi.dst = some N := by rfl) (hl : l.setIfInBounds i true = l' := by simp only [zl]; rfl) (hc : takeB md ops ds l l' i = true := by exact take_ofW HT_.out HW_.out (by kernel_rfl))
    (hQ : ∀ c a w, Q (.panic c) (a.put oi.dst v) w → Q (.panic c) a w := by exact fun _ _ _ h => h) (hy1 : Region.wanted oi (yielded ops a.tmps) = true := by rfl) (hS : S w := by exact hHeld) (hy : ∀ w, S w → (execOp a.eval oi).run P w = .ok (.value v) w) (ha : a.put (some N) v = a' := by simp only [zs]; rfl)
    (h : wpAnyLast P md ops Q S ds fuel l' a' w) : wpAnyLast P md ops Q S ds (fuel + 1) l a w := take_ l' hi hN hc hQ (.inl ⟨hy1, hy⟩) hS ha h
theorem zo (i N : Nat) {oi : Oper} {fuel : Nat} {l l' : Array Bool} {a : Act} {w : World} (hi : ops[i]? = some oi := by rfl) (hN : oi.dst = some N := by rfl) (hl : l.setIfInBounds i true = l' := by simp only [zl]; rfl) (hc : readyB md ops l l' i = true := by exact one_of HT_.out (by kernel_rfl)) (hd : i ∉ ds := by decide)
    (h : ∀ K : Act → World → Prop, Shut (∀ a' w', S w' → (S w' → wpAnyLast P md ops Q S ds fuel l' a' w') → K a' w') → if Region.wanted oi (yielded ops a.tmps) = true then Oper.wp P oi a w K Q else K (a.put (some N) undef) w) :
    wpAnyLast P md ops Q S ds (fuel + 1) l a w := one_ l' hi hN hc hd h
theorem zn {fuel : Nat} {l : Array Bool} {a a' : Act} {w : World} {N : Nat} {v : Value} (ha : a.put (some N) v = a' := by simp only [zs]; rfl) (h : wpAnyLast P md ops Q S ds fuel l a' w) : wpAnyLast P md ops Q S ds fuel l (a.put (some N) v) w := norm_ ha h
theorem zg {oi : Oper} {N : Option Tmp} {a : Act} {w : World} {K : Act → World → Prop} {f : FuncId} {fn : Func} {az : Array Operand} {ts : Array TypeId} (hf : P.funcs[f]? = some fn) (args : Array Value)
    (hname : (fn.name == "runtime.NumGoroutine") = false := by kernel_rfl) (hb : fn.body.isSome = true := by rfl) (hw : Region.wanted oi (yielded ops a.tmps) = true := by rfl) (hN : oi.dst = N := by rfl) (hop : oi.op = .call { callee := .value (.func f), args := az, argTypes := ts } := by rfl) (hargs : az.map a.eval = args := by (try simp only [List.map_toArray, List.map_cons, List.map_nil]); first | done | rfl)
    (h : Calls P f args w fun e w' => ∃ v, e = .returned v ∧ K (a.put N v) w') : if Region.wanted oi (yielded ops a.tmps) = true then Oper.wp P oi a w K Q else K (a.put N undef) w := goes_ hf hname hb args hw hN hop hargs h
end
end Go.Proofs.YtngppcmdaanheaaW.PrintLast
namespace Go.Proofs.Ytngppcmdaanheaa.Sets
open Go.Lib
set_option linter.unusedVariables false
def sset (xs : List Int) : List Int := Lib.compact (xs.mergeSort fun x y => decide (x ≤ y))
theorem getBang (zs : List Int) (m : Nat) (h : m < zs.length) : zs.toArray[m]! = zs[m] := by
 rw [getElem!_pos zs.toArray m (by simpa using h)]
 simp
theorem compactUpTo_sorted (zs : List Int) (hs : zs.Pairwise (· ≤ ·)) : ∀ m, m ≤ zs.length →
  (compactUpTo zs.toArray m).Pairwise (· < ·) ∧ (∀ x, x ∈ compactUpTo zs.toArray m ↔ x ∈ zs.take m) ∧ ∀ x ∈ compactUpTo zs.toArray m, ∀ (h : 0 < m) (h2 : m - 1 < zs.length), x ≤ zs[m - 1]
 | 0, _ => by
  have h0 : compactUpTo zs.toArray 0 = [] := by
   cases hc : compactUpTo zs.toArray 0 with
   | nil => rfl
   | cons a l => simp [compactUpTo] at hc
  rw [h0]
  simp
 | m + 1, hm => by
  obtain ⟨h1, h2, h3⟩ := compactUpTo_sorted zs hs m (by omega)
  have hlt : m < zs.length := by omega
  rw [compactUpTo_succ, getBang zs m hlt]
  have htk : zs.take (m + 1) = zs.take m ++ [zs[m]] := by rw [List.take_succ_eq_append_getElem hlt]
  have hle : ∀ x ∈ compactUpTo zs.toArray m, x ≤ zs[m] := by
   intro x hx
   have hx' := (h2 x).1 hx
   obtain ⟨i, hi, rfl⟩ := List.mem_iff_getElem.1 hx'
   rw [List.length_take] at hi
   rw [List.getElem_take]
   exact (List.pairwise_iff_getElem.1 hs) i m (by omega) hlt (by omega)
  by_cases hk : keeps zs.toArray m = true
  ·rw [if_pos hk]
   have hstrict : ∀ x ∈ compactUpTo zs.toArray m, x < zs[m] := by
    intro x hx
    rcases Nat.eq_zero_or_pos m with h0 | h0
    ·subst h0
     have := (h2 x).1 hx
     simp at this
    ·have ha := h3 x hx h0 (by omega)
     have hne : zs[m] ≠ zs[m - 1] := by
      intro e
      have := keeps_neg (d := zs.toArray) h0 (by rw [getBang zs m hlt, getBang zs (m - 1) (by omega)]; exact e)
      rw [this] at hk
      cases hk
     have hb := (List.pairwise_iff_getElem.1 hs) (m - 1) m (by omega) hlt (by omega)
     omega
   refine ⟨?_, ?_, ?_⟩
   ·rw [List.pairwise_append]
    exact ⟨h1, by simp, fun a ha b hb => by simp at hb; subst hb; exact hstrict a ha⟩
   ·intro x
    rw [htk, List.mem_append, List.mem_append, h2]
   ·intro x hx _ _
    simp only [Nat.add_sub_cancel]
    rw [List.mem_append] at hx
    rcases hx with hx | hx
    ·exact hle x hx
    ·simp at hx; omega
  ·rw [if_neg hk, List.append_nil]
   have h0 : 0 < m := by
    rcases Nat.eq_zero_or_pos m with h0 | h0
    ·subst h0
     exact absurd (keeps_lt_one zs.toArray 0 (by omega)) hk
    ·exact h0
   have he : zs[m] = zs[m - 1] := by
    by_cases e : zs[m] = zs[m - 1]
    ·exact e
    ·exact absurd (keeps_pos (d := zs.toArray) (m := m) (by rw [getBang zs m hlt, getBang zs (m - 1) (by omega)]; exact e)) hk
   refine ⟨h1, ?_, ?_⟩
   ·intro x
    rw [htk, List.mem_append, h2]
    constructor
    ·exact .inl
    ·rintro (h | h)
     ·exact h
     ·simp at h
      rw [h, he]
      exact List.mem_iff_getElem.2 ⟨m - 1, by rw [List.length_take]; omega, by rw [List.getElem_take]⟩
   ·intro x hx _ _
    simp only [Nat.add_sub_cancel]
    exact hle x hx
theorem sset_facts (xs : List Int) : (sset xs).Pairwise (· < ·) ∧ ∀ x, x ∈ sset xs ↔ x ∈ xs := by
 have hs : (xs.mergeSort fun x y => decide (x ≤ y)).Pairwise (· ≤ ·) := by
  have := List.pairwise_mergeSort (le := fun x y : Int => decide (x ≤ y)) (fun a b c h1 h2 => by simp at *; omega) (fun a b => by simp; omega) xs
  exact this.imp (fun h => by simpa using h)
 obtain ⟨h1, h2, _⟩ := compactUpTo_sorted _ hs _ (Nat.le_refl _)
 refine ⟨h1, fun x => ?_⟩
 have := h2 x
 rw [List.take_length] at this
 rw [show sset xs = compactUpTo (xs.mergeSort fun x y => decide (x ≤ y)).toArray (xs.mergeSort fun x y => decide (x ≤ y)).length from rfl, this]
 exact (List.mergeSort_perm xs _).mem_iff
end Go.Proofs.Ytngppcmdaanheaa.Sets
namespace Go.Proofs.Ytngppcmdaanheaa.Reach
open Go.Proofs.Ytngppcmdaanheaa.Sets
set_option linter.unusedVariables false
inductive Leads (es : List (Int × Int)) : Int → Prop
 | zero : Leads es 0
 | step {a b : Int} : Leads es a → (a, b) ∈ es → Leads es b
def grow (es : List (Int × Int)) : Nat → List Int → List Int
 | 0, S => S
 | k + 1, S => match es.find? (fun e => S.contains e.1 && !S.contains e.2) with
  | none => S
  | some e => grow es k (S ++ [e.2])
theorem grow_sub {es : List (Int × Int)} : ∀ (k : Nat) {S : List Int} {x : Int}, x ∈ S → x ∈ grow es k S
 | 0, S, x, h => h
 | k + 1, S, x, h => by
  unfold grow
  split
  ·exact h
  ·exact grow_sub k (List.mem_append_left _ h)
theorem grow_sound {es : List (Int × Int)} : ∀ (k : Nat) {S : List Int}, (∀ x ∈ S, Leads es x) → ∀ x ∈ grow es k S, Leads es x
 | 0, S, h => h
 | k + 1, S, h => by
  unfold grow
  split
  ·exact h
  ·rename_i e he
   refine grow_sound k (fun x hx => ?_)
   rcases List.mem_append.1 hx with hx | hx
   ·exact h x hx
   ·obtain rfl := List.mem_singleton.1 hx
    have h1 := List.find?_some he
    simp only [Bool.and_eq_true, List.contains_iff_mem] at h1
    exact .step (h _ h1.1) (List.mem_of_find?_eq_some he)
theorem filter_lt {α : Type} {p q : α → Bool} (hpq : ∀ x, q x = true → p x = true) {x : α} : ∀ {l : List α}, x ∈ l → p x = true → q x = false → (l.filter q).length < (l.filter p).length
 | y :: l, hx, hp, hq => by
  have hle : ∀ l : List α, (l.filter q).length ≤ (l.filter p).length := by
   intro l
   induction l with
   | nil => simp
   | cons z l ih =>
    rw [List.filter_cons, List.filter_cons]
    by_cases h : q z = true
    ·rw [if_pos h, if_pos (hpq z h)]; simpa using ih
    ·rw [if_neg h]; split
     ·rw [List.length_cons]; omega
     ·exact ih
  rw [List.filter_cons, List.filter_cons]
  rcases List.mem_cons.1 hx with rfl | hx
  ·rw [if_neg (by simp [hq]), if_pos hp]
   have := hle l
   rw [List.length_cons]; omega
  ·have ih := filter_lt hpq hx hp hq
   by_cases h : q y = true
   ·rw [if_pos h, if_pos (hpq y h)]; simpa using ih
   ·rw [if_neg h]; split
    ·rw [List.length_cons]; omega
    ·exact ih
theorem grow_closed {es : List (Int × Int)} : ∀ (k : Nat) {S : List Int}, (es.filter (fun e => !S.contains e.2)).length ≤ k → ∀ e ∈ es, e.1 ∈ grow es k S → e.2 ∈ grow es k S
 | 0, S, h, e, he, h1 => by
  unfold grow
  have h0 : es.filter (fun e => !S.contains e.2) = [] := List.eq_nil_of_length_eq_zero (by omega)
  rw [List.filter_eq_nil_iff] at h0
  have h1 := h0 e he
  rwa [Bool.not_eq_true', Bool.not_eq_false, List.contains_iff_mem] at h1
 | k + 1, S, h, e, he, h1 => by
  unfold grow at h1 ⊢
  split at h1 <;> rename_i hf
  ·rw [List.find?_eq_none] at hf
   have := hf e he
   simp only [Bool.and_eq_true, List.contains_iff_mem, Bool.not_eq_true', not_and, Bool.not_eq_false] at this
   exact this h1
  ·rename_i e'
   refine grow_closed k ?_ e he h1
   have hs := List.find?_some hf
   have hm := List.mem_of_find?_eq_some hf
   simp only [Bool.and_eq_true] at hs
   have hlt := filter_lt (p := fun e : Int × Int => !S.contains e.2) (q := fun e : Int × Int => !(S ++ [e'.2]).contains e.2) (fun x hx => by
    simp only [Bool.not_eq_true', Bool.eq_false_iff] at hx ⊢
    intro hc
    exact hx (List.contains_iff_mem.2 (List.mem_append_left _ (List.contains_iff_mem.1 hc)))) hm hs.2 (by simp)
   omega
def reachL (es : List (Int × Int)) : List Int := sset (grow es es.length [0])
theorem mem_reachL (es : List (Int × Int)) (x : Int) : x ∈ reachL es ↔ Leads es x := by
 unfold reachL
 rw [(sset_facts _).2]
 constructor
 ·exact fun h => grow_sound _ (fun y hy => by obtain rfl := List.mem_singleton.1 hy; exact .zero) x h
 ·intro h
  induction h with
  | zero => exact grow_sub _ (by simp)
  | step _ he ih => exact grow_closed _ (List.length_filter_le _ _) _ he ih
/-! ### going by a queue -/
def pushL (q : List Int) (x : Int) : List Int := if x ∈ q then q else q ++ [x]
theorem mem_pushL (q : List Int) (x y : Int) : y ∈ pushL q x ↔ y ∈ q ∨ y = x := by
 unfold pushL
 split
 ·rename_i h
  constructor
  ·exact .inl
  ·rintro (h' | rfl) <;> assumption
 ·simp
theorem nodup_pushL {q : List Int} (x : Int) (h : q.Nodup) : (pushL q x).Nodup := by
 unfold pushL
 split
 ·exact h
 ·rename_i hx
  rw [List.nodup_append]
  exact ⟨h, by simp, fun a ha b hb => by simp at hb; subst hb; rintro rfl; exact hx ha⟩
def pushes (n : Int) (q : List Int) (es : List (Int × Int)) : List Int := es.foldl (fun q e => if e.1 = n then pushL q e.2 else q) q
theorem mem_pushes (n : Int) (es : List (Int × Int)) : ∀ (q : List Int) (y : Int), y ∈ pushes n q es ↔ y ∈ q ∨ (n, y) ∈ es := by
 induction es with
 | nil => intro q y; simp [pushes]
 | cons e es ih =>
  intro q y
  have h1 : pushes n q (e :: es) = pushes n (if e.1 = n then pushL q e.2 else q) es := rfl
  rw [h1, ih]
  obtain ⟨a, b⟩ := e
  simp only [List.mem_cons, Prod.mk.injEq]
  by_cases h : a = n
  ·subst h
   simp only [if_pos, mem_pushL, true_and]
   constructor
   ·rintro ((h | h) | h) <;> simp [h]
   ·rintro (h | h | h) <;> simp [h]
  ·rw [if_neg h]
   constructor
   ·rintro (h' | h') <;> simp [h']
   ·rintro (h' | ⟨h', _⟩ | h')
    ·exact .inl h'
    ·exact absurd h'.symm h
    ·exact .inr h'
theorem nodup_pushes (n : Int) (es : List (Int × Int)) : ∀ (q : List Int), q.Nodup → (pushes n q es).Nodup := by
 induction es with
 | nil => intro q h; exact h
 | cons e es ih =>
  intro q h
  have h1 : pushes n q (e :: es) = pushes n (if e.1 = n then pushL q e.2 else q) es := rfl
  rw [h1]
  refine ih _ ?_
  split
  ·exact nodup_pushL _ h
  ·exact h
theorem nodup_le {α : Type} [DecidableEq α] : ∀ {a b : List α}, a.Nodup → (∀ x ∈ a, x ∈ b) → a.length ≤ b.length
 | [], b, _, _ => by simp
 | x :: a, b, hn, hs => by
  have hn' := List.nodup_cons.1 hn
  have hx : x ∈ b := hs x (by simp)
  have h1 := nodup_le (a := a) (b := b.erase x) hn'.2 (fun y hy => (List.mem_erase_of_ne (by rintro rfl; exact hn'.1 hy)).2 (hs y (by simp [hy])))
  have h2 := List.length_erase_of_mem hx
  have h3 : 0 < b.length := List.length_pos_of_mem hx
  simp; omega
def left (es : List (Int × Int)) (met q : List Int) : Nat := (es.length + 1 - met.length) * (es.length + 2) + q.length
end Go.Proofs.Ytngppcmdaanheaa.Reach
namespace Go.Proofs.Ytngppcmdaanheaa.Iter
open Go.RowKit
set_option linter.unusedVariables false
structure Chg (S : Nat → Prop) (W W' : World) : Prop where
 os : W'.os = W.os
 tape : W'.tape = W.tape
 output : W'.output = W.output
 size : W.heap.size ≤ W'.heap.size
 block : ∀ k, k < W.heap.size → ¬ S k → W'.heap[k]? = W.heap[k]?
theorem Chg.refl (S : Nat → Prop) (W : World) : Chg S W W := ⟨rfl, rfl, rfl, Nat.le_refl _, fun _ _ _ => rfl⟩
theorem Chg.mono {S T : Nat → Prop} {W W' : World} (h : Chg S W W') (hs : ∀ k, k < W.heap.size → S k → T k) : Chg T W W' :=
 ⟨h.os, h.tape, h.output, h.size, fun k hk hn => h.block k hk (fun hS => hn (hs k hk hS))⟩
theorem Chg.trans {S T : Nat → Prop} {A B C : World} (h : Chg S A B) (k : Chg T B C) (hT : ∀ i, T i → S i ∨ A.heap.size ≤ i) : Chg S A C :=
 ⟨k.os.trans h.os, k.tape.trans h.tape, k.output.trans h.output, Nat.le_trans h.size k.size, fun i hi hn =>
  (k.block i (Nat.lt_of_lt_of_le hi h.size) (fun hTi => (hT i hTi).elim hn (fun h' => by omega))).trans (h.block i hi hn)⟩
theorem Chg.then_ {S : Nat → Prop} {A B C : World} (h : Chg S A B) (k : Chg S B C) : Chg S A C := h.trans k (fun _ hi => .inl hi)
theorem Chg.alloc {S : Nat → Prop} {A B : World} (h : Chg S A B) (o : Obj) : Chg S A (B.alloc o) :=
 h.then_ ⟨rfl, rfl, rfl, by simp, fun k hk _ => Below.heap_alloc _ _ _ hk⟩
theorem Chg.setCell {S : Nat → Prop} {A B : World} (h : Chg S A B) {p : Addr} (hp : S p.block ∨ A.heap.size ≤ p.block) (u : Value) : Chg S A (B.setCell p u) :=
 h.trans (T := fun k => k = p.block) ⟨rfl, rfl, rfl, by simp [World.setCell], fun k _ hn => Below.heap_setCell _ _ _ _ hn⟩ (fun k hk => by rw [hk]; exact hp)
theorem Chg.putObj {S : Nat → Prop} {A B : World} (h : Chg S A B) {l : Nat} (hl : S l ∨ A.heap.size ≤ l) (o : Obj) : Chg S A (B.putObj l o) :=
 h.trans (T := fun k => k = l) ⟨rfl, rfl, rfl, by simp, fun k _ hn => World.putObj_heap_other hn⟩ (fun k hk => by rw [hk]; exact hl)
theorem Chg.put1 (A : World) (l : Nat) (o : Obj) : Chg (fun i => i = l) A (A.putObj l o) := (Chg.refl (fun i => i = l) A).putObj (.inl rfl) o
theorem Chg.grown {S : Nat → Prop} {A B C : World} {row : Option Nat} (h : Chg S A B) (hg : B.grownBy C row) (hr : ∀ k, row = some k → S k ∨ A.heap.size ≤ k) : Chg S A C :=
 h.trans (T := fun k => row = some k) ⟨hg.os, hg.tape, hg.output, hg.size, fun k hk hn => hg.block k hk (fun e => hn e.symm)⟩ hr
theorem Chg.of_grown {A B : World} {row : Option Nat} (hg : A.grownBy B row) : Chg (fun k => row = some k) A B := ⟨hg.os, hg.tape, hg.output, hg.size, fun k hk hn => hg.block k hk (fun e => hn e.symm)⟩
theorem Chg.then_below {S : Nat → Prop} {A B C : World} (h : Chg S A B) (hb : Below B.heap.size B C) : Chg S A C :=
 h.trans (T := fun _ => False) ⟨hb.os, hb.tape, hb.output, hb.size, fun k hk _ => hb.block k hk⟩ (fun _ hk => hk.elim)
theorem Chg.of_below {A B : World} (hb : Below A.heap.size A B) (S : Nat → Prop) : Chg S A B := ⟨hb.os, hb.tape, hb.output, hb.size, fun k hk _ => hb.block k hk⟩
theorem Chg.below {A B : World} {S : Nat → Prop} (h : Chg S A B) {n : Nat} (hn : n ≤ A.heap.size) (hS : ∀ k, S k → n ≤ k) : Below n A B :=
 ⟨h.os, h.tape, h.output, h.size, fun k hk => h.block k (by omega) (fun hs => by have := hS k hs; omega)⟩
theorem Chg.blk {S : Nat → Prop} {A B : World} (h : Chg S A B) {k : Nat} {o : Obj} (hk : A.heap[k]? = some o) (hn : ¬ S k) : B.heap[k]? = some o :=
 (h.block k (Array.getElem?_eq_some_iff.1 hk).1 hn).trans hk
theorem Chg.cell {S : Nat → Prop} {A B : World} (h : Chg S A B) {a : Addr} {v : Value} (hc : A.cell? a = some v) (hn : ¬ S a.block) : B.cell? a = some v := by
 have := h.block a.block (World.block_lt_of_cell? A a hc) hn
 simpa [World.cell?, this] using hc
def Abide (B0 : Nat) (J : (Nat → Prop) → World → Prop) : Prop :=
 ∀ (O : Nat → Prop) (A B : World) (T : Nat → Prop), J O A → Chg T A B → (∀ i, T i → B0 ≤ i ∧ ¬ O i) → J O B
def Grow (O : Nat → Prop) (W : World) (O2 : Nat → Prop) (W' : World) : Prop := ∀ i, O2 i → (O i ∨ W.heap.size ≤ i) ∧ i < W'.heap.size
theorem Grow.same {O : Nat → Prop} {W W' : World} (hO : ∀ i, O i → i < W.heap.size) (hs : W.heap.size ≤ W'.heap.size) : Grow O W O W' := fun i hi => ⟨.inl hi, Nat.lt_of_lt_of_le (hO i hi) hs⟩
def IterOK {α : Type} (P : Program) (gf : Nat) (lb : Array Value) (encs : α → Array Value) (xs : List α) (B0 : Nat) (Oi : Nat → Prop) (w : World) : Prop :=
 ∀ (l : Nat) (J : Nat → (Nat → Prop) → World → Prop) (Jx : Nat → (Nat → Prop) → World → Prop) (O : Nat → Prop) (W : World),
  Chg (fun i => O i ∧ w.heap.size ≤ i) w W → (∀ i, O i → ¬ Oi i ∧ B0 ≤ i ∧ i < W.heap.size) → (∀ k, Abide B0 (J k)) → (∀ k, Abide B0 (Jx k)) →
  (∀ k (x : α) (O1 : Nat → Prop) (W1 : World), xs[k]? = some x → J k O1 W1 → (∀ i, O1 i → i < W1.heap.size) → YieldAt Fence.wide 0 P l (encs x) W1 fun e W' =>
   (e = .returned (.bool true) ∧ (∃ O2 : Nat → Prop, Grow O1 W1 O2 W' ∧ J (k + 1) O2 W') ∧ Chg O1 W1 W') ∨ (e = .returned (.bool false) ∧ (∃ O2 : Nat → Prop, Grow O1 W1 O2 W' ∧ Jx k O2 W') ∧ Chg O1 W1 W')) →
  J 0 O W →
  Calls P gf (#[.func (.yield l) #[] #[]] ++ lb) W fun e W' => (∃ v, e = .returned v) ∧ ((∃ O2, J xs.length O2 W') ∨ (∃ k O2, k < xs.length ∧ Jx k O2 W'))
def rPost (I : Nat → (Nat → Prop) → World → Prop) (Ix : Code → Nat → (Nat → Prop) → World → Prop) (k : Nat) (O : Nat → Prop) (W : World) : Exit → Act → World → Prop
 | .normal, _, W' => Chg O W W' ∧ ∃ O2 : Nat → Prop, Grow O W O2 W' ∧ I (k + 1) O2 W'
 | .ret, _, W' => Chg O W W' ∧ ∃ O2 : Nat → Prop, Grow O W O2 W' ∧ Ix .ret k O2 W'
 | .exit id, _, W' => Chg O W W' ∧ ∃ O2 : Nat → Prop, Grow O W O2 W' ∧ Ix (.exit id) k O2 W'
 | .goto t, _, W' => Chg O W W' ∧ ∃ O2 : Nat → Prop, Grow O W O2 W' ∧ Ix (.goto t) k O2 W'
 | .panic _, _, _ => False
 | .outgrown, _, _ => False
variable {P : Program}
theorem wp_rangeFunc_own {α : Type} {g : Operand} {ps : Array Tmp} {assign body : Code} {Q : Exit → Act → World → Prop} {a : Act} {w : World} {gf : Nat} {lb : Array Value}
  (hg : a.eval g = .func (.func gf) #[] lb) (eg : ∀ args w, (callFunc gf args).run P w = .ok (.enter gf args) w)
  {encs : α → Array Value} {xs : List α} {B0 : Nat} {Oi : Nat → Prop} {w0 : World} (hit : IterOK P gf lb encs xs B0 Oi w0) (hps : ∀ x, (encs x).size = ps.size)
  (O : Nat → Prop) (hB0 : B0 ≤ w.heap.size) (hO : ∀ i, O i → B0 ≤ i ∧ i < w.heap.size ∧ ¬ Oi i) (hOi : ∀ i, Oi i → i < w.heap.size) (hw0 : Chg (fun i => O i ∧ w0.heap.size ≤ i) w0 w)
  (I : Nat → (Nat → Prop) → World → Prop) (Ix : Code → Nat → (Nat → Prop) → World → Prop) (Ax : α → (Nat → Prop) → Act → World → Prop)
  (hI : ∀ k, Abide B0 (I k)) (hAx : ∀ x a', Abide B0 (fun O W => Ax x O a' W)) (hIx : ∀ c k, Abide B0 (Ix c k))
  (h0 : I 0 O w)
  (hassign : ∀ (l k : Nat) (x : α) (O1 : Nat → Prop) (W : World) (K : Act → World → Prop), xs[k]? = some x → I k O1 W →
   (∀ i, O1 i → i < W.heap.size) → (∀ a' W' (O2 : Nat → Prop), Chg O1 W W' → Grow O1 W O2 W' → I k O2 W' → Ax x O2 a' W' → K a' W') →
   assign.wpIn (Fence.wide.inRound l) 0 P (Exit.then K (fun _ _ _ => False)) { tmps := (ps.zip (encs x)).foldl (fun t (p, v) => t.setIfInBounds p v) a.tmps, defers := [] } W)
  (hbody : ∀ (l k : Nat) (x : α) (O1 : Nat → Prop) (a' : Act) (W : World), xs[k]? = some x → (∀ i, O1 i → i < W.heap.size) → w.heap.size ≤ l → ¬ O1 l → (∃ r, W.heap[l]? = some (.loop r)) → I k O1 W → Ax x O1 a' W → body.wpIn (Fence.wide.inRound l) 0 P (rPost I Ix k O1 W) a' W)
  (hdone : ∀ (D : Nat) (O1 : Nat → Prop) (W : World), w.heap.size ≤ D → ¬ O1 D → I xs.length O1 W → W.heap[D]? = some (.deferred (some [])) → Q .normal { a with defers := { target := .collected D, args := #[] } :: a.defers } W)
  (hstop : ∀ (D k : Nat) (c : Code) (O1 : Nat → Prop) (W : World), w.heap.size ≤ D → ¬ O1 D → k < xs.length → Ix c k O1 W → W.heap[D]? = some (.deferred (some [])) → c.wpIn Fence.wide 0 P Q { a with defers := { target := .collected D, args := #[] } :: a.defers } W) :
  (Code.rangeFunc g ps assign body).wpIn Fence.wide 0 P Q a w := by
 refine wpIn_rangeFunc ?_
 intro fn hfn
 have hro : Fence.wide.round = none := rfl
 rw [hro]
 obtain ⟨rec, hrec⟩ : ∃ rec : LoopState → Option Code → Loop, rec = fun st pe => { state := st, pending := pe, fn, tmps := a.tmps, params := ps, assign, body, defers := w.heap.size } := ⟨_, rfl⟩
 obtain ⟨W1, hW1⟩ : ∃ W1, (w.alloc (.deferred (some []))).alloc (.loop (rec .ready none)) = W1 := ⟨_, rfl⟩
 have hL1 : W1.heap[w.heap.size + 1]? = some (.loop (rec .ready none)) := by
  rw [← hW1]; have := World.alloc_heap_new (w.alloc (.deferred (some []))) (.loop (rec .ready none)); rwa [World.size_alloc] at this
 have hK1 : W1.heap[w.heap.size]? = some (.deferred (some [])) := by
  rw [← hW1]; exact (Below.heap_alloc _ _ _ (by simp)).trans (World.alloc_heap_new w _)
 have hcw : Chg (fun _ => False) w W1 := by rw [← hW1]; exact ((Chg.refl _ w).alloc _).alloc _
 have hI1 : I 0 O W1 := hI 0 O w W1 _ h0 hcw (fun i hi => hi.elim)
 -- the caller's blocks, the loop's record, the block for the rounds' deferred calls
 let OO : (Nat → Prop) → Nat → Prop := fun O1 i => O1 i ∨ i = w.heap.size ∨ i = w.heap.size + 1
 refine ⟨w.heap.size + 1, [{ target := .collected w.heap.size, args := #[] }], W1, { target := .fn (.func gf) lb, args := #[.func (.yield (w.heap.size + 1)) #[] #[]] }, W1, gf,
  #[.func (.yield (w.heap.size + 1)) #[] #[]] ++ lb, W1, ?_, ?_, ?_, ?_, (fun h => by cases h), ?_⟩
 ·rw [← hW1, hrec]; exact run_enterLoop_outer _ _ _ _ _
 ·simp only [resolve, hg]
  simp [go_sem]
 ·intro f' hf'; trivial
 ·simp [invoke, go_sem, eg]
 ·refine callsIn_wide.2 ?_
  refine (hit (w.heap.size + 1)
   (fun k O2 W => ∃ O1 : Nat → Prop, (∀ i, O2 i ↔ OO O1 i) ∧ ¬ O1 w.heap.size ∧ ¬ O1 (w.heap.size + 1) ∧ I k O1 W ∧ W.heap[w.heap.size + 1]? = some (.loop (rec .ready none)) ∧ W.heap[w.heap.size]? = some (.deferred (some [])))
   (fun k O2 W => ∃ O1 : Nat → Prop, (∀ i, O2 i ↔ OO O1 i) ∧ ¬ O1 w.heap.size ∧ ¬ O1 (w.heap.size + 1) ∧ ∃ c, Ix c k O1 W ∧ W.heap[w.heap.size + 1]? = some (.loop (rec .done (some c))) ∧ W.heap[w.heap.size]? = some (.deferred (some [])))
   (OO O) W1 ?_ ?_ ?_ ?_ ?_ ?_).mono ?_
  ·refine (hw0.mono (fun k hk hs => ⟨.inl hs.1, hs.2⟩)).trans hcw (fun i hi => hi.elim)
  ·intro i hi
   rcases hi with hi | hi | hi
   ·exact ⟨(hO i hi).2.2, (hO i hi).1, Nat.lt_of_lt_of_le (hO i hi).2.1 hcw.size⟩
   ·exact ⟨fun h => by have := hOi i h; omega, by omega, by rw [hi]; exact (Array.getElem?_eq_some_iff.1 hK1).1⟩
   ·exact ⟨fun h => by have := hOi i h; omega, by omega, by rw [hi]; exact (Array.getElem?_eq_some_iff.1 hL1).1⟩
  ·-- all of it abides the iterator's own steps
   intro k O2 A B T hs hc hT
   obtain ⟨O1, hO1, hn1, hn2, hi, hl, hk⟩ := hs
   have hT1 : ∀ i, T i → B0 ≤ i ∧ ¬ O1 i := fun i h => ⟨(hT i h).1, fun h1 => (hT i h).2 ((hO1 i).2 (.inl h1))⟩
   refine ⟨O1, hO1, hn1, hn2, hI k O1 A B T hi hc hT1, hc.blk hl (fun h => (hT _ h).2 ((hO1 _).2 (.inr (.inr rfl)))), hc.blk hk (fun h => (hT _ h).2 ((hO1 _).2 (.inr (.inl rfl))))⟩
  ·intro k O2 A B T hs hc hT
   obtain ⟨O1, hO1, hn1, hn2, c, hi, hl, hk⟩ := hs
   have hT1 : ∀ i, T i → B0 ≤ i ∧ ¬ O1 i := fun i h => ⟨(hT i h).1, fun h1 => (hT i h).2 ((hO1 i).2 (.inl h1))⟩
   refine ⟨O1, hO1, hn1, hn2, c, hIx c k O1 A B T hi hc hT1, hc.blk hl (fun h => (hT _ h).2 ((hO1 _).2 (.inr (.inr rfl)))), hc.blk hk (fun h => (hT _ h).2 ((hO1 _).2 (.inr (.inl rfl))))⟩
  ·-- ONE ROUND
   rintro k x O2 W hx ⟨O1, hO1, hn1, hn2, hi, hl, hk⟩ hb2
   have hb1 : ∀ i, O1 i → i < W.heap.size := fun i h => hb2 i ((hO1 i).2 (.inl h))
   have hlt : w.heap.size + 1 < W.heap.size := (Array.getElem?_eq_some_iff.1 hl).1
   have hy := run_yield (P := P) (args := encs x) hl (by rw [hrec]; exact hps x)
   rw [hrec] at hy
   refine ⟨fn, _, assign, body, hy, roundIn_of_wpIn trivial (hassign _ k x O1 W _ hx hi hb1 ?_)⟩
   clear hy
   intro a' Wa O3 hca hO3 hia hax
   have hl' := hca.blk hl hn2
   have hk' := hca.blk hk hn1
   have hn1' : ¬ O3 w.heap.size := fun h => (hO3 _ h).1.elim hn1 (fun h' => by omega)
   have hn2' : ¬ O3 (w.heap.size + 1) := fun h => (hO3 _ h).1.elim hn2 (fun h' => by omega)
   have hlta : w.heap.size + 1 < Wa.heap.size := (Array.getElem?_eq_some_iff.1 hl').1
   refine ⟨_, run_beginRound hl' (by rw [hrec]), ?_⟩
   obtain ⟨Wb, hWb⟩ : ∃ Wb, Wa.putObj (w.heap.size + 1) (.loop { rec .ready none with state := .busy }) = Wb := ⟨_, rfl⟩
   have hcb : Chg (fun i => i = w.heap.size + 1) Wa Wb := by rw [← hWb]; exact Chg.put1 Wa _ _
   have hl2 : Wb.heap[w.heap.size + 1]? = some (.loop { rec .ready none with state := .busy }) := by rw [← hWb]; exact World.putObj_heap_same hlta
   have hk2 : Wb.heap[w.heap.size]? = some (.deferred (some [])) := hcb.blk hk' (by omega)
   have hTb : ∀ i, i = w.heap.size + 1 → B0 ≤ i ∧ ¬ O3 i := fun i e => by subst e; exact ⟨by omega, hn2'⟩
   have hib : I k O3 Wb := hI k O3 Wa Wb _ hia hcb hTb
   have haxb : Ax x O3 a' Wb := hAx x a' O3 Wa Wb _ hax hcb hTb
   rw [hWb]
   have fin : ∀ (jump : Option Code) (W3 : World), Chg O3 Wb W3 →
     (Instr.endRound (w.heap.size + 1) jump).run P W3 = .ok (.bool jump.isNone) (W3.putObj (w.heap.size + 1) (.loop (rec (if jump.isNone then .ready else .done) jump))) ∧
     w.heap.size + 1 < W3.heap.size ∧
     (W3.putObj (w.heap.size + 1) (.loop (rec (if jump.isNone then .ready else .done) jump))).heap[w.heap.size + 1]? = some (.loop (rec (if jump.isNone then .ready else .done) jump)) ∧
     (W3.putObj (w.heap.size + 1) (.loop (rec (if jump.isNone then .ready else .done) jump))).heap[w.heap.size]? = some (.deferred (some [])) ∧
     Chg O2 W (W3.putObj (w.heap.size + 1) (.loop (rec (if jump.isNone then .ready else .done) jump))) := fun jump W3 hk3 => by
    have hl3 := hk3.blk hl2 hn2'
    have := run_endRound (P := P) jump hl3
    rw [hrec] at this ⊢
    have hlt3 := (Array.getElem?_eq_some_iff.1 hl3).1
    refine ⟨this, hlt3, World.putObj_heap_same hlt3, (World.putObj_heap_other (by omega)).trans (hk3.blk hk2 hn1'), ?_⟩
    have c1 : Chg O2 W Wa := hca.mono (fun i _ h => (hO1 i).2 (.inl h))
    have c2 : Chg O2 W Wb := c1.trans hcb (fun i e => by subst e; exact .inl ((hO1 _).2 (.inr (.inr rfl))))
    have c3 : Chg O2 W W3 := c2.trans hk3 (fun i h => (hO3 i h).1.elim (fun h' => .inl ((hO1 i).2 (.inl h'))) .inr)
    exact c3.putObj (.inl ((hO1 _).2 (.inr (.inr rfl)))) _
   have hb3 : ∀ i, O3 i → i < Wb.heap.size := fun i h => Nat.lt_of_lt_of_le (hO3 i h).2 hcb.size
   refine wpIn_mono (hbody _ k x O3 a' _ hx hb3 (by omega) hn2' ⟨_, hl2⟩ hib haxb) ?_
   have hOO : ∀ (O4 : Nat → Prop) (W3 : World), Chg O3 Wb W3 → Grow O3 Wb O4 W3 → ∀ (o : Obj), (¬ O4 w.heap.size) ∧ (¬ O4 (w.heap.size + 1)) ∧ Grow O2 W (OO O4) (W3.putObj (w.heap.size + 1) o) := by
    intro O4 W3 h3 hO4 o
    have hs1 := hcb.size
    have hs2 := hca.size
    have hs3 := h3.size
    have hs4 : (W3.putObj (w.heap.size + 1) o).heap.size = W3.heap.size := by simp
    refine ⟨fun h => (hO4 _ h).1.elim hn1' (fun h' => by omega), fun h => (hO4 _ h).1.elim hn2' (fun h' => by omega), ?_⟩
    intro i hi
    rw [hs4]
    rcases hi with hi | hi | hi
    ·refine ⟨?_, (hO4 i hi).2⟩
     rcases (hO4 i hi).1 with h | h
     ·rcases (hO3 i h).1 with h | h
      ·exact .inl ((hO1 i).2 (.inl h))
      ·exact .inr h
     ·exact .inr (by omega)
    ·exact ⟨.inl ((hO1 i).2 (.inr (.inl hi))), by omega⟩
    ·exact ⟨.inl ((hO1 i).2 (.inr (.inr hi))), by omega⟩
   have jmp : ∀ (c : Code) (W3 : World) (O4 : Nat → Prop), Chg O3 Wb W3 → Grow O3 Wb O4 W3 → Ix c k O4 W3 → ∃ (r : Value) (w'' : World), (Instr.endRound (w.heap.size + 1) (some c)).run P W3 = .ok r w'' ∧
     ((Ending.returned r = .returned (.bool true) ∧ (∃ O2' : Nat → Prop, Grow O2 W O2' w'' ∧ ∃ O1 : Nat → Prop, (∀ i, O2' i ↔ OO O1 i) ∧ ¬ O1 w.heap.size ∧ ¬ O1 (w.heap.size + 1) ∧ I (k + 1) O1 w'' ∧ w''.heap[w.heap.size + 1]? = some (.loop (rec .ready none)) ∧ w''.heap[w.heap.size]? = some (.deferred (some []))) ∧ Chg O2 W w'') ∨
           (Ending.returned r = .returned (.bool false) ∧ (∃ O2' : Nat → Prop, Grow O2 W O2' w'' ∧ ∃ O1 : Nat → Prop, (∀ i, O2' i ↔ OO O1 i) ∧ ¬ O1 w.heap.size ∧ ¬ O1 (w.heap.size + 1) ∧ ∃ c, Ix c k O1 w'' ∧ w''.heap[w.heap.size + 1]? = some (.loop (rec .done (some c))) ∧ w''.heap[w.heap.size]? = some (.deferred (some []))) ∧ Chg O2 W w'')) := by
    intro c W3 O4 hk3 hO4 hi3
    obtain ⟨hr, hlt3, hl4, hk4, hc4⟩ := fin (some c) W3 hk3
    obtain ⟨h1, h2, h3⟩ := hOO O4 W3 hk3 hO4 _
    exact ⟨_, _, hr, .inr ⟨rfl, ⟨OO O4, h3, O4, fun _ => Iff.rfl, h1, h2, c, hIx c k O4 W3 _ (fun i => i = w.heap.size + 1) hi3 (Chg.put1 _ _ _) (fun i e => by subst e; exact ⟨by omega, h2⟩), hl4, hk4⟩, hc4⟩⟩
   rintro e a3 W3 hp
   cases e with
   | normal =>
    obtain ⟨hk3, O4, hO4, hi4⟩ := hp
    obtain ⟨hr, hlt3, hl4, hk4, hc4⟩ := fin none W3 hk3
    obtain ⟨h1, h2, h3⟩ := hOO O4 W3 hk3 hO4 _
    exact ⟨_, _, hr, .inl ⟨rfl, ⟨OO O4, h3, O4, fun _ => Iff.rfl, h1, h2, hI (k + 1) O4 W3 _ (fun i => i = w.heap.size + 1) hi4 (Chg.put1 _ _ _) (fun i e => by subst e; exact ⟨by omega, h2⟩), hl4, hk4⟩, hc4⟩⟩
   | ret =>
    obtain ⟨hk3, O4, hO4, hi4⟩ := hp
    exact jmp .ret W3 O4 hk3 hO4 hi4
   | exit id =>
    obtain ⟨hk3, O4, hO4, hi4⟩ := hp
    exact jmp (.exit id) W3 O4 hk3 hO4 hi4
   | goto t =>
    obtain ⟨hk3, O4, hO4, hi4⟩ := hp
    exact jmp (.goto t) W3 O4 hk3 hO4 hi4
   | panic ch => exact hp.elim
   | outgrown => exact hp.elim
  ·exact ⟨O, fun _ => Iff.rfl, fun h => by have := (hO _ h).2.1; omega, fun h => by have := (hO _ h).2.1; omega, hI1, hL1, hK1⟩
  ·-- BEHIND THE ITERATOR
   rintro e W2 ⟨⟨v, rfl⟩, (⟨O2, O1, hO1, hn1, hn2, hi, hl, hk⟩ | ⟨k, O2, hlen, O1, hO1, hn1, hn2, c, hi, hl, hk⟩)⟩
   ·refine ⟨none, _, by have := run_endLoop (P := P) hl (by rw [hrec]; simp); rw [hrec] at this; exact this, hdone _ O1 _ (Nat.le_refl _) hn1 (hI _ O1 W2 _ (fun i => i = w.heap.size + 1) hi (Chg.put1 _ _ _) (fun i e => by subst e; exact ⟨by omega, hn2⟩)) ((World.putObj_heap_other (by omega)).trans hk)⟩
   ·exact ⟨some c, _, by have := run_endLoop (P := P) hl (by rw [hrec]; simp); rw [hrec] at this; exact this, hstop _ k c O1 _ (Nat.le_refl _) hn1 hlen (hIx c k O1 W2 _ (fun i => i = w.heap.size + 1) hi (Chg.put1 _ _ _) (fun i e => by subst e; exact ⟨by omega, hn2⟩)) ((World.putObj_heap_other (by omega)).trans hk)⟩
theorem wp_rangeFunc_go {α : Type} {g : Operand} {ps : Array Tmp} {assign body : Code} {Q : Exit → Act → World → Prop} {a : Act} {w : World} {gf : Nat} {lb : Array Value}
  (hg : a.eval g = .func (.func gf) #[] lb) (eg : ∀ args w, (callFunc gf args).run P w = .ok (.enter gf args) w)
  {encs : α → Array Value} {xs : List α} {B0 : Nat} {Oi : Nat → Prop} {w0 : World} (hit : IterOK P gf lb encs xs B0 Oi w0) (hps : ∀ x, (encs x).size = ps.size)
  (O : Nat → Prop) (hB0 : B0 ≤ w.heap.size) (hO : ∀ i, O i → B0 ≤ i ∧ i < w.heap.size ∧ ¬ Oi i) (hOi : ∀ i, Oi i → i < w.heap.size) (hw0 : Chg (fun i => O i ∧ w0.heap.size ≤ i) w0 w)
  (I : Nat → (Nat → Prop) → World → Prop) (Ix : Code → Nat → (Nat → Prop) → World → Prop)
  (hI : ∀ k, Abide B0 (I k)) (hIx : ∀ c k, Abide B0 (Ix c k))
  (h0 : I 0 O w)
  (hround : ∀ (l0 k : Nat) (x : α) (O1 : Nat → Prop) (W : World) (K : Act → World → Prop), xs[k]? = some x → I k O1 W →
   (∀ i, O1 i → i < W.heap.size) → (∀ a' W' (O2 : Nat → Prop), Chg O1 W W' → Grow O1 W O2 W' → I k O2 W' →
    (∀ (l : Nat) (T : Nat → Prop) (Wb : World), Chg T W' Wb → (∀ i, T i → B0 ≤ i ∧ ¬ O2 i) → (∀ i, O2 i → i < Wb.heap.size) → w.heap.size ≤ l → ¬ O2 l → (∃ r, Wb.heap[l]? = some (.loop r)) → I k O2 Wb → body.wpIn (Fence.wide.inRound l) 0 P (rPost I Ix k O2 Wb) a' Wb) → K a' W') →
   assign.wpIn (Fence.wide.inRound l0) 0 P (Exit.then K (fun _ _ _ => False)) { tmps := (ps.zip (encs x)).foldl (fun t (p, v) => t.setIfInBounds p v) a.tmps, defers := [] } W)
  (hdone : ∀ (D : Nat) (O1 : Nat → Prop) (W : World), w.heap.size ≤ D → ¬ O1 D → I xs.length O1 W → W.heap[D]? = some (.deferred (some [])) → Q .normal { a with defers := { target := .collected D, args := #[] } :: a.defers } W)
  (hstop : ∀ (D k : Nat) (c : Code) (O1 : Nat → Prop) (W : World), w.heap.size ≤ D → ¬ O1 D → k < xs.length → Ix c k O1 W → W.heap[D]? = some (.deferred (some [])) → c.wpIn Fence.wide 0 P Q { a with defers := { target := .collected D, args := #[] } :: a.defers } W) :
  (Code.rangeFunc g ps assign body).wpIn Fence.wide 0 P Q a w :=
 wp_rangeFunc_own (α := Nat × α) (encs := fun x => encs x.2) (xs := (List.range xs.length).zip xs) hg eg
  (by
   have hz : ∀ (k : Nat) (x : Nat × α), ((List.range xs.length).zip xs)[k]? = some x ↔ xs[k]? = some x.2 ∧ x.1 = k := by
    intro k x
    rw [List.getElem?_zip_eq_some]
    constructor
    ·rintro ⟨h1, h2⟩
     have hk := (List.getElem?_eq_some_iff.1 h2).1
     rw [List.getElem?_range hk] at h1
     exact ⟨h2, (Option.some.inj h1).symm⟩
    ·rintro ⟨h2, rfl⟩
     have hk := (List.getElem?_eq_some_iff.1 h2).1
     exact ⟨List.getElem?_range hk, h2⟩
   have hl : ((List.range xs.length).zip xs).length = xs.length := by simp
   intro l J Jx O W h1 h2 h3 h4 h5 h6
   rw [hl]
   exact hit l J Jx O W h1 h2 h3 h4 (fun k x O1 W1 hx hj hb => h5 k (k, x) O1 W1 ((hz k (k, x)).2 ⟨hx, rfl⟩) hj hb) h6)
  (fun x => hps x.2) O hB0 hO hOi hw0 I Ix
  (fun x O1 a' W => ∀ (l : Nat) (T : Nat → Prop) (Wb : World), Chg T W Wb → (∀ i, T i → B0 ≤ i ∧ ¬ O1 i) → (∀ i, O1 i → i < Wb.heap.size) → w.heap.size ≤ l → ¬ O1 l → (∃ r, Wb.heap[l]? = some (.loop r)) → I x.1 O1 Wb → body.wpIn (Fence.wide.inRound l) 0 P (rPost I Ix x.1 O1 Wb) a' Wb)
  hI
  (fun x a' O1 A B T h hc hT l T' Wb hc' hT' => h l (fun i => T i ∨ T' i) Wb ((hc.mono (fun _ _ h => .inl h)).trans (hc'.mono (fun _ _ h => .inr h)) (fun i hi => .inl hi)) (fun i hi => hi.elim (hT i) (hT' i)))
  hIx h0
  (fun l k x O1 W K hx hi hb hK => by
   have hk := hx
   rw [List.getElem?_zip_eq_some] at hk
   obtain ⟨hk1, hk2⟩ := hk
   have hlt := (List.getElem?_eq_some_iff.1 hk2).1
   rw [List.getElem?_range hlt] at hk1
   have hkx := Option.some.inj hk1
   exact hround l k x.2 O1 W K hk2 hi hb (fun a' W' O2 hc hO2 hi2 hb => hK a' W' O2 hc hO2 hi2 (by rw [← hkx]; exact hb)))
  (fun l k x O1 a' W hx hb hl hnl hrec hi hax => by
   have hk := hx
   rw [List.getElem?_zip_eq_some] at hk
   obtain ⟨hk1, hk2⟩ := hk
   have hlt := (List.getElem?_eq_some_iff.1 hk2).1
   rw [List.getElem?_range hlt] at hk1
   have hkx := Option.some.inj hk1
   have := hax l (fun _ => False) W (Chg.refl _ _) (fun _ h => h.elim) hb hl hnl hrec (by rw [← hkx]; exact hi)
   rwa [← hkx] at this)
  (fun D O1 W hD hn hi hK => hdone D O1 W hD hn (by simpa using hi) hK)
  (fun D k c O1 W hD hn hk hi hK => hstop D k c O1 W hD hn (by simpa using hk) hi hK)
end Go.Proofs.Ytngppcmdaanheaa.Iter
namespace Go.Proofs.Ytngppcmdaanheaa.ISet
open Go.RowKit Go.Maps Go.Proofs.Ytngppcmdaanheaa.Iter
set_option linter.unusedVariables false
def wfI (x : Int) : Prop := (Lit.int .i64 x).wf = true
theorem plainElem_bool_inv {H : Type} {P : Program} {e : TypeId} (he : P.underlying e = some .bool) {v : Value} {z : DataW H × List MemPlace} (h : plainElem P e v = some z) : ∃ a, v = .bool a ∧ z = (.lit (.bool a), []) := by
 cases v <;> simp_all [plainElem]
def ISet (P : Program) (K E : TypeId) (W : World) (b n : Nat) (S : Int → Bool) : Prop :=
 ∃ D : DataW Unit, W.ownsMap P K (plainElem P E) b n D ∧ ∀ x, wfI x → D.atKey (.int .i64 x) (.lit (.bool false)) = .lit (.bool (S x))
variable {P : Program} {K E : TypeId} {W : World} {b n : Nat} {S : Int → Bool}
theorem isKeyLit_int (x : Int) : WideAt.IsKeyLit (.int .i64 x) := by simp [WideAt.IsKeyLit]
theorem ISet.made (W : World) : ISet P K E (W.alloc (.map #[] 0)) W.heap.size 0 (fun _ => false) :=
 ⟨.map [], World.ownsMap_made W P K _, fun x _ => rfl⟩
theorem ISet.mono (h : ISet P K E W b n S) {n' : Nat} (hn : n ≤ n') : ISet P K E W b n' S := by
 obtain ⟨D, h1, h2⟩ := h
 exact ⟨D, h1.mono hn, h2⟩
theorem ISet.lt (h : ISet P K E W b n S) : b < W.heap.size := by
 obtain ⟨D, h1, _⟩ := h
 exact h1.lt
theorem ISet.chg {T : Nat → Prop} {W' : World} (h : ISet P K E W b n S) (hc : Chg T W W') (hn : ¬ T b) : ISet P K E W' b n S := by
 obtain ⟨D, ⟨es, clock, hb, F, hs, hD⟩, h2⟩ := h
 exact ⟨D, ⟨es, clock, hc.blk hb hn, F, hs, hD⟩, h2⟩
theorem ISet.look (h : ISet P K E W b n S) {t : TypeId} (hk : P.underlying K = some (.int .i64)) (he : P.underlying E = some .bool) (ht : P.underlying t = some (.map K E)) (hz : (zeroValue E).run P W = .ok (.bool false) W) (x : Int) (hx : wfI x) :
  (Instr.lookup t (.map (some b)) (.int .i64 x) false).run P W = .ok (.bool (S x)) W := by
 obtain ⟨D, hown, hS⟩ := h
 obtain ⟨v, ps, hrun, hv⟩ := hown.lookup (int_keyed hk) ht hz (plainElem_bool he false) (keyOf_int_mk hk hx)
 obtain ⟨c, rfl, hc⟩ := plainElem_bool_inv he hv
 rw [hS x hx] at hc
 simp only [Prod.mk.injEq, DataW.lit.injEq, Lit.bool.injEq] at hc
 rw [hrun, ← hc.1]
theorem ISet.put (h : ISet P K E W b n S) {t : TypeId} (hk : P.underlying K = some (.int .i64)) (he : P.underlying E = some .bool) (ht : P.underlying t = some (.map K E)) (hn : n < maxLen) (x : Int) (hx : wfI x) (v : Bool) :
  ∃ W', (Instr.mapUpdate t (.map (some b)) (.int .i64 x) (.bool v)).run P W = .ok () W' ∧ ISet P K E W' b (n + 1) (fun y => if y = x then v else S y) ∧ Chg (fun i => i = b) W W' := by
 obtain ⟨D, hown, hS⟩ := h
 obtain ⟨W', hrun, hown', hg⟩ := hown.update (int_keyed hk) ht hn (keyOf_int_mk hk hx) (plainElem_bool he v)
 refine ⟨W', hrun, ⟨_, hown', fun y hy => ?_⟩, (Chg.of_grown hg).mono (fun i _ h => by injection h with h; exact h.symm)⟩
 show _ = DataW.lit (Lit.bool (if y = x then v else S y))
 by_cases e : y = x
 ·subst e
  rw [if_pos rfl, atKey_put_same hown.isMap (isKeyLit_int y)]
 ·rw [if_neg e, atKey_put_other (by intro h; injection h with _ h; exact e h), hS y hy]
theorem ISet.del (h : ISet P K E W b n S) {t : TypeId} (hk : P.underlying K = some (.int .i64)) (ht : P.underlying t = some (.map K E)) (x : Int) (hx : wfI x) (ty : TypeId) :
  ∃ W', (Builtin.delete_ #[t, K] ty #[.map (some b), .int .i64 x]).run P W = .ok (.tuple #[]) W' ∧ ISet P K E W' b n (fun y => if y = x then false else S y) ∧ Chg (fun i => i = b) W W' := by
 obtain ⟨D, hown, hS⟩ := h
 obtain ⟨W', hrun, hown', hg⟩ := hown.drop (int_keyed hk) ht (keyOf_int_mk hk hx) ty
 refine ⟨W', hrun, ⟨_, hown', fun y hy => ?_⟩, (Chg.of_grown hg.grown).mono (fun i _ h => by injection h with h; exact h.symm)⟩
 show _ = DataW.lit (Lit.bool (if y = x then false else S y))
 by_cases e : y = x
 ·subst e
  rw [if_pos rfl, atKey_del_same]
 ·rw [if_neg e, atKey_del_other (by intro h; injection h with _ h; exact e h), hS y hy]
theorem wpList_del_set {ops : Array Oper} {rest : List Oper} {o : Oper} {a : Act} {Q : Exit → Act → World → Prop} (hg : o.guard = none) (m x : Operand) (t : TypeId) (hop : o.op = Op.call { callee := Callee.builtin Builtin.delete, args := #[m, x], argTypes := #[t, K] })
  (hk : P.underlying K = some (.int .i64)) (ht : P.underlying t = some (.map K E)) (hm : a.eval m = .map (some b)) (h : ISet P K E W b n S) (y : Int) (hx : a.eval x = .int .i64 y) (hy : wfI y)
  (hK : ∀ W', ISet P K E W' b n (fun z => if z = y then false else S z) → Chg (fun i => i = b) W W' → wpList P ops Q rest (a.put o.dst (.tuple #[])) W') :
  wpList P ops Q (o :: rest) a W := by
 refine wpList_plain hg fun K' hK' => ?_
 obtain ⟨W', hrun, r1, r2⟩ := h.del hk ht y hy o.type
 unfold Oper.wp
 simp [execOp, hop, resolve, invoke, builtin, hm, hx, hrun, Result.andThen]
 exact hK' _ _ (hK W' r1 r2)
end Go.Proofs.Ytngppcmdaanheaa.ISet
namespace Go.Proofs.Ytngppcmdaanheaa.Iter
open Go.RowKit
set_option linter.unusedVariables false
def IterP {α : Type} (P : Program) (gf : Nat) (lb : Array Value) (encs : α → Array Value) (S : List α → Prop) (Nx : List α → α → Prop) (B0 : Nat) (Oi : Nat → Prop) (w : World) : Prop :=
 ∀ (l : Nat) (J : List α → (Nat → Prop) → World → Prop) (O : Nat → Prop) (W : World),
  Chg (fun i => O i ∧ w.heap.size ≤ i) w W → (∀ i, O i → ¬ Oi i ∧ B0 ≤ i ∧ i < W.heap.size) → (∀ k, Abide B0 (J k)) →
  (∀ k (x : α) (O1 : Nat → Prop) (W1 : World), Nx k x → J k O1 W1 → (∀ i, O1 i → i < W1.heap.size) → YieldAt Fence.wide 0 P l (encs x) W1 fun e W' =>
   e = .returned (.bool true) ∧ (∃ O2 : Nat → Prop, Grow O1 W1 O2 W' ∧ J (k ++ [x]) O2 W') ∧ Chg O1 W1 W') →
  J [] O W →
  Calls P gf (#[.func (.yield l) #[] #[]] ++ lb) W fun e W' => (∃ v, e = .returned v) ∧ ∃ xs O2, S xs ∧ J xs O2 W'
def rPostP {α : Type} (I : List α → (Nat → Prop) → World → Prop) (k : List α) (x : α) (O : Nat → Prop) (W : World) : Exit → Act → World → Prop
 | .normal, _, W' => Chg O W W' ∧ ∃ O2 : Nat → Prop, Grow O W O2 W' ∧ I (k ++ [x]) O2 W'
 | _, _, _ => False
variable {P : Program}
theorem wp_rangeFunc_own_p {α : Type} {g : Operand} {ps : Array Tmp} {assign body : Code} {Q : Exit → Act → World → Prop} {a : Act} {w : World} {gf : Nat} {lb : Array Value}
  (hg : a.eval g = .func (.func gf) #[] lb) (eg : ∀ args w, (callFunc gf args).run P w = .ok (.enter gf args) w)
  {encs : α → Array Value} {S : List α → Prop} {Nx : List α → α → Prop} {B0 : Nat} {Oi : Nat → Prop} {w0 : World} (hit : IterP P gf lb encs S Nx B0 Oi w0) (hps : ∀ x, (encs x).size = ps.size)
  (O : Nat → Prop) (hB0 : B0 ≤ w.heap.size) (hO : ∀ i, O i → B0 ≤ i ∧ i < w.heap.size ∧ ¬ Oi i) (hOi : ∀ i, Oi i → i < w.heap.size) (hw0 : Chg (fun i => O i ∧ w0.heap.size ≤ i) w0 w)
  (I : List α → (Nat → Prop) → World → Prop) (Ax : List α → α → (Nat → Prop) → Act → World → Prop)
  (hI : ∀ k, Abide B0 (I k)) (hAx : ∀ p x a', Abide B0 (fun O W => Ax p x O a' W))
  (h0 : I [] O w)
  (hassign : ∀ (l : Nat) (k : List α) (x : α) (O1 : Nat → Prop) (W : World) (K : Act → World → Prop), Nx k x → I k O1 W →
   (∀ i, O1 i → i < W.heap.size) → (∀ a' W' (O2 : Nat → Prop), Chg O1 W W' → Grow O1 W O2 W' → I k O2 W' → Ax k x O2 a' W' → K a' W') →
   assign.wpIn (Fence.wide.inRound l) 0 P (Exit.then K (fun _ _ _ => False)) { tmps := (ps.zip (encs x)).foldl (fun t (p, v) => t.setIfInBounds p v) a.tmps, defers := [] } W)
  (hbody : ∀ (l : Nat) (k : List α) (x : α) (O1 : Nat → Prop) (a' : Act) (W : World), Nx k x → (∀ i, O1 i → i < W.heap.size) → w.heap.size ≤ l → ¬ O1 l → (∃ r, W.heap[l]? = some (.loop r)) → I k O1 W → Ax k x O1 a' W → body.wpIn (Fence.wide.inRound l) 0 P (rPostP I k x O1 W) a' W)
  (hdone : ∀ (D : Nat) (O1 : Nat → Prop) (W : World) (xs : List α), S xs → w.heap.size ≤ D → ¬ O1 D → I xs O1 W → W.heap[D]? = some (.deferred (some [])) → Q .normal { a with defers := { target := .collected D, args := #[] } :: a.defers } W) :
  (Code.rangeFunc g ps assign body).wpIn Fence.wide 0 P Q a w := by
 refine wpIn_rangeFunc ?_
 intro fn hfn
 have hro : Fence.wide.round = none := rfl
 rw [hro]
 obtain ⟨rec, hrec⟩ : ∃ rec : LoopState → Option Code → Loop, rec = fun st pe => { state := st, pending := pe, fn, tmps := a.tmps, params := ps, assign, body, defers := w.heap.size } := ⟨_, rfl⟩
 obtain ⟨W1, hW1⟩ : ∃ W1, (w.alloc (.deferred (some []))).alloc (.loop (rec .ready none)) = W1 := ⟨_, rfl⟩
 have hL1 : W1.heap[w.heap.size + 1]? = some (.loop (rec .ready none)) := by
  rw [← hW1]; have := World.alloc_heap_new (w.alloc (.deferred (some []))) (.loop (rec .ready none)); rwa [World.size_alloc] at this
 have hK1 : W1.heap[w.heap.size]? = some (.deferred (some [])) := by
  rw [← hW1]; exact (Below.heap_alloc _ _ _ (by simp)).trans (World.alloc_heap_new w _)
 have hcw : Chg (fun _ => False) w W1 := by rw [← hW1]; exact ((Chg.refl _ w).alloc _).alloc _
 have hI1 : I [] O W1 := hI [] O w W1 _ h0 hcw (fun i hi => hi.elim)
 -- the caller's blocks, the loop's record, the block for the rounds' deferred calls
 let OO : (Nat → Prop) → Nat → Prop := fun O1 i => O1 i ∨ i = w.heap.size ∨ i = w.heap.size + 1
 refine ⟨w.heap.size + 1, [{ target := .collected w.heap.size, args := #[] }], W1, { target := .fn (.func gf) lb, args := #[.func (.yield (w.heap.size + 1)) #[] #[]] }, W1, gf,
  #[.func (.yield (w.heap.size + 1)) #[] #[]] ++ lb, W1, ?_, ?_, ?_, ?_, (fun h => by cases h), ?_⟩
 ·rw [← hW1, hrec]; exact run_enterLoop_outer _ _ _ _ _
 ·simp only [resolve, hg]
  simp [go_sem]
 ·intro f' hf'; trivial
 ·simp [invoke, go_sem, eg]
 ·refine callsIn_wide.2 ?_
  refine (hit (w.heap.size + 1)
   (fun k O2 W => ∃ O1 : Nat → Prop, (∀ i, O2 i ↔ OO O1 i) ∧ ¬ O1 w.heap.size ∧ ¬ O1 (w.heap.size + 1) ∧ I k O1 W ∧ W.heap[w.heap.size + 1]? = some (.loop (rec .ready none)) ∧ W.heap[w.heap.size]? = some (.deferred (some [])))
   (OO O) W1 ?_ ?_ ?_ ?_ ?_).mono ?_
  ·refine (hw0.mono (fun k hk hs => ⟨.inl hs.1, hs.2⟩)).trans hcw (fun i hi => hi.elim)
  ·intro i hi
   rcases hi with hi | hi | hi
   ·exact ⟨(hO i hi).2.2, (hO i hi).1, Nat.lt_of_lt_of_le (hO i hi).2.1 hcw.size⟩
   ·exact ⟨fun h => by have := hOi i h; omega, by omega, by rw [hi]; exact (Array.getElem?_eq_some_iff.1 hK1).1⟩
   ·exact ⟨fun h => by have := hOi i h; omega, by omega, by rw [hi]; exact (Array.getElem?_eq_some_iff.1 hL1).1⟩
  ·-- all of it abides the iterator's own steps
   intro k O2 A B T hs hc hT
   obtain ⟨O1, hO1, hn1, hn2, hi, hl, hk⟩ := hs
   have hT1 : ∀ i, T i → B0 ≤ i ∧ ¬ O1 i := fun i h => ⟨(hT i h).1, fun h1 => (hT i h).2 ((hO1 i).2 (.inl h1))⟩
   refine ⟨O1, hO1, hn1, hn2, hI k O1 A B T hi hc hT1, hc.blk hl (fun h => (hT _ h).2 ((hO1 _).2 (.inr (.inr rfl)))), hc.blk hk (fun h => (hT _ h).2 ((hO1 _).2 (.inr (.inl rfl))))⟩
  ·-- ONE ROUND
   rintro k x O2 W hx ⟨O1, hO1, hn1, hn2, hi, hl, hk⟩ hb2
   have hb1 : ∀ i, O1 i → i < W.heap.size := fun i h => hb2 i ((hO1 i).2 (.inl h))
   have hlt : w.heap.size + 1 < W.heap.size := (Array.getElem?_eq_some_iff.1 hl).1
   have hy := run_yield (P := P) (args := encs x) hl (by rw [hrec]; exact hps x)
   rw [hrec] at hy
   refine ⟨fn, _, assign, body, hy, roundIn_of_wpIn trivial (hassign _ k x O1 W _ hx hi hb1 ?_)⟩
   clear hy
   intro a' Wa O3 hca hO3 hia hax
   have hl' := hca.blk hl hn2
   have hk' := hca.blk hk hn1
   have hn1' : ¬ O3 w.heap.size := fun h => (hO3 _ h).1.elim hn1 (fun h' => by omega)
   have hn2' : ¬ O3 (w.heap.size + 1) := fun h => (hO3 _ h).1.elim hn2 (fun h' => by omega)
   have hlta : w.heap.size + 1 < Wa.heap.size := (Array.getElem?_eq_some_iff.1 hl').1
   refine ⟨_, run_beginRound hl' (by rw [hrec]), ?_⟩
   obtain ⟨Wb, hWb⟩ : ∃ Wb, Wa.putObj (w.heap.size + 1) (.loop { rec .ready none with state := .busy }) = Wb := ⟨_, rfl⟩
   have hcb : Chg (fun i => i = w.heap.size + 1) Wa Wb := by rw [← hWb]; exact Chg.put1 Wa _ _
   have hl2 : Wb.heap[w.heap.size + 1]? = some (.loop { rec .ready none with state := .busy }) := by rw [← hWb]; exact World.putObj_heap_same hlta
   have hk2 : Wb.heap[w.heap.size]? = some (.deferred (some [])) := hcb.blk hk' (by omega)
   have hTb : ∀ i, i = w.heap.size + 1 → B0 ≤ i ∧ ¬ O3 i := fun i e => by subst e; exact ⟨by omega, hn2'⟩
   have hib : I k O3 Wb := hI k O3 Wa Wb _ hia hcb hTb
   have haxb : Ax k x O3 a' Wb := hAx k x a' O3 Wa Wb _ hax hcb hTb
   rw [hWb]
   have fin : ∀ (jump : Option Code) (W3 : World), Chg O3 Wb W3 →
     (Instr.endRound (w.heap.size + 1) jump).run P W3 = .ok (.bool jump.isNone) (W3.putObj (w.heap.size + 1) (.loop (rec (if jump.isNone then .ready else .done) jump))) ∧
     w.heap.size + 1 < W3.heap.size ∧
     (W3.putObj (w.heap.size + 1) (.loop (rec (if jump.isNone then .ready else .done) jump))).heap[w.heap.size + 1]? = some (.loop (rec (if jump.isNone then .ready else .done) jump)) ∧
     (W3.putObj (w.heap.size + 1) (.loop (rec (if jump.isNone then .ready else .done) jump))).heap[w.heap.size]? = some (.deferred (some [])) ∧
     Chg O2 W (W3.putObj (w.heap.size + 1) (.loop (rec (if jump.isNone then .ready else .done) jump))) := fun jump W3 hk3 => by
    have hl3 := hk3.blk hl2 hn2'
    have := run_endRound (P := P) jump hl3
    rw [hrec] at this ⊢
    have hlt3 := (Array.getElem?_eq_some_iff.1 hl3).1
    refine ⟨this, hlt3, World.putObj_heap_same hlt3, (World.putObj_heap_other (by omega)).trans (hk3.blk hk2 hn1'), ?_⟩
    have c1 : Chg O2 W Wa := hca.mono (fun i _ h => (hO1 i).2 (.inl h))
    have c2 : Chg O2 W Wb := c1.trans hcb (fun i e => by subst e; exact .inl ((hO1 _).2 (.inr (.inr rfl))))
    have c3 : Chg O2 W W3 := c2.trans hk3 (fun i h => (hO3 i h).1.elim (fun h' => .inl ((hO1 i).2 (.inl h'))) .inr)
    exact c3.putObj (.inl ((hO1 _).2 (.inr (.inr rfl)))) _
   have hb3 : ∀ i, O3 i → i < Wb.heap.size := fun i h => Nat.lt_of_lt_of_le (hO3 i h).2 hcb.size
   refine wpIn_mono (hbody _ k x O3 a' _ hx hb3 (by omega) hn2' ⟨_, hl2⟩ hib haxb) ?_
   have hOO : ∀ (O4 : Nat → Prop) (W3 : World), Chg O3 Wb W3 → Grow O3 Wb O4 W3 → ∀ (o : Obj), (¬ O4 w.heap.size) ∧ (¬ O4 (w.heap.size + 1)) ∧ Grow O2 W (OO O4) (W3.putObj (w.heap.size + 1) o) := by
    intro O4 W3 h3 hO4 o
    have hs1 := hcb.size
    have hs2 := hca.size
    have hs3 := h3.size
    have hs4 : (W3.putObj (w.heap.size + 1) o).heap.size = W3.heap.size := by simp
    refine ⟨fun h => (hO4 _ h).1.elim hn1' (fun h' => by omega), fun h => (hO4 _ h).1.elim hn2' (fun h' => by omega), ?_⟩
    intro i hi
    rw [hs4]
    rcases hi with hi | hi | hi
    ·refine ⟨?_, (hO4 i hi).2⟩
     rcases (hO4 i hi).1 with h | h
     ·rcases (hO3 i h).1 with h | h
      ·exact .inl ((hO1 i).2 (.inl h))
      ·exact .inr h
     ·exact .inr (by omega)
    ·exact ⟨.inl ((hO1 i).2 (.inr (.inl hi))), by omega⟩
    ·exact ⟨.inl ((hO1 i).2 (.inr (.inr hi))), by omega⟩
   rintro e a3 W3 hp
   cases e with
   | normal =>
    obtain ⟨hk3, O4, hO4, hi4⟩ := hp
    obtain ⟨hr, hlt3, hl4, hk4, hc4⟩ := fin none W3 hk3
    obtain ⟨h1, h2, h3⟩ := hOO O4 W3 hk3 hO4 _
    exact ⟨_, _, hr, rfl, ⟨OO O4, h3, O4, fun _ => Iff.rfl, h1, h2, hI (k ++ [x]) O4 W3 _ (fun i => i = w.heap.size + 1) hi4 (Chg.put1 _ _ _) (fun i e => by subst e; exact ⟨by omega, h2⟩), hl4, hk4⟩, hc4⟩
   | ret => exact hp.elim
   | exit id => exact hp.elim
   | goto t => exact hp.elim
   | panic ch => exact hp.elim
   | outgrown => exact hp.elim
  ·exact ⟨O, fun _ => Iff.rfl, fun h => by have := (hO _ h).2.1; omega, fun h => by have := (hO _ h).2.1; omega, hI1, hL1, hK1⟩
  ·-- BEHIND THE ITERATOR
   rintro e W2 ⟨⟨v, rfl⟩, xs, O2, hS, O1, hO1, hn1, hn2, hi, hl, hk⟩
   exact ⟨none, _, by have := run_endLoop (P := P) hl (by rw [hrec]; simp); rw [hrec] at this; exact this, hdone _ O1 _ xs hS (Nat.le_refl _) hn1 (hI _ O1 W2 _ (fun i => i = w.heap.size + 1) hi (Chg.put1 _ _ _) (fun i e => by subst e; exact ⟨by omega, hn2⟩)) ((World.putObj_heap_other (by omega)).trans hk)⟩
theorem wp_rangeFunc_p {α : Type} {g : Operand} {ps : Array Tmp} {assign body : Code} {Q : Exit → Act → World → Prop} {a : Act} {w : World} {gf : Nat} {lb : Array Value}
  (hg : a.eval g = .func (.func gf) #[] lb) (eg : ∀ args w, (callFunc gf args).run P w = .ok (.enter gf args) w)
  {encs : α → Array Value} {S : List α → Prop} {Nx : List α → α → Prop} {B0 : Nat} {Oi : Nat → Prop} {w0 : World} (hit : IterP P gf lb encs S Nx B0 Oi w0) (hps : ∀ x, (encs x).size = ps.size)
  (O : Nat → Prop) (hB0 : B0 ≤ w.heap.size) (hO : ∀ i, O i → B0 ≤ i ∧ i < w.heap.size ∧ ¬ Oi i) (hOi : ∀ i, Oi i → i < w.heap.size) (hw0 : Chg (fun i => O i ∧ w0.heap.size ≤ i) w0 w)
  (I : List α → (Nat → Prop) → World → Prop) (hI : ∀ k, Abide B0 (I k)) (h0 : I [] O w)
  (hround : ∀ (l0 : Nat) (k : List α) (x : α) (O1 : Nat → Prop) (W : World) (K : Act → World → Prop), Nx k x → I k O1 W →
   (∀ i, O1 i → i < W.heap.size) → (∀ a' W' (O2 : Nat → Prop), Chg O1 W W' → Grow O1 W O2 W' → I k O2 W' →
    (∀ (l : Nat) (T : Nat → Prop) (Wb : World), Chg T W' Wb → (∀ i, T i → B0 ≤ i ∧ ¬ O2 i) → (∀ i, O2 i → i < Wb.heap.size) → w.heap.size ≤ l → ¬ O2 l → (∃ r, Wb.heap[l]? = some (.loop r)) → I k O2 Wb → body.wpIn (Fence.wide.inRound l) 0 P (rPostP I k x O2 Wb) a' Wb) → K a' W') →
   assign.wpIn (Fence.wide.inRound l0) 0 P (Exit.then K (fun _ _ _ => False)) { tmps := (ps.zip (encs x)).foldl (fun t (p, v) => t.setIfInBounds p v) a.tmps, defers := [] } W)
  (hdone : ∀ (D : Nat) (O1 : Nat → Prop) (W : World) (xs : List α), S xs → w.heap.size ≤ D → ¬ O1 D → I xs O1 W → W.heap[D]? = some (.deferred (some [])) → Q .normal { a with defers := { target := .collected D, args := #[] } :: a.defers } W) :
  (Code.rangeFunc g ps assign body).wpIn Fence.wide 0 P Q a w :=
 wp_rangeFunc_own_p hg eg hit hps O hB0 hO hOi hw0 I
  (fun k x O1 a' W => ∀ (l : Nat) (T : Nat → Prop) (Wb : World), Chg T W Wb → (∀ i, T i → B0 ≤ i ∧ ¬ O1 i) → (∀ i, O1 i → i < Wb.heap.size) → w.heap.size ≤ l → ¬ O1 l → (∃ r, Wb.heap[l]? = some (.loop r)) → I k O1 Wb → body.wpIn (Fence.wide.inRound l) 0 P (rPostP I k x O1 Wb) a' Wb)
  hI
  (fun k x a' O1 A B T h hc hT l T' Wb hc' hT' => h l (fun i => T i ∨ T' i) Wb ((hc.mono (fun _ _ h => .inl h)).trans (hc'.mono (fun _ _ h => .inr h)) (fun i hi => .inl hi)) (fun i hi => hi.elim (hT i) (hT' i)))
  h0
  (fun l k x O1 W K hx hi hb hK => hround l k x O1 W K hx hi hb (fun a' W' O2 hc hO2 hi2 hb => hK a' W' O2 hc hO2 hi2 hb))
  (fun l k x O1 a' W hx hb hl hnl hrec hi hax => hax l (fun _ => False) W (Chg.refl _ _) (fun _ h => h.elim) hb hl hnl hrec hi)
  hdone
end Go.Proofs.Ytngppcmdaanheaa.Iter
namespace Go.Proofs.Ytngppcmdaanheaa.Pr
open Go.RowKit Go.Proofs.YtngppcmdaanheaaW.PrintWords Go.Proofs.YtngppcmdaanheaaW.PrintLast Go.Proofs.YtngppcmdaanheaaW.PrintMore
attribute [local go_sem] max2_int min2_int max_two min_two
set_option linter.unusedVariables false
set_option linter.unusedSimpArgs false
def errW : Option Int → Value
 | none => .nilIface
 | some c => .iface 0 (.int .i64 c)
theorem errW_none : errW none = .nilIface := rfl
theorem errW_some (c : Int) : errW (some c) = .iface 0 (.int .i64 c) := rfl
theorem info41 : (Try.prog.info? 41).map (fun i => (i.zero, i.size, i.bytes)) = some (some (.agg #[(.int .i64 0), (.int .i64 0), (.string ⟨#[]⟩), (.int .i64 0)]), 4, 40) := by kernel_rfl
/-! #### struct type 44 -/
structure S44 where
 f0 : Int
 f1 : (List Int)
 f2 : Int
 f3 : Int
 f4 : Int
def z44 : S44 := ⟨(0 : Int), ([] : List Int), (0 : Int), (0 : Int), (0 : Int)⟩
def k44 : Kd S44 := Kd.iso (Kd.pair (Kd.int .i64) (Kd.pair (Kd.slice 3 (Kd.int .i64)) (Kd.pair (Kd.int .i64) (Kd.pair (Kd.int .i64) (Kd.int .i64))))) (fun x : S44 => (x.f0, x.f1, x.f2, x.f3, x.f4))
theorem k44_open {w : World} {x : S44} {cs : List Value} (h : k44.K w x cs) : ∃ A1 c1, cs = [.int .i64 x.f0, .slice A1 x.f1.length c1, .int .i64 x.f2, .int .i64 x.f3, .int .i64 x.f4] ∧ x.f1.length ≤ c1 ∧ (Kd.int .i64).C w A1 x.f1.length x.f1 := by
 obtain ⟨_, _, rfl, rfl, ⟨_, _, rfl, ⟨A1, c1, rfl, l1, g1⟩, ⟨_, _, rfl, rfl, ⟨_, _, rfl, rfl, rfl⟩⟩⟩⟩ := h
 exact ⟨A1, c1, rfl, l1, g1⟩
theorem k44_mkM (w : World) (base : Nat) (ok : Nat → Prop) (x : S44) {v1 : Value} (g1 : (Kd.int .i64).R 3 w base ok v1 x.f1) : k44.M w base ok x [.int .i64 x.f0, v1, .int .i64 x.f2, .int .i64 x.f3, .int .i64 x.f4] := ⟨[.int .i64 x.f0], [v1, .int .i64 x.f2, .int .i64 x.f3, .int .i64 x.f4], rfl, rfl, ⟨[v1], [.int .i64 x.f2, .int .i64 x.f3, .int .i64 x.f4], rfl, ⟨v1, rfl, g1⟩, ⟨[.int .i64 x.f2], [.int .i64 x.f3, .int .i64 x.f4], rfl, rfl, ⟨[.int .i64 x.f3], [.int .i64 x.f4], rfl, rfl, rfl⟩⟩⟩⟩
def rd_T44 (xs : List S44) (i : Int) : S44 := xs.getD i.toNat z44
theorem at_T44 {w : World} {A : Option Addr} {n : Nat} {xs : List S44} (h : Kd.C k44 w A n xs) (i : Int) (h0 : 0 ≤ i) (h1 : i < n) : ∃ ad A1 c1, A = some ad ∧ w.cell? (ad.add (i.toNat * 5)) = some (.int .i64 (rd_T44 xs i).f0) ∧ w.cell? ⟨(ad.add (i.toNat * 5)).block, (ad.add (i.toNat * 5)).off + 1, none⟩ = some (.slice A1 (rd_T44 xs i).f1.length c1) ∧ w.cell? ⟨(ad.add (i.toNat * 5)).block, (ad.add (i.toNat * 5)).off + 2, none⟩ = some (.int .i64 (rd_T44 xs i).f2) ∧ w.cell? ⟨(ad.add (i.toNat * 5)).block, (ad.add (i.toNat * 5)).off + 3, none⟩ = some (.int .i64 (rd_T44 xs i).f3) ∧ w.cell? ⟨(ad.add (i.toNat * 5)).block, (ad.add (i.toNat * 5)).off + 4, none⟩ = some (.int .i64 (rd_T44 xs i).f4) ∧ (rd_T44 xs i).f1.length ≤ c1 ∧ (Kd.int .i64).C w A1 (rd_T44 xs i).f1.length (rd_T44 xs i).f1 := by
 obtain ⟨ad, c, e, _, hK, hc0⟩ := Kd.C_get h z44 i h0 h1
 have hc : ∀ j u, c[j]? = some u → w.cell? (ad.add (i.toNat * 5 + j)) = some u := hc0
 obtain ⟨A1, c1, rfl, l1, g1⟩ := k44_open hK
 exact ⟨ad, A1, c1, e, hc 0 _ rfl, by rw [← add_field _ _ 1 (by omega)]; exact hc 1 _ rfl, by rw [← add_field _ _ 2 (by omega)]; exact hc 2 _ rfl, by rw [← add_field _ _ 3 (by omega)]; exact hc 3 _ rfl, by rw [← add_field _ _ 4 (by omega)]; exact hc 4 _ rfl, l1, g1⟩
/-! #### struct type 46 -/
structure S46 where
 f0 : Int
 f1 : Int
 f2 : Int
 f3 : Int
 f4 : Int
 f5 : Int
 f6 : Int
 f7 : ByteArray
 f8 : (List Int)
def z46 : S46 := ⟨(0 : Int), (0 : Int), (0 : Int), (0 : Int), (0 : Int), (0 : Int), (0 : Int), (⟨#[]⟩ : ByteArray), ([] : List Int)⟩
def k46 : Kd S46 := Kd.iso (Kd.pair (Kd.int .i64) (Kd.pair (Kd.int .i64) (Kd.pair (Kd.int .i64) (Kd.pair (Kd.int .i64) (Kd.pair (Kd.int .i64) (Kd.pair (Kd.int .i64) (Kd.pair (Kd.int .i64) (Kd.pair Kd.string (Kd.slice 3 (Kd.int .i64)))))))))) (fun x : S46 => (x.f0, x.f1, x.f2, x.f3, x.f4, x.f5, x.f6, x.f7, x.f8))
theorem k46_open {w : World} {x : S46} {cs : List Value} (h : k46.K w x cs) : ∃ A8 c8, cs = [.int .i64 x.f0, .int .i64 x.f1, .int .i64 x.f2, .int .i64 x.f3, .int .i64 x.f4, .int .i64 x.f5, .int .i64 x.f6, .string x.f7, .slice A8 x.f8.length c8] ∧ x.f8.length ≤ c8 ∧ (Kd.int .i64).C w A8 x.f8.length x.f8 := by
 obtain ⟨_, _, rfl, rfl, ⟨_, _, rfl, rfl, ⟨_, _, rfl, rfl, ⟨_, _, rfl, rfl, ⟨_, _, rfl, rfl, ⟨_, _, rfl, rfl, ⟨_, _, rfl, rfl, ⟨_, _, rfl, rfl, ⟨A8, c8, rfl, l8, g8⟩⟩⟩⟩⟩⟩⟩⟩⟩ := h
 exact ⟨A8, c8, rfl, l8, g8⟩
theorem k46_mkM (w : World) (base : Nat) (ok : Nat → Prop) (x : S46) {v8 : Value} (g8 : (Kd.int .i64).R 3 w base ok v8 x.f8) : k46.M w base ok x [.int .i64 x.f0, .int .i64 x.f1, .int .i64 x.f2, .int .i64 x.f3, .int .i64 x.f4, .int .i64 x.f5, .int .i64 x.f6, .string x.f7, v8] := ⟨[.int .i64 x.f0], [.int .i64 x.f1, .int .i64 x.f2, .int .i64 x.f3, .int .i64 x.f4, .int .i64 x.f5, .int .i64 x.f6, .string x.f7, v8], rfl, rfl, ⟨[.int .i64 x.f1], [.int .i64 x.f2, .int .i64 x.f3, .int .i64 x.f4, .int .i64 x.f5, .int .i64 x.f6, .string x.f7, v8], rfl, rfl, ⟨[.int .i64 x.f2], [.int .i64 x.f3, .int .i64 x.f4, .int .i64 x.f5, .int .i64 x.f6, .string x.f7, v8], rfl, rfl, ⟨[.int .i64 x.f3], [.int .i64 x.f4, .int .i64 x.f5, .int .i64 x.f6, .string x.f7, v8], rfl, rfl, ⟨[.int .i64 x.f4], [.int .i64 x.f5, .int .i64 x.f6, .string x.f7, v8], rfl, rfl, ⟨[.int .i64 x.f5], [.int .i64 x.f6, .string x.f7, v8], rfl, rfl, ⟨[.int .i64 x.f6], [.string x.f7, v8], rfl, rfl, ⟨[.string x.f7], [v8], rfl, rfl, ⟨v8, rfl, g8⟩⟩⟩⟩⟩⟩⟩⟩⟩
def rd_T46 (xs : List S46) (i : Int) : S46 := xs.getD i.toNat z46
theorem at_T46 {w : World} {A : Option Addr} {n : Nat} {xs : List S46} (h : Kd.C k46 w A n xs) (i : Int) (h0 : 0 ≤ i) (h1 : i < n) : ∃ ad A8 c8, A = some ad ∧ w.cell? (ad.add (i.toNat * 9)) = some (.int .i64 (rd_T46 xs i).f0) ∧ w.cell? ⟨(ad.add (i.toNat * 9)).block, (ad.add (i.toNat * 9)).off + 1, none⟩ = some (.int .i64 (rd_T46 xs i).f1) ∧ w.cell? ⟨(ad.add (i.toNat * 9)).block, (ad.add (i.toNat * 9)).off + 2, none⟩ = some (.int .i64 (rd_T46 xs i).f2) ∧ w.cell? ⟨(ad.add (i.toNat * 9)).block, (ad.add (i.toNat * 9)).off + 3, none⟩ = some (.int .i64 (rd_T46 xs i).f3) ∧ w.cell? ⟨(ad.add (i.toNat * 9)).block, (ad.add (i.toNat * 9)).off + 4, none⟩ = some (.int .i64 (rd_T46 xs i).f4) ∧ w.cell? ⟨(ad.add (i.toNat * 9)).block, (ad.add (i.toNat * 9)).off + 5, none⟩ = some (.int .i64 (rd_T46 xs i).f5) ∧ w.cell? ⟨(ad.add (i.toNat * 9)).block, (ad.add (i.toNat * 9)).off + 6, none⟩ = some (.int .i64 (rd_T46 xs i).f6) ∧ w.cell? ⟨(ad.add (i.toNat * 9)).block, (ad.add (i.toNat * 9)).off + 7, none⟩ = some (.string (rd_T46 xs i).f7) ∧ w.cell? ⟨(ad.add (i.toNat * 9)).block, (ad.add (i.toNat * 9)).off + 8, none⟩ = some (.slice A8 (rd_T46 xs i).f8.length c8) ∧ (rd_T46 xs i).f8.length ≤ c8 ∧ (Kd.int .i64).C w A8 (rd_T46 xs i).f8.length (rd_T46 xs i).f8 := by
 obtain ⟨ad, c, e, _, hK, hc0⟩ := Kd.C_get h z46 i h0 h1
 have hc : ∀ j u, c[j]? = some u → w.cell? (ad.add (i.toNat * 9 + j)) = some u := hc0
 obtain ⟨A8, c8, rfl, l8, g8⟩ := k46_open hK
 exact ⟨ad, A8, c8, e, hc 0 _ rfl, by rw [← add_field _ _ 1 (by omega)]; exact hc 1 _ rfl, by rw [← add_field _ _ 2 (by omega)]; exact hc 2 _ rfl, by rw [← add_field _ _ 3 (by omega)]; exact hc 3 _ rfl, by rw [← add_field _ _ 4 (by omega)]; exact hc 4 _ rfl, by rw [← add_field _ _ 5 (by omega)]; exact hc 5 _ rfl, by rw [← add_field _ _ 6 (by omega)]; exact hc 6 _ rfl, by rw [← add_field _ _ 7 (by omega)]; exact hc 7 _ rfl, by rw [← add_field _ _ 8 (by omega)]; exact hc 8 _ rfl, l8, g8⟩
/-! #### struct type 41 -/
structure S41 where
 f0 : Int
 f1 : Int
 f2 : ByteArray
 f3 : Int
def z41 : S41 := ⟨(0 : Int), (0 : Int), (⟨#[]⟩ : ByteArray), (0 : Int)⟩
def k41 : Kd S41 := Kd.iso (Kd.pair (Kd.int .i64) (Kd.pair (Kd.int .i64) (Kd.pair Kd.string (Kd.int .i64)))) (fun x : S41 => (x.f0, x.f1, x.f2, x.f3))
theorem k41_heap : Kd.Heap k41 := Kd.heap_iso _ (Kd.heap_pair (Kd.heap_int .i64) (Kd.heap_pair (Kd.heap_int .i64) (Kd.heap_pair Kd.heap_string (Kd.heap_int .i64))))
theorem k41_open {w : World} {x : S41} {cs : List Value} (h : k41.K w x cs) : cs = [.int .i64 x.f0, .int .i64 x.f1, .string x.f2, .int .i64 x.f3] := by
 obtain ⟨_, _, rfl, rfl, ⟨_, _, rfl, rfl, ⟨_, _, rfl, rfl, rfl⟩⟩⟩ := h
 exact rfl
theorem k41_mk (w : World) (x : S41)  : k41.K w x [.int .i64 x.f0, .int .i64 x.f1, .string x.f2, .int .i64 x.f3] := ⟨[.int .i64 x.f0], [.int .i64 x.f1, .string x.f2, .int .i64 x.f3], rfl, rfl, ⟨[.int .i64 x.f1], [.string x.f2, .int .i64 x.f3], rfl, rfl, ⟨[.string x.f2], [.int .i64 x.f3], rfl, rfl, rfl⟩⟩⟩
theorem k41_mkM (w : World) (base : Nat) (ok : Nat → Prop) (x : S41)  : k41.M w base ok x [.int .i64 x.f0, .int .i64 x.f1, .string x.f2, .int .i64 x.f3] := ⟨[.int .i64 x.f0], [.int .i64 x.f1, .string x.f2, .int .i64 x.f3], rfl, rfl, ⟨[.int .i64 x.f1], [.string x.f2, .int .i64 x.f3], rfl, rfl, ⟨[.string x.f2], [.int .i64 x.f3], rfl, rfl, rfl⟩⟩⟩
def rd_T41 (xs : List S41) (i : Int) : S41 := xs.getD i.toNat z41
theorem at_T41 {w : World} {A : Option Addr} {n : Nat} {xs : List S41} (h : Kd.C k41 w A n xs) (i : Int) (h0 : 0 ≤ i) (h1 : i < n) : ∃ ad , A = some ad ∧ w.cell? (ad.add (i.toNat * 4)) = some (.int .i64 (rd_T41 xs i).f0) ∧ w.cell? ⟨(ad.add (i.toNat * 4)).block, (ad.add (i.toNat * 4)).off + 1, none⟩ = some (.int .i64 (rd_T41 xs i).f1) ∧ w.cell? ⟨(ad.add (i.toNat * 4)).block, (ad.add (i.toNat * 4)).off + 2, none⟩ = some (.string (rd_T41 xs i).f2) ∧ w.cell? ⟨(ad.add (i.toNat * 4)).block, (ad.add (i.toNat * 4)).off + 3, none⟩ = some (.int .i64 (rd_T41 xs i).f3) := by
 obtain ⟨ad, c, e, _, hK, hc0⟩ := Kd.C_get h z41 i h0 h1
 have hc : ∀ j u, c[j]? = some u → w.cell? (ad.add (i.toNat * 4 + j)) = some u := hc0
 obtain rfl := k41_open hK
 exact ⟨ad, e, hc 0 _ rfl, by rw [← add_field _ _ 1 (by omega)]; exact hc 1 _ rfl, by rw [← add_field _ _ 2 (by omega)]; exact hc 2 _ rfl, by rw [← add_field _ _ 3 (by omega)]; exact hc 3 _ rfl⟩
end Go.Proofs.Ytngppcmdaanheaa.Pr
namespace Go.Proofs.Ytngppcmdaanheaa.Ls
open Go.RowKit Go.Maps Go.Proofs.Ytngppcmdaanheaa.Iter Go.Proofs.Ytngppcmdaanheaa.ISet Go.Proofs.Ytngppcmdaanheaa.Pr
set_option linter.unusedVariables false
set_option linter.unusedSimpArgs false
abbrev Fa := S41
def aggF (f : Fa) : Value := .agg #[.int .i64 f.f0, .int .i64 f.f1, .string f.f2, .int .i64 f.f3]
def wfF (f : Fa) : Prop := (Lit.int .i64 f.f0).wf = true ∧ (Lit.int .i64 f.f1).wf = true ∧ f.f2.size ≤ maxLen ∧ (Lit.int .i64 f.f3).wf = true
theorem laidOut : laidOutB Try.prog = true := by kernel_rfl
theorem keyed : Keyed Try.prog 41 := Keyed.of_law (deep_law_laid laidOut (m := 4) (by omega) (of_decide_eq_true (by kernel_rfl)) (by kernel_rfl) (by kernel_rfl))
theorem cellsF : Try.prog.cellsOf 41 = 4 := by kernel_rfl
theorem cellsI : Try.prog.cellsOf 3 = 1 := by kernel_rfl
theorem cellsS : Try.prog.cellsOf 9 = 1 := by kernel_rfl
theorem keyTypeF : Try.prog.keyType 41 = true := by kernel_rfl
theorem sizeP : 0 < Try.prog.types.size := of_decide_eq_true (by kernel_rfl)
theorem keyLits_fact (d : Nat) (a b c : Int) (s : ByteArray) (h0 : (Lit.int .i64 a).wf = true) (h1 : (Lit.int .i64 b).wf = true) (h2 : s.size ≤ maxLen) (h3 : (Lit.int .i64 c).wf = true) :
  Try.prog.keyLits (d + 2) 41 [.int .i64 a, .int .i64 b, .string s, .int .i64 c] = some [.int .i64 a, .int .i64 b, .string s.data.toList, .int .i64 c] := by
 have hu := Try.underlying41
 have hi := Try.underlying3
 have hs := Try.underlying9
 simp [Program.keyLits, hu, hi, hs, cellsF, cellsI, cellsS, h0, h1, h2, h3]
set_option maxRecDepth 100000 in
theorem keyOf_fact (f : Fa) (hw : wfF f) : keyOf Try.prog 41 (aggF f) = some (.string (keyBytes [.int .i64 f.f0, .int .i64 f.f1, .string f.f2.data.toList, .int .i64 f.f3])) := by
 obtain ⟨h0, h1, h2, h3⟩ := hw
 have hu := Try.underlying41
 obtain ⟨d, hd⟩ : ∃ d, Try.prog.types.size = d + 1 := ⟨Try.prog.types.size - 1, by have := sizeP; omega⟩
 have hk := keyLits_fact d f.f0 f.f1 f.f3 f.f2 h0 h1 h2 h3
 unfold keyOf
 rw [hu]
 simp [Value.formed, aggF, Value.cells, hu, cellsF, keyTypeF, hd, hk]
set_option maxRecDepth 100000 in
theorem int_of_lits {d : Nat} {c : Value} {ls : List Lit} (h : Try.prog.keyLits (d + 1) 3 [c] = some ls) : ∃ n, c = .int .i64 n ∧ (Lit.int .i64 n).wf = true := by
 unfold Program.keyLits at h
 rw [Try.underlying3] at h
 cases c <;> simp at h
 obtain ⟨⟨rfl, h⟩, _⟩ := h
 exact ⟨_, rfl, h⟩
set_option maxRecDepth 100000 in
theorem string_of_lits {d : Nat} {c : Value} {ls : List Lit} (h : Try.prog.keyLits (d + 1) 9 [c] = some ls) : ∃ s, c = .string s ∧ s.size ≤ maxLen := by
 unfold Program.keyLits at h
 rw [Try.underlying9] at h
 cases c <;> simp at h
 exact ⟨_, rfl, h.1⟩
set_option maxRecDepth 100000 in
theorem fact_of_key {v : Value} {kl : Lit} (h : keyOf Try.prog 41 v = some kl) : ∃ f : Fa, v = aggF f ∧ wfF f := by
 have hu := Try.underlying41
 have hi := Try.underlying3
 have hs := Try.underlying9
 obtain ⟨d, hd⟩ : ∃ d, Try.prog.types.size = d + 1 := ⟨Try.prog.types.size - 1, by have := sizeP; omega⟩
 unfold keyOf at h
 rw [hu] at h
 simp only [keyTypeF, Bool.true_and] at h
 split at h
 ·rename_i hf
  cases v with
  | agg cs =>
   have hc : cs.size = 4 := by simpa [Value.formed, hu, cellsF] using hf
   obtain ⟨l⟩ := cs
   match l, hc with
   | [c0, c1, c2, c3], _ =>
    rw [hd] at h
    have e : Try.prog.keyLits (d + 1 + 1) 41 [c0, c1, c2, c3] = (Try.prog.keyLits (d + 1) 3 [c0]).bind fun a => (Try.prog.keyLits (d + 1) 3 [c1]).bind fun b => (Try.prog.keyLits (d + 1) 9 [c2]).bind fun c => (Try.prog.keyLits (d + 1) 3 [c3]).bind fun e => some (a ++ (b ++ (c ++ e))) := by
     conv => lhs; unfold Program.keyLits
     simp [hu, cellsF, cellsI, cellsS, Option.map_eq_bind, Option.bind_assoc, Function.comp]
    have hcs : (Value.agg { toList := [c0, c1, c2, c3] }).cells.toList = [c0, c1, c2, c3] := rfl
    rw [hcs, e] at h
    obtain ⟨ls, hls, _⟩ := Option.map_eq_some_iff.1 h
    obtain ⟨a0, e0, hls⟩ := Option.bind_eq_some_iff.1 hls
    obtain ⟨a1, e1, hls⟩ := Option.bind_eq_some_iff.1 hls
    obtain ⟨a2, e2, hls⟩ := Option.bind_eq_some_iff.1 hls
    obtain ⟨a3, e3, _⟩ := Option.bind_eq_some_iff.1 hls
    obtain ⟨n0, rfl, w0⟩ := int_of_lits e0
    obtain ⟨n1, rfl, w1⟩ := int_of_lits e1
    obtain ⟨s2, rfl, w2⟩ := string_of_lits e2
    obtain ⟨n3, rfl, w3⟩ := int_of_lits e3
    exact ⟨⟨n0, n1, s2, n3⟩, rfl, w0, w1, w2, w3⟩
  | _ => simp [Value.formed, hu] at hf
 ·cases h
end Go.Proofs.Ytngppcmdaanheaa.Ls
namespace Go.Proofs.Ytngppcmdaanheaa.Ls
open Go.RowKit Go.Maps Go.Proofs.Ytngppcmdaanheaa.Iter Go.Proofs.Ytngppcmdaanheaa.ISet Go.Proofs.Ytngppcmdaanheaa.Pr
set_option linter.unusedVariables false
set_option linter.unusedSimpArgs false
instance : DecidableEq Fa := fun a b => decidable_of_iff (a.f0 = b.f0 ∧ a.f1 = b.f1 ∧ a.f2 = b.f2 ∧ a.f3 = b.f3) (by
 obtain ⟨a0, a1, a2, a3⟩ := a
 obtain ⟨b0, b1, b2, b3⟩ := b
 constructor
 ·rintro ⟨h0, h1, h2, h3⟩
  simp only at h0 h1 h2 h3
  rw [h0, h1, h2, h3]
 ·intro h
  rw [h]
  exact ⟨rfl, rfl, rfl, rfl⟩)
def kl (f : Fa) : Lit := .string (keyBytes [.int .i64 f.f0, .int .i64 f.f1, .string f.f2.data.toList, .int .i64 f.f3])
theorem isKey_kl (f : Fa) : WideAt.IsKeyLit (kl f) := by simp [kl, WideAt.IsKeyLit]
theorem aggF_inj {f g : Fa} (h : aggF f = aggF g) : f = g := by
 obtain ⟨a, b, c, d⟩ := f
 obtain ⟨a', b', c', d'⟩ := g
 simp only [aggF, Value.agg.injEq, Array.mk.injEq, List.cons.injEq, Value.int.injEq, Value.string.injEq, true_and, and_true] at h
 obtain ⟨h0, h1, h2, h3⟩ := h
 rw [h0, h1, h2, h3]
theorem kl_inj {f g : Fa} (hf : wfF f) (hg : wfF g) (h : kl f = kl g) : f = g := by
 have h1 := keyOf_fact f hf
 have h2 := keyOf_fact g hg
 have h' : Lit.string (keyBytes [.int .i64 f.f0, .int .i64 f.f1, .string f.f2.data.toList, .int .i64 f.f3]) = .string (keyBytes [.int .i64 g.f0, .int .i64 g.f1, .string g.f2.data.toList, .int .i64 g.f3]) := h
 rw [h'] at h1
 exact aggF_inj (keyed.inj h1 h2)
theorem same_kl (f g : Fa) : (kl f).sameKey (kl g) = true ↔ kl f = kl g := ⟨fun h => WideAt.sameKey_eq h, fun h => by rw [h]; exact WideAt.sameKey_self (isKey_kl g)⟩
def FSet (W : World) (b n : Nat) (S : Fa → Bool) : Prop :=
 ∃ D : DataW Unit, W.ownsMap Try.prog 41 (plainElem Try.prog 4) b n D ∧ ∀ f, wfF f → has D (kl f) = S f ∧ (S f = true → ∀ z, D.atKey (kl f) z = .lit (.bool true))
variable {W : World} {b n : Nat} {S : Fa → Bool}
theorem FSet.made (W : World) : FSet (W.alloc (.map #[] 0)) W.heap.size 0 (fun _ => false) :=
 ⟨.map [], World.ownsMap_made W _ _ _, fun f _ => ⟨rfl, fun h => by cases h⟩⟩
theorem FSet.same {S' : Fa → Bool} (h : FSet W b n S) (hS : ∀ f, wfF f → S f = S' f) : FSet W b n S' := by
 obtain ⟨D, h1, h2⟩ := h
 exact ⟨D, h1, fun f hf => by rw [← hS f hf]; exact h2 f hf⟩
theorem FSet.lt (h : FSet W b n S) : b < W.heap.size := by
 obtain ⟨D, h1, _⟩ := h
 exact h1.lt
theorem FSet.chg {T : Nat → Prop} {W' : World} (h : FSet W b n S) (hc : Chg T W W') (hn : ¬ T b) : FSet W' b n S := by
 obtain ⟨D, ⟨es, clock, hb, F, hs, hD⟩, h2⟩ := h
 exact ⟨D, ⟨es, clock, hc.blk hb hn, F, hs, hD⟩, h2⟩
set_option maxRecDepth 100000 in
theorem FSet.look (h : FSet W b n S) (f : Fa) (hf : wfF f) : (Instr.lookup 61 (.map (some b)) (aggF f) false).run Try.prog W = .ok (.bool (S f)) W := by
 obtain ⟨D, hown, hS⟩ := h
 obtain ⟨v, ps, hrun, hv⟩ := hown.lookup keyed Try.underlying61 (Try.zeroValue4 W) (plainElem_bool Try.underlying4 false) (keyOf_fact f hf)
 obtain ⟨c, rfl, hc⟩ := plainElem_bool_inv Try.underlying4 hv
 obtain ⟨h1, h2⟩ := hS f hf
 rw [hrun]
 congr 2
 have hc1 : D.atKey (kl f) (.lit (.bool false)) = .lit (.bool c) := (Prod.mk.inj hc).1
 cases hSf : S f
 ·rw [hSf] at h1
  rw [atKey_of_not_has h1] at hc1
  injection hc1 with hc1
  injection hc1 with hc1
  exact hc1.symm
 ·rw [h2 hSf] at hc1
  injection hc1 with hc1
  injection hc1 with hc1
  exact hc1.symm
set_option maxRecDepth 100000 in
theorem FSet.put (h : FSet W b n S) (hn : n < maxLen) (f : Fa) (hf : wfF f) :
  ∃ W', (Instr.mapUpdate 61 (.map (some b)) (aggF f) (.bool true)).run Try.prog W = .ok () W' ∧ FSet W' b (n + 1) (fun g => decide (g = f) || S g) ∧ Chg (fun i => i = b) W W' := by
 obtain ⟨D, hown, hS⟩ := h
 obtain ⟨W', hrun, hown', hg⟩ := hown.update keyed Try.underlying61 hn (keyOf_fact f hf) (plainElem_bool Try.underlying4 true)
 have hown2 : W'.ownsMap Try.prog 41 (plainElem Try.prog 4) b (n + 1) (D.put (kl f) (.lit (.bool true))) := hown'
 refine ⟨W', hrun, ⟨_, hown2, fun g hg' => ?_⟩, (Chg.of_grown hg).mono (fun i _ h => by injection h with h; exact h.symm)⟩
 by_cases e : g = f
 ·subst e
  refine ⟨by rw [has_put_same hown.isMap (isKey_kl g)]; simp, fun _ z => atKey_put_same hown.isMap (isKey_kl g) _ _⟩
 ·have hk : kl g ≠ kl f := fun h => e (kl_inj hg' hf h)
  refine ⟨by rw [has_put_other hk, (hS g hg').1]; simp [e], fun h z => ?_⟩
  rw [atKey_put_other hk]
  exact (hS g hg').2 (by simpa [e] using h) z
def Met (D : DataW Unit) (left : Lit → Bool) (fs : List Fa) : Prop := fs.Nodup ∧ (∀ f ∈ fs, wfF f) ∧ ∀ f, wfF f → (f ∈ fs ↔ has D (kl f) = true ∧ left (kl f) = false)
theorem Met.start (D : DataW Unit) : Met D (has D) [] := ⟨List.nodup_nil, fun f h => (by simp at h), fun f _ => by
 cases has D (kl f) <;> simp⟩
theorem Met.step {D : DataW Unit} {left : Lit → Bool} {fs : List Fa} (h : Met D left fs) {x : Fa} (hx : wfF x) (hl : left (kl x) = true) (hh : has D (kl x) = true) : x ∉ fs ∧ Met D (fun z => left z && !z.sameKey (kl x)) (fs ++ [x]) := by
 have hn : x ∉ fs := fun hm => by have := ((h.2.2 x hx).1 hm).2; rw [hl] at this; cases this
 refine ⟨hn, List.nodup_append.2 ⟨h.1, by simp, fun a ha c hc => by simp at hc; subst hc; exact fun e => hn (e ▸ ha)⟩, fun f hf => ?_, fun f hf => ?_⟩
 ·rcases List.mem_append.1 hf with hf | hf
  ·exact h.2.1 f hf
  ·simp at hf; subst hf; exact hx
 ·by_cases e : f = x
  ·subst e
   simp [hh, WideAt.sameKey_self (isKey_kl f)]
  ·have hk : (kl f).sameKey (kl x) = false := by
    cases hs : (kl f).sameKey (kl x)
    ·rfl
    ·exact absurd (kl_inj hf hx ((same_kl f x).1 hs)) e
   rw [List.mem_append]
   simp only [List.mem_singleton, e, or_false]
   rw [h.2.2 f hf, hk]
   simp
end Go.Proofs.Ytngppcmdaanheaa.Ls
/- Rows of whole numbers of a call's own: sorted, each once, longer by one; small facts on worlds. No condition. -/
namespace Go.Proofs.Ytngppcmdaanheaa.Ext
open Go.RowKit Go.Proofs.YtngppcmdaanheaaW.PrintWords Go.Proofs.YtngppcmdaanheaaW.PrintLast Go.Proofs.YtngppcmdaanheaaW.PrintMore Go.Proofs.Ytngppcmdaanheaa.Sets Go.Proofs.Ytngppcmdaanheaa.Iter
set_option linter.unusedVariables false
set_option linter.unusedSimpArgs false
attribute [local go_sem] Oper.semAt_some
abbrev OwnI (W : World) (base : Nat) (v : Value) (xs : List Int) : Prop := Kd.R (Kd.int .i64) 3 W base (fun _ => True) v xs
theorem infoI : (Try.prog.info? 3).map (fun i => (i.zero, i.size, i.bytes)) = some (some (.int .i64 0), 1, 8) := by kernel_rfl
theorem own_slice3 {w : World} {base : Nat} {v : Value} {xs : List Int} (h : OwnI w base v xs) : ∃ A c, v = .slice A xs.length c ∧ xs.length ≤ c ∧ c ≤ 9223372036854775807 := by
  have ho := Kd.own_of_R h
  rcases ho.2 with ⟨rfl, h0⟩ | ⟨g, cap, cur, rfl, _, _, h1, h2, _⟩
  · exact ⟨none, 0, by rw [h0], by omega, by omega⟩
  · exact ⟨_, cap, rfl, h1, h2⟩
theorem own_base_lt {w : World} {base : Nat} {v : Value} {xs : List Int} (h : OwnI w base v xs) (k : Nat) (hk : v.ownBlock = some k) : base ≤ k := own_base (Kd.own_of_R h) k hk
theorem append1_in {F : Fence} {m : Nat} {ops : Array Oper} {rest : List Oper} {o : Oper} {act : Act} {Q : Exit → Act → World → Prop} {W : World} (base : Nat) (hgd : o.guard = none) (s x : Operand)
    (ho : o.op = .call { callee := .builtin .append, args := #[s, x], argTypes := #[42, 42] })
    (v : Value) (xs : List Int) (y : Int) (gb : Nat) (hs : act.eval s = v) (hx : act.eval x = .slice (some ⟨gb, 0, none⟩) 1 1) (hy : W.cell? ⟨gb, 0, none⟩ = some (.int .i64 y)) (HO : OwnI W base v xs) (hbase : base ≤ W.heap.size) (hl : xs.length < 17592186044416)
    (h : ∀ v1 w1, OwnI w1 base v1 (xs ++ [y]) → W.grownBy w1 v.ownBlock → (v1.ownBlock = v.ownBlock ∨ v1.ownBlock = some W.heap.size) → (∃ g n c, v1 = .slice (some ⟨g, 0, none⟩) n c) → wpListIn F m Try.prog ops Q rest (act.put o.dst v1) w1) :
    wpListIn F m Try.prog ops Q (o :: rest) act W := by
  obtain ⟨i0, hi, hz0, hz1, hz2⟩ := info_parts infoI
  refine wpListIn_append_own_at W hgd s x 42 ho base 3 i0 (.int .i64 0) 1 8 Try.underlying42 hi hz0 hz1 hz2 rfl (by decide) v xs.length _ hs (Kd.own_of_R HO) ⟨gb, 0, none⟩ 1 1 [.int .i64 y] hx rfl (fun j u hj => ?_) (by simp [Value.oneCell']) (by simp only [maxLen]; omega) (by omega) hbase ?_
  · match j, hj with
    | 0, hj => obtain rfl : Value.int .i64 y = u := by simpa using hj
               simpa [Addr.add] using hy
    | j + 1, hj => simp at hj
  intro v1 w1 hown hg hnil hat
  have hown' : w1.ownsRow base 3 1 v1 (xs ++ [y]).length (encs (Value.int .i64) (xs ++ [y])) := by simpa [encs] using hown
  refine h v1 w1 (Kd.R_of_own hown' (fun _ _ => trivial)) hg hat ?_
  rcases hown'.2 with ⟨_, h0⟩ | ⟨g, cap, cur, e, _⟩
  · simp at h0
  · exact ⟨g, _, cap, e⟩
theorem own_chg {W W' : World} {base : Nat} {v : Value} {xs : List Int} {T : Nat → Prop} (h : OwnI W base v xs) (hc : Chg T W W') (hn : ∀ k, v.ownBlock = some k → ¬ T k) : OwnI W' base v xs :=
  Kd.R_of_own (own_move (Kd.own_of_R h) (fun k hk => hc.block k (own_lt (Kd.own_of_R h) k hk) (hn k hk))) (fun _ _ => trivial)
theorem frozen_chg {W W' : World} {T : Nat → Prop} (hc : Chg T W W') {a : Addr} (hlt : a.block < W.heap.size) (hn : ¬ T a.block) : W'.frozen? a = W.frozen? a := by
  have := hc.block a.block hlt hn
  simp only [World.frozen?, this]
theorem alloc_at (w : World) (o : Obj) (k : Nat) : (w.alloc o).heap[k]? = if k = w.heap.size then some o else w.heap[k]? := by
  show (w.heap.push o)[k]? = _
  rw [Array.getElem?_push]
theorem cell_of_blk {W : World} {g : Nat} {v : Value} {t : TypeId} (h : W.heap[g]? = some (.cells #[v] t (0, 0))) : W.cell? ⟨g, 0, none⟩ = some v ∧ W.frozen? ⟨g, 0, none⟩ = false := by
  constructor <;> simp [World.cell?, World.frozen?, h]
end Go.Proofs.Ytngppcmdaanheaa.Ext
namespace Go.Proofs.Ytngppcmdaanheaa.Ls
open Go.RowKit Go.Maps Go.Proofs.Ytngppcmdaanheaa.Iter Go.Proofs.Ytngppcmdaanheaa.ISet Go.Proofs.Ytngppcmdaanheaa.Pr Go.Proofs.YtngppcmdaanheaaW.PrintWords Go.Proofs.YtngppcmdaanheaaW.PrintLast Go.Proofs.YtngppcmdaanheaaW.PrintMore
set_option linter.unusedVariables false
set_option linter.unusedSimpArgs false
attribute [local go_sem] Oper.semAt_some
def encF (f : Fa) : Array Value := #[aggF f]
theorem ranges_chg {P : Program} {k : TypeId} {H : Type} {R : Value → Option (DataW H × List MemPlace)} {W W' : World} {b r n : Nat} {D : DataW H} {left : Lit → Bool} {cnt : Nat} {T : Nat → Prop} (h : W.ranges P k R b r n D left cnt) (hc : Chg T W W') (hb : ¬ T b) (hr : ¬ T r) : W'.ranges P k R b r n D left cnt := by
 obtain ⟨es, clock, since, seen, c0, h1, F, hs, hD, h2, rest⟩ := h
 exact ⟨es, clock, since, seen, c0, hc.blk h1 hb, F, hs, hD, hc.blk h2 hr, rest⟩
structure KRel (B0 Bm b r n : Nat) (D : DataW Unit) (J : List Fa → (Nat → Prop) → World → Prop) (left : Lit → Bool) (cnt : Nat) (fs : List Fa) (W : World) : Prop where
 rg : W.ranges Try.prog 41 (plainElem Try.prog 4) b r n D left cnt
 met : Met D left fs
 len : fs.length + cnt ≤ Maps.size D
 own : ∃ O1, J fs O1 W ∧ ∀ i, O1 i → B0 ≤ i ∧ i ≠ Bm ∧ i ≠ b ∧ i ≠ r ∧ i < W.heap.size
 low : B0 ≤ r
def KeysS (S : Fa → Bool) (xs : List Fa) : Prop := xs.Nodup ∧ (∀ f ∈ xs, wfF f) ∧ ∀ f, wfF f → (f ∈ xs ↔ S f = true)
def KeysN (n : Nat) (S : Fa → Bool) (p : List Fa) (x : Fa) : Prop := wfF x ∧ S x = true ∧ x ∉ p ∧ p.length < n
theorem keys_calls (b : Nat) (w : World) : Calls Try.prog 41 #[.map (some b)] w fun e w' => e = .returned (.func (.func 60) #[] #[.pointer (some ⟨w.heap.size, 0, none⟩)]) ∧ w' = w.alloc (.cells #[.map (some b)] 61) := by
 go_enter Try.func41, Try.ntmps41
 go_wp2
 go_ret
 exact ⟨rfl, rfl⟩
set_option maxRecDepth 100000 in
set_option maxHeartbeats 2000000 in
theorem keys1_iter (w : World) (B0 Bm b n : Nat) (S : Fa → Bool) (hB0 : B0 ≤ w.heap.size) (hbox : w.cell? ⟨Bm, 0, none⟩ = some (.map (some b))) (hs : FSet w b n S) :
  IterP Try.prog 60 #[.pointer (some ⟨Bm, 0, none⟩)] encF (KeysS S) (KeysN n S) B0 (fun i => i = Bm ∨ i = b) w := by
 intro y J O W hcW hO hJ hY h0
 have hboxW : W.cell? ⟨Bm, 0, none⟩ = some (.map (some b)) := hcW.cell hbox (fun h => (hO _ h.1).1 (.inl rfl))
 obtain ⟨D, hown, hD⟩ := hs.chg hcW (fun h => (hO _ h.1).1 (.inr rfl))
 have HY := zm hY
 have HJ := zm hJ
 have HO := zm hO
 have HD := zm hD
 have H0 := zm h0
 have hBW : B0 ≤ W.heap.size := Nat.le_trans hB0 hcW.size
 have hBmlt : Bm < W.heap.size := World.block_lt_of_cell? W _ hboxW
 have hsz : Maps.size D ≤ n := by
  obtain ⟨es, clock, hb, F, hs, rfl⟩ := hown
  simpa [Maps.size, length_sorted] using hs
 clear hY hJ hO hD h0 hs hcW
 refine (callsIn_wide (n := 0)).1 ?_
 refine callsIn_of_wp Try.func60 rfl trivial ?_ rfl
 simp only [Try.ntmps60, List.size_toArray, List.length_cons, List.length_nil, Nat.reduceAdd, Nat.reduceSub, Array.replicate_succ, Array.replicate_zero, List.push_toArray, List.append_toArray, List.nil_append, List.cons_append]
 gi_wp2_with (gi_at_range; refine wpListIn_range_own _ rfl _ 61 rfl 41 4 keyed Try.underlying61 (plainElem Try.prog 4) b n D rfl hown ?_; intro w0 hrg0 hg0 hs0)
 have HREL := zm (show KRel B0 Bm b W.heap.size n D J (has D) (Maps.size D) [] w0 from ⟨hrg0, Met.start D, by simp, ⟨O, HJ.out [] O W w0 (fun _ => False) H0.out ((Chg.of_grown hg0).mono (fun i _ h => by cases h)) (fun i h => h.elim), fun i hi => by
  have h1 := HO.out i hi
  exact ⟨h1.2.1, fun e => h1.1 (.inl e), fun e => h1.1 (.inr e), by omega, by omega⟩⟩, hBW⟩)
 clear hg0 hrg0 H0 HO
 gi_loopg [3] (Maps.size D) (fun kq v3 W1 => ∃ left fs, KRel B0 Bm b W.heap.size n D J left kq fs W1)
 case atStart => exact ⟨_, _, HREL.out⟩
 case round =>
  clear HREL
  obtain ⟨left, fs, hrel⟩ := hrel
  have HR := zm hrel
  clear hrel
  gi_wp2_with (gi_at_next; refine wpListIn_next_ranges _ rfl _ rfl 41 keyed (plainElem Try.prog 4) aggF id (fun key kl hk => (fact_of_key hk).imp (fun f h => h.1)) (fun v _ _ => ⟨v, rfl⟩) b W.heap.size n _ _ _ rfl HR.out.rg ?_ ?_)
  ·intro hc0 hl0
   gi_wp2
   go_end0
   obtain ⟨O1, hj, _⟩ := HR.out.own
   exact ⟨⟨_, rfl⟩, fs, O1, ⟨HR.out.met.1, HR.out.met.2.1, fun f hf => by rw [HR.out.met.2.2 f hf, hl0, (HD.out f hf).1]; simp⟩, hj⟩
  ·intro x c klx yd yp w2 cnt2 hkey hlk hv hat hrg2 hlt hg2 hs2 hen
   obtain ⟨x', ex, hwx⟩ := fact_of_key hkey
   obtain rfl := aggF_inj ex
   have ek : klx = kl x := by have := keyOf_fact x hwx; rw [this] at hkey; exact (Option.some.inj hkey).symm
   subst ek
   have hhas : has D (kl x) = true := has_true_of_atKey hat
   obtain ⟨hnx, hmet2⟩ := HR.out.met.step hwx hlk hhas
   obtain ⟨O1, hj, hd⟩ := HR.out.own
   have hSx : S x = true := by rw [← (HD.out x hwx).1]; exact hhas
   have hc2 : Chg (fun i => i = W.heap.size) wr w2 := (Chg.of_grown hg2).mono (fun i _ h => by injection h with h; exact h.symm)
   have hj2 := HJ.out fs O1 wr w2 _ hj hc2 (fun i e => by subst e; exact ⟨HR.out.low, fun h => (hd _ h).2.2.2.1 rfl⟩)
   have hj3 := HJ.out fs O1 w2 (w2.alloc (.cells #[.int .i64 x.f0, .int .i64 x.f1, .string x.f2, .int .i64 x.f3] 41)) (fun _ => False) hj2 ((Chg.refl _ _).alloc _) (fun i h => h.elim)
   have hlen := HR.out.len
   have hyl := HY.out fs x O1 _ ⟨hwx, hSx, hnx, by omega⟩ hj3 (fun i hi => by have := (hd i hi).2.2.2.2; simp; omega)
   obtain ⟨fn, tmps, asg, bdy, hy, hR⟩ := hyl
   dsimp only [encF, aggF] at hy hen
   have HR2 := zm hR
   have HM := zm hmet2
   have HRG := zm hrg2
   have HDD := zm hd
   have hszw : w2.heap.size = wr.heap.size := hs2
   clear hR hmet2 hj hj2 hj3 hd hrg2 hat hv hkey hs2
   gi_wp2
   refine ⟨rfl, HR2.out.mono ?_⟩
   rintro e W3 ⟨rfl, ⟨O2, hO2, hJ2⟩, hc⟩
   have hr1 := HRG.out.lt
   have hb1 := HRG.out.owns.lt
   have hs3 := hc.size
   rw [World.size_alloc] at hs3
   have HG := zm (show KRel B0 Bm b W.heap.size n D J _ cnt2 (fs ++ [x]) W3 from ⟨ranges_chg (ranges_chg HRG.out ((Chg.refl (fun _ => False) w2).alloc _) (fun h => h) (fun h => h)) hc (fun h => (HDD.out _ h).2.2.1 rfl) (fun h => (HDD.out _ h).2.2.2.1 rfl), HM.out, by rw [List.length_append, List.length_singleton]; omega, ⟨O2, hJ2, fun i hi => by
    have h1 := hO2 i hi
    rw [World.size_alloc] at h1
    rcases h1.1 with h | h
    ·have h2 := HDD.out i h
     exact ⟨h2.1, h2.2.1, h2.2.2.1, h2.2.2.2.1, h1.2⟩
    ·exact ⟨by omega, by omega, by omega, by omega, h1.2⟩⟩, HR.out.low⟩)
   clear hO2 hJ2 hc hy hen
   gi_wp2
   gi_roundg cnt2
   case measure => exact hlt
   case rel => exact ⟨_, _, HG.out⟩
end Go.Proofs.Ytngppcmdaanheaa.Ls
namespace Go.Proofs.Ytngppcmdaanheaa.Iter
open Go.RowKit
set_option linter.unusedVariables false
variable {B0 : Nat} {J Jx : Nat → (Nat → Prop) → World → Prop} {cs : List (Nat × Value)} {n N : Nat} {O1 : Nat → Prop} {W W' : World}
theorem grow_alloc {O : Nat → Prop} (hO : ∀ i, O i → i < W.heap.size) (o : Obj) : Grow O W (fun i => O i ∨ i = W.heap.size) (W.alloc o) := fun i hi => by
 rw [World.size_alloc]
 rcases hi with hi | rfl
 ·have := hO i hi
  exact ⟨.inl hi, by omega⟩
 ·exact ⟨.inr (Nat.le_refl _), by omega⟩
end Go.Proofs.Ytngppcmdaanheaa.Iter
namespace Go.Proofs.Ytngppcmdaanheaa.Ls
open Go.RowKit Go.Maps Go.Proofs.Ytngppcmdaanheaa.Iter Go.Proofs.Ytngppcmdaanheaa.ISet Go.Proofs.Ytngppcmdaanheaa.Pr Go.Proofs.Ytngppcmdaanheaa.Ext Go.Proofs.YtngppcmdaanheaaW.PrintWords Go.Proofs.YtngppcmdaanheaaW.PrintLast Go.Proofs.YtngppcmdaanheaaW.PrintMore
set_option linter.unusedVariables false
set_option linter.unusedSimpArgs false
attribute [local go_sem] Oper.semAt_some
def encL (x : Fa) : List Value := [.int .i64 x.f0, .int .i64 x.f1, .string x.f2, .int .i64 x.f3]
theorem add0 (g j : Nat) : (Addr.mk g 0 none).add j = ⟨g, j, none⟩ := by simp [Addr.add]; omega
def flatF (xs : List Fa) : List Value := xs.flatMap encL
theorem flatF_len : ∀ xs : List Fa, (flatF xs).length = xs.length * 4
 | [] => rfl
 | x :: xs => by
  have := flatF_len xs
  unfold flatF at this ⊢
  rw [List.flatMap_cons, List.length_append, this]
  simp [encL]
  omega
theorem flatF_app (xs ys : List Fa) : flatF (xs ++ ys) = flatF xs ++ flatF ys := List.flatMap_append
theorem flatF_get : ∀ (xs : List Fa) (i : Nat) (x : Fa) (c : Nat), xs[i]? = some x → c < 4 → (flatF xs)[i * 4 + c]? = (encL x)[c]?
 | [], i, x, c, h, hc => by simp at h
 | y :: xs, 0, x, c, h, hc => by
  obtain rfl : y = x := by simpa using h
  unfold flatF
  rw [List.flatMap_cons, Nat.zero_mul, Nat.zero_add, List.getElem?_append_left (by simpa [encL] using hc)]
 | y :: xs, i + 1, x, c, h, hc => by
  have h' : xs[i]? = some x := by simpa using h
  have := flatF_get xs i x c h' hc
  unfold flatF at this ⊢
  rw [List.flatMap_cons, List.getElem?_append_right (by simp [encL]; omega)]
  have e : (i + 1) * 4 + c - (encL y).length = i * 4 + c := by simp [encL]; omega
  rw [e, this]
def OwnF (W : World) (base : Nat) (v : Value) (xs : List Fa) : Prop := W.ownsRow base 41 4 v xs.length (flatF xs)
theorem OwnF.nil (W : World) (base : Nat) : OwnF W base (.slice none 0 0) [] := World.ownsRow_nil _ _ _ _
theorem OwnF.move {W W' : World} {base : Nat} {v : Value} {xs : List Fa} (h : OwnF W base v xs) (hm : ∀ k, v.ownBlock = some k → W'.heap[k]? = W.heap[k]?) : OwnF W' base v xs := own_move h hm
theorem OwnF.lt {W : World} {base : Nat} {v : Value} {xs : List Fa} (h : OwnF W base v xs) {k : Nat} (hk : v.ownBlock = some k) : base ≤ k ∧ k < W.heap.size := World.ownsRow.lt h k hk
theorem OwnF.below {W W' : World} {base : Nat} {v : Value} {xs : List Fa} (h : OwnF W base v xs) (hb : Below W.heap.size W W') : OwnF W' base v xs := h.move (fun k hk => hb.block k (h.lt hk).2)
theorem OwnF.slice {W : World} {base : Nat} {v : Value} {xs : List Fa} (h : OwnF W base v xs) : (v = .slice none 0 0 ∧ xs = []) ∨ ∃ g c cur, v = .slice (some ⟨g, 0, none⟩) xs.length c ∧ base ≤ g ∧ W.heap[g]? = some (.cells cur 41 (0, 0)) ∧ xs.length ≤ c ∧ c ≤ 9223372036854775807 ∧ cur.size = c * 4 ∧ cur.toList.take (xs.length * 4) = flatF xs := by
 rcases h.2 with ⟨rfl, h0⟩ | ⟨g, cap, cur, rfl, hb, hh, h1, h2, h3, h4⟩
 ·exact .inl ⟨rfl, List.eq_nil_of_length_eq_zero h0⟩
 ·exact .inr ⟨g, cap, cur, rfl, hb, hh, h1, by simpa [maxLen] using h2, h3, by simpa [flatF_len] using h4⟩
theorem OwnF.cells {W : World} {base g n c : Nat} {xs : List Fa} (h : OwnF W base (.slice (some ⟨g, 0, none⟩) n c) xs) {i : Nat} {x : Fa} (hx : xs[i]? = some x) {q : Nat} (hq : q < 4) : W.cell? ⟨g, i * 4 + q, none⟩ = (encL x)[q]? := by
 have h1 := World.ownsRow.cells (g := g) h (by
  rcases h.2 with ⟨e, _⟩ | ⟨g', cap, cur, e, _⟩
  ·cases e
  ·injection e with e1 e2 e3; injection e1 with e1; injection e1 with e1; subst e1; rfl) (i * 4 + q)
 have h2 := flatF_get xs i x q hx hq
 have h3 : q < (encL x).length := by simpa [encL] using hq
 rw [List.getElem?_eq_getElem h3] at h2 ⊢
 have := h1 _ h2
 rw [add0] at this
 exact this
theorem infoF : (Try.prog.info? 41).map (fun i => (i.zero, i.size, i.bytes)) = some (some (.agg #[.int .i64 0, .int .i64 0, .string ByteArray.empty, .int .i64 0]), 4, 40) := by kernel_rfl
theorem appendF_in {F : Fence} {m : Nat} {ops : Array Oper} {rest : List Oper} {o : Oper} {act : Act} {Q : Exit → Act → World → Prop} {W : World} (base : Nat) (hgd : o.guard = none) (s x : Operand)
  (ho : o.op = .call { callee := .builtin .append, args := #[s, x], argTypes := #[26, 26] })
  (v : Value) (xs : List Fa) (y : Fa) (gb : Nat) (hs : act.eval s = v) (hx : act.eval x = .slice (some ⟨gb, 0, none⟩) 1 1) (hy : W.heap[gb]? = some (.cells #[.int .i64 y.f0, .int .i64 y.f1, .string y.f2, .int .i64 y.f3] 41 (0, 0))) (HO : OwnF W base v xs) (hbase : base ≤ W.heap.size) (hl : xs.length < 1000000000000)
  (h : ∀ v1 w1, OwnF w1 base v1 (xs ++ [y]) → W.grownBy w1 v.ownBlock → (v1.ownBlock = v.ownBlock ∨ v1.ownBlock = some W.heap.size) → wpListIn F m Try.prog ops Q rest (act.put o.dst v1) w1) :
  wpListIn F m Try.prog ops Q (o :: rest) act W := by
 obtain ⟨i0, hi, hz0, hz1, hz2⟩ := info_parts infoF
 refine wpListIn_append_own_at W hgd s x 26 ho base 41 i0 _ 4 40 Try.underlying26 hi hz0 hz1 hz2 rfl (by decide) v xs.length _ hs HO ⟨gb, 0, none⟩ 1 1 (encL y) hx rfl (fun j u hj => ?_) (by simp [encL, Value.oneCell']) (by simp only [maxLen]; omega) (by omega) hbase ?_
 ·have hj4 : j < 4 := by have := (List.getElem?_eq_some_iff.1 hj).1; simpa [encL] using this
  have e := add0 gb j
  rw [e]
  match j, hj4 with
  | 0, _ => simpa [World.cell?, hy, encL] using hj
  | 1, _ => simpa [World.cell?, hy, encL] using hj
  | 2, _ => simpa [World.cell?, hy, encL] using hj
  | 3, _ => simpa [World.cell?, hy, encL] using hj
 intro v1 w1 hown hg hnil hat
 refine h v1 w1 ?_ hg hat
 have e : flatF (xs ++ [y]) = flatF xs ++ encL y := by rw [flatF_app]; unfold flatF; simp
 unfold OwnF
 rw [e, List.length_append]
 exact hown
theorem OwnF.slice3 {W : World} {base : Nat} {v : Value} {xs : List Fa} (h : OwnF W base v xs) : ∃ A c, v = .slice A xs.length c := by
 rcases h.slice with ⟨h1, h2⟩ | ⟨g, c, cur, h1, _⟩
 ·subst h2; exact ⟨_, _, h1⟩
 ·exact ⟨_, _, h1⟩
theorem OwnF.chg {W W' : World} {base : Nat} {v : Value} {xs : List Fa} {T : Nat → Prop} (h : OwnF W base v xs) (hc : Chg T W W') (hn : ∀ k, v.ownBlock = some k → ¬ T k) : OwnF W' base v xs :=
 h.move (fun k hk => hc.block k (h.lt hk).2 (hn k hk))
structure BoxF (W : World) (base b : Nat) (xs : List Fa) (O : Nat → Prop) : Prop where
 out : ∃ v, W.cell? ⟨b, 0, none⟩ = some v ∧ OwnF W base v xs ∧ ∀ i, v.ownBlock = some i → O i ∧ i ≠ b
 free : W.frozen? ⟨b, 0, none⟩ = false
 lt : b < W.heap.size
 own : O b
theorem BoxF.chg {A B : World} {base b : Nat} {xs : List Fa} {O T : Nat → Prop} (h : BoxF A base b xs O) (hc : Chg T A B) (hT : ∀ i, T i → ¬ O i) : BoxF B base b xs O := by
 obtain ⟨v, h1, h2, h3⟩ := h.out
 refine ⟨⟨v, hc.cell h1 (fun ht => hT _ ht h.own), OwnF.chg h2 hc (fun i hi ht => hT i ht (h3 i hi).1), h3⟩, ?_, Nat.lt_of_lt_of_le h.lt hc.size, h.own⟩
 rw [frozen_chg hc h.lt (fun ht => hT _ ht h.own)]
 exact h.free
theorem BoxF.less {A : World} {base b : Nat} {xs : List Fa} {O O' : Nat → Prop} (h : BoxF A base b xs O) (hO : ∀ i, O i → O' i) : BoxF A base b xs O' := by
 obtain ⟨v, h1, h2, h3⟩ := h.out
 exact ⟨⟨v, h1, h2, fun i hi => ⟨hO i (h3 i hi).1, (h3 i hi).2⟩⟩, h.free, h.lt, hO _ h.own⟩
theorem BoxF.fresh (W : World) (base : Nat) (t : TypeId) (O : Nat → Prop) (hO : O W.heap.size) : BoxF (W.alloc (.cells #[.slice none 0 0] t)) base W.heap.size [] O := by
 have hn := heap_alloc_new W (.cells #[.slice none 0 0] t)
 exact ⟨⟨_, (cell_of_blk hn).1, OwnF.nil _ _, fun i hi => by simp [Value.ownBlock] at hi⟩, (cell_of_blk hn).2, by simp, hO⟩
theorem BoxF.step {W w1 : World} {base b : Nat} {xs : List Fa} {O : Nat → Prop} (h : BoxF W base b xs O) {v : Value} (hv : W.cell? ⟨b, 0, none⟩ = some v) (hv3 : ∀ i, v.ownBlock = some i → O i ∧ i ≠ b) (o : Obj) (hg : (W.alloc o).grownBy w1 v.ownBlock) :
  w1.cell? ⟨b, 0, none⟩ = some v ∧ w1.frozen? ⟨b, 0, none⟩ = false := by
 have h0 : Chg (fun i => v.ownBlock = some i) W w1 := ((Chg.refl _ W).alloc o).grown hg (fun k hk => .inl hk)
 refine ⟨h0.cell hv (fun h => (hv3 _ h).2 rfl), ?_⟩
 rw [frozen_chg h0 h.lt (fun h => (hv3 _ h).2 rfl)]
 exact h.free
theorem BoxF.stored {W w1 : World} {base b : Nat} {xs ys : List Fa} {O : Nat → Prop} (h : BoxF W base b xs O) {v v1 : Value} (hv : W.cell? ⟨b, 0, none⟩ = some v) (hv3 : ∀ i, v.ownBlock = some i → O i ∧ i ≠ b) (o : Obj) (hg : (W.alloc o).grownBy w1 v.ownBlock)
  (hO : OwnF w1 base v1 ys) (hat : v1.ownBlock = v.ownBlock ∨ v1.ownBlock = some (W.alloc o).heap.size) (hOb : ∀ i, O i → i < W.heap.size) :
  Chg O W (w1.setCell ⟨b, 0, none⟩ v1) ∧ ∃ O2 : Nat → Prop, Grow O W O2 (w1.setCell ⟨b, 0, none⟩ v1) ∧ (∀ i, O i → O2 i) ∧ BoxF (w1.setCell ⟨b, 0, none⟩ v1) base b ys O2 := by
 have h0 : Chg (fun i => v.ownBlock = some i) W w1 := ((Chg.refl _ W).alloc o).grown hg (fun k hk => .inl hk)
 obtain ⟨hcell, hfr⟩ := h.step hv hv3 o hg
 have hlt := h.lt
 have hv1 : ∀ i, v1.ownBlock = some i → (O i ∨ W.heap.size ≤ i) ∧ i ≠ b := by
  intro i hi
  rcases hat with e | e
  ·rw [e] at hi
   exact ⟨.inl (hv3 i hi).1, (hv3 i hi).2⟩
  ·rw [e] at hi
   injection hi with hi
   have : (W.alloc o).heap.size = W.heap.size + 1 := by simp
   exact ⟨.inr (by omega), by omega⟩
 have h1 : Chg (fun i => i = b) w1 (w1.setCell ⟨b, 0, none⟩ v1) := (Chg.refl (fun i => i = b) w1).setCell (p := ⟨b, 0, none⟩) (.inl rfl) v1
 have hc2 : Chg O W (w1.setCell ⟨b, 0, none⟩ v1) := (h0.mono (fun i _ hi => (hv3 i hi).1)).trans h1 (fun i e => by subst e; exact .inl h.own)
 have hl1 : ∀ i, v1.ownBlock = some i → i < w1.heap.size := fun i hi => (OwnF.lt hO hi).2
 have hsz : (w1.setCell ⟨b, 0, none⟩ v1).heap.size = w1.heap.size := by simp [World.setCell]
 have hs2 := hc2.size
 exact ⟨hc2, fun i => (O i ∨ W.heap.size ≤ i) ∧ i < (w1.setCell ⟨b, 0, none⟩ v1).heap.size, fun i h => h, fun i h => ⟨.inl h, Nat.lt_of_lt_of_le (hOb i h) hs2⟩, ⟨v1, World.cell?_setCell_same' _ _ _ (by rw [hcell]; rfl), OwnF.chg hO h1 (fun i hi e => (hv1 i hi).2 e), fun i hi => ⟨⟨(hv1 i hi).1, by rw [hsz]; exact hl1 i hi⟩, (hv1 i hi).2⟩⟩, by rw [World.frozen?_setCell]; exact hfr, Nat.lt_of_lt_of_le h.lt hc2.size, ⟨.inl h.own, Nat.lt_of_lt_of_le h.lt hc2.size⟩⟩
structure ApF (w : World) (B0 : Nat) (k : List Fa) (O : Nat → Prop) (W : World) : Prop where
 bel : Below B0 w W
 row : BoxF W w.heap.size w.heap.size k O
theorem ApF.abide (w : World) (B0 : Nat) (hB0 : B0 ≤ w.heap.size) (k : List Fa) : Abide B0 (ApF w B0 k) := by
 intro O A B T h hc hT
 exact ⟨h.bel.trans (hc.below (Nat.le_trans hB0 (Nat.le_of_lt h.row.lt)) (fun i hi => (hT i hi).1)), h.row.chg hc (fun i hi => (hT i hi).2)⟩
theorem ApF.alloc {w W : World} {B0 : Nat} {k : List Fa} {O : Nat → Prop} (h : ApF w B0 k O W) (hB0 : B0 ≤ w.heap.size) (o : Obj) : ApF w B0 k (fun i => O i ∨ i = W.heap.size) (W.alloc o) :=
 have h2 := ApF.abide w B0 hB0 k O W (W.alloc o) (fun _ => False) h ((Chg.refl _ _).alloc _) (fun i hi => hi.elim)
 ⟨h2.bel, h2.row.less (fun i h => .inl h)⟩
def CollF (B0 : Nat) (w : World) (S : List Fa → Prop) (e : Ending) (w' : World) : Prop := ∃ (v : Value) (xs : List Fa), e = .returned v ∧ S xs ∧ OwnF w' w.heap.size v xs ∧ Below B0 w w'
set_option maxHeartbeats 2000000 in
theorem appendF_calls {gf : Nat} {lb : Array Value} {S : List Fa → Prop} {Nx : List Fa → Fa → Prop} {B0 : Nat} {Oi : Nat → Prop} {w0 w : World} (eg : ∀ args w, (callFunc gf args).run Try.prog w = .ok (.enter gf args) w) (hit : IterP Try.prog gf lb encF S Nx B0 Oi w0)
  (hw : Below w0.heap.size w0 w) (hB0 : B0 ≤ w.heap.size) (hOi : ∀ i, Oi i → i < w.heap.size) (hl : ∀ p x, Nx p x → p.length < 1000000000000) :
  Calls Try.prog 76 #[.slice none 0 0, .func (.func gf) #[] lb] w (CollF B0 w S) := by
 refine (callsIn_wide (n := 0)).1 ?_
 refine callsIn_of_wp_marks Try.func76 rfl trivial ?_ rfl
 simp only [Try.ntmps76, List.size_toArray, List.length_cons, List.length_nil, Nat.reduceAdd, Nat.reduceSub, Array.replicate_succ, Array.replicate_zero, List.push_toArray, List.append_toArray, List.nil_append, List.cons_append]
 have hdep : Fence.wide.depth = none := rfl
 have hfns : ∀ f, Fence.wide.fn f := fun _ => trivial
 gi_wp2
 have hI0 : ApF w B0 [] (fun i => i = w.heap.size) (w.alloc (.cells #[.slice none 0 0] 26)) := ⟨(Below.refl _ w).alloc hB0 _, BoxF.fresh w _ _ _ rfl⟩
 have hc0 : Chg (fun i => i = w.heap.size ∧ w0.heap.size ≤ i) w0 (w.alloc (.cells #[.slice none 0 0] 26)) := (Chg.of_below hw _).alloc _
 have hs0 : (w.alloc (.cells #[.slice none 0 0] 26)).heap.size = w.heap.size + 1 := by simp
 generalize w.alloc (.cells #[.slice none 0 0] 26) = W1 at *
 refine wp_rangeFunc_p (gf := gf) (lb := lb) rfl eg hit (fun _ => rfl) (fun i => i = w.heap.size) (by omega) (fun i hi => by subst hi; exact ⟨by omega, by omega, fun h => by have := hOi _ h; omega⟩) (fun i hi => by have := hOi _ hi; omega) hc0
  (ApF w B0) (fun k => ApF.abide w B0 hB0 k) hI0 ?round ?done
 case round =>
  intro l0 k x O1 W K hx hi hb hK
  obtain ⟨x0, x1, x2, x3⟩ := x
  dsimp only [encF, aggF]
  gi_wp2
  refine hK _ _ _ ((Chg.refl _ _).alloc _) (grow_alloc hb _) (hi.alloc hB0 _) ?_
  have hn4 := heap_alloc_new W (.cells #[.int .i64 x0, .int .i64 x1, .string x2, .int .i64 x3] 41)
  clear hi hK hb
  intro l T Wb hc hT hOb hll hnl hrec hi
  have hn5 := hc.blk hn4 (fun ht => (hT _ ht).2 (.inr rfl))
  have hf0 : Wb.cell? ⟨W.heap.size, 0, none⟩ = some (.int .i64 x0) := by simp [World.cell?, hn5]
  have hf1 : Wb.cell? ⟨W.heap.size, 1, none⟩ = some (.int .i64 x1) := by simp [World.cell?, hn5]
  have hf2 : Wb.cell? ⟨W.heap.size, 2, none⟩ = some (.string x2) := by simp [World.cell?, hn5]
  have hf3 : Wb.cell? ⟨W.heap.size, 3, none⟩ = some (.int .i64 x3) := by simp [World.cell?, hn5]
  clear hn4 hn5 hT hnl
  obtain ⟨O9, hO9⟩ : ∃ O9 : Nat → Prop, O9 = (fun i => O1 i ∨ i = W.heap.size) := ⟨_, rfl⟩
  replace hOb : ∀ i, O9 i → i < Wb.heap.size := by rw [hO9]; exact hOb
  rw [← hO9] at hi ⊢
  clear hO9
  obtain ⟨v, hv1, hv2, hv3⟩ := hi.row.out
  have hfr := hi.row.free
  have HI := zm hi
  have hle : k.length < 1000000000000 := hl _ _ hx
  have hbs : w.heap.size < Wb.heap.size := hi.row.lt
  have hsl := hv2.slice3
  obtain ⟨A, c, hve⟩ := hsl
  subst hve
  have HO2 := zm (hv2.below (below_alloc (Below.refl _ _) (.cells #[.int .i64 x0, .int .i64 x1, .string x2, .int .i64 x3] 41)))
  clear hi hv2 hx hrec hc
  gi_wp2_with (gi_at_builtin; go_loud (refine appendF_in w.heap.size rfl _ _ rfl (.slice A k.length c) k ⟨x0, x1, x2, x3⟩ Wb.heap.size rfl rfl (heap_alloc_new _ _) HO2.out (by simp; omega) hle ?_; rintro v1 w1 hO1 hg1 hat1; obtain ⟨A1_, n1_, c1_, rfl⟩ : ∃ A n c, v1 = Value.slice A n c := (OwnF.slice3 hO1).elim fun A h => h.elim fun c h => ⟨A, _, c, h⟩; obtain ⟨hcell1, hfr1⟩ := HI.out.row.step hv1 hv3 _ hg1; have HST := zm (HI.out.row.stored hv1 hv3 _ hg1 hO1 hat1 hOb); have HVB := zm (show Chg (fun i => O9 i ∧ B0 ≤ i) Wb w1 from ((Chg.refl _ Wb).alloc _).grown hg1 (fun i hi => .inl ⟨(hv3 i hi).1, Nat.le_trans hB0 ((HO2.out.lt hi).1)⟩)); clear hO1 hat1 hg1))
  obtain ⟨hst1, O2, hO2, hOO, hrow⟩ := HST.out
  refine ⟨hst1, O2, hO2, HI.out.bel.trans ((HVB.out.setCell (p := ⟨w.heap.size, 0, none⟩) (.inl ⟨HI.out.row.own, hB0⟩) _).below (Nat.le_trans hB0 (Nat.le_of_lt hbs)) (fun i hi => hi.2)), ?_⟩
  exact hrow
 case done =>
  intro D O1 W xs hS hD hnD hi hK
  obtain ⟨v, hv1, hv2, hv3⟩ := hi.row.out
  have HI := zm hi
  have HV2 := zm hv2
  have hsl := hv2.slice3
  obtain ⟨A, c, hve⟩ := hsl
  subst hve
  clear hi hv2
  gi_wp2
  refine ⟨by simp, .inl ⟨_, _, rfl, run_takeDeferred hK, ?_⟩⟩
  refine ⟨.slice A xs.length c, by simp [results, Try.results76, go_sem], _, _, rfl, hS, ?_, ?_⟩
  ·exact OwnF.chg HV2.out (Chg.put1 W D _) (fun i h e => by subst e; exact hnD (hv3 _ h).1)
  ·exact HI.out.bel.trans ((Chg.put1 W D _).below (Nat.le_trans hB0 (Nat.le_of_lt HI.out.row.lt)) (fun i e => by subst e; omega))
set_option maxHeartbeats 400000 in
theorem collectF_calls {gf : Nat} {lb : Array Value} {S : List Fa → Prop} {Nx : List Fa → Fa → Prop} {B0 : Nat} {Oi : Nat → Prop} {w0 w : World} (eg : ∀ args w, (callFunc gf args).run Try.prog w = .ok (.enter gf args) w) (hit : IterP Try.prog gf lb encF S Nx B0 Oi w0)
  (hw : Below w0.heap.size w0 w) (hB0 : B0 ≤ w.heap.size) (hOi : ∀ i, Oi i → i < w.heap.size) (hl : ∀ p x, Nx p x → p.length < 1000000000000) :
  Calls Try.prog 58 #[.func (.func gf) #[] lb] w (CollF B0 w S) := by
 have HA := zm (appendF_calls eg hit hw hB0 hOi hl)
 clear eg hit hw hB0 hOi hl
 go_enter Try.func58, Try.ntmps58
 go_wp2_with (go_at_call 76; refine HA.out.mono ?_; rintro e w1 ⟨v, xs, rfl, hS, hO, hB⟩; have HS := zm hS; have HO := zm hO; have HB := zm hB; clear hS hO hB)
 go_ret
 exact ⟨_, _, rfl, HS.out, HO.out, HB.out⟩
end Go.Proofs.Ytngppcmdaanheaa.Ls
namespace Go.Proofs.Ytngppcmdaanheaa.Va
open Go.RowKit Go.Proofs.YtngppcmdaanheaaW.PrintWords Go.Proofs.YtngppcmdaanheaaW.PrintLast Go.Proofs.YtngppcmdaanheaaW.PrintMore
set_option linter.unusedVariables false
set_option linter.unusedSimpArgs false
set_option maxRecDepth 100000 in
theorem isNaN_run (s : ByteArray) (w : World) : Calls Try.prog 80 #[.string s] w fun e w' => e = .returned (.bool false) ∧ w' = w := by
 go_enter Try.func80, Try.ntmps80
 go_wp2
 go_ret
 exact ⟨by simp, rfl⟩
def cmp_Compare_string.f (a b : ByteArray) : Option Int := some (if Op.bytesLess a.toList b.toList = true then -1 else if (a.toList == b.toList) = true then 0 else 1)
set_option maxRecDepth 100000 in
theorem cmp_Compare_string.calls (a0 a1 : ByteArray) (r : Int) (w : World) (h : cmp_Compare_string.f a0 a1 = some r) :
  Calls Try.prog 63 #[.string a0, .string a1] w fun e w' => e = .returned (.int .i64 r) ∧ Drawn0 w w' := by
 obtain rfl := Option.some.inj h
 clear h
 have H0 := zm (isNaN_run a0)
 have H1 := zm (isNaN_run a1)
 generalize h1 : Op.bytesLess a0.toList a1.toList = b1
 generalize h2 : (a0.toList == a1.toList) = b2
 cases b1 <;> cases b2
 all_goals (
  go_enter Try.func63, Try.ntmps63
  go_wp2_with (first | (go_at_call 80; refine (H0.out _).mono ?_; rintro e w' ⟨rfl, rfl⟩) | (go_at_call 80; refine (H1.out _).mono ?_; rintro e w' ⟨rfl, rfl⟩))
  go_ret
  exact ⟨by simp [*], Drawn0.refl _⟩)
end Go.Proofs.Ytngppcmdaanheaa.Va
namespace Go.Proofs.Ytngppcmdaanheaa.Po
open Go.RowKit Go.Proofs.YtngppcmdaanheaaW.PrintWords Go.Proofs.YtngppcmdaanheaaW.PrintLast Go.Proofs.YtngppcmdaanheaaW.PrintMore
attribute [local go_sem] max2_int min2_int max_two min_two
set_option linter.unusedVariables false
set_option linter.unusedSimpArgs false
def errW : Option Int → Value
 | none => .nilIface
 | some c => .iface 0 (.int .i64 c)
theorem errW_none : errW none = .nilIface := rfl
theorem errW_some (c : Int) : errW (some c) = .iface 0 (.int .i64 c) := rfl
-- the values' own types
end Go.Proofs.Ytngppcmdaanheaa.Po
namespace Go.Proofs.Ytngppcmdaanheaa.Po
open Go.RowKit Go.Proofs.Ytngppcmdaanheaa.Va Go.Proofs.YtngppcmdaanheaaW.PrintWords Go.Proofs.YtngppcmdaanheaaW.PrintLast Go.Proofs.YtngppcmdaanheaaW.PrintMore
attribute [local go_sem] max2_int min2_int max_two min_two
set_option linter.unusedVariables false
set_option linter.unusedSimpArgs false
/-! ### cmp_Or_int: function 61 -/
def cmp_Or_int.l0 : Nat → Int → List Int → Int → Int → Option (Int)
 | 0, _, _, _, _ => none
 | k + 1, x3, x6, x7, x8 => if x8 < x7 then (if 0 ≤ x8 then (if x8 < (x6.length : Int) then (if (rd x6 x8) = x3 then (cmp_Or_int.l0 k x3 x6 x7 (wrap64 (x8 + 1))) else (some (rd x6 x8))) else (none)) else (none)) else (some x3)
def cmp_Or_int.f (k : Nat) (l0 : List Int) : Option (Int) := cmp_Or_int.l0 k 0 l0 (l0.length : Int) 0
set_option maxHeartbeats 8000000 in
set_option maxRecDepth 100000 in
theorem cmp_Or_int.calls (k : Nat) (A0 : Option Addr) (c0 : Nat) (l0 : List Int) (r : Int) (w : World) (hr0 : Kd.C (Kd.int .i64) w A0 l0.length l0) (hc0 : l0.length ≤ c0) (h : cmp_Or_int.f k l0 = some r) :
  Calls Try.prog 61 #[.slice A0 l0.length c0] w fun e w' => e = .returned (.int .i64 r) ∧ Drawn0 w w' := by
 have HR0 := zm hr0
 have HC0 := zm hc0
 clear hr0 hc0
 have H : (cmp_Or_int.l0 k 0 l0 (l0.length : Int) 0) = some r := h
 clear h
 have H' := zm H
 clear H
 go_enter Try.func61, Try.ntmps61
 go_wp2
 go_loopg [8] k (fun kq v8 w' => ∃ (x8_1 : Int), v8 = .int .i64 x8_1 ∧ Aside0 (cmp_Or_int.l0 kq 0 l0 (l0.length : Int) x8_1 = some r) ∧ Aside0 (kq ≤ k) ∧ Drawn0 w w')
 case atStart => exact ⟨(0), zR, H', ⟨Nat.le_refl _⟩, by repeat (first | exact Drawn0.refl _ | apply Drawn0.step)⟩
 case round =>
  clear H'
  obtain ⟨x8_1, rfl, HA, HK1, ⟨m1, rfl⟩⟩ := hrel
  cases gk with
  | zero => exact absurd HA.out (by simp [cmp_Or_int.l0])
  | succ k1 =>
   have H := HA.out
   clear HA
   simp only [cmp_Or_int.l0] at H
   by_cases c2 : x8_1 < (l0.length : Int)
   ·rw [if_pos c2] at H
    have c2b0 : decide (x8_1 < (l0.length : Int)) = true := decide_eq_true c2
    clear c2
    by_cases c3 : 0 ≤ x8_1
    ·rw [if_pos c3] at H
     have c3b0 : decide (0 ≤ x8_1) = true := decide_eq_true c3
     clear c3
     by_cases c4 : x8_1 < (l0.length : Int)
     ·rw [if_pos c4] at H
      have c4b0 : decide (x8_1 < (l0.length : Int)) = true := decide_eq_true c4
      clear c4
      by_cases c5 : (rd l0 x8_1) = 0
      ·rw [if_pos c5] at H
       have c5b0 : ((rd l0 x8_1) == 0) = true := beq_iff_eq.mpr c5
       have c5b1 : ((rd l0 x8_1) != 0) = false := bne_eq_false_iff_eq.mpr c5
       clear c5
       have H' := zm H
       clear H
       have p101 : 0 ≤ (x8_1 : Int) := of_decide_eq_true zA
       have q101 : x8_1 < (l0.length : Int) := of_decide_eq_true zA
       obtain ⟨ad101, e101, hx101_0⟩ := Kd.at_int HR0.out x8_1 p101 q101
       cases e101
       replace p101 := eq_true p101
       replace q101 := eq_true q101
       go_wp2
       go_roundg k1
       case measure => have := HK1.out; omega
       case rel => exact ⟨(wrap64 (x8_1 + 1)), zR, H', ⟨by have := HK1.out; omega⟩, by repeat (first | exact Drawn0.refl _ | apply Drawn0.step)⟩
      ·rw [if_neg c5] at H
       have c5b0 : ((rd l0 x8_1) == 0) = false := beq_eq_false_iff_ne.mpr c5
       have c5b1 : ((rd l0 x8_1) != 0) = true := bne_iff_ne.mpr c5
       obtain rfl := Option.some.inj H
       have p101 : 0 ≤ (x8_1 : Int) := of_decide_eq_true zA
       have q101 : x8_1 < (l0.length : Int) := of_decide_eq_true zA
       obtain ⟨ad101, e101, hx101_0⟩ := Kd.at_int HR0.out x8_1 p101 q101
       cases e101
       replace p101 := eq_true p101
       replace q101 := eq_true q101
       go_wp2
       go_ret
       exact ⟨zR, by repeat (first | exact Drawn0.refl _ | apply Drawn0.step)⟩
     ·rw [if_neg c4] at H
      exact absurd H (by simp)
    ·rw [if_neg c3] at H
     exact absurd H (by simp)
   ·rw [if_neg c2] at H
    have c2b0 : decide (x8_1 < (l0.length : Int)) = false := decide_eq_false c2
    clear c2
    obtain rfl := Option.some.inj H
    go_wp2
    go_ret
    exact ⟨zR, by repeat (first | exact Drawn0.refl _ | apply Drawn0.step)⟩
/-! ### cmp_isNaN_int: function 79 -/
def cmp_isNaN_int.f (a0 : Int) : Option (Bool) := some (a0 != a0)
set_option maxHeartbeats 8000000 in
set_option maxRecDepth 100000 in
theorem cmp_isNaN_int.calls (a0 : Int) (r : Bool) (w : World) (h : cmp_isNaN_int.f a0 = some r) :
  Calls Try.prog 79 #[.int .i64 a0] w fun e w' => e = .returned (.bool r) ∧ Drawn0 w w' := by
 have H : (some (a0 != a0)) = some r := h
 clear h
 obtain rfl := Option.some.inj H
 go_enter Try.func79, Try.ntmps79
 go_wp2
 go_ret
 exact ⟨zR, by repeat (first | exact Drawn0.refl _ | apply Drawn0.step)⟩
/-! ### cmp_Compare_int: function 62 -/
def cmp_Compare_int.f (a0 : Int) (a1 : Int) : Option (Int) := (cmp_isNaN_int.f a0).bind fun t102 => ((cmp_isNaN_int.f a1).bind fun t103 => (if t102 = true then (if t103 = true then (some 0) else (some (-1))) else (if t103 = true then (some 1) else (if a0 < a1 then (some (-1)) else (if a0 > a1 then (some 1) else (some 0))))))
set_option maxHeartbeats 8000000 in
set_option maxRecDepth 100000 in
theorem cmp_Compare_int.calls (a0 : Int) (a1 : Int) (r : Int) (w : World) (h : cmp_Compare_int.f a0 a1 = some r) :
  Calls Try.prog 62 #[.int .i64 a0, .int .i64 a1] w fun e w' => e = .returned (.int .i64 r) ∧ Drawn0 w w' := by
 have H : ((cmp_isNaN_int.f a0).bind fun t102 => ((cmp_isNaN_int.f a1).bind fun t103 => (if t102 = true then (if t103 = true then (some 0) else (some (-1))) else (if t103 = true then (some 1) else (if a0 < a1 then (some (-1)) else (if a0 > a1 then (some 1) else (some 0))))))) = some r := h
 clear h
 obtain ⟨t102, A3, H⟩ := zO H
 obtain ⟨t103, A4, H⟩ := zO H
 by_cases c5 : t102 = true
 ·subst c5
  rw [if_pos rfl] at H
  by_cases c6 : t103 = true
  ·subst c6
   rw [if_pos rfl] at H
   obtain rfl := Option.some.inj H
   go_enter Try.func62, Try.ntmps62
   go_wp2_with (first | ((with_reducible refine gate_callee (f := 79) rfl ?_); refine goesL_ (some 10) rfl rfl Try.func79 (by kernel_rfl) rfl #[.int .i64 a1] rfl zP ?_; (with_reducible refine (cmp_isNaN_int.calls a1 true _ A4.out).mono ?_); rintro e w' ⟨rfl, ⟨nd, rfl⟩⟩; refine ⟨_, rfl, ?_⟩) | ((with_reducible refine gate_callee (f := 79) rfl ?_); refine goesL_ (some 8) rfl rfl Try.func79 (by kernel_rfl) rfl #[.int .i64 a0] rfl zP ?_; (with_reducible refine (cmp_isNaN_int.calls a0 true _ A3.out).mono ?_); rintro e w' ⟨rfl, ⟨nd, rfl⟩⟩; refine ⟨_, rfl, ?_⟩))
   go_ret
   exact ⟨zR, by repeat (first | exact Drawn0.refl _ | apply Drawn0.step)⟩
  ·replace c6 := Bool.eq_false_iff.mpr c6
   subst c6
   rw [if_neg (show ¬ (false = true) by decide)] at H
   obtain rfl := Option.some.inj H
   go_enter Try.func62, Try.ntmps62
   go_wp2_with (first | ((with_reducible refine gate_callee (f := 79) rfl ?_); refine goesL_ (some 10) rfl rfl Try.func79 (by kernel_rfl) rfl #[.int .i64 a1] rfl zP ?_; (with_reducible refine (cmp_isNaN_int.calls a1 false _ A4.out).mono ?_); rintro e w' ⟨rfl, ⟨nd, rfl⟩⟩; refine ⟨_, rfl, ?_⟩) | ((with_reducible refine gate_callee (f := 79) rfl ?_); refine goesL_ (some 8) rfl rfl Try.func79 (by kernel_rfl) rfl #[.int .i64 a0] rfl zP ?_; (with_reducible refine (cmp_isNaN_int.calls a0 true _ A3.out).mono ?_); rintro e w' ⟨rfl, ⟨nd, rfl⟩⟩; refine ⟨_, rfl, ?_⟩))
   go_ret
   exact ⟨zR, by repeat (first | exact Drawn0.refl _ | apply Drawn0.step)⟩
 ·replace c5 := Bool.eq_false_iff.mpr c5
  subst c5
  rw [if_neg (show ¬ (false = true) by decide)] at H
  by_cases c7 : t103 = true
  ·subst c7
   rw [if_pos rfl] at H
   obtain rfl := Option.some.inj H
   go_enter Try.func62, Try.ntmps62
   go_wp2_with (first | ((with_reducible refine gate_callee (f := 79) rfl ?_); refine goesL_ (some 10) rfl rfl Try.func79 (by kernel_rfl) rfl #[.int .i64 a1] rfl zP ?_; (with_reducible refine (cmp_isNaN_int.calls a1 true _ A4.out).mono ?_); rintro e w' ⟨rfl, ⟨nd, rfl⟩⟩; refine ⟨_, rfl, ?_⟩) | ((with_reducible refine gate_callee (f := 79) rfl ?_); refine goesL_ (some 8) rfl rfl Try.func79 (by kernel_rfl) rfl #[.int .i64 a0] rfl zP ?_; (with_reducible refine (cmp_isNaN_int.calls a0 false _ A3.out).mono ?_); rintro e w' ⟨rfl, ⟨nd, rfl⟩⟩; refine ⟨_, rfl, ?_⟩))
   go_ret
   exact ⟨zR, by repeat (first | exact Drawn0.refl _ | apply Drawn0.step)⟩
  ·replace c7 := Bool.eq_false_iff.mpr c7
   subst c7
   rw [if_neg (show ¬ (false = true) by decide)] at H
   by_cases c8 : a0 < a1
   ·rw [if_pos c8] at H
    have c8b0 : decide (a0 < a1) = true := decide_eq_true c8
    clear c8
    obtain rfl := Option.some.inj H
    go_enter Try.func62, Try.ntmps62
    go_wp2_with (first | ((with_reducible refine gate_callee (f := 79) rfl ?_); refine goesL_ (some 10) rfl rfl Try.func79 (by kernel_rfl) rfl #[.int .i64 a1] rfl zP ?_; (with_reducible refine (cmp_isNaN_int.calls a1 false _ A4.out).mono ?_); rintro e w' ⟨rfl, ⟨nd, rfl⟩⟩; refine ⟨_, rfl, ?_⟩) | ((with_reducible refine gate_callee (f := 79) rfl ?_); refine goesL_ (some 8) rfl rfl Try.func79 (by kernel_rfl) rfl #[.int .i64 a0] rfl zP ?_; (with_reducible refine (cmp_isNaN_int.calls a0 false _ A3.out).mono ?_); rintro e w' ⟨rfl, ⟨nd, rfl⟩⟩; refine ⟨_, rfl, ?_⟩))
    go_ret
    exact ⟨zR, by repeat (first | exact Drawn0.refl _ | apply Drawn0.step)⟩
   ·rw [if_neg c8] at H
    have c8b0 : decide (a0 < a1) = false := decide_eq_false c8
    clear c8
    by_cases c9 : a0 > a1
    ·rw [if_pos c9] at H
     have c9b0 : decide (a1 < a0) = true := decide_eq_true c9
     clear c9
     obtain rfl := Option.some.inj H
     go_enter Try.func62, Try.ntmps62
     go_wp2_with (first | ((with_reducible refine gate_callee (f := 79) rfl ?_); refine goesL_ (some 10) rfl rfl Try.func79 (by kernel_rfl) rfl #[.int .i64 a1] rfl zP ?_; (with_reducible refine (cmp_isNaN_int.calls a1 false _ A4.out).mono ?_); rintro e w' ⟨rfl, ⟨nd, rfl⟩⟩; refine ⟨_, rfl, ?_⟩) | ((with_reducible refine gate_callee (f := 79) rfl ?_); refine goesL_ (some 8) rfl rfl Try.func79 (by kernel_rfl) rfl #[.int .i64 a0] rfl zP ?_; (with_reducible refine (cmp_isNaN_int.calls a0 false _ A3.out).mono ?_); rintro e w' ⟨rfl, ⟨nd, rfl⟩⟩; refine ⟨_, rfl, ?_⟩))
     go_ret
     exact ⟨zR, by repeat (first | exact Drawn0.refl _ | apply Drawn0.step)⟩
    ·rw [if_neg c9] at H
     have c9b0 : decide (a1 < a0) = false := decide_eq_false c9
     clear c9
     obtain rfl := Option.some.inj H
     go_enter Try.func62, Try.ntmps62
     go_wp2_with (first | ((with_reducible refine gate_callee (f := 79) rfl ?_); refine goesL_ (some 10) rfl rfl Try.func79 (by kernel_rfl) rfl #[.int .i64 a1] rfl zP ?_; (with_reducible refine (cmp_isNaN_int.calls a1 false _ A4.out).mono ?_); rintro e w' ⟨rfl, ⟨nd, rfl⟩⟩; refine ⟨_, rfl, ?_⟩) | ((with_reducible refine gate_callee (f := 79) rfl ?_); refine goesL_ (some 8) rfl rfl Try.func79 (by kernel_rfl) rfl #[.int .i64 a0] rfl zP ?_; (with_reducible refine (cmp_isNaN_int.calls a0 false _ A3.out).mono ?_); rintro e w' ⟨rfl, ⟨nd, rfl⟩⟩; refine ⟨_, rfl, ?_⟩))
     go_ret
     exact ⟨zR, by repeat (first | exact Drawn0.refl _ | apply Drawn0.step)⟩
/-! ### e_order: function 42 -/
def e_order.f (k : Nat) (a0_0 : Int) (a0_1 : Int) (a0_2 : ByteArray) (a0_3 : Int) (a1_0 : Int) (a1_1 : Int) (a1_2 : ByteArray) (a1_3 : Int) : Option (Int) := (cmp_Compare_int.f a0_0 a1_0).bind fun t106 => ((cmp_Compare_int.f a0_1 a1_1).bind fun t107 => ((cmp_Compare_string.f a0_2 a1_2).bind fun t108 => ((cmp_Compare_int.f a0_3 a1_3).bind fun t109 => ((cmp_Or_int.f k (([t106, t107, t108, t109] : List Int))).bind fun t113 => (some t113)))))
def e_order.T1 : Bool × List (List Nat × List Nat) := (true, [([], []), ([0], [0]), ([], []), ([2], [2]), ([1, 3], [1, 3]), ([], []), ([5], [5]), ([], []), ([7], [7]), ([6, 8, 4], [6, 8]), ([], []), ([10], [10]), ([], []), ([12], [12]), ([11, 13, 9], [11, 13]), ([], []), ([15], [15]), ([], []), ([17], [17]), ([16, 18, 14], [16, 18]), ([4, 9, 14, 19], [4, 9, 14, 19]), ([20, 19], [20]), ([21, 21, 0, 1, 2, 3, 4, 5, 6, 7, 8, 9, 10, 11, 12, 13, 14, 15, 16, 17, 18, 19, 20, 21], [21])])
def e_order.B1 : List Nat := [0, 1, 0, 4, 15, 0, 32, 0, 128, 511, 0, 1024, 0, 4096, 16383, 0, 32768, 0, 131072, 524287, 1048575, 2097151, 4194303]
theorem e_order.tab1 : rtab .any (opsOf Try.f42 1) = e_order.T1 := by kernel_rfl
theorem e_order.bits1 : waitsOk e_order.T1.2 e_order.B1 = true := by kernel_rfl
end Go.Proofs.Ytngppcmdaanheaa.Po
namespace Go.Proofs.YtngppcmdaanheaaW.PrintWords
open Go.RowKit
set_option linter.unusedVariables false
section
variable {P : Program} {ops : Array Oper} {rest : List Oper} {o : Oper} {a : Act} {Q : Exit → Act → World → Prop} {Kc : Act → World → Prop} {α : Type}
theorem box_eventD {W : World} (hgd : o.guard = none) {N : Tmp} (_hd : o.dst = some N) {cs : Array Value} {t : TypeId}
  (hrun : (execOp a.eval o).run P W = .ok (.value (.pointer (some ⟨W.heap.size, 0, none⟩))) (W.alloc (.cells cs t (0, 0))))
  (h : ∀ g, g = W.heap.size → ∀ w1, w1.heap[g]? = some (.cells cs t (0, 0)) → Below W.heap.size W w1 → w1.drawn = W.drawn → wpList P ops Q rest (a.put o.dst (.pointer (some ⟨g, 0, none⟩))) w1) : wpList P ops Q (o :: rest) a W :=
 Kd.event_run hgd hrun (h _ rfl _ (blk_new W _) (below_alloc (Below.refl _ _) _) rfl)
theorem Kd.R_lit_stepD (d : Kd α) {w0 W : World} (base e : Nat) (hw : Region.wanted o (yielded ops a.tmps) = true) {N : Tmp} (_hd : o.dst = some N) {xs : List α} {inner : List Value} {ok okp : Nat → Prop}
  (hrun : (execOp a.eval o).run P W = .ok (.value (.slice (some ⟨W.heap.size, 0, none⟩) xs.length xs.length)) (W.alloc (.cells inner.toArray e)))
  (hrep : Reps (d.M W base okp) d.sz xs inner) (hok : ∀ k, okp k → ok k) (hfresh : ok W.heap.size) (HB : Below base w0 W) (hbase : base ≤ W.heap.size) (hm : xs.length ≤ 9223372036854775807)
  (h : ∀ v1 w1, d.R e w1 base ok v1 xs → Below base w0 w1 → W.grownBy w1 none → (∃ b, v1.ownBlock = some b ∧ W.heap.size ≤ b) → w1.drawn = W.drawn → Kc (a.put o.dst v1) w1) : if Region.wanted o (yielded ops a.tmps) = true then Oper.wp P o a W Kc Q else Kc (a.put o.dst undef) W := by
 refine event_step hw hrun (h _ _ ⟨fun k hk => ?_, inner, ?_, ?_⟩ (HB.alloc hbase _) (World.grownBy_alloc W _ none) ⟨W.heap.size, by simp [Value.ownBlock], Nat.le_refl _⟩ rfl)
 ·have : W.heap.size = k := by simpa [Value.ownBlock] using hk
  subst this
  exact hfresh
 ·have h2 := World.ownsRow_lit (base := base) (e := e) (size := d.sz) W inner.toArray xs.length hbase (by simpa [maxLen] using hm) (by simpa using hrep.1)
  simpa using h2
 ·refine hrep.imp_ (fun p c hp => d.M_mono (fun k hk => ⟨hok k hk.1, fun he => ?_⟩) (Kd.M_below (d.M_bound hp) (below_alloc (Below.refl _ _) _)))
  have h3 : k = W.heap.size := by simpa [Value.ownBlock] using he
  have := hk.2.2.1
  omega
theorem grow_of_below {w w' : World} (h : Below w.heap.size w w') (hd : w.drawn ≤ w'.drawn) : ∃ q os, w' = Sort.grow (w.drewN q) os := by
 refine ⟨w'.drawn - w.drawn, w'.heap.extract w.heap.size w'.heap.size, ?_⟩
 have hh : w'.heap = w.heap ++ w'.heap.extract w.heap.size w'.heap.size := by
  apply Array.ext_getElem?
  intro i
  by_cases hi : i < w.heap.size
  ·rw [Array.getElem?_append_left hi, h.block i hi]
  ·rw [Array.getElem?_append_right (by omega)]
   by_cases hj : i < w'.heap.size
   ·rw [Array.getElem?_extract, if_pos (by omega), show w.heap.size + (i - w.heap.size) = i by omega]
   ·rw [Array.getElem?_eq_none (by omega), Array.getElem?_eq_none (by simp only [Array.size_extract]; omega)]
 have h1 := h.os; have h2 := h.tape; have h3 := h.output
 cases w; cases w'
 simp only [Sort.grow, World.drewN, World.mk.injEq] at *
 exact ⟨hh, h2, by omega, h1, h3⟩
end
end Go.Proofs.YtngppcmdaanheaaW.PrintWords
namespace Go.Proofs.Ytngppcmdaanheaa.Ls
open Go.Proofs.Ytngppcmdaanheaa.Po
open Go.RowKit Go.Proofs.Ytngppcmdaanheaa.Va Go.Proofs.YtngppcmdaanheaaW.PrintWords Go.Proofs.YtngppcmdaanheaaW.PrintLast Go.Proofs.YtngppcmdaanheaaW.PrintMore
attribute [local go_sem] max2_int min2_int max_two min_two
set_option linter.unusedVariables false
set_option linter.unusedSimpArgs false
set_option maxHeartbeats 8000000 in
set_option maxRecDepth 100000 in
theorem order_calls (k : Nat) (a0_0 : Int) (a0_1 : Int) (a0_2 : ByteArray) (a0_3 : Int) (a1_0 : Int) (a1_1 : Int) (a1_2 : ByteArray) (a1_3 : Int) (r : Int) (w : World) (h : e_order.f k a0_0 a0_1 a0_2 a0_3 a1_0 a1_1 a1_2 a1_3 = some r) :
  Calls Try.prog 42 #[.agg #[.int .i64 a0_0, .int .i64 a0_1, .string a0_2, .int .i64 a0_3], .agg #[.int .i64 a1_0, .int .i64 a1_1, .string a1_2, .int .i64 a1_3]] w fun e w' => e = .returned (.int .i64 r) ∧ Below w.heap.size w w' ∧ w.drawn ≤ w'.drawn := by
 have hu41 := Try.underlying41
 have HB := zm (Below.refl w.heap.size w)
 have HD := zm (Nat.le_refl w.drawn)
 have H : ((cmp_Compare_int.f a0_0 a1_0).bind fun t106 => ((cmp_Compare_int.f a0_1 a1_1).bind fun t107 => ((cmp_Compare_string.f a0_2 a1_2).bind fun t108 => ((cmp_Compare_int.f a0_3 a1_3).bind fun t109 => ((cmp_Or_int.f k (([t106, t107, t108, t109] : List Int))).bind fun t113 => (some t113)))))) = some r := h
 clear h
 replace H := Option.bind_eq_some_iff.mp H
 obtain ⟨t106, A30, H⟩ := H
 replace H : ((cmp_Compare_int.f a0_1 a1_1).bind fun t107 => ((cmp_Compare_string.f a0_2 a1_2).bind fun t108 => ((cmp_Compare_int.f a0_3 a1_3).bind fun t109 => ((cmp_Or_int.f k (([t106, t107, t108, t109] : List Int))).bind fun t113 => (some t113))))) = some r := H
 have A3 := zm A30
 clear A30
 replace H := Option.bind_eq_some_iff.mp H
 obtain ⟨t107, A40, H⟩ := H
 replace H : ((cmp_Compare_string.f a0_2 a1_2).bind fun t108 => ((cmp_Compare_int.f a0_3 a1_3).bind fun t109 => ((cmp_Or_int.f k (([t106, t107, t108, t109] : List Int))).bind fun t113 => (some t113)))) = some r := H
 have A4 := zm A40
 clear A40
 replace H := Option.bind_eq_some_iff.mp H
 obtain ⟨t108, A50, H⟩ := H
 replace H : ((cmp_Compare_int.f a0_3 a1_3).bind fun t109 => ((cmp_Or_int.f k (([t106, t107, t108, t109] : List Int))).bind fun t113 => (some t113))) = some r := H
 have A5 := zm A50
 clear A50
 replace H := Option.bind_eq_some_iff.mp H
 obtain ⟨t109, A60, H⟩ := H
 replace H : ((cmp_Or_int.f k (([t106, t107, t108, t109] : List Int))).bind fun t113 => (some t113)) = some r := H
 have A6 := zm A60
 clear A60
 obtain ⟨y110, hy110⟩ : ∃ y_ : List Int, y_ = (([t106, t107, t108, t109] : List Int)) := ⟨_, rfl⟩
 replace H : ((cmp_Or_int.f k y110).bind fun t113 => (some t113)) = some r := by first | (rw [hy110]; with_reducible exact H) | (have H2_ := (Option.bind_some _ _).symm.trans H; rw [hy110]; with_reducible exact H2_) | (have H2_ := (Option.bind_some _ _).symm.trans H; with_reducible exact H2_) | with_reducible exact H | (rw [hy110]; exact H) | exact H
 have Ny110 := zm hy110
 clear hy110
 replace H := Option.bind_eq_some_iff.mp H
 obtain ⟨t113, A70, H⟩ := H
 replace H : (some t113) = some r := H
 have A7 := zm A70
 clear A70
 obtain rfl := Option.some.inj H
 go_enter Try.func42, Try.ntmps42
 try go_wp2_with (first | ((with_reducible refine gate_dst (N := 2) rfl ?_); refine box_eventD ?hg (N := 2) ?hd (cs := #[.int .i64 a0_0, .int .i64 a0_1, .string a0_2, .int .i64 a0_3]) (t := 41) ?hr ?_; (case hd => rfl); (case hg => rfl); (case hr => first | (go_simp; done) | (go_simp; rfl)); intro gb104 hg w8 hbox hb hdw; replace HD := zm (show w.drawn ≤ w8.drawn from by rw [hdw]; have h_ := HD.out; first | exact h_ | (simp only [World.drewN, World.drew]; omega)); clear hdw; have n0_ := zm (below_step (by repeat (first | (with_reducible first | exact HB.out | apply below_alloc | apply pw_below_drewN | apply below_drew1) | exact HB.out)) hb); have n1_ := zm (hbox); have n2_ := zm ((by rw [hg]; exact (below_size (by repeat (first | (with_reducible first | exact HB.out | apply below_alloc | apply pw_below_drewN | apply below_drew1) | exact HB.out))) : w.heap.size ≤ gb104)); have n3_ := zm ((by rw [hg]; exact (below_size (by repeat (first | (with_reducible first | exact HB.out | apply below_alloc | apply pw_below_drewN | apply below_drew1) | exact HB.out))) : w.heap.size ≤ gb104)); clear HB; have HB := n0_; have BK104 := n1_; have GW104 := n2_; have GE104 := n3_; clear n0_ n1_ n2_ n3_; clear hb hbox hg) | ((with_reducible refine gate_dst (N := 3) rfl ?_); refine box_eventD ?hg (N := 3) ?hd (cs := #[.int .i64 a1_0, .int .i64 a1_1, .string a1_2, .int .i64 a1_3]) (t := 41) ?hr ?_; (case hd => rfl); (case hg => rfl); (case hr => first | (go_simp; done) | (go_simp; rfl)); intro gb105 hg w9 hbox hb hdw; replace HD := zm (show w.drawn ≤ w9.drawn from by rw [hdw]; have h_ := HD.out; first | exact h_ | (simp only [World.drewN, World.drew]; omega)); clear hdw; have n0_ := zm (blk_below (g := gb104) (o := .cells #[.int .i64 a0_0, .int .i64 a0_1, .string a0_2, .int .i64 a0_3] 41 (0, 0)) (by (with_reducible repeat (first | refine blk_drewN ?_ _ | refine blk_drew ?_ | refine blk_alloc ?_ _)); exact BK104.out) hb); have n1_ := zm (below_step (by repeat (first | (with_reducible first | exact HB.out | apply below_alloc | apply pw_below_drewN | apply below_drew1 | refine below_set ?_ GE104.out) | exact HB.out)) hb); have n2_ := zm (hbox); have n3_ := zm ((by rw [hg]; exact (below_size (by repeat (first | (with_reducible first | exact HB.out | apply below_alloc | apply pw_below_drewN | apply below_drew1 | refine below_set ?_ GE104.out) | exact HB.out))) : w.heap.size ≤ gb105)); have n4_ := zm ((by rw [hg]; exact (below_size (by repeat (first | (with_reducible first | exact HB.out | apply below_alloc | apply pw_below_drewN | apply below_drew1 | refine below_set ?_ GE104.out) | exact HB.out))) : w.heap.size ≤ gb105)); have n5_ := zm ((by rw [hg]; exact Nat.ne_of_lt (blk_lt (g := gb104) (o := .cells #[.int .i64 a0_0, .int .i64 a0_1, .string a0_2, .int .i64 a0_3] 41 (0, 0)) (by (with_reducible repeat (first | refine blk_drewN ?_ _ | refine blk_drew ?_ | refine blk_alloc ?_ _)); exact BK104.out)) : gb104 ≠ gb105)); have n6_ := zm ((by rw [hg]; exact Nat.ne_of_gt (blk_lt (g := gb104) (o := .cells #[.int .i64 a0_0, .int .i64 a0_1, .string a0_2, .int .i64 a0_3] 41 (0, 0)) (by (with_reducible repeat (first | refine blk_drewN ?_ _ | refine blk_drew ?_ | refine blk_alloc ?_ _)); exact BK104.out)) : gb105 ≠ gb104)); clear BK104; clear HB; have BK104 := n0_; have HB := n1_; have BK105 := n2_; have GW105 := n3_; have GE105 := n4_; have NB104_105 := n5_; have NB105_104 := n6_; clear n0_ n1_ n2_ n3_ n4_ n5_ n6_; clear hb hbox hg))
 have n0_ := zm (blk_drew BK104.out)
 have n1_ := zm (blk_drew BK105.out)
 have n2_ := zm (below_drew1 HB.out)
 clear BK104
 clear BK105
 clear HB
 have BK104 := n0_
 have BK105 := n1_
 have HB := n2_
 clear n0_ n1_ n2_
 refine start_ (n := 23) (S := fun w' => w'.cell? ⟨gb104, 0, none⟩ = some (.int .i64 a0_0) ∧ w'.cell? ⟨gb104, 1, none⟩ = some (.int .i64 a0_1) ∧ w'.cell? ⟨gb104, 2, none⟩ = some (.string a0_2) ∧ w'.cell? ⟨gb104, 3, none⟩ = some (.int .i64 a0_3) ∧ w'.cell? ⟨gb105, 0, none⟩ = some (.int .i64 a1_0) ∧ w'.cell? ⟨gb105, 1, none⟩ = some (.int .i64 a1_1) ∧ w'.cell? ⟨gb105, 2, none⟩ = some (.string a1_2) ∧ w'.cell? ⟨gb105, 3, none⟩ = some (.int .i64 a1_3)) (ds := []) #[false, false, false, false, false, false, false, false, false, false, false, false, false, false, false, false, false, false, false, false, false, false, false] (by kernel_rfl) rfl rfl ⟨zj BK104.out 0, zj BK104.out 1, zj BK104.out 2, zj BK104.out 3, zj BK105.out 0, zj BK105.out 1, zj BK105.out 2, zj BK105.out 3⟩ (fun hHeld => ?_); refine with_tabW e_order.tab1 e_order.bits1 (fun HT_ HW_ => ?_)
 replace HD := zm (show w.drawn ≤ w9.drew.drawn from Nat.le_succ_of_le HD.out)
 generalize w9.drew = w10 at HD BK104 BK105 HB hHeld ⊢
 refine zp 0 5 (hy := by
   intro w'
   go_simp
   with_reducible rfl) (h := ?_)
 refine zp 2 7 (hy := by
   intro w'
   go_simp
   with_reducible rfl) (h := ?_)
 refine zp 5 10 (hy := by
   intro w'
   go_simp
   with_reducible rfl) (h := ?_)
 refine zp 7 12 (hy := by
   intro w'
   go_simp
   with_reducible rfl) (h := ?_)
 refine zp 10 15 (hy := by
   intro w'
   go_simp
   with_reducible rfl) (h := ?_)
 refine zp 12 17 (hy := by
   intro w'
   go_simp
   with_reducible rfl) (h := ?_)
 refine zp 15 20 (hy := by
   intro w'
   go_simp
   with_reducible rfl) (h := ?_)
 refine zp 17 22 (hy := by
   intro w'
   go_simp
   with_reducible rfl) (h := ?_)
 refine zt 1 6 (hy := by
   rintro w' ⟨s0, s1, s2, s3, s4, s5, s6, s7⟩
   go_simp
   with_reducible rfl) (h := ?_)
 refine zt 3 8 (hy := by
   rintro w' ⟨s0, s1, s2, s3, s4, s5, s6, s7⟩
   go_simp
   with_reducible rfl) (h := ?_)
 refine zt 6 11 (hy := by
   rintro w' ⟨s0, s1, s2, s3, s4, s5, s6, s7⟩
   go_simp
   with_reducible rfl) (h := ?_)
 refine zt 8 13 (hy := by
   rintro w' ⟨s0, s1, s2, s3, s4, s5, s6, s7⟩
   go_simp
   with_reducible rfl) (h := ?_)
 refine zt 11 16 (hy := by
   rintro w' ⟨s0, s1, s2, s3, s4, s5, s6, s7⟩
   go_simp
   with_reducible rfl) (h := ?_)
 refine zt 13 18 (hy := by
   rintro w' ⟨s0, s1, s2, s3, s4, s5, s6, s7⟩
   go_simp
   with_reducible rfl) (h := ?_)
 refine zt 16 21 (hy := by
   rintro w' ⟨s0, s1, s2, s3, s4, s5, s6, s7⟩
   go_simp
   with_reducible rfl) (h := ?_)
 refine zt 18 23 (hy := by
   rintro w' ⟨s0, s1, s2, s3, s4, s5, s6, s7⟩
   go_simp
   with_reducible rfl) (h := ?_)
 refine zo 4 9 (h := fun K hK => ?_)
 refine goes_ Try.func62 (by kernel_rfl) rfl #[.int .i64 a0_0, .int .i64 a1_0] (by rfl) rfl rfl (by (try simp only [List.map_toArray, List.map_cons, List.map_nil]); first | done | rfl | (simp only [List.length_drop, List.length_take]; rfl)) ?_
 with_reducible refine (cmp_Compare_int.calls a0_0 a1_0 t106 _ A3.out).mono ?_
 rintro e w' ⟨rfl, ⟨nd, rfl⟩⟩
 refine ⟨_, rfl, ?_⟩
 refine hK.out _ _ ⟨zj BK104.out 0, zj BK104.out 1, zj BK104.out 2, zj BK104.out 3, zj BK105.out 0, zj BK105.out 1, zj BK105.out 2, zj BK105.out 3⟩ (fun hHeld => ?_)
 clear hK K
 refine zn (h := ?_)
 refine zo 9 14 (h := fun K hK => ?_)
 refine goes_ Try.func62 (by kernel_rfl) rfl #[.int .i64 a0_1, .int .i64 a1_1] (by rfl) rfl rfl (by (try simp only [List.map_toArray, List.map_cons, List.map_nil]); first | done | rfl | (simp only [List.length_drop, List.length_take]; rfl)) ?_
 with_reducible refine (cmp_Compare_int.calls a0_1 a1_1 t107 _ A4.out).mono ?_
 rintro e w' ⟨rfl, ⟨nd, rfl⟩⟩
 refine ⟨_, rfl, ?_⟩
 refine hK.out _ _ ⟨zj BK104.out 0, zj BK104.out 1, zj BK104.out 2, zj BK104.out 3, zj BK105.out 0, zj BK105.out 1, zj BK105.out 2, zj BK105.out 3⟩ (fun hHeld => ?_)
 clear hK K
 refine zn (h := ?_)
 refine zo 14 19 (h := fun K hK => ?_)
 refine goes_ Try.func63 (by kernel_rfl) rfl #[.string a0_2, .string a1_2] (by rfl) rfl rfl (by (try simp only [List.map_toArray, List.map_cons, List.map_nil]); first | done | rfl | (simp only [List.length_drop, List.length_take]; rfl)) ?_
 with_reducible refine (cmp_Compare_string.calls a0_2 a1_2 t108 _ A5.out).mono ?_
 rintro e w' ⟨rfl, ⟨nd, rfl⟩⟩
 refine ⟨_, rfl, ?_⟩
 refine hK.out _ _ ⟨zj BK104.out 0, zj BK104.out 1, zj BK104.out 2, zj BK104.out 3, zj BK105.out 0, zj BK105.out 1, zj BK105.out 2, zj BK105.out 3⟩ (fun hHeld => ?_)
 clear hK K
 refine zn (h := ?_)
 refine zo 19 24 (h := fun K hK => ?_)
 refine goes_ Try.func62 (by kernel_rfl) rfl #[.int .i64 a0_3, .int .i64 a1_3] (by rfl) rfl rfl (by (try simp only [List.map_toArray, List.map_cons, List.map_nil]); first | done | rfl | (simp only [List.length_drop, List.length_take]; rfl)) ?_
 with_reducible refine (cmp_Compare_int.calls a0_3 a1_3 t109 _ A6.out).mono ?_
 rintro e w' ⟨rfl, ⟨nd, rfl⟩⟩
 refine ⟨_, rfl, ?_⟩
 refine hK.out _ _ ⟨zj BK104.out 0, zj BK104.out 1, zj BK104.out 2, zj BK104.out 3, zj BK105.out 0, zj BK105.out 1, zj BK105.out 2, zj BK105.out 3⟩ (fun hHeld => ?_)
 clear hK K
 refine zn (h := ?_)
 refine zo 20 25 (h := fun K hK => ?_)
 refine Kd.R_lit_stepD (Kd.int .i64) _ 3 ?hg (N := 25) ?hd (xs := ([t106, t107, t108, t109] : List Int)) (inner := [.int .i64 t106, .int .i64 t107, .int .i64 t108, .int .i64 t109]) (ok := fun _ => True) (okp := fun _ => True) ?hr ?hp (fun _ hk => hk) trivial (Below.refl _ _) (Nat.le_refl _) (by simp) ?_; (case hd => rfl); (case hg => rfl); (case hr => first | (go_simp; done) | (go_simp; rfl)); (case hp => exact (Reps.one (show Kd.M (Kd.int .i64) _ _ _ t106 [.int .i64 t106] from rfl) (Reps.one (show Kd.M (Kd.int .i64) _ _ _ t107 [.int .i64 t107] from rfl) (Reps.one (show Kd.M (Kd.int .i64) _ _ _ t108 [.int .i64 t108] from rfl) (Reps.one (show Kd.M (Kd.int .i64) _ _ _ t109 [.int .i64 t109] from rfl) (Reps.none _ _))))))
 intro v111 w11 ho12 hb hg_ hnew_ hdw
 replace HD := zm (show w.drawn ≤ w11.drawn from by rw [hdw]; have h_ := HD.out; first | exact h_ | (simp only [World.drewN, World.drew]; omega))
 clear hdw
 clear hg_ hnew_
 (first | rw [← Ny110.out] at ho12 | (simp only [Int.reduceToNat] at ho12; rw [← Ny110.out] at ho12))
 have n0_ := zm (Kd.R_lower ho12 (below_size (by repeat (first | (with_reducible first | exact HB.out | apply below_alloc | apply pw_below_drewN | apply below_drew1 | refine below_set ?_ GE104.out | refine below_set ?_ GE105.out) | exact HB.out))))
 have n1_ := zm (blk_below (g := gb104) (o := .cells #[.int .i64 a0_0, .int .i64 a0_1, .string a0_2, .int .i64 a0_3] 41 (0, 0)) (by (with_reducible repeat (first | refine blk_drewN ?_ _ | refine blk_drew ?_ | refine blk_alloc ?_ _)); exact BK104.out) hb)
 have n2_ := zm (blk_below (g := gb105) (o := .cells #[.int .i64 a1_0, .int .i64 a1_1, .string a1_2, .int .i64 a1_3] 41 (0, 0)) (by (with_reducible repeat (first | refine blk_drewN ?_ _ | refine blk_drew ?_ | refine blk_alloc ?_ _)); exact BK105.out) hb)
 have n3_ := zm (below_step (by repeat (first | (with_reducible first | exact HB.out | apply below_alloc | apply pw_below_drewN | apply below_drew1 | refine below_set ?_ GE104.out | refine below_set ?_ GE105.out) | exact HB.out)) hb)
 clear BK104
 clear BK105
 clear HB
 have HO112 := n0_
 have BK104 := n1_
 have BK105 := n2_
 have HB := n3_
 clear n0_ n1_ n2_ n3_
 clear hb ho12
 obtain ⟨Ao13, co13, eo13⟩ := Kd.R_slice HO112.out
 (first | subst eo13 | (injection eo13 with f1_ f2_ f3_; have f4_ := f1_.symm; have f5_ := f3_.symm; clear f1_ f2_ f3_; subst f4_; subst f5_))
 refine hK.out _ _ ⟨zj BK104.out 0, zj BK104.out 1, zj BK104.out 2, zj BK104.out 3, zj BK105.out 0, zj BK105.out 1, zj BK105.out 2, zj BK105.out 3⟩ (fun hHeld => ?_)
 clear hK K
 refine zn (h := ?_)
 refine zo 21 26 (h := fun K hK => ?_)
 refine goes_ Try.func61 (by kernel_rfl) rfl #[.slice Ao13 y110.length co13] (by rfl) rfl rfl (by (try simp only [List.map_toArray, List.map_cons, List.map_nil]); first | done | rfl | (simp only [List.length_drop, List.length_take]; rfl)) ?_
 with_reducible refine (cmp_Or_int.calls k _ _ y110 t113 _ ?side1 ?side2 A7.out).mono ?_
 (case side1 => exact zC ((Kd.R_reads' HO112.out).2.2))
 (case side2 => exact (Kd.R_reads' HO112.out).2.1)
 rintro e w' ⟨rfl, ⟨nd, rfl⟩⟩
 refine ⟨_, rfl, ?_⟩
 refine hK.out _ _ ⟨zj BK104.out 0, zj BK104.out 1, zj BK104.out 2, zj BK104.out 3, zj BK105.out 0, zj BK105.out 1, zj BK105.out 2, zj BK105.out 3⟩ (fun hHeld => ?_)
 clear hK K
 refine zn (h := ?_)
 refine zp 22 4 (hy := by
   intro w'
   go_simp
   with_reducible rfl) (h := ?_)
 refine done_ (done_of HT_.out (by kernel_rfl)) ?_
 try go_wp2
 go_ret
 exact ⟨by first | rfl | (simp [errW_none, errW_some] <;> rfl) | (simp [*, errW_none, errW_some] <;> rfl) | (simp [*, errW_none, errW_some]; exact (fun (l_ : List UInt8) => (by cases l_ <;> rfl : l_.isEmpty = !(l_ != []))) _), by repeat (first | (with_reducible first | exact HB.out | apply below_alloc | apply pw_below_drewN | apply below_drew1 | refine below_set ?_ GE104.out | refine below_set ?_ GE105.out) | exact HB.out), by have h_ := HD.out; first | exact h_ | (simp only [World.drewN, World.drew]; omega)⟩
end Go.Proofs.Ytngppcmdaanheaa.Ls
namespace Go.Proofs
open Go.Shelf
def Try.sortFact_ren : Go.Shelf.Ren := ⟨fun | 6 => 59 | 15 => 78 | 14 => 77 | 28 => 93 | 29 => 94 | 20 => 85 | 21 => 86 | 22 => 87 | 23 => 88 | 24 => 89 | 25 => 90 | 26 => 91 | 27 => 92 | 46 => 95 | 47 => 96 | 48 => 97 | 49 => 98 | 50 => 99 | 57 => 100 | n => n, fun | 22 => 26 | 24 => 41 | 25 => 74 | 3 => 3 | 39 => 109 | 0 => 0 | 53 => 123 | 55 => 125 | 4 => 4 | 46 => 117 | 45 => 116 | 50 => 100 | 5 => 5 | 9 => 9 | 66 => 126 | 70 => 130 | 76 => 132 | 77 => 133 | n => n, fun | n => n⟩
theorem Try.sortFact : Go.Proofs.SlLaysF0.n6 Try.prog Try.sortFact_ren := {
 mixed := by kernel_rfl
 f6 := ⟨Try.f59.name, by decide, Try.func59.trans (congrArg some (by kernel_rfl))⟩
 f14 := ⟨Try.f77.name, by decide, Try.func77.trans (congrArg some (by kernel_rfl))⟩
 f15 := Try.func78.trans (congrArg some (by kernel_rfl))
 f20 := ⟨Try.f85.name, by decide, Try.func85.trans (congrArg some (by kernel_rfl))⟩
 f21 := ⟨Try.f86.name, by decide, Try.func86.trans (congrArg some (by kernel_rfl))⟩
 f22 := ⟨Try.f87.name, by decide, Try.func87.trans (congrArg some (by kernel_rfl))⟩
 f23 := ⟨Try.f88.name, by decide, Try.func88.trans (congrArg some (by kernel_rfl))⟩
 f24 := ⟨Try.f89.name, by decide, Try.func89.trans (congrArg some (by kernel_rfl))⟩
 f25 := ⟨Try.f90.name, by decide, Try.func90.trans (congrArg some (by kernel_rfl))⟩
 f26 := ⟨Try.f91.name, by decide, Try.func91.trans (congrArg some (by kernel_rfl))⟩
 f27 := ⟨Try.f92.name, by decide, Try.func92.trans (congrArg some (by kernel_rfl))⟩
 f28 := Try.func93.trans (congrArg some (by kernel_rfl))
 f29 := Try.func94.trans (congrArg some (by kernel_rfl))
 f46 := ⟨Try.f95.name, by decide, Try.func95.trans (congrArg some (by kernel_rfl))⟩
 f47 := Try.func96.trans (congrArg some (by kernel_rfl))
 f48 := Try.func97.trans (congrArg some (by kernel_rfl))
 f49 := ⟨Try.f98.name, by decide, Try.func98.trans (congrArg some (by kernel_rfl))⟩
 f50 := ⟨Try.f99.name, by decide, Try.func99.trans (congrArg some (by kernel_rfl))⟩
 f57 := ⟨Try.f100.name, by decide, Try.func100.trans (congrArg some (by kernel_rfl))⟩
 t0 := Try.underlying0
 a0 := Try.isAgg0
 z0 := Try.sizeOf0
 v0 := Try.zeroValue0
 t3 := Try.underlying3
 a3 := Try.isAgg3
 z3 := Try.sizeOf3
 v3 := Try.zeroValue3
 t4 := Try.underlying4
 a4 := Try.isAgg4
 z4 := Try.sizeOf4
 v4 := Try.zeroValue4
 t5 := Try.underlying5
 a5 := Try.isAgg5
 z5 := Try.sizeOf5
 v5 := Try.zeroValue5
 t9 := Try.underlying9
 a9 := Try.isAgg9
 z9 := Try.sizeOf9
 v9 := Try.zeroValue9
 t22 := Try.underlying26
 a22 := Try.isAgg26
 z22 := Try.sizeOf26
 v22 := Try.zeroValue26
 t25 := Try.underlying74
 a25 := Try.isAgg74
 z25 := Try.sizeOf74
 v25 := Try.zeroValue74
 t39 := Try.underlying109
 a39 := Try.isAgg109
 z39 := Try.sizeOf109
 v39 := Try.zeroValue109
 t45 := Try.underlying116
 a45 := Try.isAgg116
 z45 := Try.sizeOf116
 v45 := Try.zeroValue116
 t46 := Try.underlying117
 a46 := Try.isAgg117
 z46 := Try.sizeOf117
 v46 := Try.zeroValue117
 t50 := Try.underlying100
 a50 := Try.isAgg100
 z50 := Try.sizeOf100
 v50 := Try.zeroValue100
 t53 := Try.underlying123
 a53 := Try.isAgg123
 z53 := Try.sizeOf123
 v53 := Try.zeroValue123
 t55 := Try.underlying125
 a55 := Try.isAgg125
 z55 := Try.sizeOf125
 v55 := Try.zeroValue125
 t66 := Try.underlying126
 a66 := Try.isAgg126
 z66 := Try.sizeOf126
 v66 := Try.zeroValue126
 t70 := Try.underlying130
 a70 := Try.isAgg130
 z70 := Try.sizeOf130
 v70 := Try.zeroValue130
 t76 := Try.underlying132
 a76 := Try.isAgg132
 z76 := Try.sizeOf132
 v76 := Try.zeroValue132
 t77 := Try.underlying133
 a77 := Try.isAgg133
 z77 := Try.sizeOf133
 v77 := Try.zeroValue133 }
end Go.Proofs
namespace Go.Proofs.Ytngppcmdaanheaa.Ls
open Go.RowKit Go.Shelf Go.Lib Go.Sort Go.Proofs.YtngppcmdaanheaaW.PrintWords Go.Proofs.Ytngppcmdaanheaa.Po Go.Proofs.Ytngppcmdaanheaa.Iter
set_option linter.unusedVariables false
set_option linter.unusedSimpArgs false
instance : Inhabited Fa := ⟨Go.Proofs.Ytngppcmdaanheaa.Pr.z41⟩
def cm (a b : Int) : Int := if a < b then -1 else if a > b then 1 else 0
def cmS (a b : ByteArray) : Int := if Op.bytesLess a.toList b.toList = true then -1 else if (a.toList == b.toList) = true then 0 else 1
def cmpF (x y : Fa) : Int := if cm x.f0 y.f0 ≠ 0 then cm x.f0 y.f0 else if cm x.f1 y.f1 ≠ 0 then cm x.f1 y.f1 else if cmS x.f2 y.f2 ≠ 0 then cmS x.f2 y.f2 else cm x.f3 y.f3
theorem compare_f (a b : Int) : cmp_Compare_int.f a b = some (cm a b) := by
 unfold cmp_Compare_int.f cmp_isNaN_int.f cm
 simp only [bne_self_eq_false, Option.bind_some, Bool.false_eq_true, if_false]
 by_cases h1 : a < b
 ·rw [if_pos h1, if_pos h1]
 ·rw [if_neg h1, if_neg h1]
  by_cases h2 : a > b
  ·rw [if_pos h2, if_pos h2]
  ·rw [if_neg h2, if_neg h2]
theorem or_f (a b c d : Int) : cmp_Or_int.f 9 [a, b, c, d] = some (if a ≠ 0 then a else if b ≠ 0 then b else if c ≠ 0 then c else d) := by
 have e0 : Go.Proofs.YtngppcmdaanheaaW.PrintWords.rd [a, b, c, d] 0 = a := rfl
 have e1 : Go.Proofs.YtngppcmdaanheaaW.PrintWords.rd [a, b, c, d] 1 = b := rfl
 have e2 : Go.Proofs.YtngppcmdaanheaaW.PrintWords.rd [a, b, c, d] 2 = c := rfl
 have e3 : Go.Proofs.YtngppcmdaanheaaW.PrintWords.rd [a, b, c, d] 3 = d := rfl
 by_cases ha : a = 0 <;> by_cases hb : b = 0 <;> by_cases hc : c = 0 <;> by_cases hd : d = 0 <;> simp [cmp_Or_int.f, cmp_Or_int.l0, e0, e1, e2, e3, ha, hb, hc, hd, wrap64] <;> simp_all
theorem order_f (x y : Fa) : e_order.f 9 x.f0 x.f1 x.f2 x.f3 y.f0 y.f1 y.f2 y.f3 = some (cmpF x y) := by
 have hs : Va.cmp_Compare_string.f x.f2 y.f2 = some (cmS x.f2 y.f2) := rfl
 unfold e_order.f cmpF
 simp only [compare_f, Option.bind_some, or_f, hs]
theorem bytes_ext {a b : ByteArray} (h : a.toList = b.toList) : a = b := by
 rw [ByteArray.toList_eq, ByteArray.toList_eq] at h
 exact ByteArray.ext (Array.ext' h)
def SL (a b : ByteArray) : Prop := a.toList < b.toList
theorem SL.irrefl (a : ByteArray) : ¬ SL a a := List.lt_irrefl _
theorem SL.trans {a b c : ByteArray} (h : SL a b) (k : SL b c) : SL a c := List.lt_trans h k
theorem SL.tri (a b : ByteArray) : SL a b ∨ a = b ∨ SL b a := by
 by_cases h : SL a b
 ·exact .inl h
 ·by_cases k : SL b a
  ·exact .inr (.inr k)
  ·exact .inr (.inl (bytes_ext (List.le_antisymm k h)))
theorem cmS_lt (a b : ByteArray) : cmS a b < 0 ↔ SL a b := by
 unfold cmS SL
 rw [bytesLess_eq]
 by_cases h : a.toList < b.toList
 ·simp [h]
 ·rw [decide_eq_false h, if_neg (by decide)]
  constructor
  ·intro k
   split at k <;> omega
  ·intro k; exact absurd k h
theorem cmS_eq (a b : ByteArray) : cmS a b = 0 ↔ a = b := by
 unfold cmS
 rw [bytesLess_eq]
 by_cases h : a.toList < b.toList
 ·rw [decide_eq_true h, if_pos rfl]
  exact ⟨fun k => by omega, fun k => by subst k; exact absurd h (List.lt_irrefl _)⟩
 ·rw [decide_eq_false h, if_neg (by decide)]
  by_cases e : a = b
  ·subst e; simp
  ·have : (a.toList == b.toList) = false := by simpa using fun k => e (bytes_ext k)
   rw [this]
   exact ⟨fun k => by simp at k, fun k => absurd k e⟩
def LF (x y : Fa) : Prop := x.f0 < y.f0 ∨ x.f0 = y.f0 ∧ (x.f1 < y.f1 ∨ x.f1 = y.f1 ∧ (SL x.f2 y.f2 ∨ x.f2 = y.f2 ∧ x.f3 < y.f3))
theorem lf_iff (x y : Fa) : ltOf cmpF x y = true ↔ LF x y := by
 unfold ltOf
 rw [decide_eq_true_iff]
 unfold cmpF LF
 have h2 := cmS_lt x.f2 y.f2
 have h2' := cmS_eq x.f2 y.f2
 have c0 : (cm x.f0 y.f0 < 0 ↔ x.f0 < y.f0) ∧ (cm x.f0 y.f0 = 0 ↔ x.f0 = y.f0) := by unfold cm; constructor <;> split <;> (try split) <;> omega
 have c1 : (cm x.f1 y.f1 < 0 ↔ x.f1 < y.f1) ∧ (cm x.f1 y.f1 = 0 ↔ x.f1 = y.f1) := by unfold cm; constructor <;> split <;> (try split) <;> omega
 have c3 : (cm x.f3 y.f3 < 0 ↔ x.f3 < y.f3) := by unfold cm; split <;> (try split) <;> omega
 by_cases e0 : x.f0 = y.f0
 ·rw [if_neg (by simpa using c0.2.2 e0)]
  by_cases e1 : x.f1 = y.f1
  ·rw [if_neg (by simpa using c1.2.2 e1)]
   by_cases e2 : x.f2 = y.f2
   ·rw [if_neg (by simpa using h2'.2 e2), c3]
    have : ¬ SL x.f2 y.f2 := by rw [e2]; exact SL.irrefl _
    simp [e0, e1, e2, SL.irrefl]
   ·rw [if_pos (fun k => e2 (h2'.1 k)), h2]
    simp [e0, e1, e2]
  ·rw [if_pos (fun k => e1 (c1.2.1 k)), c1.1]
   simp [e0, e1]
 ·rw [if_pos (fun k => e0 (c0.2.1 k)), c0.1]
  simp [e0]
theorem lf_iff' (x y : Fa) : ltOf cmpF x y = false ↔ ¬ LF x y := by rw [← lf_iff]; simp
theorem LF.irrefl (x : Fa) : ¬ LF x x := by
 unfold LF
 have := SL.irrefl x.f2
 simp [this]
theorem LF.trans {x y z : Fa} (h : LF x y) (k : LF y z) : LF x z := by
 unfold LF at *
 rcases h with h | ⟨h0, h | ⟨h1, h | ⟨h2, h⟩⟩⟩ <;> rcases k with k | ⟨k0, k | ⟨k1, k | ⟨k2, k⟩⟩⟩
 all_goals first
  | (left; omega)
  | (right; refine ⟨by omega, ?_⟩; left; omega)
  | (right; refine ⟨by omega, ?_⟩; right; refine ⟨by omega, ?_⟩; left; first | exact SL.trans h k | (rw [← k2]; exact h) | (rw [h2]; exact k))
  | (right; refine ⟨by omega, ?_⟩; right; refine ⟨by omega, ?_⟩; right; exact ⟨h2.trans k2, by omega⟩)
theorem LF.tri (x y : Fa) : LF x y ∨ x = y ∨ LF y x := by
 obtain ⟨a, b, c, d⟩ := x
 obtain ⟨a', b', c', d'⟩ := y
 unfold LF
 simp only
 by_cases e0 : a = a'
 ·by_cases e1 : b = b'
  ·rcases SL.tri c c' with h | h | h
   ·exact .inl (.inr ⟨e0, .inr ⟨e1, .inl h⟩⟩)
   ·by_cases e3 : d = d'
    ·exact .inr (.inl (by rw [e0, e1, h, e3]))
    ·by_cases l3 : d < d'
     ·exact .inl (.inr ⟨e0, .inr ⟨e1, .inr ⟨h, l3⟩⟩⟩)
     ·exact .inr (.inr (.inr ⟨e0.symm, .inr ⟨e1.symm, .inr ⟨h.symm, by omega⟩⟩⟩))
   ·exact .inr (.inr (.inr ⟨e0.symm, .inr ⟨e1.symm, .inl h⟩⟩))
  ·by_cases l1 : b < b'
   ·exact .inl (.inr ⟨e0, .inl l1⟩)
   ·exact .inr (.inr (.inr ⟨e0.symm, .inl (by omega)⟩))
 ·by_cases l0 : a < a'
  ·exact .inl (.inl l0)
  ·exact .inr (.inr (.inl (by omega)))
theorem swoF : SWO (ltOf cmpF) where
 irrefl x := (lf_iff' x x).2 (LF.irrefl x)
 trans x y z h1 h2 := (lf_iff x z).2 (((lf_iff x y).1 h1).trans ((lf_iff y z).1 h2))
 ntrans x y z h1 h2 := by
  rw [lf_iff'] at *
  intro h
  rcases LF.tri x y with k | k | k
  ·exact h1 k
  ·subst k; exact h2 h
  ·exact h2 (LF.trans k h)
theorem cmpLaysF (blk off size : Nat) (w : World) : CmpLays Try.prog 42 #[] encL 4 cmpF blk off size w :=
 fun _ _ _ _ x y => (order_calls 9 x.f0 x.f1 x.f2 x.f3 y.f0 y.f1 y.f2 y.f3 _ _ (order_f x y)).mono fun e w' ⟨he, hb, hd⟩ => ⟨he, grow_of_below hb hd⟩
theorem sortF_calls (blk off cap : Nat) (d : Array Fa) (w : World) (hH : HoldsK encL 4 w blk off d) (hblk : blk < w.heap.size) (hsz : d.size < 4611686018427387904) :
  Calls Try.prog 59 #[.slice (some ⟨blk, off, none⟩) d.size cap, .func (.func 42) #[] #[]] w fun e w' =>
   e = .returned (.tuple #[]) ∧ ∃ d' n os, PermIn 0 d.size d d' ∧ SortedIn (ltOf cmpF) 0 d.size d' ∧ w' = sortWorldK encL 4 w blk off n d' os :=
 AnyQ.slices_SortFunc Try.sortFact 4 Try.isAgg41 Try.sizeOf41 encL (fun _ => rfl) (fun x v hv => by simp [encL] at hv; rcases hv with rfl | rfl | rfl | rfl <;> rfl) cmpF swoF 42 #[] blk off cap d w (enters_of Try.func42 (by kernel_rfl) rfl) (cmpLaysF blk off d.size w) hH hblk hsz
end Go.Proofs.Ytngppcmdaanheaa.Ls
namespace Go.Proofs.Ytngppcmdaanheaa.Ls
open Go.RowKit Go.Shelf Go.Lib Go.Sort Go.Proofs.YtngppcmdaanheaaW.PrintWords Go.Proofs.YtngppcmdaanheaaW.PrintLast Go.Proofs.YtngppcmdaanheaaW.PrintMore Go.Proofs.Ytngppcmdaanheaa.Iter Go.Proofs.Ytngppcmdaanheaa.Pr
set_option linter.unusedVariables false
set_option linter.unusedSimpArgs false
theorem LF.anti {x y : Fa} (h : ¬ LF x y) (k : ¬ LF y x) : x = y := by
 rcases LF.tri x y with a | a | a
 ·exact absurd a h
 ·exact a
 ·exact absurd a k
theorem le_trans {x y z : Fa} (h : ¬ LF y x) (k : ¬ LF z y) : ¬ LF z x := fun a => by
 rcases LF.tri z y with b | b | b
 ·exact k b
 ·exact h (b ▸ a)
 ·exact h (b.trans a)
theorem lt_of {x y : Fa} (h : ¬ LF y x) (k : x ≠ y) : LF x y := Classical.byContradiction (fun n => k (LF.anti n h))
theorem lt_of_le {x y z : Fa} (h : ¬ LF y x) (k : LF y z) : LF x z := by
 rcases LF.tri x y with b | b | b
 ·exact b.trans k
 ·exact b ▸ k
 ·exact absurd b h
theorem getBangF (zs : List Fa) (m : Nat) (h : m < zs.length) : zs.toArray[m]! = zs[m] := by
 rw [getElem!_pos zs.toArray m (by simpa using h)]
 simp
theorem compactUpTo_sortedF (zs : List Fa) (hs : zs.Pairwise (fun x y => ¬ LF y x)) : ∀ m, m ≤ zs.length →
  (compactUpTo zs.toArray m).Pairwise LF ∧ (∀ x, x ∈ compactUpTo zs.toArray m ↔ x ∈ zs.take m) ∧ ∀ x ∈ compactUpTo zs.toArray m, ∀ (h : 0 < m) (h2 : m - 1 < zs.length), ¬ LF zs[m - 1] x
 | 0, _ => by
  have h0 : compactUpTo zs.toArray 0 = [] := by
   cases hc : compactUpTo zs.toArray 0 with
   | nil => rfl
   | cons a l => simp [compactUpTo] at hc
  rw [h0]
  simp
 | m + 1, hm => by
  obtain ⟨h1, h2, h3⟩ := compactUpTo_sortedF zs hs m (by omega)
  have hlt : m < zs.length := by omega
  rw [compactUpTo_succ, getBangF zs m hlt]
  have htk : zs.take (m + 1) = zs.take m ++ [zs[m]] := by rw [List.take_succ_eq_append_getElem hlt]
  have hle : ∀ x ∈ compactUpTo zs.toArray m, ¬ LF zs[m] x := by
   intro x hx
   have hx' := (h2 x).1 hx
   obtain ⟨i, hi, rfl⟩ := List.mem_iff_getElem.1 hx'
   rw [List.length_take] at hi
   rw [List.getElem_take]
   exact (List.pairwise_iff_getElem.1 hs) i m (by omega) hlt (by omega)
  by_cases hk : keeps zs.toArray m = true
  ·rw [if_pos hk]
   have hstrict : ∀ x ∈ compactUpTo zs.toArray m, LF x zs[m] := by
    intro x hx
    rcases Nat.eq_zero_or_pos m with h0 | h0
    ·subst h0
     have := (h2 x).1 hx
     simp at this
    ·have ha := h3 x hx h0 (by omega)
     have hne : zs[m] ≠ zs[m - 1] := by
      intro e
      have := keeps_neg (d := zs.toArray) h0 (by rw [getBangF zs m hlt, getBangF zs (m - 1) (by omega)]; exact e)
      rw [this] at hk
      cases hk
     have hb := (List.pairwise_iff_getElem.1 hs) (m - 1) m (by omega) hlt (by omega)
     exact lt_of_le ha (lt_of hb (fun e => hne e.symm))
   refine ⟨?_, ?_, ?_⟩
   ·rw [List.pairwise_append]
    exact ⟨h1, by simp, fun a ha b hb => by simp at hb; subst hb; exact hstrict a ha⟩
   ·intro x
    rw [htk, List.mem_append, List.mem_append, h2]
   ·intro x hx _ _
    simp only [Nat.add_sub_cancel]
    rw [List.mem_append] at hx
    rcases hx with hx | hx
    ·exact hle x hx
    ·simp at hx; rw [hx]; exact LF.irrefl _
  ·rw [if_neg hk, List.append_nil]
   refine ⟨h1, fun x => ?_, fun x hx _ _ => ?_⟩
   ·rw [htk, List.mem_append, h2]
    refine ⟨.inl, fun h => h.elim id (fun h => ?_)⟩
    simp at h
    have hm0 : m ≠ 0 := fun h0 => hk (by rw [h0]; simp [keeps])
    have he : zs[m] = zs[m - 1] := Classical.byContradiction (fun hne => hk (by
     unfold keeps
     rw [getBangF zs m hlt, getBangF zs (m - 1) (by omega)]
     exact decide_eq_true (.inr hne)))
    rw [h, he]
    exact List.mem_take_iff_getElem.2 ⟨m - 1, by omega, rfl⟩
   ·simp only [Nat.add_sub_cancel]
    exact hle x hx
theorem compact_sortedF (zs : List Fa) (hs : zs.Pairwise (fun x y => ¬ LF y x)) : (Lib.compact zs).Pairwise LF ∧ ∀ x, x ∈ Lib.compact zs ↔ x ∈ zs := by
 obtain ⟨h1, h2, _⟩ := compactUpTo_sortedF zs hs zs.length (Nat.le_refl _)
 refine ⟨h1, fun x => ?_⟩
 have := h2 x
 rw [List.take_length] at this
 exact this
theorem rise_unique : ∀ {xs ys : List Fa}, xs.Pairwise LF → ys.Pairwise LF → (∀ x, x ∈ xs ↔ x ∈ ys) → xs = ys
 | [], [], _, _, _ => rfl
 | [], y :: ys, _, _, h => absurd ((h y).2 (by simp)) (by simp)
 | x :: xs, [], _, _, h => absurd ((h x).1 (by simp)) (by simp)
 | x :: xs, y :: ys, hx, hy, h => by
  have hx' := List.pairwise_cons.1 hx
  have hy' := List.pairwise_cons.1 hy
  have e : x = y := by
   rcases List.mem_cons.1 ((h x).1 (by simp)) with h1 | h1
   ·exact h1
   ·rcases List.mem_cons.1 ((h y).2 (by simp)) with h2 | h2
    ·exact h2.symm
    ·exact absurd (LF.trans (hy'.1 x h1) (hx'.1 y h2)) (LF.irrefl _)
  subst e
  congr 1
  refine rise_unique hx'.2 hy'.2 (fun z => ⟨fun hz => ?_, fun hz => ?_⟩)
  ·rcases List.mem_cons.1 ((h z).1 (List.mem_cons_of_mem _ hz)) with h1 | h1
   ·subst h1; exact absurd (hx'.1 z hz) (LF.irrefl _)
   ·exact h1
  ·rcases List.mem_cons.1 ((h z).2 (List.mem_cons_of_mem _ hz)) with h1 | h1
   ·subst h1; exact absurd (hy'.1 z hz) (LF.irrefl _)
   ·exact h1
def factSet (xs : List Fa) : List Fa := Lib.compact (xs.mergeSort (fun x y => !ltOf cmpF y x))
theorem factSet_of {xs ys : List Fa} (hp : ys.Perm xs) (hs : ys.Pairwise (fun x y => ltOf cmpF y x = false)) : Lib.compact ys = factSet xs := by
 have h1 := compact_sortedF ys (hs.imp (fun h => (lf_iff' _ _).1 h))
 have hms : (xs.mergeSort (fun x y => !ltOf cmpF y x)).Pairwise (fun x y => (!ltOf cmpF y x) = true) := List.pairwise_mergeSort (fun a b c h k => by
   simp only [Bool.not_eq_true', lf_iff'] at *
   exact le_trans h k) (fun a b => by
   simp only [Bool.or_eq_true, Bool.not_eq_true', lf_iff']
   by_cases h : LF b a
   ·exact .inr (fun k => LF.irrefl _ (LF.trans h k))
   ·exact .inl h) xs
 have h2 := compact_sortedF (xs.mergeSort (fun x y => !ltOf cmpF y x)) (hms.imp (fun h => by simpa only [Bool.not_eq_true', lf_iff'] using h))
 refine rise_unique h1.1 h2.1 (fun x => ?_)
 unfold factSet
 rw [h1.2, h2.2, hp.mem_iff, List.mem_mergeSort]
theorem factSet_rises (xs : List Fa) : (factSet xs).Pairwise LF ∧ ∀ x, x ∈ factSet xs ↔ x ∈ xs := by
 have hms : (xs.mergeSort (fun x y => !ltOf cmpF y x)).Pairwise (fun x y => (!ltOf cmpF y x) = true) := List.pairwise_mergeSort (fun a b c h k => by
   simp only [Bool.not_eq_true', lf_iff'] at *
   exact le_trans h k) (fun a b => by
   simp only [Bool.or_eq_true, Bool.not_eq_true', lf_iff']
   by_cases h : LF b a
   ·exact .inr (fun k => LF.irrefl _ (LF.trans h k))
   ·exact .inl h) xs
 have h2 := compact_sortedF (xs.mergeSort (fun x y => !ltOf cmpF y x)) (hms.imp (fun h => by simpa only [Bool.not_eq_true', lf_iff'] using h))
 refine ⟨h2.1, fun x => ?_⟩
 unfold factSet
 rw [h2.2, List.mem_mergeSort]
theorem OwnF.holds {W : World} {base g n c : Nat} {xs : List Fa} (h : OwnF W base (.slice (some ⟨g, 0, none⟩) n c) xs) : HoldsK encL 4 W g 0 xs.toArray := by
 intro j hj
 rw [size_flatK] at hj
 have hj' : j < xs.length * 4 := by simpa using hj
 rcases h.slice with ⟨e, _⟩ | ⟨g', c', cur, e, _, hh, h1, h2, h3, h4⟩
 ·cases e
 ·injection e with e1 e2 e3
  injection e1 with e1; injection e1 with e1
  subst e1
  have hx : xs[j / 4]? = some (xs[j / 4]'(by omega)) := List.getElem?_eq_getElem _
  have hc := h.cells hx (q := j % 4) (by omega)
  have ej : j / 4 * 4 + j % 4 = j := by omega
  rw [ej] at hc
  rw [get_flatK _ _ _ _ hj, Nat.zero_add]
  refine ⟨?_, ?_⟩
  ·have e1 : xs.toArray[j / 4]! = xs[j / 4]'(by omega) := by simp [getElem!_pos, show j / 4 < xs.length by omega]
   have e2 : j % 4 < (encL (xs[j / 4]'(by omega))).length := by simp [encL]; omega
   rw [hc, e1, List.getElem?_eq_getElem e2, getElem!_pos (encL _) _ e2]
   rfl
  ·simp [World.frozen?, hh]
theorem view_of_holdsF {W : World} {g cap : Nat} {d : Array Fa} {ys : List Fa} (base : Nat) (h : HoldsK encL 4 W g 0 d) (hl : ys.length ≤ d.size) (hy : ∀ i (hi : i < ys.length), d[i]! = ys[i]) (hs : ys.length ≤ 9223372036854775807) (hc : ys.length ≤ cap) (hg : base ≤ g) (hlt : g < W.heap.size) :
  Kd.V k41 41 W base (fun k => base ≤ k) (.slice (some ⟨g, 0, none⟩) ys.length cap) ys := by
 refine Kd.V_mk hc (fun W' hW => ⟨rfl, hs, fun hn => ⟨_, rfl, fun j p hp => ⟨_, rfl, k41_mk W' p, fun i u hu => ?_⟩⟩⟩)
 have hi : i < 4 := by have := (List.getElem?_eq_some_iff.1 hu).1; simpa using this
 have hj := (List.getElem?_eq_some_iff.1 hp).1
 have hb := hW g hg hlt
 have hcell := (h.cell (i := j) (c := i) (by omega) hi).1
 have e : (Addr.mk g 0 none).add (j * 4 + i) = ⟨g, 0 + j * 4 + i, none⟩ := by rw [add0, Nat.zero_add]
 rw [show k41.sz = 4 from rfl, e]
 have e2 : W'.cell? ⟨g, 0 + j * 4 + i, none⟩ = W.cell? ⟨g, 0 + j * 4 + i, none⟩ := by simp only [World.cell?, hb]
 rw [e2, hcell, hy j hj]
 have ep : ys[j] = p := (List.getElem?_eq_some_iff.1 hp).2
 rw [ep]
 have e3 : i < (encL p).length := by simpa [encL] using hi
 rw [getElem!_pos (encL p) _ e3]
 have hu' : (encL p)[i]? = some u := hu
 rw [List.getElem?_eq_getElem e3] at hu'
 exact hu'
theorem grownBy_putF {w : World} {g q : Nat} (d : Array Fa) : w.grownBy (putRowK encL 4 (Sort.ahead w q) g 0 d) (some g) := by
 refine ⟨rfl, rfl, rfl, by simp [putRowK, putRow, mapBlock, Sort.ahead], fun k hk hne => ?_⟩
 have : g ≠ k := fun e => hne (by rw [e])
 simp [putRowK, putRow, mapBlock, Sort.ahead, Array.getElem?_modify, this]
theorem grownBy_sortF {w : World} {g n : Nat} {os : Array Obj} (d : Array Fa) : w.grownBy (sortWorldK encL 4 w g 0 n d os) (some g) := by
 have h := grownBy_putF (w := w) (g := g) (q := n) d
 unfold sortWorldK
 refine ⟨h.os, h.tape, h.output, Nat.le_trans h.size (by simp), fun k hk hne => ?_⟩
 rw [heap_grow_old _ _ (Nat.lt_of_lt_of_le hk h.size)]
 exact h.block k hk hne
def RowF (W : World) (base : Nat) (v : Value) (ys : List Fa) : Prop :=
 (v = .slice none 0 0 ∧ ys = []) ∨ ∃ g c, v = .slice (some ⟨g, 0, none⟩) ys.length c ∧ base ≤ g ∧ g < W.heap.size ∧ HoldsK encL 4 W g 0 ys.toArray ∧ ys.length ≤ c
theorem sortF_row {W : World} {base : Nat} {v : Value} {xs : List Fa} (h : OwnF W base v xs) (hl : xs.length ≤ 1000000000000) :
  Calls Try.prog 59 #[v, .func (.func 42) #[] #[]] W fun e W' =>
   e = .returned (.tuple #[]) ∧ ∃ ys, ys.Perm xs ∧ ys.Pairwise (fun x y => ltOf cmpF y x = false) ∧ RowF W' base v ys ∧ W.grownBy W' v.ownBlock := by
 rcases h.slice with ⟨rfl, rfl⟩ | ⟨g, c, cur, rfl, hb, hh, hc, hc2, hcs, htk⟩
 ·refine (AnyF.slices_SortFunc_none Try.sortFact none 0 _ W).mono ?_
  rintro e W' ⟨rfl, rfl⟩
  exact ⟨rfl, [], List.Perm.refl _, List.Pairwise.nil, .inl ⟨rfl, rfl⟩, World.grownBy.refl _ _⟩
 ·have hlt := (Array.getElem?_eq_some_iff.1 hh).1
  have hH := h.holds
  have hs : xs.toArray.size = xs.length := by simp
  have := sortF_calls g 0 c xs.toArray W hH hlt (by rw [hs]; omega)
  rw [hs] at this
  refine this.mono ?_
  rintro e W' ⟨rfl, d', n, os, hp, hso, rfl⟩
  have hd : d'.size = xs.length := by rw [hp.1, hs]
  refine ⟨rfl, d'.toList, ?_, ?_, .inr ⟨g, c, by simp [hd], hb, ?_, ?_, by simp [hd]; exact hc⟩, grownBy_sortF d'⟩
  ·have h2 := hp.2.2
   have e1 : d'.extract 0 xs.length = d' := by rw [← hd]; simp
   have e2 : xs.toArray.extract 0 xs.length = xs.toArray := by rw [← hs]; simp
   rw [e1, e2] at h2
   simpa using h2
  ·rw [List.pairwise_iff_getElem]
   intro i j hi hj hij
   have hi' : i < d'.size := by simpa using hi
   have hj' : j < d'.size := by simpa using hj
   have := hso i j (Nat.zero_le _) hij (by omega)
   rw [getElem!_pos d' i hi', getElem!_pos d' j hj'] at this
   simpa using this
  ·exact Nat.lt_of_lt_of_le hlt (size_sortWorldK_c (enc := encL) (k := 4) (w := W) (blk := g) (off := 0) n d' os)
  ·simpa using holdsK_sortWorldK_c (enc := encL) (k := 4) (w := W) (blk := g) (off := 0) xs.toArray d' n os hH hlt (by rw [hd, hs])
set_option maxHeartbeats 400000 in
theorem sortedF_calls {gf : Nat} {lb : Array Value} {S : List Fa → Prop} {Nx : List Fa → Fa → Prop} {B0 : Nat} {Oi : Nat → Prop} {w0 w : World} (eg : ∀ args w, (callFunc gf args).run Try.prog w = .ok (.enter gf args) w) (hit : IterP Try.prog gf lb encF S Nx B0 Oi w0)
  (hw : Below w0.heap.size w0 w) (hB0 : B0 ≤ w.heap.size) (hOi : ∀ i, Oi i → i < w.heap.size) (hl : ∀ p x, Nx p x → p.length < 1000000000000) (hS : ∀ xs, S xs → xs.length ≤ 1000000000000) :
  Calls Try.prog 40 #[.func (.func gf) #[] lb, .func (.func 42) #[] #[]] w fun e w' => ∃ (v : Value) (xs ys : List Fa), e = .returned v ∧ S xs ∧ ys.Perm xs ∧ ys.Pairwise (fun x y => ltOf cmpF y x = false) ∧
   RowF w' w.heap.size v ys ∧ Below B0 w w' := by
 have HA := zm (collectF_calls eg hit hw hB0 hOi hl)
 have HL := zm hS
 clear eg hit hw hOi hl hS
 go_enter Try.func40, Try.ntmps40
 go_wp2_with (go_at_call 58; refine HA.out.mono ?_; rintro e w1 ⟨v, xs, rfl, hS, hO, hB⟩; have HS := zm hS; have HO := zm hO; have HB := zm hB; clear hS hO hB)
 clear HA
 have HR := zm (sortF_row HO.out (HL.out _ HS.out))
 refine HR.out.mono ?_
 rintro e w2 ⟨rfl, ys, hp, hs, hr, hg⟩
 have HP := zm hp
 have HSO := zm hs
 have HRO := zm hr
 have HB2 := zm (HB.out.grown hg (Nat.le_trans hB0 HB.out.size) (fun k hk => Nat.le_trans hB0 (HO.out.lt hk).1))
 clear hp hs hr hg HR HO HB
 go_wp2_with fail
 go_ret
 exact ⟨_, _, _, rfl, HS.out, HP.out, HSO.out, HRO.out, HB2.out⟩
theorem RowF.view {W : World} {base : Nat} {v : Value} {ys : List Fa} (h : RowF W base v ys) (hl : ys.length ≤ 1000000000000) : Kd.V k41 41 W base (fun k => base ≤ k) v ys := by
 rcases h with ⟨rfl, rfl⟩ | ⟨g, c, rfl, hb, hlt, hH, hc⟩
 ·exact Kd.V_nil _ _ _ _ _
 ·refine view_of_holdsF base hH (by simp) (fun i hi => ?_) (by omega) hc hb hlt
  have hi' : i < ys.toArray.size := by simpa using hi
  rw [getElem!_pos ys.toArray i hi']
  simp
theorem factSet_of_nodup {xs ys zs : List Fa} (hn : xs.Nodup) (hp : ys.Perm xs) (hs : ys.Pairwise (fun x y => ltOf cmpF y x = false)) (hm : ∀ f, f ∈ xs ↔ f ∈ zs) : ys = factSet zs := by
 have h1 : ys.Pairwise LF := by
  have hnd : ys.Pairwise (· ≠ ·) := (hp.nodup_iff.2 hn)
  exact (hs.and hnd).imp (fun h => lt_of ((lf_iff' _ _).1 h.1) h.2)
 exact rise_unique h1 (factSet_rises zs).1 (fun x => by rw [(factSet_rises zs).2, hp.mem_iff, hm])
end Go.Proofs.Ytngppcmdaanheaa.Ls
namespace Go.Proofs.Ytngppcmdaanheaa.Ls
open Go.RowKit Go.Maps Go.Proofs.Ytngppcmdaanheaa.Iter Go.Proofs.Ytngppcmdaanheaa.ISet Go.Proofs.Ytngppcmdaanheaa.Pr Go.Proofs.Ytngppcmdaanheaa.Ext Go.Proofs.YtngppcmdaanheaaW.PrintWords Go.Proofs.YtngppcmdaanheaaW.PrintLast Go.Proofs.YtngppcmdaanheaaW.PrintMore
set_option linter.unusedVariables false
set_option linter.unusedSimpArgs false
structure Ro where
 Br : Nat
 s0 : Int
 A1 : Option Addr
 c1 : Nat
 fs : List S44
 A2 : Option Addr
 c2 : Nat
 rs : List S46
 A3 : Option Addr
 c3 : Nat
 l : List Fa
 Mb : Nat
def Ro.cells (r : Ro) : Array Value := #[.int .i64 r.s0, .slice r.A1 r.fs.length r.c1, .slice r.A2 r.rs.length r.c2, .slice r.A3 r.l.length r.c3, .map (some r.Mb)]
structure RoAt (r : Ro) (w0 W : World) : Prop where
 bel : Below w0.heap.size w0 W
 blk : W.heap[r.Br]? = some (.cells r.cells 66 (0, 0))
 lowB : w0.heap.size ≤ r.Br
 lowM : w0.heap.size ≤ r.Mb
 ne : r.Br ≠ r.Mb
 hf : Kd.C k44 w0 r.A1 r.fs.length r.fs
 hr : Kd.C k46 w0 r.A2 r.rs.length r.rs
 hl : Kd.C k41 w0 r.A3 r.l.length r.l
theorem RoAt.chg {r : Ro} {w0 W W' : World} {T : Nat → Prop} (h : RoAt r w0 W) (hc : Chg T W W') (hT : ∀ i, T i → w0.heap.size ≤ i ∧ i ≠ r.Br) : RoAt r w0 W' :=
 ⟨h.bel.trans (hc.below h.bel.size (fun i hi => (hT i hi).1)), hc.blk h.blk (fun ht => (hT _ ht).2 rfl), h.lowB, h.lowM, h.ne, h.hf, h.hr, h.hl⟩
theorem RoAt.asked {r : Ro} {w0 W W' : World} (h : RoAt r w0 W) (hc : Chg (fun i => i = r.Mb) W W') : RoAt r w0 W' := h.chg hc (fun i e => by subst e; exact ⟨h.lowM, fun e => h.ne e.symm⟩)
theorem RoAt.quiet {r : Ro} {w0 W W' : World} (h : RoAt r w0 W) (hb : Below W.heap.size W W') : RoAt r w0 W' := h.chg (Chg.of_below hb (fun _ => False)) (fun i e => e.elim)
theorem RoAt.cell {r : Ro} {w0 W : World} (h : RoAt r w0 W) (j : Nat) : W.cell? ⟨r.Br, j, none⟩ = r.cells[j]? := by simp [World.cell?, h.blk]
theorem cell_map {W W' : World} {Mb n : Nat} {S : Fa → Bool} (hs : FSet W Mb n S) (hc : Chg (fun i => i = Mb) W W') {a : Addr} {v : Value} (h : W.cell? a = some v) : W'.cell? a = some v := by
 refine hc.cell h (fun e => ?_)
 obtain ⟨D, ⟨es, clock, hb, _⟩, _⟩ := hs
 have e' : a.block = Mb := e
 unfold World.cell? at h
 rw [e', hb] at h
 cases h
theorem intC_map {W W' : World} {Mb n : Nat} {S : Fa → Bool} (hs : FSet W Mb n S) (hc : Chg (fun i => i = Mb) W W') {A : Option Addr} {m : Nat} {xs : List Int} (h : Kd.C (Kd.int .i64) W A m xs) : Kd.C (Kd.int .i64) W' A m xs :=
 ⟨h.1, h.2.1, fun hn => by
  obtain ⟨ad, e, hx⟩ := h.2.2 hn
  refine ⟨ad, e, fun j p hp => ?_⟩
  obtain ⟨c, h1, h2, h3⟩ := hx j p hp
  exact ⟨c, h1, h2, fun i u hu => cell_map hs hc (h3 i u hu)⟩⟩
def askL (kind a : Int) (s : ByteArray) (xs : List Int) : List Fa := xs.map (fun x => ⟨kind, a, s, x⟩)
def addS (S : Fa → Bool) (xs : List Fa) : Fa → Bool := fun f => decide (f ∈ xs) || S f
theorem addS_nil (S : Fa → Bool) : addS S [] = S := by funext f; simp [addS]
theorem addS_app (S : Fa → Bool) (xs ys : List Fa) : addS (addS S xs) ys = addS S (xs ++ ys) := by
 funext f
 simp only [addS, List.mem_append, Bool.decide_or]
 cases decide (f ∈ xs) <;> cases decide (f ∈ ys) <;> simp
set_option maxHeartbeats 2000000 in
theorem asks_calls {r : Ro} {w0 W : World} (h : RoAt r w0 W) (kind a : Int) (s : ByteArray) (A : Option Addr) (c : Nat) (xs : List Int) (hC : Kd.C (Kd.int .i64) W A xs.length xs) (hw : ∀ x ∈ xs, wfF ⟨kind, a, s, x⟩) {n : Nat} {S : Fa → Bool} (hs : FSet W r.Mb n S) (hn : n + xs.length ≤ 1000000000000) :
  Calls Try.prog 37 #[.pointer (some ⟨r.Br, 0, none⟩), .int .i64 kind, .int .i64 a, .string s, .slice A xs.length c] W fun e W' =>
   e = .returned (.tuple #[]) ∧ FSet W' r.Mb (n + xs.length) (addS S (askL kind a s xs)) ∧ Chg (fun i => i = r.Mb) W W' := by
 have HR := zm h
 have HC := zm hC
 have HW := zm hw
 have HS := zm hs
 clear h hC hw hs
 go_enter Try.func37, Try.ntmps37
 go_wp2
 go_loopg [14] xs.length (fun kq v14 W1 => ∃ j : Nat, v14 = .int .i64 j ∧ j + kq = xs.length ∧ FSet W1 r.Mb (n + j) (addS S (askL kind a s (xs.take j))) ∧ Chg (fun i => i = r.Mb) W W1)
 case atStart => exact ⟨0, rfl, by omega, by rw [List.take_zero]; exact HS.out.same (fun f _ => by rw [askL, List.map_nil, addS_nil]), Chg.refl _ _⟩
 case round =>
  obtain ⟨j, rfl, hj, hst, hch⟩ := hrel
  have HST := zm hst
  have HCH := zm hch
  by_cases hlt : j < xs.length
  ·obtain ⟨ad, rfl, hx⟩ := Kd.at_int (intC_map HS.out hch HC.out) (j : Int) (by omega) (by omega)
   rw [Int.toNat_natCast] at hx
   have hx' : rd xs (j : Int) = xs[j] := by unfold rd; rw [Int.toNat_natCast, List.getD_eq_getElem?_getD, List.getElem?_eq_getElem hlt]; rfl
   have HTK := zm (show xs.take (j + 1) = xs.take j ++ [rd xs (j : Int)] by rw [hx', List.take_succ_eq_append_getElem hlt])
   have hwx : wfF ⟨kind, a, s, rd xs (j : Int)⟩ := HW.out _ (by rw [hx']; exact List.getElem_mem _)
   clear hx'
   generalize rd xs (j : Int) = x at *
   have hc4 : wr.cell? ⟨r.Br, 4, none⟩ = some (.map (some r.Mb)) := (HR.out.asked hch).cell 4
   obtain ⟨W2, hput, hst2, hch2⟩ := hst.put (by simp only [maxLen]; omega) ⟨kind, a, s, x⟩ hwx
   have HG := zm (show FSet W2 r.Mb (n + (j + 1)) (addS S (askL kind a s (xs.take (j + 1)))) ∧ Chg (fun i => i = r.Mb) W W2 from ⟨hst2.same (fun f hf => by
    rw [HTK.out]
    unfold addS askL
    rw [List.map_append]
    simp only [List.mem_append, List.map_cons, List.map_nil, List.mem_singleton, Bool.decide_or]
    cases decide (f = ⟨kind, a, s, x⟩) <;> simp), hch.then_ hch2⟩)
   dsimp only [aggF] at hput
   clear hst hch hst2 hch2 hwx
   go_wp2
   go_roundg (gk - 1)
   case measure => omega
   case rel => exact ⟨j + 1, by go_num, by omega, HG.out.1, HG.out.2⟩
  ·obtain rfl : j = xs.length := by omega
   clear hst hch
   go_wp2
   go_end0
   rw [List.take_length] at HST
   exact ⟨rfl, HST.out, HCH.out⟩
end Go.Proofs.Ytngppcmdaanheaa.Ls
namespace Go.Proofs.Ytngppcmdaanheaa.Pz
open Go.RowKit Go.Proofs.YtngppcmdaanheaaW.PrintWords Go.Proofs.YtngppcmdaanheaaW.PrintLast Go.Proofs.YtngppcmdaanheaaW.PrintMore
attribute [local go_sem] max2_int min2_int max_two min_two
set_option linter.unusedVariables false
set_option linter.unusedSimpArgs false
def errW : Option Int → Value
 | none => .nilIface
 | some c => .iface 0 (.int .i64 c)
theorem errW_none : errW none = .nilIface := rfl
theorem errW_some (c : Int) : errW (some c) = .iface 0 (.int .i64 c) := rfl
-- the values' own types
end Go.Proofs.Ytngppcmdaanheaa.Pz
namespace Go.Proofs.Ytngppcmdaanheaa.Pz
open Go.RowKit Go.Proofs.YtngppcmdaanheaaW.PrintWords Go.Proofs.YtngppcmdaanheaaW.PrintLast Go.Proofs.YtngppcmdaanheaaW.PrintMore
attribute [local go_sem] max2_int min2_int max_two min_two
set_option linter.unusedVariables false
set_option linter.unusedSimpArgs false
/-! ### cmp_Or_int: function 61 -/
def cmp_Or_int.l0 : Nat → Int → List Int → Int → Int → Option (Int)
 | 0, _, _, _, _ => none
 | k + 1, x3, x6, x7, x8 => if x8 < x7 then (if 0 ≤ x8 then (if x8 < (x6.length : Int) then (if (rd x6 x8) = x3 then (cmp_Or_int.l0 k x3 x6 x7 (wrap64 (x8 + 1))) else (some (rd x6 x8))) else (none)) else (none)) else (some x3)
def cmp_Or_int.f (k : Nat) (l0 : List Int) : Option (Int) := cmp_Or_int.l0 k 0 l0 (l0.length : Int) 0
set_option maxHeartbeats 8000000 in
set_option maxRecDepth 100000 in
theorem cmp_Or_int.calls (k : Nat) (A0 : Option Addr) (c0 : Nat) (l0 : List Int) (r : Int) (w : World) (hr0 : Kd.C (Kd.int .i64) w A0 l0.length l0) (hc0 : l0.length ≤ c0) (h : cmp_Or_int.f k l0 = some r) :
  Calls Try.prog 61 #[.slice A0 l0.length c0] w fun e w' => e = .returned (.int .i64 r) ∧ Drawn0 w w' := by
 have HR0 := zm hr0
 have HC0 := zm hc0
 clear hr0 hc0
 have H : (cmp_Or_int.l0 k 0 l0 (l0.length : Int) 0) = some r := h
 clear h
 have H' := zm H
 clear H
 go_enter Try.func61, Try.ntmps61
 go_wp2
 go_loopg [8] k (fun kq v8 w' => ∃ (x8_1 : Int), v8 = .int .i64 x8_1 ∧ Aside0 (cmp_Or_int.l0 kq 0 l0 (l0.length : Int) x8_1 = some r) ∧ Aside0 (kq ≤ k) ∧ Drawn0 w w')
 case atStart => exact ⟨(0), zR, H', ⟨Nat.le_refl _⟩, by repeat (first | exact Drawn0.refl _ | apply Drawn0.step)⟩
 case round =>
  clear H'
  obtain ⟨x8_1, rfl, HA, HK1, ⟨m1, rfl⟩⟩ := hrel
  cases gk with
  | zero => exact absurd HA.out (by simp [cmp_Or_int.l0])
  | succ k1 =>
   have H := HA.out
   clear HA
   simp only [cmp_Or_int.l0] at H
   by_cases c2 : x8_1 < (l0.length : Int)
   ·rw [if_pos c2] at H
    have c2b0 : decide (x8_1 < (l0.length : Int)) = true := decide_eq_true c2
    clear c2
    by_cases c3 : 0 ≤ x8_1
    ·rw [if_pos c3] at H
     have c3b0 : decide (0 ≤ x8_1) = true := decide_eq_true c3
     clear c3
     by_cases c4 : x8_1 < (l0.length : Int)
     ·rw [if_pos c4] at H
      have c4b0 : decide (x8_1 < (l0.length : Int)) = true := decide_eq_true c4
      clear c4
      by_cases c5 : (rd l0 x8_1) = 0
      ·rw [if_pos c5] at H
       have c5b0 : ((rd l0 x8_1) == 0) = true := beq_iff_eq.mpr c5
       have c5b1 : ((rd l0 x8_1) != 0) = false := bne_eq_false_iff_eq.mpr c5
       clear c5
       have H' := zm H
       clear H
       have p101 : 0 ≤ (x8_1 : Int) := of_decide_eq_true zA
       have q101 : x8_1 < (l0.length : Int) := of_decide_eq_true zA
       obtain ⟨ad101, e101, hx101_0⟩ := Kd.at_int HR0.out x8_1 p101 q101
       cases e101
       replace p101 := eq_true p101
       replace q101 := eq_true q101
       go_wp2
       go_roundg k1
       case measure => have := HK1.out; omega
       case rel => exact ⟨(wrap64 (x8_1 + 1)), zR, H', ⟨by have := HK1.out; omega⟩, by repeat (first | exact Drawn0.refl _ | apply Drawn0.step)⟩
      ·rw [if_neg c5] at H
       have c5b0 : ((rd l0 x8_1) == 0) = false := beq_eq_false_iff_ne.mpr c5
       have c5b1 : ((rd l0 x8_1) != 0) = true := bne_iff_ne.mpr c5
       obtain rfl := Option.some.inj H
       have p101 : 0 ≤ (x8_1 : Int) := of_decide_eq_true zA
       have q101 : x8_1 < (l0.length : Int) := of_decide_eq_true zA
       obtain ⟨ad101, e101, hx101_0⟩ := Kd.at_int HR0.out x8_1 p101 q101
       cases e101
       replace p101 := eq_true p101
       replace q101 := eq_true q101
       go_wp2
       go_ret
       exact ⟨zR, by repeat (first | exact Drawn0.refl _ | apply Drawn0.step)⟩
     ·rw [if_neg c4] at H
      exact absurd H (by simp)
    ·rw [if_neg c3] at H
     exact absurd H (by simp)
   ·rw [if_neg c2] at H
    have c2b0 : decide (x8_1 < (l0.length : Int)) = false := decide_eq_false c2
    clear c2
    obtain rfl := Option.some.inj H
    go_wp2
    go_ret
    exact ⟨zR, by repeat (first | exact Drawn0.refl _ | apply Drawn0.step)⟩
/-! ### cmp_isNaN_int: function 79 -/
def cmp_isNaN_int.f (a0 : Int) : Option (Bool) := some (a0 != a0)
set_option maxHeartbeats 8000000 in
set_option maxRecDepth 100000 in
theorem cmp_isNaN_int.calls (a0 : Int) (r : Bool) (w : World) (h : cmp_isNaN_int.f a0 = some r) :
  Calls Try.prog 79 #[.int .i64 a0] w fun e w' => e = .returned (.bool r) ∧ Drawn0 w w' := by
 have H : (some (a0 != a0)) = some r := h
 clear h
 obtain rfl := Option.some.inj H
 go_enter Try.func79, Try.ntmps79
 go_wp2
 go_ret
 exact ⟨zR, by repeat (first | exact Drawn0.refl _ | apply Drawn0.step)⟩
/-! ### cmp_Compare_int: function 62 -/
def cmp_Compare_int.f (a0 : Int) (a1 : Int) : Option (Int) := (cmp_isNaN_int.f a0).bind fun t102 => ((cmp_isNaN_int.f a1).bind fun t103 => (if t102 = true then (if t103 = true then (some 0) else (some (-1))) else (if t103 = true then (some 1) else (if a0 < a1 then (some (-1)) else (if a0 > a1 then (some 1) else (some 0))))))
set_option maxHeartbeats 8000000 in
set_option maxRecDepth 100000 in
theorem cmp_Compare_int.calls (a0 : Int) (a1 : Int) (r : Int) (w : World) (h : cmp_Compare_int.f a0 a1 = some r) :
  Calls Try.prog 62 #[.int .i64 a0, .int .i64 a1] w fun e w' => e = .returned (.int .i64 r) ∧ Drawn0 w w' := by
 have H : ((cmp_isNaN_int.f a0).bind fun t102 => ((cmp_isNaN_int.f a1).bind fun t103 => (if t102 = true then (if t103 = true then (some 0) else (some (-1))) else (if t103 = true then (some 1) else (if a0 < a1 then (some (-1)) else (if a0 > a1 then (some 1) else (some 0))))))) = some r := h
 clear h
 obtain ⟨t102, A3, H⟩ := zO H
 obtain ⟨t103, A4, H⟩ := zO H
 by_cases c5 : t102 = true
 ·subst c5
  rw [if_pos rfl] at H
  by_cases c6 : t103 = true
  ·subst c6
   rw [if_pos rfl] at H
   obtain rfl := Option.some.inj H
   go_enter Try.func62, Try.ntmps62
   go_wp2_with (first | ((with_reducible refine gate_callee (f := 79) rfl ?_); refine goesL_ (some 10) rfl rfl Try.func79 (by kernel_rfl) rfl #[.int .i64 a1] rfl zP ?_; (with_reducible refine (cmp_isNaN_int.calls a1 true _ A4.out).mono ?_); rintro e w' ⟨rfl, ⟨nd, rfl⟩⟩; refine ⟨_, rfl, ?_⟩) | ((with_reducible refine gate_callee (f := 79) rfl ?_); refine goesL_ (some 8) rfl rfl Try.func79 (by kernel_rfl) rfl #[.int .i64 a0] rfl zP ?_; (with_reducible refine (cmp_isNaN_int.calls a0 true _ A3.out).mono ?_); rintro e w' ⟨rfl, ⟨nd, rfl⟩⟩; refine ⟨_, rfl, ?_⟩))
   go_ret
   exact ⟨zR, by repeat (first | exact Drawn0.refl _ | apply Drawn0.step)⟩
  ·replace c6 := Bool.eq_false_iff.mpr c6
   subst c6
   rw [if_neg (show ¬ (false = true) by decide)] at H
   obtain rfl := Option.some.inj H
   go_enter Try.func62, Try.ntmps62
   go_wp2_with (first | ((with_reducible refine gate_callee (f := 79) rfl ?_); refine goesL_ (some 10) rfl rfl Try.func79 (by kernel_rfl) rfl #[.int .i64 a1] rfl zP ?_; (with_reducible refine (cmp_isNaN_int.calls a1 false _ A4.out).mono ?_); rintro e w' ⟨rfl, ⟨nd, rfl⟩⟩; refine ⟨_, rfl, ?_⟩) | ((with_reducible refine gate_callee (f := 79) rfl ?_); refine goesL_ (some 8) rfl rfl Try.func79 (by kernel_rfl) rfl #[.int .i64 a0] rfl zP ?_; (with_reducible refine (cmp_isNaN_int.calls a0 true _ A3.out).mono ?_); rintro e w' ⟨rfl, ⟨nd, rfl⟩⟩; refine ⟨_, rfl, ?_⟩))
   go_ret
   exact ⟨zR, by repeat (first | exact Drawn0.refl _ | apply Drawn0.step)⟩
 ·replace c5 := Bool.eq_false_iff.mpr c5
  subst c5
  rw [if_neg (show ¬ (false = true) by decide)] at H
  by_cases c7 : t103 = true
  ·subst c7
   rw [if_pos rfl] at H
   obtain rfl := Option.some.inj H
   go_enter Try.func62, Try.ntmps62
   go_wp2_with (first | ((with_reducible refine gate_callee (f := 79) rfl ?_); refine goesL_ (some 10) rfl rfl Try.func79 (by kernel_rfl) rfl #[.int .i64 a1] rfl zP ?_; (with_reducible refine (cmp_isNaN_int.calls a1 true _ A4.out).mono ?_); rintro e w' ⟨rfl, ⟨nd, rfl⟩⟩; refine ⟨_, rfl, ?_⟩) | ((with_reducible refine gate_callee (f := 79) rfl ?_); refine goesL_ (some 8) rfl rfl Try.func79 (by kernel_rfl) rfl #[.int .i64 a0] rfl zP ?_; (with_reducible refine (cmp_isNaN_int.calls a0 false _ A3.out).mono ?_); rintro e w' ⟨rfl, ⟨nd, rfl⟩⟩; refine ⟨_, rfl, ?_⟩))
   go_ret
   exact ⟨zR, by repeat (first | exact Drawn0.refl _ | apply Drawn0.step)⟩
  ·replace c7 := Bool.eq_false_iff.mpr c7
   subst c7
   rw [if_neg (show ¬ (false = true) by decide)] at H
   by_cases c8 : a0 < a1
   ·rw [if_pos c8] at H
    have c8b0 : decide (a0 < a1) = true := decide_eq_true c8
    clear c8
    obtain rfl := Option.some.inj H
    go_enter Try.func62, Try.ntmps62
    go_wp2_with (first | ((with_reducible refine gate_callee (f := 79) rfl ?_); refine goesL_ (some 10) rfl rfl Try.func79 (by kernel_rfl) rfl #[.int .i64 a1] rfl zP ?_; (with_reducible refine (cmp_isNaN_int.calls a1 false _ A4.out).mono ?_); rintro e w' ⟨rfl, ⟨nd, rfl⟩⟩; refine ⟨_, rfl, ?_⟩) | ((with_reducible refine gate_callee (f := 79) rfl ?_); refine goesL_ (some 8) rfl rfl Try.func79 (by kernel_rfl) rfl #[.int .i64 a0] rfl zP ?_; (with_reducible refine (cmp_isNaN_int.calls a0 false _ A3.out).mono ?_); rintro e w' ⟨rfl, ⟨nd, rfl⟩⟩; refine ⟨_, rfl, ?_⟩))
    go_ret
    exact ⟨zR, by repeat (first | exact Drawn0.refl _ | apply Drawn0.step)⟩
   ·rw [if_neg c8] at H
    have c8b0 : decide (a0 < a1) = false := decide_eq_false c8
    clear c8
    by_cases c9 : a0 > a1
    ·rw [if_pos c9] at H
     have c9b0 : decide (a1 < a0) = true := decide_eq_true c9
     clear c9
     obtain rfl := Option.some.inj H
     go_enter Try.func62, Try.ntmps62
     go_wp2_with (first | ((with_reducible refine gate_callee (f := 79) rfl ?_); refine goesL_ (some 10) rfl rfl Try.func79 (by kernel_rfl) rfl #[.int .i64 a1] rfl zP ?_; (with_reducible refine (cmp_isNaN_int.calls a1 false _ A4.out).mono ?_); rintro e w' ⟨rfl, ⟨nd, rfl⟩⟩; refine ⟨_, rfl, ?_⟩) | ((with_reducible refine gate_callee (f := 79) rfl ?_); refine goesL_ (some 8) rfl rfl Try.func79 (by kernel_rfl) rfl #[.int .i64 a0] rfl zP ?_; (with_reducible refine (cmp_isNaN_int.calls a0 false _ A3.out).mono ?_); rintro e w' ⟨rfl, ⟨nd, rfl⟩⟩; refine ⟨_, rfl, ?_⟩))
     go_ret
     exact ⟨zR, by repeat (first | exact Drawn0.refl _ | apply Drawn0.step)⟩
    ·rw [if_neg c9] at H
     have c9b0 : decide (a1 < a0) = false := decide_eq_false c9
     clear c9
     obtain rfl := Option.some.inj H
     go_enter Try.func62, Try.ntmps62
     go_wp2_with (first | ((with_reducible refine gate_callee (f := 79) rfl ?_); refine goesL_ (some 10) rfl rfl Try.func79 (by kernel_rfl) rfl #[.int .i64 a1] rfl zP ?_; (with_reducible refine (cmp_isNaN_int.calls a1 false _ A4.out).mono ?_); rintro e w' ⟨rfl, ⟨nd, rfl⟩⟩; refine ⟨_, rfl, ?_⟩) | ((with_reducible refine gate_callee (f := 79) rfl ?_); refine goesL_ (some 8) rfl rfl Try.func79 (by kernel_rfl) rfl #[.int .i64 a0] rfl zP ?_; (with_reducible refine (cmp_isNaN_int.calls a0 false _ A3.out).mono ?_); rintro e w' ⟨rfl, ⟨nd, rfl⟩⟩; refine ⟨_, rfl, ?_⟩))
     go_ret
     exact ⟨zR, by repeat (first | exact Drawn0.refl _ | apply Drawn0.step)⟩
/-! ### e_rounder_told_1_1: function 72 -/
def e_rounder_told_1_1.f (k : Nat) (a0_0 : Int) (a0_1 : Int) (a0_2 : ByteArray) (a0_3 : Int) (a1_0 : Int) (a1_1 : Int) (a1_2 : ByteArray) (a1_3 : Int) : Option (Int) := (cmp_Compare_int.f a0_0 a1_0).bind fun t106 => ((cmp_Compare_int.f a0_1 a1_1).bind fun t107 => ((cmp_Or_int.f k (([t106, t107] : List Int))).bind fun t111 => (some t111)))
def e_rounder_told_1_1.T1 : Bool × List (List Nat × List Nat) := (true, [([], []), ([0], [0]), ([], []), ([2], [2]), ([1, 3], [1, 3]), ([], []), ([5], [5]), ([], []), ([7], [7]), ([6, 8, 4], [6, 8]), ([4, 9], [4, 9]), ([10, 9], [10]), ([11, 11, 0, 1, 2, 3, 4, 5, 6, 7, 8, 9, 10, 11], [11])])
def e_rounder_told_1_1.B1 : List Nat := [0, 1, 0, 4, 15, 0, 32, 0, 128, 511, 1023, 2047, 4095]
theorem e_rounder_told_1_1.tab1 : rtab .any (opsOf Try.f72 1) = e_rounder_told_1_1.T1 := by kernel_rfl
theorem e_rounder_told_1_1.bits1 : waitsOk e_rounder_told_1_1.T1.2 e_rounder_told_1_1.B1 = true := by kernel_rfl
set_option maxHeartbeats 8000000 in
set_option maxRecDepth 100000 in
theorem e_rounder_told_1_1.calls (k : Nat) (a0_0 : Int) (a0_1 : Int) (a0_2 : ByteArray) (a0_3 : Int) (a1_0 : Int) (a1_1 : Int) (a1_2 : ByteArray) (a1_3 : Int) (r : Int) (w : World) (h : e_rounder_told_1_1.f k a0_0 a0_1 a0_2 a0_3 a1_0 a1_1 a1_2 a1_3 = some r) :
  Calls Try.prog 72 #[.agg #[.int .i64 a0_0, .int .i64 a0_1, .string a0_2, .int .i64 a0_3], .agg #[.int .i64 a1_0, .int .i64 a1_1, .string a1_2, .int .i64 a1_3]] w fun e w' => e = .returned (.int .i64 r) ∧ Below w.heap.size w w' := by
 have hu41 := Try.underlying41
 have HB := zm (Below.refl w.heap.size w)
 have H : ((cmp_Compare_int.f a0_0 a1_0).bind fun t106 => ((cmp_Compare_int.f a0_1 a1_1).bind fun t107 => ((cmp_Or_int.f k (([t106, t107] : List Int))).bind fun t111 => (some t111)))) = some r := h
 clear h
 obtain ⟨t106, A3, H⟩ := zO H
 obtain ⟨t107, A4, H⟩ := zO H
 obtain ⟨y108, hy108⟩ : ∃ y_ : List Int, y_ = (([t106, t107] : List Int)) := ⟨_, rfl⟩
 replace H : ((cmp_Or_int.f k y108).bind fun t111 => (some t111)) = some r := by first | (rw [hy108]; with_reducible exact H) | (have H2_ := (Option.bind_some _ _).symm.trans H; rw [hy108]; with_reducible exact H2_) | (have H2_ := (Option.bind_some _ _).symm.trans H; with_reducible exact H2_) | with_reducible exact H | (rw [hy108]; exact H) | exact H
 have Ny108 := zm hy108
 clear hy108
 obtain ⟨t111, A5, H⟩ := zO H
 obtain rfl := Option.some.inj H
 go_enter Try.func72, Try.ntmps72
 try go_wp2_with (first | ((with_reducible refine gate_dst (N := 2) rfl ?_); refine zX (N := 2) (cs := #[.int .i64 a0_0, .int .i64 a0_1, .string a0_2, .int .i64 a0_3]) (t := 41) (h := ?_); intro gb104 hg w6 hbox hb; have BK104 := zm hbox; have GW104 := zm ((by rw [hg]; exact (below_size zB) : w.heap.size ≤ gb104)); have GE104 := zm ((by rw [hg]; exact (below_size zB) : w.heap.size ≤ gb104)); replace HB := zm (below_step zB hb); clear hb hbox hg) | ((with_reducible refine gate_dst (N := 3) rfl ?_); refine zX (N := 3) (cs := #[.int .i64 a1_0, .int .i64 a1_1, .string a1_2, .int .i64 a1_3]) (t := 41) (h := ?_); intro gb105 hg w7 hbox hb; have BK105 := zm hbox; have GW105 := zm ((by rw [hg]; exact (below_size zG) : w.heap.size ≤ gb105)); have GE105 := zm ((by rw [hg]; exact (below_size zG) : w.heap.size ≤ gb105)); have NB104_105 := zm ((by rw [hg]; exact Nat.ne_of_lt (blk_lt (g := gb104) (o := .cells #[.int .i64 a0_0, .int .i64 a0_1, .string a0_2, .int .i64 a0_3] 41 (0, 0)) zK) : gb104 ≠ gb105)); have NB105_104 := zm ((by rw [hg]; exact Nat.ne_of_gt (blk_lt (g := gb104) (o := .cells #[.int .i64 a0_0, .int .i64 a0_1, .string a0_2, .int .i64 a0_3] 41 (0, 0)) zK) : gb105 ≠ gb104)); replace BK104 := zm (blk_below (g := gb104) (o := .cells #[.int .i64 a0_0, .int .i64 a0_1, .string a0_2, .int .i64 a0_3] 41 (0, 0)) zK hb); replace HB := zm (below_step zG hb); clear hb hbox hg))
 have n0_ := zm (blk_drew BK104.out)
 have n1_ := zm (blk_drew BK105.out)
 have n2_ := zm (below_drew1 HB.out)
 clear BK104
 clear BK105
 clear HB
 have BK104 := n0_
 have BK105 := n1_
 have HB := n2_
 clear n0_ n1_ n2_
 refine start_ (n := 13) (S := fun w' => w'.cell? ⟨gb104, 0, none⟩ = some (.int .i64 a0_0) ∧ w'.cell? ⟨gb104, 1, none⟩ = some (.int .i64 a0_1) ∧ w'.cell? ⟨gb104, 2, none⟩ = some (.string a0_2) ∧ w'.cell? ⟨gb104, 3, none⟩ = some (.int .i64 a0_3) ∧ w'.cell? ⟨gb105, 0, none⟩ = some (.int .i64 a1_0) ∧ w'.cell? ⟨gb105, 1, none⟩ = some (.int .i64 a1_1) ∧ w'.cell? ⟨gb105, 2, none⟩ = some (.string a1_2) ∧ w'.cell? ⟨gb105, 3, none⟩ = some (.int .i64 a1_3)) (ds := []) #[false, false, false, false, false, false, false, false, false, false, false, false, false] (by kernel_rfl) rfl rfl ⟨zj BK104.out 0, zj BK104.out 1, zj BK104.out 2, zj BK104.out 3, zj BK105.out 0, zj BK105.out 1, zj BK105.out 2, zj BK105.out 3⟩ (fun hHeld => ?_); refine with_tabW e_rounder_told_1_1.tab1 e_rounder_told_1_1.bits1 (fun HT_ HW_ => ?_)
 generalize w7.drew = w8 at BK104 BK105 HB hHeld ⊢
 refine zp 0 5 (hy := by
   intro w'
   go_simp
   with_reducible rfl) (h := ?_)
 refine zp 2 7 (hy := by
   intro w'
   go_simp
   with_reducible rfl) (h := ?_)
 refine zp 5 10 (hy := by
   intro w'
   go_simp
   with_reducible rfl) (h := ?_)
 refine zp 7 12 (hy := by
   intro w'
   go_simp
   with_reducible rfl) (h := ?_)
 refine zt 1 6 (hy := by
   rintro w' ⟨s0, s1, s2, s3, s4, s5, s6, s7⟩
   go_simp
   with_reducible rfl) (h := ?_)
 refine zt 3 8 (hy := by
   rintro w' ⟨s0, s1, s2, s3, s4, s5, s6, s7⟩
   go_simp
   with_reducible rfl) (h := ?_)
 refine zt 6 11 (hy := by
   rintro w' ⟨s0, s1, s2, s3, s4, s5, s6, s7⟩
   go_simp
   with_reducible rfl) (h := ?_)
 refine zt 8 13 (hy := by
   rintro w' ⟨s0, s1, s2, s3, s4, s5, s6, s7⟩
   go_simp
   with_reducible rfl) (h := ?_)
 refine zo 4 9 (h := fun K hK => ?_)
 refine goes_ Try.func62 (by kernel_rfl) rfl #[.int .i64 a0_0, .int .i64 a1_0] (by rfl) rfl rfl zP ?_
 with_reducible refine (cmp_Compare_int.calls a0_0 a1_0 t106 _ A3.out).mono ?_
 rintro e w' ⟨rfl, ⟨nd, rfl⟩⟩
 refine ⟨_, rfl, ?_⟩
 refine hK.out _ _ ⟨zj BK104.out 0, zj BK104.out 1, zj BK104.out 2, zj BK104.out 3, zj BK105.out 0, zj BK105.out 1, zj BK105.out 2, zj BK105.out 3⟩ (fun hHeld => ?_)
 clear hK K
 refine zn (h := ?_)
 refine zo 9 14 (h := fun K hK => ?_)
 refine goes_ Try.func62 (by kernel_rfl) rfl #[.int .i64 a0_1, .int .i64 a1_1] (by rfl) rfl rfl zP ?_
 with_reducible refine (cmp_Compare_int.calls a0_1 a1_1 t107 _ A4.out).mono ?_
 rintro e w' ⟨rfl, ⟨nd, rfl⟩⟩
 refine ⟨_, rfl, ?_⟩
 refine hK.out _ _ ⟨zj BK104.out 0, zj BK104.out 1, zj BK104.out 2, zj BK104.out 3, zj BK105.out 0, zj BK105.out 1, zj BK105.out 2, zj BK105.out 3⟩ (fun hHeld => ?_)
 clear hK K
 refine zn (h := ?_)
 refine zo 10 15 (h := fun K hK => ?_)
 refine Kd.R_lit_step (Kd.int .i64) _ 3 ?hg (N := 15) ?hd (xs := ([t106, t107] : List Int)) (inner := [.int .i64 t106, .int .i64 t107]) (ok := fun _ => True) (okp := fun _ => True) ?hr ?hp (fun _ hk => hk) trivial (Below.refl _ _) (Nat.le_refl _) (by simp) ?_; (case hd => rfl); (case hg => rfl); (case hr => first | (go_simp; done) | (go_simp; rfl)); (case hp => exact (Reps.one (show Kd.M (Kd.int .i64) _ _ _ t106 [.int .i64 t106] from rfl) (Reps.one (show Kd.M (Kd.int .i64) _ _ _ t107 [.int .i64 t107] from rfl) (Reps.none _ _))))
 intro v109 w9 ho10 hb hg_ hnew_
 clear hg_ hnew_
 (first | rw [← Ny108.out] at ho10 | (simp only [Int.reduceToNat] at ho10; rw [← Ny108.out] at ho10))
 have n0_ := zm (Kd.R_lower ho10 (below_size zG))
 have n1_ := zm (blk_below (g := gb104) (o := .cells #[.int .i64 a0_0, .int .i64 a0_1, .string a0_2, .int .i64 a0_3] 41 (0, 0)) zK hb)
 have n2_ := zm (blk_below (g := gb105) (o := .cells #[.int .i64 a1_0, .int .i64 a1_1, .string a1_2, .int .i64 a1_3] 41 (0, 0)) zK hb)
 have n3_ := zm (below_step zG hb)
 clear BK104
 clear BK105
 clear HB
 have HO110 := n0_
 have BK104 := n1_
 have BK105 := n2_
 have HB := n3_
 clear n0_ n1_ n2_ n3_
 clear hb ho10
 obtain ⟨Ao11, co11, eo11⟩ := Kd.R_slice HO110.out
 (first | subst eo11 | (injection eo11 with f1_ f2_ f3_; have f4_ := f1_.symm; have f5_ := f3_.symm; clear f1_ f2_ f3_; subst f4_; subst f5_))
 refine hK.out _ _ ⟨zj BK104.out 0, zj BK104.out 1, zj BK104.out 2, zj BK104.out 3, zj BK105.out 0, zj BK105.out 1, zj BK105.out 2, zj BK105.out 3⟩ (fun hHeld => ?_)
 clear hK K
 refine zn (h := ?_)
 refine zo 11 16 (h := fun K hK => ?_)
 refine goes_ Try.func61 (by kernel_rfl) rfl #[.slice Ao11 y108.length co11] (by rfl) rfl rfl zP ?_
 with_reducible refine (cmp_Or_int.calls k _ _ y108 t111 _ ?side1 ?side2 A5.out).mono ?_
 (case side1 => exact zC ((Kd.R_reads' HO110.out).2.2))
 (case side2 => exact (Kd.R_reads' HO110.out).2.1)
 rintro e w' ⟨rfl, ⟨nd, rfl⟩⟩
 refine ⟨_, rfl, ?_⟩
 refine hK.out _ _ ⟨zj BK104.out 0, zj BK104.out 1, zj BK104.out 2, zj BK104.out 3, zj BK105.out 0, zj BK105.out 1, zj BK105.out 2, zj BK105.out 3⟩ (fun hHeld => ?_)
 clear hK K
 refine zn (h := ?_)
 refine zp 12 4 (hy := by
   intro w'
   go_simp
   with_reducible rfl) (h := ?_)
 refine done_ (done_of HT_.out (by kernel_rfl)) ?_
 try go_wp2
 go_ret
 exact ⟨zE, zG⟩
end Go.Proofs.Ytngppcmdaanheaa.Pz
namespace Go.Proofs.Ytngppcmdaanheaa.Ls
open Go.RowKit Go.Maps Go.Proofs.Ytngppcmdaanheaa.Iter Go.Proofs.Ytngppcmdaanheaa.ISet Go.Proofs.Ytngppcmdaanheaa.Pr Go.Proofs.Ytngppcmdaanheaa.Ext Go.Proofs.YtngppcmdaanheaaW.PrintWords Go.Proofs.YtngppcmdaanheaaW.PrintLast Go.Proofs.YtngppcmdaanheaaW.PrintMore
set_option linter.unusedVariables false
set_option linter.unusedSimpArgs false
theorem goesV_ {P : Program} {ops : Array Oper} {Q : Exit → Act → World → Prop} {oi : Oper} {N : Option Tmp} {a : Act} {w : World} {K : Act → World → Prop} {g : Operand} {n : FuncId} {cap : Array Value} {xs : Array Operand} {ts : Array TypeId}
  (hg : a.eval g = .func (.func n) #[] cap) (he : ∀ args w, (callFunc n args).run P w = .ok (.enter n args) w) (args : Array Value)
  (hw : Region.wanted oi (yielded ops a.tmps) = true) (hN : oi.dst = N) (hop : oi.op = .call { callee := .value g, args := xs, argTypes := ts }) (hargs : xs.map a.eval = args)
  (h : Calls P n (args ++ cap) w fun e w' => ∃ v, e = .returned v ∧ K (a.put N v) w') : if Region.wanted oi (yielded ops a.tmps) = true then Oper.wp P oi a w K Q else K (a.put N undef) w := by
 refine call_ n (args ++ cap) hw hN ?_ h
 have he' := he (args ++ cap) w
 unfold execOp
 simp [hop, resolve, Deferred.ofValue, invoke, hg, hargs, he']
def bsT5 : Bool × List (List Nat × List Nat) := (true, [([], []), ([], []), ([], []), ([1, 2], [1, 2]), ([3], [3]), ([], []), ([0, 4, 5], [0, 4, 5]), ([6], [6])])
def bsB5 : List Nat := [0, 0, 0, 6, 14, 0, 63, 127]
theorem bstab5 : rtab .any (opsOf Try.f71 5) = bsT5 := by kernel_rfl
theorem bsbits5 : waitsOk bsT5.2 bsB5 = true := by kernel_rfl
def bsT8 : Bool × List (List Nat × List Nat) := (true, [([], []), ([], []), ([], []), ([1, 2], [1, 2]), ([3], [3]), ([4], [4]), ([4], [4]), ([4], [4]), ([6, 7, 4], [4, 6, 7]), ([8, 4], [4, 8]), ([4], [4]), ([5, 9, 10, 4, 4], [4, 5, 9, 10]), ([11, 4], [4, 11]), ([4, 12], [4, 12]), ([0, 11, 0], [0]), ([13, 14, 0, 1, 2, 3, 4, 5, 6, 7, 8, 9, 10, 11, 12, 13, 14], [13])])
def bsB8 : List Nat := [0, 0, 0, 6, 14, 30, 30, 30, 222, 478, 30, 2046, 4094, 8190, 4095, 32767]
theorem bstab8 : rtab .any (opsOf Try.f71 8) = bsT8 := by kernel_rfl
theorem bsbits8 : waitsOk bsT8.2 bsB8 = true := by kernel_rfl
def cmpT (f t : Fa) : Int := if cm f.f0 t.f0 ≠ 0 then cm f.f0 t.f0 else cm f.f1 t.f1
theorem told11_f (x t : Fa) : Pz.e_rounder_told_1_1.f 9 x.f0 x.f1 x.f2 x.f3 t.f0 t.f1 t.f2 t.f3 = some (cmpT x t) := by
 have hc : ∀ a b, Pz.cmp_Compare_int.f a b = some (cm a b) := compare_f
 have ho : ∀ a b, Pz.cmp_Or_int.f 9 [a, b] = some (if a ≠ 0 then a else b) := fun a b => by
  have e0 : Go.Proofs.YtngppcmdaanheaaW.PrintWords.rd [a, b] 0 = a := rfl
  have e1 : Go.Proofs.YtngppcmdaanheaaW.PrintWords.rd [a, b] 1 = b := rfl
  by_cases ha : a = 0 <;> by_cases hb : b = 0 <;> simp [Pz.cmp_Or_int.f, Pz.cmp_Or_int.l0, e0, e1, ha, hb, wrap64] <;> simp_all
 unfold Pz.e_rounder_told_1_1.f cmpT
 simp only [hc, Option.bind_some, ho]
theorem factC {w : World} {A : Option Addr} {xs : List Fa} (h : Kd.C k41 w A xs.length xs) (i : Nat) (hi : i < xs.length) : ∃ ad, A = some ad ∧ ∀ W, Below w.heap.size w W → W.cell? (ad.add (i * 4)) = some (.int .i64 xs[i].f0) ∧ W.cell? ⟨(ad.add (i * 4)).block, (ad.add (i * 4)).off + 1, none⟩ = some (.int .i64 xs[i].f1) ∧ W.cell? ⟨(ad.add (i * 4)).block, (ad.add (i * 4)).off + 2, none⟩ = some (.string xs[i].f2) ∧ W.cell? ⟨(ad.add (i * 4)).block, (ad.add (i * 4)).off + 3, none⟩ = some (.int .i64 xs[i].f3) := by
 obtain ⟨ad, rfl, h0, h1, h2, h3⟩ := at_T41 h (i : Int) (by omega) (by omega)
 have e : rd_T41 xs (i : Int) = xs[i] := by unfold rd_T41; rw [Int.toNat_natCast, List.getD_eq_getElem?_getD, List.getElem?_eq_getElem hi]; rfl
 rw [Int.toNat_natCast] at h0 h1 h2 h3
 rw [e] at h0 h1 h2 h3
 have key : ∀ {a : Addr} {v : Value} {W : World}, Below w.heap.size w W → w.cell? a = some v → W.cell? a = some v := fun hb hc => (hb.cell (World.block_lt_of_cell? w _ hc)).trans hc
 exact ⟨ad, rfl, fun W hb => ⟨key hb h0, key hb h1, key hb h2, key hb h3⟩⟩
def BsPost (xs : List Fa) (t : Fa) (w : World) (e : Ending) (w' : World) : Prop :=
 (∃ (i : Nat) (b : Bool), e = .returned (.tuple #[.int .i64 i, .bool b]) ∧ i ≤ xs.length ∧ (∀ q (h : q < xs.length), q < i → cmpT xs[q] t < 0) ∧ ∀ q (h : q < xs.length), i ≤ q → ¬ cmpT xs[q] t < 0) ∧ Below w.heap.size w w'
set_option maxRecDepth 100000 in
set_option maxHeartbeats 4000000 in
theorem bsearch_calls (A : Option Addr) (c : Nat) (xs : List Fa) (t : Fa) (w : World) (hC : Kd.C k41 w A xs.length xs) (hl : xs.length ≤ 1000000000) (hs : ∀ i j (hi : i < xs.length) (hj : j < xs.length), i ≤ j → cmpT xs[j] t < 0 → cmpT xs[i] t < 0) :
  Calls Try.prog 71 #[.slice A xs.length c, aggF t, .func (.func 72) #[] #[]] w (BsPost xs t w) := by
 have HC := zm hC
 have HS := zm hs
 clear hC hs
 obtain ⟨t0, t1, t2, t3⟩ := t
 dsimp only [aggF]
 go_enter Try.func71, Try.ntmps71
 go_wp2
 obtain ⟨W0, hW0⟩ : ∃ W0, w.alloc (.cells #[.int .i64 t0, .int .i64 t1, .string t2, .int .i64 t3] 41) = W0 := ⟨_, rfl⟩
 have HB0 := zm (show Below w.heap.size w W0 by rw [← hW0]; exact below_alloc (Below.refl _ _) _)
 have HT0 := zm (show W0.heap[w.heap.size]? = some (.cells #[.int .i64 t0, .int .i64 t1, .string t2, .int .i64 t3] 41 (0, 0)) by rw [← hW0]; exact heap_alloc_new _ _)
 rw [hW0]
 clear hW0
 have HTT := zm (show ∀ W, Below W0.heap.size W0 W → W.cell? ⟨w.heap.size, 0, none⟩ = some (.int .i64 t0) ∧ W.cell? ⟨w.heap.size, 1, none⟩ = some (.int .i64 t1) ∧ W.cell? ⟨w.heap.size, 2, none⟩ = some (.string t2) ∧ W.cell? ⟨w.heap.size, 3, none⟩ = some (.int .i64 t3) from fun W hb => by
  have h := (hb.block _ (Array.getElem?_eq_some_iff.1 HT0.out).1).trans HT0.out
  refine ⟨?_, ?_, ?_, ?_⟩ <;> simp [World.cell?, h])
 go_loopg [9, 10] xs.length (fun kq v9 v10 W => ∃ i j : Nat, v9 = .int .i64 i ∧ v10 = .int .i64 j ∧ i + kq = j ∧ j ≤ xs.length ∧ (∀ q (h : q < xs.length), q < i → cmpT xs[q] ⟨t0, t1, t2, t3⟩ < 0) ∧ (∀ q (h : q < xs.length), j ≤ q → ¬ cmpT xs[q] ⟨t0, t1, t2, t3⟩ < 0) ∧ Below W0.heap.size W0 W)
 case atStart => exact ⟨0, xs.length, rfl, rfl, by omega, Nat.le_refl _, fun q h hq => by omega, fun q h hq => by omega, Below.refl _ _⟩
 case round =>
  obtain ⟨i, j, rfl, rfl, hij, hjl, h1, h2, hb⟩ := hrel
  have H1 := zm h1
  have H2 := zm h2
  have HB := zm hb
  clear h1 h2 hb
  by_cases hlt : i < j
  ·go_wp2
   have hm : ((i : Int) + (j : Int)) / 2 = (((i + j) / 2 : Nat) : Int) := by omega
   rw [hm]
   clear hm
   obtain ⟨m, em⟩ : ∃ m, m = (i + j) / 2 := ⟨_, rfl⟩
   rw [← em]
   have hml : m < xs.length := by omega
   have him : i ≤ m := by omega
   have hmj : m < j := by omega
   clear em
   have HWR := zm (show Below w.heap.size w wr from HB0.out.trans (HB.out.mono HB0.out.size))
   obtain ⟨ad, rfl, hX⟩ := factC HC.out m hml
   obtain ⟨x, hx⟩ : ∃ x, x = xs[m] := ⟨_, rfl⟩
   rw [← hx] at hX
   have HXM := zm hx
   clear hx
   obtain ⟨x0, x1, x2, x3⟩ := x
   obtain ⟨Wd, hWd⟩ : ∃ Wd, wr.drew = Wd := ⟨_, rfl⟩
   have HBD := zm (show Below wr.heap.size wr Wd from by rw [← hWd]; exact below_drew (Below.refl _ _))
   have FX := zm (fun W (hb : Below Wd.heap.size Wd W) => hX W (HWR.out.trans ((HBD.out.trans (hb.mono HBD.out.size)).mono HWR.out.size)))
   have FT := zm (fun W (hb : Below Wd.heap.size Wd W) => HTT.out W (HB.out.trans ((HBD.out.trans (hb.mono HBD.out.size)).mono HB.out.size)))
   dsimp only at FX
   clear hX
   by_cases hp : cmpT ⟨x0, x1, x2, x3⟩ ⟨t0, t1, t2, t3⟩ < 0
   ·skip
    refine start_ (n := 8) (S := fun W' => Below Wd.heap.size Wd W') (ds := []) #[false, false, false, false, false, false, false, false] (by kernel_rfl) rfl rfl (by rw [hWd]; exact Below.refl _ _) (fun hHeld => ?_)
    rw [hWd] at hHeld ⊢
    refine with_tabW bstab5 bsbits5 (fun HT_ HW_ => ?_)
    refine zp 0 24 (h := ?_)
    refine zp 1 25 (h := ?_)
    refine zp 2 26 (h := ?_)
    refine zp 3 27 (h := ?_)
    refine zt 4 28 (hy := by
      intro w' hw'
      obtain ⟨f0, f1, f2, f3⟩ := FX.out w' hw'
      first | (go_simp; with_reducible rfl)) (h := ?_)
    refine zt 5 29 (hy := by
      intro w' hw'
      obtain ⟨g0, g1, g2, g3⟩ := FT.out w' hw'
      first | (go_simp; with_reducible rfl)) (h := ?_)
    refine zo 6 30 (h := fun K hK => ?_)
    refine goesV_ (g := .tmp 24) rfl (enters_of Try.func72 (by kernel_rfl) rfl) #[.agg #[.int .i64 x0, .int .i64 x1, .string x2, .int .i64 x3], .agg #[.int .i64 t0, .int .i64 t1, .string t2, .int .i64 t3]] (by rfl) rfl rfl (by (try simp only [List.map_toArray, List.map_cons, List.map_nil]); first | done | rfl) ?_
    refine (Pz.e_rounder_told_1_1.calls 9 x0 x1 x2 x3 t0 t1 t2 t3 _ _ (told11_f ⟨x0, x1, x2, x3⟩ ⟨t0, t1, t2, t3⟩)).mono ?_
    rintro e w3 ⟨rfl, hb3⟩
    refine ⟨_, rfl, ?_⟩
    have HB3 := zm hb3
    clear hb3
    refine hK.out _ _ HB3.out (fun hHeld => ?_)
    clear hK K
    refine zn (h := ?_)
    refine zp 7 31 (h := ?_)
    refine done_ (done_of HT_.out (by kernel_rfl)) ?_
    have hlz : decide (cmpT ⟨x0, x1, x2, x3⟩ ⟨t0, t1, t2, t3⟩ < 0) = true := decide_eq_true hp
    have HBF := zm (HB.out.trans ((HBD.out.trans (HB3.out.mono HBD.out.size)).mono HB.out.size))
    have HN1 := zm (show ∀ q (h : q < xs.length), q < m + 1 → cmpT xs[q] ⟨t0, t1, t2, t3⟩ < 0 from fun q h hq => HS.out q m h hml (by omega) (by rw [← HXM.out]; exact hp))
    go_wp2
    go_roundg (j - (m + 1))
    case measure => omega
    case rel => exact ⟨m + 1, j, by go_num, rfl, by omega, by omega, HN1.out, H2.out, HBF.out⟩
   ·skip
    refine start_ (n := 8) (S := fun W' => Below Wd.heap.size Wd W') (ds := []) #[false, false, false, false, false, false, false, false] (by kernel_rfl) rfl rfl (by rw [hWd]; exact Below.refl _ _) (fun hHeld => ?_)
    rw [hWd] at hHeld ⊢
    refine with_tabW bstab5 bsbits5 (fun HT_ HW_ => ?_)
    refine zp 0 24 (h := ?_)
    refine zp 1 25 (h := ?_)
    refine zp 2 26 (h := ?_)
    refine zp 3 27 (h := ?_)
    refine zt 4 28 (hy := by
      intro w' hw'
      obtain ⟨f0, f1, f2, f3⟩ := FX.out w' hw'
      first | (go_simp; with_reducible rfl)) (h := ?_)
    refine zt 5 29 (hy := by
      intro w' hw'
      obtain ⟨g0, g1, g2, g3⟩ := FT.out w' hw'
      first | (go_simp; with_reducible rfl)) (h := ?_)
    refine zo 6 30 (h := fun K hK => ?_)
    refine goesV_ (g := .tmp 24) rfl (enters_of Try.func72 (by kernel_rfl) rfl) #[.agg #[.int .i64 x0, .int .i64 x1, .string x2, .int .i64 x3], .agg #[.int .i64 t0, .int .i64 t1, .string t2, .int .i64 t3]] (by rfl) rfl rfl (by (try simp only [List.map_toArray, List.map_cons, List.map_nil]); first | done | rfl) ?_
    refine (Pz.e_rounder_told_1_1.calls 9 x0 x1 x2 x3 t0 t1 t2 t3 _ _ (told11_f ⟨x0, x1, x2, x3⟩ ⟨t0, t1, t2, t3⟩)).mono ?_
    rintro e w3 ⟨rfl, hb3⟩
    refine ⟨_, rfl, ?_⟩
    have HB3 := zm hb3
    clear hb3
    refine hK.out _ _ HB3.out (fun hHeld => ?_)
    clear hK K
    refine zn (h := ?_)
    refine zp 7 31 (h := ?_)
    refine done_ (done_of HT_.out (by kernel_rfl)) ?_
    have hlz : decide (cmpT ⟨x0, x1, x2, x3⟩ ⟨t0, t1, t2, t3⟩ < 0) = false := decide_eq_false hp
    have HBF := zm (HB.out.trans ((HBD.out.trans (HB3.out.mono HBD.out.size)).mono HB.out.size))
    have HN2 := zm (show ∀ q (h : q < xs.length), m ≤ q → ¬ cmpT xs[q] ⟨t0, t1, t2, t3⟩ < 0 from fun q h hq k => hp (by rw [HXM.out]; exact HS.out m q hml h hq k))
    go_wp2
    go_roundg (m - i)
    case measure => omega
    case rel => exact ⟨i, m, rfl, rfl, by omega, by omega, H1.out, HN2.out, HBF.out⟩
  ·obtain rfl : i = j := by omega
   go_wp2
   obtain ⟨Wd, hWd⟩ : ∃ Wd, wr.drew = Wd := ⟨_, rfl⟩
   have HBD := zm (show Below wr.heap.size wr Wd from by rw [← hWd]; exact below_drew (Below.refl _ _))
   have HWR := zm (show Below w.heap.size w wr from HB0.out.trans (HB.out.mono HB0.out.size))
   by_cases hin : i < xs.length
   ·obtain ⟨ad, rfl, hX⟩ := factC HC.out i hin
    obtain ⟨x, hx⟩ : ∃ x, x = xs[i] := ⟨_, rfl⟩
    rw [← hx] at hX
    clear hx
    obtain ⟨x0, x1, x2, x3⟩ := x
    have FX := zm (fun W (hb : Below Wd.heap.size Wd W) => hX W (HWR.out.trans ((HBD.out.trans (hb.mono HBD.out.size)).mono HWR.out.size)))
    have FT := zm (fun W (hb : Below Wd.heap.size Wd W) => HTT.out W (HB.out.trans ((HBD.out.trans (hb.mono HBD.out.size)).mono HB.out.size)))
    dsimp only at FX
    clear hX
    have hdl : decide ((i : Int) < (xs.length : Int)) = true := decide_eq_true (by omega)
    refine start_ (n := 16) (S := fun W' => Below Wd.heap.size Wd W') (ds := []) #[false, false, false, false, false, false, false, false, false, false, false, false, false, false, false, false] (by kernel_rfl) rfl rfl (by rw [hWd]; exact Below.refl _ _) (fun hHeld => ?_)
    rw [hWd] at hHeld ⊢
    refine with_tabW bstab8 bsbits8 (fun HT_ HW_ => ?_)
    refine zp 0 35 (h := ?_)
    refine zp 1 36 (h := ?_)
    refine zp 2 37 (h := ?_)
    refine zp 3 38 (h := ?_)
    refine zp 4 39 (h := ?_)
    refine zp 5 40 (h := ?_)
    refine zp 6 41 (h := ?_)
    refine zp 7 42 (h := ?_)
    refine zp 8 43 (h := ?_)
    refine zt 9 44 (hy := by
      intro w' hw'
      obtain ⟨f0, f1, f2, f3⟩ := FX.out w' hw'
      first | (go_simp; with_reducible rfl)) (h := ?_)
    refine zt 10 45 (hy := by
      intro w' hw'
      obtain ⟨g0, g1, g2, g3⟩ := FT.out w' hw'
      first | (go_simp; with_reducible rfl)) (h := ?_)
    refine zo 11 46 (h := fun K hK => ?_)
    refine goesV_ (g := .tmp 40) rfl (enters_of Try.func72 (by kernel_rfl) rfl) #[.agg #[.int .i64 x0, .int .i64 x1, .string x2, .int .i64 x3], .agg #[.int .i64 t0, .int .i64 t1, .string t2, .int .i64 t3]] (by rfl) rfl rfl (by (try simp only [List.map_toArray, List.map_cons, List.map_nil]); first | done | rfl) ?_
    refine (Pz.e_rounder_told_1_1.calls 9 x0 x1 x2 x3 t0 t1 t2 t3 _ _ (told11_f ⟨x0, x1, x2, x3⟩ ⟨t0, t1, t2, t3⟩)).mono ?_
    rintro e w3 ⟨rfl, hb3⟩
    refine ⟨_, rfl, ?_⟩
    have HB3 := zm hb3
    clear hb3
    refine hK.out _ _ HB3.out (fun hHeld => ?_)
    clear hK K
    refine zn (h := ?_)
    refine zp 12 47 (h := ?_)
    refine zp 13 48 (h := ?_)
    refine zp 14 6 (h := ?_)
    refine zp 15 7 (h := ?_)
    refine done_ (done_of HT_.out (by kernel_rfl)) ?_
    have HBF := zm (HWR.out.trans ((HBD.out.trans (HB3.out.mono HBD.out.size)).mono HWR.out.size))
    go_wp2
    go_ret2
    unfold BsPost
    exact ⟨⟨i, _, rfl, by omega, H1.out, fun q h hq => by have := H2.out q h hq; omega⟩, HBF.out⟩
   ·have hdl : decide ((i : Int) < (xs.length : Int)) = false := decide_eq_false (by omega)
    refine start_ (n := 16) (S := fun W' => Below Wd.heap.size Wd W') (ds := []) #[false, false, false, false, false, false, false, false, false, false, false, false, false, false, false, false] (by kernel_rfl) rfl rfl (by rw [hWd]; exact Below.refl _ _) (fun hHeld => ?_)
    rw [hWd] at hHeld ⊢
    refine with_tabW bstab8 bsbits8 (fun HT_ HW_ => ?_)
    refine zp 0 35 (h := ?_)
    refine zp 1 36 (h := ?_)
    refine zp 2 37 (h := ?_)
    refine zp 3 38 (h := ?_)
    refine zp 4 39 (h := ?_)
    refine zu 5 40 (h := ?_)
    refine zu 6 41 (h := ?_)
    refine zu 7 42 (h := ?_)
    refine zu 8 43 (h := ?_)
    refine zu 9 44 (h := ?_)
    refine zu 10 45 (h := ?_)
    refine zo 11 46 (h := fun K hK => ?_)
    rw [if_neg (fun h => by cases h)]
    refine hK.out _ _ hHeld (fun hHeld => ?_)
    clear hK K
    refine zn (h := ?_)
    refine zu 12 47 (h := ?_)
    refine zp 13 48 (h := ?_)
    refine zp 14 6 (h := ?_)
    refine zp 15 7 (h := ?_)
    refine done_ (done_of HT_.out (by kernel_rfl)) ?_
    have HBF := zm (HWR.out.trans (HBD.out.mono HWR.out.size))
    go_wp2
    go_ret2
    unfold BsPost
    exact ⟨⟨i, _, rfl, by omega, H1.out, fun q h hq => by have := H2.out q h hq; omega⟩, HBF.out⟩
end Go.Proofs.Ytngppcmdaanheaa.Ls
