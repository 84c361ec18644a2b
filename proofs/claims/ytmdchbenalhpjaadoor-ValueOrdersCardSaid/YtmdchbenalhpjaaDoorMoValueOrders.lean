/- The law ValueOrders: for every input it returns true, and each argument reads as it did. No condition but those of the given card or row. -/
import Derived.Test.YtmdchbenalhpjaaDoorRows
import Derived.Test.YtmdchbenalhpjaaDoorCards
import Derived.Test.YtmdchbenalhpjaaDoorTie
import Derived.WalkKit
import Derived.ProofKit
import Derived.OpenShut
import Derived.ShutString
import Derived.ChangeOld
import Derived.Below
import Derived.SizedLaws
import Derived.Stop.Joined
import Derived.SevenTiedAt
import Derived.Test.YtmdchbenalhpjaaDoorMo4
-- WRITTEN BY hprint.py (a patched scratch copy of print.py, see NOTES.md): out of the translation and of contracts proved by hand.
namespace Go.Proofs.YtmdchbenalhpjaaDoor.Pv
open Go.RowKit Go.Proofs.YtmdchbenalhpjaaDoor.Vb Go.Proofs.YtmdchbenalhpjaaDoorW.PrintWords Go.Proofs.YtmdchbenalhpjaaDoorW.PrintLast Go.Proofs.YtmdchbenalhpjaaDoorW.PrintMore
set_option linter.unusedVariables false
set_option linter.unusedSimpArgs false
/-! ### gumshoelaw06_ValueOrders: function 7 -/
mutual
def gumshoelaw06_ValueOrders.j0 : Nat → Bool → Bool → Int → Int → ByteArray → Int → Int → ByteArray → Option (Bool)
  | 0, _, _, _, _, _, _, _, _ => none
  | k + 1, x5, x22, x233000, x233001, x233002, x234000, x234001, x234002 => if x22 = true then (some x5) else ((value_Two.f (⟨#[60, 61]⟩ : ByteArray) x233000 x233001 x233002 x234000 x234001 x234002).bind fun bt237 => ((value_Two.f (⟨#[60, 61]⟩ : ByteArray) x234000 x234001 x234002 x233000 x233001 x233002).bind fun bt242 => ((value_Two.f (⟨#[60]⟩ : ByteArray) x233000 x233001 x233002 x234000 x234001 x234002).bind fun bt247 => ((value_Two.f (⟨#[60]⟩ : ByteArray) x234000 x234001 x234002 x233000 x233001 x233002).bind fun bt252 => (if bt237.2.2.2 = 0 then (if bt242.2.2.2 = 0 then (if bt247.2.2.2 = 0 then (gumshoelaw06_ValueOrders.j1 k x5 (bt252.2.2.2 != 0) bt237.1 bt237.2.1 bt237.2.2.1 bt242.1 bt242.2.1 bt242.2.2.1 bt247.1 bt247.2.1 bt247.2.2.1 bt252.1 bt252.2.1 bt252.2.2.1) else (gumshoelaw06_ValueOrders.j1 k x5 true bt237.1 bt237.2.1 bt237.2.2.1 bt242.1 bt242.2.1 bt242.2.2.1 bt247.1 bt247.2.1 bt247.2.2.1 bt252.1 bt252.2.1 bt252.2.2.1)) else (gumshoelaw06_ValueOrders.j1 k x5 true bt237.1 bt237.2.1 bt237.2.2.1 bt242.1 bt242.2.1 bt242.2.2.1 bt247.1 bt247.2.1 bt247.2.2.1 bt252.1 bt252.2.1 bt252.2.2.1)) else (gumshoelaw06_ValueOrders.j1 k x5 true bt237.1 bt237.2.1 bt237.2.2.1 bt242.1 bt242.2.1 bt242.2.2.1 bt247.1 bt247.2.1 bt247.2.2.1 bt252.1 bt252.2.1 bt252.2.2.1))))))
def gumshoelaw06_ValueOrders.j1 : Nat → Bool → Bool → Int → Int → ByteArray → Int → Int → ByteArray → Int → Int → ByteArray → Int → Int → ByteArray → Option (Bool)
  | 0, _, _, _, _, _, _, _, _, _, _, _, _, _, _ => none
  | k + 1, x5, x61, x242000, x242001, x242002, x247000, x247001, x247002, x252000, x252001, x252002, x257000, x257001, x257002 => if x61 = true then (some false) else (if x5 = true then ((value_Truthy.f x242000 x242001 x242002).bind fun t257 => (if t257 = true then ((value_Truthy.f x252000 x252001 x252002).bind fun t258 => ((value_Truthy.f x247000 x247001 x247002).bind fun t259 => (if (t258 == (!t259)) = true then ((value_Truthy.f x257000 x257001 x257002).bind fun t260 => ((value_Truthy.f x242000 x242001 x242002).bind fun t261 => (gumshoelaw06_ValueOrders.j2 k (t260 == (!t261))))) else (none)))) else ((value_Truthy.f x247000 x247001 x247002).bind fun t262 => (if t262 = true then ((value_Truthy.f x252000 x252001 x252002).bind fun t263 => ((value_Truthy.f x247000 x247001 x247002).bind fun t264 => (if (t263 == (!t264)) = true then ((value_Truthy.f x257000 x257001 x257002).bind fun t265 => ((value_Truthy.f x242000 x242001 x242002).bind fun t266 => (gumshoelaw06_ValueOrders.j2 k (t265 == (!t266))))) else (none)))) else (none))))) else (none))
def gumshoelaw06_ValueOrders.j2 : Nat → Bool → Option (Bool)
  | 0, _ => none
  | k + 1, x4 => some x4
end
def gumshoelaw06_ValueOrders.f (k : Nat) (a0_0 : Int) (a0_1 : Int) (a0_2 : ByteArray) (a1_0 : Int) (a1_1 : Int) (a1_2 : ByteArray) : Option (Bool) := (gumshoelaw06_shown.f).bind fun t234 => ((value_Right.f a0_0 a0_1 a0_2).bind fun t235 => (if t235 = true then ((value_Right.f a1_0 a1_1 a1_2).bind fun t236 => (gumshoelaw06_ValueOrders.j0 k t234 (!t236) a0_0 a0_1 a0_2 a1_0 a1_1 a1_2)) else (gumshoelaw06_ValueOrders.j0 k t234 true a0_0 a0_1 a0_2 a1_0 a1_1 a1_2)))
def gumshoelaw06_ValueOrders.T10 : Bool × List (List Nat × List Nat) := (true, [([], []), ([0], [0]), ([1], [1]), ([2, 1, 1], [1, 2]), ([3, 3, 1], [1, 3]), ([4], [4]), ([5, 4, 4], [4, 5]), ([4, 6, 1], [1, 4, 6]), ([1, 7], [1, 7]), ([8, 6], [8]), ([9], [9]), ([10, 9, 9], [9, 10]), ([9], [9]), ([12, 11, 9], [9, 12]), ([13, 9], [9, 13]), ([11, 14, 9], [9, 11, 14]), ([9, 15], [9, 15]), ([16, 13], [16]), ([17], [17]), ([18, 17, 17], [17, 18]), ([17], [17]), ([20, 19, 17], [17, 20]), ([21, 17], [17, 21]), ([19, 22, 17], [17, 19, 22]), ([17, 23], [17, 23]), ([24, 21, 0, 1, 2, 3, 4, 5, 6, 7, 8, 9, 10, 11, 12, 13, 14, 15, 16, 17, 18, 19, 20, 21, 22, 23, 24], [24])])
def gumshoelaw06_ValueOrders.B10 : List Nat := [0, 1, 3, 7, 15, 31, 63, 127, 255, 511, 1023, 2047, 1023, 8191, 16383, 32767, 65535, 131071, 262143, 524287, 262143, 2097151, 4194303, 8388607, 16777215, 33554431]
theorem gumshoelaw06_ValueOrders.tab10 : rtab .any (opsOf Tryd.f7 10) = gumshoelaw06_ValueOrders.T10 := by kernel_rfl
theorem gumshoelaw06_ValueOrders.bits10 : waitsOk gumshoelaw06_ValueOrders.T10.2 gumshoelaw06_ValueOrders.B10 = true := by kernel_rfl
set_option maxHeartbeats 8000000 in
set_option maxRecDepth 100000 in
theorem gumshoelaw06_ValueOrders.calls (k : Nat) (a0_0 : Int) (a0_1 : Int) (a0_2 : ByteArray) (a1_0 : Int) (a1_1 : Int) (a1_2 : ByteArray) (r : Bool) (w : World) (hL : Laid w) (h : gumshoelaw06_ValueOrders.f k a0_0 a0_1 a0_2 a1_0 a1_1 a1_2 = some r) :
    Calls Tryd.prog 7 #[.agg #[.int .i64 a0_0, .int .i64 a0_1, .string a0_2], .agg #[.int .i64 a1_0, .int .i64 a1_1, .string a1_2]] w fun e w' => e = .returned (.bool r) ∧ Below w.heap.size w w' := by
  have HL := Aside0.mk hL
  clear hL
  have hu23 := Tryd.underlying23
  have HB := Aside0.mk (Below.refl w.heap.size w)
  have H : ((gumshoelaw06_shown.f).bind fun t234 => ((value_Right.f a0_0 a0_1 a0_2).bind fun t235 => (if t235 = true then ((value_Right.f a1_0 a1_1 a1_2).bind fun t236 => (gumshoelaw06_ValueOrders.j0 k t234 (!t236) a0_0 a0_1 a0_2 a1_0 a1_1 a1_2)) else (gumshoelaw06_ValueOrders.j0 k t234 true a0_0 a0_1 a0_2 a1_0 a1_1 a1_2)))) = some r := h
  clear h
  replace H := Option.bind_eq_some_iff.mp H
  obtain ⟨t234, A30, H⟩ := H
  replace H : ((value_Right.f a0_0 a0_1 a0_2).bind fun t235 => (if t235 = true then ((value_Right.f a1_0 a1_1 a1_2).bind fun t236 => (gumshoelaw06_ValueOrders.j0 k t234 (!t236) a0_0 a0_1 a0_2 a1_0 a1_1 a1_2)) else (gumshoelaw06_ValueOrders.j0 k t234 true a0_0 a0_1 a0_2 a1_0 a1_1 a1_2))) = some r := H
  have A3 := Aside0.mk A30
  clear A30
  have HC4 := Aside0.mk H
  clear H
  go_enter Tryd.func7, Tryd.ntmps7
  go_upto_region 2 with (first | ((with_reducible refine gate_dst (N := 2) rfl ?_); refine box_event ?hg (N := 2) ?hd (cs := #[.int .i64 a0_0, .int .i64 a0_1, .string a0_2]) (t := 23) ?hr ?_; (case hd => rfl); (case hg => rfl); (case hr => first | (go_simp; done) | (go_simp; rfl)); intro gb232 hg w5 hbox hb; have n0_ := Aside0.mk (below_step (by repeat (first | (with_reducible first | exact HB.out | apply below_alloc | apply pw_below_drewN | apply below_drew1) | exact HB.out)) hb); have n1_ := Aside0.mk (hbox); have n2_ := Aside0.mk ((by rw [hg]; exact (below_size (by repeat (first | (with_reducible first | exact HB.out | apply below_alloc | apply pw_below_drewN | apply below_drew1) | exact HB.out))) : w.heap.size ≤ gb232)); have n3_ := Aside0.mk ((by rw [hg]; exact (below_size (by repeat (first | (with_reducible first | exact HB.out | apply below_alloc | apply pw_below_drewN | apply below_drew1) | exact HB.out))) : w.heap.size ≤ gb232)); clear HB; have HB := n0_; have BK232 := n1_; have GW232 := n2_; have GE232 := n3_; clear n0_ n1_ n2_ n3_; clear hb hbox hg) | ((with_reducible refine gate_dst (N := 3) rfl ?_); refine box_event ?hg (N := 3) ?hd (cs := #[.int .i64 a1_0, .int .i64 a1_1, .string a1_2]) (t := 23) ?hr ?_; (case hd => rfl); (case hg => rfl); (case hr => first | (go_simp; done) | (go_simp; rfl)); intro gb233 hg w6 hbox hb; have n0_ := Aside0.mk (blk_below (g := gb232) (o := .cells #[.int .i64 a0_0, .int .i64 a0_1, .string a0_2] 23 (0, 0)) (by (with_reducible repeat (first | refine blk_drewN ?_ _ | refine blk_drew ?_ | refine blk_alloc ?_ _)); exact BK232.out) hb); have n1_ := Aside0.mk (below_step (by repeat (first | (with_reducible first | exact HB.out | apply below_alloc | apply pw_below_drewN | apply below_drew1 | refine below_set ?_ GE232.out) | exact HB.out)) hb); have n2_ := Aside0.mk (hbox); have n3_ := Aside0.mk ((by rw [hg]; exact (below_size (by repeat (first | (with_reducible first | exact HB.out | apply below_alloc | apply pw_below_drewN | apply below_drew1 | refine below_set ?_ GE232.out) | exact HB.out))) : w.heap.size ≤ gb233)); have n4_ := Aside0.mk ((by rw [hg]; exact (below_size (by repeat (first | (with_reducible first | exact HB.out | apply below_alloc | apply pw_below_drewN | apply below_drew1 | refine below_set ?_ GE232.out) | exact HB.out))) : w.heap.size ≤ gb233)); have n5_ := Aside0.mk ((by rw [hg]; exact Nat.ne_of_lt (blk_lt (g := gb232) (o := .cells #[.int .i64 a0_0, .int .i64 a0_1, .string a0_2] 23 (0, 0)) (by (with_reducible repeat (first | refine blk_drewN ?_ _ | refine blk_drew ?_ | refine blk_alloc ?_ _)); exact BK232.out)) : gb232 ≠ gb233)); have n6_ := Aside0.mk ((by rw [hg]; exact Nat.ne_of_gt (blk_lt (g := gb232) (o := .cells #[.int .i64 a0_0, .int .i64 a0_1, .string a0_2] 23 (0, 0)) (by (with_reducible repeat (first | refine blk_drewN ?_ _ | refine blk_drew ?_ | refine blk_alloc ?_ _)); exact BK232.out)) : gb233 ≠ gb232)); clear BK232; clear HB; have BK232 := n0_; have HB := n1_; have BK233 := n2_; have GW233 := n3_; have GE233 := n4_; have NB232_233 := n5_; have NB233_232 := n6_; clear n0_ n1_ n2_ n3_ n4_ n5_ n6_; clear hb hbox hg) | ((with_reducible refine gate_callee (f := 11) rfl ?_); refine goesL_ (some 14) rfl rfl Tryd.func11 (by kernel_rfl) rfl #[] rfl (by (try simp only [List.map_toArray, List.map_cons, List.map_nil]); first | done | rfl | (simp only [List.length_drop, List.length_take]; rfl)) ?_; (with_reducible refine (gumshoelaw06_shown.calls (hL := ?sideL)  t234 _ A3.out).mono ?_); (case sideL => exact Laid.below HL.out (by repeat (first | (with_reducible first | exact HB.out | apply below_alloc | apply pw_below_drewN | apply below_drew1 | refine below_set ?_ GE232.out | refine below_set ?_ GE233.out) | exact HB.out))); rintro e w7 ⟨rfl, hb⟩; refine ⟨_, rfl, ?_⟩; have n0_ := Aside0.mk (blk_below (g := gb232) (o := .cells #[.int .i64 a0_0, .int .i64 a0_1, .string a0_2] 23 (0, 0)) (by (with_reducible repeat (first | refine blk_drewN ?_ _ | refine blk_drew ?_ | refine blk_alloc ?_ _)); exact BK232.out) hb); have n1_ := Aside0.mk (blk_below (g := gb233) (o := .cells #[.int .i64 a1_0, .int .i64 a1_1, .string a1_2] 23 (0, 0)) (by (with_reducible repeat (first | refine blk_drewN ?_ _ | refine blk_drew ?_ | refine blk_alloc ?_ _)); exact BK233.out) hb); have n2_ := Aside0.mk (below_step (by repeat (first | (with_reducible first | exact HB.out | apply below_alloc | apply pw_below_drewN | apply below_drew1 | refine below_set ?_ GE232.out | refine below_set ?_ GE233.out) | exact HB.out)) hb); clear BK232; clear BK233; clear HB; have BK232 := n0_; have BK233 := n1_; have HB := n2_; clear n0_ n1_ n2_; (try clear hb); (try clear hb2); (try clear hk); (try clear hi)))
  (try simp only [Act.put, List.setIfInBounds_toArray, List.set_cons_zero, List.set_cons_succ])
  go_cut [22] (fun v22 wc => ∃ (kq : Nat) (x22_3 : Bool), v22 = .bool x22_3 ∧ Aside0 (gumshoelaw06_ValueOrders.j0 kq t234 x22_3 a0_0 a0_1 a0_2 a1_0 a1_1 a1_2 = some r) ∧ Aside0 (kq ≤ k) ∧ Aside0 (wc.heap[gb232]? = some (.cells #[.int .i64 a0_0, .int .i64 a0_1, .string a0_2] 23 (0, 0))) ∧ Aside0 (wc.heap[gb233]? = some (.cells #[.int .i64 a1_0, .int .i64 a1_1, .string a1_2] 23 (0, 0))) ∧ Aside0 (Below w.heap.size w wc))
  case first =>
    have H := HC4.out
    clear HC4
    replace H := Option.bind_eq_some_iff.mp H
    obtain ⟨t235, A80, H⟩ := H
    replace H : (if t235 = true then ((value_Right.f a1_0 a1_1 a1_2).bind fun t236 => (gumshoelaw06_ValueOrders.j0 k t234 (!t236) a0_0 a0_1 a0_2 a1_0 a1_1 a1_2)) else (gumshoelaw06_ValueOrders.j0 k t234 true a0_0 a0_1 a0_2 a1_0 a1_1 a1_2)) = some r := H
    have A8 := Aside0.mk A80
    clear A80
    by_cases c9 : t235 = true
    · subst c9
      have H1 : ((value_Right.f a1_0 a1_1 a1_2).bind fun t236 => (gumshoelaw06_ValueOrders.j0 k t234 (!t236) a0_0 a0_1 a0_2 a1_0 a1_1 a1_2)) = some r := by rw [if_pos rfl] at H; exact H
      clear H
      have H := H1
      clear H1
      replace H := Option.bind_eq_some_iff.mp H
      obtain ⟨t236, A100, H⟩ := H
      replace H : (gumshoelaw06_ValueOrders.j0 k t234 (!t236) a0_0 a0_1 a0_2 a1_0 a1_1 a1_2) = some r := H
      have A10 := Aside0.mk A100
      clear A100
      have H' := Aside0.mk H
      clear H
      have hnb11 := NB232_233.out
      have hnc11 := NB233_232.out
      have hcz12_0 : w7.cell? ⟨gb232, 0, none⟩ = some (.int .i64 a0_0) := (blk_cell BK232.out 0).trans rfl
      have hcz12_1 : w7.cell? ⟨gb232, 1, none⟩ = some (.int .i64 a0_1) := (blk_cell BK232.out 1).trans rfl
      have hcz12_2 : w7.cell? ⟨gb232, 2, none⟩ = some (.string a0_2) := (blk_cell BK232.out 2).trans rfl
      have hfz12_0 := blk_frozen BK232.out 0
      have hfz12_1 := blk_frozen BK232.out 1
      have hfz12_2 := blk_frozen BK232.out 2
      go_wp2_with (first | ((with_reducible refine gate_callee (f := 19) rfl ?_); refine goesL_ (some 16) rfl rfl Tryd.func19 (by kernel_rfl) rfl #[.agg #[.int .i64 a0_0, .int .i64 a0_1, .string a0_2]] rfl (by (try simp only [List.map_toArray, List.map_cons, List.map_nil]); first | done | rfl | (simp only [List.length_drop, List.length_take]; rfl)) ?_; (with_reducible refine (value_Right.calls a0_0 a0_1 a0_2 true _ A8.out).mono ?_); rintro e w13 ⟨rfl, hb⟩; refine ⟨_, rfl, ?_⟩; have n0_ := Aside0.mk (blk_below (g := gb232) (o := .cells #[.int .i64 a0_0, .int .i64 a0_1, .string a0_2] 23 (0, 0)) (by (with_reducible repeat (first | refine blk_drewN ?_ _ | refine blk_drew ?_ | refine blk_alloc ?_ _)); exact BK232.out) hb); have n1_ := Aside0.mk (blk_below (g := gb233) (o := .cells #[.int .i64 a1_0, .int .i64 a1_1, .string a1_2] 23 (0, 0)) (by (with_reducible repeat (first | refine blk_drewN ?_ _ | refine blk_drew ?_ | refine blk_alloc ?_ _)); exact BK233.out) hb); have n2_ := Aside0.mk (below_step (by repeat (first | (with_reducible first | exact HB.out | apply below_alloc | apply pw_below_drewN | apply below_drew1 | refine below_set ?_ GE232.out | refine below_set ?_ GE233.out) | exact HB.out)) hb); clear BK232; clear BK233; clear HB; have BK232 := n0_; have BK233 := n1_; have HB := n2_; clear n0_ n1_ n2_; (try clear hb); (try clear hb2); (try clear hk); (try clear hi); have hcz14_0 : w13.cell? ⟨gb233, 0, none⟩ = some (.int .i64 a1_0) := (blk_cell BK233.out 0).trans rfl; have hcz14_1 : w13.cell? ⟨gb233, 1, none⟩ = some (.int .i64 a1_1) := (blk_cell BK233.out 1).trans rfl; have hcz14_2 : w13.cell? ⟨gb233, 2, none⟩ = some (.string a1_2) := (blk_cell BK233.out 2).trans rfl; have hfz14_0 := blk_frozen BK233.out 0; have hfz14_1 := blk_frozen BK233.out 1; have hfz14_2 := blk_frozen BK233.out 2) | (go_at_call 19; (with_reducible refine (value_Right.calls a1_0 a1_1 a1_2 t236 _ A10.out).mono ?_); rintro e w15 ⟨rfl, hb⟩; have n0_ := Aside0.mk (blk_below (g := gb232) (o := .cells #[.int .i64 a0_0, .int .i64 a0_1, .string a0_2] 23 (0, 0)) (by (with_reducible repeat (first | refine blk_drewN ?_ _ | refine blk_drew ?_ | refine blk_alloc ?_ _)); exact BK232.out) hb); have n1_ := Aside0.mk (blk_below (g := gb233) (o := .cells #[.int .i64 a1_0, .int .i64 a1_1, .string a1_2] 23 (0, 0)) (by (with_reducible repeat (first | refine blk_drewN ?_ _ | refine blk_drew ?_ | refine blk_alloc ?_ _)); exact BK233.out) hb); have n2_ := Aside0.mk (below_step (by repeat (first | (with_reducible first | exact HB.out | apply below_alloc | apply pw_below_drewN | apply below_drew1 | refine below_set ?_ GE232.out | refine below_set ?_ GE233.out) | exact HB.out)) hb); clear BK232; clear BK233; clear HB; have BK232 := n0_; have BK233 := n1_; have HB := n2_; clear n0_ n1_ n2_; (try clear hb); (try clear hb2); (try clear hk); (try clear hi)))
      go_meet
      case rel => exact ⟨_, (!t236), (by first | rfl | (simp; done) | (simp [*]; done) | (simp [*]; exact (fun (l_ : List UInt8) => (by cases l_ <;> rfl : l_.isEmpty = !(l_ != []))) _)), H', ⟨by first | omega | exact Nat.le_refl _⟩, ⟨by (with_reducible repeat (first | refine blk_drewN ?_ _ | refine blk_drew ?_ | refine blk_alloc ?_ _)); exact BK232.out⟩, ⟨by (with_reducible repeat (first | refine blk_drewN ?_ _ | refine blk_drew ?_ | refine blk_alloc ?_ _)); exact BK233.out⟩, ⟨by repeat (first | (with_reducible first | exact HB.out | apply below_alloc | apply pw_below_drewN | apply below_drew1 | refine below_set ?_ GE232.out | refine below_set ?_ GE233.out) | exact HB.out)⟩⟩
    · replace c9 := Bool.eq_false_iff.mpr c9
      subst c9
      have H1 : (gumshoelaw06_ValueOrders.j0 k t234 true a0_0 a0_1 a0_2 a1_0 a1_1 a1_2) = some r := by rw [if_neg (show ¬ (false = true) by decide)] at H; exact H
      clear H
      have H := H1
      clear H1
      have H' := Aside0.mk H
      clear H
      have hnb16 := NB232_233.out
      have hnc16 := NB233_232.out
      have hcz17_0 : w7.cell? ⟨gb232, 0, none⟩ = some (.int .i64 a0_0) := (blk_cell BK232.out 0).trans rfl
      have hcz17_1 : w7.cell? ⟨gb232, 1, none⟩ = some (.int .i64 a0_1) := (blk_cell BK232.out 1).trans rfl
      have hcz17_2 : w7.cell? ⟨gb232, 2, none⟩ = some (.string a0_2) := (blk_cell BK232.out 2).trans rfl
      have hfz17_0 := blk_frozen BK232.out 0
      have hfz17_1 := blk_frozen BK232.out 1
      have hfz17_2 := blk_frozen BK232.out 2
      go_wp2_with (first | ((with_reducible refine gate_callee (f := 19) rfl ?_); refine goesL_ (some 16) rfl rfl Tryd.func19 (by kernel_rfl) rfl #[.agg #[.int .i64 a0_0, .int .i64 a0_1, .string a0_2]] rfl (by (try simp only [List.map_toArray, List.map_cons, List.map_nil]); first | done | rfl | (simp only [List.length_drop, List.length_take]; rfl)) ?_; (with_reducible refine (value_Right.calls a0_0 a0_1 a0_2 false _ A8.out).mono ?_); rintro e w18 ⟨rfl, hb⟩; refine ⟨_, rfl, ?_⟩; have n0_ := Aside0.mk (blk_below (g := gb232) (o := .cells #[.int .i64 a0_0, .int .i64 a0_1, .string a0_2] 23 (0, 0)) (by (with_reducible repeat (first | refine blk_drewN ?_ _ | refine blk_drew ?_ | refine blk_alloc ?_ _)); exact BK232.out) hb); have n1_ := Aside0.mk (blk_below (g := gb233) (o := .cells #[.int .i64 a1_0, .int .i64 a1_1, .string a1_2] 23 (0, 0)) (by (with_reducible repeat (first | refine blk_drewN ?_ _ | refine blk_drew ?_ | refine blk_alloc ?_ _)); exact BK233.out) hb); have n2_ := Aside0.mk (below_step (by repeat (first | (with_reducible first | exact HB.out | apply below_alloc | apply pw_below_drewN | apply below_drew1 | refine below_set ?_ GE232.out | refine below_set ?_ GE233.out) | exact HB.out)) hb); clear BK232; clear BK233; clear HB; have BK232 := n0_; have BK233 := n1_; have HB := n2_; clear n0_ n1_ n2_; (try clear hb); (try clear hb2); (try clear hk); (try clear hi)))
      go_meet
      case rel => exact ⟨_, (true), (by first | rfl | (simp; done) | (simp [*]; done) | (simp [*]; exact (fun (l_ : List UInt8) => (by cases l_ <;> rfl : l_.isEmpty = !(l_ != []))) _)), H', ⟨by first | omega | exact Nat.le_refl _⟩, ⟨by (with_reducible repeat (first | refine blk_drewN ?_ _ | refine blk_drew ?_ | refine blk_alloc ?_ _)); exact BK232.out⟩, ⟨by (with_reducible repeat (first | refine blk_drewN ?_ _ | refine blk_drew ?_ | refine blk_alloc ?_ _)); exact BK233.out⟩, ⟨by repeat (first | (with_reducible first | exact HB.out | apply below_alloc | apply pw_below_drewN | apply below_drew1 | refine below_set ?_ GE232.out | refine below_set ?_ GE233.out) | exact HB.out)⟩⟩
  case rest =>
    clear HC4
    try clear c1
    try clear p2
    try clear c7
    try clear c9
    try clear c11
    try clear c16
    try clear hcz12_0
    try clear hcz12_1
    try clear hcz12_2
    try clear hcz14_0
    try clear hcz14_1
    try clear hcz14_2
    try clear hcz17_0
    try clear hcz17_1
    try clear hcz17_2
    try clear hfz12_0
    try clear hfz12_1
    try clear hfz12_2
    try clear hfz14_0
    try clear hfz14_1
    try clear hfz14_2
    try clear hfz17_0
    try clear hfz17_1
    try clear hfz17_2
    obtain ⟨kq, x22_3, rfl, HA, HJ3, BK232, BK233, HB⟩ := hcut
    cases kq with
    | zero => exact absurd HA.out (by simp [gumshoelaw06_ValueOrders.j0])
    | succ kj3 =>
      have H := HA.out
      clear HA
      simp only [gumshoelaw06_ValueOrders.j0] at H
      by_cases c19 : x22_3 = true
      · subst c19
        have H1 : (some t234) = some r := by rw [if_pos rfl] at H; exact H
        clear H
        have H := H1
        clear H1
        obtain rfl := Option.some.inj H
        go_wp2
        go_ret
        exact ⟨by first | rfl | (simp [errW_none, errW_some] <;> rfl) | (simp [*, errW_none, errW_some] <;> rfl) | (simp [*, errW_none, errW_some]; exact (fun (l_ : List UInt8) => (by cases l_ <;> rfl : l_.isEmpty = !(l_ != []))) _), by repeat (first | (with_reducible first | exact HB.out | apply below_alloc | apply pw_below_drewN | apply below_drew1 | refine below_set ?_ GE232.out | refine below_set ?_ GE233.out) | exact HB.out)⟩
      · replace c19 := Bool.eq_false_iff.mpr c19
        subst c19
        have H1 : ((value_Two.f (⟨#[60, 61]⟩ : ByteArray) a0_0 a0_1 a0_2 a1_0 a1_1 a1_2).bind fun bt237 => ((value_Two.f (⟨#[60, 61]⟩ : ByteArray) a1_0 a1_1 a1_2 a0_0 a0_1 a0_2).bind fun bt242 => ((value_Two.f (⟨#[60]⟩ : ByteArray) a0_0 a0_1 a0_2 a1_0 a1_1 a1_2).bind fun bt247 => ((value_Two.f (⟨#[60]⟩ : ByteArray) a1_0 a1_1 a1_2 a0_0 a0_1 a0_2).bind fun bt252 => (if bt237.2.2.2 = 0 then (if bt242.2.2.2 = 0 then (if bt247.2.2.2 = 0 then (gumshoelaw06_ValueOrders.j1 kj3 t234 (bt252.2.2.2 != 0) bt237.1 bt237.2.1 bt237.2.2.1 bt242.1 bt242.2.1 bt242.2.2.1 bt247.1 bt247.2.1 bt247.2.2.1 bt252.1 bt252.2.1 bt252.2.2.1) else (gumshoelaw06_ValueOrders.j1 kj3 t234 true bt237.1 bt237.2.1 bt237.2.2.1 bt242.1 bt242.2.1 bt242.2.2.1 bt247.1 bt247.2.1 bt247.2.2.1 bt252.1 bt252.2.1 bt252.2.2.1)) else (gumshoelaw06_ValueOrders.j1 kj3 t234 true bt237.1 bt237.2.1 bt237.2.2.1 bt242.1 bt242.2.1 bt242.2.2.1 bt247.1 bt247.2.1 bt247.2.2.1 bt252.1 bt252.2.1 bt252.2.2.1)) else (gumshoelaw06_ValueOrders.j1 kj3 t234 true bt237.1 bt237.2.1 bt237.2.2.1 bt242.1 bt242.2.1 bt242.2.2.1 bt247.1 bt247.2.1 bt247.2.2.1 bt252.1 bt252.2.1 bt252.2.2.1)))))) = some r := by rw [if_neg (show ¬ (false = true) by decide)] at H; exact H
        clear H
        have H := H1
        clear H1
        replace H := Option.bind_eq_some_iff.mp H
        obtain ⟨⟨t237, t238, t239, t240⟩, A200, H⟩ := H
        replace H : ((value_Two.f (⟨#[60, 61]⟩ : ByteArray) a1_0 a1_1 a1_2 a0_0 a0_1 a0_2).bind fun bt242 => ((value_Two.f (⟨#[60]⟩ : ByteArray) a0_0 a0_1 a0_2 a1_0 a1_1 a1_2).bind fun bt247 => ((value_Two.f (⟨#[60]⟩ : ByteArray) a1_0 a1_1 a1_2 a0_0 a0_1 a0_2).bind fun bt252 => (if t240 = 0 then (if bt242.2.2.2 = 0 then (if bt247.2.2.2 = 0 then (gumshoelaw06_ValueOrders.j1 kj3 t234 (bt252.2.2.2 != 0) t237 t238 t239 bt242.1 bt242.2.1 bt242.2.2.1 bt247.1 bt247.2.1 bt247.2.2.1 bt252.1 bt252.2.1 bt252.2.2.1) else (gumshoelaw06_ValueOrders.j1 kj3 t234 true t237 t238 t239 bt242.1 bt242.2.1 bt242.2.2.1 bt247.1 bt247.2.1 bt247.2.2.1 bt252.1 bt252.2.1 bt252.2.2.1)) else (gumshoelaw06_ValueOrders.j1 kj3 t234 true t237 t238 t239 bt242.1 bt242.2.1 bt242.2.2.1 bt247.1 bt247.2.1 bt247.2.2.1 bt252.1 bt252.2.1 bt252.2.2.1)) else (gumshoelaw06_ValueOrders.j1 kj3 t234 true t237 t238 t239 bt242.1 bt242.2.1 bt242.2.2.1 bt247.1 bt247.2.1 bt247.2.2.1 bt252.1 bt252.2.1 bt252.2.2.1))))) = some r := H
        have A20 := Aside0.mk A200
        clear A200
        replace H := Option.bind_eq_some_iff.mp H
        obtain ⟨⟨t242, t243, t244, t245⟩, A210, H⟩ := H
        replace H : ((value_Two.f (⟨#[60]⟩ : ByteArray) a0_0 a0_1 a0_2 a1_0 a1_1 a1_2).bind fun bt247 => ((value_Two.f (⟨#[60]⟩ : ByteArray) a1_0 a1_1 a1_2 a0_0 a0_1 a0_2).bind fun bt252 => (if t240 = 0 then (if t245 = 0 then (if bt247.2.2.2 = 0 then (gumshoelaw06_ValueOrders.j1 kj3 t234 (bt252.2.2.2 != 0) t237 t238 t239 t242 t243 t244 bt247.1 bt247.2.1 bt247.2.2.1 bt252.1 bt252.2.1 bt252.2.2.1) else (gumshoelaw06_ValueOrders.j1 kj3 t234 true t237 t238 t239 t242 t243 t244 bt247.1 bt247.2.1 bt247.2.2.1 bt252.1 bt252.2.1 bt252.2.2.1)) else (gumshoelaw06_ValueOrders.j1 kj3 t234 true t237 t238 t239 t242 t243 t244 bt247.1 bt247.2.1 bt247.2.2.1 bt252.1 bt252.2.1 bt252.2.2.1)) else (gumshoelaw06_ValueOrders.j1 kj3 t234 true t237 t238 t239 t242 t243 t244 bt247.1 bt247.2.1 bt247.2.2.1 bt252.1 bt252.2.1 bt252.2.2.1)))) = some r := H
        have A21 := Aside0.mk A210
        clear A210
        replace H := Option.bind_eq_some_iff.mp H
        obtain ⟨⟨t247, t248, t249, t250⟩, A220, H⟩ := H
        replace H : ((value_Two.f (⟨#[60]⟩ : ByteArray) a1_0 a1_1 a1_2 a0_0 a0_1 a0_2).bind fun bt252 => (if t240 = 0 then (if t245 = 0 then (if t250 = 0 then (gumshoelaw06_ValueOrders.j1 kj3 t234 (bt252.2.2.2 != 0) t237 t238 t239 t242 t243 t244 t247 t248 t249 bt252.1 bt252.2.1 bt252.2.2.1) else (gumshoelaw06_ValueOrders.j1 kj3 t234 true t237 t238 t239 t242 t243 t244 t247 t248 t249 bt252.1 bt252.2.1 bt252.2.2.1)) else (gumshoelaw06_ValueOrders.j1 kj3 t234 true t237 t238 t239 t242 t243 t244 t247 t248 t249 bt252.1 bt252.2.1 bt252.2.2.1)) else (gumshoelaw06_ValueOrders.j1 kj3 t234 true t237 t238 t239 t242 t243 t244 t247 t248 t249 bt252.1 bt252.2.1 bt252.2.2.1))) = some r := H
        have A22 := Aside0.mk A220
        clear A220
        replace H := Option.bind_eq_some_iff.mp H
        obtain ⟨⟨t252, t253, t254, t255⟩, A230, H⟩ := H
        replace H : (if t240 = 0 then (if t245 = 0 then (if t250 = 0 then (gumshoelaw06_ValueOrders.j1 kj3 t234 (t255 != 0) t237 t238 t239 t242 t243 t244 t247 t248 t249 t252 t253 t254) else (gumshoelaw06_ValueOrders.j1 kj3 t234 true t237 t238 t239 t242 t243 t244 t247 t248 t249 t252 t253 t254)) else (gumshoelaw06_ValueOrders.j1 kj3 t234 true t237 t238 t239 t242 t243 t244 t247 t248 t249 t252 t253 t254)) else (gumshoelaw06_ValueOrders.j1 kj3 t234 true t237 t238 t239 t242 t243 t244 t247 t248 t249 t252 t253 t254)) = some r := H
        have A23 := Aside0.mk A230
        clear A230
        have HC24 := Aside0.mk H
        clear H
        have hnb25 := NB232_233.out
        have hnc25 := NB233_232.out
        have hcz26_0 : wc.cell? ⟨gb232, 0, none⟩ = some (.int .i64 a0_0) := (blk_cell BK232.out 0).trans rfl
        have hcz26_1 : wc.cell? ⟨gb232, 1, none⟩ = some (.int .i64 a0_1) := (blk_cell BK232.out 1).trans rfl
        have hcz26_2 : wc.cell? ⟨gb232, 2, none⟩ = some (.string a0_2) := (blk_cell BK232.out 2).trans rfl
        have hfz26_0 := blk_frozen BK232.out 0
        have hfz26_1 := blk_frozen BK232.out 1
        have hfz26_2 := blk_frozen BK232.out 2
        have hcz27_0 : wc.cell? ⟨gb233, 0, none⟩ = some (.int .i64 a1_0) := (blk_cell BK233.out 0).trans rfl
        have hcz27_1 : wc.cell? ⟨gb233, 1, none⟩ = some (.int .i64 a1_1) := (blk_cell BK233.out 1).trans rfl
        have hcz27_2 : wc.cell? ⟨gb233, 2, none⟩ = some (.string a1_2) := (blk_cell BK233.out 2).trans rfl
        have hfz27_0 := blk_frozen BK233.out 0
        have hfz27_1 := blk_frozen BK233.out 1
        have hfz27_2 := blk_frozen BK233.out 2
        go_upto_region 8 with (first | ((with_reducible refine gate_callee (f := 13) rfl ?_); refine goesL_ (some 27) rfl rfl Tryd.func13 (by kernel_rfl) rfl #[.string (⟨#[60, 61]⟩ : ByteArray), .agg #[.int .i64 a0_0, .int .i64 a0_1, .string a0_2], .agg #[.int .i64 a1_0, .int .i64 a1_1, .string a1_2]] rfl (by (try simp only [List.map_toArray, List.map_cons, List.map_nil]); first | done | rfl | (simp only [List.length_drop, List.length_take]; rfl)) ?_; (with_reducible refine (value_Two.calls (hL := ?sideL) (⟨#[60, 61]⟩ : ByteArray) a0_0 a0_1 a0_2 a1_0 a1_1 a1_2 t237 t238 t239 t240 _ A20.out).mono ?_); (case sideL => exact Laid.below HL.out (by repeat (first | (with_reducible first | exact HB.out | apply below_alloc | apply pw_below_drewN | apply below_drew1 | refine below_set ?_ GE232.out | refine below_set ?_ GE233.out) | exact HB.out))); rintro e w28 ⟨rfl, hb⟩; refine ⟨_, rfl, ?_⟩; have n0_ := Aside0.mk (blk_below (g := gb232) (o := .cells #[.int .i64 a0_0, .int .i64 a0_1, .string a0_2] 23 (0, 0)) (by (with_reducible repeat (first | refine blk_drewN ?_ _ | refine blk_drew ?_ | refine blk_alloc ?_ _)); exact BK232.out) hb); have n1_ := Aside0.mk (blk_below (g := gb233) (o := .cells #[.int .i64 a1_0, .int .i64 a1_1, .string a1_2] 23 (0, 0)) (by (with_reducible repeat (first | refine blk_drewN ?_ _ | refine blk_drew ?_ | refine blk_alloc ?_ _)); exact BK233.out) hb); have n2_ := Aside0.mk (below_step (by repeat (first | (with_reducible first | exact HB.out | apply below_alloc | apply pw_below_drewN | apply below_drew1 | refine below_set ?_ GE232.out | refine below_set ?_ GE233.out) | exact HB.out)) hb); clear BK232; clear BK233; clear HB; have BK232 := n0_; have BK233 := n1_; have HB := n2_; clear n0_ n1_ n2_; (try clear hb); (try clear hb2); (try clear hk); (try clear hi)) | ((with_reducible refine gate_dst (N := 6) rfl ?_); refine box_event ?hg (N := 6) ?hd (cs := #[.int .i64 0, .int .i64 0, .string (⟨#[]⟩ : ByteArray)]) (t := 23) ?hr ?_; (case hd => rfl); (case hg => rfl); (case hr => first | (go_simp; done) | (go_simp; rfl)); intro gb241 hg w29 hbox hb; have n0_ := Aside0.mk (blk_below (g := gb232) (o := .cells #[.int .i64 a0_0, .int .i64 a0_1, .string a0_2] 23 (0, 0)) (by (with_reducible repeat (first | refine blk_drewN ?_ _ | refine blk_drew ?_ | refine blk_alloc ?_ _)); exact BK232.out) hb); have n1_ := Aside0.mk (blk_below (g := gb233) (o := .cells #[.int .i64 a1_0, .int .i64 a1_1, .string a1_2] 23 (0, 0)) (by (with_reducible repeat (first | refine blk_drewN ?_ _ | refine blk_drew ?_ | refine blk_alloc ?_ _)); exact BK233.out) hb); have n2_ := Aside0.mk (below_step (by repeat (first | (with_reducible first | exact HB.out | apply below_alloc | apply pw_below_drewN | apply below_drew1 | refine below_set ?_ GE232.out | refine below_set ?_ GE233.out) | exact HB.out)) hb); have n3_ := Aside0.mk (hbox); have n4_ := Aside0.mk ((by rw [hg]; exact (below_size (by repeat (first | (with_reducible first | exact HB.out | apply below_alloc | apply pw_below_drewN | apply below_drew1 | refine below_set ?_ GE232.out | refine below_set ?_ GE233.out) | exact HB.out))) : w.heap.size ≤ gb241)); have n5_ := Aside0.mk ((by rw [hg]; exact (below_size (by repeat (first | (with_reducible first | exact HB.out | apply below_alloc | apply pw_below_drewN | apply below_drew1 | refine below_set ?_ GE232.out | refine below_set ?_ GE233.out) | exact HB.out))) : w.heap.size ≤ gb241)); have n6_ := Aside0.mk ((by rw [hg]; exact Nat.ne_of_lt (blk_lt (g := gb232) (o := .cells #[.int .i64 a0_0, .int .i64 a0_1, .string a0_2] 23 (0, 0)) (by (with_reducible repeat (first | refine blk_drewN ?_ _ | refine blk_drew ?_ | refine blk_alloc ?_ _)); exact BK232.out)) : gb232 ≠ gb241)); have n7_ := Aside0.mk ((by rw [hg]; exact Nat.ne_of_gt (blk_lt (g := gb232) (o := .cells #[.int .i64 a0_0, .int .i64 a0_1, .string a0_2] 23 (0, 0)) (by (with_reducible repeat (first | refine blk_drewN ?_ _ | refine blk_drew ?_ | refine blk_alloc ?_ _)); exact BK232.out)) : gb241 ≠ gb232)); have n8_ := Aside0.mk ((by rw [hg]; exact Nat.ne_of_lt (blk_lt (g := gb233) (o := .cells #[.int .i64 a1_0, .int .i64 a1_1, .string a1_2] 23 (0, 0)) (by (with_reducible repeat (first | refine blk_drewN ?_ _ | refine blk_drew ?_ | refine blk_alloc ?_ _)); exact BK233.out)) : gb233 ≠ gb241)); have n9_ := Aside0.mk ((by rw [hg]; exact Nat.ne_of_gt (blk_lt (g := gb233) (o := .cells #[.int .i64 a1_0, .int .i64 a1_1, .string a1_2] 23 (0, 0)) (by (with_reducible repeat (first | refine blk_drewN ?_ _ | refine blk_drew ?_ | refine blk_alloc ?_ _)); exact BK233.out)) : gb241 ≠ gb233)); clear BK232; clear BK233; clear HB; have BK232 := n0_; have BK233 := n1_; have HB := n2_; have BK241 := n3_; have GW241 := n4_; have GE241 := n5_; have NB232_241 := n6_; have NB241_232 := n7_; have NB233_241 := n8_; have NB241_233 := n9_; clear n0_ n1_ n2_ n3_ n4_ n5_ n6_ n7_ n8_ n9_; clear hb hbox hg; have hnb30 := NB241_232.out; have hnc30 := NB232_241.out; have hnb31 := NB241_233.out; have hnc31 := NB233_241.out; have hcz32_0 : w29.cell? ⟨gb241, 0, none⟩ = some (.int .i64 0) := (blk_cell BK241.out 0).trans rfl; have hcz32_1 : w29.cell? ⟨gb241, 1, none⟩ = some (.int .i64 0) := (blk_cell BK241.out 1).trans rfl; have hcz32_2 : w29.cell? ⟨gb241, 2, none⟩ = some (.string (⟨#[]⟩ : ByteArray)) := (blk_cell BK241.out 2).trans rfl; have hfz32_0 := blk_frozen BK241.out 0; have hfz32_1 := blk_frozen BK241.out 1; have hfz32_2 := blk_frozen BK241.out 2; have hcz33_0 : w29.cell? ⟨gb233, 0, none⟩ = some (.int .i64 a1_0) := (blk_cell BK233.out 0).trans rfl; have hcz33_1 : w29.cell? ⟨gb233, 1, none⟩ = some (.int .i64 a1_1) := (blk_cell BK233.out 1).trans rfl; have hcz33_2 : w29.cell? ⟨gb233, 2, none⟩ = some (.string a1_2) := (blk_cell BK233.out 2).trans rfl; have hfz33_0 := blk_frozen BK233.out 0; have hfz33_1 := blk_frozen BK233.out 1; have hfz33_2 := blk_frozen BK233.out 2; have hcz34_0 : w29.cell? ⟨gb232, 0, none⟩ = some (.int .i64 a0_0) := (blk_cell BK232.out 0).trans rfl; have hcz34_1 : w29.cell? ⟨gb232, 1, none⟩ = some (.int .i64 a0_1) := (blk_cell BK232.out 1).trans rfl; have hcz34_2 : w29.cell? ⟨gb232, 2, none⟩ = some (.string a0_2) := (blk_cell BK232.out 2).trans rfl; have hfz34_0 := blk_frozen BK232.out 0; have hfz34_1 := blk_frozen BK232.out 1; have hfz34_2 := blk_frozen BK232.out 2) | ((with_reducible refine gate_callee (f := 13) rfl ?_); refine goesL_ (some 33) rfl rfl Tryd.func13 (by kernel_rfl) rfl #[.string (⟨#[60, 61]⟩ : ByteArray), .agg #[.int .i64 a1_0, .int .i64 a1_1, .string a1_2], .agg #[.int .i64 a0_0, .int .i64 a0_1, .string a0_2]] rfl (by (try simp only [List.map_toArray, List.map_cons, List.map_nil]); first | done | rfl | (simp only [List.length_drop, List.length_take]; rfl)) ?_; (with_reducible refine (value_Two.calls (hL := ?sideL) (⟨#[60, 61]⟩ : ByteArray) a1_0 a1_1 a1_2 a0_0 a0_1 a0_2 t242 t243 t244 t245 _ A21.out).mono ?_); (case sideL => exact Laid.below HL.out (by repeat (first | (with_reducible first | exact HB.out | apply below_alloc | apply pw_below_drewN | apply below_drew1 | refine below_set ?_ GE232.out | refine below_set ?_ GE233.out | refine below_set ?_ GE241.out) | exact HB.out))); rintro e w35 ⟨rfl, hb⟩; refine ⟨_, rfl, ?_⟩; have n0_ := Aside0.mk (blk_below (g := gb232) (o := .cells #[.int .i64 a0_0, .int .i64 a0_1, .string a0_2] 23 (0, 0)) (by (with_reducible repeat (first | refine blk_drewN ?_ _ | refine blk_drew ?_ | refine blk_alloc ?_ _)); refine blk_far ?_ NB232_241.out _; (with_reducible repeat (first | refine blk_drewN ?_ _ | refine blk_drew ?_ | refine blk_alloc ?_ _)); refine blk_far ?_ NB232_241.out _; (with_reducible repeat (first | refine blk_drewN ?_ _ | refine blk_drew ?_ | refine blk_alloc ?_ _)); refine blk_far ?_ NB232_241.out _; (with_reducible repeat (first | refine blk_drewN ?_ _ | refine blk_drew ?_ | refine blk_alloc ?_ _)); exact BK232.out) hb); have n1_ := Aside0.mk (blk_below (g := gb233) (o := .cells #[.int .i64 a1_0, .int .i64 a1_1, .string a1_2] 23 (0, 0)) (by (with_reducible repeat (first | refine blk_drewN ?_ _ | refine blk_drew ?_ | refine blk_alloc ?_ _)); refine blk_far ?_ NB233_241.out _; (with_reducible repeat (first | refine blk_drewN ?_ _ | refine blk_drew ?_ | refine blk_alloc ?_ _)); refine blk_far ?_ NB233_241.out _; (with_reducible repeat (first | refine blk_drewN ?_ _ | refine blk_drew ?_ | refine blk_alloc ?_ _)); refine blk_far ?_ NB233_241.out _; (with_reducible repeat (first | refine blk_drewN ?_ _ | refine blk_drew ?_ | refine blk_alloc ?_ _)); exact BK233.out) hb); have n2_ := Aside0.mk (blk_below (g := gb241) (o := .cells #[.int .i64 t237, .int .i64 t238, .string t239] 23 (0, 0)) (by (with_reducible repeat (first | refine blk_drewN ?_ _ | refine blk_drew ?_ | refine blk_alloc ?_ _)); refine blk_put (cs := #[.int .i64 t237, .int .i64 t238, .string (⟨#[]⟩ : ByteArray)]) ?_ 2 _ rfl; (with_reducible repeat (first | refine blk_drewN ?_ _ | refine blk_drew ?_ | refine blk_alloc ?_ _)); refine blk_put (cs := #[.int .i64 t237, .int .i64 0, .string (⟨#[]⟩ : ByteArray)]) ?_ 1 _ rfl; (with_reducible repeat (first | refine blk_drewN ?_ _ | refine blk_drew ?_ | refine blk_alloc ?_ _)); refine blk_put (cs := #[.int .i64 0, .int .i64 0, .string (⟨#[]⟩ : ByteArray)]) ?_ 0 _ rfl; (with_reducible repeat (first | refine blk_drewN ?_ _ | refine blk_drew ?_ | refine blk_alloc ?_ _)); exact BK241.out) hb); have n3_ := Aside0.mk (below_step (by repeat (first | (with_reducible first | exact HB.out | apply below_alloc | apply pw_below_drewN | apply below_drew1 | refine below_set ?_ GE232.out | refine below_set ?_ GE233.out | refine below_set ?_ GE241.out) | exact HB.out)) hb); clear BK232; clear BK233; clear BK241; clear HB; have BK232 := n0_; have BK233 := n1_; have BK241 := n2_; have HB := n3_; clear n0_ n1_ n2_ n3_; (try clear hb); (try clear hb2); (try clear hk); (try clear hi)) | ((with_reducible refine gate_dst (N := 8) rfl ?_); refine box_event ?hg (N := 8) ?hd (cs := #[.int .i64 0, .int .i64 0, .string (⟨#[]⟩ : ByteArray)]) (t := 23) ?hr ?_; (case hd => rfl); (case hg => rfl); (case hr => first | (go_simp; done) | (go_simp; rfl)); intro gb246 hg w36 hbox hb; have n0_ := Aside0.mk (blk_below (g := gb232) (o := .cells #[.int .i64 a0_0, .int .i64 a0_1, .string a0_2] 23 (0, 0)) (by (with_reducible repeat (first | refine blk_drewN ?_ _ | refine blk_drew ?_ | refine blk_alloc ?_ _)); exact BK232.out) hb); have n1_ := Aside0.mk (blk_below (g := gb233) (o := .cells #[.int .i64 a1_0, .int .i64 a1_1, .string a1_2] 23 (0, 0)) (by (with_reducible repeat (first | refine blk_drewN ?_ _ | refine blk_drew ?_ | refine blk_alloc ?_ _)); exact BK233.out) hb); have n2_ := Aside0.mk (blk_below (g := gb241) (o := .cells #[.int .i64 t237, .int .i64 t238, .string t239] 23 (0, 0)) (by (with_reducible repeat (first | refine blk_drewN ?_ _ | refine blk_drew ?_ | refine blk_alloc ?_ _)); exact BK241.out) hb); have n3_ := Aside0.mk (below_step (by repeat (first | (with_reducible first | exact HB.out | apply below_alloc | apply pw_below_drewN | apply below_drew1 | refine below_set ?_ GE232.out | refine below_set ?_ GE233.out | refine below_set ?_ GE241.out) | exact HB.out)) hb); have n4_ := Aside0.mk (hbox); have n5_ := Aside0.mk ((by rw [hg]; exact (below_size (by repeat (first | (with_reducible first | exact HB.out | apply below_alloc | apply pw_below_drewN | apply below_drew1 | refine below_set ?_ GE232.out | refine below_set ?_ GE233.out | refine below_set ?_ GE241.out) | exact HB.out))) : w.heap.size ≤ gb246)); have n6_ := Aside0.mk ((by rw [hg]; exact (below_size (by repeat (first | (with_reducible first | exact HB.out | apply below_alloc | apply pw_below_drewN | apply below_drew1 | refine below_set ?_ GE232.out | refine below_set ?_ GE233.out | refine below_set ?_ GE241.out) | exact HB.out))) : w.heap.size ≤ gb246)); have n7_ := Aside0.mk ((by rw [hg]; exact Nat.ne_of_lt (blk_lt (g := gb232) (o := .cells #[.int .i64 a0_0, .int .i64 a0_1, .string a0_2] 23 (0, 0)) (by (with_reducible repeat (first | refine blk_drewN ?_ _ | refine blk_drew ?_ | refine blk_alloc ?_ _)); exact BK232.out)) : gb232 ≠ gb246)); have n8_ := Aside0.mk ((by rw [hg]; exact Nat.ne_of_gt (blk_lt (g := gb232) (o := .cells #[.int .i64 a0_0, .int .i64 a0_1, .string a0_2] 23 (0, 0)) (by (with_reducible repeat (first | refine blk_drewN ?_ _ | refine blk_drew ?_ | refine blk_alloc ?_ _)); exact BK232.out)) : gb246 ≠ gb232)); have n9_ := Aside0.mk ((by rw [hg]; exact Nat.ne_of_lt (blk_lt (g := gb233) (o := .cells #[.int .i64 a1_0, .int .i64 a1_1, .string a1_2] 23 (0, 0)) (by (with_reducible repeat (first | refine blk_drewN ?_ _ | refine blk_drew ?_ | refine blk_alloc ?_ _)); exact BK233.out)) : gb233 ≠ gb246)); have n10_ := Aside0.mk ((by rw [hg]; exact Nat.ne_of_gt (blk_lt (g := gb233) (o := .cells #[.int .i64 a1_0, .int .i64 a1_1, .string a1_2] 23 (0, 0)) (by (with_reducible repeat (first | refine blk_drewN ?_ _ | refine blk_drew ?_ | refine blk_alloc ?_ _)); exact BK233.out)) : gb246 ≠ gb233)); have n11_ := Aside0.mk ((by rw [hg]; exact Nat.ne_of_lt (blk_lt (g := gb241) (o := .cells #[.int .i64 t237, .int .i64 t238, .string t239] 23 (0, 0)) (by (with_reducible repeat (first | refine blk_drewN ?_ _ | refine blk_drew ?_ | refine blk_alloc ?_ _)); exact BK241.out)) : gb241 ≠ gb246)); have n12_ := Aside0.mk ((by rw [hg]; exact Nat.ne_of_gt (blk_lt (g := gb241) (o := .cells #[.int .i64 t237, .int .i64 t238, .string t239] 23 (0, 0)) (by (with_reducible repeat (first | refine blk_drewN ?_ _ | refine blk_drew ?_ | refine blk_alloc ?_ _)); exact BK241.out)) : gb246 ≠ gb241)); clear BK232; clear BK233; clear BK241; clear HB; have BK232 := n0_; have BK233 := n1_; have BK241 := n2_; have HB := n3_; have BK246 := n4_; have GW246 := n5_; have GE246 := n6_; have NB232_246 := n7_; have NB246_232 := n8_; have NB233_246 := n9_; have NB246_233 := n10_; have NB241_246 := n11_; have NB246_241 := n12_; clear n0_ n1_ n2_ n3_ n4_ n5_ n6_ n7_ n8_ n9_ n10_ n11_ n12_; clear hb hbox hg; have hnb37 := NB246_232.out; have hnc37 := NB232_246.out; have hnb38 := NB246_233.out; have hnc38 := NB233_246.out; have hnb39 := NB246_241.out; have hnc39 := NB241_246.out; have hcz40_0 : w36.cell? ⟨gb246, 0, none⟩ = some (.int .i64 0) := (blk_cell BK246.out 0).trans rfl; have hcz40_1 : w36.cell? ⟨gb246, 1, none⟩ = some (.int .i64 0) := (blk_cell BK246.out 1).trans rfl; have hcz40_2 : w36.cell? ⟨gb246, 2, none⟩ = some (.string (⟨#[]⟩ : ByteArray)) := (blk_cell BK246.out 2).trans rfl; have hfz40_0 := blk_frozen BK246.out 0; have hfz40_1 := blk_frozen BK246.out 1; have hfz40_2 := blk_frozen BK246.out 2; have hcz41_0 : w36.cell? ⟨gb232, 0, none⟩ = some (.int .i64 a0_0) := (blk_cell BK232.out 0).trans rfl; have hcz41_1 : w36.cell? ⟨gb232, 1, none⟩ = some (.int .i64 a0_1) := (blk_cell BK232.out 1).trans rfl; have hcz41_2 : w36.cell? ⟨gb232, 2, none⟩ = some (.string a0_2) := (blk_cell BK232.out 2).trans rfl; have hfz41_0 := blk_frozen BK232.out 0; have hfz41_1 := blk_frozen BK232.out 1; have hfz41_2 := blk_frozen BK232.out 2; have hcz42_0 : w36.cell? ⟨gb233, 0, none⟩ = some (.int .i64 a1_0) := (blk_cell BK233.out 0).trans rfl; have hcz42_1 : w36.cell? ⟨gb233, 1, none⟩ = some (.int .i64 a1_1) := (blk_cell BK233.out 1).trans rfl; have hcz42_2 : w36.cell? ⟨gb233, 2, none⟩ = some (.string a1_2) := (blk_cell BK233.out 2).trans rfl; have hfz42_0 := blk_frozen BK233.out 0; have hfz42_1 := blk_frozen BK233.out 1; have hfz42_2 := blk_frozen BK233.out 2) | ((with_reducible refine gate_callee (f := 13) rfl ?_); refine goesL_ (some 39) rfl rfl Tryd.func13 (by kernel_rfl) rfl #[.string (⟨#[60]⟩ : ByteArray), .agg #[.int .i64 a0_0, .int .i64 a0_1, .string a0_2], .agg #[.int .i64 a1_0, .int .i64 a1_1, .string a1_2]] rfl (by (try simp only [List.map_toArray, List.map_cons, List.map_nil]); first | done | rfl | (simp only [List.length_drop, List.length_take]; rfl)) ?_; (with_reducible refine (value_Two.calls (hL := ?sideL) (⟨#[60]⟩ : ByteArray) a0_0 a0_1 a0_2 a1_0 a1_1 a1_2 t247 t248 t249 t250 _ A22.out).mono ?_); (case sideL => exact Laid.below HL.out (by repeat (first | (with_reducible first | exact HB.out | apply below_alloc | apply pw_below_drewN | apply below_drew1 | refine below_set ?_ GE232.out | refine below_set ?_ GE233.out | refine below_set ?_ GE241.out | refine below_set ?_ GE246.out) | exact HB.out))); rintro e w43 ⟨rfl, hb⟩; refine ⟨_, rfl, ?_⟩; have n0_ := Aside0.mk (blk_below (g := gb232) (o := .cells #[.int .i64 a0_0, .int .i64 a0_1, .string a0_2] 23 (0, 0)) (by (with_reducible repeat (first | refine blk_drewN ?_ _ | refine blk_drew ?_ | refine blk_alloc ?_ _)); refine blk_far ?_ NB232_246.out _; (with_reducible repeat (first | refine blk_drewN ?_ _ | refine blk_drew ?_ | refine blk_alloc ?_ _)); refine blk_far ?_ NB232_246.out _; (with_reducible repeat (first | refine blk_drewN ?_ _ | refine blk_drew ?_ | refine blk_alloc ?_ _)); refine blk_far ?_ NB232_246.out _; (with_reducible repeat (first | refine blk_drewN ?_ _ | refine blk_drew ?_ | refine blk_alloc ?_ _)); exact BK232.out) hb); have n1_ := Aside0.mk (blk_below (g := gb233) (o := .cells #[.int .i64 a1_0, .int .i64 a1_1, .string a1_2] 23 (0, 0)) (by (with_reducible repeat (first | refine blk_drewN ?_ _ | refine blk_drew ?_ | refine blk_alloc ?_ _)); refine blk_far ?_ NB233_246.out _; (with_reducible repeat (first | refine blk_drewN ?_ _ | refine blk_drew ?_ | refine blk_alloc ?_ _)); refine blk_far ?_ NB233_246.out _; (with_reducible repeat (first | refine blk_drewN ?_ _ | refine blk_drew ?_ | refine blk_alloc ?_ _)); refine blk_far ?_ NB233_246.out _; (with_reducible repeat (first | refine blk_drewN ?_ _ | refine blk_drew ?_ | refine blk_alloc ?_ _)); exact BK233.out) hb); have n2_ := Aside0.mk (blk_below (g := gb241) (o := .cells #[.int .i64 t237, .int .i64 t238, .string t239] 23 (0, 0)) (by (with_reducible repeat (first | refine blk_drewN ?_ _ | refine blk_drew ?_ | refine blk_alloc ?_ _)); refine blk_far ?_ NB241_246.out _; (with_reducible repeat (first | refine blk_drewN ?_ _ | refine blk_drew ?_ | refine blk_alloc ?_ _)); refine blk_far ?_ NB241_246.out _; (with_reducible repeat (first | refine blk_drewN ?_ _ | refine blk_drew ?_ | refine blk_alloc ?_ _)); refine blk_far ?_ NB241_246.out _; (with_reducible repeat (first | refine blk_drewN ?_ _ | refine blk_drew ?_ | refine blk_alloc ?_ _)); exact BK241.out) hb); have n3_ := Aside0.mk (blk_below (g := gb246) (o := .cells #[.int .i64 t242, .int .i64 t243, .string t244] 23 (0, 0)) (by (with_reducible repeat (first | refine blk_drewN ?_ _ | refine blk_drew ?_ | refine blk_alloc ?_ _)); refine blk_put (cs := #[.int .i64 t242, .int .i64 t243, .string (⟨#[]⟩ : ByteArray)]) ?_ 2 _ rfl; (with_reducible repeat (first | refine blk_drewN ?_ _ | refine blk_drew ?_ | refine blk_alloc ?_ _)); refine blk_put (cs := #[.int .i64 t242, .int .i64 0, .string (⟨#[]⟩ : ByteArray)]) ?_ 1 _ rfl; (with_reducible repeat (first | refine blk_drewN ?_ _ | refine blk_drew ?_ | refine blk_alloc ?_ _)); refine blk_put (cs := #[.int .i64 0, .int .i64 0, .string (⟨#[]⟩ : ByteArray)]) ?_ 0 _ rfl; (with_reducible repeat (first | refine blk_drewN ?_ _ | refine blk_drew ?_ | refine blk_alloc ?_ _)); exact BK246.out) hb); have n4_ := Aside0.mk (below_step (by repeat (first | (with_reducible first | exact HB.out | apply below_alloc | apply pw_below_drewN | apply below_drew1 | refine below_set ?_ GE232.out | refine below_set ?_ GE233.out | refine below_set ?_ GE241.out | refine below_set ?_ GE246.out) | exact HB.out)) hb); clear BK232; clear BK233; clear BK241; clear BK246; clear HB; have BK232 := n0_; have BK233 := n1_; have BK241 := n2_; have BK246 := n3_; have HB := n4_; clear n0_ n1_ n2_ n3_ n4_; (try clear hb); (try clear hb2); (try clear hk); (try clear hi)) | ((with_reducible refine gate_dst (N := 10) rfl ?_); refine box_event ?hg (N := 10) ?hd (cs := #[.int .i64 0, .int .i64 0, .string (⟨#[]⟩ : ByteArray)]) (t := 23) ?hr ?_; (case hd => rfl); (case hg => rfl); (case hr => first | (go_simp; done) | (go_simp; rfl)); intro gb251 hg w44 hbox hb; have n0_ := Aside0.mk (blk_below (g := gb232) (o := .cells #[.int .i64 a0_0, .int .i64 a0_1, .string a0_2] 23 (0, 0)) (by (with_reducible repeat (first | refine blk_drewN ?_ _ | refine blk_drew ?_ | refine blk_alloc ?_ _)); exact BK232.out) hb); have n1_ := Aside0.mk (blk_below (g := gb233) (o := .cells #[.int .i64 a1_0, .int .i64 a1_1, .string a1_2] 23 (0, 0)) (by (with_reducible repeat (first | refine blk_drewN ?_ _ | refine blk_drew ?_ | refine blk_alloc ?_ _)); exact BK233.out) hb); have n2_ := Aside0.mk (blk_below (g := gb241) (o := .cells #[.int .i64 t237, .int .i64 t238, .string t239] 23 (0, 0)) (by (with_reducible repeat (first | refine blk_drewN ?_ _ | refine blk_drew ?_ | refine blk_alloc ?_ _)); exact BK241.out) hb); have n3_ := Aside0.mk (blk_below (g := gb246) (o := .cells #[.int .i64 t242, .int .i64 t243, .string t244] 23 (0, 0)) (by (with_reducible repeat (first | refine blk_drewN ?_ _ | refine blk_drew ?_ | refine blk_alloc ?_ _)); exact BK246.out) hb); have n4_ := Aside0.mk (below_step (by repeat (first | (with_reducible first | exact HB.out | apply below_alloc | apply pw_below_drewN | apply below_drew1 | refine below_set ?_ GE232.out | refine below_set ?_ GE233.out | refine below_set ?_ GE241.out | refine below_set ?_ GE246.out) | exact HB.out)) hb); have n5_ := Aside0.mk (hbox); have n6_ := Aside0.mk ((by rw [hg]; exact (below_size (by repeat (first | (with_reducible first | exact HB.out | apply below_alloc | apply pw_below_drewN | apply below_drew1 | refine below_set ?_ GE232.out | refine below_set ?_ GE233.out | refine below_set ?_ GE241.out | refine below_set ?_ GE246.out) | exact HB.out))) : w.heap.size ≤ gb251)); have n7_ := Aside0.mk ((by rw [hg]; exact (below_size (by repeat (first | (with_reducible first | exact HB.out | apply below_alloc | apply pw_below_drewN | apply below_drew1 | refine below_set ?_ GE232.out | refine below_set ?_ GE233.out | refine below_set ?_ GE241.out | refine below_set ?_ GE246.out) | exact HB.out))) : w.heap.size ≤ gb251)); have n8_ := Aside0.mk ((by rw [hg]; exact Nat.ne_of_lt (blk_lt (g := gb232) (o := .cells #[.int .i64 a0_0, .int .i64 a0_1, .string a0_2] 23 (0, 0)) (by (with_reducible repeat (first | refine blk_drewN ?_ _ | refine blk_drew ?_ | refine blk_alloc ?_ _)); exact BK232.out)) : gb232 ≠ gb251)); have n9_ := Aside0.mk ((by rw [hg]; exact Nat.ne_of_gt (blk_lt (g := gb232) (o := .cells #[.int .i64 a0_0, .int .i64 a0_1, .string a0_2] 23 (0, 0)) (by (with_reducible repeat (first | refine blk_drewN ?_ _ | refine blk_drew ?_ | refine blk_alloc ?_ _)); exact BK232.out)) : gb251 ≠ gb232)); have n10_ := Aside0.mk ((by rw [hg]; exact Nat.ne_of_lt (blk_lt (g := gb233) (o := .cells #[.int .i64 a1_0, .int .i64 a1_1, .string a1_2] 23 (0, 0)) (by (with_reducible repeat (first | refine blk_drewN ?_ _ | refine blk_drew ?_ | refine blk_alloc ?_ _)); exact BK233.out)) : gb233 ≠ gb251)); have n11_ := Aside0.mk ((by rw [hg]; exact Nat.ne_of_gt (blk_lt (g := gb233) (o := .cells #[.int .i64 a1_0, .int .i64 a1_1, .string a1_2] 23 (0, 0)) (by (with_reducible repeat (first | refine blk_drewN ?_ _ | refine blk_drew ?_ | refine blk_alloc ?_ _)); exact BK233.out)) : gb251 ≠ gb233)); have n12_ := Aside0.mk ((by rw [hg]; exact Nat.ne_of_lt (blk_lt (g := gb241) (o := .cells #[.int .i64 t237, .int .i64 t238, .string t239] 23 (0, 0)) (by (with_reducible repeat (first | refine blk_drewN ?_ _ | refine blk_drew ?_ | refine blk_alloc ?_ _)); exact BK241.out)) : gb241 ≠ gb251)); have n13_ := Aside0.mk ((by rw [hg]; exact Nat.ne_of_gt (blk_lt (g := gb241) (o := .cells #[.int .i64 t237, .int .i64 t238, .string t239] 23 (0, 0)) (by (with_reducible repeat (first | refine blk_drewN ?_ _ | refine blk_drew ?_ | refine blk_alloc ?_ _)); exact BK241.out)) : gb251 ≠ gb241)); have n14_ := Aside0.mk ((by rw [hg]; exact Nat.ne_of_lt (blk_lt (g := gb246) (o := .cells #[.int .i64 t242, .int .i64 t243, .string t244] 23 (0, 0)) (by (with_reducible repeat (first | refine blk_drewN ?_ _ | refine blk_drew ?_ | refine blk_alloc ?_ _)); exact BK246.out)) : gb246 ≠ gb251)); have n15_ := Aside0.mk ((by rw [hg]; exact Nat.ne_of_gt (blk_lt (g := gb246) (o := .cells #[.int .i64 t242, .int .i64 t243, .string t244] 23 (0, 0)) (by (with_reducible repeat (first | refine blk_drewN ?_ _ | refine blk_drew ?_ | refine blk_alloc ?_ _)); exact BK246.out)) : gb251 ≠ gb246)); clear BK232; clear BK233; clear BK241; clear BK246; clear HB; have BK232 := n0_; have BK233 := n1_; have BK241 := n2_; have BK246 := n3_; have HB := n4_; have BK251 := n5_; have GW251 := n6_; have GE251 := n7_; have NB232_251 := n8_; have NB251_232 := n9_; have NB233_251 := n10_; have NB251_233 := n11_; have NB241_251 := n12_; have NB251_241 := n13_; have NB246_251 := n14_; have NB251_246 := n15_; clear n0_ n1_ n2_ n3_ n4_ n5_ n6_ n7_ n8_ n9_ n10_ n11_ n12_ n13_ n14_ n15_; clear hb hbox hg; have hnb45 := NB251_232.out; have hnc45 := NB232_251.out; have hnb46 := NB251_233.out; have hnc46 := NB233_251.out; have hnb47 := NB251_241.out; have hnc47 := NB241_251.out; have hnb48 := NB251_246.out; have hnc48 := NB246_251.out; have hcz49_0 : w44.cell? ⟨gb251, 0, none⟩ = some (.int .i64 0) := (blk_cell BK251.out 0).trans rfl; have hcz49_1 : w44.cell? ⟨gb251, 1, none⟩ = some (.int .i64 0) := (blk_cell BK251.out 1).trans rfl; have hcz49_2 : w44.cell? ⟨gb251, 2, none⟩ = some (.string (⟨#[]⟩ : ByteArray)) := (blk_cell BK251.out 2).trans rfl; have hfz49_0 := blk_frozen BK251.out 0; have hfz49_1 := blk_frozen BK251.out 1; have hfz49_2 := blk_frozen BK251.out 2; have hcz50_0 : w44.cell? ⟨gb233, 0, none⟩ = some (.int .i64 a1_0) := (blk_cell BK233.out 0).trans rfl; have hcz50_1 : w44.cell? ⟨gb233, 1, none⟩ = some (.int .i64 a1_1) := (blk_cell BK233.out 1).trans rfl; have hcz50_2 : w44.cell? ⟨gb233, 2, none⟩ = some (.string a1_2) := (blk_cell BK233.out 2).trans rfl; have hfz50_0 := blk_frozen BK233.out 0; have hfz50_1 := blk_frozen BK233.out 1; have hfz50_2 := blk_frozen BK233.out 2; have hcz51_0 : w44.cell? ⟨gb232, 0, none⟩ = some (.int .i64 a0_0) := (blk_cell BK232.out 0).trans rfl; have hcz51_1 : w44.cell? ⟨gb232, 1, none⟩ = some (.int .i64 a0_1) := (blk_cell BK232.out 1).trans rfl; have hcz51_2 : w44.cell? ⟨gb232, 2, none⟩ = some (.string a0_2) := (blk_cell BK232.out 2).trans rfl; have hfz51_0 := blk_frozen BK232.out 0; have hfz51_1 := blk_frozen BK232.out 1; have hfz51_2 := blk_frozen BK232.out 2) | ((with_reducible refine gate_callee (f := 13) rfl ?_); refine goesL_ (some 45) rfl rfl Tryd.func13 (by kernel_rfl) rfl #[.string (⟨#[60]⟩ : ByteArray), .agg #[.int .i64 a1_0, .int .i64 a1_1, .string a1_2], .agg #[.int .i64 a0_0, .int .i64 a0_1, .string a0_2]] rfl (by (try simp only [List.map_toArray, List.map_cons, List.map_nil]); first | done | rfl | (simp only [List.length_drop, List.length_take]; rfl)) ?_; (with_reducible refine (value_Two.calls (hL := ?sideL) (⟨#[60]⟩ : ByteArray) a1_0 a1_1 a1_2 a0_0 a0_1 a0_2 t252 t253 t254 t255 _ A23.out).mono ?_); (case sideL => exact Laid.below HL.out (by repeat (first | (with_reducible first | exact HB.out | apply below_alloc | apply pw_below_drewN | apply below_drew1 | refine below_set ?_ GE232.out | refine below_set ?_ GE233.out | refine below_set ?_ GE241.out | refine below_set ?_ GE246.out | refine below_set ?_ GE251.out) | exact HB.out))); rintro e w52 ⟨rfl, hb⟩; refine ⟨_, rfl, ?_⟩; have n0_ := Aside0.mk (blk_below (g := gb232) (o := .cells #[.int .i64 a0_0, .int .i64 a0_1, .string a0_2] 23 (0, 0)) (by (with_reducible repeat (first | refine blk_drewN ?_ _ | refine blk_drew ?_ | refine blk_alloc ?_ _)); refine blk_far ?_ NB232_251.out _; (with_reducible repeat (first | refine blk_drewN ?_ _ | refine blk_drew ?_ | refine blk_alloc ?_ _)); refine blk_far ?_ NB232_251.out _; (with_reducible repeat (first | refine blk_drewN ?_ _ | refine blk_drew ?_ | refine blk_alloc ?_ _)); refine blk_far ?_ NB232_251.out _; (with_reducible repeat (first | refine blk_drewN ?_ _ | refine blk_drew ?_ | refine blk_alloc ?_ _)); exact BK232.out) hb); have n1_ := Aside0.mk (blk_below (g := gb233) (o := .cells #[.int .i64 a1_0, .int .i64 a1_1, .string a1_2] 23 (0, 0)) (by (with_reducible repeat (first | refine blk_drewN ?_ _ | refine blk_drew ?_ | refine blk_alloc ?_ _)); refine blk_far ?_ NB233_251.out _; (with_reducible repeat (first | refine blk_drewN ?_ _ | refine blk_drew ?_ | refine blk_alloc ?_ _)); refine blk_far ?_ NB233_251.out _; (with_reducible repeat (first | refine blk_drewN ?_ _ | refine blk_drew ?_ | refine blk_alloc ?_ _)); refine blk_far ?_ NB233_251.out _; (with_reducible repeat (first | refine blk_drewN ?_ _ | refine blk_drew ?_ | refine blk_alloc ?_ _)); exact BK233.out) hb); have n2_ := Aside0.mk (blk_below (g := gb241) (o := .cells #[.int .i64 t237, .int .i64 t238, .string t239] 23 (0, 0)) (by (with_reducible repeat (first | refine blk_drewN ?_ _ | refine blk_drew ?_ | refine blk_alloc ?_ _)); refine blk_far ?_ NB241_251.out _; (with_reducible repeat (first | refine blk_drewN ?_ _ | refine blk_drew ?_ | refine blk_alloc ?_ _)); refine blk_far ?_ NB241_251.out _; (with_reducible repeat (first | refine blk_drewN ?_ _ | refine blk_drew ?_ | refine blk_alloc ?_ _)); refine blk_far ?_ NB241_251.out _; (with_reducible repeat (first | refine blk_drewN ?_ _ | refine blk_drew ?_ | refine blk_alloc ?_ _)); exact BK241.out) hb); have n3_ := Aside0.mk (blk_below (g := gb246) (o := .cells #[.int .i64 t242, .int .i64 t243, .string t244] 23 (0, 0)) (by (with_reducible repeat (first | refine blk_drewN ?_ _ | refine blk_drew ?_ | refine blk_alloc ?_ _)); refine blk_far ?_ NB246_251.out _; (with_reducible repeat (first | refine blk_drewN ?_ _ | refine blk_drew ?_ | refine blk_alloc ?_ _)); refine blk_far ?_ NB246_251.out _; (with_reducible repeat (first | refine blk_drewN ?_ _ | refine blk_drew ?_ | refine blk_alloc ?_ _)); refine blk_far ?_ NB246_251.out _; (with_reducible repeat (first | refine blk_drewN ?_ _ | refine blk_drew ?_ | refine blk_alloc ?_ _)); exact BK246.out) hb); have n4_ := Aside0.mk (blk_below (g := gb251) (o := .cells #[.int .i64 t247, .int .i64 t248, .string t249] 23 (0, 0)) (by (with_reducible repeat (first | refine blk_drewN ?_ _ | refine blk_drew ?_ | refine blk_alloc ?_ _)); refine blk_put (cs := #[.int .i64 t247, .int .i64 t248, .string (⟨#[]⟩ : ByteArray)]) ?_ 2 _ rfl; (with_reducible repeat (first | refine blk_drewN ?_ _ | refine blk_drew ?_ | refine blk_alloc ?_ _)); refine blk_put (cs := #[.int .i64 t247, .int .i64 0, .string (⟨#[]⟩ : ByteArray)]) ?_ 1 _ rfl; (with_reducible repeat (first | refine blk_drewN ?_ _ | refine blk_drew ?_ | refine blk_alloc ?_ _)); refine blk_put (cs := #[.int .i64 0, .int .i64 0, .string (⟨#[]⟩ : ByteArray)]) ?_ 0 _ rfl; (with_reducible repeat (first | refine blk_drewN ?_ _ | refine blk_drew ?_ | refine blk_alloc ?_ _)); exact BK251.out) hb); have n5_ := Aside0.mk (below_step (by repeat (first | (with_reducible first | exact HB.out | apply below_alloc | apply pw_below_drewN | apply below_drew1 | refine below_set ?_ GE232.out | refine below_set ?_ GE233.out | refine below_set ?_ GE241.out | refine below_set ?_ GE246.out | refine below_set ?_ GE251.out) | exact HB.out)) hb); clear BK232; clear BK233; clear BK241; clear BK246; clear BK251; clear HB; have BK232 := n0_; have BK233 := n1_; have BK241 := n2_; have BK246 := n3_; have BK251 := n4_; have HB := n5_; clear n0_ n1_ n2_ n3_ n4_ n5_; (try clear hb); (try clear hb2); (try clear hk); (try clear hi)) | ((with_reducible refine gate_dst (N := 12) rfl ?_); refine box_event ?hg (N := 12) ?hd (cs := #[.int .i64 0, .int .i64 0, .string (⟨#[]⟩ : ByteArray)]) (t := 23) ?hr ?_; (case hd => rfl); (case hg => rfl); (case hr => first | (go_simp; done) | (go_simp; rfl)); intro gb256 hg w53 hbox hb; have n0_ := Aside0.mk (blk_below (g := gb232) (o := .cells #[.int .i64 a0_0, .int .i64 a0_1, .string a0_2] 23 (0, 0)) (by (with_reducible repeat (first | refine blk_drewN ?_ _ | refine blk_drew ?_ | refine blk_alloc ?_ _)); exact BK232.out) hb); have n1_ := Aside0.mk (blk_below (g := gb233) (o := .cells #[.int .i64 a1_0, .int .i64 a1_1, .string a1_2] 23 (0, 0)) (by (with_reducible repeat (first | refine blk_drewN ?_ _ | refine blk_drew ?_ | refine blk_alloc ?_ _)); exact BK233.out) hb); have n2_ := Aside0.mk (blk_below (g := gb241) (o := .cells #[.int .i64 t237, .int .i64 t238, .string t239] 23 (0, 0)) (by (with_reducible repeat (first | refine blk_drewN ?_ _ | refine blk_drew ?_ | refine blk_alloc ?_ _)); exact BK241.out) hb); have n3_ := Aside0.mk (blk_below (g := gb246) (o := .cells #[.int .i64 t242, .int .i64 t243, .string t244] 23 (0, 0)) (by (with_reducible repeat (first | refine blk_drewN ?_ _ | refine blk_drew ?_ | refine blk_alloc ?_ _)); exact BK246.out) hb); have n4_ := Aside0.mk (blk_below (g := gb251) (o := .cells #[.int .i64 t247, .int .i64 t248, .string t249] 23 (0, 0)) (by (with_reducible repeat (first | refine blk_drewN ?_ _ | refine blk_drew ?_ | refine blk_alloc ?_ _)); exact BK251.out) hb); have n5_ := Aside0.mk (below_step (by repeat (first | (with_reducible first | exact HB.out | apply below_alloc | apply pw_below_drewN | apply below_drew1 | refine below_set ?_ GE232.out | refine below_set ?_ GE233.out | refine below_set ?_ GE241.out | refine below_set ?_ GE246.out | refine below_set ?_ GE251.out) | exact HB.out)) hb); have n6_ := Aside0.mk (hbox); have n7_ := Aside0.mk ((by rw [hg]; exact (below_size (by repeat (first | (with_reducible first | exact HB.out | apply below_alloc | apply pw_below_drewN | apply below_drew1 | refine below_set ?_ GE232.out | refine below_set ?_ GE233.out | refine below_set ?_ GE241.out | refine below_set ?_ GE246.out | refine below_set ?_ GE251.out) | exact HB.out))) : w.heap.size ≤ gb256)); have n8_ := Aside0.mk ((by rw [hg]; exact (below_size (by repeat (first | (with_reducible first | exact HB.out | apply below_alloc | apply pw_below_drewN | apply below_drew1 | refine below_set ?_ GE232.out | refine below_set ?_ GE233.out | refine below_set ?_ GE241.out | refine below_set ?_ GE246.out | refine below_set ?_ GE251.out) | exact HB.out))) : w.heap.size ≤ gb256)); have n9_ := Aside0.mk ((by rw [hg]; exact Nat.ne_of_lt (blk_lt (g := gb232) (o := .cells #[.int .i64 a0_0, .int .i64 a0_1, .string a0_2] 23 (0, 0)) (by (with_reducible repeat (first | refine blk_drewN ?_ _ | refine blk_drew ?_ | refine blk_alloc ?_ _)); exact BK232.out)) : gb232 ≠ gb256)); have n10_ := Aside0.mk ((by rw [hg]; exact Nat.ne_of_gt (blk_lt (g := gb232) (o := .cells #[.int .i64 a0_0, .int .i64 a0_1, .string a0_2] 23 (0, 0)) (by (with_reducible repeat (first | refine blk_drewN ?_ _ | refine blk_drew ?_ | refine blk_alloc ?_ _)); exact BK232.out)) : gb256 ≠ gb232)); have n11_ := Aside0.mk ((by rw [hg]; exact Nat.ne_of_lt (blk_lt (g := gb233) (o := .cells #[.int .i64 a1_0, .int .i64 a1_1, .string a1_2] 23 (0, 0)) (by (with_reducible repeat (first | refine blk_drewN ?_ _ | refine blk_drew ?_ | refine blk_alloc ?_ _)); exact BK233.out)) : gb233 ≠ gb256)); have n12_ := Aside0.mk ((by rw [hg]; exact Nat.ne_of_gt (blk_lt (g := gb233) (o := .cells #[.int .i64 a1_0, .int .i64 a1_1, .string a1_2] 23 (0, 0)) (by (with_reducible repeat (first | refine blk_drewN ?_ _ | refine blk_drew ?_ | refine blk_alloc ?_ _)); exact BK233.out)) : gb256 ≠ gb233)); have n13_ := Aside0.mk ((by rw [hg]; exact Nat.ne_of_lt (blk_lt (g := gb241) (o := .cells #[.int .i64 t237, .int .i64 t238, .string t239] 23 (0, 0)) (by (with_reducible repeat (first | refine blk_drewN ?_ _ | refine blk_drew ?_ | refine blk_alloc ?_ _)); exact BK241.out)) : gb241 ≠ gb256)); have n14_ := Aside0.mk ((by rw [hg]; exact Nat.ne_of_gt (blk_lt (g := gb241) (o := .cells #[.int .i64 t237, .int .i64 t238, .string t239] 23 (0, 0)) (by (with_reducible repeat (first | refine blk_drewN ?_ _ | refine blk_drew ?_ | refine blk_alloc ?_ _)); exact BK241.out)) : gb256 ≠ gb241)); have n15_ := Aside0.mk ((by rw [hg]; exact Nat.ne_of_lt (blk_lt (g := gb246) (o := .cells #[.int .i64 t242, .int .i64 t243, .string t244] 23 (0, 0)) (by (with_reducible repeat (first | refine blk_drewN ?_ _ | refine blk_drew ?_ | refine blk_alloc ?_ _)); exact BK246.out)) : gb246 ≠ gb256)); have n16_ := Aside0.mk ((by rw [hg]; exact Nat.ne_of_gt (blk_lt (g := gb246) (o := .cells #[.int .i64 t242, .int .i64 t243, .string t244] 23 (0, 0)) (by (with_reducible repeat (first | refine blk_drewN ?_ _ | refine blk_drew ?_ | refine blk_alloc ?_ _)); exact BK246.out)) : gb256 ≠ gb246)); have n17_ := Aside0.mk ((by rw [hg]; exact Nat.ne_of_lt (blk_lt (g := gb251) (o := .cells #[.int .i64 t247, .int .i64 t248, .string t249] 23 (0, 0)) (by (with_reducible repeat (first | refine blk_drewN ?_ _ | refine blk_drew ?_ | refine blk_alloc ?_ _)); exact BK251.out)) : gb251 ≠ gb256)); have n18_ := Aside0.mk ((by rw [hg]; exact Nat.ne_of_gt (blk_lt (g := gb251) (o := .cells #[.int .i64 t247, .int .i64 t248, .string t249] 23 (0, 0)) (by (with_reducible repeat (first | refine blk_drewN ?_ _ | refine blk_drew ?_ | refine blk_alloc ?_ _)); exact BK251.out)) : gb256 ≠ gb251)); clear BK232; clear BK233; clear BK241; clear BK246; clear BK251; clear HB; have BK232 := n0_; have BK233 := n1_; have BK241 := n2_; have BK246 := n3_; have BK251 := n4_; have HB := n5_; have BK256 := n6_; have GW256 := n7_; have GE256 := n8_; have NB232_256 := n9_; have NB256_232 := n10_; have NB233_256 := n11_; have NB256_233 := n12_; have NB241_256 := n13_; have NB256_241 := n14_; have NB246_256 := n15_; have NB256_246 := n16_; have NB251_256 := n17_; have NB256_251 := n18_; clear n0_ n1_ n2_ n3_ n4_ n5_ n6_ n7_ n8_ n9_ n10_ n11_ n12_ n13_ n14_ n15_ n16_ n17_ n18_; clear hb hbox hg; have hnb54 := NB256_232.out; have hnc54 := NB232_256.out; have hnb55 := NB256_233.out; have hnc55 := NB233_256.out; have hnb56 := NB256_241.out; have hnc56 := NB241_256.out; have hnb57 := NB256_246.out; have hnc57 := NB246_256.out; have hnb58 := NB256_251.out; have hnc58 := NB251_256.out; have hcz59_0 : w53.cell? ⟨gb256, 0, none⟩ = some (.int .i64 0) := (blk_cell BK256.out 0).trans rfl; have hcz59_1 : w53.cell? ⟨gb256, 1, none⟩ = some (.int .i64 0) := (blk_cell BK256.out 1).trans rfl; have hcz59_2 : w53.cell? ⟨gb256, 2, none⟩ = some (.string (⟨#[]⟩ : ByteArray)) := (blk_cell BK256.out 2).trans rfl; have hfz59_0 := blk_frozen BK256.out 0; have hfz59_1 := blk_frozen BK256.out 1; have hfz59_2 := blk_frozen BK256.out 2))
        (try simp only [Act.put, List.setIfInBounds_toArray, List.set_cons_zero, List.set_cons_succ])
        go_cut [61] (fun v61 wc => ∃ (kq : Nat) (x61_23 : Bool), v61 = .bool x61_23 ∧ Aside0 (gumshoelaw06_ValueOrders.j1 kq t234 x61_23 t237 t238 t239 t242 t243 t244 t247 t248 t249 t252 t253 t254 = some r) ∧ Aside0 (kq ≤ kj3) ∧ Aside0 (wc.heap[gb232]? = some (.cells #[.int .i64 a0_0, .int .i64 a0_1, .string a0_2] 23 (0, 0))) ∧ Aside0 (wc.heap[gb233]? = some (.cells #[.int .i64 a1_0, .int .i64 a1_1, .string a1_2] 23 (0, 0))) ∧ Aside0 (wc.heap[gb241]? = some (.cells #[.int .i64 t237, .int .i64 t238, .string t239] 23 (0, 0))) ∧ Aside0 (wc.heap[gb246]? = some (.cells #[.int .i64 t242, .int .i64 t243, .string t244] 23 (0, 0))) ∧ Aside0 (wc.heap[gb251]? = some (.cells #[.int .i64 t247, .int .i64 t248, .string t249] 23 (0, 0))) ∧ Aside0 (wc.heap[gb256]? = some (.cells #[.int .i64 t252, .int .i64 t253, .string t254] 23 (0, 0))) ∧ Aside0 (Below w.heap.size w wc))
        case first =>
          have H := HC24.out
          clear HC24
          by_cases c60 : t240 = 0
          · rw [if_pos c60] at H
            have c60b0 : (t240 == 0) = true := beq_iff_eq.mpr c60
            have c60b1 : (t240 != 0) = false := bne_eq_false_iff_eq.mpr c60
            clear c60
            (first | rw [c60b0] | (simp only [i64_w, i32_w]; rw [c60b0]) | skip)
            by_cases c61 : t245 = 0
            · rw [if_pos c61] at H
              have c61b0 : (t245 == 0) = true := beq_iff_eq.mpr c61
              have c61b1 : (t245 != 0) = false := bne_eq_false_iff_eq.mpr c61
              clear c61
              by_cases c62 : t250 = 0
              · rw [if_pos c62] at H
                have c62b0 : (t250 == 0) = true := beq_iff_eq.mpr c62
                have c62b1 : (t250 != 0) = false := bne_eq_false_iff_eq.mpr c62
                clear c62
                have H' := Aside0.mk H
                clear H
                go_wp2
                go_meet
                case rel => exact ⟨_, ((t255 != 0)), (by first | rfl | (simp; done) | (simp [*]; done) | (simp [*]; exact (fun (l_ : List UInt8) => (by cases l_ <;> rfl : l_.isEmpty = !(l_ != []))) _)), H', ⟨by have := HJ3.out; first | omega | exact Nat.le_refl _⟩, ⟨by (with_reducible repeat (first | refine blk_drewN ?_ _ | refine blk_drew ?_ | refine blk_alloc ?_ _)); refine blk_far ?_ NB232_256.out _; (with_reducible repeat (first | refine blk_drewN ?_ _ | refine blk_drew ?_ | refine blk_alloc ?_ _)); refine blk_far ?_ NB232_256.out _; (with_reducible repeat (first | refine blk_drewN ?_ _ | refine blk_drew ?_ | refine blk_alloc ?_ _)); refine blk_far ?_ NB232_256.out _; (with_reducible repeat (first | refine blk_drewN ?_ _ | refine blk_drew ?_ | refine blk_alloc ?_ _)); exact BK232.out⟩, ⟨by (with_reducible repeat (first | refine blk_drewN ?_ _ | refine blk_drew ?_ | refine blk_alloc ?_ _)); refine blk_far ?_ NB233_256.out _; (with_reducible repeat (first | refine blk_drewN ?_ _ | refine blk_drew ?_ | refine blk_alloc ?_ _)); refine blk_far ?_ NB233_256.out _; (with_reducible repeat (first | refine blk_drewN ?_ _ | refine blk_drew ?_ | refine blk_alloc ?_ _)); refine blk_far ?_ NB233_256.out _; (with_reducible repeat (first | refine blk_drewN ?_ _ | refine blk_drew ?_ | refine blk_alloc ?_ _)); exact BK233.out⟩, ⟨by (with_reducible repeat (first | refine blk_drewN ?_ _ | refine blk_drew ?_ | refine blk_alloc ?_ _)); refine blk_far ?_ NB241_256.out _; (with_reducible repeat (first | refine blk_drewN ?_ _ | refine blk_drew ?_ | refine blk_alloc ?_ _)); refine blk_far ?_ NB241_256.out _; (with_reducible repeat (first | refine blk_drewN ?_ _ | refine blk_drew ?_ | refine blk_alloc ?_ _)); refine blk_far ?_ NB241_256.out _; (with_reducible repeat (first | refine blk_drewN ?_ _ | refine blk_drew ?_ | refine blk_alloc ?_ _)); exact BK241.out⟩, ⟨by (with_reducible repeat (first | refine blk_drewN ?_ _ | refine blk_drew ?_ | refine blk_alloc ?_ _)); refine blk_far ?_ NB246_256.out _; (with_reducible repeat (first | refine blk_drewN ?_ _ | refine blk_drew ?_ | refine blk_alloc ?_ _)); refine blk_far ?_ NB246_256.out _; (with_reducible repeat (first | refine blk_drewN ?_ _ | refine blk_drew ?_ | refine blk_alloc ?_ _)); refine blk_far ?_ NB246_256.out _; (with_reducible repeat (first | refine blk_drewN ?_ _ | refine blk_drew ?_ | refine blk_alloc ?_ _)); exact BK246.out⟩, ⟨by (with_reducible repeat (first | refine blk_drewN ?_ _ | refine blk_drew ?_ | refine blk_alloc ?_ _)); refine blk_far ?_ NB251_256.out _; (with_reducible repeat (first | refine blk_drewN ?_ _ | refine blk_drew ?_ | refine blk_alloc ?_ _)); refine blk_far ?_ NB251_256.out _; (with_reducible repeat (first | refine blk_drewN ?_ _ | refine blk_drew ?_ | refine blk_alloc ?_ _)); refine blk_far ?_ NB251_256.out _; (with_reducible repeat (first | refine blk_drewN ?_ _ | refine blk_drew ?_ | refine blk_alloc ?_ _)); exact BK251.out⟩, ⟨by (with_reducible repeat (first | refine blk_drewN ?_ _ | refine blk_drew ?_ | refine blk_alloc ?_ _)); refine blk_put (cs := #[.int .i64 t252, .int .i64 t253, .string (⟨#[]⟩ : ByteArray)]) ?_ 2 _ rfl; (with_reducible repeat (first | refine blk_drewN ?_ _ | refine blk_drew ?_ | refine blk_alloc ?_ _)); refine blk_put (cs := #[.int .i64 t252, .int .i64 0, .string (⟨#[]⟩ : ByteArray)]) ?_ 1 _ rfl; (with_reducible repeat (first | refine blk_drewN ?_ _ | refine blk_drew ?_ | refine blk_alloc ?_ _)); refine blk_put (cs := #[.int .i64 0, .int .i64 0, .string (⟨#[]⟩ : ByteArray)]) ?_ 0 _ rfl; (with_reducible repeat (first | refine blk_drewN ?_ _ | refine blk_drew ?_ | refine blk_alloc ?_ _)); exact BK256.out⟩, ⟨by repeat (first | (with_reducible first | exact HB.out | apply below_alloc | apply pw_below_drewN | apply below_drew1 | refine below_set ?_ GE232.out | refine below_set ?_ GE233.out | refine below_set ?_ GE241.out | refine below_set ?_ GE246.out | refine below_set ?_ GE251.out | refine below_set ?_ GE256.out) | exact HB.out)⟩⟩
              · rw [if_neg c62] at H
                have c62b0 : (t250 == 0) = false := beq_eq_false_iff_ne.mpr c62
                have c62b1 : (t250 != 0) = true := bne_iff_ne.mpr c62
                have H' := Aside0.mk H
                clear H
                go_wp2
                go_meet
                case rel => exact ⟨_, (true), (by first | rfl | (simp; done) | (simp [*]; done) | (simp [*]; exact (fun (l_ : List UInt8) => (by cases l_ <;> rfl : l_.isEmpty = !(l_ != []))) _)), H', ⟨by have := HJ3.out; first | omega | exact Nat.le_refl _⟩, ⟨by (with_reducible repeat (first | refine blk_drewN ?_ _ | refine blk_drew ?_ | refine blk_alloc ?_ _)); refine blk_far ?_ NB232_256.out _; (with_reducible repeat (first | refine blk_drewN ?_ _ | refine blk_drew ?_ | refine blk_alloc ?_ _)); refine blk_far ?_ NB232_256.out _; (with_reducible repeat (first | refine blk_drewN ?_ _ | refine blk_drew ?_ | refine blk_alloc ?_ _)); refine blk_far ?_ NB232_256.out _; (with_reducible repeat (first | refine blk_drewN ?_ _ | refine blk_drew ?_ | refine blk_alloc ?_ _)); exact BK232.out⟩, ⟨by (with_reducible repeat (first | refine blk_drewN ?_ _ | refine blk_drew ?_ | refine blk_alloc ?_ _)); refine blk_far ?_ NB233_256.out _; (with_reducible repeat (first | refine blk_drewN ?_ _ | refine blk_drew ?_ | refine blk_alloc ?_ _)); refine blk_far ?_ NB233_256.out _; (with_reducible repeat (first | refine blk_drewN ?_ _ | refine blk_drew ?_ | refine blk_alloc ?_ _)); refine blk_far ?_ NB233_256.out _; (with_reducible repeat (first | refine blk_drewN ?_ _ | refine blk_drew ?_ | refine blk_alloc ?_ _)); exact BK233.out⟩, ⟨by (with_reducible repeat (first | refine blk_drewN ?_ _ | refine blk_drew ?_ | refine blk_alloc ?_ _)); refine blk_far ?_ NB241_256.out _; (with_reducible repeat (first | refine blk_drewN ?_ _ | refine blk_drew ?_ | refine blk_alloc ?_ _)); refine blk_far ?_ NB241_256.out _; (with_reducible repeat (first | refine blk_drewN ?_ _ | refine blk_drew ?_ | refine blk_alloc ?_ _)); refine blk_far ?_ NB241_256.out _; (with_reducible repeat (first | refine blk_drewN ?_ _ | refine blk_drew ?_ | refine blk_alloc ?_ _)); exact BK241.out⟩, ⟨by (with_reducible repeat (first | refine blk_drewN ?_ _ | refine blk_drew ?_ | refine blk_alloc ?_ _)); refine blk_far ?_ NB246_256.out _; (with_reducible repeat (first | refine blk_drewN ?_ _ | refine blk_drew ?_ | refine blk_alloc ?_ _)); refine blk_far ?_ NB246_256.out _; (with_reducible repeat (first | refine blk_drewN ?_ _ | refine blk_drew ?_ | refine blk_alloc ?_ _)); refine blk_far ?_ NB246_256.out _; (with_reducible repeat (first | refine blk_drewN ?_ _ | refine blk_drew ?_ | refine blk_alloc ?_ _)); exact BK246.out⟩, ⟨by (with_reducible repeat (first | refine blk_drewN ?_ _ | refine blk_drew ?_ | refine blk_alloc ?_ _)); refine blk_far ?_ NB251_256.out _; (with_reducible repeat (first | refine blk_drewN ?_ _ | refine blk_drew ?_ | refine blk_alloc ?_ _)); refine blk_far ?_ NB251_256.out _; (with_reducible repeat (first | refine blk_drewN ?_ _ | refine blk_drew ?_ | refine blk_alloc ?_ _)); refine blk_far ?_ NB251_256.out _; (with_reducible repeat (first | refine blk_drewN ?_ _ | refine blk_drew ?_ | refine blk_alloc ?_ _)); exact BK251.out⟩, ⟨by (with_reducible repeat (first | refine blk_drewN ?_ _ | refine blk_drew ?_ | refine blk_alloc ?_ _)); refine blk_put (cs := #[.int .i64 t252, .int .i64 t253, .string (⟨#[]⟩ : ByteArray)]) ?_ 2 _ rfl; (with_reducible repeat (first | refine blk_drewN ?_ _ | refine blk_drew ?_ | refine blk_alloc ?_ _)); refine blk_put (cs := #[.int .i64 t252, .int .i64 0, .string (⟨#[]⟩ : ByteArray)]) ?_ 1 _ rfl; (with_reducible repeat (first | refine blk_drewN ?_ _ | refine blk_drew ?_ | refine blk_alloc ?_ _)); refine blk_put (cs := #[.int .i64 0, .int .i64 0, .string (⟨#[]⟩ : ByteArray)]) ?_ 0 _ rfl; (with_reducible repeat (first | refine blk_drewN ?_ _ | refine blk_drew ?_ | refine blk_alloc ?_ _)); exact BK256.out⟩, ⟨by repeat (first | (with_reducible first | exact HB.out | apply below_alloc | apply pw_below_drewN | apply below_drew1 | refine below_set ?_ GE232.out | refine below_set ?_ GE233.out | refine below_set ?_ GE241.out | refine below_set ?_ GE246.out | refine below_set ?_ GE251.out | refine below_set ?_ GE256.out) | exact HB.out)⟩⟩
            · rw [if_neg c61] at H
              have c61b0 : (t245 == 0) = false := beq_eq_false_iff_ne.mpr c61
              have c61b1 : (t245 != 0) = true := bne_iff_ne.mpr c61
              have H' := Aside0.mk H
              clear H
              go_wp2
              go_meet
              case rel => exact ⟨_, (true), (by first | rfl | (simp; done) | (simp [*]; done) | (simp [*]; exact (fun (l_ : List UInt8) => (by cases l_ <;> rfl : l_.isEmpty = !(l_ != []))) _)), H', ⟨by have := HJ3.out; first | omega | exact Nat.le_refl _⟩, ⟨by (with_reducible repeat (first | refine blk_drewN ?_ _ | refine blk_drew ?_ | refine blk_alloc ?_ _)); refine blk_far ?_ NB232_256.out _; (with_reducible repeat (first | refine blk_drewN ?_ _ | refine blk_drew ?_ | refine blk_alloc ?_ _)); refine blk_far ?_ NB232_256.out _; (with_reducible repeat (first | refine blk_drewN ?_ _ | refine blk_drew ?_ | refine blk_alloc ?_ _)); refine blk_far ?_ NB232_256.out _; (with_reducible repeat (first | refine blk_drewN ?_ _ | refine blk_drew ?_ | refine blk_alloc ?_ _)); exact BK232.out⟩, ⟨by (with_reducible repeat (first | refine blk_drewN ?_ _ | refine blk_drew ?_ | refine blk_alloc ?_ _)); refine blk_far ?_ NB233_256.out _; (with_reducible repeat (first | refine blk_drewN ?_ _ | refine blk_drew ?_ | refine blk_alloc ?_ _)); refine blk_far ?_ NB233_256.out _; (with_reducible repeat (first | refine blk_drewN ?_ _ | refine blk_drew ?_ | refine blk_alloc ?_ _)); refine blk_far ?_ NB233_256.out _; (with_reducible repeat (first | refine blk_drewN ?_ _ | refine blk_drew ?_ | refine blk_alloc ?_ _)); exact BK233.out⟩, ⟨by (with_reducible repeat (first | refine blk_drewN ?_ _ | refine blk_drew ?_ | refine blk_alloc ?_ _)); refine blk_far ?_ NB241_256.out _; (with_reducible repeat (first | refine blk_drewN ?_ _ | refine blk_drew ?_ | refine blk_alloc ?_ _)); refine blk_far ?_ NB241_256.out _; (with_reducible repeat (first | refine blk_drewN ?_ _ | refine blk_drew ?_ | refine blk_alloc ?_ _)); refine blk_far ?_ NB241_256.out _; (with_reducible repeat (first | refine blk_drewN ?_ _ | refine blk_drew ?_ | refine blk_alloc ?_ _)); exact BK241.out⟩, ⟨by (with_reducible repeat (first | refine blk_drewN ?_ _ | refine blk_drew ?_ | refine blk_alloc ?_ _)); refine blk_far ?_ NB246_256.out _; (with_reducible repeat (first | refine blk_drewN ?_ _ | refine blk_drew ?_ | refine blk_alloc ?_ _)); refine blk_far ?_ NB246_256.out _; (with_reducible repeat (first | refine blk_drewN ?_ _ | refine blk_drew ?_ | refine blk_alloc ?_ _)); refine blk_far ?_ NB246_256.out _; (with_reducible repeat (first | refine blk_drewN ?_ _ | refine blk_drew ?_ | refine blk_alloc ?_ _)); exact BK246.out⟩, ⟨by (with_reducible repeat (first | refine blk_drewN ?_ _ | refine blk_drew ?_ | refine blk_alloc ?_ _)); refine blk_far ?_ NB251_256.out _; (with_reducible repeat (first | refine blk_drewN ?_ _ | refine blk_drew ?_ | refine blk_alloc ?_ _)); refine blk_far ?_ NB251_256.out _; (with_reducible repeat (first | refine blk_drewN ?_ _ | refine blk_drew ?_ | refine blk_alloc ?_ _)); refine blk_far ?_ NB251_256.out _; (with_reducible repeat (first | refine blk_drewN ?_ _ | refine blk_drew ?_ | refine blk_alloc ?_ _)); exact BK251.out⟩, ⟨by (with_reducible repeat (first | refine blk_drewN ?_ _ | refine blk_drew ?_ | refine blk_alloc ?_ _)); refine blk_put (cs := #[.int .i64 t252, .int .i64 t253, .string (⟨#[]⟩ : ByteArray)]) ?_ 2 _ rfl; (with_reducible repeat (first | refine blk_drewN ?_ _ | refine blk_drew ?_ | refine blk_alloc ?_ _)); refine blk_put (cs := #[.int .i64 t252, .int .i64 0, .string (⟨#[]⟩ : ByteArray)]) ?_ 1 _ rfl; (with_reducible repeat (first | refine blk_drewN ?_ _ | refine blk_drew ?_ | refine blk_alloc ?_ _)); refine blk_put (cs := #[.int .i64 0, .int .i64 0, .string (⟨#[]⟩ : ByteArray)]) ?_ 0 _ rfl; (with_reducible repeat (first | refine blk_drewN ?_ _ | refine blk_drew ?_ | refine blk_alloc ?_ _)); exact BK256.out⟩, ⟨by repeat (first | (with_reducible first | exact HB.out | apply below_alloc | apply pw_below_drewN | apply below_drew1 | refine below_set ?_ GE232.out | refine below_set ?_ GE233.out | refine below_set ?_ GE241.out | refine below_set ?_ GE246.out | refine below_set ?_ GE251.out | refine below_set ?_ GE256.out) | exact HB.out)⟩⟩
          · rw [if_neg c60] at H
            have c60b0 : (t240 == 0) = false := beq_eq_false_iff_ne.mpr c60
            have c60b1 : (t240 != 0) = true := bne_iff_ne.mpr c60
            (first | rw [c60b0] | (simp only [i64_w, i32_w]; rw [c60b0]) | skip)
            have H' := Aside0.mk H
            clear H
            go_wp2
            go_meet
            case rel => exact ⟨_, (true), (by first | rfl | (simp; done) | (simp [*]; done) | (simp [*]; exact (fun (l_ : List UInt8) => (by cases l_ <;> rfl : l_.isEmpty = !(l_ != []))) _)), H', ⟨by have := HJ3.out; first | omega | exact Nat.le_refl _⟩, ⟨by (with_reducible repeat (first | refine blk_drewN ?_ _ | refine blk_drew ?_ | refine blk_alloc ?_ _)); refine blk_far ?_ NB232_256.out _; (with_reducible repeat (first | refine blk_drewN ?_ _ | refine blk_drew ?_ | refine blk_alloc ?_ _)); refine blk_far ?_ NB232_256.out _; (with_reducible repeat (first | refine blk_drewN ?_ _ | refine blk_drew ?_ | refine blk_alloc ?_ _)); refine blk_far ?_ NB232_256.out _; (with_reducible repeat (first | refine blk_drewN ?_ _ | refine blk_drew ?_ | refine blk_alloc ?_ _)); exact BK232.out⟩, ⟨by (with_reducible repeat (first | refine blk_drewN ?_ _ | refine blk_drew ?_ | refine blk_alloc ?_ _)); refine blk_far ?_ NB233_256.out _; (with_reducible repeat (first | refine blk_drewN ?_ _ | refine blk_drew ?_ | refine blk_alloc ?_ _)); refine blk_far ?_ NB233_256.out _; (with_reducible repeat (first | refine blk_drewN ?_ _ | refine blk_drew ?_ | refine blk_alloc ?_ _)); refine blk_far ?_ NB233_256.out _; (with_reducible repeat (first | refine blk_drewN ?_ _ | refine blk_drew ?_ | refine blk_alloc ?_ _)); exact BK233.out⟩, ⟨by (with_reducible repeat (first | refine blk_drewN ?_ _ | refine blk_drew ?_ | refine blk_alloc ?_ _)); refine blk_far ?_ NB241_256.out _; (with_reducible repeat (first | refine blk_drewN ?_ _ | refine blk_drew ?_ | refine blk_alloc ?_ _)); refine blk_far ?_ NB241_256.out _; (with_reducible repeat (first | refine blk_drewN ?_ _ | refine blk_drew ?_ | refine blk_alloc ?_ _)); refine blk_far ?_ NB241_256.out _; (with_reducible repeat (first | refine blk_drewN ?_ _ | refine blk_drew ?_ | refine blk_alloc ?_ _)); exact BK241.out⟩, ⟨by (with_reducible repeat (first | refine blk_drewN ?_ _ | refine blk_drew ?_ | refine blk_alloc ?_ _)); refine blk_far ?_ NB246_256.out _; (with_reducible repeat (first | refine blk_drewN ?_ _ | refine blk_drew ?_ | refine blk_alloc ?_ _)); refine blk_far ?_ NB246_256.out _; (with_reducible repeat (first | refine blk_drewN ?_ _ | refine blk_drew ?_ | refine blk_alloc ?_ _)); refine blk_far ?_ NB246_256.out _; (with_reducible repeat (first | refine blk_drewN ?_ _ | refine blk_drew ?_ | refine blk_alloc ?_ _)); exact BK246.out⟩, ⟨by (with_reducible repeat (first | refine blk_drewN ?_ _ | refine blk_drew ?_ | refine blk_alloc ?_ _)); refine blk_far ?_ NB251_256.out _; (with_reducible repeat (first | refine blk_drewN ?_ _ | refine blk_drew ?_ | refine blk_alloc ?_ _)); refine blk_far ?_ NB251_256.out _; (with_reducible repeat (first | refine blk_drewN ?_ _ | refine blk_drew ?_ | refine blk_alloc ?_ _)); refine blk_far ?_ NB251_256.out _; (with_reducible repeat (first | refine blk_drewN ?_ _ | refine blk_drew ?_ | refine blk_alloc ?_ _)); exact BK251.out⟩, ⟨by (with_reducible repeat (first | refine blk_drewN ?_ _ | refine blk_drew ?_ | refine blk_alloc ?_ _)); refine blk_put (cs := #[.int .i64 t252, .int .i64 t253, .string (⟨#[]⟩ : ByteArray)]) ?_ 2 _ rfl; (with_reducible repeat (first | refine blk_drewN ?_ _ | refine blk_drew ?_ | refine blk_alloc ?_ _)); refine blk_put (cs := #[.int .i64 t252, .int .i64 0, .string (⟨#[]⟩ : ByteArray)]) ?_ 1 _ rfl; (with_reducible repeat (first | refine blk_drewN ?_ _ | refine blk_drew ?_ | refine blk_alloc ?_ _)); refine blk_put (cs := #[.int .i64 0, .int .i64 0, .string (⟨#[]⟩ : ByteArray)]) ?_ 0 _ rfl; (with_reducible repeat (first | refine blk_drewN ?_ _ | refine blk_drew ?_ | refine blk_alloc ?_ _)); exact BK256.out⟩, ⟨by repeat (first | (with_reducible first | exact HB.out | apply below_alloc | apply pw_below_drewN | apply below_drew1 | refine below_set ?_ GE232.out | refine below_set ?_ GE233.out | refine below_set ?_ GE241.out | refine below_set ?_ GE246.out | refine below_set ?_ GE251.out | refine below_set ?_ GE256.out) | exact HB.out)⟩⟩
        case rest =>
          clear HC24
          try clear c1
          try clear c2
          try clear p2
          try clear c3
          try clear c4
          try clear c5
          try clear c6
          try clear c7
          try clear c9
          try clear c11
          try clear c13
          try clear c16
          try clear c19
          try clear c25
          try clear c30
          try clear c31
          try clear c37
          try clear c38
          try clear c39
          try clear c45
          try clear c46
          try clear c47
          try clear c48
          try clear c54
          try clear c55
          try clear c56
          try clear c57
          try clear c58
          try clear c60
          try clear c60b0
          try clear c60b1
          try clear c61
          try clear c61b0
          try clear c61b1
          try clear c62
          try clear c62b0
          try clear c62b1
          try clear hcz12_0
          try clear hcz12_1
          try clear hcz12_2
          try clear hcz14_0
          try clear hcz14_1
          try clear hcz14_2
          try clear hcz17_0
          try clear hcz17_1
          try clear hcz17_2
          try clear hcz26_0
          try clear hcz26_1
          try clear hcz26_2
          try clear hcz27_0
          try clear hcz27_1
          try clear hcz27_2
          try clear hcz32_0
          try clear hcz32_1
          try clear hcz32_2
          try clear hcz33_0
          try clear hcz33_1
          try clear hcz33_2
          try clear hcz34_0
          try clear hcz34_1
          try clear hcz34_2
          try clear hcz40_0
          try clear hcz40_1
          try clear hcz40_2
          try clear hcz41_0
          try clear hcz41_1
          try clear hcz41_2
          try clear hcz42_0
          try clear hcz42_1
          try clear hcz42_2
          try clear hcz49_0
          try clear hcz49_1
          try clear hcz49_2
          try clear hcz50_0
          try clear hcz50_1
          try clear hcz50_2
          try clear hcz51_0
          try clear hcz51_1
          try clear hcz51_2
          try clear hcz59_0
          try clear hcz59_1
          try clear hcz59_2
          try clear hfz12_0
          try clear hfz12_1
          try clear hfz12_2
          try clear hfz14_0
          try clear hfz14_1
          try clear hfz14_2
          try clear hfz17_0
          try clear hfz17_1
          try clear hfz17_2
          try clear hfz26_0
          try clear hfz26_1
          try clear hfz26_2
          try clear hfz27_0
          try clear hfz27_1
          try clear hfz27_2
          try clear hfz32_0
          try clear hfz32_1
          try clear hfz32_2
          try clear hfz33_0
          try clear hfz33_1
          try clear hfz33_2
          try clear hfz34_0
          try clear hfz34_1
          try clear hfz34_2
          try clear hfz40_0
          try clear hfz40_1
          try clear hfz40_2
          try clear hfz41_0
          try clear hfz41_1
          try clear hfz41_2
          try clear hfz42_0
          try clear hfz42_1
          try clear hfz42_2
          try clear hfz49_0
          try clear hfz49_1
          try clear hfz49_2
          try clear hfz50_0
          try clear hfz50_1
          try clear hfz50_2
          try clear hfz51_0
          try clear hfz51_1
          try clear hfz51_2
          try clear hfz59_0
          try clear hfz59_1
          try clear hfz59_2
          try clear p2
          obtain ⟨kq, x61_23, rfl, HA, HJ23, BK232, BK233, BK241, BK246, BK251, BK256, HB⟩ := hcut
          cases kq with
          | zero => exact absurd HA.out (by simp [gumshoelaw06_ValueOrders.j1])
          | succ kj23 =>
            have H := HA.out
            clear HA
            simp only [gumshoelaw06_ValueOrders.j1] at H
            by_cases c63 : x61_23 = true
            · subst c63
              have H1 : (some false) = some r := by rw [if_pos rfl] at H; exact H
              clear H
              have H := H1
              clear H1
              obtain rfl := Option.some.inj H
              go_wp2
              go_ret
              exact ⟨by first | rfl | (simp [errW_none, errW_some] <;> rfl) | (simp [*, errW_none, errW_some] <;> rfl) | (simp [*, errW_none, errW_some]; exact (fun (l_ : List UInt8) => (by cases l_ <;> rfl : l_.isEmpty = !(l_ != []))) _), by repeat (first | (with_reducible first | exact HB.out | apply below_alloc | apply pw_below_drewN | apply below_drew1 | refine below_set ?_ GE232.out | refine below_set ?_ GE233.out | refine below_set ?_ GE241.out | refine below_set ?_ GE246.out | refine below_set ?_ GE251.out | refine below_set ?_ GE256.out) | exact HB.out)⟩
            · replace c63 := Bool.eq_false_iff.mpr c63
              subst c63
              have H1 : (if t234 = true then ((value_Truthy.f t237 t238 t239).bind fun t257 => (if t257 = true then ((value_Truthy.f t247 t248 t249).bind fun t258 => ((value_Truthy.f t242 t243 t244).bind fun t259 => (if (t258 == (!t259)) = true then ((value_Truthy.f t252 t253 t254).bind fun t260 => ((value_Truthy.f t237 t238 t239).bind fun t261 => (gumshoelaw06_ValueOrders.j2 kj23 (t260 == (!t261))))) else (none)))) else ((value_Truthy.f t242 t243 t244).bind fun t262 => (if t262 = true then ((value_Truthy.f t247 t248 t249).bind fun t263 => ((value_Truthy.f t242 t243 t244).bind fun t264 => (if (t263 == (!t264)) = true then ((value_Truthy.f t252 t253 t254).bind fun t265 => ((value_Truthy.f t237 t238 t239).bind fun t266 => (gumshoelaw06_ValueOrders.j2 kj23 (t265 == (!t266))))) else (none)))) else (none))))) else (none)) = some r := by rw [if_neg (show ¬ (false = true) by decide)] at H; exact H
              clear H
              have H := H1
              clear H1
              have HC64 := Aside0.mk H
              clear H
              go_upto_region 10 with (fail)
              go_cut [4] (fun v4 wc => ∃ (kq : Nat) (x4_63 : Bool), v4 = .bool x4_63 ∧ Aside0 (gumshoelaw06_ValueOrders.j2 kq x4_63 = some r) ∧ Aside0 (kq ≤ kj23) ∧ Aside0 (wc.heap[gb232]? = some (.cells #[.int .i64 a0_0, .int .i64 a0_1, .string a0_2] 23 (0, 0))) ∧ Aside0 (wc.heap[gb233]? = some (.cells #[.int .i64 a1_0, .int .i64 a1_1, .string a1_2] 23 (0, 0))) ∧ Aside0 (wc.heap[gb241]? = some (.cells #[.int .i64 t237, .int .i64 t238, .string t239] 23 (0, 0))) ∧ Aside0 (wc.heap[gb246]? = some (.cells #[.int .i64 t242, .int .i64 t243, .string t244] 23 (0, 0))) ∧ Aside0 (wc.heap[gb251]? = some (.cells #[.int .i64 t247, .int .i64 t248, .string t249] 23 (0, 0))) ∧ Aside0 (wc.heap[gb256]? = some (.cells #[.int .i64 t252, .int .i64 t253, .string t254] 23 (0, 0))) ∧ Aside0 (Below w.heap.size w wc))
              case first =>
                have H := HC64.out
                clear HC64
                by_cases c65 : t234 = true
                · subst c65
                  have H1 : ((value_Truthy.f t237 t238 t239).bind fun t257 => (if t257 = true then ((value_Truthy.f t247 t248 t249).bind fun t258 => ((value_Truthy.f t242 t243 t244).bind fun t259 => (if (t258 == (!t259)) = true then ((value_Truthy.f t252 t253 t254).bind fun t260 => ((value_Truthy.f t237 t238 t239).bind fun t261 => (gumshoelaw06_ValueOrders.j2 kj23 (t260 == (!t261))))) else (none)))) else ((value_Truthy.f t242 t243 t244).bind fun t262 => (if t262 = true then ((value_Truthy.f t247 t248 t249).bind fun t263 => ((value_Truthy.f t242 t243 t244).bind fun t264 => (if (t263 == (!t264)) = true then ((value_Truthy.f t252 t253 t254).bind fun t265 => ((value_Truthy.f t237 t238 t239).bind fun t266 => (gumshoelaw06_ValueOrders.j2 kj23 (t265 == (!t266))))) else (none)))) else (none))))) = some r := by rw [if_pos rfl] at H; exact H
                  clear H
                  have H := H1
                  clear H1
                  replace H := Option.bind_eq_some_iff.mp H
                  obtain ⟨t257, A660, H⟩ := H
                  replace H : (if t257 = true then ((value_Truthy.f t247 t248 t249).bind fun t258 => ((value_Truthy.f t242 t243 t244).bind fun t259 => (if (t258 == (!t259)) = true then ((value_Truthy.f t252 t253 t254).bind fun t260 => ((value_Truthy.f t237 t238 t239).bind fun t261 => (gumshoelaw06_ValueOrders.j2 kj23 (t260 == (!t261))))) else (none)))) else ((value_Truthy.f t242 t243 t244).bind fun t262 => (if t262 = true then ((value_Truthy.f t247 t248 t249).bind fun t263 => ((value_Truthy.f t242 t243 t244).bind fun t264 => (if (t263 == (!t264)) = true then ((value_Truthy.f t252 t253 t254).bind fun t265 => ((value_Truthy.f t237 t238 t239).bind fun t266 => (gumshoelaw06_ValueOrders.j2 kj23 (t265 == (!t266))))) else (none)))) else (none)))) = some r := H
                  have A66 := Aside0.mk A660
                  clear A660
                  by_cases c67 : t257 = true
                  · subst c67
                    have H1 : ((value_Truthy.f t247 t248 t249).bind fun t258 => ((value_Truthy.f t242 t243 t244).bind fun t259 => (if (t258 == (!t259)) = true then ((value_Truthy.f t252 t253 t254).bind fun t260 => ((value_Truthy.f t237 t238 t239).bind fun t261 => (gumshoelaw06_ValueOrders.j2 kj23 (t260 == (!t261))))) else (none)))) = some r := by rw [if_pos rfl] at H; exact H
                    clear H
                    have H := H1
                    clear H1
                    replace H := Option.bind_eq_some_iff.mp H
                    obtain ⟨t258, A680, H⟩ := H
                    replace H : ((value_Truthy.f t242 t243 t244).bind fun t259 => (if (t258 == (!t259)) = true then ((value_Truthy.f t252 t253 t254).bind fun t260 => ((value_Truthy.f t237 t238 t239).bind fun t261 => (gumshoelaw06_ValueOrders.j2 kj23 (t260 == (!t261))))) else (none))) = some r := H
                    have A68 := Aside0.mk A680
                    clear A680
                    replace H := Option.bind_eq_some_iff.mp H
                    obtain ⟨t259, A690, H⟩ := H
                    replace H : (if (t258 == (!t259)) = true then ((value_Truthy.f t252 t253 t254).bind fun t260 => ((value_Truthy.f t237 t238 t239).bind fun t261 => (gumshoelaw06_ValueOrders.j2 kj23 (t260 == (!t261))))) else (none)) = some r := H
                    have A69 := Aside0.mk A690
                    clear A690
                    by_cases c70 : (t258 == (!t259)) = true
                    · rw [if_pos c70] at H
                      have c70b0 : (t258 == (!t259)) = true := c70
                      (try (have c70b1 : decide (t258 = (!t259)) = true := by simpa using c70))
                      (try (have c70b2 : (t258 == (!t259)) = true := by simpa using c70))
                      clear c70
                      (first | rw [c70b0] | (simp only [i64_w, i32_w]; rw [c70b0]) | skip)
                      replace H := Option.bind_eq_some_iff.mp H
                      obtain ⟨t260, A710, H⟩ := H
                      replace H : ((value_Truthy.f t237 t238 t239).bind fun t261 => (gumshoelaw06_ValueOrders.j2 kj23 (t260 == (!t261)))) = some r := H
                      have A71 := Aside0.mk A710
                      clear A710
                      replace H := Option.bind_eq_some_iff.mp H
                      obtain ⟨t261, A720, H⟩ := H
                      replace H : (gumshoelaw06_ValueOrders.j2 kj23 (t260 == (!t261))) = some r := H
                      have A72 := Aside0.mk A720
                      clear A720
                      have H' := Aside0.mk H
                      clear H
                      try go_wp2
                      have n0_ := Aside0.mk (blk_drew BK232.out)
                      have n1_ := Aside0.mk (blk_drew BK233.out)
                      have n2_ := Aside0.mk (blk_drew BK241.out)
                      have n3_ := Aside0.mk (blk_drew BK246.out)
                      have n4_ := Aside0.mk (blk_drew BK251.out)
                      have n5_ := Aside0.mk (blk_drew BK256.out)
                      have n6_ := Aside0.mk (below_drew1 HB.out)
                      clear BK232
                      clear BK233
                      clear BK241
                      clear BK246
                      clear BK251
                      clear BK256
                      clear HB
                      have BK232 := n0_
                      have BK233 := n1_
                      have BK241 := n2_
                      have BK246 := n3_
                      have BK251 := n4_
                      have BK256 := n5_
                      have HB := n6_
                      clear n0_ n1_ n2_ n3_ n4_ n5_ n6_
                      refine start_ (n := 26) (S := fun w' => w'.cell? ⟨gb241, 0, none⟩ = some (.int .i64 t237) ∧ w'.cell? ⟨gb241, 1, none⟩ = some (.int .i64 t238) ∧ w'.cell? ⟨gb241, 2, none⟩ = some (.string t239) ∧ w'.cell? ⟨gb251, 0, none⟩ = some (.int .i64 t247) ∧ w'.cell? ⟨gb251, 1, none⟩ = some (.int .i64 t248) ∧ w'.cell? ⟨gb251, 2, none⟩ = some (.string t249) ∧ w'.cell? ⟨gb246, 0, none⟩ = some (.int .i64 t242) ∧ w'.cell? ⟨gb246, 1, none⟩ = some (.int .i64 t243) ∧ w'.cell? ⟨gb246, 2, none⟩ = some (.string t244) ∧ w'.cell? ⟨gb256, 0, none⟩ = some (.int .i64 t252) ∧ w'.cell? ⟨gb256, 1, none⟩ = some (.int .i64 t253) ∧ w'.cell? ⟨gb256, 2, none⟩ = some (.string t254)) (ds := []) #[false, false, false, false, false, false, false, false, false, false, false, false, false, false, false, false, false, false, false, false, false, false, false, false, false, false] (by kernel_rfl) rfl rfl ⟨(blk_cell BK241.out 0).trans rfl, (blk_cell BK241.out 1).trans rfl, (blk_cell BK241.out 2).trans rfl, (blk_cell BK251.out 0).trans rfl, (blk_cell BK251.out 1).trans rfl, (blk_cell BK251.out 2).trans rfl, (blk_cell BK246.out 0).trans rfl, (blk_cell BK246.out 1).trans rfl, (blk_cell BK246.out 2).trans rfl, (blk_cell BK256.out 0).trans rfl, (blk_cell BK256.out 1).trans rfl, (blk_cell BK256.out 2).trans rfl⟩ (fun hHeld => ?_); refine with_tabW gumshoelaw06_ValueOrders.tab10 gumshoelaw06_ValueOrders.bits10 (fun HT_ HW_ => ?_)
                      generalize wc.drew = w73 at BK232 BK233 BK241 BK246 BK251 BK256 HB hHeld ⊢
                      refine pure_ (i := 0) (N := some 62) (v := ?_) (a' := ?_) #[true, false, false, false, false, false, false, false, false, false, false, false, false, false, false, false, false, false, false, false, false, false, false, false, false, false] rfl rfl (any_of HT_.out (by kernel_rfl)) (fun _ _ _ h => h) (Or.inl ⟨by rfl, ?_⟩) ?_ ?_
                      rotate_left
                      · intro w'
                        go_simp
                        with_reducible rfl
                      rotate_left
                      · simp only [Act.put, List.setIfInBounds_toArray, List.set_cons_zero, List.set_cons_succ, i64_w, i32_w]
                        rfl
                      refine pure_ (i := 1) (N := some 63) (v := ?_) (a' := ?_) #[true, true, false, false, false, false, false, false, false, false, false, false, false, false, false, false, false, false, false, false, false, false, false, false, false, false] rfl rfl (any_of HT_.out (by kernel_rfl)) (fun _ _ _ h => h) (Or.inl ⟨by rfl, ?_⟩) ?_ ?_
                      rotate_left
                      · intro w'
                        go_simp
                        with_reducible rfl
                      rotate_left
                      · simp only [Act.put, List.setIfInBounds_toArray, List.set_cons_zero, List.set_cons_succ, i64_w, i32_w]
                        rfl
                      refine take_ (i := 2) (N := some 64) (v := ?_) (a' := ?_) #[true, true, true, false, false, false, false, false, false, false, false, false, false, false, false, false, false, false, false, false, false, false, false, false, false, false] rfl rfl (take_ofW HT_.out HW_.out (by kernel_rfl)) (fun _ _ _ h => h) (Or.inl ⟨by rfl, ?_⟩) hHeld ?_ ?_
                      rotate_left
                      · rintro w' ⟨s0, s1, s2, s3, s4, s5, s6, s7, s8, s9, s10, s11⟩
                        go_simp
                        with_reducible rfl
                      rotate_left
                      · simp only [Act.put, List.setIfInBounds_toArray, List.set_cons_zero, List.set_cons_succ, i64_w, i32_w]
                        rfl
                      refine one_ (i := 3) (N := some 65) #[true, true, true, true, false, false, false, false, false, false, false, false, false, false, false, false, false, false, false, false, false, false, false, false, false, false] rfl rfl (one_of HT_.out (by kernel_rfl)) (by decide) (fun K hK => ?_)
                      refine goes_ Tryd.func20 (by kernel_rfl) rfl #[.agg #[.int .i64 t237, .int .i64 t238, .string t239]] (by rfl) rfl rfl (by (try simp only [List.map_toArray, List.map_cons, List.map_nil]); first | done | rfl | (simp only [List.length_drop, List.length_take]; rfl)) ?_
                      with_reducible refine (value_Truthy.calls t237 t238 t239 true _ A66.out).mono ?_
                      rintro e w74 ⟨rfl, hb⟩
                      refine ⟨_, rfl, ?_⟩
                      have n0_ := Aside0.mk (blk_below (g := gb232) (o := .cells #[.int .i64 a0_0, .int .i64 a0_1, .string a0_2] 23 (0, 0)) (by (with_reducible repeat (first | refine blk_drewN ?_ _ | refine blk_drew ?_ | refine blk_alloc ?_ _)); exact BK232.out) hb)
                      have n1_ := Aside0.mk (blk_below (g := gb233) (o := .cells #[.int .i64 a1_0, .int .i64 a1_1, .string a1_2] 23 (0, 0)) (by (with_reducible repeat (first | refine blk_drewN ?_ _ | refine blk_drew ?_ | refine blk_alloc ?_ _)); exact BK233.out) hb)
                      have n2_ := Aside0.mk (blk_below (g := gb241) (o := .cells #[.int .i64 t237, .int .i64 t238, .string t239] 23 (0, 0)) (by (with_reducible repeat (first | refine blk_drewN ?_ _ | refine blk_drew ?_ | refine blk_alloc ?_ _)); exact BK241.out) hb)
                      have n3_ := Aside0.mk (blk_below (g := gb246) (o := .cells #[.int .i64 t242, .int .i64 t243, .string t244] 23 (0, 0)) (by (with_reducible repeat (first | refine blk_drewN ?_ _ | refine blk_drew ?_ | refine blk_alloc ?_ _)); exact BK246.out) hb)
                      have n4_ := Aside0.mk (blk_below (g := gb251) (o := .cells #[.int .i64 t247, .int .i64 t248, .string t249] 23 (0, 0)) (by (with_reducible repeat (first | refine blk_drewN ?_ _ | refine blk_drew ?_ | refine blk_alloc ?_ _)); exact BK251.out) hb)
                      have n5_ := Aside0.mk (blk_below (g := gb256) (o := .cells #[.int .i64 t252, .int .i64 t253, .string t254] 23 (0, 0)) (by (with_reducible repeat (first | refine blk_drewN ?_ _ | refine blk_drew ?_ | refine blk_alloc ?_ _)); exact BK256.out) hb)
                      have n6_ := Aside0.mk (below_step (by repeat (first | (with_reducible first | exact HB.out | apply below_alloc | apply pw_below_drewN | apply below_drew1 | refine below_set ?_ GE232.out | refine below_set ?_ GE233.out | refine below_set ?_ GE241.out | refine below_set ?_ GE246.out | refine below_set ?_ GE251.out | refine below_set ?_ GE256.out) | exact HB.out)) hb)
                      clear BK232
                      clear BK233
                      clear BK241
                      clear BK246
                      clear BK251
                      clear BK256
                      clear HB
                      have BK232 := n0_
                      have BK233 := n1_
                      have BK241 := n2_
                      have BK246 := n3_
                      have BK251 := n4_
                      have BK256 := n5_
                      have HB := n6_
                      clear n0_ n1_ n2_ n3_ n4_ n5_ n6_
                      (try clear hb)
                      (try clear hb2)
                      (try clear hk)
                      (try clear hi)
                      refine hK.out _ _ ⟨(blk_cell BK241.out 0).trans rfl, (blk_cell BK241.out 1).trans rfl, (blk_cell BK241.out 2).trans rfl, (blk_cell BK251.out 0).trans rfl, (blk_cell BK251.out 1).trans rfl, (blk_cell BK251.out 2).trans rfl, (blk_cell BK246.out 0).trans rfl, (blk_cell BK246.out 1).trans rfl, (blk_cell BK246.out 2).trans rfl, (blk_cell BK256.out 0).trans rfl, (blk_cell BK256.out 1).trans rfl, (blk_cell BK256.out 2).trans rfl⟩ (fun hHeld => ?_)
                      clear hK K
                      refine norm_ (a' := ?_) ?_ ?_
                      rotate_left
                      · show Act.put _ (some 65) _ = _
                        simp only [Act.put, List.setIfInBounds_toArray, List.set_cons_zero, List.set_cons_succ, i64_w, i32_w]
                        rfl
                      refine pure_ (i := 4) (N := some 66) (v := ?_) (a' := ?_) #[true, true, true, true, true, false, false, false, false, false, false, false, false, false, false, false, false, false, false, false, false, false, false, false, false, false] rfl rfl (any_of HT_.out (by kernel_rfl)) (fun _ _ _ h => h) (Or.inl ⟨by rfl, ?_⟩) ?_ ?_
                      rotate_left
                      · intro w'
                        go_simp
                        with_reducible rfl
                      rotate_left
                      · simp only [Act.put, List.setIfInBounds_toArray, List.set_cons_zero, List.set_cons_succ, i64_w, i32_w]
                        rfl
                      refine pure_ (i := 5) (N := some 67) (v := undef) (a' := ?_) #[true, true, true, true, true, true, false, false, false, false, false, false, false, false, false, false, false, false, false, false, false, false, false, false, false, false] rfl rfl (any_of HT_.out (by kernel_rfl)) (fun _ _ _ h => h) (Or.inr ⟨by rfl, rfl⟩) ?_ ?_
                      rotate_left
                      · simp only [Act.put, List.setIfInBounds_toArray, List.set_cons_zero, List.set_cons_succ, i64_w, i32_w]
                        rfl
                      refine pure_ (i := 6) (N := some 68) (v := undef) (a' := ?_) #[true, true, true, true, true, true, true, false, false, false, false, false, false, false, false, false, false, false, false, false, false, false, false, false, false, false] rfl rfl (any_of HT_.out (by kernel_rfl)) (fun _ _ _ h => h) (Or.inr ⟨by rfl, rfl⟩) ?_ ?_
                      rotate_left
                      · simp only [Act.put, List.setIfInBounds_toArray, List.set_cons_zero, List.set_cons_succ, i64_w, i32_w]
                        rfl
                      refine pure_ (i := 7) (N := some 69) (v := ?_) (a' := ?_) #[true, true, true, true, true, true, true, true, false, false, false, false, false, false, false, false, false, false, false, false, false, false, false, false, false, false] rfl rfl (any_of HT_.out (by kernel_rfl)) (fun _ _ _ h => h) (Or.inl ⟨by rfl, ?_⟩) ?_ ?_
                      rotate_left
                      · intro w'
                        go_simp
                        with_reducible rfl
                      rotate_left
                      · simp only [Act.put, List.setIfInBounds_toArray, List.set_cons_zero, List.set_cons_succ, i64_w, i32_w]
                        rfl
                      refine pure_ (i := 8) (N := some 70) (v := ?_) (a' := ?_) #[true, true, true, true, true, true, true, true, true, false, false, false, false, false, false, false, false, false, false, false, false, false, false, false, false, false] rfl rfl (any_of HT_.out (by kernel_rfl)) (fun _ _ _ h => h) (Or.inl ⟨by rfl, ?_⟩) ?_ ?_
                      rotate_left
                      · intro w'
                        go_simp
                        with_reducible rfl
                      rotate_left
                      · simp only [Act.put, List.setIfInBounds_toArray, List.set_cons_zero, List.set_cons_succ, i64_w, i32_w]
                        rfl
                      refine pure_ (i := 9) (N := some 71) (v := ?_) (a' := ?_) #[true, true, true, true, true, true, true, true, true, true, false, false, false, false, false, false, false, false, false, false, false, false, false, false, false, false] rfl rfl (any_of HT_.out (by kernel_rfl)) (fun _ _ _ h => h) (Or.inl ⟨by rfl, ?_⟩) ?_ ?_
                      rotate_left
                      · intro w'
                        go_simp
                        with_reducible rfl
                      rotate_left
                      · simp only [Act.put, List.setIfInBounds_toArray, List.set_cons_zero, List.set_cons_succ, i64_w, i32_w]
                        rfl
                      refine take_ (i := 10) (N := some 72) (v := ?_) (a' := ?_) #[true, true, true, true, true, true, true, true, true, true, true, false, false, false, false, false, false, false, false, false, false, false, false, false, false, false] rfl rfl (take_ofW HT_.out HW_.out (by kernel_rfl)) (fun _ _ _ h => h) (Or.inl ⟨by rfl, ?_⟩) hHeld ?_ ?_
                      rotate_left
                      · rintro w' ⟨s0, s1, s2, s3, s4, s5, s6, s7, s8, s9, s10, s11⟩
                        go_simp
                        with_reducible rfl
                      rotate_left
                      · simp only [Act.put, List.setIfInBounds_toArray, List.set_cons_zero, List.set_cons_succ, i64_w, i32_w]
                        rfl
                      refine take_ (i := 12) (N := some 74) (v := ?_) (a' := ?_) #[true, true, true, true, true, true, true, true, true, true, true, false, true, false, false, false, false, false, false, false, false, false, false, false, false, false] rfl rfl (take_ofW HT_.out HW_.out (by kernel_rfl)) (fun _ _ _ h => h) (Or.inl ⟨by rfl, ?_⟩) hHeld ?_ ?_
                      rotate_left
                      · rintro w' ⟨s0, s1, s2, s3, s4, s5, s6, s7, s8, s9, s10, s11⟩
                        go_simp
                        with_reducible rfl
                      rotate_left
                      · simp only [Act.put, List.setIfInBounds_toArray, List.set_cons_zero, List.set_cons_succ, i64_w, i32_w]
                        rfl
                      refine one_ (i := 11) (N := some 73) #[true, true, true, true, true, true, true, true, true, true, true, true, true, false, false, false, false, false, false, false, false, false, false, false, false, false] rfl rfl (one_of HT_.out (by kernel_rfl)) (by decide) (fun K hK => ?_)
                      refine goes_ Tryd.func20 (by kernel_rfl) rfl #[.agg #[.int .i64 t247, .int .i64 t248, .string t249]] (by rfl) rfl rfl (by (try simp only [List.map_toArray, List.map_cons, List.map_nil]); first | done | rfl | (simp only [List.length_drop, List.length_take]; rfl)) ?_
                      with_reducible refine (value_Truthy.calls t247 t248 t249 t258 _ A68.out).mono ?_
                      rintro e w75 ⟨rfl, hb⟩
                      refine ⟨_, rfl, ?_⟩
                      have n0_ := Aside0.mk (blk_below (g := gb232) (o := .cells #[.int .i64 a0_0, .int .i64 a0_1, .string a0_2] 23 (0, 0)) (by (with_reducible repeat (first | refine blk_drewN ?_ _ | refine blk_drew ?_ | refine blk_alloc ?_ _)); exact BK232.out) hb)
                      have n1_ := Aside0.mk (blk_below (g := gb233) (o := .cells #[.int .i64 a1_0, .int .i64 a1_1, .string a1_2] 23 (0, 0)) (by (with_reducible repeat (first | refine blk_drewN ?_ _ | refine blk_drew ?_ | refine blk_alloc ?_ _)); exact BK233.out) hb)
                      have n2_ := Aside0.mk (blk_below (g := gb241) (o := .cells #[.int .i64 t237, .int .i64 t238, .string t239] 23 (0, 0)) (by (with_reducible repeat (first | refine blk_drewN ?_ _ | refine blk_drew ?_ | refine blk_alloc ?_ _)); exact BK241.out) hb)
                      have n3_ := Aside0.mk (blk_below (g := gb246) (o := .cells #[.int .i64 t242, .int .i64 t243, .string t244] 23 (0, 0)) (by (with_reducible repeat (first | refine blk_drewN ?_ _ | refine blk_drew ?_ | refine blk_alloc ?_ _)); exact BK246.out) hb)
                      have n4_ := Aside0.mk (blk_below (g := gb251) (o := .cells #[.int .i64 t247, .int .i64 t248, .string t249] 23 (0, 0)) (by (with_reducible repeat (first | refine blk_drewN ?_ _ | refine blk_drew ?_ | refine blk_alloc ?_ _)); exact BK251.out) hb)
                      have n5_ := Aside0.mk (blk_below (g := gb256) (o := .cells #[.int .i64 t252, .int .i64 t253, .string t254] 23 (0, 0)) (by (with_reducible repeat (first | refine blk_drewN ?_ _ | refine blk_drew ?_ | refine blk_alloc ?_ _)); exact BK256.out) hb)
                      have n6_ := Aside0.mk (below_step (by repeat (first | (with_reducible first | exact HB.out | apply below_alloc | apply pw_below_drewN | apply below_drew1 | refine below_set ?_ GE232.out | refine below_set ?_ GE233.out | refine below_set ?_ GE241.out | refine below_set ?_ GE246.out | refine below_set ?_ GE251.out | refine below_set ?_ GE256.out) | exact HB.out)) hb)
                      clear BK232
                      clear BK233
                      clear BK241
                      clear BK246
                      clear BK251
                      clear BK256
                      clear HB
                      have BK232 := n0_
                      have BK233 := n1_
                      have BK241 := n2_
                      have BK246 := n3_
                      have BK251 := n4_
                      have BK256 := n5_
                      have HB := n6_
                      clear n0_ n1_ n2_ n3_ n4_ n5_ n6_
                      (try clear hb)
                      (try clear hb2)
                      (try clear hk)
                      (try clear hi)
                      refine hK.out _ _ ⟨(blk_cell BK241.out 0).trans rfl, (blk_cell BK241.out 1).trans rfl, (blk_cell BK241.out 2).trans rfl, (blk_cell BK251.out 0).trans rfl, (blk_cell BK251.out 1).trans rfl, (blk_cell BK251.out 2).trans rfl, (blk_cell BK246.out 0).trans rfl, (blk_cell BK246.out 1).trans rfl, (blk_cell BK246.out 2).trans rfl, (blk_cell BK256.out 0).trans rfl, (blk_cell BK256.out 1).trans rfl, (blk_cell BK256.out 2).trans rfl⟩ (fun hHeld => ?_)
                      clear hK K
                      refine norm_ (a' := ?_) ?_ ?_
                      rotate_left
                      · show Act.put _ (some 73) _ = _
                        simp only [Act.put, List.setIfInBounds_toArray, List.set_cons_zero, List.set_cons_succ, i64_w, i32_w]
                        rfl
                      refine one_ (i := 13) (N := some 75) #[true, true, true, true, true, true, true, true, true, true, true, true, true, true, false, false, false, false, false, false, false, false, false, false, false, false] rfl rfl (one_of HT_.out (by kernel_rfl)) (by decide) (fun K hK => ?_)
                      refine goes_ Tryd.func20 (by kernel_rfl) rfl #[.agg #[.int .i64 t242, .int .i64 t243, .string t244]] (by rfl) rfl rfl (by (try simp only [List.map_toArray, List.map_cons, List.map_nil]); first | done | rfl | (simp only [List.length_drop, List.length_take]; rfl)) ?_
                      with_reducible refine (value_Truthy.calls t242 t243 t244 t259 _ A69.out).mono ?_
                      rintro e w76 ⟨rfl, hb⟩
                      refine ⟨_, rfl, ?_⟩
                      have n0_ := Aside0.mk (blk_below (g := gb232) (o := .cells #[.int .i64 a0_0, .int .i64 a0_1, .string a0_2] 23 (0, 0)) (by (with_reducible repeat (first | refine blk_drewN ?_ _ | refine blk_drew ?_ | refine blk_alloc ?_ _)); exact BK232.out) hb)
                      have n1_ := Aside0.mk (blk_below (g := gb233) (o := .cells #[.int .i64 a1_0, .int .i64 a1_1, .string a1_2] 23 (0, 0)) (by (with_reducible repeat (first | refine blk_drewN ?_ _ | refine blk_drew ?_ | refine blk_alloc ?_ _)); exact BK233.out) hb)
                      have n2_ := Aside0.mk (blk_below (g := gb241) (o := .cells #[.int .i64 t237, .int .i64 t238, .string t239] 23 (0, 0)) (by (with_reducible repeat (first | refine blk_drewN ?_ _ | refine blk_drew ?_ | refine blk_alloc ?_ _)); exact BK241.out) hb)
                      have n3_ := Aside0.mk (blk_below (g := gb246) (o := .cells #[.int .i64 t242, .int .i64 t243, .string t244] 23 (0, 0)) (by (with_reducible repeat (first | refine blk_drewN ?_ _ | refine blk_drew ?_ | refine blk_alloc ?_ _)); exact BK246.out) hb)
                      have n4_ := Aside0.mk (blk_below (g := gb251) (o := .cells #[.int .i64 t247, .int .i64 t248, .string t249] 23 (0, 0)) (by (with_reducible repeat (first | refine blk_drewN ?_ _ | refine blk_drew ?_ | refine blk_alloc ?_ _)); exact BK251.out) hb)
                      have n5_ := Aside0.mk (blk_below (g := gb256) (o := .cells #[.int .i64 t252, .int .i64 t253, .string t254] 23 (0, 0)) (by (with_reducible repeat (first | refine blk_drewN ?_ _ | refine blk_drew ?_ | refine blk_alloc ?_ _)); exact BK256.out) hb)
                      have n6_ := Aside0.mk (below_step (by repeat (first | (with_reducible first | exact HB.out | apply below_alloc | apply pw_below_drewN | apply below_drew1 | refine below_set ?_ GE232.out | refine below_set ?_ GE233.out | refine below_set ?_ GE241.out | refine below_set ?_ GE246.out | refine below_set ?_ GE251.out | refine below_set ?_ GE256.out) | exact HB.out)) hb)
                      clear BK232
                      clear BK233
                      clear BK241
                      clear BK246
                      clear BK251
                      clear BK256
                      clear HB
                      have BK232 := n0_
                      have BK233 := n1_
                      have BK241 := n2_
                      have BK246 := n3_
                      have BK251 := n4_
                      have BK256 := n5_
                      have HB := n6_
                      clear n0_ n1_ n2_ n3_ n4_ n5_ n6_
                      (try clear hb)
                      (try clear hb2)
                      (try clear hk)
                      (try clear hi)
                      refine hK.out _ _ ⟨(blk_cell BK241.out 0).trans rfl, (blk_cell BK241.out 1).trans rfl, (blk_cell BK241.out 2).trans rfl, (blk_cell BK251.out 0).trans rfl, (blk_cell BK251.out 1).trans rfl, (blk_cell BK251.out 2).trans rfl, (blk_cell BK246.out 0).trans rfl, (blk_cell BK246.out 1).trans rfl, (blk_cell BK246.out 2).trans rfl, (blk_cell BK256.out 0).trans rfl, (blk_cell BK256.out 1).trans rfl, (blk_cell BK256.out 2).trans rfl⟩ (fun hHeld => ?_)
                      clear hK K
                      refine norm_ (a' := ?_) ?_ ?_
                      rotate_left
                      · show Act.put _ (some 75) _ = _
                        simp only [Act.put, List.setIfInBounds_toArray, List.set_cons_zero, List.set_cons_succ, i64_w, i32_w]
                        rfl
                      refine pure_ (i := 14) (N := some 76) (v := ?_) (a' := ?_) #[true, true, true, true, true, true, true, true, true, true, true, true, true, true, true, false, false, false, false, false, false, false, false, false, false, false] rfl rfl (any_of HT_.out (by kernel_rfl)) (fun _ _ _ h => h) (Or.inl ⟨by rfl, ?_⟩) ?_ ?_
                      rotate_left
                      · intro w'
                        go_simp
                        with_reducible rfl
                      rotate_left
                      · simp only [Act.put, List.setIfInBounds_toArray, List.set_cons_zero, List.set_cons_succ, i64_w, i32_w]
                        rfl
                      refine pure_ (i := 15) (N := some 77) (v := ?_) (a' := ?_) #[true, true, true, true, true, true, true, true, true, true, true, true, true, true, true, true, false, false, false, false, false, false, false, false, false, false] rfl rfl (any_of HT_.out (by kernel_rfl)) (fun _ _ _ h => h) (Or.inl ⟨by rfl, ?_⟩) ?_ ?_
                      rotate_left
                      · intro w'
                        go_simp
                        with_reducible rfl
                      rotate_left
                      · simp only [Act.put, List.setIfInBounds_toArray, List.set_cons_zero, List.set_cons_succ, i64_w, i32_w]
                        rfl
                      refine pure_ (i := 16) (N := some 78) (v := ?_) (a' := ?_) #[true, true, true, true, true, true, true, true, true, true, true, true, true, true, true, true, true, false, false, false, false, false, false, false, false, false] rfl rfl (any_of HT_.out (by kernel_rfl)) (fun _ _ _ h => h) (Or.inl ⟨by rfl, ?_⟩) ?_ ?_
                      rotate_left
                      · intro w'
                        go_simp
                        with_reducible rfl
                      rotate_left
                      · simp only [Act.put, List.setIfInBounds_toArray, List.set_cons_zero, List.set_cons_succ, i64_w, i32_w]
                        rfl
                      refine pure_ (i := 17) (N := some 79) (v := ?_) (a' := ?_) #[true, true, true, true, true, true, true, true, true, true, true, true, true, true, true, true, true, true, false, false, false, false, false, false, false, false] rfl rfl (any_of HT_.out (by kernel_rfl)) (fun _ _ _ h => h) (Or.inl ⟨by rfl, ?_⟩) ?_ ?_
                      rotate_left
                      · intro w'
                        go_simp
                        with_reducible rfl
                      rotate_left
                      · simp only [Act.put, List.setIfInBounds_toArray, List.set_cons_zero, List.set_cons_succ, i64_w, i32_w]
                        rfl
                      refine take_ (i := 18) (N := some 80) (v := ?_) (a' := ?_) #[true, true, true, true, true, true, true, true, true, true, true, true, true, true, true, true, true, true, true, false, false, false, false, false, false, false] rfl rfl (take_ofW HT_.out HW_.out (by kernel_rfl)) (fun _ _ _ h => h) (Or.inl ⟨by rfl, ?_⟩) hHeld ?_ ?_
                      rotate_left
                      · rintro w' ⟨s0, s1, s2, s3, s4, s5, s6, s7, s8, s9, s10, s11⟩
                        go_simp
                        with_reducible rfl
                      rotate_left
                      · simp only [Act.put, List.setIfInBounds_toArray, List.set_cons_zero, List.set_cons_succ, i64_w, i32_w]
                        rfl
                      refine take_ (i := 20) (N := some 82) (v := ?_) (a' := ?_) #[true, true, true, true, true, true, true, true, true, true, true, true, true, true, true, true, true, true, true, false, true, false, false, false, false, false] rfl rfl (take_ofW HT_.out HW_.out (by kernel_rfl)) (fun _ _ _ h => h) (Or.inl ⟨by rfl, ?_⟩) hHeld ?_ ?_
                      rotate_left
                      · rintro w' ⟨s0, s1, s2, s3, s4, s5, s6, s7, s8, s9, s10, s11⟩
                        go_simp
                        with_reducible rfl
                      rotate_left
                      · simp only [Act.put, List.setIfInBounds_toArray, List.set_cons_zero, List.set_cons_succ, i64_w, i32_w]
                        rfl
                      refine one_ (i := 19) (N := some 81) #[true, true, true, true, true, true, true, true, true, true, true, true, true, true, true, true, true, true, true, true, true, false, false, false, false, false] rfl rfl (one_of HT_.out (by kernel_rfl)) (by decide) (fun K hK => ?_)
                      refine goes_ Tryd.func20 (by kernel_rfl) rfl #[.agg #[.int .i64 t252, .int .i64 t253, .string t254]] (by rfl) rfl rfl (by (try simp only [List.map_toArray, List.map_cons, List.map_nil]); first | done | rfl | (simp only [List.length_drop, List.length_take]; rfl)) ?_
                      with_reducible refine (value_Truthy.calls t252 t253 t254 t260 _ A71.out).mono ?_
                      rintro e w77 ⟨rfl, hb⟩
                      refine ⟨_, rfl, ?_⟩
                      have n0_ := Aside0.mk (blk_below (g := gb232) (o := .cells #[.int .i64 a0_0, .int .i64 a0_1, .string a0_2] 23 (0, 0)) (by (with_reducible repeat (first | refine blk_drewN ?_ _ | refine blk_drew ?_ | refine blk_alloc ?_ _)); exact BK232.out) hb)
                      have n1_ := Aside0.mk (blk_below (g := gb233) (o := .cells #[.int .i64 a1_0, .int .i64 a1_1, .string a1_2] 23 (0, 0)) (by (with_reducible repeat (first | refine blk_drewN ?_ _ | refine blk_drew ?_ | refine blk_alloc ?_ _)); exact BK233.out) hb)
                      have n2_ := Aside0.mk (blk_below (g := gb241) (o := .cells #[.int .i64 t237, .int .i64 t238, .string t239] 23 (0, 0)) (by (with_reducible repeat (first | refine blk_drewN ?_ _ | refine blk_drew ?_ | refine blk_alloc ?_ _)); exact BK241.out) hb)
                      have n3_ := Aside0.mk (blk_below (g := gb246) (o := .cells #[.int .i64 t242, .int .i64 t243, .string t244] 23 (0, 0)) (by (with_reducible repeat (first | refine blk_drewN ?_ _ | refine blk_drew ?_ | refine blk_alloc ?_ _)); exact BK246.out) hb)
                      have n4_ := Aside0.mk (blk_below (g := gb251) (o := .cells #[.int .i64 t247, .int .i64 t248, .string t249] 23 (0, 0)) (by (with_reducible repeat (first | refine blk_drewN ?_ _ | refine blk_drew ?_ | refine blk_alloc ?_ _)); exact BK251.out) hb)
                      have n5_ := Aside0.mk (blk_below (g := gb256) (o := .cells #[.int .i64 t252, .int .i64 t253, .string t254] 23 (0, 0)) (by (with_reducible repeat (first | refine blk_drewN ?_ _ | refine blk_drew ?_ | refine blk_alloc ?_ _)); exact BK256.out) hb)
                      have n6_ := Aside0.mk (below_step (by repeat (first | (with_reducible first | exact HB.out | apply below_alloc | apply pw_below_drewN | apply below_drew1 | refine below_set ?_ GE232.out | refine below_set ?_ GE233.out | refine below_set ?_ GE241.out | refine below_set ?_ GE246.out | refine below_set ?_ GE251.out | refine below_set ?_ GE256.out) | exact HB.out)) hb)
                      clear BK232
                      clear BK233
                      clear BK241
                      clear BK246
                      clear BK251
                      clear BK256
                      clear HB
                      have BK232 := n0_
                      have BK233 := n1_
                      have BK241 := n2_
                      have BK246 := n3_
                      have BK251 := n4_
                      have BK256 := n5_
                      have HB := n6_
                      clear n0_ n1_ n2_ n3_ n4_ n5_ n6_
                      (try clear hb)
                      (try clear hb2)
                      (try clear hk)
                      (try clear hi)
                      refine hK.out _ _ ⟨(blk_cell BK241.out 0).trans rfl, (blk_cell BK241.out 1).trans rfl, (blk_cell BK241.out 2).trans rfl, (blk_cell BK251.out 0).trans rfl, (blk_cell BK251.out 1).trans rfl, (blk_cell BK251.out 2).trans rfl, (blk_cell BK246.out 0).trans rfl, (blk_cell BK246.out 1).trans rfl, (blk_cell BK246.out 2).trans rfl, (blk_cell BK256.out 0).trans rfl, (blk_cell BK256.out 1).trans rfl, (blk_cell BK256.out 2).trans rfl⟩ (fun hHeld => ?_)
                      clear hK K
                      refine norm_ (a' := ?_) ?_ ?_
                      rotate_left
                      · show Act.put _ (some 81) _ = _
                        simp only [Act.put, List.setIfInBounds_toArray, List.set_cons_zero, List.set_cons_succ, i64_w, i32_w]
                        rfl
                      refine one_ (i := 21) (N := some 83) #[true, true, true, true, true, true, true, true, true, true, true, true, true, true, true, true, true, true, true, true, true, true, false, false, false, false] rfl rfl (one_of HT_.out (by kernel_rfl)) (by decide) (fun K hK => ?_)
                      refine goes_ Tryd.func20 (by kernel_rfl) rfl #[.agg #[.int .i64 t237, .int .i64 t238, .string t239]] (by rfl) rfl rfl (by (try simp only [List.map_toArray, List.map_cons, List.map_nil]); first | done | rfl | (simp only [List.length_drop, List.length_take]; rfl)) ?_
                      with_reducible refine (value_Truthy.calls t237 t238 t239 t261 _ A72.out).mono ?_
                      rintro e w78 ⟨rfl, hb⟩
                      refine ⟨_, rfl, ?_⟩
                      have n0_ := Aside0.mk (blk_below (g := gb232) (o := .cells #[.int .i64 a0_0, .int .i64 a0_1, .string a0_2] 23 (0, 0)) (by (with_reducible repeat (first | refine blk_drewN ?_ _ | refine blk_drew ?_ | refine blk_alloc ?_ _)); exact BK232.out) hb)
                      have n1_ := Aside0.mk (blk_below (g := gb233) (o := .cells #[.int .i64 a1_0, .int .i64 a1_1, .string a1_2] 23 (0, 0)) (by (with_reducible repeat (first | refine blk_drewN ?_ _ | refine blk_drew ?_ | refine blk_alloc ?_ _)); exact BK233.out) hb)
                      have n2_ := Aside0.mk (blk_below (g := gb241) (o := .cells #[.int .i64 t237, .int .i64 t238, .string t239] 23 (0, 0)) (by (with_reducible repeat (first | refine blk_drewN ?_ _ | refine blk_drew ?_ | refine blk_alloc ?_ _)); exact BK241.out) hb)
                      have n3_ := Aside0.mk (blk_below (g := gb246) (o := .cells #[.int .i64 t242, .int .i64 t243, .string t244] 23 (0, 0)) (by (with_reducible repeat (first | refine blk_drewN ?_ _ | refine blk_drew ?_ | refine blk_alloc ?_ _)); exact BK246.out) hb)
                      have n4_ := Aside0.mk (blk_below (g := gb251) (o := .cells #[.int .i64 t247, .int .i64 t248, .string t249] 23 (0, 0)) (by (with_reducible repeat (first | refine blk_drewN ?_ _ | refine blk_drew ?_ | refine blk_alloc ?_ _)); exact BK251.out) hb)
                      have n5_ := Aside0.mk (blk_below (g := gb256) (o := .cells #[.int .i64 t252, .int .i64 t253, .string t254] 23 (0, 0)) (by (with_reducible repeat (first | refine blk_drewN ?_ _ | refine blk_drew ?_ | refine blk_alloc ?_ _)); exact BK256.out) hb)
                      have n6_ := Aside0.mk (below_step (by repeat (first | (with_reducible first | exact HB.out | apply below_alloc | apply pw_below_drewN | apply below_drew1 | refine below_set ?_ GE232.out | refine below_set ?_ GE233.out | refine below_set ?_ GE241.out | refine below_set ?_ GE246.out | refine below_set ?_ GE251.out | refine below_set ?_ GE256.out) | exact HB.out)) hb)
                      clear BK232
                      clear BK233
                      clear BK241
                      clear BK246
                      clear BK251
                      clear BK256
                      clear HB
                      have BK232 := n0_
                      have BK233 := n1_
                      have BK241 := n2_
                      have BK246 := n3_
                      have BK251 := n4_
                      have BK256 := n5_
                      have HB := n6_
                      clear n0_ n1_ n2_ n3_ n4_ n5_ n6_
                      (try clear hb)
                      (try clear hb2)
                      (try clear hk)
                      (try clear hi)
                      refine hK.out _ _ ⟨(blk_cell BK241.out 0).trans rfl, (blk_cell BK241.out 1).trans rfl, (blk_cell BK241.out 2).trans rfl, (blk_cell BK251.out 0).trans rfl, (blk_cell BK251.out 1).trans rfl, (blk_cell BK251.out 2).trans rfl, (blk_cell BK246.out 0).trans rfl, (blk_cell BK246.out 1).trans rfl, (blk_cell BK246.out 2).trans rfl, (blk_cell BK256.out 0).trans rfl, (blk_cell BK256.out 1).trans rfl, (blk_cell BK256.out 2).trans rfl⟩ (fun hHeld => ?_)
                      clear hK K
                      refine norm_ (a' := ?_) ?_ ?_
                      rotate_left
                      · show Act.put _ (some 83) _ = _
                        simp only [Act.put, List.setIfInBounds_toArray, List.set_cons_zero, List.set_cons_succ, i64_w, i32_w]
                        rfl
                      refine pure_ (i := 22) (N := some 84) (v := ?_) (a' := ?_) #[true, true, true, true, true, true, true, true, true, true, true, true, true, true, true, true, true, true, true, true, true, true, true, false, false, false] rfl rfl (any_of HT_.out (by kernel_rfl)) (fun _ _ _ h => h) (Or.inl ⟨by rfl, ?_⟩) ?_ ?_
                      rotate_left
                      · intro w'
                        go_simp
                        with_reducible rfl
                      rotate_left
                      · simp only [Act.put, List.setIfInBounds_toArray, List.set_cons_zero, List.set_cons_succ, i64_w, i32_w]
                        rfl
                      refine pure_ (i := 23) (N := some 85) (v := ?_) (a' := ?_) #[true, true, true, true, true, true, true, true, true, true, true, true, true, true, true, true, true, true, true, true, true, true, true, true, false, false] rfl rfl (any_of HT_.out (by kernel_rfl)) (fun _ _ _ h => h) (Or.inl ⟨by rfl, ?_⟩) ?_ ?_
                      rotate_left
                      · intro w'
                        go_simp
                        with_reducible rfl
                      rotate_left
                      · simp only [Act.put, List.setIfInBounds_toArray, List.set_cons_zero, List.set_cons_succ, i64_w, i32_w]
                        rfl
                      refine pure_ (i := 24) (N := some 86) (v := ?_) (a' := ?_) #[true, true, true, true, true, true, true, true, true, true, true, true, true, true, true, true, true, true, true, true, true, true, true, true, true, false] rfl rfl (any_of HT_.out (by kernel_rfl)) (fun _ _ _ h => h) (Or.inl ⟨by rfl, ?_⟩) ?_ ?_
                      rotate_left
                      · intro w'
                        go_simp
                        with_reducible rfl
                      rotate_left
                      · simp only [Act.put, List.setIfInBounds_toArray, List.set_cons_zero, List.set_cons_succ, i64_w, i32_w]
                        rfl
                      refine pure_ (i := 25) (N := some 4) (v := ?_) (a' := ?_) #[true, true, true, true, true, true, true, true, true, true, true, true, true, true, true, true, true, true, true, true, true, true, true, true, true, true] rfl rfl (any_of HT_.out (by kernel_rfl)) (fun _ _ _ h => h) (Or.inl ⟨by rfl, ?_⟩) ?_ ?_
                      rotate_left
                      · intro w'
                        go_simp
                        with_reducible rfl
                      rotate_left
                      · simp only [Act.put, List.setIfInBounds_toArray, List.set_cons_zero, List.set_cons_succ, i64_w, i32_w]
                        rfl
                      refine done_ (done_of HT_.out (by kernel_rfl)) ?_
                      try go_wp2
                      go_meet
                      case rel => exact ⟨_, ((t260 == (!t261))), (by first | rfl | (simp; done) | (simp [*]; done) | (simp [*]; exact (fun (l_ : List UInt8) => (by cases l_ <;> rfl : l_.isEmpty = !(l_ != []))) _)), H', ⟨by have := HJ3.out; have := HJ23.out; first | omega | exact Nat.le_refl _⟩, ⟨by (with_reducible repeat (first | refine blk_drewN ?_ _ | refine blk_drew ?_ | refine blk_alloc ?_ _)); exact BK232.out⟩, ⟨by (with_reducible repeat (first | refine blk_drewN ?_ _ | refine blk_drew ?_ | refine blk_alloc ?_ _)); exact BK233.out⟩, ⟨by (with_reducible repeat (first | refine blk_drewN ?_ _ | refine blk_drew ?_ | refine blk_alloc ?_ _)); exact BK241.out⟩, ⟨by (with_reducible repeat (first | refine blk_drewN ?_ _ | refine blk_drew ?_ | refine blk_alloc ?_ _)); exact BK246.out⟩, ⟨by (with_reducible repeat (first | refine blk_drewN ?_ _ | refine blk_drew ?_ | refine blk_alloc ?_ _)); exact BK251.out⟩, ⟨by (with_reducible repeat (first | refine blk_drewN ?_ _ | refine blk_drew ?_ | refine blk_alloc ?_ _)); exact BK256.out⟩, ⟨by repeat (first | (with_reducible first | exact HB.out | apply below_alloc | apply pw_below_drewN | apply below_drew1 | refine below_set ?_ GE232.out | refine below_set ?_ GE233.out | refine below_set ?_ GE241.out | refine below_set ?_ GE246.out | refine below_set ?_ GE251.out | refine below_set ?_ GE256.out) | exact HB.out)⟩⟩
                    · rw [if_neg c70] at H
                      exact absurd H (by simp)
                  · replace c67 := Bool.eq_false_iff.mpr c67
                    subst c67
                    have H1 : ((value_Truthy.f t242 t243 t244).bind fun t262 => (if t262 = true then ((value_Truthy.f t247 t248 t249).bind fun t263 => ((value_Truthy.f t242 t243 t244).bind fun t264 => (if (t263 == (!t264)) = true then ((value_Truthy.f t252 t253 t254).bind fun t265 => ((value_Truthy.f t237 t238 t239).bind fun t266 => (gumshoelaw06_ValueOrders.j2 kj23 (t265 == (!t266))))) else (none)))) else (none))) = some r := by rw [if_neg (show ¬ (false = true) by decide)] at H; exact H
                    clear H
                    have H := H1
                    clear H1
                    replace H := Option.bind_eq_some_iff.mp H
                    obtain ⟨t262, A790, H⟩ := H
                    replace H : (if t262 = true then ((value_Truthy.f t247 t248 t249).bind fun t263 => ((value_Truthy.f t242 t243 t244).bind fun t264 => (if (t263 == (!t264)) = true then ((value_Truthy.f t252 t253 t254).bind fun t265 => ((value_Truthy.f t237 t238 t239).bind fun t266 => (gumshoelaw06_ValueOrders.j2 kj23 (t265 == (!t266))))) else (none)))) else (none)) = some r := H
                    have A79 := Aside0.mk A790
                    clear A790
                    by_cases c80 : t262 = true
                    · subst c80
                      have H1 : ((value_Truthy.f t247 t248 t249).bind fun t263 => ((value_Truthy.f t242 t243 t244).bind fun t264 => (if (t263 == (!t264)) = true then ((value_Truthy.f t252 t253 t254).bind fun t265 => ((value_Truthy.f t237 t238 t239).bind fun t266 => (gumshoelaw06_ValueOrders.j2 kj23 (t265 == (!t266))))) else (none)))) = some r := by rw [if_pos rfl] at H; exact H
                      clear H
                      have H := H1
                      clear H1
                      replace H := Option.bind_eq_some_iff.mp H
                      obtain ⟨t263, A810, H⟩ := H
                      replace H : ((value_Truthy.f t242 t243 t244).bind fun t264 => (if (t263 == (!t264)) = true then ((value_Truthy.f t252 t253 t254).bind fun t265 => ((value_Truthy.f t237 t238 t239).bind fun t266 => (gumshoelaw06_ValueOrders.j2 kj23 (t265 == (!t266))))) else (none))) = some r := H
                      have A81 := Aside0.mk A810
                      clear A810
                      replace H := Option.bind_eq_some_iff.mp H
                      obtain ⟨t264, A820, H⟩ := H
                      replace H : (if (t263 == (!t264)) = true then ((value_Truthy.f t252 t253 t254).bind fun t265 => ((value_Truthy.f t237 t238 t239).bind fun t266 => (gumshoelaw06_ValueOrders.j2 kj23 (t265 == (!t266))))) else (none)) = some r := H
                      have A82 := Aside0.mk A820
                      clear A820
                      by_cases c83 : (t263 == (!t264)) = true
                      · rw [if_pos c83] at H
                        have c83b0 : (t263 == (!t264)) = true := c83
                        (try (have c83b1 : decide (t263 = (!t264)) = true := by simpa using c83))
                        (try (have c83b2 : (t263 == (!t264)) = true := by simpa using c83))
                        clear c83
                        replace H := Option.bind_eq_some_iff.mp H
                        obtain ⟨t265, A840, H⟩ := H
                        replace H : ((value_Truthy.f t237 t238 t239).bind fun t266 => (gumshoelaw06_ValueOrders.j2 kj23 (t265 == (!t266)))) = some r := H
                        have A84 := Aside0.mk A840
                        clear A840
                        replace H := Option.bind_eq_some_iff.mp H
                        obtain ⟨t266, A850, H⟩ := H
                        replace H : (gumshoelaw06_ValueOrders.j2 kj23 (t265 == (!t266))) = some r := H
                        have A85 := Aside0.mk A850
                        clear A850
                        have H' := Aside0.mk H
                        clear H
                        try go_wp2
                        have n0_ := Aside0.mk (blk_drew BK232.out)
                        have n1_ := Aside0.mk (blk_drew BK233.out)
                        have n2_ := Aside0.mk (blk_drew BK241.out)
                        have n3_ := Aside0.mk (blk_drew BK246.out)
                        have n4_ := Aside0.mk (blk_drew BK251.out)
                        have n5_ := Aside0.mk (blk_drew BK256.out)
                        have n6_ := Aside0.mk (below_drew1 HB.out)
                        clear BK232
                        clear BK233
                        clear BK241
                        clear BK246
                        clear BK251
                        clear BK256
                        clear HB
                        have BK232 := n0_
                        have BK233 := n1_
                        have BK241 := n2_
                        have BK246 := n3_
                        have BK251 := n4_
                        have BK256 := n5_
                        have HB := n6_
                        clear n0_ n1_ n2_ n3_ n4_ n5_ n6_
                        refine start_ (n := 26) (S := fun w' => w'.cell? ⟨gb241, 0, none⟩ = some (.int .i64 t237) ∧ w'.cell? ⟨gb241, 1, none⟩ = some (.int .i64 t238) ∧ w'.cell? ⟨gb241, 2, none⟩ = some (.string t239) ∧ w'.cell? ⟨gb246, 0, none⟩ = some (.int .i64 t242) ∧ w'.cell? ⟨gb246, 1, none⟩ = some (.int .i64 t243) ∧ w'.cell? ⟨gb246, 2, none⟩ = some (.string t244) ∧ w'.cell? ⟨gb251, 0, none⟩ = some (.int .i64 t247) ∧ w'.cell? ⟨gb251, 1, none⟩ = some (.int .i64 t248) ∧ w'.cell? ⟨gb251, 2, none⟩ = some (.string t249) ∧ w'.cell? ⟨gb256, 0, none⟩ = some (.int .i64 t252) ∧ w'.cell? ⟨gb256, 1, none⟩ = some (.int .i64 t253) ∧ w'.cell? ⟨gb256, 2, none⟩ = some (.string t254)) (ds := []) #[false, false, false, false, false, false, false, false, false, false, false, false, false, false, false, false, false, false, false, false, false, false, false, false, false, false] (by kernel_rfl) rfl rfl ⟨(blk_cell BK241.out 0).trans rfl, (blk_cell BK241.out 1).trans rfl, (blk_cell BK241.out 2).trans rfl, (blk_cell BK246.out 0).trans rfl, (blk_cell BK246.out 1).trans rfl, (blk_cell BK246.out 2).trans rfl, (blk_cell BK251.out 0).trans rfl, (blk_cell BK251.out 1).trans rfl, (blk_cell BK251.out 2).trans rfl, (blk_cell BK256.out 0).trans rfl, (blk_cell BK256.out 1).trans rfl, (blk_cell BK256.out 2).trans rfl⟩ (fun hHeld => ?_); refine with_tabW gumshoelaw06_ValueOrders.tab10 gumshoelaw06_ValueOrders.bits10 (fun HT_ HW_ => ?_)
                        generalize wc.drew = w86 at BK232 BK233 BK241 BK246 BK251 BK256 HB hHeld ⊢
                        refine pure_ (i := 0) (N := some 62) (v := ?_) (a' := ?_) #[true, false, false, false, false, false, false, false, false, false, false, false, false, false, false, false, false, false, false, false, false, false, false, false, false, false] rfl rfl (any_of HT_.out (by kernel_rfl)) (fun _ _ _ h => h) (Or.inl ⟨by rfl, ?_⟩) ?_ ?_
                        rotate_left
                        · intro w'
                          go_simp
                          with_reducible rfl
                        rotate_left
                        · simp only [Act.put, List.setIfInBounds_toArray, List.set_cons_zero, List.set_cons_succ, i64_w, i32_w]
                          rfl
                        refine pure_ (i := 1) (N := some 63) (v := ?_) (a' := ?_) #[true, true, false, false, false, false, false, false, false, false, false, false, false, false, false, false, false, false, false, false, false, false, false, false, false, false] rfl rfl (any_of HT_.out (by kernel_rfl)) (fun _ _ _ h => h) (Or.inl ⟨by rfl, ?_⟩) ?_ ?_
                        rotate_left
                        · intro w'
                          go_simp
                          with_reducible rfl
                        rotate_left
                        · simp only [Act.put, List.setIfInBounds_toArray, List.set_cons_zero, List.set_cons_succ, i64_w, i32_w]
                          rfl
                        refine take_ (i := 2) (N := some 64) (v := ?_) (a' := ?_) #[true, true, true, false, false, false, false, false, false, false, false, false, false, false, false, false, false, false, false, false, false, false, false, false, false, false] rfl rfl (take_ofW HT_.out HW_.out (by kernel_rfl)) (fun _ _ _ h => h) (Or.inl ⟨by rfl, ?_⟩) hHeld ?_ ?_
                        rotate_left
                        · rintro w' ⟨s0, s1, s2, s3, s4, s5, s6, s7, s8, s9, s10, s11⟩
                          go_simp
                          with_reducible rfl
                        rotate_left
                        · simp only [Act.put, List.setIfInBounds_toArray, List.set_cons_zero, List.set_cons_succ, i64_w, i32_w]
                          rfl
                        refine one_ (i := 3) (N := some 65) #[true, true, true, true, false, false, false, false, false, false, false, false, false, false, false, false, false, false, false, false, false, false, false, false, false, false] rfl rfl (one_of HT_.out (by kernel_rfl)) (by decide) (fun K hK => ?_)
                        refine goes_ Tryd.func20 (by kernel_rfl) rfl #[.agg #[.int .i64 t237, .int .i64 t238, .string t239]] (by rfl) rfl rfl (by (try simp only [List.map_toArray, List.map_cons, List.map_nil]); first | done | rfl | (simp only [List.length_drop, List.length_take]; rfl)) ?_
                        with_reducible refine (value_Truthy.calls t237 t238 t239 false _ A66.out).mono ?_
                        rintro e w87 ⟨rfl, hb⟩
                        refine ⟨_, rfl, ?_⟩
                        have n0_ := Aside0.mk (blk_below (g := gb232) (o := .cells #[.int .i64 a0_0, .int .i64 a0_1, .string a0_2] 23 (0, 0)) (by (with_reducible repeat (first | refine blk_drewN ?_ _ | refine blk_drew ?_ | refine blk_alloc ?_ _)); exact BK232.out) hb)
                        have n1_ := Aside0.mk (blk_below (g := gb233) (o := .cells #[.int .i64 a1_0, .int .i64 a1_1, .string a1_2] 23 (0, 0)) (by (with_reducible repeat (first | refine blk_drewN ?_ _ | refine blk_drew ?_ | refine blk_alloc ?_ _)); exact BK233.out) hb)
                        have n2_ := Aside0.mk (blk_below (g := gb241) (o := .cells #[.int .i64 t237, .int .i64 t238, .string t239] 23 (0, 0)) (by (with_reducible repeat (first | refine blk_drewN ?_ _ | refine blk_drew ?_ | refine blk_alloc ?_ _)); exact BK241.out) hb)
                        have n3_ := Aside0.mk (blk_below (g := gb246) (o := .cells #[.int .i64 t242, .int .i64 t243, .string t244] 23 (0, 0)) (by (with_reducible repeat (first | refine blk_drewN ?_ _ | refine blk_drew ?_ | refine blk_alloc ?_ _)); exact BK246.out) hb)
                        have n4_ := Aside0.mk (blk_below (g := gb251) (o := .cells #[.int .i64 t247, .int .i64 t248, .string t249] 23 (0, 0)) (by (with_reducible repeat (first | refine blk_drewN ?_ _ | refine blk_drew ?_ | refine blk_alloc ?_ _)); exact BK251.out) hb)
                        have n5_ := Aside0.mk (blk_below (g := gb256) (o := .cells #[.int .i64 t252, .int .i64 t253, .string t254] 23 (0, 0)) (by (with_reducible repeat (first | refine blk_drewN ?_ _ | refine blk_drew ?_ | refine blk_alloc ?_ _)); exact BK256.out) hb)
                        have n6_ := Aside0.mk (below_step (by repeat (first | (with_reducible first | exact HB.out | apply below_alloc | apply pw_below_drewN | apply below_drew1 | refine below_set ?_ GE232.out | refine below_set ?_ GE233.out | refine below_set ?_ GE241.out | refine below_set ?_ GE246.out | refine below_set ?_ GE251.out | refine below_set ?_ GE256.out) | exact HB.out)) hb)
                        clear BK232
                        clear BK233
                        clear BK241
                        clear BK246
                        clear BK251
                        clear BK256
                        clear HB
                        have BK232 := n0_
                        have BK233 := n1_
                        have BK241 := n2_
                        have BK246 := n3_
                        have BK251 := n4_
                        have BK256 := n5_
                        have HB := n6_
                        clear n0_ n1_ n2_ n3_ n4_ n5_ n6_
                        (try clear hb)
                        (try clear hb2)
                        (try clear hk)
                        (try clear hi)
                        refine hK.out _ _ ⟨(blk_cell BK241.out 0).trans rfl, (blk_cell BK241.out 1).trans rfl, (blk_cell BK241.out 2).trans rfl, (blk_cell BK246.out 0).trans rfl, (blk_cell BK246.out 1).trans rfl, (blk_cell BK246.out 2).trans rfl, (blk_cell BK251.out 0).trans rfl, (blk_cell BK251.out 1).trans rfl, (blk_cell BK251.out 2).trans rfl, (blk_cell BK256.out 0).trans rfl, (blk_cell BK256.out 1).trans rfl, (blk_cell BK256.out 2).trans rfl⟩ (fun hHeld => ?_)
                        clear hK K
                        refine norm_ (a' := ?_) ?_ ?_
                        rotate_left
                        · show Act.put _ (some 65) _ = _
                          simp only [Act.put, List.setIfInBounds_toArray, List.set_cons_zero, List.set_cons_succ, i64_w, i32_w]
                          rfl
                        refine pure_ (i := 4) (N := some 66) (v := ?_) (a' := ?_) #[true, true, true, true, true, false, false, false, false, false, false, false, false, false, false, false, false, false, false, false, false, false, false, false, false, false] rfl rfl (any_of HT_.out (by kernel_rfl)) (fun _ _ _ h => h) (Or.inl ⟨by rfl, ?_⟩) ?_ ?_
                        rotate_left
                        · intro w'
                          go_simp
                          with_reducible rfl
                        rotate_left
                        · simp only [Act.put, List.setIfInBounds_toArray, List.set_cons_zero, List.set_cons_succ, i64_w, i32_w]
                          rfl
                        refine take_ (i := 5) (N := some 67) (v := ?_) (a' := ?_) #[true, true, true, true, true, true, false, false, false, false, false, false, false, false, false, false, false, false, false, false, false, false, false, false, false, false] rfl rfl (take_ofW HT_.out HW_.out (by kernel_rfl)) (fun _ _ _ h => h) (Or.inl ⟨by rfl, ?_⟩) hHeld ?_ ?_
                        rotate_left
                        · rintro w' ⟨s0, s1, s2, s3, s4, s5, s6, s7, s8, s9, s10, s11⟩
                          go_simp
                          with_reducible rfl
                        rotate_left
                        · simp only [Act.put, List.setIfInBounds_toArray, List.set_cons_zero, List.set_cons_succ, i64_w, i32_w]
                          rfl
                        refine one_ (i := 6) (N := some 68) #[true, true, true, true, true, true, true, false, false, false, false, false, false, false, false, false, false, false, false, false, false, false, false, false, false, false] rfl rfl (one_of HT_.out (by kernel_rfl)) (by decide) (fun K hK => ?_)
                        refine goes_ Tryd.func20 (by kernel_rfl) rfl #[.agg #[.int .i64 t242, .int .i64 t243, .string t244]] (by rfl) rfl rfl (by (try simp only [List.map_toArray, List.map_cons, List.map_nil]); first | done | rfl | (simp only [List.length_drop, List.length_take]; rfl)) ?_
                        with_reducible refine (value_Truthy.calls t242 t243 t244 true _ A79.out).mono ?_
                        rintro e w88 ⟨rfl, hb⟩
                        refine ⟨_, rfl, ?_⟩
                        have n0_ := Aside0.mk (blk_below (g := gb232) (o := .cells #[.int .i64 a0_0, .int .i64 a0_1, .string a0_2] 23 (0, 0)) (by (with_reducible repeat (first | refine blk_drewN ?_ _ | refine blk_drew ?_ | refine blk_alloc ?_ _)); exact BK232.out) hb)
                        have n1_ := Aside0.mk (blk_below (g := gb233) (o := .cells #[.int .i64 a1_0, .int .i64 a1_1, .string a1_2] 23 (0, 0)) (by (with_reducible repeat (first | refine blk_drewN ?_ _ | refine blk_drew ?_ | refine blk_alloc ?_ _)); exact BK233.out) hb)
                        have n2_ := Aside0.mk (blk_below (g := gb241) (o := .cells #[.int .i64 t237, .int .i64 t238, .string t239] 23 (0, 0)) (by (with_reducible repeat (first | refine blk_drewN ?_ _ | refine blk_drew ?_ | refine blk_alloc ?_ _)); exact BK241.out) hb)
                        have n3_ := Aside0.mk (blk_below (g := gb246) (o := .cells #[.int .i64 t242, .int .i64 t243, .string t244] 23 (0, 0)) (by (with_reducible repeat (first | refine blk_drewN ?_ _ | refine blk_drew ?_ | refine blk_alloc ?_ _)); exact BK246.out) hb)
                        have n4_ := Aside0.mk (blk_below (g := gb251) (o := .cells #[.int .i64 t247, .int .i64 t248, .string t249] 23 (0, 0)) (by (with_reducible repeat (first | refine blk_drewN ?_ _ | refine blk_drew ?_ | refine blk_alloc ?_ _)); exact BK251.out) hb)
                        have n5_ := Aside0.mk (blk_below (g := gb256) (o := .cells #[.int .i64 t252, .int .i64 t253, .string t254] 23 (0, 0)) (by (with_reducible repeat (first | refine blk_drewN ?_ _ | refine blk_drew ?_ | refine blk_alloc ?_ _)); exact BK256.out) hb)
                        have n6_ := Aside0.mk (below_step (by repeat (first | (with_reducible first | exact HB.out | apply below_alloc | apply pw_below_drewN | apply below_drew1 | refine below_set ?_ GE232.out | refine below_set ?_ GE233.out | refine below_set ?_ GE241.out | refine below_set ?_ GE246.out | refine below_set ?_ GE251.out | refine below_set ?_ GE256.out) | exact HB.out)) hb)
                        clear BK232
                        clear BK233
                        clear BK241
                        clear BK246
                        clear BK251
                        clear BK256
                        clear HB
                        have BK232 := n0_
                        have BK233 := n1_
                        have BK241 := n2_
                        have BK246 := n3_
                        have BK251 := n4_
                        have BK256 := n5_
                        have HB := n6_
                        clear n0_ n1_ n2_ n3_ n4_ n5_ n6_
                        (try clear hb)
                        (try clear hb2)
                        (try clear hk)
                        (try clear hi)
                        refine hK.out _ _ ⟨(blk_cell BK241.out 0).trans rfl, (blk_cell BK241.out 1).trans rfl, (blk_cell BK241.out 2).trans rfl, (blk_cell BK246.out 0).trans rfl, (blk_cell BK246.out 1).trans rfl, (blk_cell BK246.out 2).trans rfl, (blk_cell BK251.out 0).trans rfl, (blk_cell BK251.out 1).trans rfl, (blk_cell BK251.out 2).trans rfl, (blk_cell BK256.out 0).trans rfl, (blk_cell BK256.out 1).trans rfl, (blk_cell BK256.out 2).trans rfl⟩ (fun hHeld => ?_)
                        clear hK K
                        refine norm_ (a' := ?_) ?_ ?_
                        rotate_left
                        · show Act.put _ (some 68) _ = _
                          simp only [Act.put, List.setIfInBounds_toArray, List.set_cons_zero, List.set_cons_succ, i64_w, i32_w]
                          rfl
                        refine pure_ (i := 7) (N := some 69) (v := ?_) (a' := ?_) #[true, true, true, true, true, true, true, true, false, false, false, false, false, false, false, false, false, false, false, false, false, false, false, false, false, false] rfl rfl (any_of HT_.out (by kernel_rfl)) (fun _ _ _ h => h) (Or.inl ⟨by rfl, ?_⟩) ?_ ?_
                        rotate_left
                        · intro w'
                          go_simp
                          with_reducible rfl
                        rotate_left
                        · simp only [Act.put, List.setIfInBounds_toArray, List.set_cons_zero, List.set_cons_succ, i64_w, i32_w]
                          rfl
                        refine pure_ (i := 8) (N := some 70) (v := ?_) (a' := ?_) #[true, true, true, true, true, true, true, true, true, false, false, false, false, false, false, false, false, false, false, false, false, false, false, false, false, false] rfl rfl (any_of HT_.out (by kernel_rfl)) (fun _ _ _ h => h) (Or.inl ⟨by rfl, ?_⟩) ?_ ?_
                        rotate_left
                        · intro w'
                          go_simp
                          with_reducible rfl
                        rotate_left
                        · simp only [Act.put, List.setIfInBounds_toArray, List.set_cons_zero, List.set_cons_succ, i64_w, i32_w]
                          rfl
                        refine pure_ (i := 9) (N := some 71) (v := ?_) (a' := ?_) #[true, true, true, true, true, true, true, true, true, true, false, false, false, false, false, false, false, false, false, false, false, false, false, false, false, false] rfl rfl (any_of HT_.out (by kernel_rfl)) (fun _ _ _ h => h) (Or.inl ⟨by rfl, ?_⟩) ?_ ?_
                        rotate_left
                        · intro w'
                          go_simp
                          with_reducible rfl
                        rotate_left
                        · simp only [Act.put, List.setIfInBounds_toArray, List.set_cons_zero, List.set_cons_succ, i64_w, i32_w]
                          rfl
                        refine take_ (i := 10) (N := some 72) (v := ?_) (a' := ?_) #[true, true, true, true, true, true, true, true, true, true, true, false, false, false, false, false, false, false, false, false, false, false, false, false, false, false] rfl rfl (take_ofW HT_.out HW_.out (by kernel_rfl)) (fun _ _ _ h => h) (Or.inl ⟨by rfl, ?_⟩) hHeld ?_ ?_
                        rotate_left
                        · rintro w' ⟨s0, s1, s2, s3, s4, s5, s6, s7, s8, s9, s10, s11⟩
                          go_simp
                          with_reducible rfl
                        rotate_left
                        · simp only [Act.put, List.setIfInBounds_toArray, List.set_cons_zero, List.set_cons_succ, i64_w, i32_w]
                          rfl
                        refine take_ (i := 12) (N := some 74) (v := ?_) (a' := ?_) #[true, true, true, true, true, true, true, true, true, true, true, false, true, false, false, false, false, false, false, false, false, false, false, false, false, false] rfl rfl (take_ofW HT_.out HW_.out (by kernel_rfl)) (fun _ _ _ h => h) (Or.inl ⟨by rfl, ?_⟩) hHeld ?_ ?_
                        rotate_left
                        · rintro w' ⟨s0, s1, s2, s3, s4, s5, s6, s7, s8, s9, s10, s11⟩
                          go_simp
                          with_reducible rfl
                        rotate_left
                        · simp only [Act.put, List.setIfInBounds_toArray, List.set_cons_zero, List.set_cons_succ, i64_w, i32_w]
                          rfl
                        refine one_ (i := 11) (N := some 73) #[true, true, true, true, true, true, true, true, true, true, true, true, true, false, false, false, false, false, false, false, false, false, false, false, false, false] rfl rfl (one_of HT_.out (by kernel_rfl)) (by decide) (fun K hK => ?_)
                        refine goes_ Tryd.func20 (by kernel_rfl) rfl #[.agg #[.int .i64 t247, .int .i64 t248, .string t249]] (by rfl) rfl rfl (by (try simp only [List.map_toArray, List.map_cons, List.map_nil]); first | done | rfl | (simp only [List.length_drop, List.length_take]; rfl)) ?_
                        with_reducible refine (value_Truthy.calls t247 t248 t249 t263 _ A81.out).mono ?_
                        rintro e w89 ⟨rfl, hb⟩
                        refine ⟨_, rfl, ?_⟩
                        have n0_ := Aside0.mk (blk_below (g := gb232) (o := .cells #[.int .i64 a0_0, .int .i64 a0_1, .string a0_2] 23 (0, 0)) (by (with_reducible repeat (first | refine blk_drewN ?_ _ | refine blk_drew ?_ | refine blk_alloc ?_ _)); exact BK232.out) hb)
                        have n1_ := Aside0.mk (blk_below (g := gb233) (o := .cells #[.int .i64 a1_0, .int .i64 a1_1, .string a1_2] 23 (0, 0)) (by (with_reducible repeat (first | refine blk_drewN ?_ _ | refine blk_drew ?_ | refine blk_alloc ?_ _)); exact BK233.out) hb)
                        have n2_ := Aside0.mk (blk_below (g := gb241) (o := .cells #[.int .i64 t237, .int .i64 t238, .string t239] 23 (0, 0)) (by (with_reducible repeat (first | refine blk_drewN ?_ _ | refine blk_drew ?_ | refine blk_alloc ?_ _)); exact BK241.out) hb)
                        have n3_ := Aside0.mk (blk_below (g := gb246) (o := .cells #[.int .i64 t242, .int .i64 t243, .string t244] 23 (0, 0)) (by (with_reducible repeat (first | refine blk_drewN ?_ _ | refine blk_drew ?_ | refine blk_alloc ?_ _)); exact BK246.out) hb)
                        have n4_ := Aside0.mk (blk_below (g := gb251) (o := .cells #[.int .i64 t247, .int .i64 t248, .string t249] 23 (0, 0)) (by (with_reducible repeat (first | refine blk_drewN ?_ _ | refine blk_drew ?_ | refine blk_alloc ?_ _)); exact BK251.out) hb)
                        have n5_ := Aside0.mk (blk_below (g := gb256) (o := .cells #[.int .i64 t252, .int .i64 t253, .string t254] 23 (0, 0)) (by (with_reducible repeat (first | refine blk_drewN ?_ _ | refine blk_drew ?_ | refine blk_alloc ?_ _)); exact BK256.out) hb)
                        have n6_ := Aside0.mk (below_step (by repeat (first | (with_reducible first | exact HB.out | apply below_alloc | apply pw_below_drewN | apply below_drew1 | refine below_set ?_ GE232.out | refine below_set ?_ GE233.out | refine below_set ?_ GE241.out | refine below_set ?_ GE246.out | refine below_set ?_ GE251.out | refine below_set ?_ GE256.out) | exact HB.out)) hb)
                        clear BK232
                        clear BK233
                        clear BK241
                        clear BK246
                        clear BK251
                        clear BK256
                        clear HB
                        have BK232 := n0_
                        have BK233 := n1_
                        have BK241 := n2_
                        have BK246 := n3_
                        have BK251 := n4_
                        have BK256 := n5_
                        have HB := n6_
                        clear n0_ n1_ n2_ n3_ n4_ n5_ n6_
                        (try clear hb)
                        (try clear hb2)
                        (try clear hk)
                        (try clear hi)
                        refine hK.out _ _ ⟨(blk_cell BK241.out 0).trans rfl, (blk_cell BK241.out 1).trans rfl, (blk_cell BK241.out 2).trans rfl, (blk_cell BK246.out 0).trans rfl, (blk_cell BK246.out 1).trans rfl, (blk_cell BK246.out 2).trans rfl, (blk_cell BK251.out 0).trans rfl, (blk_cell BK251.out 1).trans rfl, (blk_cell BK251.out 2).trans rfl, (blk_cell BK256.out 0).trans rfl, (blk_cell BK256.out 1).trans rfl, (blk_cell BK256.out 2).trans rfl⟩ (fun hHeld => ?_)
                        clear hK K
                        refine norm_ (a' := ?_) ?_ ?_
                        rotate_left
                        · show Act.put _ (some 73) _ = _
                          simp only [Act.put, List.setIfInBounds_toArray, List.set_cons_zero, List.set_cons_succ, i64_w, i32_w]
                          rfl
                        refine one_ (i := 13) (N := some 75) #[true, true, true, true, true, true, true, true, true, true, true, true, true, true, false, false, false, false, false, false, false, false, false, false, false, false] rfl rfl (one_of HT_.out (by kernel_rfl)) (by decide) (fun K hK => ?_)
                        refine goes_ Tryd.func20 (by kernel_rfl) rfl #[.agg #[.int .i64 t242, .int .i64 t243, .string t244]] (by rfl) rfl rfl (by (try simp only [List.map_toArray, List.map_cons, List.map_nil]); first | done | rfl | (simp only [List.length_drop, List.length_take]; rfl)) ?_
                        with_reducible refine (value_Truthy.calls t242 t243 t244 t264 _ A82.out).mono ?_
                        rintro e w90 ⟨rfl, hb⟩
                        refine ⟨_, rfl, ?_⟩
                        have n0_ := Aside0.mk (blk_below (g := gb232) (o := .cells #[.int .i64 a0_0, .int .i64 a0_1, .string a0_2] 23 (0, 0)) (by (with_reducible repeat (first | refine blk_drewN ?_ _ | refine blk_drew ?_ | refine blk_alloc ?_ _)); exact BK232.out) hb)
                        have n1_ := Aside0.mk (blk_below (g := gb233) (o := .cells #[.int .i64 a1_0, .int .i64 a1_1, .string a1_2] 23 (0, 0)) (by (with_reducible repeat (first | refine blk_drewN ?_ _ | refine blk_drew ?_ | refine blk_alloc ?_ _)); exact BK233.out) hb)
                        have n2_ := Aside0.mk (blk_below (g := gb241) (o := .cells #[.int .i64 t237, .int .i64 t238, .string t239] 23 (0, 0)) (by (with_reducible repeat (first | refine blk_drewN ?_ _ | refine blk_drew ?_ | refine blk_alloc ?_ _)); exact BK241.out) hb)
                        have n3_ := Aside0.mk (blk_below (g := gb246) (o := .cells #[.int .i64 t242, .int .i64 t243, .string t244] 23 (0, 0)) (by (with_reducible repeat (first | refine blk_drewN ?_ _ | refine blk_drew ?_ | refine blk_alloc ?_ _)); exact BK246.out) hb)
                        have n4_ := Aside0.mk (blk_below (g := gb251) (o := .cells #[.int .i64 t247, .int .i64 t248, .string t249] 23 (0, 0)) (by (with_reducible repeat (first | refine blk_drewN ?_ _ | refine blk_drew ?_ | refine blk_alloc ?_ _)); exact BK251.out) hb)
                        have n5_ := Aside0.mk (blk_below (g := gb256) (o := .cells #[.int .i64 t252, .int .i64 t253, .string t254] 23 (0, 0)) (by (with_reducible repeat (first | refine blk_drewN ?_ _ | refine blk_drew ?_ | refine blk_alloc ?_ _)); exact BK256.out) hb)
                        have n6_ := Aside0.mk (below_step (by repeat (first | (with_reducible first | exact HB.out | apply below_alloc | apply pw_below_drewN | apply below_drew1 | refine below_set ?_ GE232.out | refine below_set ?_ GE233.out | refine below_set ?_ GE241.out | refine below_set ?_ GE246.out | refine below_set ?_ GE251.out | refine below_set ?_ GE256.out) | exact HB.out)) hb)
                        clear BK232
                        clear BK233
                        clear BK241
                        clear BK246
                        clear BK251
                        clear BK256
                        clear HB
                        have BK232 := n0_
                        have BK233 := n1_
                        have BK241 := n2_
                        have BK246 := n3_
                        have BK251 := n4_
                        have BK256 := n5_
                        have HB := n6_
                        clear n0_ n1_ n2_ n3_ n4_ n5_ n6_
                        (try clear hb)
                        (try clear hb2)
                        (try clear hk)
                        (try clear hi)
                        refine hK.out _ _ ⟨(blk_cell BK241.out 0).trans rfl, (blk_cell BK241.out 1).trans rfl, (blk_cell BK241.out 2).trans rfl, (blk_cell BK246.out 0).trans rfl, (blk_cell BK246.out 1).trans rfl, (blk_cell BK246.out 2).trans rfl, (blk_cell BK251.out 0).trans rfl, (blk_cell BK251.out 1).trans rfl, (blk_cell BK251.out 2).trans rfl, (blk_cell BK256.out 0).trans rfl, (blk_cell BK256.out 1).trans rfl, (blk_cell BK256.out 2).trans rfl⟩ (fun hHeld => ?_)
                        clear hK K
                        refine norm_ (a' := ?_) ?_ ?_
                        rotate_left
                        · show Act.put _ (some 75) _ = _
                          simp only [Act.put, List.setIfInBounds_toArray, List.set_cons_zero, List.set_cons_succ, i64_w, i32_w]
                          rfl
                        refine pure_ (i := 14) (N := some 76) (v := ?_) (a' := ?_) #[true, true, true, true, true, true, true, true, true, true, true, true, true, true, true, false, false, false, false, false, false, false, false, false, false, false] rfl rfl (any_of HT_.out (by kernel_rfl)) (fun _ _ _ h => h) (Or.inl ⟨by rfl, ?_⟩) ?_ ?_
                        rotate_left
                        · intro w'
                          go_simp
                          with_reducible rfl
                        rotate_left
                        · simp only [Act.put, List.setIfInBounds_toArray, List.set_cons_zero, List.set_cons_succ, i64_w, i32_w]
                          rfl
                        refine pure_ (i := 15) (N := some 77) (v := ?_) (a' := ?_) #[true, true, true, true, true, true, true, true, true, true, true, true, true, true, true, true, false, false, false, false, false, false, false, false, false, false] rfl rfl (any_of HT_.out (by kernel_rfl)) (fun _ _ _ h => h) (Or.inl ⟨by rfl, ?_⟩) ?_ ?_
                        rotate_left
                        · intro w'
                          go_simp
                          with_reducible rfl
                        rotate_left
                        · simp only [Act.put, List.setIfInBounds_toArray, List.set_cons_zero, List.set_cons_succ, i64_w, i32_w]
                          rfl
                        refine pure_ (i := 16) (N := some 78) (v := ?_) (a' := ?_) #[true, true, true, true, true, true, true, true, true, true, true, true, true, true, true, true, true, false, false, false, false, false, false, false, false, false] rfl rfl (any_of HT_.out (by kernel_rfl)) (fun _ _ _ h => h) (Or.inl ⟨by rfl, ?_⟩) ?_ ?_
                        rotate_left
                        · intro w'
                          go_simp
                          with_reducible rfl
                        rotate_left
                        · simp only [Act.put, List.setIfInBounds_toArray, List.set_cons_zero, List.set_cons_succ, i64_w, i32_w]
                          rfl
                        refine pure_ (i := 17) (N := some 79) (v := ?_) (a' := ?_) #[true, true, true, true, true, true, true, true, true, true, true, true, true, true, true, true, true, true, false, false, false, false, false, false, false, false] rfl rfl (any_of HT_.out (by kernel_rfl)) (fun _ _ _ h => h) (Or.inl ⟨by rfl, ?_⟩) ?_ ?_
                        rotate_left
                        · intro w'
                          go_simp
                          with_reducible rfl
                        rotate_left
                        · simp only [Act.put, List.setIfInBounds_toArray, List.set_cons_zero, List.set_cons_succ, i64_w, i32_w]
                          rfl
                        refine take_ (i := 18) (N := some 80) (v := ?_) (a' := ?_) #[true, true, true, true, true, true, true, true, true, true, true, true, true, true, true, true, true, true, true, false, false, false, false, false, false, false] rfl rfl (take_ofW HT_.out HW_.out (by kernel_rfl)) (fun _ _ _ h => h) (Or.inl ⟨by rfl, ?_⟩) hHeld ?_ ?_
                        rotate_left
                        · rintro w' ⟨s0, s1, s2, s3, s4, s5, s6, s7, s8, s9, s10, s11⟩
                          go_simp
                          with_reducible rfl
                        rotate_left
                        · simp only [Act.put, List.setIfInBounds_toArray, List.set_cons_zero, List.set_cons_succ, i64_w, i32_w]
                          rfl
                        refine take_ (i := 20) (N := some 82) (v := ?_) (a' := ?_) #[true, true, true, true, true, true, true, true, true, true, true, true, true, true, true, true, true, true, true, false, true, false, false, false, false, false] rfl rfl (take_ofW HT_.out HW_.out (by kernel_rfl)) (fun _ _ _ h => h) (Or.inl ⟨by rfl, ?_⟩) hHeld ?_ ?_
                        rotate_left
                        · rintro w' ⟨s0, s1, s2, s3, s4, s5, s6, s7, s8, s9, s10, s11⟩
                          go_simp
                          with_reducible rfl
                        rotate_left
                        · simp only [Act.put, List.setIfInBounds_toArray, List.set_cons_zero, List.set_cons_succ, i64_w, i32_w]
                          rfl
                        refine one_ (i := 19) (N := some 81) #[true, true, true, true, true, true, true, true, true, true, true, true, true, true, true, true, true, true, true, true, true, false, false, false, false, false] rfl rfl (one_of HT_.out (by kernel_rfl)) (by decide) (fun K hK => ?_)
                        refine goes_ Tryd.func20 (by kernel_rfl) rfl #[.agg #[.int .i64 t252, .int .i64 t253, .string t254]] (by rfl) rfl rfl (by (try simp only [List.map_toArray, List.map_cons, List.map_nil]); first | done | rfl | (simp only [List.length_drop, List.length_take]; rfl)) ?_
                        with_reducible refine (value_Truthy.calls t252 t253 t254 t265 _ A84.out).mono ?_
                        rintro e w91 ⟨rfl, hb⟩
                        refine ⟨_, rfl, ?_⟩
                        have n0_ := Aside0.mk (blk_below (g := gb232) (o := .cells #[.int .i64 a0_0, .int .i64 a0_1, .string a0_2] 23 (0, 0)) (by (with_reducible repeat (first | refine blk_drewN ?_ _ | refine blk_drew ?_ | refine blk_alloc ?_ _)); exact BK232.out) hb)
                        have n1_ := Aside0.mk (blk_below (g := gb233) (o := .cells #[.int .i64 a1_0, .int .i64 a1_1, .string a1_2] 23 (0, 0)) (by (with_reducible repeat (first | refine blk_drewN ?_ _ | refine blk_drew ?_ | refine blk_alloc ?_ _)); exact BK233.out) hb)
                        have n2_ := Aside0.mk (blk_below (g := gb241) (o := .cells #[.int .i64 t237, .int .i64 t238, .string t239] 23 (0, 0)) (by (with_reducible repeat (first | refine blk_drewN ?_ _ | refine blk_drew ?_ | refine blk_alloc ?_ _)); exact BK241.out) hb)
                        have n3_ := Aside0.mk (blk_below (g := gb246) (o := .cells #[.int .i64 t242, .int .i64 t243, .string t244] 23 (0, 0)) (by (with_reducible repeat (first | refine blk_drewN ?_ _ | refine blk_drew ?_ | refine blk_alloc ?_ _)); exact BK246.out) hb)
                        have n4_ := Aside0.mk (blk_below (g := gb251) (o := .cells #[.int .i64 t247, .int .i64 t248, .string t249] 23 (0, 0)) (by (with_reducible repeat (first | refine blk_drewN ?_ _ | refine blk_drew ?_ | refine blk_alloc ?_ _)); exact BK251.out) hb)
                        have n5_ := Aside0.mk (blk_below (g := gb256) (o := .cells #[.int .i64 t252, .int .i64 t253, .string t254] 23 (0, 0)) (by (with_reducible repeat (first | refine blk_drewN ?_ _ | refine blk_drew ?_ | refine blk_alloc ?_ _)); exact BK256.out) hb)
                        have n6_ := Aside0.mk (below_step (by repeat (first | (with_reducible first | exact HB.out | apply below_alloc | apply pw_below_drewN | apply below_drew1 | refine below_set ?_ GE232.out | refine below_set ?_ GE233.out | refine below_set ?_ GE241.out | refine below_set ?_ GE246.out | refine below_set ?_ GE251.out | refine below_set ?_ GE256.out) | exact HB.out)) hb)
                        clear BK232
                        clear BK233
                        clear BK241
                        clear BK246
                        clear BK251
                        clear BK256
                        clear HB
                        have BK232 := n0_
                        have BK233 := n1_
                        have BK241 := n2_
                        have BK246 := n3_
                        have BK251 := n4_
                        have BK256 := n5_
                        have HB := n6_
                        clear n0_ n1_ n2_ n3_ n4_ n5_ n6_
                        (try clear hb)
                        (try clear hb2)
                        (try clear hk)
                        (try clear hi)
                        refine hK.out _ _ ⟨(blk_cell BK241.out 0).trans rfl, (blk_cell BK241.out 1).trans rfl, (blk_cell BK241.out 2).trans rfl, (blk_cell BK246.out 0).trans rfl, (blk_cell BK246.out 1).trans rfl, (blk_cell BK246.out 2).trans rfl, (blk_cell BK251.out 0).trans rfl, (blk_cell BK251.out 1).trans rfl, (blk_cell BK251.out 2).trans rfl, (blk_cell BK256.out 0).trans rfl, (blk_cell BK256.out 1).trans rfl, (blk_cell BK256.out 2).trans rfl⟩ (fun hHeld => ?_)
                        clear hK K
                        refine norm_ (a' := ?_) ?_ ?_
                        rotate_left
                        · show Act.put _ (some 81) _ = _
                          simp only [Act.put, List.setIfInBounds_toArray, List.set_cons_zero, List.set_cons_succ, i64_w, i32_w]
                          rfl
                        refine one_ (i := 21) (N := some 83) #[true, true, true, true, true, true, true, true, true, true, true, true, true, true, true, true, true, true, true, true, true, true, false, false, false, false] rfl rfl (one_of HT_.out (by kernel_rfl)) (by decide) (fun K hK => ?_)
                        refine goes_ Tryd.func20 (by kernel_rfl) rfl #[.agg #[.int .i64 t237, .int .i64 t238, .string t239]] (by rfl) rfl rfl (by (try simp only [List.map_toArray, List.map_cons, List.map_nil]); first | done | rfl | (simp only [List.length_drop, List.length_take]; rfl)) ?_
                        with_reducible refine (value_Truthy.calls t237 t238 t239 t266 _ A85.out).mono ?_
                        rintro e w92 ⟨rfl, hb⟩
                        refine ⟨_, rfl, ?_⟩
                        have n0_ := Aside0.mk (blk_below (g := gb232) (o := .cells #[.int .i64 a0_0, .int .i64 a0_1, .string a0_2] 23 (0, 0)) (by (with_reducible repeat (first | refine blk_drewN ?_ _ | refine blk_drew ?_ | refine blk_alloc ?_ _)); exact BK232.out) hb)
                        have n1_ := Aside0.mk (blk_below (g := gb233) (o := .cells #[.int .i64 a1_0, .int .i64 a1_1, .string a1_2] 23 (0, 0)) (by (with_reducible repeat (first | refine blk_drewN ?_ _ | refine blk_drew ?_ | refine blk_alloc ?_ _)); exact BK233.out) hb)
                        have n2_ := Aside0.mk (blk_below (g := gb241) (o := .cells #[.int .i64 t237, .int .i64 t238, .string t239] 23 (0, 0)) (by (with_reducible repeat (first | refine blk_drewN ?_ _ | refine blk_drew ?_ | refine blk_alloc ?_ _)); exact BK241.out) hb)
                        have n3_ := Aside0.mk (blk_below (g := gb246) (o := .cells #[.int .i64 t242, .int .i64 t243, .string t244] 23 (0, 0)) (by (with_reducible repeat (first | refine blk_drewN ?_ _ | refine blk_drew ?_ | refine blk_alloc ?_ _)); exact BK246.out) hb)
                        have n4_ := Aside0.mk (blk_below (g := gb251) (o := .cells #[.int .i64 t247, .int .i64 t248, .string t249] 23 (0, 0)) (by (with_reducible repeat (first | refine blk_drewN ?_ _ | refine blk_drew ?_ | refine blk_alloc ?_ _)); exact BK251.out) hb)
                        have n5_ := Aside0.mk (blk_below (g := gb256) (o := .cells #[.int .i64 t252, .int .i64 t253, .string t254] 23 (0, 0)) (by (with_reducible repeat (first | refine blk_drewN ?_ _ | refine blk_drew ?_ | refine blk_alloc ?_ _)); exact BK256.out) hb)
                        have n6_ := Aside0.mk (below_step (by repeat (first | (with_reducible first | exact HB.out | apply below_alloc | apply pw_below_drewN | apply below_drew1 | refine below_set ?_ GE232.out | refine below_set ?_ GE233.out | refine below_set ?_ GE241.out | refine below_set ?_ GE246.out | refine below_set ?_ GE251.out | refine below_set ?_ GE256.out) | exact HB.out)) hb)
                        clear BK232
                        clear BK233
                        clear BK241
                        clear BK246
                        clear BK251
                        clear BK256
                        clear HB
                        have BK232 := n0_
                        have BK233 := n1_
                        have BK241 := n2_
                        have BK246 := n3_
                        have BK251 := n4_
                        have BK256 := n5_
                        have HB := n6_
                        clear n0_ n1_ n2_ n3_ n4_ n5_ n6_
                        (try clear hb)
                        (try clear hb2)
                        (try clear hk)
                        (try clear hi)
                        refine hK.out _ _ ⟨(blk_cell BK241.out 0).trans rfl, (blk_cell BK241.out 1).trans rfl, (blk_cell BK241.out 2).trans rfl, (blk_cell BK246.out 0).trans rfl, (blk_cell BK246.out 1).trans rfl, (blk_cell BK246.out 2).trans rfl, (blk_cell BK251.out 0).trans rfl, (blk_cell BK251.out 1).trans rfl, (blk_cell BK251.out 2).trans rfl, (blk_cell BK256.out 0).trans rfl, (blk_cell BK256.out 1).trans rfl, (blk_cell BK256.out 2).trans rfl⟩ (fun hHeld => ?_)
                        clear hK K
                        refine norm_ (a' := ?_) ?_ ?_
                        rotate_left
                        · show Act.put _ (some 83) _ = _
                          simp only [Act.put, List.setIfInBounds_toArray, List.set_cons_zero, List.set_cons_succ, i64_w, i32_w]
                          rfl
                        refine pure_ (i := 22) (N := some 84) (v := ?_) (a' := ?_) #[true, true, true, true, true, true, true, true, true, true, true, true, true, true, true, true, true, true, true, true, true, true, true, false, false, false] rfl rfl (any_of HT_.out (by kernel_rfl)) (fun _ _ _ h => h) (Or.inl ⟨by rfl, ?_⟩) ?_ ?_
                        rotate_left
                        · intro w'
                          go_simp
                          with_reducible rfl
                        rotate_left
                        · simp only [Act.put, List.setIfInBounds_toArray, List.set_cons_zero, List.set_cons_succ, i64_w, i32_w]
                          rfl
                        refine pure_ (i := 23) (N := some 85) (v := ?_) (a' := ?_) #[true, true, true, true, true, true, true, true, true, true, true, true, true, true, true, true, true, true, true, true, true, true, true, true, false, false] rfl rfl (any_of HT_.out (by kernel_rfl)) (fun _ _ _ h => h) (Or.inl ⟨by rfl, ?_⟩) ?_ ?_
                        rotate_left
                        · intro w'
                          go_simp
                          with_reducible rfl
                        rotate_left
                        · simp only [Act.put, List.setIfInBounds_toArray, List.set_cons_zero, List.set_cons_succ, i64_w, i32_w]
                          rfl
                        refine pure_ (i := 24) (N := some 86) (v := ?_) (a' := ?_) #[true, true, true, true, true, true, true, true, true, true, true, true, true, true, true, true, true, true, true, true, true, true, true, true, true, false] rfl rfl (any_of HT_.out (by kernel_rfl)) (fun _ _ _ h => h) (Or.inl ⟨by rfl, ?_⟩) ?_ ?_
                        rotate_left
                        · intro w'
                          go_simp
                          with_reducible rfl
                        rotate_left
                        · simp only [Act.put, List.setIfInBounds_toArray, List.set_cons_zero, List.set_cons_succ, i64_w, i32_w]
                          rfl
                        refine pure_ (i := 25) (N := some 4) (v := ?_) (a' := ?_) #[true, true, true, true, true, true, true, true, true, true, true, true, true, true, true, true, true, true, true, true, true, true, true, true, true, true] rfl rfl (any_of HT_.out (by kernel_rfl)) (fun _ _ _ h => h) (Or.inl ⟨by rfl, ?_⟩) ?_ ?_
                        rotate_left
                        · intro w'
                          go_simp
                          with_reducible rfl
                        rotate_left
                        · simp only [Act.put, List.setIfInBounds_toArray, List.set_cons_zero, List.set_cons_succ, i64_w, i32_w]
                          rfl
                        refine done_ (done_of HT_.out (by kernel_rfl)) ?_
                        try go_wp2
                        go_meet
                        case rel => exact ⟨_, ((t265 == (!t266))), (by first | rfl | (simp; done) | (simp [*]; done) | (simp [*]; exact (fun (l_ : List UInt8) => (by cases l_ <;> rfl : l_.isEmpty = !(l_ != []))) _)), H', ⟨by have := HJ3.out; have := HJ23.out; first | omega | exact Nat.le_refl _⟩, ⟨by (with_reducible repeat (first | refine blk_drewN ?_ _ | refine blk_drew ?_ | refine blk_alloc ?_ _)); exact BK232.out⟩, ⟨by (with_reducible repeat (first | refine blk_drewN ?_ _ | refine blk_drew ?_ | refine blk_alloc ?_ _)); exact BK233.out⟩, ⟨by (with_reducible repeat (first | refine blk_drewN ?_ _ | refine blk_drew ?_ | refine blk_alloc ?_ _)); exact BK241.out⟩, ⟨by (with_reducible repeat (first | refine blk_drewN ?_ _ | refine blk_drew ?_ | refine blk_alloc ?_ _)); exact BK246.out⟩, ⟨by (with_reducible repeat (first | refine blk_drewN ?_ _ | refine blk_drew ?_ | refine blk_alloc ?_ _)); exact BK251.out⟩, ⟨by (with_reducible repeat (first | refine blk_drewN ?_ _ | refine blk_drew ?_ | refine blk_alloc ?_ _)); exact BK256.out⟩, ⟨by repeat (first | (with_reducible first | exact HB.out | apply below_alloc | apply pw_below_drewN | apply below_drew1 | refine below_set ?_ GE232.out | refine below_set ?_ GE233.out | refine below_set ?_ GE241.out | refine below_set ?_ GE246.out | refine below_set ?_ GE251.out | refine below_set ?_ GE256.out) | exact HB.out)⟩⟩
                      · rw [if_neg c83] at H
                        exact absurd H (by simp)
                    · replace c80 := Bool.eq_false_iff.mpr c80
                      subst c80
                      have H1 : (none) = some r := by rw [if_neg (show ¬ (false = true) by decide)] at H; exact H
                      clear H
                      have H := H1
                      clear H1
                      exact absurd H (by simp)
                · replace c65 := Bool.eq_false_iff.mpr c65
                  subst c65
                  have H1 : (none) = some r := by rw [if_neg (show ¬ (false = true) by decide)] at H; exact H
                  clear H
                  have H := H1
                  clear H1
                  exact absurd H (by simp)
              case rest =>
                clear HC64
                try clear c2
                try clear p2
                try clear c6
                try clear c7
                try clear c8
                try clear c20
                try clear c65
                try clear c67
                try clear c70
                try clear c80
                try clear c83
                try clear c83b0
                try clear c83b1
                try clear c83b2
                obtain ⟨kq, x4_63, rfl, HA, HJ63, BK232, BK233, BK241, BK246, BK251, BK256, HB⟩ := hcut
                cases kq with
                | zero => exact absurd HA.out (by simp [gumshoelaw06_ValueOrders.j2])
                | succ kj63 =>
                  have H := HA.out
                  clear HA
                  simp only [gumshoelaw06_ValueOrders.j2] at H
                  obtain rfl := Option.some.inj H
                  go_wp2
                  go_ret
                  exact ⟨by first | rfl | (simp [errW_none, errW_some] <;> rfl) | (simp [*, errW_none, errW_some] <;> rfl) | (simp [*, errW_none, errW_some]; exact (fun (l_ : List UInt8) => (by cases l_ <;> rfl : l_.isEmpty = !(l_ != []))) _), by repeat (first | (with_reducible first | exact HB.out | apply below_alloc | apply pw_below_drewN | apply below_drew1 | refine below_set ?_ GE232.out | refine below_set ?_ GE233.out | refine below_set ?_ GE241.out | refine below_set ?_ GE246.out | refine below_set ?_ GE251.out | refine below_set ?_ GE256.out) | exact HB.out)⟩
end Go.Proofs.YtmdchbenalhpjaaDoor.Pv

/- The plain law of ValueOrders. No condition. -/
namespace Go.Proofs.YtmdchbenalhpjaaDoor.Pure
open Go.RowKit Go.Proofs.YtmdchbenalhpjaaDoorW.PrintWords Go.Proofs.YtmdchbenalhpjaaDoorW.PrintLast Go.Proofs.YtmdchbenalhpjaaDoor.Va Go.Proofs.YtmdchbenalhpjaaDoor.Vb Go.Proofs.YtmdchbenalhpjaaDoor.Vc Go.Proofs.YtmdchbenalhpjaaDoor.Pv
set_option linter.unusedVariables false
set_option linter.unusedSimpArgs false
theorem less_asym : ∀ l r : List UInt8, Op.bytesLess l r = true → Op.bytesLess r l = false
  | [], [] => fun h => by cases h
  | [], b :: r => fun _ => rfl
  | a :: l, [] => fun h => by cases h
  | a :: l, b :: r => fun h => by
    unfold Op.bytesLess at h ⊢
    have ih := less_asym l r
    by_cases e : a = b
    · subst e
      simp at h ⊢
      exact ih h
    · have e' : b ≠ a := fun q => e q.symm
      simp [e, e'] at h ⊢
      first | exact h | exact UInt8.le_of_lt h | (have := UInt8.lt_iff_toNat_lt.1 h; rw [UInt8.le_iff_toNat_le]; omega)
theorem less_tri : ∀ l r : List UInt8, Op.bytesLess l r = false → l ≠ r → Op.bytesLess r l = true
  | [], [] => fun _ h => absurd rfl h
  | [], b :: r => fun h _ => by cases h
  | a :: l, [] => fun _ _ => rfl
  | a :: l, b :: r => fun h hne => by
    unfold Op.bytesLess at h ⊢
    have ih := less_tri l r
    by_cases e : a = b
    · subst e
      simp at h hne ⊢
      exact ih h hne
    · have e' : b ≠ a := fun q => e q.symm
      simp [e, e'] at h ⊢
      have h1 := UInt8.le_iff_toNat_le.1 h
      have h2 : a.toNat ≠ b.toNat := fun q => e (UInt8.toNat_inj.1 q)
      rw [UInt8.lt_iff_toNat_lt]
      omega
theorem cmp_anti (a b : VR) : cmpS b a = -cmpS a b := by
  unfold cmpS
  by_cases h : a.1 = 4 ∧ b.1 = 4
  · rw [if_pos h, if_pos ⟨h.2, h.1⟩]
    by_cases hl : Op.bytesLess a.2.2.toList b.2.2.toList = true
    · rw [if_pos hl, less_asym _ _ hl, if_neg (by decide)]
      have hne : (b.2.2.toList == a.2.2.toList) = false := by
        apply beq_eq_false_iff_ne.mpr
        intro e
        rw [e, less_self] at hl
        cases hl
      rw [hne, if_neg (by decide)]
      rfl
    · rw [if_neg hl]
      by_cases he : a.2.2.toList = b.2.2.toList
      · simp [he, less_self]
      · have he' : (a.2.2.toList == b.2.2.toList) = false := beq_eq_false_iff_ne.mpr he
        rw [he', less_tri _ _ (Bool.not_eq_true _ ▸ hl) he, if_pos rfl, if_neg (by decide)]
  · rw [if_neg h, if_neg (fun e => h ⟨e.2, e.1⟩)]
    generalize numS a.1 a.2.1 a.2.2 = x
    generalize numS b.1 b.2.1 b.2.2 = y
    repeat' split
    all_goals omega
theorem truthy_bool (b : Bool) : truthyS (boolS b).1 (boolS b).2.1 (boolS b).2.2 = b := by cases b <;> rfl
theorem ValueOrders (a0 a1 : Int) (a2 : ByteArray) (h : I64 a1) (hs : a2.size ≤ 140737488355328) (b0 b1 : Int) (b2 : ByteArray) (h' : I64 b1) (hs' : b2.size ≤ 140737488355328) : gumshoelaw06_ValueOrders.f 3 a0 a1 a2 b0 b1 b2 = some true := by
  have hf : FB a1 a2 := fb h hs
  have hg : FB b1 b2 := fb h' hs'
  unfold gumshoelaw06_ValueOrders.f
  rw [shown_tells]
  simp only [Option.bind_some, Vb.value_Right.f]
  have hj : ∀ x0 x1 x2 y0 y1 y2, gumshoelaw06_ValueOrders.j0 3 true true x0 x1 x2 y0 y1 y2 = some true := fun _ _ _ _ _ _ => by
    rw [gumshoelaw06_ValueOrders.j0, if_pos rfl]
  by_cases hr : rightS a0 a1 a2 = true
  · rw [if_pos hr]
    by_cases hr' : rightS b0 b1 b2 = true
    · rw [hr']
      have t1 := val_two ⟨#[60, 61]⟩ a0 a1 a2 b0 b1 b2 hf hg (by decide) _ _ (two_leq (a0, a1, a2) (b0, b1, b2))
      have t2 := val_two ⟨#[60, 61]⟩ b0 b1 b2 a0 a1 a2 hg hf (by decide) _ _ (two_leq (b0, b1, b2) (a0, a1, a2))
      have t3 := val_two ⟨#[60]⟩ a0 a1 a2 b0 b1 b2 hf hg (by decide) _ _ (two_lss (a0, a1, a2) (b0, b1, b2))
      have t4 := val_two ⟨#[60]⟩ b0 b1 b2 a0 a1 a2 hg hf (by decide) _ _ (two_lss (b0, b1, b2) (a0, a1, a2))
      rw [cmp_anti (a0, a1, a2) (b0, b1, b2)] at t2 t4
      generalize cmpS (a0, a1, a2) (b0, b1, b2) = c at *
      rw [gumshoelaw06_ValueOrders.j0, if_neg (by decide)]
      simp only [t1, t2, t3, t4, Option.bind_some, if_true, gumshoelaw06_ValueOrders.j1, gumshoelaw06_ValueOrders.j2, Vb.value_Truthy.f, truthy_bool]
      rcases Int.lt_trichotomy c 0 with hc | hc | hc
      · have e1 : decide (c ≤ 0) = true := decide_eq_true (by omega)
        have e2 : decide (-c ≤ 0) = false := decide_eq_false (by omega)
        have e3 : decide (c < 0) = true := decide_eq_true (by omega)
        have e4 : decide (-c < 0) = false := decide_eq_false (by omega)
        simp [e1, e2, e3, e4]
        try omega
      · subst hc
        decide
      · have e1 : decide (c ≤ 0) = false := decide_eq_false (by omega)
        have e2 : decide (-c ≤ 0) = true := decide_eq_true (by omega)
        have e3 : decide (c < 0) = false := decide_eq_false (by omega)
        have e4 : decide (-c < 0) = true := decide_eq_true (by omega)
        simp [e1, e2, e3, e4]
        try omega
    · rw [show rightS b0 b1 b2 = false by simpa using hr']
      exact hj _ _ _ _ _ _
  · rw [if_neg hr, hj]
end Go.Proofs.YtmdchbenalhpjaaDoor.Pure

/- ValueOrders: for every input the law returns true, and each argument reads as it did; its row, and its tied card. No condition but those of the card. -/
namespace Go.Proofs.YtmdchbenalhpjaaDoor.valueOrders
open Go.ChangeShapes Go.WideShapes Go.ChangeAt Go.RowKit
open Go.ChangeMaps (open_string shut_string)
open Go.Proofs.YtmdchbenalhpjaaDoor Go.Proofs.YtmdchbenalhpjaaDoor.Vc Go.Proofs.YtmdchbenalhpjaaDoorW.PrintWords
set_option linter.unusedVariables false
set_option maxRecDepth 100000 in
theorem lifted (os : Os) (started : os.Started) (H : Type) (enc : TypeId × Value → H) :
    ReturnsInHanded {} Tryd.checked os 7 .any (fun w args => (Rows.valueOrdersSpec.pre enc Tryd.prog Tryd.f7 [] false w args ∧ laidMetH Tryd.prog five w) ∧ sizedMet enc Tryd.prog Tryd.f7 (OpenSpec.ofChange Rows.valueOrdersSpec) false w args) (Rows.valueOrdersSpec.post enc Tryd.prog Tryd.f7 false true false false) := by
  refine returnsInHanded_of_change_and (C := Tryd.checked) (X := fun w _ => laidMetH Tryd.prog five w) (fun _ _ _ hh h => h.of_heap hh) own started (by kernel_rfl) Tryd.func7
    (ChangeSpec.witness_shaped (enc := enc) (C := Tryd.checked) (os := os) (X := fun w _ => laidMetH Tryd.prog five w) false (World.doorLaid Tryd.prog 400 os) #[.agg #[.int .i64 0, .int .i64 0, .string ByteArray.empty], .agg #[.int .i64 0, .int .i64 0, .string ByteArray.empty]] 8 rfl (World.shaped_of_RefB (by kernel_rfl) (by kernel_rfl)) (by kernel_rfl) (by kernel_rfl) (by kernel_rfl) (door_met os _)) ?_
  intro W base args ds gs before hval0 hW _ hsz0 hL0 _
  have hL := laid_of hL0
  have hsz : (DataW.weightsEach Tryd.prog (Tryd.f7.params.toList ++ Rows.valueOrdersSpec.plain.varTypes Tryd.prog) (ds ++ gs)).all (· ≤ reachBytes) = true := hsz0
  have hval : ∀ (j : Nat) t v, Tryd.f7.params[j]? = some t → args[j]? = some v → Value.okWide Tryd.prog W .any base t v := hval0
  have hW' := hW
  obtain ⟨p, q, hA0, hV, rfl, hfz, hnd⟩ := hW
  have hA : DataW.TrodAll enc Tryd.prog W 0 (fun _ => true) true Tryd.f7.params.toList args.toList ds p := hA0
  rw [Tryd.params7] at hA hval hsz
  obtain ⟨v0, vs0, d0, ds0, p0, q0, hargs, rfl, rfl, h0, r0⟩ := trodAll_cons hA
  obtain ⟨v1, vs1, d1, ds1, p1, q1, rfl, rfl, rfl, h1, r1⟩ := trodAll_cons r0
  obtain ⟨rfl, rfl, rfl⟩ := trodAll_nil r1
  obtain rfl : args = #[v0, v1] := by cases args; simp_all
  obtain ⟨rfl, rfl⟩ := trodVars_none hV
  have k0 := h0
  obtain ⟨n0, m0, t0, rfl, rfl, rfl, w0⟩ := open_val (hval 0 23 v0 rfl rfl) h0
  have y0 : t0.size ≤ 140737488355328 := by
    have z := val_size hsz (j := 0) rfl rfl
    rw [Array.length_toList] at z
    exact Nat.le_trans z (by decide)
  have k1 := h1
  obtain ⟨n1, m1, t1, rfl, rfl, rfl, w1⟩ := open_val (hval 1 23 v1 rfl rfl) h1
  have y1 : t1.size ≤ 140737488355328 := by
    have z := val_size hsz (j := 1) rfl rfl
    rw [Array.length_toList] at z
    exact Nat.le_trans z (by decide)
  clear hA0 hval0 hsz0 hsz hL0
  have hP := Pure.ValueOrders n0 m0 t0 (Va.i64_of_wf w0) y0 n1 m1 t1 (Va.i64_of_wf w1) y1
  refine (Pv.gumshoelaw06_ValueOrders.calls 3 n0 m0 t0 n1 m1 t1 true W hL hP).mono fun e W' ⟨he, bel⟩ => ?_
  subst he
  exact ⟨_, rfl, _, _, _, [], _, [], hW', trodAll_mk1 (shut_bool Tryd.underlying4 _), (trodAll_cons_mk (Below.trod laidOut (by kernel_rfl) (of_decide_eq_true (by kernel_rfl)) k0 bel (fun _ h => by cases h)) (trodAll_cons_mk (Below.trod laidOut (by kernel_rfl) (of_decide_eq_true (by kernel_rfl)) k1 bel (fun _ h => by cases h)) trodAll_mk0)), rfl, bel.frame _, fun h => by cases h⟩
theorem over : Rows.valueOrdersRow.holds Tryd.pinned (OpenSpec.ofChange Rows.valueOrdersSpec) :=
  OpenClaim.holds_of_wide 7 Tryd.f7 rfl rfl rfl rfl rfl rfl rfl ⟨rfl, rfl, rfl, rfl, rfl⟩ rfl rfl rfl rfl rfl (by kernel_rfl) Tryd.func7 (by kernel_rfl)
    (of_decide_eq_true (by kernel_rfl)) (by unfold Func.isWrapper; first | (rw [if_pos (by decide +kernel)]; kernel_rfl) | (rw [if_neg (by decide +kernel)]; exact ⟨rfl, rfl⟩))
    (fun os started H enc _ => lifted os started H enc)
set_option maxRecDepth 100000 in
theorem card : Rows.ValueOrdersCardSaid :=
  Claim7.holds_tied_plain_at .later [] [.data, .data, .data, .sentinel, .sentinel] true (true, "d82c5c0de405e83e82bf696796706ff586f4c8c76fc44cb8e04d5bc6808d8ed8") true
    over (fun _ h => by cases h) (by kernel_rfl) (fun _ h => by cases h) valueOrders_row_tie rfl ⟨rfl, rfl⟩ (by kernel_rfl) rfl
    (fun f fn hf hfn => by
      obtain rfl : f = 7 := Option.some.inj ((show Tryd.prog.funcNamed "gumshoe/gumshoelaw06.ValueOrders" = some 7 by kernel_rfl).symm.trans hf) |>.symm
      obtain rfl : fn = Tryd.f7 := (Option.some.inj (Tryd.func7.symm.trans hfn)).symm
      exact ⟨by kernel_rfl, fun j t ht => by
        rw [Tryd.params7] at ht
        have hm : t ∈ [23, 23] := by simpa using Array.mem_of_getElem? ht
        have hall : ([23, 23].all fun u => !Tryd.prog.wantsStandIn u) = true := by kernel_rfl
        exact (show Tryd.prog.wantsStandIn t = false by simpa using List.all_eq_true.1 hall t hm)⟩)
    (by kernel_rfl)
end Go.Proofs.YtmdchbenalhpjaaDoor.valueOrders
namespace Go.Proofs.YtmdchbenalhpjaaDoor
theorem valueOrders_holds : Rows.ValueOrdersCardSaid := valueOrders.card
end Go.Proofs.YtmdchbenalhpjaaDoor

