/- Lemmas for the claims of this seat (own texts, packed; what the claims do not use is left out). No condition. -/
import Derived.Laws.Cover1
import Derived.Test.YtmdchbenalhpjaaDoorProg
import Derived.Below
import Derived.Deep.Draws
import Derived.Deep.AppendLies
import Derived.Maps.AppendAt
import Derived.OwnWalk
import Derived.Laws.BytesArg
import Derived.Laws.MakeOwn
import Derived.Laws.OwnMore
import Derived.Deep.OwnRows
import Derived.Tactics
import Derived.Lib.ConvBytes
import Derived.Laws.Slices
import Derived.WalkKit
import Derived.KernelRfl
import Derived.RowKit3
import Derived.Deep.LoopGhost
import Derived.Deep.QuietTactic
import Derived.BigQuiet
import Derived.WideLaws
import Derived.Deep.DeepCutAuto
import Derived.Deep.CutBlock
import Derived.Deep.RegionHeld3
import Derived.Laws.Rows
import Derived.Lib.AppendStr
import Derived.ArgAppend
import Derived.Laws.IdiomCopy
import Derived.OrdersHeld
import Derived.Laws.BitsLemmas
import Derived.RowKit
import Derived.Test.YtmdchbenalhpjaaDoorMo2
-- WRITTEN BY hprint.py (a patched scratch copy of print.py, see NOTES.md): out of the translation and of contracts proved by hand.
namespace Go.Proofs.YtmdchbenalhpjaaDoor.Pr
open Go.RowKit Go.Proofs.YtmdchbenalhpjaaDoor.Va Go.Proofs.YtmdchbenalhpjaaDoorW.PrintWords Go.Proofs.YtmdchbenalhpjaaDoorW.PrintLast Go.Proofs.YtmdchbenalhpjaaDoorW.PrintMore
set_option linter.unusedVariables false
set_option linter.unusedSimpArgs false
/-! ### value_makers_2: function 39 -/
def value_makers_2.f (a0_0 : Int) (a0_1 : Int) (a0_2 : ByteArray) (a1_0 : Int) (a1_1 : Int) (a1_2 : ByteArray) : Option (Int × Int × ByteArray) := (value_Num.f a0_0 a0_1 a0_2).bind fun t118 => ((value_Num.f a1_0 a1_1 a1_2).bind fun t119 => ((value_number.f (wrap64 (t118 - t119))).bind fun bt120 => (some (bt120.1, bt120.2.1, bt120.2.2))))
set_option maxHeartbeats 8000000 in
set_option maxRecDepth 100000 in
theorem value_makers_2.calls (a0_0 : Int) (a0_1 : Int) (a0_2 : ByteArray) (a1_0 : Int) (a1_1 : Int) (a1_2 : ByteArray) (r1 : Int) (r2 : Int) (r3 : ByteArray) (w : World) (hL : Laid w) (h : value_makers_2.f a0_0 a0_1 a0_2 a1_0 a1_1 a1_2 = some (r1, r2, r3)) :
    Calls Tryd.prog 39 #[.agg #[.int .i64 a0_0, .int .i64 a0_1, .string a0_2], .agg #[.int .i64 a1_0, .int .i64 a1_1, .string a1_2]] w fun e w' => e = .returned (.agg #[.int .i64 r1, .int .i64 r2, .string r3]) ∧ Below w.heap.size w w' := by
  have HL := Aside0.mk hL
  clear hL
  have hu23 := Tryd.underlying23
  have HB := Aside0.mk (Below.refl w.heap.size w)
  have H : ((value_Num.f a0_0 a0_1 a0_2).bind fun t118 => ((value_Num.f a1_0 a1_1 a1_2).bind fun t119 => ((value_number.f (wrap64 (t118 - t119))).bind fun bt120 => (some (bt120.1, bt120.2.1, bt120.2.2))))) = some (r1, r2, r3) := h
  clear h
  replace H := Option.bind_eq_some_iff.mp H
  obtain ⟨t118, A30, H⟩ := H
  replace H : ((value_Num.f a1_0 a1_1 a1_2).bind fun t119 => ((value_number.f (wrap64 (t118 - t119))).bind fun bt120 => (some (bt120.1, bt120.2.1, bt120.2.2)))) = some (r1, r2, r3) := H
  have A3 := Aside0.mk A30
  clear A30
  replace H := Option.bind_eq_some_iff.mp H
  obtain ⟨t119, A40, H⟩ := H
  replace H : ((value_number.f (wrap64 (t118 - t119))).bind fun bt120 => (some (bt120.1, bt120.2.1, bt120.2.2))) = some (r1, r2, r3) := H
  have A4 := Aside0.mk A40
  clear A40
  replace H := Option.bind_eq_some_iff.mp H
  obtain ⟨⟨t120, t121, t122⟩, A50, H⟩ := H
  replace H : (some (t120, t121, t122)) = some (r1, r2, r3) := H
  have A5 := Aside0.mk A50
  clear A50
  simp only [Option.some.injEq, Prod.mk.injEq] at H
  obtain ⟨rfl, rfl, rfl⟩ := H
  go_enter Tryd.func39, Tryd.ntmps39
  try go_wp2_with (first | ((with_reducible refine gate_dst (N := 2) rfl ?_); refine box_event ?hg (N := 2) ?hd (cs := #[.int .i64 a0_0, .int .i64 a0_1, .string a0_2]) (t := 23) ?hr ?_; (case hd => rfl); (case hg => rfl); (case hr => first | (go_simp; done) | (go_simp; rfl)); intro gb115 hg w6 hbox hb; have n0_ := Aside0.mk (below_step (by repeat (first | (with_reducible first | exact HB.out | apply below_alloc | apply pw_below_drewN | apply below_drew1) | exact HB.out)) hb); have n1_ := Aside0.mk (hbox); have n2_ := Aside0.mk ((by rw [hg]; exact (below_size (by repeat (first | (with_reducible first | exact HB.out | apply below_alloc | apply pw_below_drewN | apply below_drew1) | exact HB.out))) : w.heap.size ≤ gb115)); have n3_ := Aside0.mk ((by rw [hg]; exact (below_size (by repeat (first | (with_reducible first | exact HB.out | apply below_alloc | apply pw_below_drewN | apply below_drew1) | exact HB.out))) : w.heap.size ≤ gb115)); clear HB; have HB := n0_; have BK115 := n1_; have GW115 := n2_; have GE115 := n3_; clear n0_ n1_ n2_ n3_; clear hb hbox hg) | ((with_reducible refine gate_dst (N := 3) rfl ?_); refine box_event ?hg (N := 3) ?hd (cs := #[.int .i64 a1_0, .int .i64 a1_1, .string a1_2]) (t := 23) ?hr ?_; (case hd => rfl); (case hg => rfl); (case hr => first | (go_simp; done) | (go_simp; rfl)); intro gb116 hg w7 hbox hb; have n0_ := Aside0.mk (blk_below (g := gb115) (o := .cells #[.int .i64 a0_0, .int .i64 a0_1, .string a0_2] 23 (0, 0)) (by (with_reducible repeat (first | refine blk_drewN ?_ _ | refine blk_drew ?_ | refine blk_alloc ?_ _)); exact BK115.out) hb); have n1_ := Aside0.mk (below_step (by repeat (first | (with_reducible first | exact HB.out | apply below_alloc | apply pw_below_drewN | apply below_drew1 | refine below_set ?_ GE115.out) | exact HB.out)) hb); have n2_ := Aside0.mk (hbox); have n3_ := Aside0.mk ((by rw [hg]; exact (below_size (by repeat (first | (with_reducible first | exact HB.out | apply below_alloc | apply pw_below_drewN | apply below_drew1 | refine below_set ?_ GE115.out) | exact HB.out))) : w.heap.size ≤ gb116)); have n4_ := Aside0.mk ((by rw [hg]; exact (below_size (by repeat (first | (with_reducible first | exact HB.out | apply below_alloc | apply pw_below_drewN | apply below_drew1 | refine below_set ?_ GE115.out) | exact HB.out))) : w.heap.size ≤ gb116)); have n5_ := Aside0.mk ((by rw [hg]; exact Nat.ne_of_lt (blk_lt (g := gb115) (o := .cells #[.int .i64 a0_0, .int .i64 a0_1, .string a0_2] 23 (0, 0)) (by (with_reducible repeat (first | refine blk_drewN ?_ _ | refine blk_drew ?_ | refine blk_alloc ?_ _)); exact BK115.out)) : gb115 ≠ gb116)); have n6_ := Aside0.mk ((by rw [hg]; exact Nat.ne_of_gt (blk_lt (g := gb115) (o := .cells #[.int .i64 a0_0, .int .i64 a0_1, .string a0_2] 23 (0, 0)) (by (with_reducible repeat (first | refine blk_drewN ?_ _ | refine blk_drew ?_ | refine blk_alloc ?_ _)); exact BK115.out)) : gb116 ≠ gb115)); clear BK115; clear HB; have BK115 := n0_; have HB := n1_; have BK116 := n2_; have GW116 := n3_; have GE116 := n4_; have NB115_116 := n5_; have NB116_115 := n6_; clear n0_ n1_ n2_ n3_ n4_ n5_ n6_; clear hb hbox hg) | ((with_reducible refine gate_dst (N := 4) rfl ?_); refine box_event ?hg (N := 4) ?hd (cs := #[.int .i64 0, .int .i64 0, .string (⟨#[]⟩ : ByteArray)]) (t := 23) ?hr ?_; (case hd => rfl); (case hg => rfl); (case hr => first | (go_simp; done) | (go_simp; rfl)); intro gb117 hg w8 hbox hb; have n0_ := Aside0.mk (blk_below (g := gb115) (o := .cells #[.int .i64 a0_0, .int .i64 a0_1, .string a0_2] 23 (0, 0)) (by (with_reducible repeat (first | refine blk_drewN ?_ _ | refine blk_drew ?_ | refine blk_alloc ?_ _)); exact BK115.out) hb); have n1_ := Aside0.mk (blk_below (g := gb116) (o := .cells #[.int .i64 a1_0, .int .i64 a1_1, .string a1_2] 23 (0, 0)) (by (with_reducible repeat (first | refine blk_drewN ?_ _ | refine blk_drew ?_ | refine blk_alloc ?_ _)); exact BK116.out) hb); have n2_ := Aside0.mk (below_step (by repeat (first | (with_reducible first | exact HB.out | apply below_alloc | apply pw_below_drewN | apply below_drew1 | refine below_set ?_ GE115.out | refine below_set ?_ GE116.out) | exact HB.out)) hb); have n3_ := Aside0.mk (hbox); have n4_ := Aside0.mk ((by rw [hg]; exact (below_size (by repeat (first | (with_reducible first | exact HB.out | apply below_alloc | apply pw_below_drewN | apply below_drew1 | refine below_set ?_ GE115.out | refine below_set ?_ GE116.out) | exact HB.out))) : w.heap.size ≤ gb117)); have n5_ := Aside0.mk ((by rw [hg]; exact (below_size (by repeat (first | (with_reducible first | exact HB.out | apply below_alloc | apply pw_below_drewN | apply below_drew1 | refine below_set ?_ GE115.out | refine below_set ?_ GE116.out) | exact HB.out))) : w.heap.size ≤ gb117)); have n6_ := Aside0.mk ((by rw [hg]; exact Nat.ne_of_lt (blk_lt (g := gb115) (o := .cells #[.int .i64 a0_0, .int .i64 a0_1, .string a0_2] 23 (0, 0)) (by (with_reducible repeat (first | refine blk_drewN ?_ _ | refine blk_drew ?_ | refine blk_alloc ?_ _)); exact BK115.out)) : gb115 ≠ gb117)); have n7_ := Aside0.mk ((by rw [hg]; exact Nat.ne_of_gt (blk_lt (g := gb115) (o := .cells #[.int .i64 a0_0, .int .i64 a0_1, .string a0_2] 23 (0, 0)) (by (with_reducible repeat (first | refine blk_drewN ?_ _ | refine blk_drew ?_ | refine blk_alloc ?_ _)); exact BK115.out)) : gb117 ≠ gb115)); have n8_ := Aside0.mk ((by rw [hg]; exact Nat.ne_of_lt (blk_lt (g := gb116) (o := .cells #[.int .i64 a1_0, .int .i64 a1_1, .string a1_2] 23 (0, 0)) (by (with_reducible repeat (first | refine blk_drewN ?_ _ | refine blk_drew ?_ | refine blk_alloc ?_ _)); exact BK116.out)) : gb116 ≠ gb117)); have n9_ := Aside0.mk ((by rw [hg]; exact Nat.ne_of_gt (blk_lt (g := gb116) (o := .cells #[.int .i64 a1_0, .int .i64 a1_1, .string a1_2] 23 (0, 0)) (by (with_reducible repeat (first | refine blk_drewN ?_ _ | refine blk_drew ?_ | refine blk_alloc ?_ _)); exact BK116.out)) : gb117 ≠ gb116)); clear BK115; clear BK116; clear HB; have BK115 := n0_; have BK116 := n1_; have HB := n2_; have BK117 := n3_; have GW117 := n4_; have GE117 := n5_; have NB115_117 := n6_; have NB117_115 := n7_; have NB116_117 := n8_; have NB117_116 := n9_; clear n0_ n1_ n2_ n3_ n4_ n5_ n6_ n7_ n8_ n9_; clear hb hbox hg))
  have n0_ := Aside0.mk (blk_drew BK115.out)
  have n1_ := Aside0.mk (blk_drew BK116.out)
  have n2_ := Aside0.mk (blk_drew BK117.out)
  have n3_ := Aside0.mk (below_drew1 HB.out)
  clear BK115
  clear BK116
  clear BK117
  clear HB
  have BK115 := n0_
  have BK116 := n1_
  have BK117 := n2_
  have HB := n3_
  clear n0_ n1_ n2_ n3_
  refine start_ (n := 7) (S := fun w' => w'.cell? ⟨gb115, 0, none⟩ = some (.int .i64 a0_0) ∧ w'.cell? ⟨gb115, 1, none⟩ = some (.int .i64 a0_1) ∧ w'.cell? ⟨gb115, 2, none⟩ = some (.string a0_2) ∧ w'.cell? ⟨gb116, 0, none⟩ = some (.int .i64 a1_0) ∧ w'.cell? ⟨gb116, 1, none⟩ = some (.int .i64 a1_1) ∧ w'.cell? ⟨gb116, 2, none⟩ = some (.string a1_2)) (ds := []) #[false, false, false, false, false, false, false] (by kernel_rfl) rfl rfl ⟨(blk_cell BK115.out 0).trans rfl, (blk_cell BK115.out 1).trans rfl, (blk_cell BK115.out 2).trans rfl, (blk_cell BK116.out 0).trans rfl, (blk_cell BK116.out 1).trans rfl, (blk_cell BK116.out 2).trans rfl⟩ (fun hHeld => ?_)
  generalize w8.drew = w9 at BK115 BK116 BK117 HB hHeld ⊢
  refine take_ (i := 0) (N := some 5) (v := ?_) (a' := ?_) #[true, false, false, false, false, false, false] rfl rfl (by kernel_rfl) (fun _ _ _ h => h) (Or.inl ⟨by rfl, ?_⟩) hHeld ?_ ?_
  rotate_left
  · rintro w' ⟨s0, s1, s2, s3, s4, s5⟩
    go_simp
    with_reducible rfl
  rotate_left
  · simp only [Act.put, List.setIfInBounds_toArray, List.set_cons_zero, List.set_cons_succ, i64_w, i32_w]
    rfl
  refine take_ (i := 2) (N := some 7) (v := ?_) (a' := ?_) #[true, false, true, false, false, false, false] rfl rfl (by kernel_rfl) (fun _ _ _ h => h) (Or.inl ⟨by rfl, ?_⟩) hHeld ?_ ?_
  rotate_left
  · rintro w' ⟨s0, s1, s2, s3, s4, s5⟩
    go_simp
    with_reducible rfl
  rotate_left
  · simp only [Act.put, List.setIfInBounds_toArray, List.set_cons_zero, List.set_cons_succ, i64_w, i32_w]
    rfl
  refine one_ (i := 1) (N := some 6) #[true, true, true, false, false, false, false] rfl rfl (by kernel_rfl) (by decide) (fun K hK => ?_)
  refine goes_ Tryd.func17 (by kernel_rfl) rfl #[.agg #[.int .i64 a0_0, .int .i64 a0_1, .string a0_2]] (by rfl) rfl rfl (by (try simp only [List.map_toArray, List.map_cons, List.map_nil]); first | done | rfl | (simp only [List.length_drop, List.length_take]; rfl)) ?_
  with_reducible refine (value_Num.calls (hL := ?sideL) a0_0 a0_1 a0_2 t118 _ A3.out).mono ?_
  (case sideL => exact Laid.below HL.out (by repeat (first | (with_reducible first | exact HB.out | apply below_alloc | apply pw_below_drewN | apply below_drew1 | refine below_set ?_ GE115.out | refine below_set ?_ GE116.out | refine below_set ?_ GE117.out) | exact HB.out)))
  rintro e w10 ⟨rfl, hb⟩
  refine ⟨_, rfl, ?_⟩
  have n0_ := Aside0.mk (blk_below (g := gb115) (o := .cells #[.int .i64 a0_0, .int .i64 a0_1, .string a0_2] 23 (0, 0)) (by (with_reducible repeat (first | refine blk_drewN ?_ _ | refine blk_drew ?_ | refine blk_alloc ?_ _)); exact BK115.out) hb)
  have n1_ := Aside0.mk (blk_below (g := gb116) (o := .cells #[.int .i64 a1_0, .int .i64 a1_1, .string a1_2] 23 (0, 0)) (by (with_reducible repeat (first | refine blk_drewN ?_ _ | refine blk_drew ?_ | refine blk_alloc ?_ _)); exact BK116.out) hb)
  have n2_ := Aside0.mk (blk_below (g := gb117) (o := .cells #[.int .i64 0, .int .i64 0, .string (⟨#[]⟩ : ByteArray)] 23 (0, 0)) (by (with_reducible repeat (first | refine blk_drewN ?_ _ | refine blk_drew ?_ | refine blk_alloc ?_ _)); exact BK117.out) hb)
  have n3_ := Aside0.mk (below_step (by repeat (first | (with_reducible first | exact HB.out | apply below_alloc | apply pw_below_drewN | apply below_drew1 | refine below_set ?_ GE115.out | refine below_set ?_ GE116.out | refine below_set ?_ GE117.out) | exact HB.out)) hb)
  clear BK115
  clear BK116
  clear BK117
  clear HB
  have BK115 := n0_
  have BK116 := n1_
  have BK117 := n2_
  have HB := n3_
  clear n0_ n1_ n2_ n3_
  (try clear hb)
  (try clear hb2)
  (try clear hk)
  (try clear hi)
  refine hK.out _ _ ⟨(blk_cell BK115.out 0).trans rfl, (blk_cell BK115.out 1).trans rfl, (blk_cell BK115.out 2).trans rfl, (blk_cell BK116.out 0).trans rfl, (blk_cell BK116.out 1).trans rfl, (blk_cell BK116.out 2).trans rfl⟩ (fun hHeld => ?_)
  clear hK K
  refine norm_ (a' := ?_) ?_ ?_
  rotate_left
  · show Act.put _ (some 6) _ = _
    simp only [Act.put, List.setIfInBounds_toArray, List.set_cons_zero, List.set_cons_succ, i64_w, i32_w]
    rfl
  refine one_ (i := 3) (N := some 8) #[true, true, true, true, false, false, false] rfl rfl (by kernel_rfl) (by decide) (fun K hK => ?_)
  refine goes_ Tryd.func17 (by kernel_rfl) rfl #[.agg #[.int .i64 a1_0, .int .i64 a1_1, .string a1_2]] (by rfl) rfl rfl (by (try simp only [List.map_toArray, List.map_cons, List.map_nil]); first | done | rfl | (simp only [List.length_drop, List.length_take]; rfl)) ?_
  with_reducible refine (value_Num.calls (hL := ?sideL) a1_0 a1_1 a1_2 t119 _ A4.out).mono ?_
  (case sideL => exact Laid.below HL.out (by repeat (first | (with_reducible first | exact HB.out | apply below_alloc | apply pw_below_drewN | apply below_drew1 | refine below_set ?_ GE115.out | refine below_set ?_ GE116.out | refine below_set ?_ GE117.out) | exact HB.out)))
  rintro e w11 ⟨rfl, hb⟩
  refine ⟨_, rfl, ?_⟩
  have n0_ := Aside0.mk (blk_below (g := gb115) (o := .cells #[.int .i64 a0_0, .int .i64 a0_1, .string a0_2] 23 (0, 0)) (by (with_reducible repeat (first | refine blk_drewN ?_ _ | refine blk_drew ?_ | refine blk_alloc ?_ _)); exact BK115.out) hb)
  have n1_ := Aside0.mk (blk_below (g := gb116) (o := .cells #[.int .i64 a1_0, .int .i64 a1_1, .string a1_2] 23 (0, 0)) (by (with_reducible repeat (first | refine blk_drewN ?_ _ | refine blk_drew ?_ | refine blk_alloc ?_ _)); exact BK116.out) hb)
  have n2_ := Aside0.mk (blk_below (g := gb117) (o := .cells #[.int .i64 0, .int .i64 0, .string (⟨#[]⟩ : ByteArray)] 23 (0, 0)) (by (with_reducible repeat (first | refine blk_drewN ?_ _ | refine blk_drew ?_ | refine blk_alloc ?_ _)); exact BK117.out) hb)
  have n3_ := Aside0.mk (below_step (by repeat (first | (with_reducible first | exact HB.out | apply below_alloc | apply pw_below_drewN | apply below_drew1 | refine below_set ?_ GE115.out | refine below_set ?_ GE116.out | refine below_set ?_ GE117.out) | exact HB.out)) hb)
  clear BK115
  clear BK116
  clear BK117
  clear HB
  have BK115 := n0_
  have BK116 := n1_
  have BK117 := n2_
  have HB := n3_
  clear n0_ n1_ n2_ n3_
  (try clear hb)
  (try clear hb2)
  (try clear hk)
  (try clear hi)
  refine hK.out _ _ ⟨(blk_cell BK115.out 0).trans rfl, (blk_cell BK115.out 1).trans rfl, (blk_cell BK115.out 2).trans rfl, (blk_cell BK116.out 0).trans rfl, (blk_cell BK116.out 1).trans rfl, (blk_cell BK116.out 2).trans rfl⟩ (fun hHeld => ?_)
  clear hK K
  refine norm_ (a' := ?_) ?_ ?_
  rotate_left
  · show Act.put _ (some 8) _ = _
    simp only [Act.put, List.setIfInBounds_toArray, List.set_cons_zero, List.set_cons_succ, i64_w, i32_w]
    rfl
  refine pure_ (i := 4) (N := some 9) (v := ?_) (a' := ?_) #[true, true, true, true, true, false, false] rfl rfl (by kernel_rfl) (fun _ _ _ h => h) (Or.inl ⟨by rfl, ?_⟩) ?_ ?_
  rotate_left
  · intro w'
    go_simp
    with_reducible rfl
  rotate_left
  · simp only [Act.put, List.setIfInBounds_toArray, List.set_cons_zero, List.set_cons_succ, i64_w, i32_w]
    rfl
  refine one_ (i := 5) (N := some 10) #[true, true, true, true, true, true, false] rfl rfl (by kernel_rfl) (by decide) (fun K hK => ?_)
  refine goes_ Tryd.func37 (by kernel_rfl) rfl #[.int .i64 (wrap64 (t118 - t119))] (by rfl) rfl rfl (by (try simp only [List.map_toArray, List.map_cons, List.map_nil]); first | done | rfl | (simp only [List.length_drop, List.length_take]; rfl)) ?_
  with_reducible refine (value_number.calls (wrap64 (t118 - t119)) t120 t121 t122 _ A5.out).mono ?_
  rintro e w12 ⟨rfl, hb⟩
  refine ⟨_, rfl, ?_⟩
  have n0_ := Aside0.mk (blk_below (g := gb115) (o := .cells #[.int .i64 a0_0, .int .i64 a0_1, .string a0_2] 23 (0, 0)) (by (with_reducible repeat (first | refine blk_drewN ?_ _ | refine blk_drew ?_ | refine blk_alloc ?_ _)); exact BK115.out) hb)
  have n1_ := Aside0.mk (blk_below (g := gb116) (o := .cells #[.int .i64 a1_0, .int .i64 a1_1, .string a1_2] 23 (0, 0)) (by (with_reducible repeat (first | refine blk_drewN ?_ _ | refine blk_drew ?_ | refine blk_alloc ?_ _)); exact BK116.out) hb)
  have n2_ := Aside0.mk (blk_below (g := gb117) (o := .cells #[.int .i64 0, .int .i64 0, .string (⟨#[]⟩ : ByteArray)] 23 (0, 0)) (by (with_reducible repeat (first | refine blk_drewN ?_ _ | refine blk_drew ?_ | refine blk_alloc ?_ _)); exact BK117.out) hb)
  have n3_ := Aside0.mk (below_step (by repeat (first | (with_reducible first | exact HB.out | apply below_alloc | apply pw_below_drewN | apply below_drew1 | refine below_set ?_ GE115.out | refine below_set ?_ GE116.out | refine below_set ?_ GE117.out) | exact HB.out)) hb)
  clear BK115
  clear BK116
  clear BK117
  clear HB
  have BK115 := n0_
  have BK116 := n1_
  have BK117 := n2_
  have HB := n3_
  clear n0_ n1_ n2_ n3_
  (try clear hb)
  (try clear hb2)
  (try clear hk)
  (try clear hi)
  refine hK.out _ _ ⟨(blk_cell BK115.out 0).trans rfl, (blk_cell BK115.out 1).trans rfl, (blk_cell BK115.out 2).trans rfl, (blk_cell BK116.out 0).trans rfl, (blk_cell BK116.out 1).trans rfl, (blk_cell BK116.out 2).trans rfl⟩ (fun hHeld => ?_)
  clear hK K
  refine norm_ (a' := ?_) ?_ ?_
  rotate_left
  · show Act.put _ (some 10) _ = _
    simp only [Act.put, List.setIfInBounds_toArray, List.set_cons_zero, List.set_cons_succ, i64_w, i32_w]
    rfl
  refine one_ (i := 6) (N := none) #[true, true, true, true, true, true, true] rfl rfl (by kernel_rfl) (by decide) (fun K hK => ?_)
  have hs13 : w12.cell? ⟨gb117, 0, none⟩ = some (.int .i64 0) := (blk_cell BK117.out 0).trans rfl
  have hfs13 := blk_frozen BK117.out 0
  have hns13_0 := NB115_117.out
  have hns13_1 := NB116_117.out
  have hms13_0 := NB117_115.out
  have hms13_1 := NB117_116.out
  have hs14 : w12.cell? ⟨gb117, 1, none⟩ = some (.int .i64 0) := (blk_cell BK117.out 1).trans rfl
  have hfs14 := blk_frozen BK117.out 1
  have hns14_0 := NB115_117.out
  have hns14_1 := NB116_117.out
  have hms14_0 := NB117_115.out
  have hms14_1 := NB117_116.out
  have hs15 : w12.cell? ⟨gb117, 2, none⟩ = some (.string (⟨#[]⟩ : ByteArray)) := (blk_cell BK117.out 2).trans rfl
  have hfs15 := blk_frozen BK117.out 2
  have hns15_0 := NB115_117.out
  have hns15_1 := NB116_117.out
  have hms15_0 := NB117_115.out
  have hms15_1 := NB117_116.out
  refine skip_ (w1 := ?_) (by rfl) rfl ?_ ?_
  rotate_left
  · go_simp
    rfl
  refine hK.out _ _ ⟨((cell_far (p := ⟨gb117, _, none⟩) NB115_117.out _).trans (((cell_far (p := ⟨gb117, _, none⟩) NB115_117.out _).trans (((cell_far (p := ⟨gb117, _, none⟩) NB115_117.out _).trans (hHeld.1)))))), ((cell_far (p := ⟨gb117, _, none⟩) NB115_117.out _).trans (((cell_far (p := ⟨gb117, _, none⟩) NB115_117.out _).trans (((cell_far (p := ⟨gb117, _, none⟩) NB115_117.out _).trans (hHeld.2.1)))))), ((cell_far (p := ⟨gb117, _, none⟩) NB115_117.out _).trans (((cell_far (p := ⟨gb117, _, none⟩) NB115_117.out _).trans (((cell_far (p := ⟨gb117, _, none⟩) NB115_117.out _).trans (hHeld.2.2.1)))))), ((cell_far (p := ⟨gb117, _, none⟩) NB116_117.out _).trans (((cell_far (p := ⟨gb117, _, none⟩) NB116_117.out _).trans (((cell_far (p := ⟨gb117, _, none⟩) NB116_117.out _).trans (hHeld.2.2.2.1)))))), ((cell_far (p := ⟨gb117, _, none⟩) NB116_117.out _).trans (((cell_far (p := ⟨gb117, _, none⟩) NB116_117.out _).trans (((cell_far (p := ⟨gb117, _, none⟩) NB116_117.out _).trans (hHeld.2.2.2.2.1)))))), ((cell_far (p := ⟨gb117, _, none⟩) NB116_117.out _).trans (((cell_far (p := ⟨gb117, _, none⟩) NB116_117.out _).trans (((cell_far (p := ⟨gb117, _, none⟩) NB116_117.out _).trans (hHeld.2.2.2.2.2))))))⟩ (fun hHeld => ?_)
  clear hK K
  refine done_ (by kernel_rfl) ?_
  try go_wp2
  refine bodyPost_ret (results_cell_row rfl _ _ gb117 23 #[.int .i64 t120, .int .i64 t121, .string t122] (0, 0) _ rfl (by (with_reducible repeat (first | refine blk_drewN ?_ _ | refine blk_drew ?_ | refine blk_alloc ?_ _)); refine blk_put (cs := #[.int .i64 t120, .int .i64 t121, .string (⟨#[]⟩ : ByteArray)]) ?_ 2 _ rfl; (with_reducible repeat (first | refine blk_drewN ?_ _ | refine blk_drew ?_ | refine blk_alloc ?_ _)); refine blk_put (cs := #[.int .i64 t120, .int .i64 0, .string (⟨#[]⟩ : ByteArray)]) ?_ 1 _ rfl; (with_reducible repeat (first | refine blk_drewN ?_ _ | refine blk_drew ?_ | refine blk_alloc ?_ _)); refine blk_put (cs := #[.int .i64 0, .int .i64 0, .string (⟨#[]⟩ : ByteArray)]) ?_ 0 _ rfl; (with_reducible repeat (first | refine blk_drewN ?_ _ | refine blk_drew ?_ | refine blk_alloc ?_ _)); exact BK117.out) Tryd.underlying23 rfl (by kernel_rfl)) rfl ?_
  exact ⟨by first | rfl | (simp [errW_none, errW_some] <;> rfl) | (simp [*, errW_none, errW_some] <;> rfl) | (simp [*, errW_none, errW_some]; exact (fun (l_ : List UInt8) => (by cases l_ <;> rfl : l_.isEmpty = !(l_ != []))) _), by repeat (first | (with_reducible first | exact HB.out | apply below_alloc | apply pw_below_drewN | apply below_drew1 | refine below_set ?_ GE115.out | refine below_set ?_ GE116.out | refine below_set ?_ GE117.out) | exact HB.out)⟩
/-! ### value_makers_3: function 40 -/
def value_makers_3.f (a0_0 : Int) (a0_1 : Int) (a0_2 : ByteArray) (a1_0 : Int) (a1_1 : Int) (a1_2 : ByteArray) : Option (Int × Int × ByteArray) := (value_Num.f a0_0 a0_1 a0_2).bind fun t126 => ((value_Num.f a1_0 a1_1 a1_2).bind fun t127 => ((value_number.f (wrap64 (t126 * t127))).bind fun bt128 => (some (bt128.1, bt128.2.1, bt128.2.2))))
set_option maxHeartbeats 8000000 in
set_option maxRecDepth 100000 in
theorem value_makers_3.calls (a0_0 : Int) (a0_1 : Int) (a0_2 : ByteArray) (a1_0 : Int) (a1_1 : Int) (a1_2 : ByteArray) (r1 : Int) (r2 : Int) (r3 : ByteArray) (w : World) (hL : Laid w) (h : value_makers_3.f a0_0 a0_1 a0_2 a1_0 a1_1 a1_2 = some (r1, r2, r3)) :
    Calls Tryd.prog 40 #[.agg #[.int .i64 a0_0, .int .i64 a0_1, .string a0_2], .agg #[.int .i64 a1_0, .int .i64 a1_1, .string a1_2]] w fun e w' => e = .returned (.agg #[.int .i64 r1, .int .i64 r2, .string r3]) ∧ Below w.heap.size w w' := by
  have HL := Aside0.mk hL
  clear hL
  have hu23 := Tryd.underlying23
  have HB := Aside0.mk (Below.refl w.heap.size w)
  have H : ((value_Num.f a0_0 a0_1 a0_2).bind fun t126 => ((value_Num.f a1_0 a1_1 a1_2).bind fun t127 => ((value_number.f (wrap64 (t126 * t127))).bind fun bt128 => (some (bt128.1, bt128.2.1, bt128.2.2))))) = some (r1, r2, r3) := h
  clear h
  replace H := Option.bind_eq_some_iff.mp H
  obtain ⟨t126, A30, H⟩ := H
  replace H : ((value_Num.f a1_0 a1_1 a1_2).bind fun t127 => ((value_number.f (wrap64 (t126 * t127))).bind fun bt128 => (some (bt128.1, bt128.2.1, bt128.2.2)))) = some (r1, r2, r3) := H
  have A3 := Aside0.mk A30
  clear A30
  replace H := Option.bind_eq_some_iff.mp H
  obtain ⟨t127, A40, H⟩ := H
  replace H : ((value_number.f (wrap64 (t126 * t127))).bind fun bt128 => (some (bt128.1, bt128.2.1, bt128.2.2))) = some (r1, r2, r3) := H
  have A4 := Aside0.mk A40
  clear A40
  replace H := Option.bind_eq_some_iff.mp H
  obtain ⟨⟨t128, t129, t130⟩, A50, H⟩ := H
  replace H : (some (t128, t129, t130)) = some (r1, r2, r3) := H
  have A5 := Aside0.mk A50
  clear A50
  simp only [Option.some.injEq, Prod.mk.injEq] at H
  obtain ⟨rfl, rfl, rfl⟩ := H
  go_enter Tryd.func40, Tryd.ntmps40
  try go_wp2_with (first | ((with_reducible refine gate_dst (N := 2) rfl ?_); refine box_event ?hg (N := 2) ?hd (cs := #[.int .i64 a0_0, .int .i64 a0_1, .string a0_2]) (t := 23) ?hr ?_; (case hd => rfl); (case hg => rfl); (case hr => first | (go_simp; done) | (go_simp; rfl)); intro gb123 hg w6 hbox hb; have n0_ := Aside0.mk (below_step (by repeat (first | (with_reducible first | exact HB.out | apply below_alloc | apply pw_below_drewN | apply below_drew1) | exact HB.out)) hb); have n1_ := Aside0.mk (hbox); have n2_ := Aside0.mk ((by rw [hg]; exact (below_size (by repeat (first | (with_reducible first | exact HB.out | apply below_alloc | apply pw_below_drewN | apply below_drew1) | exact HB.out))) : w.heap.size ≤ gb123)); have n3_ := Aside0.mk ((by rw [hg]; exact (below_size (by repeat (first | (with_reducible first | exact HB.out | apply below_alloc | apply pw_below_drewN | apply below_drew1) | exact HB.out))) : w.heap.size ≤ gb123)); clear HB; have HB := n0_; have BK123 := n1_; have GW123 := n2_; have GE123 := n3_; clear n0_ n1_ n2_ n3_; clear hb hbox hg) | ((with_reducible refine gate_dst (N := 3) rfl ?_); refine box_event ?hg (N := 3) ?hd (cs := #[.int .i64 a1_0, .int .i64 a1_1, .string a1_2]) (t := 23) ?hr ?_; (case hd => rfl); (case hg => rfl); (case hr => first | (go_simp; done) | (go_simp; rfl)); intro gb124 hg w7 hbox hb; have n0_ := Aside0.mk (blk_below (g := gb123) (o := .cells #[.int .i64 a0_0, .int .i64 a0_1, .string a0_2] 23 (0, 0)) (by (with_reducible repeat (first | refine blk_drewN ?_ _ | refine blk_drew ?_ | refine blk_alloc ?_ _)); exact BK123.out) hb); have n1_ := Aside0.mk (below_step (by repeat (first | (with_reducible first | exact HB.out | apply below_alloc | apply pw_below_drewN | apply below_drew1 | refine below_set ?_ GE123.out) | exact HB.out)) hb); have n2_ := Aside0.mk (hbox); have n3_ := Aside0.mk ((by rw [hg]; exact (below_size (by repeat (first | (with_reducible first | exact HB.out | apply below_alloc | apply pw_below_drewN | apply below_drew1 | refine below_set ?_ GE123.out) | exact HB.out))) : w.heap.size ≤ gb124)); have n4_ := Aside0.mk ((by rw [hg]; exact (below_size (by repeat (first | (with_reducible first | exact HB.out | apply below_alloc | apply pw_below_drewN | apply below_drew1 | refine below_set ?_ GE123.out) | exact HB.out))) : w.heap.size ≤ gb124)); have n5_ := Aside0.mk ((by rw [hg]; exact Nat.ne_of_lt (blk_lt (g := gb123) (o := .cells #[.int .i64 a0_0, .int .i64 a0_1, .string a0_2] 23 (0, 0)) (by (with_reducible repeat (first | refine blk_drewN ?_ _ | refine blk_drew ?_ | refine blk_alloc ?_ _)); exact BK123.out)) : gb123 ≠ gb124)); have n6_ := Aside0.mk ((by rw [hg]; exact Nat.ne_of_gt (blk_lt (g := gb123) (o := .cells #[.int .i64 a0_0, .int .i64 a0_1, .string a0_2] 23 (0, 0)) (by (with_reducible repeat (first | refine blk_drewN ?_ _ | refine blk_drew ?_ | refine blk_alloc ?_ _)); exact BK123.out)) : gb124 ≠ gb123)); clear BK123; clear HB; have BK123 := n0_; have HB := n1_; have BK124 := n2_; have GW124 := n3_; have GE124 := n4_; have NB123_124 := n5_; have NB124_123 := n6_; clear n0_ n1_ n2_ n3_ n4_ n5_ n6_; clear hb hbox hg) | ((with_reducible refine gate_dst (N := 4) rfl ?_); refine box_event ?hg (N := 4) ?hd (cs := #[.int .i64 0, .int .i64 0, .string (⟨#[]⟩ : ByteArray)]) (t := 23) ?hr ?_; (case hd => rfl); (case hg => rfl); (case hr => first | (go_simp; done) | (go_simp; rfl)); intro gb125 hg w8 hbox hb; have n0_ := Aside0.mk (blk_below (g := gb123) (o := .cells #[.int .i64 a0_0, .int .i64 a0_1, .string a0_2] 23 (0, 0)) (by (with_reducible repeat (first | refine blk_drewN ?_ _ | refine blk_drew ?_ | refine blk_alloc ?_ _)); exact BK123.out) hb); have n1_ := Aside0.mk (blk_below (g := gb124) (o := .cells #[.int .i64 a1_0, .int .i64 a1_1, .string a1_2] 23 (0, 0)) (by (with_reducible repeat (first | refine blk_drewN ?_ _ | refine blk_drew ?_ | refine blk_alloc ?_ _)); exact BK124.out) hb); have n2_ := Aside0.mk (below_step (by repeat (first | (with_reducible first | exact HB.out | apply below_alloc | apply pw_below_drewN | apply below_drew1 | refine below_set ?_ GE123.out | refine below_set ?_ GE124.out) | exact HB.out)) hb); have n3_ := Aside0.mk (hbox); have n4_ := Aside0.mk ((by rw [hg]; exact (below_size (by repeat (first | (with_reducible first | exact HB.out | apply below_alloc | apply pw_below_drewN | apply below_drew1 | refine below_set ?_ GE123.out | refine below_set ?_ GE124.out) | exact HB.out))) : w.heap.size ≤ gb125)); have n5_ := Aside0.mk ((by rw [hg]; exact (below_size (by repeat (first | (with_reducible first | exact HB.out | apply below_alloc | apply pw_below_drewN | apply below_drew1 | refine below_set ?_ GE123.out | refine below_set ?_ GE124.out) | exact HB.out))) : w.heap.size ≤ gb125)); have n6_ := Aside0.mk ((by rw [hg]; exact Nat.ne_of_lt (blk_lt (g := gb123) (o := .cells #[.int .i64 a0_0, .int .i64 a0_1, .string a0_2] 23 (0, 0)) (by (with_reducible repeat (first | refine blk_drewN ?_ _ | refine blk_drew ?_ | refine blk_alloc ?_ _)); exact BK123.out)) : gb123 ≠ gb125)); have n7_ := Aside0.mk ((by rw [hg]; exact Nat.ne_of_gt (blk_lt (g := gb123) (o := .cells #[.int .i64 a0_0, .int .i64 a0_1, .string a0_2] 23 (0, 0)) (by (with_reducible repeat (first | refine blk_drewN ?_ _ | refine blk_drew ?_ | refine blk_alloc ?_ _)); exact BK123.out)) : gb125 ≠ gb123)); have n8_ := Aside0.mk ((by rw [hg]; exact Nat.ne_of_lt (blk_lt (g := gb124) (o := .cells #[.int .i64 a1_0, .int .i64 a1_1, .string a1_2] 23 (0, 0)) (by (with_reducible repeat (first | refine blk_drewN ?_ _ | refine blk_drew ?_ | refine blk_alloc ?_ _)); exact BK124.out)) : gb124 ≠ gb125)); have n9_ := Aside0.mk ((by rw [hg]; exact Nat.ne_of_gt (blk_lt (g := gb124) (o := .cells #[.int .i64 a1_0, .int .i64 a1_1, .string a1_2] 23 (0, 0)) (by (with_reducible repeat (first | refine blk_drewN ?_ _ | refine blk_drew ?_ | refine blk_alloc ?_ _)); exact BK124.out)) : gb125 ≠ gb124)); clear BK123; clear BK124; clear HB; have BK123 := n0_; have BK124 := n1_; have HB := n2_; have BK125 := n3_; have GW125 := n4_; have GE125 := n5_; have NB123_125 := n6_; have NB125_123 := n7_; have NB124_125 := n8_; have NB125_124 := n9_; clear n0_ n1_ n2_ n3_ n4_ n5_ n6_ n7_ n8_ n9_; clear hb hbox hg))
  have n0_ := Aside0.mk (blk_drew BK123.out)
  have n1_ := Aside0.mk (blk_drew BK124.out)
  have n2_ := Aside0.mk (blk_drew BK125.out)
  have n3_ := Aside0.mk (below_drew1 HB.out)
  clear BK123
  clear BK124
  clear BK125
  clear HB
  have BK123 := n0_
  have BK124 := n1_
  have BK125 := n2_
  have HB := n3_
  clear n0_ n1_ n2_ n3_
  refine start_ (n := 7) (S := fun w' => w'.cell? ⟨gb123, 0, none⟩ = some (.int .i64 a0_0) ∧ w'.cell? ⟨gb123, 1, none⟩ = some (.int .i64 a0_1) ∧ w'.cell? ⟨gb123, 2, none⟩ = some (.string a0_2) ∧ w'.cell? ⟨gb124, 0, none⟩ = some (.int .i64 a1_0) ∧ w'.cell? ⟨gb124, 1, none⟩ = some (.int .i64 a1_1) ∧ w'.cell? ⟨gb124, 2, none⟩ = some (.string a1_2)) (ds := []) #[false, false, false, false, false, false, false] (by kernel_rfl) rfl rfl ⟨(blk_cell BK123.out 0).trans rfl, (blk_cell BK123.out 1).trans rfl, (blk_cell BK123.out 2).trans rfl, (blk_cell BK124.out 0).trans rfl, (blk_cell BK124.out 1).trans rfl, (blk_cell BK124.out 2).trans rfl⟩ (fun hHeld => ?_)
  generalize w8.drew = w9 at BK123 BK124 BK125 HB hHeld ⊢
  refine take_ (i := 0) (N := some 5) (v := ?_) (a' := ?_) #[true, false, false, false, false, false, false] rfl rfl (by kernel_rfl) (fun _ _ _ h => h) (Or.inl ⟨by rfl, ?_⟩) hHeld ?_ ?_
  rotate_left
  · rintro w' ⟨s0, s1, s2, s3, s4, s5⟩
    go_simp
    with_reducible rfl
  rotate_left
  · simp only [Act.put, List.setIfInBounds_toArray, List.set_cons_zero, List.set_cons_succ, i64_w, i32_w]
    rfl
  refine take_ (i := 2) (N := some 7) (v := ?_) (a' := ?_) #[true, false, true, false, false, false, false] rfl rfl (by kernel_rfl) (fun _ _ _ h => h) (Or.inl ⟨by rfl, ?_⟩) hHeld ?_ ?_
  rotate_left
  · rintro w' ⟨s0, s1, s2, s3, s4, s5⟩
    go_simp
    with_reducible rfl
  rotate_left
  · simp only [Act.put, List.setIfInBounds_toArray, List.set_cons_zero, List.set_cons_succ, i64_w, i32_w]
    rfl
  refine one_ (i := 1) (N := some 6) #[true, true, true, false, false, false, false] rfl rfl (by kernel_rfl) (by decide) (fun K hK => ?_)
  refine goes_ Tryd.func17 (by kernel_rfl) rfl #[.agg #[.int .i64 a0_0, .int .i64 a0_1, .string a0_2]] (by rfl) rfl rfl (by (try simp only [List.map_toArray, List.map_cons, List.map_nil]); first | done | rfl | (simp only [List.length_drop, List.length_take]; rfl)) ?_
  with_reducible refine (value_Num.calls (hL := ?sideL) a0_0 a0_1 a0_2 t126 _ A3.out).mono ?_
  (case sideL => exact Laid.below HL.out (by repeat (first | (with_reducible first | exact HB.out | apply below_alloc | apply pw_below_drewN | apply below_drew1 | refine below_set ?_ GE123.out | refine below_set ?_ GE124.out | refine below_set ?_ GE125.out) | exact HB.out)))
  rintro e w10 ⟨rfl, hb⟩
  refine ⟨_, rfl, ?_⟩
  have n0_ := Aside0.mk (blk_below (g := gb123) (o := .cells #[.int .i64 a0_0, .int .i64 a0_1, .string a0_2] 23 (0, 0)) (by (with_reducible repeat (first | refine blk_drewN ?_ _ | refine blk_drew ?_ | refine blk_alloc ?_ _)); exact BK123.out) hb)
  have n1_ := Aside0.mk (blk_below (g := gb124) (o := .cells #[.int .i64 a1_0, .int .i64 a1_1, .string a1_2] 23 (0, 0)) (by (with_reducible repeat (first | refine blk_drewN ?_ _ | refine blk_drew ?_ | refine blk_alloc ?_ _)); exact BK124.out) hb)
  have n2_ := Aside0.mk (blk_below (g := gb125) (o := .cells #[.int .i64 0, .int .i64 0, .string (⟨#[]⟩ : ByteArray)] 23 (0, 0)) (by (with_reducible repeat (first | refine blk_drewN ?_ _ | refine blk_drew ?_ | refine blk_alloc ?_ _)); exact BK125.out) hb)
  have n3_ := Aside0.mk (below_step (by repeat (first | (with_reducible first | exact HB.out | apply below_alloc | apply pw_below_drewN | apply below_drew1 | refine below_set ?_ GE123.out | refine below_set ?_ GE124.out | refine below_set ?_ GE125.out) | exact HB.out)) hb)
  clear BK123
  clear BK124
  clear BK125
  clear HB
  have BK123 := n0_
  have BK124 := n1_
  have BK125 := n2_
  have HB := n3_
  clear n0_ n1_ n2_ n3_
  (try clear hb)
  (try clear hb2)
  (try clear hk)
  (try clear hi)
  refine hK.out _ _ ⟨(blk_cell BK123.out 0).trans rfl, (blk_cell BK123.out 1).trans rfl, (blk_cell BK123.out 2).trans rfl, (blk_cell BK124.out 0).trans rfl, (blk_cell BK124.out 1).trans rfl, (blk_cell BK124.out 2).trans rfl⟩ (fun hHeld => ?_)
  clear hK K
  refine norm_ (a' := ?_) ?_ ?_
  rotate_left
  · show Act.put _ (some 6) _ = _
    simp only [Act.put, List.setIfInBounds_toArray, List.set_cons_zero, List.set_cons_succ, i64_w, i32_w]
    rfl
  refine one_ (i := 3) (N := some 8) #[true, true, true, true, false, false, false] rfl rfl (by kernel_rfl) (by decide) (fun K hK => ?_)
  refine goes_ Tryd.func17 (by kernel_rfl) rfl #[.agg #[.int .i64 a1_0, .int .i64 a1_1, .string a1_2]] (by rfl) rfl rfl (by (try simp only [List.map_toArray, List.map_cons, List.map_nil]); first | done | rfl | (simp only [List.length_drop, List.length_take]; rfl)) ?_
  with_reducible refine (value_Num.calls (hL := ?sideL) a1_0 a1_1 a1_2 t127 _ A4.out).mono ?_
  (case sideL => exact Laid.below HL.out (by repeat (first | (with_reducible first | exact HB.out | apply below_alloc | apply pw_below_drewN | apply below_drew1 | refine below_set ?_ GE123.out | refine below_set ?_ GE124.out | refine below_set ?_ GE125.out) | exact HB.out)))
  rintro e w11 ⟨rfl, hb⟩
  refine ⟨_, rfl, ?_⟩
  have n0_ := Aside0.mk (blk_below (g := gb123) (o := .cells #[.int .i64 a0_0, .int .i64 a0_1, .string a0_2] 23 (0, 0)) (by (with_reducible repeat (first | refine blk_drewN ?_ _ | refine blk_drew ?_ | refine blk_alloc ?_ _)); exact BK123.out) hb)
  have n1_ := Aside0.mk (blk_below (g := gb124) (o := .cells #[.int .i64 a1_0, .int .i64 a1_1, .string a1_2] 23 (0, 0)) (by (with_reducible repeat (first | refine blk_drewN ?_ _ | refine blk_drew ?_ | refine blk_alloc ?_ _)); exact BK124.out) hb)
  have n2_ := Aside0.mk (blk_below (g := gb125) (o := .cells #[.int .i64 0, .int .i64 0, .string (⟨#[]⟩ : ByteArray)] 23 (0, 0)) (by (with_reducible repeat (first | refine blk_drewN ?_ _ | refine blk_drew ?_ | refine blk_alloc ?_ _)); exact BK125.out) hb)
  have n3_ := Aside0.mk (below_step (by repeat (first | (with_reducible first | exact HB.out | apply below_alloc | apply pw_below_drewN | apply below_drew1 | refine below_set ?_ GE123.out | refine below_set ?_ GE124.out | refine below_set ?_ GE125.out) | exact HB.out)) hb)
  clear BK123
  clear BK124
  clear BK125
  clear HB
  have BK123 := n0_
  have BK124 := n1_
  have BK125 := n2_
  have HB := n3_
  clear n0_ n1_ n2_ n3_
  (try clear hb)
  (try clear hb2)
  (try clear hk)
  (try clear hi)
  refine hK.out _ _ ⟨(blk_cell BK123.out 0).trans rfl, (blk_cell BK123.out 1).trans rfl, (blk_cell BK123.out 2).trans rfl, (blk_cell BK124.out 0).trans rfl, (blk_cell BK124.out 1).trans rfl, (blk_cell BK124.out 2).trans rfl⟩ (fun hHeld => ?_)
  clear hK K
  refine norm_ (a' := ?_) ?_ ?_
  rotate_left
  · show Act.put _ (some 8) _ = _
    simp only [Act.put, List.setIfInBounds_toArray, List.set_cons_zero, List.set_cons_succ, i64_w, i32_w]
    rfl
  refine pure_ (i := 4) (N := some 9) (v := ?_) (a' := ?_) #[true, true, true, true, true, false, false] rfl rfl (by kernel_rfl) (fun _ _ _ h => h) (Or.inl ⟨by rfl, ?_⟩) ?_ ?_
  rotate_left
  · intro w'
    go_simp
    with_reducible rfl
  rotate_left
  · simp only [Act.put, List.setIfInBounds_toArray, List.set_cons_zero, List.set_cons_succ, i64_w, i32_w]
    rfl
  refine one_ (i := 5) (N := some 10) #[true, true, true, true, true, true, false] rfl rfl (by kernel_rfl) (by decide) (fun K hK => ?_)
  refine goes_ Tryd.func37 (by kernel_rfl) rfl #[.int .i64 (wrap64 (t126 * t127))] (by rfl) rfl rfl (by (try simp only [List.map_toArray, List.map_cons, List.map_nil]); first | done | rfl | (simp only [List.length_drop, List.length_take]; rfl)) ?_
  with_reducible refine (value_number.calls (wrap64 (t126 * t127)) t128 t129 t130 _ A5.out).mono ?_
  rintro e w12 ⟨rfl, hb⟩
  refine ⟨_, rfl, ?_⟩
  have n0_ := Aside0.mk (blk_below (g := gb123) (o := .cells #[.int .i64 a0_0, .int .i64 a0_1, .string a0_2] 23 (0, 0)) (by (with_reducible repeat (first | refine blk_drewN ?_ _ | refine blk_drew ?_ | refine blk_alloc ?_ _)); exact BK123.out) hb)
  have n1_ := Aside0.mk (blk_below (g := gb124) (o := .cells #[.int .i64 a1_0, .int .i64 a1_1, .string a1_2] 23 (0, 0)) (by (with_reducible repeat (first | refine blk_drewN ?_ _ | refine blk_drew ?_ | refine blk_alloc ?_ _)); exact BK124.out) hb)
  have n2_ := Aside0.mk (blk_below (g := gb125) (o := .cells #[.int .i64 0, .int .i64 0, .string (⟨#[]⟩ : ByteArray)] 23 (0, 0)) (by (with_reducible repeat (first | refine blk_drewN ?_ _ | refine blk_drew ?_ | refine blk_alloc ?_ _)); exact BK125.out) hb)
  have n3_ := Aside0.mk (below_step (by repeat (first | (with_reducible first | exact HB.out | apply below_alloc | apply pw_below_drewN | apply below_drew1 | refine below_set ?_ GE123.out | refine below_set ?_ GE124.out | refine below_set ?_ GE125.out) | exact HB.out)) hb)
  clear BK123
  clear BK124
  clear BK125
  clear HB
  have BK123 := n0_
  have BK124 := n1_
  have BK125 := n2_
  have HB := n3_
  clear n0_ n1_ n2_ n3_
  (try clear hb)
  (try clear hb2)
  (try clear hk)
  (try clear hi)
  refine hK.out _ _ ⟨(blk_cell BK123.out 0).trans rfl, (blk_cell BK123.out 1).trans rfl, (blk_cell BK123.out 2).trans rfl, (blk_cell BK124.out 0).trans rfl, (blk_cell BK124.out 1).trans rfl, (blk_cell BK124.out 2).trans rfl⟩ (fun hHeld => ?_)
  clear hK K
  refine norm_ (a' := ?_) ?_ ?_
  rotate_left
  · show Act.put _ (some 10) _ = _
    simp only [Act.put, List.setIfInBounds_toArray, List.set_cons_zero, List.set_cons_succ, i64_w, i32_w]
    rfl
  refine one_ (i := 6) (N := none) #[true, true, true, true, true, true, true] rfl rfl (by kernel_rfl) (by decide) (fun K hK => ?_)
  have hs13 : w12.cell? ⟨gb125, 0, none⟩ = some (.int .i64 0) := (blk_cell BK125.out 0).trans rfl
  have hfs13 := blk_frozen BK125.out 0
  have hns13_0 := NB123_125.out
  have hns13_1 := NB124_125.out
  have hms13_0 := NB125_123.out
  have hms13_1 := NB125_124.out
  have hs14 : w12.cell? ⟨gb125, 1, none⟩ = some (.int .i64 0) := (blk_cell BK125.out 1).trans rfl
  have hfs14 := blk_frozen BK125.out 1
  have hns14_0 := NB123_125.out
  have hns14_1 := NB124_125.out
  have hms14_0 := NB125_123.out
  have hms14_1 := NB125_124.out
  have hs15 : w12.cell? ⟨gb125, 2, none⟩ = some (.string (⟨#[]⟩ : ByteArray)) := (blk_cell BK125.out 2).trans rfl
  have hfs15 := blk_frozen BK125.out 2
  have hns15_0 := NB123_125.out
  have hns15_1 := NB124_125.out
  have hms15_0 := NB125_123.out
  have hms15_1 := NB125_124.out
  refine skip_ (w1 := ?_) (by rfl) rfl ?_ ?_
  rotate_left
  · go_simp
    rfl
  refine hK.out _ _ ⟨((cell_far (p := ⟨gb125, _, none⟩) NB123_125.out _).trans (((cell_far (p := ⟨gb125, _, none⟩) NB123_125.out _).trans (((cell_far (p := ⟨gb125, _, none⟩) NB123_125.out _).trans (hHeld.1)))))), ((cell_far (p := ⟨gb125, _, none⟩) NB123_125.out _).trans (((cell_far (p := ⟨gb125, _, none⟩) NB123_125.out _).trans (((cell_far (p := ⟨gb125, _, none⟩) NB123_125.out _).trans (hHeld.2.1)))))), ((cell_far (p := ⟨gb125, _, none⟩) NB123_125.out _).trans (((cell_far (p := ⟨gb125, _, none⟩) NB123_125.out _).trans (((cell_far (p := ⟨gb125, _, none⟩) NB123_125.out _).trans (hHeld.2.2.1)))))), ((cell_far (p := ⟨gb125, _, none⟩) NB124_125.out _).trans (((cell_far (p := ⟨gb125, _, none⟩) NB124_125.out _).trans (((cell_far (p := ⟨gb125, _, none⟩) NB124_125.out _).trans (hHeld.2.2.2.1)))))), ((cell_far (p := ⟨gb125, _, none⟩) NB124_125.out _).trans (((cell_far (p := ⟨gb125, _, none⟩) NB124_125.out _).trans (((cell_far (p := ⟨gb125, _, none⟩) NB124_125.out _).trans (hHeld.2.2.2.2.1)))))), ((cell_far (p := ⟨gb125, _, none⟩) NB124_125.out _).trans (((cell_far (p := ⟨gb125, _, none⟩) NB124_125.out _).trans (((cell_far (p := ⟨gb125, _, none⟩) NB124_125.out _).trans (hHeld.2.2.2.2.2))))))⟩ (fun hHeld => ?_)
  clear hK K
  refine done_ (by kernel_rfl) ?_
  try go_wp2
  refine bodyPost_ret (results_cell_row rfl _ _ gb125 23 #[.int .i64 t128, .int .i64 t129, .string t130] (0, 0) _ rfl (by (with_reducible repeat (first | refine blk_drewN ?_ _ | refine blk_drew ?_ | refine blk_alloc ?_ _)); refine blk_put (cs := #[.int .i64 t128, .int .i64 t129, .string (⟨#[]⟩ : ByteArray)]) ?_ 2 _ rfl; (with_reducible repeat (first | refine blk_drewN ?_ _ | refine blk_drew ?_ | refine blk_alloc ?_ _)); refine blk_put (cs := #[.int .i64 t128, .int .i64 0, .string (⟨#[]⟩ : ByteArray)]) ?_ 1 _ rfl; (with_reducible repeat (first | refine blk_drewN ?_ _ | refine blk_drew ?_ | refine blk_alloc ?_ _)); refine blk_put (cs := #[.int .i64 0, .int .i64 0, .string (⟨#[]⟩ : ByteArray)]) ?_ 0 _ rfl; (with_reducible repeat (first | refine blk_drewN ?_ _ | refine blk_drew ?_ | refine blk_alloc ?_ _)); exact BK125.out) Tryd.underlying23 rfl (by kernel_rfl)) rfl ?_
  exact ⟨by first | rfl | (simp [errW_none, errW_some] <;> rfl) | (simp [*, errW_none, errW_some] <;> rfl) | (simp [*, errW_none, errW_some]; exact (fun (l_ : List UInt8) => (by cases l_ <;> rfl : l_.isEmpty = !(l_ != []))) _), by repeat (first | (with_reducible first | exact HB.out | apply below_alloc | apply pw_below_drewN | apply below_drew1 | refine below_set ?_ GE123.out | refine below_set ?_ GE124.out | refine below_set ?_ GE125.out) | exact HB.out)⟩
end Go.Proofs.YtmdchbenalhpjaaDoor.Pr

-- WRITTEN BY hprint.py (a patched scratch copy of print.py, see NOTES.md): out of the translation and of contracts proved by hand.
namespace Go.Proofs.YtmdchbenalhpjaaDoor.Pr
open Go.RowKit Go.Proofs.YtmdchbenalhpjaaDoor.Va Go.Proofs.YtmdchbenalhpjaaDoorW.PrintWords Go.Proofs.YtmdchbenalhpjaaDoorW.PrintLast Go.Proofs.YtmdchbenalhpjaaDoorW.PrintMore
set_option linter.unusedVariables false
set_option linter.unusedSimpArgs false
/-! ### value_compared: function 42 -/
def value_compared.j0 : Nat → Bool → Int → Int → ByteArray → Int → Int → ByteArray → Option (Int)
  | 0, _, _, _, _, _, _, _ => none
  | k + 1, x12, x136000, x136001, x136002, x137000, x137001, x137002 => if x12 = true then ((cmp_Compare_string.f x136002 x137002).bind fun t137 => (some t137)) else ((value_Num.f x136000 x136001 x136002).bind fun t138 => ((value_Num.f x137000 x137001 x137002).bind fun t139 => ((cmp_Compare_int64.f t138 t139).bind fun t140 => (some t140))))
def value_compared.f (k : Nat) (a0_0 : Int) (a0_1 : Int) (a0_2 : ByteArray) (a1_0 : Int) (a1_1 : Int) (a1_2 : ByteArray) : Option (Int) := if a0_0 = 4 then (value_compared.j0 k (a1_0 == 4) a0_0 a0_1 a0_2 a1_0 a1_1 a1_2) else (value_compared.j0 k false a0_0 a0_1 a0_2 a1_0 a1_1 a1_2)
set_option maxHeartbeats 8000000 in
set_option maxRecDepth 100000 in
theorem value_compared.calls (k : Nat) (a0_0 : Int) (a0_1 : Int) (a0_2 : ByteArray) (a1_0 : Int) (a1_1 : Int) (a1_2 : ByteArray) (r : Int) (w : World) (hL : Laid w) (h : value_compared.f k a0_0 a0_1 a0_2 a1_0 a1_1 a1_2 = some r) :
    Calls Tryd.prog 42 #[.agg #[.int .i64 a0_0, .int .i64 a0_1, .string a0_2], .agg #[.int .i64 a1_0, .int .i64 a1_1, .string a1_2]] w fun e w' => e = .returned (.int .i64 r) ∧ Below w.heap.size w w' := by
  have HL := Aside0.mk hL
  clear hL
  have hu23 := Tryd.underlying23
  have HB := Aside0.mk (Below.refl w.heap.size w)
  have H : (if a0_0 = 4 then (value_compared.j0 k (a1_0 == 4) a0_0 a0_1 a0_2 a1_0 a1_1 a1_2) else (value_compared.j0 k false a0_0 a0_1 a0_2 a1_0 a1_1 a1_2)) = some r := h
  clear h
  have HC3 := Aside0.mk H
  clear H
  go_enter Tryd.func42, Tryd.ntmps42
  go_upto_region 1 with (first | ((with_reducible refine gate_dst (N := 2) rfl ?_); refine box_event ?hg (N := 2) ?hd (cs := #[.int .i64 a0_0, .int .i64 a0_1, .string a0_2]) (t := 23) ?hr ?_; (case hd => rfl); (case hg => rfl); (case hr => first | (go_simp; done) | (go_simp; rfl)); intro gb135 hg w4 hbox hb; have n0_ := Aside0.mk (below_step (by repeat (first | (with_reducible first | exact HB.out | apply below_alloc | apply pw_below_drewN | apply below_drew1) | exact HB.out)) hb); have n1_ := Aside0.mk (hbox); have n2_ := Aside0.mk ((by rw [hg]; exact (below_size (by repeat (first | (with_reducible first | exact HB.out | apply below_alloc | apply pw_below_drewN | apply below_drew1) | exact HB.out))) : w.heap.size ≤ gb135)); have n3_ := Aside0.mk ((by rw [hg]; exact (below_size (by repeat (first | (with_reducible first | exact HB.out | apply below_alloc | apply pw_below_drewN | apply below_drew1) | exact HB.out))) : w.heap.size ≤ gb135)); clear HB; have HB := n0_; have BK135 := n1_; have GW135 := n2_; have GE135 := n3_; clear n0_ n1_ n2_ n3_; clear hb hbox hg) | ((with_reducible refine gate_dst (N := 3) rfl ?_); refine box_event ?hg (N := 3) ?hd (cs := #[.int .i64 a1_0, .int .i64 a1_1, .string a1_2]) (t := 23) ?hr ?_; (case hd => rfl); (case hg => rfl); (case hr => first | (go_simp; done) | (go_simp; rfl)); intro gb136 hg w5 hbox hb; have n0_ := Aside0.mk (blk_below (g := gb135) (o := .cells #[.int .i64 a0_0, .int .i64 a0_1, .string a0_2] 23 (0, 0)) (by (with_reducible repeat (first | refine blk_drewN ?_ _ | refine blk_drew ?_ | refine blk_alloc ?_ _)); exact BK135.out) hb); have n1_ := Aside0.mk (below_step (by repeat (first | (with_reducible first | exact HB.out | apply below_alloc | apply pw_below_drewN | apply below_drew1 | refine below_set ?_ GE135.out) | exact HB.out)) hb); have n2_ := Aside0.mk (hbox); have n3_ := Aside0.mk ((by rw [hg]; exact (below_size (by repeat (first | (with_reducible first | exact HB.out | apply below_alloc | apply pw_below_drewN | apply below_drew1 | refine below_set ?_ GE135.out) | exact HB.out))) : w.heap.size ≤ gb136)); have n4_ := Aside0.mk ((by rw [hg]; exact (below_size (by repeat (first | (with_reducible first | exact HB.out | apply below_alloc | apply pw_below_drewN | apply below_drew1 | refine below_set ?_ GE135.out) | exact HB.out))) : w.heap.size ≤ gb136)); have n5_ := Aside0.mk ((by rw [hg]; exact Nat.ne_of_lt (blk_lt (g := gb135) (o := .cells #[.int .i64 a0_0, .int .i64 a0_1, .string a0_2] 23 (0, 0)) (by (with_reducible repeat (first | refine blk_drewN ?_ _ | refine blk_drew ?_ | refine blk_alloc ?_ _)); exact BK135.out)) : gb135 ≠ gb136)); have n6_ := Aside0.mk ((by rw [hg]; exact Nat.ne_of_gt (blk_lt (g := gb135) (o := .cells #[.int .i64 a0_0, .int .i64 a0_1, .string a0_2] 23 (0, 0)) (by (with_reducible repeat (first | refine blk_drewN ?_ _ | refine blk_drew ?_ | refine blk_alloc ?_ _)); exact BK135.out)) : gb136 ≠ gb135)); clear BK135; clear HB; have BK135 := n0_; have HB := n1_; have BK136 := n2_; have GW136 := n3_; have GE136 := n4_; have NB135_136 := n5_; have NB136_135 := n6_; clear n0_ n1_ n2_ n3_ n4_ n5_ n6_; clear hb hbox hg))
  (try simp only [Act.put, List.setIfInBounds_toArray, List.set_cons_zero, List.set_cons_succ])
  go_cut [12] (fun v12 wc => ∃ (kq : Nat) (x12_2 : Bool), v12 = .bool x12_2 ∧ Aside0 (value_compared.j0 kq x12_2 a0_0 a0_1 a0_2 a1_0 a1_1 a1_2 = some r) ∧ Aside0 (kq ≤ k) ∧ Aside0 (wc.heap[gb135]? = some (.cells #[.int .i64 a0_0, .int .i64 a0_1, .string a0_2] 23 (0, 0))) ∧ Aside0 (wc.heap[gb136]? = some (.cells #[.int .i64 a1_0, .int .i64 a1_1, .string a1_2] 23 (0, 0))) ∧ Aside0 (Below w.heap.size w wc))
  case first =>
    have H := HC3.out
    clear HC3
    by_cases c6 : a0_0 = 4
    · rw [if_pos c6] at H
      have c6b0 : (a0_0 == 4) = true := beq_iff_eq.mpr c6
      have c6b1 : (a0_0 != 4) = false := bne_eq_false_iff_eq.mpr c6
      clear c6
      (first | rw [c6b0] | (simp only [i64_w, i32_w]; rw [c6b0]) | skip)
      have H' := Aside0.mk H
      clear H
      have hnb7 := NB135_136.out
      have hnc7 := NB136_135.out
      have hcz8_0 : w5.cell? ⟨gb135, 0, none⟩ = some (.int .i64 a0_0) := (blk_cell BK135.out 0).trans rfl
      have hcz8_1 : w5.cell? ⟨gb135, 1, none⟩ = some (.int .i64 a0_1) := (blk_cell BK135.out 1).trans rfl
      have hcz8_2 : w5.cell? ⟨gb135, 2, none⟩ = some (.string a0_2) := (blk_cell BK135.out 2).trans rfl
      have hfz8_0 := blk_frozen BK135.out 0
      have hfz8_1 := blk_frozen BK135.out 1
      have hfz8_2 := blk_frozen BK135.out 2
      have hcz9_0 : w5.cell? ⟨gb136, 0, none⟩ = some (.int .i64 a1_0) := (blk_cell BK136.out 0).trans rfl
      have hcz9_1 : w5.cell? ⟨gb136, 1, none⟩ = some (.int .i64 a1_1) := (blk_cell BK136.out 1).trans rfl
      have hcz9_2 : w5.cell? ⟨gb136, 2, none⟩ = some (.string a1_2) := (blk_cell BK136.out 2).trans rfl
      have hfz9_0 := blk_frozen BK136.out 0
      have hfz9_1 := blk_frozen BK136.out 1
      have hfz9_2 := blk_frozen BK136.out 2
      go_wp2
      go_meet
      case rel => exact ⟨_, ((a1_0 == 4)), (by first | rfl | (simp; done) | (simp [*]; done) | (simp [*]; exact (fun (l_ : List UInt8) => (by cases l_ <;> rfl : l_.isEmpty = !(l_ != []))) _)), H', ⟨by first | omega | exact Nat.le_refl _⟩, ⟨by (with_reducible repeat (first | refine blk_drewN ?_ _ | refine blk_drew ?_ | refine blk_alloc ?_ _)); exact BK135.out⟩, ⟨by (with_reducible repeat (first | refine blk_drewN ?_ _ | refine blk_drew ?_ | refine blk_alloc ?_ _)); exact BK136.out⟩, ⟨by repeat (first | (with_reducible first | exact HB.out | apply below_alloc | apply pw_below_drewN | apply below_drew1 | refine below_set ?_ GE135.out | refine below_set ?_ GE136.out) | exact HB.out)⟩⟩
    · rw [if_neg c6] at H
      have c6b0 : (a0_0 == 4) = false := beq_eq_false_iff_ne.mpr c6
      have c6b1 : (a0_0 != 4) = true := bne_iff_ne.mpr c6
      (first | rw [c6b0] | (simp only [i64_w, i32_w]; rw [c6b0]) | skip)
      have H' := Aside0.mk H
      clear H
      have hnb10 := NB135_136.out
      have hnc10 := NB136_135.out
      have hcz11_0 : w5.cell? ⟨gb135, 0, none⟩ = some (.int .i64 a0_0) := (blk_cell BK135.out 0).trans rfl
      have hcz11_1 : w5.cell? ⟨gb135, 1, none⟩ = some (.int .i64 a0_1) := (blk_cell BK135.out 1).trans rfl
      have hcz11_2 : w5.cell? ⟨gb135, 2, none⟩ = some (.string a0_2) := (blk_cell BK135.out 2).trans rfl
      have hfz11_0 := blk_frozen BK135.out 0
      have hfz11_1 := blk_frozen BK135.out 1
      have hfz11_2 := blk_frozen BK135.out 2
      go_wp2
      go_meet
      case rel => exact ⟨_, (false), (by first | rfl | (simp; done) | (simp [*]; done) | (simp [*]; exact (fun (l_ : List UInt8) => (by cases l_ <;> rfl : l_.isEmpty = !(l_ != []))) _)), H', ⟨by first | omega | exact Nat.le_refl _⟩, ⟨by (with_reducible repeat (first | refine blk_drewN ?_ _ | refine blk_drew ?_ | refine blk_alloc ?_ _)); exact BK135.out⟩, ⟨by (with_reducible repeat (first | refine blk_drewN ?_ _ | refine blk_drew ?_ | refine blk_alloc ?_ _)); exact BK136.out⟩, ⟨by repeat (first | (with_reducible first | exact HB.out | apply below_alloc | apply pw_below_drewN | apply below_drew1 | refine below_set ?_ GE135.out | refine below_set ?_ GE136.out) | exact HB.out)⟩⟩
  case rest =>
    clear HC3
    try clear c1
    try clear p2
    try clear c4
    try clear c6
    try clear c6b0
    try clear c6b1
    try clear c7
    try clear c10
    try clear hcz11_0
    try clear hcz11_1
    try clear hcz11_2
    try clear hcz8_0
    try clear hcz8_1
    try clear hcz8_2
    try clear hcz9_0
    try clear hcz9_1
    try clear hcz9_2
    try clear hfz11_0
    try clear hfz11_1
    try clear hfz11_2
    try clear hfz8_0
    try clear hfz8_1
    try clear hfz8_2
    try clear hfz9_0
    try clear hfz9_1
    try clear hfz9_2
    obtain ⟨kq, x12_2, rfl, HA, HJ2, BK135, BK136, HB⟩ := hcut
    cases kq with
    | zero => exact absurd HA.out (by simp [value_compared.j0])
    | succ kj2 =>
      have H := HA.out
      clear HA
      simp only [value_compared.j0] at H
      by_cases c12 : x12_2 = true
      · subst c12
        have H1 : ((cmp_Compare_string.f a0_2 a1_2).bind fun t137 => (some t137)) = some r := by rw [if_pos rfl] at H; exact H
        clear H
        have H := H1
        clear H1
        replace H := Option.bind_eq_some_iff.mp H
        obtain ⟨t137, A130, H⟩ := H
        replace H : (some t137) = some r := H
        have A13 := Aside0.mk A130
        clear A130
        obtain rfl := Option.some.inj H
        have hnb14 := NB135_136.out
        have hnc14 := NB136_135.out
        have hcz15_0 : wc.cell? ⟨gb135, 0, none⟩ = some (.int .i64 a0_0) := (blk_cell BK135.out 0).trans rfl
        have hcz15_1 : wc.cell? ⟨gb135, 1, none⟩ = some (.int .i64 a0_1) := (blk_cell BK135.out 1).trans rfl
        have hcz15_2 : wc.cell? ⟨gb135, 2, none⟩ = some (.string a0_2) := (blk_cell BK135.out 2).trans rfl
        have hfz15_0 := blk_frozen BK135.out 0
        have hfz15_1 := blk_frozen BK135.out 1
        have hfz15_2 := blk_frozen BK135.out 2
        have hcz16_0 : wc.cell? ⟨gb136, 0, none⟩ = some (.int .i64 a1_0) := (blk_cell BK136.out 0).trans rfl
        have hcz16_1 : wc.cell? ⟨gb136, 1, none⟩ = some (.int .i64 a1_1) := (blk_cell BK136.out 1).trans rfl
        have hcz16_2 : wc.cell? ⟨gb136, 2, none⟩ = some (.string a1_2) := (blk_cell BK136.out 2).trans rfl
        have hfz16_0 := blk_frozen BK136.out 0
        have hfz16_1 := blk_frozen BK136.out 1
        have hfz16_2 := blk_frozen BK136.out 2
        go_wp2_with (first | ((with_reducible refine gate_callee (f := 50) rfl ?_); refine goesL_ (some 17) rfl rfl Tryd.func50 (by kernel_rfl) rfl #[.string a0_2, .string a1_2] rfl (by (try simp only [List.map_toArray, List.map_cons, List.map_nil]); first | done | rfl | (simp only [List.length_drop, List.length_take]; rfl)) ?_; (with_reducible refine (cmp_Compare_string.calls a0_2 a1_2 t137 _ A13.out).mono ?_); rintro e w' ⟨rfl, ⟨nd, rfl⟩⟩; refine ⟨_, rfl, ?_⟩))
        go_ret
        exact ⟨by first | rfl | (simp [errW_none, errW_some] <;> rfl) | (simp [*, errW_none, errW_some] <;> rfl) | (simp [*, errW_none, errW_some]; exact (fun (l_ : List UInt8) => (by cases l_ <;> rfl : l_.isEmpty = !(l_ != []))) _), by repeat (first | (with_reducible first | exact HB.out | apply below_alloc | apply pw_below_drewN | apply below_drew1 | refine below_set ?_ GE135.out | refine below_set ?_ GE136.out) | exact HB.out)⟩
      · replace c12 := Bool.eq_false_iff.mpr c12
        subst c12
        have H1 : ((value_Num.f a0_0 a0_1 a0_2).bind fun t138 => ((value_Num.f a1_0 a1_1 a1_2).bind fun t139 => ((cmp_Compare_int64.f t138 t139).bind fun t140 => (some t140)))) = some r := by rw [if_neg (show ¬ (false = true) by decide)] at H; exact H
        clear H
        have H := H1
        clear H1
        replace H := Option.bind_eq_some_iff.mp H
        obtain ⟨t138, A170, H⟩ := H
        replace H : ((value_Num.f a1_0 a1_1 a1_2).bind fun t139 => ((cmp_Compare_int64.f t138 t139).bind fun t140 => (some t140))) = some r := H
        have A17 := Aside0.mk A170
        clear A170
        replace H := Option.bind_eq_some_iff.mp H
        obtain ⟨t139, A180, H⟩ := H
        replace H : ((cmp_Compare_int64.f t138 t139).bind fun t140 => (some t140)) = some r := H
        have A18 := Aside0.mk A180
        clear A180
        replace H := Option.bind_eq_some_iff.mp H
        obtain ⟨t140, A190, H⟩ := H
        replace H : (some t140) = some r := H
        have A19 := Aside0.mk A190
        clear A190
        obtain rfl := Option.some.inj H
        try go_wp2
        have n0_ := Aside0.mk (blk_drew BK135.out)
        have n1_ := Aside0.mk (blk_drew BK136.out)
        have n2_ := Aside0.mk (below_drew1 HB.out)
        clear BK135
        clear BK136
        clear HB
        have BK135 := n0_
        have BK136 := n1_
        have HB := n2_
        clear n0_ n1_ n2_
        refine start_ (n := 6) (S := fun w' => w'.cell? ⟨gb135, 0, none⟩ = some (.int .i64 a0_0) ∧ w'.cell? ⟨gb135, 1, none⟩ = some (.int .i64 a0_1) ∧ w'.cell? ⟨gb135, 2, none⟩ = some (.string a0_2) ∧ w'.cell? ⟨gb136, 0, none⟩ = some (.int .i64 a1_0) ∧ w'.cell? ⟨gb136, 1, none⟩ = some (.int .i64 a1_1) ∧ w'.cell? ⟨gb136, 2, none⟩ = some (.string a1_2)) (ds := []) #[false, false, false, false, false, false] (by kernel_rfl) rfl rfl ⟨(blk_cell BK135.out 0).trans rfl, (blk_cell BK135.out 1).trans rfl, (blk_cell BK135.out 2).trans rfl, (blk_cell BK136.out 0).trans rfl, (blk_cell BK136.out 1).trans rfl, (blk_cell BK136.out 2).trans rfl⟩ (fun hHeld => ?_)
        generalize wc.drew = w20 at BK135 BK136 HB hHeld ⊢
        refine take_ (i := 0) (N := some 18) (v := ?_) (a' := ?_) #[true, false, false, false, false, false] rfl rfl (by kernel_rfl) (fun _ _ _ h => h) (Or.inl ⟨by rfl, ?_⟩) hHeld ?_ ?_
        rotate_left
        · rintro w' ⟨s0, s1, s2, s3, s4, s5⟩
          go_simp
          with_reducible rfl
        rotate_left
        · simp only [Act.put, List.setIfInBounds_toArray, List.set_cons_zero, List.set_cons_succ, i64_w, i32_w]
          rfl
        refine take_ (i := 2) (N := some 20) (v := ?_) (a' := ?_) #[true, false, true, false, false, false] rfl rfl (by kernel_rfl) (fun _ _ _ h => h) (Or.inl ⟨by rfl, ?_⟩) hHeld ?_ ?_
        rotate_left
        · rintro w' ⟨s0, s1, s2, s3, s4, s5⟩
          go_simp
          with_reducible rfl
        rotate_left
        · simp only [Act.put, List.setIfInBounds_toArray, List.set_cons_zero, List.set_cons_succ, i64_w, i32_w]
          rfl
        refine one_ (i := 1) (N := some 19) #[true, true, true, false, false, false] rfl rfl (by kernel_rfl) (by decide) (fun K hK => ?_)
        refine goes_ Tryd.func17 (by kernel_rfl) rfl #[.agg #[.int .i64 a0_0, .int .i64 a0_1, .string a0_2]] (by rfl) rfl rfl (by (try simp only [List.map_toArray, List.map_cons, List.map_nil]); first | done | rfl | (simp only [List.length_drop, List.length_take]; rfl)) ?_
        with_reducible refine (value_Num.calls (hL := ?sideL) a0_0 a0_1 a0_2 t138 _ A17.out).mono ?_
        (case sideL => exact Laid.below HL.out (by repeat (first | (with_reducible first | exact HB.out | apply below_alloc | apply pw_below_drewN | apply below_drew1 | refine below_set ?_ GE135.out | refine below_set ?_ GE136.out) | exact HB.out)))
        rintro e w21 ⟨rfl, hb⟩
        refine ⟨_, rfl, ?_⟩
        have n0_ := Aside0.mk (blk_below (g := gb135) (o := .cells #[.int .i64 a0_0, .int .i64 a0_1, .string a0_2] 23 (0, 0)) (by (with_reducible repeat (first | refine blk_drewN ?_ _ | refine blk_drew ?_ | refine blk_alloc ?_ _)); exact BK135.out) hb)
        have n1_ := Aside0.mk (blk_below (g := gb136) (o := .cells #[.int .i64 a1_0, .int .i64 a1_1, .string a1_2] 23 (0, 0)) (by (with_reducible repeat (first | refine blk_drewN ?_ _ | refine blk_drew ?_ | refine blk_alloc ?_ _)); exact BK136.out) hb)
        have n2_ := Aside0.mk (below_step (by repeat (first | (with_reducible first | exact HB.out | apply below_alloc | apply pw_below_drewN | apply below_drew1 | refine below_set ?_ GE135.out | refine below_set ?_ GE136.out) | exact HB.out)) hb)
        clear BK135
        clear BK136
        clear HB
        have BK135 := n0_
        have BK136 := n1_
        have HB := n2_
        clear n0_ n1_ n2_
        (try clear hb)
        (try clear hb2)
        (try clear hk)
        (try clear hi)
        refine hK.out _ _ ⟨(blk_cell BK135.out 0).trans rfl, (blk_cell BK135.out 1).trans rfl, (blk_cell BK135.out 2).trans rfl, (blk_cell BK136.out 0).trans rfl, (blk_cell BK136.out 1).trans rfl, (blk_cell BK136.out 2).trans rfl⟩ (fun hHeld => ?_)
        clear hK K
        refine norm_ (a' := ?_) ?_ ?_
        rotate_left
        · show Act.put _ (some 19) _ = _
          simp only [Act.put, List.setIfInBounds_toArray, List.set_cons_zero, List.set_cons_succ, i64_w, i32_w]
          rfl
        refine one_ (i := 3) (N := some 21) #[true, true, true, true, false, false] rfl rfl (by kernel_rfl) (by decide) (fun K hK => ?_)
        refine goes_ Tryd.func17 (by kernel_rfl) rfl #[.agg #[.int .i64 a1_0, .int .i64 a1_1, .string a1_2]] (by rfl) rfl rfl (by (try simp only [List.map_toArray, List.map_cons, List.map_nil]); first | done | rfl | (simp only [List.length_drop, List.length_take]; rfl)) ?_
        with_reducible refine (value_Num.calls (hL := ?sideL) a1_0 a1_1 a1_2 t139 _ A18.out).mono ?_
        (case sideL => exact Laid.below HL.out (by repeat (first | (with_reducible first | exact HB.out | apply below_alloc | apply pw_below_drewN | apply below_drew1 | refine below_set ?_ GE135.out | refine below_set ?_ GE136.out) | exact HB.out)))
        rintro e w22 ⟨rfl, hb⟩
        refine ⟨_, rfl, ?_⟩
        have n0_ := Aside0.mk (blk_below (g := gb135) (o := .cells #[.int .i64 a0_0, .int .i64 a0_1, .string a0_2] 23 (0, 0)) (by (with_reducible repeat (first | refine blk_drewN ?_ _ | refine blk_drew ?_ | refine blk_alloc ?_ _)); exact BK135.out) hb)
        have n1_ := Aside0.mk (blk_below (g := gb136) (o := .cells #[.int .i64 a1_0, .int .i64 a1_1, .string a1_2] 23 (0, 0)) (by (with_reducible repeat (first | refine blk_drewN ?_ _ | refine blk_drew ?_ | refine blk_alloc ?_ _)); exact BK136.out) hb)
        have n2_ := Aside0.mk (below_step (by repeat (first | (with_reducible first | exact HB.out | apply below_alloc | apply pw_below_drewN | apply below_drew1 | refine below_set ?_ GE135.out | refine below_set ?_ GE136.out) | exact HB.out)) hb)
        clear BK135
        clear BK136
        clear HB
        have BK135 := n0_
        have BK136 := n1_
        have HB := n2_
        clear n0_ n1_ n2_
        (try clear hb)
        (try clear hb2)
        (try clear hk)
        (try clear hi)
        refine hK.out _ _ ⟨(blk_cell BK135.out 0).trans rfl, (blk_cell BK135.out 1).trans rfl, (blk_cell BK135.out 2).trans rfl, (blk_cell BK136.out 0).trans rfl, (blk_cell BK136.out 1).trans rfl, (blk_cell BK136.out 2).trans rfl⟩ (fun hHeld => ?_)
        clear hK K
        refine norm_ (a' := ?_) ?_ ?_
        rotate_left
        · show Act.put _ (some 21) _ = _
          simp only [Act.put, List.setIfInBounds_toArray, List.set_cons_zero, List.set_cons_succ, i64_w, i32_w]
          rfl
        refine one_ (i := 4) (N := some 22) #[true, true, true, true, true, false] rfl rfl (by kernel_rfl) (by decide) (fun K hK => ?_)
        refine goes_ Tryd.func51 (by kernel_rfl) rfl #[.int .i64 t138, .int .i64 t139] (by rfl) rfl rfl (by (try simp only [List.map_toArray, List.map_cons, List.map_nil]); first | done | rfl | (simp only [List.length_drop, List.length_take]; rfl)) ?_
        with_reducible refine (cmp_Compare_int64.calls t138 t139 t140 _ A19.out).mono ?_
        rintro e w' ⟨rfl, ⟨nd, rfl⟩⟩
        refine ⟨_, rfl, ?_⟩
        refine hK.out _ _ ⟨(blk_cell BK135.out 0).trans rfl, (blk_cell BK135.out 1).trans rfl, (blk_cell BK135.out 2).trans rfl, (blk_cell BK136.out 0).trans rfl, (blk_cell BK136.out 1).trans rfl, (blk_cell BK136.out 2).trans rfl⟩ (fun hHeld => ?_)
        clear hK K
        refine norm_ (a' := ?_) ?_ ?_
        rotate_left
        · show Act.put _ (some 22) _ = _
          simp only [Act.put, List.setIfInBounds_toArray, List.set_cons_zero, List.set_cons_succ, i64_w, i32_w]
          rfl
        refine pure_ (i := 5) (N := some 4) (v := ?_) (a' := ?_) #[true, true, true, true, true, true] rfl rfl (by kernel_rfl) (fun _ _ _ h => h) (Or.inl ⟨by rfl, ?_⟩) ?_ ?_
        rotate_left
        · intro w'
          go_simp
          with_reducible rfl
        rotate_left
        · simp only [Act.put, List.setIfInBounds_toArray, List.set_cons_zero, List.set_cons_succ, i64_w, i32_w]
          rfl
        refine done_ (by kernel_rfl) ?_
        try go_wp2
        go_ret
        exact ⟨by first | rfl | (simp [errW_none, errW_some] <;> rfl) | (simp [*, errW_none, errW_some] <;> rfl) | (simp [*, errW_none, errW_some]; exact (fun (l_ : List UInt8) => (by cases l_ <;> rfl : l_.isEmpty = !(l_ != []))) _), by repeat (first | (with_reducible first | exact HB.out | apply below_alloc | apply pw_below_drewN | apply below_drew1 | refine below_set ?_ GE135.out | refine below_set ?_ GE136.out) | exact HB.out)⟩
/-! ### value_makers_4: function 41 -/
def value_makers_4.f (k : Nat) (a0_0 : Int) (a0_1 : Int) (a0_2 : ByteArray) (a1_0 : Int) (a1_1 : Int) (a1_2 : ByteArray) : Option (Int × Int × ByteArray) := (value_compared.f k a0_0 a0_1 a0_2 a1_0 a1_1 a1_2).bind fun t144 => ((value_truth.f k (decide (t144 < 0))).bind fun bt145 => (some (bt145.1, bt145.2.1, bt145.2.2)))
set_option maxHeartbeats 8000000 in
set_option maxRecDepth 100000 in
theorem value_makers_4.calls (k : Nat) (a0_0 : Int) (a0_1 : Int) (a0_2 : ByteArray) (a1_0 : Int) (a1_1 : Int) (a1_2 : ByteArray) (r1 : Int) (r2 : Int) (r3 : ByteArray) (w : World) (hL : Laid w) (h : value_makers_4.f k a0_0 a0_1 a0_2 a1_0 a1_1 a1_2 = some (r1, r2, r3)) :
    Calls Tryd.prog 41 #[.agg #[.int .i64 a0_0, .int .i64 a0_1, .string a0_2], .agg #[.int .i64 a1_0, .int .i64 a1_1, .string a1_2]] w fun e w' => e = .returned (.agg #[.int .i64 r1, .int .i64 r2, .string r3]) ∧ Below w.heap.size w w' := by
  have HL := Aside0.mk hL
  clear hL
  have hu23 := Tryd.underlying23
  have HB := Aside0.mk (Below.refl w.heap.size w)
  have H : ((value_compared.f k a0_0 a0_1 a0_2 a1_0 a1_1 a1_2).bind fun t144 => ((value_truth.f k (decide (t144 < 0))).bind fun bt145 => (some (bt145.1, bt145.2.1, bt145.2.2)))) = some (r1, r2, r3) := h
  clear h
  replace H := Option.bind_eq_some_iff.mp H
  obtain ⟨t144, A30, H⟩ := H
  replace H : ((value_truth.f k (decide (t144 < 0))).bind fun bt145 => (some (bt145.1, bt145.2.1, bt145.2.2))) = some (r1, r2, r3) := H
  have A3 := Aside0.mk A30
  clear A30
  replace H := Option.bind_eq_some_iff.mp H
  obtain ⟨⟨t145, t146, t147⟩, A40, H⟩ := H
  replace H : (some (t145, t146, t147)) = some (r1, r2, r3) := H
  have A4 := Aside0.mk A40
  clear A40
  simp only [Option.some.injEq, Prod.mk.injEq] at H
  obtain ⟨rfl, rfl, rfl⟩ := H
  go_enter Tryd.func41, Tryd.ntmps41
  go_wp2_with (first | ((with_reducible refine gate_dst (N := 2) rfl ?_); refine box_event ?hg (N := 2) ?hd (cs := #[.int .i64 a0_0, .int .i64 a0_1, .string a0_2]) (t := 23) ?hr ?_; (case hd => rfl); (case hg => rfl); (case hr => first | (go_simp; done) | (go_simp; rfl)); intro gb141 hg w5 hbox hb; have n0_ := Aside0.mk (below_step (by repeat (first | (with_reducible first | exact HB.out | apply below_alloc | apply pw_below_drewN | apply below_drew1) | exact HB.out)) hb); have n1_ := Aside0.mk (hbox); have n2_ := Aside0.mk ((by rw [hg]; exact (below_size (by repeat (first | (with_reducible first | exact HB.out | apply below_alloc | apply pw_below_drewN | apply below_drew1) | exact HB.out))) : w.heap.size ≤ gb141)); have n3_ := Aside0.mk ((by rw [hg]; exact (below_size (by repeat (first | (with_reducible first | exact HB.out | apply below_alloc | apply pw_below_drewN | apply below_drew1) | exact HB.out))) : w.heap.size ≤ gb141)); clear HB; have HB := n0_; have BK141 := n1_; have GW141 := n2_; have GE141 := n3_; clear n0_ n1_ n2_ n3_; clear hb hbox hg) | ((with_reducible refine gate_dst (N := 3) rfl ?_); refine box_event ?hg (N := 3) ?hd (cs := #[.int .i64 a1_0, .int .i64 a1_1, .string a1_2]) (t := 23) ?hr ?_; (case hd => rfl); (case hg => rfl); (case hr => first | (go_simp; done) | (go_simp; rfl)); intro gb142 hg w6 hbox hb; have n0_ := Aside0.mk (blk_below (g := gb141) (o := .cells #[.int .i64 a0_0, .int .i64 a0_1, .string a0_2] 23 (0, 0)) (by (with_reducible repeat (first | refine blk_drewN ?_ _ | refine blk_drew ?_ | refine blk_alloc ?_ _)); exact BK141.out) hb); have n1_ := Aside0.mk (below_step (by repeat (first | (with_reducible first | exact HB.out | apply below_alloc | apply pw_below_drewN | apply below_drew1 | refine below_set ?_ GE141.out) | exact HB.out)) hb); have n2_ := Aside0.mk (hbox); have n3_ := Aside0.mk ((by rw [hg]; exact (below_size (by repeat (first | (with_reducible first | exact HB.out | apply below_alloc | apply pw_below_drewN | apply below_drew1 | refine below_set ?_ GE141.out) | exact HB.out))) : w.heap.size ≤ gb142)); have n4_ := Aside0.mk ((by rw [hg]; exact (below_size (by repeat (first | (with_reducible first | exact HB.out | apply below_alloc | apply pw_below_drewN | apply below_drew1 | refine below_set ?_ GE141.out) | exact HB.out))) : w.heap.size ≤ gb142)); have n5_ := Aside0.mk ((by rw [hg]; exact Nat.ne_of_lt (blk_lt (g := gb141) (o := .cells #[.int .i64 a0_0, .int .i64 a0_1, .string a0_2] 23 (0, 0)) (by (with_reducible repeat (first | refine blk_drewN ?_ _ | refine blk_drew ?_ | refine blk_alloc ?_ _)); exact BK141.out)) : gb141 ≠ gb142)); have n6_ := Aside0.mk ((by rw [hg]; exact Nat.ne_of_gt (blk_lt (g := gb141) (o := .cells #[.int .i64 a0_0, .int .i64 a0_1, .string a0_2] 23 (0, 0)) (by (with_reducible repeat (first | refine blk_drewN ?_ _ | refine blk_drew ?_ | refine blk_alloc ?_ _)); exact BK141.out)) : gb142 ≠ gb141)); clear BK141; clear HB; have BK141 := n0_; have HB := n1_; have BK142 := n2_; have GW142 := n3_; have GE142 := n4_; have NB141_142 := n5_; have NB142_141 := n6_; clear n0_ n1_ n2_ n3_ n4_ n5_ n6_; clear hb hbox hg) | ((with_reducible refine gate_dst (N := 4) rfl ?_); refine box_event ?hg (N := 4) ?hd (cs := #[.int .i64 0, .int .i64 0, .string (⟨#[]⟩ : ByteArray)]) (t := 23) ?hr ?_; (case hd => rfl); (case hg => rfl); (case hr => first | (go_simp; done) | (go_simp; rfl)); intro gb143 hg w7 hbox hb; have n0_ := Aside0.mk (blk_below (g := gb141) (o := .cells #[.int .i64 a0_0, .int .i64 a0_1, .string a0_2] 23 (0, 0)) (by (with_reducible repeat (first | refine blk_drewN ?_ _ | refine blk_drew ?_ | refine blk_alloc ?_ _)); exact BK141.out) hb); have n1_ := Aside0.mk (blk_below (g := gb142) (o := .cells #[.int .i64 a1_0, .int .i64 a1_1, .string a1_2] 23 (0, 0)) (by (with_reducible repeat (first | refine blk_drewN ?_ _ | refine blk_drew ?_ | refine blk_alloc ?_ _)); exact BK142.out) hb); have n2_ := Aside0.mk (below_step (by repeat (first | (with_reducible first | exact HB.out | apply below_alloc | apply pw_below_drewN | apply below_drew1 | refine below_set ?_ GE141.out | refine below_set ?_ GE142.out) | exact HB.out)) hb); have n3_ := Aside0.mk (hbox); have n4_ := Aside0.mk ((by rw [hg]; exact (below_size (by repeat (first | (with_reducible first | exact HB.out | apply below_alloc | apply pw_below_drewN | apply below_drew1 | refine below_set ?_ GE141.out | refine below_set ?_ GE142.out) | exact HB.out))) : w.heap.size ≤ gb143)); have n5_ := Aside0.mk ((by rw [hg]; exact (below_size (by repeat (first | (with_reducible first | exact HB.out | apply below_alloc | apply pw_below_drewN | apply below_drew1 | refine below_set ?_ GE141.out | refine below_set ?_ GE142.out) | exact HB.out))) : w.heap.size ≤ gb143)); have n6_ := Aside0.mk ((by rw [hg]; exact Nat.ne_of_lt (blk_lt (g := gb141) (o := .cells #[.int .i64 a0_0, .int .i64 a0_1, .string a0_2] 23 (0, 0)) (by (with_reducible repeat (first | refine blk_drewN ?_ _ | refine blk_drew ?_ | refine blk_alloc ?_ _)); exact BK141.out)) : gb141 ≠ gb143)); have n7_ := Aside0.mk ((by rw [hg]; exact Nat.ne_of_gt (blk_lt (g := gb141) (o := .cells #[.int .i64 a0_0, .int .i64 a0_1, .string a0_2] 23 (0, 0)) (by (with_reducible repeat (first | refine blk_drewN ?_ _ | refine blk_drew ?_ | refine blk_alloc ?_ _)); exact BK141.out)) : gb143 ≠ gb141)); have n8_ := Aside0.mk ((by rw [hg]; exact Nat.ne_of_lt (blk_lt (g := gb142) (o := .cells #[.int .i64 a1_0, .int .i64 a1_1, .string a1_2] 23 (0, 0)) (by (with_reducible repeat (first | refine blk_drewN ?_ _ | refine blk_drew ?_ | refine blk_alloc ?_ _)); exact BK142.out)) : gb142 ≠ gb143)); have n9_ := Aside0.mk ((by rw [hg]; exact Nat.ne_of_gt (blk_lt (g := gb142) (o := .cells #[.int .i64 a1_0, .int .i64 a1_1, .string a1_2] 23 (0, 0)) (by (with_reducible repeat (first | refine blk_drewN ?_ _ | refine blk_drew ?_ | refine blk_alloc ?_ _)); exact BK142.out)) : gb143 ≠ gb142)); clear BK141; clear BK142; clear HB; have BK141 := n0_; have BK142 := n1_; have HB := n2_; have BK143 := n3_; have GW143 := n4_; have GE143 := n5_; have NB141_143 := n6_; have NB143_141 := n7_; have NB142_143 := n8_; have NB143_142 := n9_; clear n0_ n1_ n2_ n3_ n4_ n5_ n6_ n7_ n8_ n9_; clear hb hbox hg; have hnb8 := NB141_142.out; have hnc8 := NB142_141.out; have hnb9 := NB141_143.out; have hnc9 := NB143_141.out; have hcz10_0 : w7.cell? ⟨gb141, 0, none⟩ = some (.int .i64 a0_0) := (blk_cell BK141.out 0).trans rfl; have hcz10_1 : w7.cell? ⟨gb141, 1, none⟩ = some (.int .i64 a0_1) := (blk_cell BK141.out 1).trans rfl; have hcz10_2 : w7.cell? ⟨gb141, 2, none⟩ = some (.string a0_2) := (blk_cell BK141.out 2).trans rfl; have hfz10_0 := blk_frozen BK141.out 0; have hfz10_1 := blk_frozen BK141.out 1; have hfz10_2 := blk_frozen BK141.out 2; have hnb11 := NB142_143.out; have hnc11 := NB143_142.out; have hcz12_0 : w7.cell? ⟨gb142, 0, none⟩ = some (.int .i64 a1_0) := (blk_cell BK142.out 0).trans rfl; have hcz12_1 : w7.cell? ⟨gb142, 1, none⟩ = some (.int .i64 a1_1) := (blk_cell BK142.out 1).trans rfl; have hcz12_2 : w7.cell? ⟨gb142, 2, none⟩ = some (.string a1_2) := (blk_cell BK142.out 2).trans rfl; have hfz12_0 := blk_frozen BK142.out 0; have hfz12_1 := blk_frozen BK142.out 1; have hfz12_2 := blk_frozen BK142.out 2) | ((with_reducible refine gate_callee (f := 42) rfl ?_); refine goesL_ (some 7) rfl rfl Tryd.func42 (by kernel_rfl) rfl #[.agg #[.int .i64 a0_0, .int .i64 a0_1, .string a0_2], .agg #[.int .i64 a1_0, .int .i64 a1_1, .string a1_2]] rfl (by (try simp only [List.map_toArray, List.map_cons, List.map_nil]); first | done | rfl | (simp only [List.length_drop, List.length_take]; rfl)) ?_; (with_reducible refine (value_compared.calls (hL := ?sideL) k a0_0 a0_1 a0_2 a1_0 a1_1 a1_2 t144 _ A3.out).mono ?_); (case sideL => exact Laid.below HL.out (by repeat (first | (with_reducible first | exact HB.out | apply below_alloc | apply pw_below_drewN | apply below_drew1 | refine below_set ?_ GE141.out | refine below_set ?_ GE142.out | refine below_set ?_ GE143.out) | exact HB.out))); rintro e w13 ⟨rfl, hb⟩; refine ⟨_, rfl, ?_⟩; have n0_ := Aside0.mk (blk_below (g := gb141) (o := .cells #[.int .i64 a0_0, .int .i64 a0_1, .string a0_2] 23 (0, 0)) (by (with_reducible repeat (first | refine blk_drewN ?_ _ | refine blk_drew ?_ | refine blk_alloc ?_ _)); exact BK141.out) hb); have n1_ := Aside0.mk (blk_below (g := gb142) (o := .cells #[.int .i64 a1_0, .int .i64 a1_1, .string a1_2] 23 (0, 0)) (by (with_reducible repeat (first | refine blk_drewN ?_ _ | refine blk_drew ?_ | refine blk_alloc ?_ _)); exact BK142.out) hb); have n2_ := Aside0.mk (blk_below (g := gb143) (o := .cells #[.int .i64 0, .int .i64 0, .string (⟨#[]⟩ : ByteArray)] 23 (0, 0)) (by (with_reducible repeat (first | refine blk_drewN ?_ _ | refine blk_drew ?_ | refine blk_alloc ?_ _)); exact BK143.out) hb); have n3_ := Aside0.mk (below_step (by repeat (first | (with_reducible first | exact HB.out | apply below_alloc | apply pw_below_drewN | apply below_drew1 | refine below_set ?_ GE141.out | refine below_set ?_ GE142.out | refine below_set ?_ GE143.out) | exact HB.out)) hb); clear BK141; clear BK142; clear BK143; clear HB; have BK141 := n0_; have BK142 := n1_; have BK143 := n2_; have HB := n3_; clear n0_ n1_ n2_ n3_; (try clear hb); (try clear hb2); (try clear hk); (try clear hi)) | ((with_reducible refine gate_callee (f := 35) rfl ?_); refine goesL_ (some 9) rfl rfl Tryd.func35 (by kernel_rfl) rfl #[.bool (decide (t144 < 0))] rfl (by (try simp only [List.map_toArray, List.map_cons, List.map_nil]); first | done | rfl | (simp only [List.length_drop, List.length_take]; rfl)) ?_; (with_reducible refine (value_truth.calls k (decide (t144 < 0)) t145 t146 t147 _ A4.out).mono ?_); rintro e w14 ⟨rfl, hb⟩; refine ⟨_, rfl, ?_⟩; have n0_ := Aside0.mk (blk_below (g := gb141) (o := .cells #[.int .i64 a0_0, .int .i64 a0_1, .string a0_2] 23 (0, 0)) (by (with_reducible repeat (first | refine blk_drewN ?_ _ | refine blk_drew ?_ | refine blk_alloc ?_ _)); exact BK141.out) hb); have n1_ := Aside0.mk (blk_below (g := gb142) (o := .cells #[.int .i64 a1_0, .int .i64 a1_1, .string a1_2] 23 (0, 0)) (by (with_reducible repeat (first | refine blk_drewN ?_ _ | refine blk_drew ?_ | refine blk_alloc ?_ _)); exact BK142.out) hb); have n2_ := Aside0.mk (blk_below (g := gb143) (o := .cells #[.int .i64 0, .int .i64 0, .string (⟨#[]⟩ : ByteArray)] 23 (0, 0)) (by (with_reducible repeat (first | refine blk_drewN ?_ _ | refine blk_drew ?_ | refine blk_alloc ?_ _)); exact BK143.out) hb); have n3_ := Aside0.mk (below_step (by repeat (first | (with_reducible first | exact HB.out | apply below_alloc | apply pw_below_drewN | apply below_drew1 | refine below_set ?_ GE141.out | refine below_set ?_ GE142.out | refine below_set ?_ GE143.out) | exact HB.out)) hb); clear BK141; clear BK142; clear BK143; clear HB; have BK141 := n0_; have BK142 := n1_; have BK143 := n2_; have HB := n3_; clear n0_ n1_ n2_ n3_; (try clear hb); (try clear hb2); (try clear hk); (try clear hi); have hcz15_0 : w14.cell? ⟨gb143, 0, none⟩ = some (.int .i64 0) := (blk_cell BK143.out 0).trans rfl; have hcz15_1 : w14.cell? ⟨gb143, 1, none⟩ = some (.int .i64 0) := (blk_cell BK143.out 1).trans rfl; have hcz15_2 : w14.cell? ⟨gb143, 2, none⟩ = some (.string (⟨#[]⟩ : ByteArray)) := (blk_cell BK143.out 2).trans rfl; have hfz15_0 := blk_frozen BK143.out 0; have hfz15_1 := blk_frozen BK143.out 1; have hfz15_2 := blk_frozen BK143.out 2))
  refine bodyPost_ret (results_cell_row rfl _ _ gb143 23 #[.int .i64 t145, .int .i64 t146, .string t147] (0, 0) _ rfl (by (with_reducible repeat (first | refine blk_drewN ?_ _ | refine blk_drew ?_ | refine blk_alloc ?_ _)); refine blk_put (cs := #[.int .i64 t145, .int .i64 t146, .string (⟨#[]⟩ : ByteArray)]) ?_ 2 _ rfl; (with_reducible repeat (first | refine blk_drewN ?_ _ | refine blk_drew ?_ | refine blk_alloc ?_ _)); refine blk_put (cs := #[.int .i64 t145, .int .i64 0, .string (⟨#[]⟩ : ByteArray)]) ?_ 1 _ rfl; (with_reducible repeat (first | refine blk_drewN ?_ _ | refine blk_drew ?_ | refine blk_alloc ?_ _)); refine blk_put (cs := #[.int .i64 0, .int .i64 0, .string (⟨#[]⟩ : ByteArray)]) ?_ 0 _ rfl; (with_reducible repeat (first | refine blk_drewN ?_ _ | refine blk_drew ?_ | refine blk_alloc ?_ _)); exact BK143.out) Tryd.underlying23 rfl (by kernel_rfl)) rfl ?_
  exact ⟨by first | rfl | (simp [errW_none, errW_some] <;> rfl) | (simp [*, errW_none, errW_some] <;> rfl) | (simp [*, errW_none, errW_some]; exact (fun (l_ : List UInt8) => (by cases l_ <;> rfl : l_.isEmpty = !(l_ != []))) _), by repeat (first | (with_reducible first | exact HB.out | apply below_alloc | apply pw_below_drewN | apply below_drew1 | refine below_set ?_ GE141.out | refine below_set ?_ GE142.out | refine below_set ?_ GE143.out) | exact HB.out)⟩
/-! ### value_makers_5: function 43 -/
def value_makers_5.f (k : Nat) (a0_0 : Int) (a0_1 : Int) (a0_2 : ByteArray) (a1_0 : Int) (a1_1 : Int) (a1_2 : ByteArray) : Option (Int × Int × ByteArray) := (value_compared.f k a0_0 a0_1 a0_2 a1_0 a1_1 a1_2).bind fun t151 => ((value_truth.f k (decide (t151 ≤ 0))).bind fun bt152 => (some (bt152.1, bt152.2.1, bt152.2.2)))
set_option maxHeartbeats 8000000 in
set_option maxRecDepth 100000 in
theorem value_makers_5.calls (k : Nat) (a0_0 : Int) (a0_1 : Int) (a0_2 : ByteArray) (a1_0 : Int) (a1_1 : Int) (a1_2 : ByteArray) (r1 : Int) (r2 : Int) (r3 : ByteArray) (w : World) (hL : Laid w) (h : value_makers_5.f k a0_0 a0_1 a0_2 a1_0 a1_1 a1_2 = some (r1, r2, r3)) :
    Calls Tryd.prog 43 #[.agg #[.int .i64 a0_0, .int .i64 a0_1, .string a0_2], .agg #[.int .i64 a1_0, .int .i64 a1_1, .string a1_2]] w fun e w' => e = .returned (.agg #[.int .i64 r1, .int .i64 r2, .string r3]) ∧ Below w.heap.size w w' := by
  have HL := Aside0.mk hL
  clear hL
  have hu23 := Tryd.underlying23
  have HB := Aside0.mk (Below.refl w.heap.size w)
  have H : ((value_compared.f k a0_0 a0_1 a0_2 a1_0 a1_1 a1_2).bind fun t151 => ((value_truth.f k (decide (t151 ≤ 0))).bind fun bt152 => (some (bt152.1, bt152.2.1, bt152.2.2)))) = some (r1, r2, r3) := h
  clear h
  replace H := Option.bind_eq_some_iff.mp H
  obtain ⟨t151, A30, H⟩ := H
  replace H : ((value_truth.f k (decide (t151 ≤ 0))).bind fun bt152 => (some (bt152.1, bt152.2.1, bt152.2.2))) = some (r1, r2, r3) := H
  have A3 := Aside0.mk A30
  clear A30
  replace H := Option.bind_eq_some_iff.mp H
  obtain ⟨⟨t152, t153, t154⟩, A40, H⟩ := H
  replace H : (some (t152, t153, t154)) = some (r1, r2, r3) := H
  have A4 := Aside0.mk A40
  clear A40
  simp only [Option.some.injEq, Prod.mk.injEq] at H
  obtain ⟨rfl, rfl, rfl⟩ := H
  go_enter Tryd.func43, Tryd.ntmps43
  go_wp2_with (first | ((with_reducible refine gate_dst (N := 2) rfl ?_); refine box_event ?hg (N := 2) ?hd (cs := #[.int .i64 a0_0, .int .i64 a0_1, .string a0_2]) (t := 23) ?hr ?_; (case hd => rfl); (case hg => rfl); (case hr => first | (go_simp; done) | (go_simp; rfl)); intro gb148 hg w5 hbox hb; have n0_ := Aside0.mk (below_step (by repeat (first | (with_reducible first | exact HB.out | apply below_alloc | apply pw_below_drewN | apply below_drew1) | exact HB.out)) hb); have n1_ := Aside0.mk (hbox); have n2_ := Aside0.mk ((by rw [hg]; exact (below_size (by repeat (first | (with_reducible first | exact HB.out | apply below_alloc | apply pw_below_drewN | apply below_drew1) | exact HB.out))) : w.heap.size ≤ gb148)); have n3_ := Aside0.mk ((by rw [hg]; exact (below_size (by repeat (first | (with_reducible first | exact HB.out | apply below_alloc | apply pw_below_drewN | apply below_drew1) | exact HB.out))) : w.heap.size ≤ gb148)); clear HB; have HB := n0_; have BK148 := n1_; have GW148 := n2_; have GE148 := n3_; clear n0_ n1_ n2_ n3_; clear hb hbox hg) | ((with_reducible refine gate_dst (N := 3) rfl ?_); refine box_event ?hg (N := 3) ?hd (cs := #[.int .i64 a1_0, .int .i64 a1_1, .string a1_2]) (t := 23) ?hr ?_; (case hd => rfl); (case hg => rfl); (case hr => first | (go_simp; done) | (go_simp; rfl)); intro gb149 hg w6 hbox hb; have n0_ := Aside0.mk (blk_below (g := gb148) (o := .cells #[.int .i64 a0_0, .int .i64 a0_1, .string a0_2] 23 (0, 0)) (by (with_reducible repeat (first | refine blk_drewN ?_ _ | refine blk_drew ?_ | refine blk_alloc ?_ _)); exact BK148.out) hb); have n1_ := Aside0.mk (below_step (by repeat (first | (with_reducible first | exact HB.out | apply below_alloc | apply pw_below_drewN | apply below_drew1 | refine below_set ?_ GE148.out) | exact HB.out)) hb); have n2_ := Aside0.mk (hbox); have n3_ := Aside0.mk ((by rw [hg]; exact (below_size (by repeat (first | (with_reducible first | exact HB.out | apply below_alloc | apply pw_below_drewN | apply below_drew1 | refine below_set ?_ GE148.out) | exact HB.out))) : w.heap.size ≤ gb149)); have n4_ := Aside0.mk ((by rw [hg]; exact (below_size (by repeat (first | (with_reducible first | exact HB.out | apply below_alloc | apply pw_below_drewN | apply below_drew1 | refine below_set ?_ GE148.out) | exact HB.out))) : w.heap.size ≤ gb149)); have n5_ := Aside0.mk ((by rw [hg]; exact Nat.ne_of_lt (blk_lt (g := gb148) (o := .cells #[.int .i64 a0_0, .int .i64 a0_1, .string a0_2] 23 (0, 0)) (by (with_reducible repeat (first | refine blk_drewN ?_ _ | refine blk_drew ?_ | refine blk_alloc ?_ _)); exact BK148.out)) : gb148 ≠ gb149)); have n6_ := Aside0.mk ((by rw [hg]; exact Nat.ne_of_gt (blk_lt (g := gb148) (o := .cells #[.int .i64 a0_0, .int .i64 a0_1, .string a0_2] 23 (0, 0)) (by (with_reducible repeat (first | refine blk_drewN ?_ _ | refine blk_drew ?_ | refine blk_alloc ?_ _)); exact BK148.out)) : gb149 ≠ gb148)); clear BK148; clear HB; have BK148 := n0_; have HB := n1_; have BK149 := n2_; have GW149 := n3_; have GE149 := n4_; have NB148_149 := n5_; have NB149_148 := n6_; clear n0_ n1_ n2_ n3_ n4_ n5_ n6_; clear hb hbox hg) | ((with_reducible refine gate_dst (N := 4) rfl ?_); refine box_event ?hg (N := 4) ?hd (cs := #[.int .i64 0, .int .i64 0, .string (⟨#[]⟩ : ByteArray)]) (t := 23) ?hr ?_; (case hd => rfl); (case hg => rfl); (case hr => first | (go_simp; done) | (go_simp; rfl)); intro gb150 hg w7 hbox hb; have n0_ := Aside0.mk (blk_below (g := gb148) (o := .cells #[.int .i64 a0_0, .int .i64 a0_1, .string a0_2] 23 (0, 0)) (by (with_reducible repeat (first | refine blk_drewN ?_ _ | refine blk_drew ?_ | refine blk_alloc ?_ _)); exact BK148.out) hb); have n1_ := Aside0.mk (blk_below (g := gb149) (o := .cells #[.int .i64 a1_0, .int .i64 a1_1, .string a1_2] 23 (0, 0)) (by (with_reducible repeat (first | refine blk_drewN ?_ _ | refine blk_drew ?_ | refine blk_alloc ?_ _)); exact BK149.out) hb); have n2_ := Aside0.mk (below_step (by repeat (first | (with_reducible first | exact HB.out | apply below_alloc | apply pw_below_drewN | apply below_drew1 | refine below_set ?_ GE148.out | refine below_set ?_ GE149.out) | exact HB.out)) hb); have n3_ := Aside0.mk (hbox); have n4_ := Aside0.mk ((by rw [hg]; exact (below_size (by repeat (first | (with_reducible first | exact HB.out | apply below_alloc | apply pw_below_drewN | apply below_drew1 | refine below_set ?_ GE148.out | refine below_set ?_ GE149.out) | exact HB.out))) : w.heap.size ≤ gb150)); have n5_ := Aside0.mk ((by rw [hg]; exact (below_size (by repeat (first | (with_reducible first | exact HB.out | apply below_alloc | apply pw_below_drewN | apply below_drew1 | refine below_set ?_ GE148.out | refine below_set ?_ GE149.out) | exact HB.out))) : w.heap.size ≤ gb150)); have n6_ := Aside0.mk ((by rw [hg]; exact Nat.ne_of_lt (blk_lt (g := gb148) (o := .cells #[.int .i64 a0_0, .int .i64 a0_1, .string a0_2] 23 (0, 0)) (by (with_reducible repeat (first | refine blk_drewN ?_ _ | refine blk_drew ?_ | refine blk_alloc ?_ _)); exact BK148.out)) : gb148 ≠ gb150)); have n7_ := Aside0.mk ((by rw [hg]; exact Nat.ne_of_gt (blk_lt (g := gb148) (o := .cells #[.int .i64 a0_0, .int .i64 a0_1, .string a0_2] 23 (0, 0)) (by (with_reducible repeat (first | refine blk_drewN ?_ _ | refine blk_drew ?_ | refine blk_alloc ?_ _)); exact BK148.out)) : gb150 ≠ gb148)); have n8_ := Aside0.mk ((by rw [hg]; exact Nat.ne_of_lt (blk_lt (g := gb149) (o := .cells #[.int .i64 a1_0, .int .i64 a1_1, .string a1_2] 23 (0, 0)) (by (with_reducible repeat (first | refine blk_drewN ?_ _ | refine blk_drew ?_ | refine blk_alloc ?_ _)); exact BK149.out)) : gb149 ≠ gb150)); have n9_ := Aside0.mk ((by rw [hg]; exact Nat.ne_of_gt (blk_lt (g := gb149) (o := .cells #[.int .i64 a1_0, .int .i64 a1_1, .string a1_2] 23 (0, 0)) (by (with_reducible repeat (first | refine blk_drewN ?_ _ | refine blk_drew ?_ | refine blk_alloc ?_ _)); exact BK149.out)) : gb150 ≠ gb149)); clear BK148; clear BK149; clear HB; have BK148 := n0_; have BK149 := n1_; have HB := n2_; have BK150 := n3_; have GW150 := n4_; have GE150 := n5_; have NB148_150 := n6_; have NB150_148 := n7_; have NB149_150 := n8_; have NB150_149 := n9_; clear n0_ n1_ n2_ n3_ n4_ n5_ n6_ n7_ n8_ n9_; clear hb hbox hg; have hnb8 := NB148_149.out; have hnc8 := NB149_148.out; have hnb9 := NB148_150.out; have hnc9 := NB150_148.out; have hcz10_0 : w7.cell? ⟨gb148, 0, none⟩ = some (.int .i64 a0_0) := (blk_cell BK148.out 0).trans rfl; have hcz10_1 : w7.cell? ⟨gb148, 1, none⟩ = some (.int .i64 a0_1) := (blk_cell BK148.out 1).trans rfl; have hcz10_2 : w7.cell? ⟨gb148, 2, none⟩ = some (.string a0_2) := (blk_cell BK148.out 2).trans rfl; have hfz10_0 := blk_frozen BK148.out 0; have hfz10_1 := blk_frozen BK148.out 1; have hfz10_2 := blk_frozen BK148.out 2; have hnb11 := NB149_150.out; have hnc11 := NB150_149.out; have hcz12_0 : w7.cell? ⟨gb149, 0, none⟩ = some (.int .i64 a1_0) := (blk_cell BK149.out 0).trans rfl; have hcz12_1 : w7.cell? ⟨gb149, 1, none⟩ = some (.int .i64 a1_1) := (blk_cell BK149.out 1).trans rfl; have hcz12_2 : w7.cell? ⟨gb149, 2, none⟩ = some (.string a1_2) := (blk_cell BK149.out 2).trans rfl; have hfz12_0 := blk_frozen BK149.out 0; have hfz12_1 := blk_frozen BK149.out 1; have hfz12_2 := blk_frozen BK149.out 2) | ((with_reducible refine gate_callee (f := 42) rfl ?_); refine goesL_ (some 7) rfl rfl Tryd.func42 (by kernel_rfl) rfl #[.agg #[.int .i64 a0_0, .int .i64 a0_1, .string a0_2], .agg #[.int .i64 a1_0, .int .i64 a1_1, .string a1_2]] rfl (by (try simp only [List.map_toArray, List.map_cons, List.map_nil]); first | done | rfl | (simp only [List.length_drop, List.length_take]; rfl)) ?_; (with_reducible refine (value_compared.calls (hL := ?sideL) k a0_0 a0_1 a0_2 a1_0 a1_1 a1_2 t151 _ A3.out).mono ?_); (case sideL => exact Laid.below HL.out (by repeat (first | (with_reducible first | exact HB.out | apply below_alloc | apply pw_below_drewN | apply below_drew1 | refine below_set ?_ GE148.out | refine below_set ?_ GE149.out | refine below_set ?_ GE150.out) | exact HB.out))); rintro e w13 ⟨rfl, hb⟩; refine ⟨_, rfl, ?_⟩; have n0_ := Aside0.mk (blk_below (g := gb148) (o := .cells #[.int .i64 a0_0, .int .i64 a0_1, .string a0_2] 23 (0, 0)) (by (with_reducible repeat (first | refine blk_drewN ?_ _ | refine blk_drew ?_ | refine blk_alloc ?_ _)); exact BK148.out) hb); have n1_ := Aside0.mk (blk_below (g := gb149) (o := .cells #[.int .i64 a1_0, .int .i64 a1_1, .string a1_2] 23 (0, 0)) (by (with_reducible repeat (first | refine blk_drewN ?_ _ | refine blk_drew ?_ | refine blk_alloc ?_ _)); exact BK149.out) hb); have n2_ := Aside0.mk (blk_below (g := gb150) (o := .cells #[.int .i64 0, .int .i64 0, .string (⟨#[]⟩ : ByteArray)] 23 (0, 0)) (by (with_reducible repeat (first | refine blk_drewN ?_ _ | refine blk_drew ?_ | refine blk_alloc ?_ _)); exact BK150.out) hb); have n3_ := Aside0.mk (below_step (by repeat (first | (with_reducible first | exact HB.out | apply below_alloc | apply pw_below_drewN | apply below_drew1 | refine below_set ?_ GE148.out | refine below_set ?_ GE149.out | refine below_set ?_ GE150.out) | exact HB.out)) hb); clear BK148; clear BK149; clear BK150; clear HB; have BK148 := n0_; have BK149 := n1_; have BK150 := n2_; have HB := n3_; clear n0_ n1_ n2_ n3_; (try clear hb); (try clear hb2); (try clear hk); (try clear hi)) | ((with_reducible refine gate_callee (f := 35) rfl ?_); refine goesL_ (some 9) rfl rfl Tryd.func35 (by kernel_rfl) rfl #[.bool (decide (t151 ≤ 0))] rfl (by (try simp only [List.map_toArray, List.map_cons, List.map_nil]); first | done | rfl | (simp only [List.length_drop, List.length_take]; rfl)) ?_; (with_reducible refine (value_truth.calls k (decide (t151 ≤ 0)) t152 t153 t154 _ A4.out).mono ?_); rintro e w14 ⟨rfl, hb⟩; refine ⟨_, rfl, ?_⟩; have n0_ := Aside0.mk (blk_below (g := gb148) (o := .cells #[.int .i64 a0_0, .int .i64 a0_1, .string a0_2] 23 (0, 0)) (by (with_reducible repeat (first | refine blk_drewN ?_ _ | refine blk_drew ?_ | refine blk_alloc ?_ _)); exact BK148.out) hb); have n1_ := Aside0.mk (blk_below (g := gb149) (o := .cells #[.int .i64 a1_0, .int .i64 a1_1, .string a1_2] 23 (0, 0)) (by (with_reducible repeat (first | refine blk_drewN ?_ _ | refine blk_drew ?_ | refine blk_alloc ?_ _)); exact BK149.out) hb); have n2_ := Aside0.mk (blk_below (g := gb150) (o := .cells #[.int .i64 0, .int .i64 0, .string (⟨#[]⟩ : ByteArray)] 23 (0, 0)) (by (with_reducible repeat (first | refine blk_drewN ?_ _ | refine blk_drew ?_ | refine blk_alloc ?_ _)); exact BK150.out) hb); have n3_ := Aside0.mk (below_step (by repeat (first | (with_reducible first | exact HB.out | apply below_alloc | apply pw_below_drewN | apply below_drew1 | refine below_set ?_ GE148.out | refine below_set ?_ GE149.out | refine below_set ?_ GE150.out) | exact HB.out)) hb); clear BK148; clear BK149; clear BK150; clear HB; have BK148 := n0_; have BK149 := n1_; have BK150 := n2_; have HB := n3_; clear n0_ n1_ n2_ n3_; (try clear hb); (try clear hb2); (try clear hk); (try clear hi); have hcz15_0 : w14.cell? ⟨gb150, 0, none⟩ = some (.int .i64 0) := (blk_cell BK150.out 0).trans rfl; have hcz15_1 : w14.cell? ⟨gb150, 1, none⟩ = some (.int .i64 0) := (blk_cell BK150.out 1).trans rfl; have hcz15_2 : w14.cell? ⟨gb150, 2, none⟩ = some (.string (⟨#[]⟩ : ByteArray)) := (blk_cell BK150.out 2).trans rfl; have hfz15_0 := blk_frozen BK150.out 0; have hfz15_1 := blk_frozen BK150.out 1; have hfz15_2 := blk_frozen BK150.out 2))
  refine bodyPost_ret (results_cell_row rfl _ _ gb150 23 #[.int .i64 t152, .int .i64 t153, .string t154] (0, 0) _ rfl (by (with_reducible repeat (first | refine blk_drewN ?_ _ | refine blk_drew ?_ | refine blk_alloc ?_ _)); refine blk_put (cs := #[.int .i64 t152, .int .i64 t153, .string (⟨#[]⟩ : ByteArray)]) ?_ 2 _ rfl; (with_reducible repeat (first | refine blk_drewN ?_ _ | refine blk_drew ?_ | refine blk_alloc ?_ _)); refine blk_put (cs := #[.int .i64 t152, .int .i64 0, .string (⟨#[]⟩ : ByteArray)]) ?_ 1 _ rfl; (with_reducible repeat (first | refine blk_drewN ?_ _ | refine blk_drew ?_ | refine blk_alloc ?_ _)); refine blk_put (cs := #[.int .i64 0, .int .i64 0, .string (⟨#[]⟩ : ByteArray)]) ?_ 0 _ rfl; (with_reducible repeat (first | refine blk_drewN ?_ _ | refine blk_drew ?_ | refine blk_alloc ?_ _)); exact BK150.out) Tryd.underlying23 rfl (by kernel_rfl)) rfl ?_
  exact ⟨by first | rfl | (simp [errW_none, errW_some] <;> rfl) | (simp [*, errW_none, errW_some] <;> rfl) | (simp [*, errW_none, errW_some]; exact (fun (l_ : List UInt8) => (by cases l_ <;> rfl : l_.isEmpty = !(l_ != []))) _), by repeat (first | (with_reducible first | exact HB.out | apply below_alloc | apply pw_below_drewN | apply below_drew1 | refine below_set ?_ GE148.out | refine below_set ?_ GE149.out | refine below_set ?_ GE150.out) | exact HB.out)⟩
end Go.Proofs.YtmdchbenalhpjaaDoor.Pr

-- WRITTEN BY hprint.py (a patched scratch copy of print.py, see NOTES.md): out of the translation and of contracts proved by hand.
namespace Go.Proofs.YtmdchbenalhpjaaDoor.Pr
open Go.RowKit Go.Proofs.YtmdchbenalhpjaaDoorW.PrintWords Go.Proofs.YtmdchbenalhpjaaDoorW.PrintLast Go.Proofs.YtmdchbenalhpjaaDoorW.PrintMore
set_option linter.unusedVariables false
set_option linter.unusedSimpArgs false
attribute [local go_sem high] eqA23
/-! ### value_makers_6: function 44 -/
def value_makers_6.f (k : Nat) (a0_0 : Int) (a0_1 : Int) (a0_2 : ByteArray) (a1_0 : Int) (a1_1 : Int) (a1_2 : ByteArray) : Option (Int × Int × ByteArray) := (value_truth.f k (a0_0 == a1_0 && (a0_1 == a1_1 && (a0_2.toList == a1_2.toList)))).bind fun bt158 => (some (bt158.1, bt158.2.1, bt158.2.2))
set_option maxHeartbeats 8000000 in
set_option maxRecDepth 100000 in
theorem value_makers_6.calls (k : Nat) (a0_0 : Int) (a0_1 : Int) (a0_2 : ByteArray) (a1_0 : Int) (a1_1 : Int) (a1_2 : ByteArray) (r1 : Int) (r2 : Int) (r3 : ByteArray) (w : World) (h : value_makers_6.f k a0_0 a0_1 a0_2 a1_0 a1_1 a1_2 = some (r1, r2, r3)) :
    Calls Tryd.prog 44 #[.agg #[.int .i64 a0_0, .int .i64 a0_1, .string a0_2], .agg #[.int .i64 a1_0, .int .i64 a1_1, .string a1_2]] w fun e w' => e = .returned (.agg #[.int .i64 r1, .int .i64 r2, .string r3]) ∧ Below w.heap.size w w' := by
  have hu23 := Tryd.underlying23
  have HB := Aside0.mk (Below.refl w.heap.size w)
  have H : ((value_truth.f k (a0_0 == a1_0 && (a0_1 == a1_1 && (a0_2.toList == a1_2.toList)))).bind fun bt158 => (some (bt158.1, bt158.2.1, bt158.2.2))) = some (r1, r2, r3) := h
  clear h
  replace H := Option.bind_eq_some_iff.mp H
  obtain ⟨⟨t158, t159, t160⟩, A30, H⟩ := H
  replace H : (some (t158, t159, t160)) = some (r1, r2, r3) := H
  have A3 := Aside0.mk A30
  clear A30
  simp only [Option.some.injEq, Prod.mk.injEq] at H
  obtain ⟨rfl, rfl, rfl⟩ := H
  go_enter Tryd.func44, Tryd.ntmps44
  go_wp2_with (first | ((with_reducible refine gate_dst (N := 2) rfl ?_); refine box_event ?hg (N := 2) ?hd (cs := #[.int .i64 a0_0, .int .i64 a0_1, .string a0_2]) (t := 23) ?hr ?_; (case hd => rfl); (case hg => rfl); (case hr => first | (go_simp; done) | (go_simp; rfl)); intro gb155 hg w4 hbox hb; have n0_ := Aside0.mk (below_step (by repeat (first | (with_reducible first | exact HB.out | apply below_alloc | apply pw_below_drewN | apply below_drew1) | exact HB.out)) hb); have n1_ := Aside0.mk (hbox); have n2_ := Aside0.mk ((by rw [hg]; exact (below_size (by repeat (first | (with_reducible first | exact HB.out | apply below_alloc | apply pw_below_drewN | apply below_drew1) | exact HB.out))) : w.heap.size ≤ gb155)); have n3_ := Aside0.mk ((by rw [hg]; exact (below_size (by repeat (first | (with_reducible first | exact HB.out | apply below_alloc | apply pw_below_drewN | apply below_drew1) | exact HB.out))) : w.heap.size ≤ gb155)); clear HB; have HB := n0_; have BK155 := n1_; have GW155 := n2_; have GE155 := n3_; clear n0_ n1_ n2_ n3_; clear hb hbox hg) | ((with_reducible refine gate_dst (N := 3) rfl ?_); refine box_event ?hg (N := 3) ?hd (cs := #[.int .i64 a1_0, .int .i64 a1_1, .string a1_2]) (t := 23) ?hr ?_; (case hd => rfl); (case hg => rfl); (case hr => first | (go_simp; done) | (go_simp; rfl)); intro gb156 hg w5 hbox hb; have n0_ := Aside0.mk (blk_below (g := gb155) (o := .cells #[.int .i64 a0_0, .int .i64 a0_1, .string a0_2] 23 (0, 0)) (by (with_reducible repeat (first | refine blk_drewN ?_ _ | refine blk_drew ?_ | refine blk_alloc ?_ _)); exact BK155.out) hb); have n1_ := Aside0.mk (below_step (by repeat (first | (with_reducible first | exact HB.out | apply below_alloc | apply pw_below_drewN | apply below_drew1 | refine below_set ?_ GE155.out) | exact HB.out)) hb); have n2_ := Aside0.mk (hbox); have n3_ := Aside0.mk ((by rw [hg]; exact (below_size (by repeat (first | (with_reducible first | exact HB.out | apply below_alloc | apply pw_below_drewN | apply below_drew1 | refine below_set ?_ GE155.out) | exact HB.out))) : w.heap.size ≤ gb156)); have n4_ := Aside0.mk ((by rw [hg]; exact (below_size (by repeat (first | (with_reducible first | exact HB.out | apply below_alloc | apply pw_below_drewN | apply below_drew1 | refine below_set ?_ GE155.out) | exact HB.out))) : w.heap.size ≤ gb156)); have n5_ := Aside0.mk ((by rw [hg]; exact Nat.ne_of_lt (blk_lt (g := gb155) (o := .cells #[.int .i64 a0_0, .int .i64 a0_1, .string a0_2] 23 (0, 0)) (by (with_reducible repeat (first | refine blk_drewN ?_ _ | refine blk_drew ?_ | refine blk_alloc ?_ _)); exact BK155.out)) : gb155 ≠ gb156)); have n6_ := Aside0.mk ((by rw [hg]; exact Nat.ne_of_gt (blk_lt (g := gb155) (o := .cells #[.int .i64 a0_0, .int .i64 a0_1, .string a0_2] 23 (0, 0)) (by (with_reducible repeat (first | refine blk_drewN ?_ _ | refine blk_drew ?_ | refine blk_alloc ?_ _)); exact BK155.out)) : gb156 ≠ gb155)); clear BK155; clear HB; have BK155 := n0_; have HB := n1_; have BK156 := n2_; have GW156 := n3_; have GE156 := n4_; have NB155_156 := n5_; have NB156_155 := n6_; clear n0_ n1_ n2_ n3_ n4_ n5_ n6_; clear hb hbox hg) | ((with_reducible refine gate_dst (N := 4) rfl ?_); refine box_event ?hg (N := 4) ?hd (cs := #[.int .i64 0, .int .i64 0, .string (⟨#[]⟩ : ByteArray)]) (t := 23) ?hr ?_; (case hd => rfl); (case hg => rfl); (case hr => first | (go_simp; done) | (go_simp; rfl)); intro gb157 hg w6 hbox hb; have n0_ := Aside0.mk (blk_below (g := gb155) (o := .cells #[.int .i64 a0_0, .int .i64 a0_1, .string a0_2] 23 (0, 0)) (by (with_reducible repeat (first | refine blk_drewN ?_ _ | refine blk_drew ?_ | refine blk_alloc ?_ _)); exact BK155.out) hb); have n1_ := Aside0.mk (blk_below (g := gb156) (o := .cells #[.int .i64 a1_0, .int .i64 a1_1, .string a1_2] 23 (0, 0)) (by (with_reducible repeat (first | refine blk_drewN ?_ _ | refine blk_drew ?_ | refine blk_alloc ?_ _)); exact BK156.out) hb); have n2_ := Aside0.mk (below_step (by repeat (first | (with_reducible first | exact HB.out | apply below_alloc | apply pw_below_drewN | apply below_drew1 | refine below_set ?_ GE155.out | refine below_set ?_ GE156.out) | exact HB.out)) hb); have n3_ := Aside0.mk (hbox); have n4_ := Aside0.mk ((by rw [hg]; exact (below_size (by repeat (first | (with_reducible first | exact HB.out | apply below_alloc | apply pw_below_drewN | apply below_drew1 | refine below_set ?_ GE155.out | refine below_set ?_ GE156.out) | exact HB.out))) : w.heap.size ≤ gb157)); have n5_ := Aside0.mk ((by rw [hg]; exact (below_size (by repeat (first | (with_reducible first | exact HB.out | apply below_alloc | apply pw_below_drewN | apply below_drew1 | refine below_set ?_ GE155.out | refine below_set ?_ GE156.out) | exact HB.out))) : w.heap.size ≤ gb157)); have n6_ := Aside0.mk ((by rw [hg]; exact Nat.ne_of_lt (blk_lt (g := gb155) (o := .cells #[.int .i64 a0_0, .int .i64 a0_1, .string a0_2] 23 (0, 0)) (by (with_reducible repeat (first | refine blk_drewN ?_ _ | refine blk_drew ?_ | refine blk_alloc ?_ _)); exact BK155.out)) : gb155 ≠ gb157)); have n7_ := Aside0.mk ((by rw [hg]; exact Nat.ne_of_gt (blk_lt (g := gb155) (o := .cells #[.int .i64 a0_0, .int .i64 a0_1, .string a0_2] 23 (0, 0)) (by (with_reducible repeat (first | refine blk_drewN ?_ _ | refine blk_drew ?_ | refine blk_alloc ?_ _)); exact BK155.out)) : gb157 ≠ gb155)); have n8_ := Aside0.mk ((by rw [hg]; exact Nat.ne_of_lt (blk_lt (g := gb156) (o := .cells #[.int .i64 a1_0, .int .i64 a1_1, .string a1_2] 23 (0, 0)) (by (with_reducible repeat (first | refine blk_drewN ?_ _ | refine blk_drew ?_ | refine blk_alloc ?_ _)); exact BK156.out)) : gb156 ≠ gb157)); have n9_ := Aside0.mk ((by rw [hg]; exact Nat.ne_of_gt (blk_lt (g := gb156) (o := .cells #[.int .i64 a1_0, .int .i64 a1_1, .string a1_2] 23 (0, 0)) (by (with_reducible repeat (first | refine blk_drewN ?_ _ | refine blk_drew ?_ | refine blk_alloc ?_ _)); exact BK156.out)) : gb157 ≠ gb156)); clear BK155; clear BK156; clear HB; have BK155 := n0_; have BK156 := n1_; have HB := n2_; have BK157 := n3_; have GW157 := n4_; have GE157 := n5_; have NB155_157 := n6_; have NB157_155 := n7_; have NB156_157 := n8_; have NB157_156 := n9_; clear n0_ n1_ n2_ n3_ n4_ n5_ n6_ n7_ n8_ n9_; clear hb hbox hg; have hnb7 := NB155_156.out; have hnc7 := NB156_155.out; have hnb8 := NB155_157.out; have hnc8 := NB157_155.out; have hcz9_0 : w6.cell? ⟨gb155, 0, none⟩ = some (.int .i64 a0_0) := (blk_cell BK155.out 0).trans rfl; have hcz9_1 : w6.cell? ⟨gb155, 1, none⟩ = some (.int .i64 a0_1) := (blk_cell BK155.out 1).trans rfl; have hcz9_2 : w6.cell? ⟨gb155, 2, none⟩ = some (.string a0_2) := (blk_cell BK155.out 2).trans rfl; have hfz9_0 := blk_frozen BK155.out 0; have hfz9_1 := blk_frozen BK155.out 1; have hfz9_2 := blk_frozen BK155.out 2; have hnb10 := NB156_157.out; have hnc10 := NB157_156.out; have hcz11_0 : w6.cell? ⟨gb156, 0, none⟩ = some (.int .i64 a1_0) := (blk_cell BK156.out 0).trans rfl; have hcz11_1 : w6.cell? ⟨gb156, 1, none⟩ = some (.int .i64 a1_1) := (blk_cell BK156.out 1).trans rfl; have hcz11_2 : w6.cell? ⟨gb156, 2, none⟩ = some (.string a1_2) := (blk_cell BK156.out 2).trans rfl; have hfz11_0 := blk_frozen BK156.out 0; have hfz11_1 := blk_frozen BK156.out 1; have hfz11_2 := blk_frozen BK156.out 2) | ((with_reducible refine gate_callee (f := 35) rfl ?_); refine goesL_ (some 8) rfl rfl Tryd.func35 (by kernel_rfl) rfl #[.bool (a0_0 == a1_0 && (a0_1 == a1_1 && (a0_2.toList == a1_2.toList)))] rfl (by (try simp only [List.map_toArray, List.map_cons, List.map_nil]); first | done | rfl | (simp only [List.length_drop, List.length_take]; rfl)) ?_; (with_reducible refine (value_truth.calls k (a0_0 == a1_0 && (a0_1 == a1_1 && (a0_2.toList == a1_2.toList))) t158 t159 t160 _ A3.out).mono ?_); rintro e w12 ⟨rfl, hb⟩; refine ⟨_, rfl, ?_⟩; have n0_ := Aside0.mk (blk_below (g := gb155) (o := .cells #[.int .i64 a0_0, .int .i64 a0_1, .string a0_2] 23 (0, 0)) (by (with_reducible repeat (first | refine blk_drewN ?_ _ | refine blk_drew ?_ | refine blk_alloc ?_ _)); exact BK155.out) hb); have n1_ := Aside0.mk (blk_below (g := gb156) (o := .cells #[.int .i64 a1_0, .int .i64 a1_1, .string a1_2] 23 (0, 0)) (by (with_reducible repeat (first | refine blk_drewN ?_ _ | refine blk_drew ?_ | refine blk_alloc ?_ _)); exact BK156.out) hb); have n2_ := Aside0.mk (blk_below (g := gb157) (o := .cells #[.int .i64 0, .int .i64 0, .string (⟨#[]⟩ : ByteArray)] 23 (0, 0)) (by (with_reducible repeat (first | refine blk_drewN ?_ _ | refine blk_drew ?_ | refine blk_alloc ?_ _)); exact BK157.out) hb); have n3_ := Aside0.mk (below_step (by repeat (first | (with_reducible first | exact HB.out | apply below_alloc | apply pw_below_drewN | apply below_drew1 | refine below_set ?_ GE155.out | refine below_set ?_ GE156.out | refine below_set ?_ GE157.out) | exact HB.out)) hb); clear BK155; clear BK156; clear BK157; clear HB; have BK155 := n0_; have BK156 := n1_; have BK157 := n2_; have HB := n3_; clear n0_ n1_ n2_ n3_; (try clear hb); (try clear hb2); (try clear hk); (try clear hi); have hcz13_0 : w12.cell? ⟨gb157, 0, none⟩ = some (.int .i64 0) := (blk_cell BK157.out 0).trans rfl; have hcz13_1 : w12.cell? ⟨gb157, 1, none⟩ = some (.int .i64 0) := (blk_cell BK157.out 1).trans rfl; have hcz13_2 : w12.cell? ⟨gb157, 2, none⟩ = some (.string (⟨#[]⟩ : ByteArray)) := (blk_cell BK157.out 2).trans rfl; have hfz13_0 := blk_frozen BK157.out 0; have hfz13_1 := blk_frozen BK157.out 1; have hfz13_2 := blk_frozen BK157.out 2))
  refine bodyPost_ret (results_cell_row rfl _ _ gb157 23 #[.int .i64 t158, .int .i64 t159, .string t160] (0, 0) _ rfl (by (with_reducible repeat (first | refine blk_drewN ?_ _ | refine blk_drew ?_ | refine blk_alloc ?_ _)); refine blk_put (cs := #[.int .i64 t158, .int .i64 t159, .string (⟨#[]⟩ : ByteArray)]) ?_ 2 _ rfl; (with_reducible repeat (first | refine blk_drewN ?_ _ | refine blk_drew ?_ | refine blk_alloc ?_ _)); refine blk_put (cs := #[.int .i64 t158, .int .i64 0, .string (⟨#[]⟩ : ByteArray)]) ?_ 1 _ rfl; (with_reducible repeat (first | refine blk_drewN ?_ _ | refine blk_drew ?_ | refine blk_alloc ?_ _)); refine blk_put (cs := #[.int .i64 0, .int .i64 0, .string (⟨#[]⟩ : ByteArray)]) ?_ 0 _ rfl; (with_reducible repeat (first | refine blk_drewN ?_ _ | refine blk_drew ?_ | refine blk_alloc ?_ _)); exact BK157.out) Tryd.underlying23 rfl (by kernel_rfl)) rfl ?_
  exact ⟨by first | rfl | (simp [errW_none, errW_some] <;> rfl) | (simp [*, errW_none, errW_some] <;> rfl) | (simp [*, errW_none, errW_some]; exact (fun (l_ : List UInt8) => (by cases l_ <;> rfl : l_.isEmpty = !(l_ != []))) _), by repeat (first | (with_reducible first | exact HB.out | apply below_alloc | apply pw_below_drewN | apply below_drew1 | refine below_set ?_ GE155.out | refine below_set ?_ GE156.out | refine below_set ?_ GE157.out) | exact HB.out)⟩
/-! ### value_makers_7: function 45 -/
def value_makers_7.f (k : Nat) (a0_0 : Int) (a0_1 : Int) (a0_2 : ByteArray) (a1_0 : Int) (a1_1 : Int) (a1_2 : ByteArray) : Option (Int × Int × ByteArray) := (value_truth.f k (!(a0_0 == a1_0) || (!(a0_1 == a1_1) || (!(a0_2.toList == a1_2.toList))))).bind fun bt164 => (some (bt164.1, bt164.2.1, bt164.2.2))
set_option maxHeartbeats 8000000 in
set_option maxRecDepth 100000 in
theorem value_makers_7.calls (k : Nat) (a0_0 : Int) (a0_1 : Int) (a0_2 : ByteArray) (a1_0 : Int) (a1_1 : Int) (a1_2 : ByteArray) (r1 : Int) (r2 : Int) (r3 : ByteArray) (w : World) (h : value_makers_7.f k a0_0 a0_1 a0_2 a1_0 a1_1 a1_2 = some (r1, r2, r3)) :
    Calls Tryd.prog 45 #[.agg #[.int .i64 a0_0, .int .i64 a0_1, .string a0_2], .agg #[.int .i64 a1_0, .int .i64 a1_1, .string a1_2]] w fun e w' => e = .returned (.agg #[.int .i64 r1, .int .i64 r2, .string r3]) ∧ Below w.heap.size w w' := by
  have hu23 := Tryd.underlying23
  have HB := Aside0.mk (Below.refl w.heap.size w)
  have H : ((value_truth.f k (!(a0_0 == a1_0) || (!(a0_1 == a1_1) || (!(a0_2.toList == a1_2.toList))))).bind fun bt164 => (some (bt164.1, bt164.2.1, bt164.2.2))) = some (r1, r2, r3) := h
  clear h
  replace H := Option.bind_eq_some_iff.mp H
  obtain ⟨⟨t164, t165, t166⟩, A30, H⟩ := H
  replace H : (some (t164, t165, t166)) = some (r1, r2, r3) := H
  have A3 := Aside0.mk A30
  clear A30
  simp only [Option.some.injEq, Prod.mk.injEq] at H
  obtain ⟨rfl, rfl, rfl⟩ := H
  go_enter Tryd.func45, Tryd.ntmps45
  go_wp2_with (first | ((with_reducible refine gate_dst (N := 2) rfl ?_); refine box_event ?hg (N := 2) ?hd (cs := #[.int .i64 a0_0, .int .i64 a0_1, .string a0_2]) (t := 23) ?hr ?_; (case hd => rfl); (case hg => rfl); (case hr => first | (go_simp; done) | (go_simp; rfl)); intro gb161 hg w4 hbox hb; have n0_ := Aside0.mk (below_step (by repeat (first | (with_reducible first | exact HB.out | apply below_alloc | apply pw_below_drewN | apply below_drew1) | exact HB.out)) hb); have n1_ := Aside0.mk (hbox); have n2_ := Aside0.mk ((by rw [hg]; exact (below_size (by repeat (first | (with_reducible first | exact HB.out | apply below_alloc | apply pw_below_drewN | apply below_drew1) | exact HB.out))) : w.heap.size ≤ gb161)); have n3_ := Aside0.mk ((by rw [hg]; exact (below_size (by repeat (first | (with_reducible first | exact HB.out | apply below_alloc | apply pw_below_drewN | apply below_drew1) | exact HB.out))) : w.heap.size ≤ gb161)); clear HB; have HB := n0_; have BK161 := n1_; have GW161 := n2_; have GE161 := n3_; clear n0_ n1_ n2_ n3_; clear hb hbox hg) | ((with_reducible refine gate_dst (N := 3) rfl ?_); refine box_event ?hg (N := 3) ?hd (cs := #[.int .i64 a1_0, .int .i64 a1_1, .string a1_2]) (t := 23) ?hr ?_; (case hd => rfl); (case hg => rfl); (case hr => first | (go_simp; done) | (go_simp; rfl)); intro gb162 hg w5 hbox hb; have n0_ := Aside0.mk (blk_below (g := gb161) (o := .cells #[.int .i64 a0_0, .int .i64 a0_1, .string a0_2] 23 (0, 0)) (by (with_reducible repeat (first | refine blk_drewN ?_ _ | refine blk_drew ?_ | refine blk_alloc ?_ _)); exact BK161.out) hb); have n1_ := Aside0.mk (below_step (by repeat (first | (with_reducible first | exact HB.out | apply below_alloc | apply pw_below_drewN | apply below_drew1 | refine below_set ?_ GE161.out) | exact HB.out)) hb); have n2_ := Aside0.mk (hbox); have n3_ := Aside0.mk ((by rw [hg]; exact (below_size (by repeat (first | (with_reducible first | exact HB.out | apply below_alloc | apply pw_below_drewN | apply below_drew1 | refine below_set ?_ GE161.out) | exact HB.out))) : w.heap.size ≤ gb162)); have n4_ := Aside0.mk ((by rw [hg]; exact (below_size (by repeat (first | (with_reducible first | exact HB.out | apply below_alloc | apply pw_below_drewN | apply below_drew1 | refine below_set ?_ GE161.out) | exact HB.out))) : w.heap.size ≤ gb162)); have n5_ := Aside0.mk ((by rw [hg]; exact Nat.ne_of_lt (blk_lt (g := gb161) (o := .cells #[.int .i64 a0_0, .int .i64 a0_1, .string a0_2] 23 (0, 0)) (by (with_reducible repeat (first | refine blk_drewN ?_ _ | refine blk_drew ?_ | refine blk_alloc ?_ _)); exact BK161.out)) : gb161 ≠ gb162)); have n6_ := Aside0.mk ((by rw [hg]; exact Nat.ne_of_gt (blk_lt (g := gb161) (o := .cells #[.int .i64 a0_0, .int .i64 a0_1, .string a0_2] 23 (0, 0)) (by (with_reducible repeat (first | refine blk_drewN ?_ _ | refine blk_drew ?_ | refine blk_alloc ?_ _)); exact BK161.out)) : gb162 ≠ gb161)); clear BK161; clear HB; have BK161 := n0_; have HB := n1_; have BK162 := n2_; have GW162 := n3_; have GE162 := n4_; have NB161_162 := n5_; have NB162_161 := n6_; clear n0_ n1_ n2_ n3_ n4_ n5_ n6_; clear hb hbox hg) | ((with_reducible refine gate_dst (N := 4) rfl ?_); refine box_event ?hg (N := 4) ?hd (cs := #[.int .i64 0, .int .i64 0, .string (⟨#[]⟩ : ByteArray)]) (t := 23) ?hr ?_; (case hd => rfl); (case hg => rfl); (case hr => first | (go_simp; done) | (go_simp; rfl)); intro gb163 hg w6 hbox hb; have n0_ := Aside0.mk (blk_below (g := gb161) (o := .cells #[.int .i64 a0_0, .int .i64 a0_1, .string a0_2] 23 (0, 0)) (by (with_reducible repeat (first | refine blk_drewN ?_ _ | refine blk_drew ?_ | refine blk_alloc ?_ _)); exact BK161.out) hb); have n1_ := Aside0.mk (blk_below (g := gb162) (o := .cells #[.int .i64 a1_0, .int .i64 a1_1, .string a1_2] 23 (0, 0)) (by (with_reducible repeat (first | refine blk_drewN ?_ _ | refine blk_drew ?_ | refine blk_alloc ?_ _)); exact BK162.out) hb); have n2_ := Aside0.mk (below_step (by repeat (first | (with_reducible first | exact HB.out | apply below_alloc | apply pw_below_drewN | apply below_drew1 | refine below_set ?_ GE161.out | refine below_set ?_ GE162.out) | exact HB.out)) hb); have n3_ := Aside0.mk (hbox); have n4_ := Aside0.mk ((by rw [hg]; exact (below_size (by repeat (first | (with_reducible first | exact HB.out | apply below_alloc | apply pw_below_drewN | apply below_drew1 | refine below_set ?_ GE161.out | refine below_set ?_ GE162.out) | exact HB.out))) : w.heap.size ≤ gb163)); have n5_ := Aside0.mk ((by rw [hg]; exact (below_size (by repeat (first | (with_reducible first | exact HB.out | apply below_alloc | apply pw_below_drewN | apply below_drew1 | refine below_set ?_ GE161.out | refine below_set ?_ GE162.out) | exact HB.out))) : w.heap.size ≤ gb163)); have n6_ := Aside0.mk ((by rw [hg]; exact Nat.ne_of_lt (blk_lt (g := gb161) (o := .cells #[.int .i64 a0_0, .int .i64 a0_1, .string a0_2] 23 (0, 0)) (by (with_reducible repeat (first | refine blk_drewN ?_ _ | refine blk_drew ?_ | refine blk_alloc ?_ _)); exact BK161.out)) : gb161 ≠ gb163)); have n7_ := Aside0.mk ((by rw [hg]; exact Nat.ne_of_gt (blk_lt (g := gb161) (o := .cells #[.int .i64 a0_0, .int .i64 a0_1, .string a0_2] 23 (0, 0)) (by (with_reducible repeat (first | refine blk_drewN ?_ _ | refine blk_drew ?_ | refine blk_alloc ?_ _)); exact BK161.out)) : gb163 ≠ gb161)); have n8_ := Aside0.mk ((by rw [hg]; exact Nat.ne_of_lt (blk_lt (g := gb162) (o := .cells #[.int .i64 a1_0, .int .i64 a1_1, .string a1_2] 23 (0, 0)) (by (with_reducible repeat (first | refine blk_drewN ?_ _ | refine blk_drew ?_ | refine blk_alloc ?_ _)); exact BK162.out)) : gb162 ≠ gb163)); have n9_ := Aside0.mk ((by rw [hg]; exact Nat.ne_of_gt (blk_lt (g := gb162) (o := .cells #[.int .i64 a1_0, .int .i64 a1_1, .string a1_2] 23 (0, 0)) (by (with_reducible repeat (first | refine blk_drewN ?_ _ | refine blk_drew ?_ | refine blk_alloc ?_ _)); exact BK162.out)) : gb163 ≠ gb162)); clear BK161; clear BK162; clear HB; have BK161 := n0_; have BK162 := n1_; have HB := n2_; have BK163 := n3_; have GW163 := n4_; have GE163 := n5_; have NB161_163 := n6_; have NB163_161 := n7_; have NB162_163 := n8_; have NB163_162 := n9_; clear n0_ n1_ n2_ n3_ n4_ n5_ n6_ n7_ n8_ n9_; clear hb hbox hg; have hnb7 := NB161_162.out; have hnc7 := NB162_161.out; have hnb8 := NB161_163.out; have hnc8 := NB163_161.out; have hcz9_0 : w6.cell? ⟨gb161, 0, none⟩ = some (.int .i64 a0_0) := (blk_cell BK161.out 0).trans rfl; have hcz9_1 : w6.cell? ⟨gb161, 1, none⟩ = some (.int .i64 a0_1) := (blk_cell BK161.out 1).trans rfl; have hcz9_2 : w6.cell? ⟨gb161, 2, none⟩ = some (.string a0_2) := (blk_cell BK161.out 2).trans rfl; have hfz9_0 := blk_frozen BK161.out 0; have hfz9_1 := blk_frozen BK161.out 1; have hfz9_2 := blk_frozen BK161.out 2; have hnb10 := NB162_163.out; have hnc10 := NB163_162.out; have hcz11_0 : w6.cell? ⟨gb162, 0, none⟩ = some (.int .i64 a1_0) := (blk_cell BK162.out 0).trans rfl; have hcz11_1 : w6.cell? ⟨gb162, 1, none⟩ = some (.int .i64 a1_1) := (blk_cell BK162.out 1).trans rfl; have hcz11_2 : w6.cell? ⟨gb162, 2, none⟩ = some (.string a1_2) := (blk_cell BK162.out 2).trans rfl; have hfz11_0 := blk_frozen BK162.out 0; have hfz11_1 := blk_frozen BK162.out 1; have hfz11_2 := blk_frozen BK162.out 2) | ((with_reducible refine gate_callee (f := 35) rfl ?_); refine goesL_ (some 8) rfl rfl Tryd.func35 (by kernel_rfl) rfl #[.bool (!(a0_0 == a1_0) || (!(a0_1 == a1_1) || (!(a0_2.toList == a1_2.toList))))] rfl (by (try simp only [List.map_toArray, List.map_cons, List.map_nil]); first | done | rfl | (simp only [List.length_drop, List.length_take]; rfl)) ?_; (with_reducible refine (value_truth.calls k (!(a0_0 == a1_0) || (!(a0_1 == a1_1) || (!(a0_2.toList == a1_2.toList)))) t164 t165 t166 _ A3.out).mono ?_); rintro e w12 ⟨rfl, hb⟩; refine ⟨_, rfl, ?_⟩; have n0_ := Aside0.mk (blk_below (g := gb161) (o := .cells #[.int .i64 a0_0, .int .i64 a0_1, .string a0_2] 23 (0, 0)) (by (with_reducible repeat (first | refine blk_drewN ?_ _ | refine blk_drew ?_ | refine blk_alloc ?_ _)); exact BK161.out) hb); have n1_ := Aside0.mk (blk_below (g := gb162) (o := .cells #[.int .i64 a1_0, .int .i64 a1_1, .string a1_2] 23 (0, 0)) (by (with_reducible repeat (first | refine blk_drewN ?_ _ | refine blk_drew ?_ | refine blk_alloc ?_ _)); exact BK162.out) hb); have n2_ := Aside0.mk (blk_below (g := gb163) (o := .cells #[.int .i64 0, .int .i64 0, .string (⟨#[]⟩ : ByteArray)] 23 (0, 0)) (by (with_reducible repeat (first | refine blk_drewN ?_ _ | refine blk_drew ?_ | refine blk_alloc ?_ _)); exact BK163.out) hb); have n3_ := Aside0.mk (below_step (by repeat (first | (with_reducible first | exact HB.out | apply below_alloc | apply pw_below_drewN | apply below_drew1 | refine below_set ?_ GE161.out | refine below_set ?_ GE162.out | refine below_set ?_ GE163.out) | exact HB.out)) hb); clear BK161; clear BK162; clear BK163; clear HB; have BK161 := n0_; have BK162 := n1_; have BK163 := n2_; have HB := n3_; clear n0_ n1_ n2_ n3_; (try clear hb); (try clear hb2); (try clear hk); (try clear hi); have hcz13_0 : w12.cell? ⟨gb163, 0, none⟩ = some (.int .i64 0) := (blk_cell BK163.out 0).trans rfl; have hcz13_1 : w12.cell? ⟨gb163, 1, none⟩ = some (.int .i64 0) := (blk_cell BK163.out 1).trans rfl; have hcz13_2 : w12.cell? ⟨gb163, 2, none⟩ = some (.string (⟨#[]⟩ : ByteArray)) := (blk_cell BK163.out 2).trans rfl; have hfz13_0 := blk_frozen BK163.out 0; have hfz13_1 := blk_frozen BK163.out 1; have hfz13_2 := blk_frozen BK163.out 2))
  refine bodyPost_ret (results_cell_row rfl _ _ gb163 23 #[.int .i64 t164, .int .i64 t165, .string t166] (0, 0) _ rfl (by (with_reducible repeat (first | refine blk_drewN ?_ _ | refine blk_drew ?_ | refine blk_alloc ?_ _)); refine blk_put (cs := #[.int .i64 t164, .int .i64 t165, .string (⟨#[]⟩ : ByteArray)]) ?_ 2 _ rfl; (with_reducible repeat (first | refine blk_drewN ?_ _ | refine blk_drew ?_ | refine blk_alloc ?_ _)); refine blk_put (cs := #[.int .i64 t164, .int .i64 0, .string (⟨#[]⟩ : ByteArray)]) ?_ 1 _ rfl; (with_reducible repeat (first | refine blk_drewN ?_ _ | refine blk_drew ?_ | refine blk_alloc ?_ _)); refine blk_put (cs := #[.int .i64 0, .int .i64 0, .string (⟨#[]⟩ : ByteArray)]) ?_ 0 _ rfl; (with_reducible repeat (first | refine blk_drewN ?_ _ | refine blk_drew ?_ | refine blk_alloc ?_ _)); exact BK163.out) Tryd.underlying23 rfl (by kernel_rfl)) rfl ?_
  exact ⟨by first | rfl | (simp [errW_none, errW_some] <;> rfl) | (simp [*, errW_none, errW_some] <;> rfl) | (simp [*, errW_none, errW_some]; exact (fun (l_ : List UInt8) => (by cases l_ <;> rfl : l_.isEmpty = !(l_ != []))) _), by repeat (first | (with_reducible first | exact HB.out | apply below_alloc | apply pw_below_drewN | apply below_drew1 | refine below_set ?_ GE161.out | refine below_set ?_ GE162.out | refine below_set ?_ GE163.out) | exact HB.out)⟩
end Go.Proofs.YtmdchbenalhpjaaDoor.Pr

/- value.Two. No condition. -/
namespace Go.Proofs.YtmdchbenalhpjaaDoor.Va
open Go.RowKit Go.Proofs.YtmdchbenalhpjaaDoorW.PrintWords Go.Proofs.YtmdchbenalhpjaaDoorW.PrintLast Go.Proofs.YtmdchbenalhpjaaDoorW.PrintMore Go.Proofs.YtmdchbenalhpjaaDoor.Pr
set_option linter.unusedVariables false
set_option linter.unusedSimpArgs false
abbrev VR := Int × Int × ByteArray
def mkf (k n : Nat) (a0 a1 : Int) (a2 : ByteArray) (b0 b1 : Int) (b2 : ByteArray) : Option VR :=
  if n = 38 then value_makers_1.f k a0 a1 a2 b0 b1 b2 else if n = 39 then value_makers_2.f a0 a1 a2 b0 b1 b2 else if n = 40 then value_makers_3.f a0 a1 a2 b0 b1 b2
  else if n = 41 then value_makers_4.f k a0 a1 a2 b0 b1 b2 else if n = 43 then value_makers_5.f k a0 a1 a2 b0 b1 b2 else if n = 44 then value_makers_6.f k a0 a1 a2 b0 b1 b2
  else if n = 45 then value_makers_7.f k a0 a1 a2 b0 b1 b2 else none
theorem mkf_calls (k n : Nat) (a0 a1 : Int) (a2 : ByteArray) (b0 b1 : Int) (b2 : ByteArray) (r1 r2 : Int) (r3 : ByteArray) (w : World) (hL : Laid w) (h : mkf k n a0 a1 a2 b0 b1 b2 = some (r1, r2, r3)) :
    Calls Tryd.prog n #[.agg #[.int .i64 a0, .int .i64 a1, .string a2], .agg #[.int .i64 b0, .int .i64 b1, .string b2]] w fun e w' => e = .returned (.agg #[.int .i64 r1, .int .i64 r2, .string r3]) ∧ Below w.heap.size w w' := by
  unfold mkf at h
  by_cases h1 : n = 38
  · subst h1; rw [if_pos rfl] at h; exact value_makers_1.calls k a0 a1 a2 b0 b1 b2 r1 r2 r3 w hL h
  rw [if_neg h1] at h
  by_cases h2 : n = 39
  · subst h2; rw [if_pos rfl] at h; exact value_makers_2.calls  a0 a1 a2 b0 b1 b2 r1 r2 r3 w hL h
  rw [if_neg h2] at h
  by_cases h3 : n = 40
  · subst h3; rw [if_pos rfl] at h; exact value_makers_3.calls  a0 a1 a2 b0 b1 b2 r1 r2 r3 w hL h
  rw [if_neg h3] at h
  by_cases h4 : n = 41
  · subst h4; rw [if_pos rfl] at h; exact value_makers_4.calls k a0 a1 a2 b0 b1 b2 r1 r2 r3 w hL h
  rw [if_neg h4] at h
  by_cases h5 : n = 43
  · subst h5; rw [if_pos rfl] at h; exact value_makers_5.calls k a0 a1 a2 b0 b1 b2 r1 r2 r3 w hL h
  rw [if_neg h5] at h
  by_cases h6 : n = 44
  · subst h6; rw [if_pos rfl] at h; exact value_makers_6.calls k a0 a1 a2 b0 b1 b2 r1 r2 r3 w  h
  rw [if_neg h6] at h
  by_cases h7 : n = 45
  · subst h7; rw [if_pos rfl] at h; exact value_makers_7.calls k a0 a1 a2 b0 b1 b2 r1 r2 r3 w  h
  rw [if_neg h7] at h
  cases h
theorem sign_cases {l : List UInt8} {n : Nat} (h : sign l = some n) : n = 38 ∨ n = 39 ∨ n = 40 ∨ n = 41 ∨ n = 43 ∨ n = 44 ∨ n = 45 := by
  unfold sign at h
  repeat' split at h
  all_goals first | (injection h with h; omega) | cases h
theorem enters {n : Nat} {fn : Func} (hf : Tryd.prog.funcs[n]? = some fn) (hn : (fn.name == "runtime.NumGoroutine") = false) (hb : fn.body.isNone = false) (args : Array Value) (W : World) : (callFunc n args).run Tryd.prog W = .ok (.enter n args) W := by
  have hn' : ¬ fn.name = "runtime.NumGoroutine" := by simpa using hn
  have hb' : ¬ fn.body = none := fun e => by rw [e] at hb; cases hb
  unfold callFunc
  simp [go_sem, hf, hn', hb']
theorem callFunc_ok {l : List UInt8} {n : Nat} (h : sign l = some n) (args : Array Value) (W : World) : (callFunc n args).run Tryd.prog W = .ok (.enter n args) W := by
  rcases sign_cases h with rfl | rfl | rfl | rfl | rfl | rfl | rfl
  · exact enters Tryd.func38 (by kernel_rfl) (by kernel_rfl) args W
  · exact enters Tryd.func39 (by kernel_rfl) (by kernel_rfl) args W
  · exact enters Tryd.func40 (by kernel_rfl) (by kernel_rfl) args W
  · exact enters Tryd.func41 (by kernel_rfl) (by kernel_rfl) args W
  · exact enters Tryd.func43 (by kernel_rfl) (by kernel_rfl) args W
  · exact enters Tryd.func44 (by kernel_rfl) (by kernel_rfl) args W
  · exact enters Tryd.func45 (by kernel_rfl) (by kernel_rfl) args W
theorem three_boxes (w : World) (O1 O2 O3 : Obj) : (((w.alloc O1).alloc O2).alloc O3).heap[w.heap.size]? = some O1 ∧ (((w.alloc O1).alloc O2).alloc O3).heap[w.heap.size + 1]? = some O2 ∧ (((w.alloc O1).alloc O2).alloc O3).heap[w.heap.size + 1 + 1]? = some O3 ∧ Below w.heap.size w (((w.alloc O1).alloc O2).alloc O3) := by
  have h1 : (w.alloc O1).heap[w.heap.size]? = some O1 := heap_alloc_new w O1
  have h2 : ((w.alloc O1).alloc O2).heap[w.heap.size + 1]? = some O2 := by have := heap_alloc_new (w.alloc O1) O2; simpa using this
  have h3 : (((w.alloc O1).alloc O2).alloc O3).heap[w.heap.size + 1 + 1]? = some O3 := by have := heap_alloc_new ((w.alloc O1).alloc O2) O3; simpa using this
  exact ⟨blk_alloc (blk_alloc h1 _) _, blk_alloc h2 _, h3, below_alloc (below_alloc (below_alloc (Below.refl _ _) _) _) _⟩
def value_Two.f (k : Nat) (s : ByteArray) (a0 a1 : Int) (a2 : ByteArray) (b0 b1 : Int) (b2 : ByteArray) : Option (Int × Int × ByteArray × Int) :=
  if s.size ≤ maxLen then match sign s.data.toList with
    | none => some (0, 0, ⟨#[]⟩, 60)
    | some n => (mkf k n a0 a1 a2 b0 b1 b2).bind fun r => if r.2.2.size ≤ 9223372036854775807 then (if 65536 < r.2.2.size then some (0, 0, ⟨#[]⟩, 61) else some (r.1, r.2.1, r.2.2, 0)) else none
  else none
set_option maxHeartbeats 4000000 in
set_option maxRecDepth 100000 in
theorem value_Two.calls (k : Nat) (a0 : ByteArray) (a1_0 a1_1 : Int) (a1_2 : ByteArray) (a2_0 a2_1 : Int) (a2_2 : ByteArray) (r1 r2 : Int) (r3 : ByteArray) (r4 : Int) (w : World) (hL : Laid w) (h : value_Two.f k a0 a1_0 a1_1 a1_2 a2_0 a2_1 a2_2 = some (r1, r2, r3, r4)) :
    Calls Tryd.prog 13 #[.string a0, .agg #[.int .i64 a1_0, .int .i64 a1_1, .string a1_2], .agg #[.int .i64 a2_0, .int .i64 a2_1, .string a2_2]] w fun e w' => e = .returned (.tuple #[.agg #[.int .i64 r1, .int .i64 r2, .string r3], .int .i64 r4]) ∧ Below w.heap.size w w' := by
  unfold value_Two.f at h
  by_cases hs : a0.size ≤ maxLen
  case neg => rw [if_neg hs] at h; cases h
  rw [if_pos hs] at h
  have HL := Aside0.mk hL
  have HS := Aside0.mk hs
  have HM := Aside0.mk (fun W => makers_calls W)
  clear hL hs
  cases hsg : sign a0.data.toList with
  | none =>
    rw [hsg] at h
    simp only [Option.some.injEq, Prod.mk.injEq] at h
    obtain ⟨rfl, rfl, rfl, rfl⟩ := h
    have HSG := Aside0.mk hsg
    clear hsg
    go_enter Tryd.func13, Tryd.ntmps13
    go_wp2_with (go_at_call 28; refine (HM.out _).mono ?_; rintro e w1 ⟨b, rfl, hS, hb⟩; have HB1 := Aside0.mk (below_step (three_boxes w _ _ _).2.2.2 hb); have BK := Aside0.mk (blk_below (three_boxes w _ _ _).2.2.1 hb); obtain ⟨v, hlk, hv⟩ := hS a0 HS.out; rw [HSG.out] at hlk; have hfz0 := blk_frozen BK.out 0; have hfz1 := blk_frozen BK.out 1; have hfz2 := blk_frozen BK.out 2; have hc0 := (blk_cell BK.out 0).trans rfl; have hc1 := (blk_cell BK.out 1).trans rfl; have hc2 := (blk_cell BK.out 2).trans rfl; clear hS hb hv)
    refine bodyPost_ret (results_ct rfl _ _ (w.heap.size + 1 + 1) 23 #[.int .i64 0, .int .i64 0, .string (⟨#[]⟩ : ByteArray)] (0, 0) _ rfl (blk_set (blk_set (blk_set BK.out 0 _) 1 _) 2 _) Tryd.underlying23 rfl (by kernel_rfl)) rfl ⟨rfl, ?_⟩
    exact below_set (below_set (below_set HB1.out (by omega)) (by omega)) (by omega)
  | some n =>
    rw [hsg] at h
    have h' : (mkf k n a1_0 a1_1 a1_2 a2_0 a2_1 a2_2).bind (fun r => if r.2.2.size ≤ 9223372036854775807 then (if 65536 < r.2.2.size then some (0, 0, (⟨#[]⟩ : ByteArray), 61) else some (r.1, r.2.1, r.2.2, 0)) else none) = some (r1, r2, r3, r4) := h
    clear h
    obtain ⟨⟨q1, q2, q3⟩, hq, h⟩ := Option.bind_eq_some_iff.1 h'
    clear h'
    have HQ := Aside0.mk hq
    have HSG := Aside0.mk hsg
    have hcf := callFunc_ok hsg
    clear hsg hq
    by_cases hz : q3.size ≤ 9223372036854775807
    case neg => rw [if_neg (show ¬ (q1, q2, q3).2.2.size ≤ 9223372036854775807 from hz)] at h; cases h
    rw [if_pos (show (q1, q2, q3).2.2.size ≤ 9223372036854775807 from hz)] at h
    by_cases h65 : 65536 < q3.size
    · rw [if_pos (show 65536 < (q1, q2, q3).2.2.size from h65)] at h
      simp only [Option.some.injEq, Prod.mk.injEq] at h
      obtain ⟨rfl, rfl, rfl, rfl⟩ := h
      have hgt : (65536 : Int) < (q3.size : Int) := by omega
      go_enter Tryd.func13, Tryd.ntmps13
      go_wp2_with (first | (go_at_call 28; refine (HM.out _).mono ?_; rintro e w1 ⟨b, rfl, hS, hb⟩; have HB1 := Aside0.mk (below_step (three_boxes w _ _ _).2.2.2 hb); have BA := Aside0.mk (blk_below (three_boxes w _ _ _).1 hb); have BB := Aside0.mk (blk_below (three_boxes w _ _ _).2.1 hb); have BK := Aside0.mk (blk_below (three_boxes w _ _ _).2.2.1 hb); obtain ⟨v, hlk, hv⟩ := hS a0 HS.out; obtain rfl := hv n HSG.out; rw [HSG.out] at hlk; unfold fv at hlk; have ha0 := (blk_cell BA.out 0).trans rfl; have ha1 := (blk_cell BA.out 1).trans rfl; have ha2 := (blk_cell BA.out 2).trans rfl; have hb0 := (blk_cell BB.out 0).trans rfl; have hb1 := (blk_cell BB.out 1).trans rfl; have hb2 := (blk_cell BB.out 2).trans rfl; clear hS hb hv) | (refine (mkf_calls k n a1_0 a1_1 a1_2 a2_0 a2_1 a2_2 q1 q2 q3 w1 (HL.out.below HB1.out) HQ.out).mono ?_; rintro e w2 ⟨rfl, hb⟩; have HB2 := Aside0.mk (below_step HB1.out hb); have BK2 := Aside0.mk (blk_alloc (blk_below BK.out hb) (.cells #[.int .i64 q1, .int .i64 q2, .string q3] 23)); have hfz0 := blk_frozen BK2.out 0; have hfz1 := blk_frozen BK2.out 1; have hfz2 := blk_frozen BK2.out 2; have hc0 := (blk_cell BK2.out 0).trans rfl; have hc1 := (blk_cell BK2.out 1).trans rfl; have hc2 := (blk_cell BK2.out 2).trans rfl; clear hb))
      refine bodyPost_ret (results_ct rfl _ _ (w.heap.size + 1 + 1) 23 #[.int .i64 0, .int .i64 0, .string (⟨#[]⟩ : ByteArray)] (0, 0) _ rfl (blk_set (blk_set (blk_set BK2.out 0 _) 1 _) 2 _) Tryd.underlying23 rfl (by kernel_rfl)) rfl ⟨rfl, ?_⟩
      exact below_set (below_set (below_set (below_alloc HB2.out _) (by omega)) (by omega)) (by omega)
    · rw [if_neg (show ¬ 65536 < (q1, q2, q3).2.2.size from h65)] at h
      simp only [Option.some.injEq, Prod.mk.injEq] at h
      obtain ⟨rfl, rfl, rfl, rfl⟩ := h
      have hgt : ¬ (65536 : Int) < (q3.size : Int) := by omega
      go_enter Tryd.func13, Tryd.ntmps13
      go_wp2_with (first | (go_at_call 28; refine (HM.out _).mono ?_; rintro e w1 ⟨b, rfl, hS, hb⟩; have HB1 := Aside0.mk (below_step (three_boxes w _ _ _).2.2.2 hb); have BA := Aside0.mk (blk_below (three_boxes w _ _ _).1 hb); have BB := Aside0.mk (blk_below (three_boxes w _ _ _).2.1 hb); have BK := Aside0.mk (blk_below (three_boxes w _ _ _).2.2.1 hb); obtain ⟨v, hlk, hv⟩ := hS a0 HS.out; obtain rfl := hv n HSG.out; rw [HSG.out] at hlk; unfold fv at hlk; have ha0 := (blk_cell BA.out 0).trans rfl; have ha1 := (blk_cell BA.out 1).trans rfl; have ha2 := (blk_cell BA.out 2).trans rfl; have hb0 := (blk_cell BB.out 0).trans rfl; have hb1 := (blk_cell BB.out 1).trans rfl; have hb2 := (blk_cell BB.out 2).trans rfl; clear hS hb hv) | (refine (mkf_calls k n a1_0 a1_1 a1_2 a2_0 a2_1 a2_2 q1 q2 q3 w1 (HL.out.below HB1.out) HQ.out).mono ?_; rintro e w2 ⟨rfl, hb⟩; have HB2 := Aside0.mk (below_step HB1.out hb); have BK2 := Aside0.mk (blk_alloc (blk_below BK.out hb) (.cells #[.int .i64 q1, .int .i64 q2, .string q3] 23)); have hfz0 := blk_frozen BK2.out 0; have hfz1 := blk_frozen BK2.out 1; have hfz2 := blk_frozen BK2.out 2; have hc0 := (blk_cell BK2.out 0).trans rfl; have hc1 := (blk_cell BK2.out 1).trans rfl; have hc2 := (blk_cell BK2.out 2).trans rfl; clear hb))
      refine bodyPost_ret (results_ct rfl _ _ (w.heap.size + 1 + 1) 23 #[.int .i64 q1, .int .i64 q2, .string q3] (0, 0) _ rfl (blk_set (blk_set (blk_set BK2.out 0 _) 1 _) 2 _) Tryd.underlying23 rfl (by kernel_rfl)) rfl ⟨rfl, ?_⟩
      exact below_set (below_set (below_set (below_alloc HB2.out _) (by omega)) (by omega)) (by omega)
end Go.Proofs.YtmdchbenalhpjaaDoor.Va

/- How two values stand, and what value.Two makes of them: closed forms. No condition. -/
namespace Go.Proofs.YtmdchbenalhpjaaDoor.Va
open Go.RowKit Go.Proofs.YtmdchbenalhpjaaDoorW.PrintWords Go.Proofs.YtmdchbenalhpjaaDoorW.PrintLast Go.Proofs.YtmdchbenalhpjaaDoorW.PrintMore Go.Proofs.YtmdchbenalhpjaaDoor.Pr Go.Proofs.YtmdchbenalhpjaaDoor.Ev
set_option linter.unusedVariables false
set_option linter.unusedSimpArgs false
structure Fits (a : VR) : Prop where
  num : I64 a.2.1
  size : a.2.2.size ≤ 140737488355328
def cmpS (a b : VR) : Int :=
  if a.1 = 4 ∧ b.1 = 4 then (if Op.bytesLess a.2.2.toList b.2.2.toList = true then -1 else if (a.2.2.toList == b.2.2.toList) = true then 0 else 1)
  else (if numS a.1 a.2.1 a.2.2 < numS b.1 b.2.1 b.2.2 then -1 else if numS a.1 a.2.1 a.2.2 > numS b.1 b.2.1 b.2.2 then 1 else 0)
theorem vcmp_tells (a b : VR) (ha : Fits a) (hb : Fits b) : value_compared.f 6 a.1 a.2.1 a.2.2 b.1 b.2.1 b.2.2 = some (cmpS a b) := by
  obtain ⟨a0, a1, a2⟩ := a
  obtain ⟨b0, b1, b2⟩ := b
  have h1 := vnum_tells a0 a1 a2 (by have := ha.size; simp only at this; omega)
  have h2 := vnum_tells b0 b1 b2 (by have := hb.size; simp only at this; omega)
  unfold cmpS
  simp only
  unfold value_compared.f
  by_cases ka : a0 = 4
  · rw [if_pos ka]
    by_cases kb : b0 = 4
    · rw [if_pos ⟨ka, kb⟩, show (b0 == 4) = true from beq_iff_eq.mpr kb]
      simp [value_compared.j0, cmp_Compare_string.f]
    · rw [if_neg (fun h => kb h.2), show (b0 == 4) = false from beq_eq_false_iff_ne.mpr kb]
      simp only [value_compared.j0, h1, h2, Option.bind_some, cmp_Compare_int64.f, cmp_isNaN_int64.f]
      simp
      repeat' split
      all_goals first | rfl | omega
  · rw [if_neg ka, if_neg (fun h => ka h.1)]
    simp only [value_compared.j0, h1, h2, Option.bind_some, cmp_Compare_int64.f, cmp_isNaN_int64.f]
    simp
    repeat' split
    all_goals first | rfl | omega
def boolS (b : Bool) : VR := (2, if b then 1 else 0, ⟨#[]⟩)
theorem truth_tells (b : Bool) : value_truth.f 6 b = some (boolS b) := by
  unfold value_truth.f boolS
  cases b <;> rfl
theorem keyS_size (K N : Int) (S : ByteArray) (hN : I64 N) : (keyS K N S).size ≤ S.size + 30 := by
  have hl := (itoa_len N hN).2
  have c1 : (⟨#[117, 110, 100, 101, 102, 105, 110, 101, 100]⟩ : ByteArray).size = 9 := rfl
  have c2 : (⟨#[110, 117, 108, 108]⟩ : ByteArray).size = 4 := rfl
  have c3 : (⟨#[116, 114, 117, 101]⟩ : ByteArray).size = 4 := rfl
  have c4 : (⟨#[102, 97, 108, 115, 101]⟩ : ByteArray).size = 5 := rfl
  have c5 : (⟨(Lib.itoa N).toArray⟩ : ByteArray).size = (Lib.itoa N).length := rfl
  have c6 : (⟨#[91, 111, 98, 106, 101, 99, 116, 93]⟩ : ByteArray).size = 8 := rfl
  unfold keyS
  repeat' split
  all_goals omega
def eqS (a b : VR) : Bool := a.1 == b.1 && (a.2.1 == b.2.1 && (a.2.2.toList == b.2.2.toList))
def mkS (n : Nat) (a b : VR) : VR :=
  if n = 38 then (if a.1 = 4 ∨ b.1 = 4 then (4, 0, keyS a.1 a.2.1 a.2.2 ++ keyS b.1 b.2.1 b.2.2) else (3, wrap64 (numS a.1 a.2.1 a.2.2 + numS b.1 b.2.1 b.2.2), ⟨#[]⟩))
  else if n = 39 then (3, wrap64 (numS a.1 a.2.1 a.2.2 - numS b.1 b.2.1 b.2.2), ⟨#[]⟩)
  else if n = 40 then (3, wrap64 (numS a.1 a.2.1 a.2.2 * numS b.1 b.2.1 b.2.2), ⟨#[]⟩)
  else if n = 41 then boolS (decide (cmpS a b < 0))
  else if n = 43 then boolS (decide (cmpS a b ≤ 0))
  else if n = 44 then boolS (eqS a b)
  else boolS (!eqS a b)
theorem mk_tells (n : Nat) (a b : VR) (ha : Fits a) (hb : Fits b) (hn : n = 38 ∨ n = 39 ∨ n = 40 ∨ n = 41 ∨ n = 43 ∨ n = 44 ∨ n = 45) :
    mkf 6 n a.1 a.2.1 a.2.2 b.1 b.2.1 b.2.2 = some (mkS n a b) := by
  have hc := vcmp_tells a b ha hb
  obtain ⟨a0, a1, a2⟩ := a
  obtain ⟨b0, b1, b2⟩ := b
  have h1 := vnum_tells a0 a1 a2 (by have := ha.size; simp only at this; omega)
  have h2 := vnum_tells b0 b1 b2 (by have := hb.size; simp only at this; omega)
  have k1 := vkey_tells a0 a1 a2 ha.num
  have k2 := vkey_tells b0 b1 b2 hb.num
  have z1 := keyS_size a0 a1 a2 ha.num
  have z2 := keyS_size b0 b1 b2 hb.num
  have sa : a2.size ≤ 140737488355328 := ha.size
  have sb : b2.size ≤ 140737488355328 := hb.size
  simp only at hc
  unfold mkf mkS
  simp only
  rcases hn with rfl | rfl | rfl | rfl | rfl | rfl | rfl
  · rw [if_pos rfl, if_pos rfl]
    unfold value_makers_1.f
    by_cases ka : a0 = 4
    · rw [if_pos ka, if_pos (.inl ka)]
      simp only [value_makers_1.j0, k1, k2, Option.bind_some, if_true]
      rw [if_pos (by omega)]
    · rw [if_neg ka]
      by_cases kb : b0 = 4
      · rw [if_pos (.inr kb), show (b0 == 4) = true from beq_iff_eq.mpr kb]
        simp only [value_makers_1.j0, k1, k2, Option.bind_some, if_true]
        rw [if_pos (by omega)]
      · rw [if_neg (by omega), show (b0 == 4) = false from beq_eq_false_iff_ne.mpr kb]
        simp [value_makers_1.j0, h1, h2, value_number.f]
  · simp [value_makers_2.f, h1, h2, value_number.f]
  · simp [value_makers_3.f, h1, h2, value_number.f]
  · simp [value_makers_4.f, hc, truth_tells, boolS]
  · simp [value_makers_5.f, hc, truth_tells, boolS]
  · simp [value_makers_6.f, truth_tells, boolS, eqS]
  · simp [value_makers_7.f, truth_tells, boolS, eqS]
def twoS (s : List UInt8) (a b : VR) : VR × Int := match sign s with
  | none => ((0, 0, ⟨#[]⟩), 60)
  | some n => if 65536 < (mkS n a b).2.2.size then ((0, 0, ⟨#[]⟩), 61) else (mkS n a b, 0)
theorem mkS_size (n : Nat) (a b : VR) (ha : Fits a) (hb : Fits b) : (mkS n a b).2.2.size ≤ 9223372036854775807 := by
  have z1 := keyS_size a.1 a.2.1 a.2.2 ha.num
  have z2 := keyS_size b.1 b.2.1 b.2.2 hb.num
  have sa := ha.size
  have sb := hb.size
  have e0 : (⟨#[]⟩ : ByteArray).size = 0 := rfl
  have e1 : (keyS a.1 a.2.1 a.2.2 ++ keyS b.1 b.2.1 b.2.2).size = (keyS a.1 a.2.1 a.2.2).size + (keyS b.1 b.2.1 b.2.2).size := ByteArray.size_append
  unfold mkS boolS
  repeat' split
  all_goals (first | (simp only [e0]; omega) | (simp only [e1]; omega))
theorem two_tells (s : ByteArray) (a b : VR) (hs : s.size ≤ maxLen) (ha : Fits a) (hb : Fits b) :
    value_Two.f 6 s a.1 a.2.1 a.2.2 b.1 b.2.1 b.2.2 = some ((twoS s.data.toList a b).1.1, (twoS s.data.toList a b).1.2.1, (twoS s.data.toList a b).1.2.2, (twoS s.data.toList a b).2) := by
  unfold value_Two.f twoS
  rw [if_pos hs]
  cases hg : sign s.data.toList with
  | none => rfl
  | some n =>
    simp only
    rw [mk_tells n a b ha hb (sign_cases hg), Option.bind_some, if_pos (mkS_size n a b ha hb)]
    split <;> rfl
end Go.Proofs.YtmdchbenalhpjaaDoor.Va

/- What calls of the reference's functions do, without rounds. No condition. -/
namespace Go.Proofs.YtmdchbenalhpjaaDoor.Va
open Go.RowKit Go.Proofs.YtmdchbenalhpjaaDoorW.PrintWords Go.Proofs.YtmdchbenalhpjaaDoorW.PrintLast Go.Proofs.YtmdchbenalhpjaaDoorW.PrintMore Go.Proofs.YtmdchbenalhpjaaDoor.Pr Go.Proofs.YtmdchbenalhpjaaDoor.Ev
set_option linter.unusedVariables false
set_option linter.unusedSimpArgs false
def agg (a : VR) : Value := .agg #[.int .i64 a.1, .int .i64 a.2.1, .string a.2.2]
theorem less_self : ∀ l : List UInt8, Op.bytesLess l l = false
  | [] => rfl
  | a :: r => by
    unfold Op.bytesLess
    rw [less_self r]
    simp
theorem rless_tells (a b : VR) (ha : Fits a) (hb : Fits b) : Ev fun k => gumshoeref06_less.f k a.1 a.2.1 a.2.2 b.1 b.2.1 b.2.2 = some (cmpS a b) := by
  obtain ⟨a0, a1, a2⟩ := a
  obtain ⟨b0, b1, b2⟩ := b
  have h1 := rnum_tells a0 a1 a2 (by have := ha.size; simp only at this; omega)
  have h2 := rnum_tells b0 b1 b2 (by have := hb.size; simp only at this; omega)
  refine (h1.and h2).succ fun k hk => ?_
  obtain ⟨h1, h2⟩ := hk
  unfold cmpS gumshoeref06_less.f
  simp only
  by_cases ka : a0 = 4
  · rw [if_pos ka]
    by_cases kb : b0 = 4
    · rw [if_pos ⟨ka, kb⟩, show (b0 == 4) = true from beq_iff_eq.mpr kb]
      simp only [gumshoeref06_less.j0, if_true]
      by_cases e : a2.toList = b2.toList
      · rw [if_pos e, e, less_self, if_neg (by decide), if_pos (beq_self_eq_true _)]
      · rw [if_neg e, show (a2.toList == b2.toList) = false from beq_eq_false_iff_ne.mpr e]
        simp
        split <;> rfl
    · rw [if_neg (fun h => kb h.2), show (b0 == 4) = false from beq_eq_false_iff_ne.mpr kb]
      simp only [gumshoeref06_less.j0, h1, h2, Option.bind_some]
      simp
      repeat' split
      all_goals first | rfl | omega
  · rw [if_neg ka, if_neg (fun h => ka h.1)]
    simp only [gumshoeref06_less.j0, h1, h2, Option.bind_some]
    simp
    repeat' split
    all_goals first | rfl | omega
theorem rkey_run (a : VR) (ha : Fits a) (W : World) : Calls Tryd.prog 22 #[agg a] W fun e W' => e = .returned (.string (keyS a.1 a.2.1 a.2.2)) ∧ Below W.heap.size W W' := by
  obtain ⟨k, hk⟩ := (rkey_tells a.1 a.2.1 a.2.2 ha.num).ex
  exact gumshoeref06_Key.calls k a.1 a.2.1 a.2.2 _ W hk
theorem rnum_run (a : VR) (ha : Fits a) (W : World) : Calls Tryd.prog 23 #[agg a] W fun e W' => e = .returned (.int .i64 (numS a.1 a.2.1 a.2.2)) ∧ Below W.heap.size W W' := by
  obtain ⟨k, hk⟩ := (rnum_tells a.1 a.2.1 a.2.2 (by have := ha.size; omega)).ex
  exact gumshoeref06_Num.calls k a.1 a.2.1 a.2.2 _ W hk
theorem rless_run (a b : VR) (ha : Fits a) (hb : Fits b) (W : World) : Calls Tryd.prog 30 #[agg a, agg b] W fun e W' => e = .returned (.int .i64 (cmpS a b)) ∧ Below W.heap.size W W' := by
  obtain ⟨k, hk⟩ := (rless_tells a b ha hb).ex
  exact gumshoeref06_less.calls k a.1 a.2.1 a.2.2 b.1 b.2.1 b.2.2 _ W hk
theorem rbool_run (b : Bool) (W : World) : Calls Tryd.prog 29 #[.bool b] W fun e W' => e = .returned (agg (boolS b)) ∧ Below W.heap.size W W' :=
  gumshoeref06_Bool.calls b _ _ _ W (by unfold gumshoeref06_Bool.f; cases b <;> rfl)
theorem rright_run (a : VR) (W : World) : Calls Tryd.prog 12 #[agg a] W fun e W' => e = .returned (.bool (rightS a.1 a.2.1 a.2.2)) ∧ Below W.heap.size W W' :=
  gumshoeref06_Right.calls 6 a.1 a.2.1 a.2.2 _ W (rright_tells _ _ _)
theorem vright_run (a : VR) (W : World) : Calls Tryd.prog 19 #[agg a] W fun e W' => e = .returned (.bool (rightS a.1 a.2.1 a.2.2)) ∧ Below W.heap.size W W' :=
  value_Right.calls 6 a.1 a.2.1 a.2.2 _ W (vright_tells _ _ _)
theorem vtruthy_run (a : VR) (W : World) : Calls Tryd.prog 20 #[agg a] W fun e W' => e = .returned (.bool (truthyS a.1 a.2.1 a.2.2)) ∧ Below W.heap.size W W' :=
  value_Truthy.calls 6 a.1 a.2.1 a.2.2 _ W (vtruthy_tells _ _ _)
theorem rtruthy_run (a : VR) (h : rightS a.1 a.2.1 a.2.2 = true) (W : World) : Calls Tryd.prog 24 #[agg a] W fun e W' => e = .returned (.bool (truthyS a.1 a.2.1 a.2.2)) ∧ Below W.heap.size W W' :=
  gumshoeref06_Truthy.calls 6 a.1 a.2.1 a.2.2 _ W (rtruthy_tells _ _ _ h)
theorem vkey_run (a : VR) (ha : Fits a) (W : World) (hL : Laid W) : Calls Tryd.prog 15 #[agg a] W fun e W' => e = .returned (.string (keyS a.1 a.2.1 a.2.2)) ∧ Below W.heap.size W W' :=
  value_Key.calls a.1 a.2.1 a.2.2 _ W hL (vkey_tells _ _ _ ha.num)
theorem vnum_run (a : VR) (ha : Fits a) (W : World) (hL : Laid W) : Calls Tryd.prog 17 #[agg a] W fun e W' => e = .returned (.int .i64 (numS a.1 a.2.1 a.2.2)) ∧ Below W.heap.size W W' :=
  value_Num.calls a.1 a.2.1 a.2.2 _ W hL (vnum_tells _ _ _ (by have := ha.size; omega))
def negS (a : VR) : VR := (3, wrap64 (-numS a.1 a.2.1 a.2.2), ⟨#[]⟩)
theorem vneg_run (a : VR) (ha : Fits a) (W : World) (hL : Laid W) : Calls Tryd.prog 25 #[agg a] W fun e W' => e = .returned (agg (negS a)) ∧ Below W.heap.size W W' :=
  value_Neg.calls a.1 a.2.1 a.2.2 _ _ _ W hL (by unfold value_Neg.f; rw [vnum_tells _ _ _ (by have := ha.size; omega)]; rfl)
theorem vnot_run (a : VR) (W : World) : Calls Tryd.prog 21 #[agg a] W fun e W' => e = .returned (agg (boolS (!truthyS a.1 a.2.1 a.2.2))) ∧ Below W.heap.size W W' :=
  value_Not.calls 6 a.1 a.2.1 a.2.2 _ _ _ W (by unfold value_Not.f; rw [vtruthy_tells, Option.bind_some, truth_tells]; rfl)
theorem vtwo_run (s : ByteArray) (a b : VR) (hs : s.size ≤ maxLen) (ha : Fits a) (hb : Fits b) (W : World) (hL : Laid W) : Calls Tryd.prog 13 #[.string s, agg a, agg b] W fun e W' => e = .returned (.tuple #[agg (twoS s.data.toList a b).1, .int .i64 (twoS s.data.toList a b).2]) ∧ Below W.heap.size W W' :=
  value_Two.calls 6 s a.1 a.2.1 a.2.2 b.1 b.2.1 b.2.2 _ _ _ _ W hL (two_tells s a b hs ha hb)
end Go.Proofs.YtmdchbenalhpjaaDoor.Va

/- gumshoeref06.Two: what it answers. No condition. -/
namespace Go.Proofs.YtmdchbenalhpjaaDoor.Va
open Go.RowKit Go.Proofs.YtmdchbenalhpjaaDoorW.PrintWords Go.Proofs.YtmdchbenalhpjaaDoorW.PrintLast Go.Proofs.YtmdchbenalhpjaaDoorW.PrintMore Go.Proofs.YtmdchbenalhpjaaDoor.Pr Go.Proofs.YtmdchbenalhpjaaDoor.Ev
set_option linter.unusedVariables false
set_option linter.unusedSimpArgs false
structure TwoS (w W' : World) (a b : VR) : Prop where
  ba : W'.heap[w.heap.size]? = some (.cells #[.int .i64 a.1, .int .i64 a.2.1, .string a.2.2] 23 (0, 0))
  bb : W'.heap[w.heap.size + 1]? = some (.cells #[.int .i64 b.1, .int .i64 b.2.1, .string b.2.2] 23 (0, 0))
  bk : W'.heap[w.heap.size + 1 + 1]? = some (.cells #[.int .i64 0, .int .i64 0, .string ⟨#[]⟩] 23 (0, 0))
  bel : Below w.heap.size w W'
theorem TwoS.step {w W W' : World} {a b : VR} (h : TwoS w W a b) (hb : Below W.heap.size W W') : TwoS w W' a b :=
  ⟨blk_below h.ba hb, blk_below h.bb hb, blk_below h.bk hb, below_step h.bel hb⟩
theorem TwoS.drew {w W : World} {a b : VR} (h : TwoS w W a b) : TwoS w W.drew a b := ⟨h.ba, h.bb, h.bk, below_drew1 h.bel⟩
theorem TwoS.boxes (w : World) (a b : VR) : TwoS w (((w.alloc (.cells #[.int .i64 a.1, .int .i64 a.2.1, .string a.2.2] 23)).alloc (.cells #[.int .i64 b.1, .int .i64 b.2.1, .string b.2.2] 23)).alloc (.cells #[.int .i64 0, .int .i64 0, .string ⟨#[]⟩] 23)) a b :=
  ⟨(three_boxes w _ _ _).1, (three_boxes w _ _ _).2.1, (three_boxes w _ _ _).2.2.1, (three_boxes w _ _ _).2.2.2⟩
theorem TwoS.res {w W' : World} {a b : VR} (h : TwoS w W' a b) : (W'.cell? ⟨w.heap.size + 1 + 1, 0, none⟩ = some (.int .i64 0) ∧ W'.cell? ⟨w.heap.size + 1 + 1, 1, none⟩ = some (.int .i64 0) ∧ W'.cell? ⟨w.heap.size + 1 + 1, 2, none⟩ = some (.string ⟨#[]⟩)) ∧
    (W'.frozen? ⟨w.heap.size + 1 + 1, 0, none⟩ = false ∧ W'.frozen? ⟨w.heap.size + 1 + 1, 1, none⟩ = false ∧ W'.frozen? ⟨w.heap.size + 1 + 1, 2, none⟩ = false) :=
  ⟨⟨(blk_cell h.bk 0).trans rfl, (blk_cell h.bk 1).trans rfl, (blk_cell h.bk 2).trans rfl⟩, blk_frozen h.bk 0, blk_frozen h.bk 1, blk_frozen h.bk 2⟩
def TwoPost (w : World) (r : VR × Int) (e : Ending) (w' : World) : Prop := e = .returned (.tuple #[agg r.1, .int .i64 r.2]) ∧ Below w.heap.size w w'
set_option maxHeartbeats 4000000 in
set_option maxRecDepth 100000 in
theorem rtwo_lss (s : ByteArray) (a b : VR) (ha : Fits a) (hb : Fits b) (hs : s.toList = [60]) (w : World) :
    Calls Tryd.prog 14 #[.string s, agg a, agg b] w (TwoPost w (boolS (decide (cmpS a b < 0)), 0)) := by
  have HR := Aside0.mk (fun W => rless_run a b ha hb W)
  have HBO := Aside0.mk (fun x W => rbool_run x W)
  have HX := Aside0.mk (TwoS.boxes w a b)
  obtain ⟨a0, a1, a2⟩ := a
  obtain ⟨b0, b1, b2⟩ := b
  clear ha hb
  generalize hc : cmpS (a0, a1, a2) (b0, b1, b2) = c at *
  clear hc
  unfold agg at *
  simp only at HR HX
  have e0 : (s.toList == [43]) = false := by rw [hs]; decide
  have e1 : (s.toList == [45]) = false := by rw [hs]; decide
  have e2 : (s.toList == [42]) = false := by rw [hs]; decide
  have e3 : (s.toList == [60]) = true := by rw [hs]; decide
  clear hs
  go_enter Tryd.func14, Tryd.ntmps14
  go_wp2_with (first | (go_at_call 30; refine (HR.out _).mono ?_; rintro e w1 ⟨rfl, hb⟩; have HX1 := Aside0.mk (HX.out.step hb); clear hb) | (go_at_call 29; refine (HBO.out _ _).mono ?_; rintro e w2 ⟨rfl, hb⟩; have HX2 := Aside0.mk (HX1.out.step hb); obtain ⟨⟨hc0, hc1, hc2⟩, hf0, hf1, hf2⟩ := HX2.out.res; clear hb))
  refine bodyPost_ret (results_ct rfl _ _ (w.heap.size + 1 + 1) 23 #[_, _, _] (0, 0) _ rfl (blk_set (blk_set (blk_set HX2.out.bk 0 _) 1 _) 2 _) Tryd.underlying23 rfl (by kernel_rfl)) rfl ⟨rfl, below_set (below_set (below_set HX2.out.bel (by omega)) (by omega)) (by omega)⟩
set_option maxHeartbeats 4000000 in
set_option maxRecDepth 100000 in
theorem rtwo_leq (s : ByteArray) (a b : VR) (ha : Fits a) (hb : Fits b) (hs : s.toList = [60, 61]) (w : World) :
    Calls Tryd.prog 14 #[.string s, agg a, agg b] w (TwoPost w (boolS (decide (cmpS a b ≤ 0)), 0)) := by
  have HR := Aside0.mk (fun W => rless_run a b ha hb W)
  have HBO := Aside0.mk (fun x W => rbool_run x W)
  have HX := Aside0.mk (TwoS.boxes w a b)
  obtain ⟨a0, a1, a2⟩ := a
  obtain ⟨b0, b1, b2⟩ := b
  clear ha hb
  generalize hc : cmpS (a0, a1, a2) (b0, b1, b2) = c at *
  clear hc
  unfold agg at *
  simp only at HR HX
  have e0 : (s.toList == [43]) = false := by rw [hs]; decide
  have e1 : (s.toList == [45]) = false := by rw [hs]; decide
  have e2 : (s.toList == [42]) = false := by rw [hs]; decide
  have e3 : (s.toList == [60]) = false := by rw [hs]; decide
  have e4 : (s.toList == [60, 61]) = true := by rw [hs]; decide
  clear hs
  go_enter Tryd.func14, Tryd.ntmps14
  go_wp2_with (first | (go_at_call 30; refine (HR.out _).mono ?_; rintro e w1 ⟨rfl, hb⟩; have HX1 := Aside0.mk (HX.out.step hb); clear hb) | (go_at_call 29; refine (HBO.out _ _).mono ?_; rintro e w2 ⟨rfl, hb⟩; have HX2 := Aside0.mk (HX1.out.step hb); obtain ⟨⟨hc0, hc1, hc2⟩, hf0, hf1, hf2⟩ := HX2.out.res; clear hb))
  refine bodyPost_ret (results_ct rfl _ _ (w.heap.size + 1 + 1) 23 #[_, _, _] (0, 0) _ rfl (blk_set (blk_set (blk_set HX2.out.bk 0 _) 1 _) 2 _) Tryd.underlying23 rfl (by kernel_rfl)) rfl ⟨rfl, below_set (below_set (below_set HX2.out.bel (by omega)) (by omega)) (by omega)⟩
set_option maxHeartbeats 4000000 in
set_option maxRecDepth 100000 in
theorem rtwo_eql (s : ByteArray) (a b : VR) (ha : Fits a) (hb : Fits b) (hs : s.toList = [61, 61, 61]) (w : World) :
    Calls Tryd.prog 14 #[.string s, agg a, agg b] w (TwoPost w (boolS (eqS a b), 0)) := by
  have HBO := Aside0.mk (fun x W => rbool_run x W)
  have HX := Aside0.mk (TwoS.boxes w a b)
  have hu23 := Tryd.underlying23
  obtain ⟨a0, a1, a2⟩ := a
  obtain ⟨b0, b1, b2⟩ := b
  clear ha hb
  unfold agg eqS at *
  simp only at HX ⊢
  have e0 : (s.toList == [43]) = false := by rw [hs]; decide
  have e1 : (s.toList == [45]) = false := by rw [hs]; decide
  have e2 : (s.toList == [42]) = false := by rw [hs]; decide
  have e3 : (s.toList == [60]) = false := by rw [hs]; decide
  have e4 : (s.toList == [60, 61]) = false := by rw [hs]; decide
  have e5 : (s.toList == [61, 61, 61]) = true := by rw [hs]; decide
  clear hs
  by_cases h0 : a0 = b0
  case neg =>
    have f0 : (a0 == b0) = false := beq_eq_false_iff_ne.mpr h0
    have ev : ((a0 == b0) && ((a1 == b1) && (a2.toList == b2.toList))) = false := by simp [*]
    rw [ev]
    clear ev
    go_enter Tryd.func14, Tryd.ntmps14
    go_wp2_with (first | (go_at_call 29; refine (HBO.out _ _).mono ?_; rintro e w2 ⟨rfl, hb⟩; have HX2 := Aside0.mk (HX.out.step hb); obtain ⟨⟨hc0, hc1, hc2⟩, hf0, hf1, hf2⟩ := HX2.out.res; clear hb))
    refine bodyPost_ret (results_ct rfl _ _ (w.heap.size + 1 + 1) 23 #[_, _, _] (0, 0) _ rfl (blk_set (blk_set (blk_set HX2.out.bk 0 _) 1 _) 2 _) Tryd.underlying23 rfl (by kernel_rfl)) rfl ⟨rfl, below_set (below_set (below_set HX2.out.bel (by omega)) (by omega)) (by omega)⟩
  subst h0
  by_cases h1 : a1 = b1
  case neg =>
    have f1 : (a1 == b1) = false := beq_eq_false_iff_ne.mpr h1
    have ev : ((a0 == a0) && ((a1 == b1) && (a2.toList == b2.toList))) = false := by simp [*]
    rw [ev]
    clear ev
    go_enter Tryd.func14, Tryd.ntmps14
    go_wp2_with (first | (go_at_call 29; refine (HBO.out _ _).mono ?_; rintro e w2 ⟨rfl, hb⟩; have HX2 := Aside0.mk (HX.out.step hb); obtain ⟨⟨hc0, hc1, hc2⟩, hf0, hf1, hf2⟩ := HX2.out.res; clear hb))
    refine bodyPost_ret (results_ct rfl _ _ (w.heap.size + 1 + 1) 23 #[_, _, _] (0, 0) _ rfl (blk_set (blk_set (blk_set HX2.out.bk 0 _) 1 _) 2 _) Tryd.underlying23 rfl (by kernel_rfl)) rfl ⟨rfl, below_set (below_set (below_set HX2.out.bel (by omega)) (by omega)) (by omega)⟩
  subst h1
  by_cases h2 : a2.toList = b2.toList
  case neg =>
    have f2 : (a2.toList == b2.toList) = false := beq_eq_false_iff_ne.mpr h2
    have ev : ((a0 == a0) && ((a1 == a1) && (a2.toList == b2.toList))) = false := by simp [*]
    rw [ev]
    clear ev
    go_enter Tryd.func14, Tryd.ntmps14
    go_wp2_with (first | (go_at_call 29; refine (HBO.out _ _).mono ?_; rintro e w2 ⟨rfl, hb⟩; have HX2 := Aside0.mk (HX.out.step hb); obtain ⟨⟨hc0, hc1, hc2⟩, hf0, hf1, hf2⟩ := HX2.out.res; clear hb))
    refine bodyPost_ret (results_ct rfl _ _ (w.heap.size + 1 + 1) 23 #[_, _, _] (0, 0) _ rfl (blk_set (blk_set (blk_set HX2.out.bk 0 _) 1 _) 2 _) Tryd.underlying23 rfl (by kernel_rfl)) rfl ⟨rfl, below_set (below_set (below_set HX2.out.bel (by omega)) (by omega)) (by omega)⟩
  obtain rfl : a2 = b2 := by
    rw [ByteArray.toList_eq, ByteArray.toList_eq] at h2
    cases a2; cases b2; simpa using h2
  have ev : ((a0 == a0) && ((a1 == a1) && (a2.toList == a2.toList))) = true := by simp [*]
  rw [ev]
  clear ev
  go_enter Tryd.func14, Tryd.ntmps14
  go_wp2_with (first | (go_at_call 29; refine (HBO.out _ _).mono ?_; rintro e w2 ⟨rfl, hb⟩; have HX2 := Aside0.mk (HX.out.step hb); obtain ⟨⟨hc0, hc1, hc2⟩, hf0, hf1, hf2⟩ := HX2.out.res; clear hb))
  refine bodyPost_ret (results_ct rfl _ _ (w.heap.size + 1 + 1) 23 #[_, _, _] (0, 0) _ rfl (blk_set (blk_set (blk_set HX2.out.bk 0 _) 1 _) 2 _) Tryd.underlying23 rfl (by kernel_rfl)) rfl ⟨rfl, below_set (below_set (below_set HX2.out.bel (by omega)) (by omega)) (by omega)⟩
set_option maxHeartbeats 4000000 in
set_option maxRecDepth 100000 in
theorem rtwo_neq (s : ByteArray) (a b : VR) (ha : Fits a) (hb : Fits b) (hs : s.toList = [33, 61, 61]) (w : World) :
    Calls Tryd.prog 14 #[.string s, agg a, agg b] w (TwoPost w (boolS (!eqS a b), 0)) := by
  have HBO := Aside0.mk (fun x W => rbool_run x W)
  have HX := Aside0.mk (TwoS.boxes w a b)
  have hu23 := Tryd.underlying23
  obtain ⟨a0, a1, a2⟩ := a
  obtain ⟨b0, b1, b2⟩ := b
  clear ha hb
  unfold agg eqS at *
  simp only at HX ⊢
  have e0 : (s.toList == [43]) = false := by rw [hs]; decide
  have e1 : (s.toList == [45]) = false := by rw [hs]; decide
  have e2 : (s.toList == [42]) = false := by rw [hs]; decide
  have e3 : (s.toList == [60]) = false := by rw [hs]; decide
  have e4 : (s.toList == [60, 61]) = false := by rw [hs]; decide
  have e5 : (s.toList == [61, 61, 61]) = false := by rw [hs]; decide
  have e6 : (s.toList == [33, 61, 61]) = true := by rw [hs]; decide
  clear hs
  by_cases h0 : a0 = b0
  case neg =>
    have f0 : (a0 == b0) = false := beq_eq_false_iff_ne.mpr h0
    have ev : ((a0 == b0) && ((a1 == b1) && (a2.toList == b2.toList))) = false := by simp [*]
    rw [ev]
    clear ev
    go_enter Tryd.func14, Tryd.ntmps14
    go_wp2_with (first | (go_at_call 29; refine (HBO.out _ _).mono ?_; rintro e w2 ⟨rfl, hb⟩; have HX2 := Aside0.mk (HX.out.step hb); obtain ⟨⟨hc0, hc1, hc2⟩, hf0, hf1, hf2⟩ := HX2.out.res; clear hb))
    refine bodyPost_ret (results_ct rfl _ _ (w.heap.size + 1 + 1) 23 #[_, _, _] (0, 0) _ rfl (blk_set (blk_set (blk_set HX2.out.bk 0 _) 1 _) 2 _) Tryd.underlying23 rfl (by kernel_rfl)) rfl ⟨rfl, below_set (below_set (below_set HX2.out.bel (by omega)) (by omega)) (by omega)⟩
  subst h0
  by_cases h1 : a1 = b1
  case neg =>
    have f1 : (a1 == b1) = false := beq_eq_false_iff_ne.mpr h1
    have ev : ((a0 == a0) && ((a1 == b1) && (a2.toList == b2.toList))) = false := by simp [*]
    rw [ev]
    clear ev
    go_enter Tryd.func14, Tryd.ntmps14
    go_wp2_with (first | (go_at_call 29; refine (HBO.out _ _).mono ?_; rintro e w2 ⟨rfl, hb⟩; have HX2 := Aside0.mk (HX.out.step hb); obtain ⟨⟨hc0, hc1, hc2⟩, hf0, hf1, hf2⟩ := HX2.out.res; clear hb))
    refine bodyPost_ret (results_ct rfl _ _ (w.heap.size + 1 + 1) 23 #[_, _, _] (0, 0) _ rfl (blk_set (blk_set (blk_set HX2.out.bk 0 _) 1 _) 2 _) Tryd.underlying23 rfl (by kernel_rfl)) rfl ⟨rfl, below_set (below_set (below_set HX2.out.bel (by omega)) (by omega)) (by omega)⟩
  subst h1
  by_cases h2 : a2.toList = b2.toList
  case neg =>
    have f2 : (a2.toList == b2.toList) = false := beq_eq_false_iff_ne.mpr h2
    have ev : ((a0 == a0) && ((a1 == a1) && (a2.toList == b2.toList))) = false := by simp [*]
    rw [ev]
    clear ev
    go_enter Tryd.func14, Tryd.ntmps14
    go_wp2_with (first | (go_at_call 29; refine (HBO.out _ _).mono ?_; rintro e w2 ⟨rfl, hb⟩; have HX2 := Aside0.mk (HX.out.step hb); obtain ⟨⟨hc0, hc1, hc2⟩, hf0, hf1, hf2⟩ := HX2.out.res; clear hb))
    refine bodyPost_ret (results_ct rfl _ _ (w.heap.size + 1 + 1) 23 #[_, _, _] (0, 0) _ rfl (blk_set (blk_set (blk_set HX2.out.bk 0 _) 1 _) 2 _) Tryd.underlying23 rfl (by kernel_rfl)) rfl ⟨rfl, below_set (below_set (below_set HX2.out.bel (by omega)) (by omega)) (by omega)⟩
  obtain rfl : a2 = b2 := by
    rw [ByteArray.toList_eq, ByteArray.toList_eq] at h2
    cases a2; cases b2; simpa using h2
  have ev : ((a0 == a0) && ((a1 == a1) && (a2.toList == a2.toList))) = true := by simp [*]
  rw [ev]
  clear ev
  go_enter Tryd.func14, Tryd.ntmps14
  go_wp2_with (first | (go_at_call 29; refine (HBO.out _ _).mono ?_; rintro e w2 ⟨rfl, hb⟩; have HX2 := Aside0.mk (HX.out.step hb); obtain ⟨⟨hc0, hc1, hc2⟩, hf0, hf1, hf2⟩ := HX2.out.res; clear hb))
  refine bodyPost_ret (results_ct rfl _ _ (w.heap.size + 1 + 1) 23 #[_, _, _] (0, 0) _ rfl (blk_set (blk_set (blk_set HX2.out.bk 0 _) 1 _) 2 _) Tryd.underlying23 rfl (by kernel_rfl)) rfl ⟨rfl, below_set (below_set (below_set HX2.out.bel (by omega)) (by omega)) (by omega)⟩
set_option maxHeartbeats 4000000 in
set_option maxRecDepth 100000 in
theorem rtwo_none (s : ByteArray) (a b : VR) (hs : sign s.data.toList = none) (w : World) :
    Calls Tryd.prog 14 #[.string s, agg a, agg b] w (TwoPost w ((0, 0, ⟨#[]⟩), 60)) := by
  have HX := Aside0.mk (TwoS.boxes w a b)
  obtain ⟨⟨hc0, hc1, hc2⟩, hf0, hf1, hf2⟩ := HX.out.res
  obtain ⟨a0, a1, a2⟩ := a
  obtain ⟨b0, b1, b2⟩ := b
  unfold agg at *
  simp only at HX ⊢
  have e0 : (s.toList == [43]) = false := beq_eq_false_iff_ne.mpr (fun e => by rw [ByteArray.toList_eq] at e; rw [e] at hs; revert hs; decide)
  have e1 : (s.toList == [45]) = false := beq_eq_false_iff_ne.mpr (fun e => by rw [ByteArray.toList_eq] at e; rw [e] at hs; revert hs; decide)
  have e2 : (s.toList == [42]) = false := beq_eq_false_iff_ne.mpr (fun e => by rw [ByteArray.toList_eq] at e; rw [e] at hs; revert hs; decide)
  have e3 : (s.toList == [60]) = false := beq_eq_false_iff_ne.mpr (fun e => by rw [ByteArray.toList_eq] at e; rw [e] at hs; revert hs; decide)
  have e4 : (s.toList == [60, 61]) = false := beq_eq_false_iff_ne.mpr (fun e => by rw [ByteArray.toList_eq] at e; rw [e] at hs; revert hs; decide)
  have e5 : (s.toList == [61, 61, 61]) = false := beq_eq_false_iff_ne.mpr (fun e => by rw [ByteArray.toList_eq] at e; rw [e] at hs; revert hs; decide)
  have e6 : (s.toList == [33, 61, 61]) = false := beq_eq_false_iff_ne.mpr (fun e => by rw [ByteArray.toList_eq] at e; rw [e] at hs; revert hs; decide)
  clear hs
  go_enter Tryd.func14, Tryd.ntmps14
  go_wp2
  refine bodyPost_ret (results_ct rfl _ _ (w.heap.size + 1 + 1) 23 #[_, _, _] (0, 0) _ rfl HX.out.bk Tryd.underlying23 rfl (by kernel_rfl)) rfl ⟨rfl, HX.out.bel⟩
theorem TwoS.six {w W' : World} {a0 a1 b0 b1 : Int} {a2 b2 : ByteArray} (h : TwoS w W' (a0, a1, a2) (b0, b1, b2)) : W'.cell? ⟨w.heap.size, 0, none⟩ = some (.int .i64 a0) ∧ W'.cell? ⟨w.heap.size, 1, none⟩ = some (.int .i64 a1) ∧ W'.cell? ⟨w.heap.size, 2, none⟩ = some (.string a2) ∧ W'.cell? ⟨w.heap.size + 1, 0, none⟩ = some (.int .i64 b0) ∧ W'.cell? ⟨w.heap.size + 1, 1, none⟩ = some (.int .i64 b1) ∧ W'.cell? ⟨w.heap.size + 1, 2, none⟩ = some (.string b2) :=
  ⟨(blk_cell h.ba 0).trans rfl, (blk_cell h.ba 1).trans rfl, (blk_cell h.ba 2).trans rfl, (blk_cell h.bb 0).trans rfl, (blk_cell h.bb 1).trans rfl, (blk_cell h.bb 2).trans rfl⟩
def rT8 : Bool × List (List Nat × List Nat) := (true, [([], []), ([0], [0]), ([], []), ([2, 1], [2]), ([1, 3], [1, 3]), ([4], [4]), ([5, 3, 0, 1, 2, 3, 4, 5], [5]), ([6, 0, 1, 2, 3, 4, 5, 6], [])])
def rB8 : List Nat := [0, 1, 0, 7, 15, 31, 63, 127]
theorem rtab8 : rtab .any (opsOf Tryd.f14 8) = rT8 := by kernel_rfl
theorem rbits8 : waitsOk rT8.2 rB8 = true := by kernel_rfl
def rT10 : Bool × List (List Nat × List Nat) := (true, [([], []), ([0], [0]), ([], []), ([2, 1], [2]), ([1, 3], [1, 3]), ([4], [4]), ([5, 3, 0, 1, 2, 3, 4, 5], [5]), ([6, 0, 1, 2, 3, 4, 5, 6], [])])
def rB10 : List Nat := [0, 1, 0, 7, 15, 31, 63, 127]
theorem rtab10 : rtab .any (opsOf Tryd.f14 10) = rT10 := by kernel_rfl
theorem rbits10 : waitsOk rT10.2 rB10 = true := by kernel_rfl
def rT12 : Bool × List (List Nat × List Nat) := (true, [([], []), ([0], [0]), ([], []), ([2, 1], [2]), ([1, 3], [1, 3]), ([4], [4]), ([5, 3, 0, 1, 2, 3, 4, 5], [5]), ([6, 0, 1, 2, 3, 4, 5, 6], [])])
def rB12 : List Nat := [0, 1, 0, 7, 15, 31, 63, 127]
theorem rtab12 : rtab .any (opsOf Tryd.f14 12) = rT12 := by kernel_rfl
theorem rbits12 : waitsOk rT12.2 rB12 = true := by kernel_rfl
set_option maxHeartbeats 4000000 in
set_option maxRecDepth 100000 in
theorem rtwo_sub (s : ByteArray) (a b : VR) (ha : Fits a) (hb : Fits b) (hs : s.toList = [45]) (w : World) :
    Calls Tryd.prog 14 #[.string s, agg a, agg b] w (TwoPost w ((3, wrap64 (numS a.1 a.2.1 a.2.2 - numS b.1 b.2.1 b.2.2), ⟨#[]⟩), 0)) := by
  have HNA := Aside0.mk (fun W => rnum_run a ha W)
  have HNB := Aside0.mk (fun W => rnum_run b hb W)
  have HX := Aside0.mk (TwoS.boxes w a b)
  obtain ⟨a0, a1, a2⟩ := a
  obtain ⟨b0, b1, b2⟩ := b
  clear ha hb
  generalize hx : numS (a0, a1, a2).1 (a0, a1, a2).2.1 (a0, a1, a2).2.2 = x at *
  generalize hy : numS (b0, b1, b2).1 (b0, b1, b2).2.1 (b0, b1, b2).2.2 = y at *
  clear hx hy
  unfold agg at *
  simp only at HNA HNB HX ⊢
  have e0 : (s.toList == [43]) = false := by rw [hs]; decide
  have e1 : (s.toList == [45]) = true := by rw [hs]; decide
  clear hs
  go_enter Tryd.func14, Tryd.ntmps14
  go_wp2
  have hS := Aside0.mk HX.out.drew
  refine start_ (n := 8) (S := fun W' => W'.cell? ⟨w.heap.size, 0, none⟩ = some (.int .i64 a0) ∧ W'.cell? ⟨w.heap.size, 1, none⟩ = some (.int .i64 a1) ∧ W'.cell? ⟨w.heap.size, 2, none⟩ = some (.string a2) ∧ W'.cell? ⟨w.heap.size + 1, 0, none⟩ = some (.int .i64 b0) ∧ W'.cell? ⟨w.heap.size + 1, 1, none⟩ = some (.int .i64 b1) ∧ W'.cell? ⟨w.heap.size + 1, 2, none⟩ = some (.string b2)) (ds := [6]) #[false, false, false, false, false, false, false, false] (by kernel_rfl) rfl rfl hS.out.six (fun hHeld => ?_)
  refine with_tabW rtab10 rbits10 (fun HT_ HW_ => ?_)
  generalize ((((w.alloc (.cells #[.int .i64 a0, .int .i64 a1, .string a2] 23)).alloc (.cells #[.int .i64 b0, .int .i64 b1, .string b2] 23)).alloc (.cells #[.int .i64 0, .int .i64 0, .string ⟨#[]⟩] 23))).drew = w0 at hS hHeld ⊢
  clear HX
  refine take_ (i := 0) (N := some 39) (v := ?_) (a' := ?_) #[true, false, false, false, false, false, false, false] rfl rfl (take_ofW HT_.out HW_.out (by kernel_rfl)) (fun _ _ _ h => h) (Or.inl ⟨by rfl, ?_⟩) hHeld ?_ ?_
  rotate_left
  · rintro w' ⟨s0, s1, s2, s3, s4, s5⟩
    go_simp
    with_reducible rfl
  rotate_left
  · simp only [Act.put, List.setIfInBounds_toArray, List.set_cons_zero, List.set_cons_succ, i64_w, i32_w]
    rfl
  refine take_ (i := 2) (N := some 41) (v := ?_) (a' := ?_) #[true, false, true, false, false, false, false, false] rfl rfl (take_ofW HT_.out HW_.out (by kernel_rfl)) (fun _ _ _ h => h) (Or.inl ⟨by rfl, ?_⟩) hHeld ?_ ?_
  rotate_left
  · rintro w' ⟨s0, s1, s2, s3, s4, s5⟩
    go_simp
    with_reducible rfl
  rotate_left
  · simp only [Act.put, List.setIfInBounds_toArray, List.set_cons_zero, List.set_cons_succ, i64_w, i32_w]
    rfl
  refine one_ (i := 1) (N := some 40) #[true, true, true, false, false, false, false, false] rfl rfl (one_of HT_.out (by kernel_rfl)) (by decide) (fun K hK => ?_)
  refine goes_ Tryd.func23 (by kernel_rfl) rfl #[.agg #[.int .i64 a0, .int .i64 a1, .string a2]] (by rfl) rfl rfl (by (try simp only [List.map_toArray, List.map_cons, List.map_nil]); first | done | rfl) ?_
  refine (HNA.out _).mono ?_
  rintro e w1 ⟨rfl, hb⟩
  refine ⟨_, rfl, ?_⟩
  have hS1 := Aside0.mk (hS.out.step hb)
  clear hb hS
  refine hK.out _ _ hS1.out.six (fun hHeld => ?_)
  clear hK K
  refine norm_ (a' := ?_) ?_ ?_
  rotate_left
  · show Act.put _ (some 40) _ = _
    simp only [Act.put, List.setIfInBounds_toArray, List.set_cons_zero, List.set_cons_succ, i64_w, i32_w]
    rfl
  refine one_ (i := 3) (N := some 42) #[true, true, true, true, false, false, false, false] rfl rfl (one_of HT_.out (by kernel_rfl)) (by decide) (fun K hK => ?_)
  refine goes_ Tryd.func23 (by kernel_rfl) rfl #[.agg #[.int .i64 b0, .int .i64 b1, .string b2]] (by rfl) rfl rfl (by (try simp only [List.map_toArray, List.map_cons, List.map_nil]); first | done | rfl) ?_
  refine (HNB.out _).mono ?_
  rintro e w3 ⟨rfl, hb⟩
  refine ⟨_, rfl, ?_⟩
  have hS3 := Aside0.mk (hS1.out.step hb)
  clear hb hS1
  refine hK.out _ _ hS3.out.six (fun hHeld => ?_)
  clear hK K
  refine norm_ (a' := ?_) ?_ ?_
  rotate_left
  · show Act.put _ (some 42) _ = _
    simp only [Act.put, List.setIfInBounds_toArray, List.set_cons_zero, List.set_cons_succ, i64_w, i32_w]
    rfl
  refine pure_ (i := 4) (N := some 43) (v := ?_) (a' := ?_) #[true, true, true, true, true, false, false, false] rfl rfl (any_of HT_.out (by kernel_rfl)) (fun _ _ _ h => h) (Or.inl ⟨by rfl, ?_⟩) ?_ ?_
  rotate_left
  · intro w'
    go_simp
    with_reducible rfl
  rotate_left
  · simp only [Act.put, List.setIfInBounds_toArray, List.set_cons_zero, List.set_cons_succ, i64_w, i32_w]
    rfl
  refine pure_ (i := 5) (N := some 44) (v := ?_) (a' := ?_) #[true, true, true, true, true, true, false, false] rfl rfl (any_of HT_.out (by kernel_rfl)) (fun _ _ _ h => h) (Or.inl ⟨by rfl, ?_⟩) ?_ ?_
  rotate_left
  · intro w'
    go_simp
    with_reducible rfl
  rotate_left
  · simp only [Act.put, List.setIfInBounds_toArray, List.set_cons_zero, List.set_cons_succ, i64_w, i32_w]
    rfl
  refine last_ (i := 6) (N := none) #[true, true, true, true, true, true, true, false] rfl rfl (one_of HT_.out (by kernel_rfl)) (by decide) (fun K hK => ?_)
  obtain ⟨⟨hc0, hc1, hc2⟩, hf0, hf1, hf2⟩ := hS3.out.res
  refine skip_ (w1 := ?_) (by rfl) rfl ?_ ?_
  rotate_left
  · go_simp
    rfl
  refine hK.out _ _ ?_
  clear hK K
  refine pure_ (i := 7) (N := some 7) (v := ?_) (a' := ?_) #[true, true, true, true, true, true, true, true] rfl rfl (any_of HT_.out (by kernel_rfl)) (fun _ _ _ h => h) (Or.inl ⟨by rfl, ?_⟩) ?_ ?_
  rotate_left
  · intro w'
    go_simp
    with_reducible rfl
  rotate_left
  · simp only [Act.put, List.setIfInBounds_toArray, List.set_cons_zero, List.set_cons_succ, i64_w, i32_w]
    rfl
  refine done_ (done_of HT_.out (by kernel_rfl)) ?_
  try go_wp2
  refine bodyPost_ret (results_ct rfl _ _ (w.heap.size + 1 + 1) 23 #[_, _, _] (0, 0) _ rfl (blk_set (blk_set (blk_set hS3.out.bk 0 _) 1 _) 2 _) Tryd.underlying23 rfl (by kernel_rfl)) rfl ⟨rfl, below_set (below_set (below_set hS3.out.bel (by omega)) (by omega)) (by omega)⟩
set_option maxHeartbeats 4000000 in
set_option maxRecDepth 100000 in
theorem rtwo_mul (s : ByteArray) (a b : VR) (ha : Fits a) (hb : Fits b) (hs : s.toList = [42]) (w : World) :
    Calls Tryd.prog 14 #[.string s, agg a, agg b] w (TwoPost w ((3, wrap64 (numS a.1 a.2.1 a.2.2 * numS b.1 b.2.1 b.2.2), ⟨#[]⟩), 0)) := by
  have HNA := Aside0.mk (fun W => rnum_run a ha W)
  have HNB := Aside0.mk (fun W => rnum_run b hb W)
  have HX := Aside0.mk (TwoS.boxes w a b)
  obtain ⟨a0, a1, a2⟩ := a
  obtain ⟨b0, b1, b2⟩ := b
  clear ha hb
  generalize hx : numS (a0, a1, a2).1 (a0, a1, a2).2.1 (a0, a1, a2).2.2 = x at *
  generalize hy : numS (b0, b1, b2).1 (b0, b1, b2).2.1 (b0, b1, b2).2.2 = y at *
  clear hx hy
  unfold agg at *
  simp only at HNA HNB HX ⊢
  have e0 : (s.toList == [43]) = false := by rw [hs]; decide
  have e1 : (s.toList == [45]) = false := by rw [hs]; decide
  have e2 : (s.toList == [42]) = true := by rw [hs]; decide
  clear hs
  go_enter Tryd.func14, Tryd.ntmps14
  go_wp2
  have hS := Aside0.mk HX.out.drew
  refine start_ (n := 8) (S := fun W' => W'.cell? ⟨w.heap.size, 0, none⟩ = some (.int .i64 a0) ∧ W'.cell? ⟨w.heap.size, 1, none⟩ = some (.int .i64 a1) ∧ W'.cell? ⟨w.heap.size, 2, none⟩ = some (.string a2) ∧ W'.cell? ⟨w.heap.size + 1, 0, none⟩ = some (.int .i64 b0) ∧ W'.cell? ⟨w.heap.size + 1, 1, none⟩ = some (.int .i64 b1) ∧ W'.cell? ⟨w.heap.size + 1, 2, none⟩ = some (.string b2)) (ds := [6]) #[false, false, false, false, false, false, false, false] (by kernel_rfl) rfl rfl hS.out.six (fun hHeld => ?_)
  refine with_tabW rtab12 rbits12 (fun HT_ HW_ => ?_)
  generalize ((((w.alloc (.cells #[.int .i64 a0, .int .i64 a1, .string a2] 23)).alloc (.cells #[.int .i64 b0, .int .i64 b1, .string b2] 23)).alloc (.cells #[.int .i64 0, .int .i64 0, .string ⟨#[]⟩] 23))).drew = w0 at hS hHeld ⊢
  clear HX
  refine take_ (i := 0) (N := some 47) (v := ?_) (a' := ?_) #[true, false, false, false, false, false, false, false] rfl rfl (take_ofW HT_.out HW_.out (by kernel_rfl)) (fun _ _ _ h => h) (Or.inl ⟨by rfl, ?_⟩) hHeld ?_ ?_
  rotate_left
  · rintro w' ⟨s0, s1, s2, s3, s4, s5⟩
    go_simp
    with_reducible rfl
  rotate_left
  · simp only [Act.put, List.setIfInBounds_toArray, List.set_cons_zero, List.set_cons_succ, i64_w, i32_w]
    rfl
  refine take_ (i := 2) (N := some 49) (v := ?_) (a' := ?_) #[true, false, true, false, false, false, false, false] rfl rfl (take_ofW HT_.out HW_.out (by kernel_rfl)) (fun _ _ _ h => h) (Or.inl ⟨by rfl, ?_⟩) hHeld ?_ ?_
  rotate_left
  · rintro w' ⟨s0, s1, s2, s3, s4, s5⟩
    go_simp
    with_reducible rfl
  rotate_left
  · simp only [Act.put, List.setIfInBounds_toArray, List.set_cons_zero, List.set_cons_succ, i64_w, i32_w]
    rfl
  refine one_ (i := 1) (N := some 48) #[true, true, true, false, false, false, false, false] rfl rfl (one_of HT_.out (by kernel_rfl)) (by decide) (fun K hK => ?_)
  refine goes_ Tryd.func23 (by kernel_rfl) rfl #[.agg #[.int .i64 a0, .int .i64 a1, .string a2]] (by rfl) rfl rfl (by (try simp only [List.map_toArray, List.map_cons, List.map_nil]); first | done | rfl) ?_
  refine (HNA.out _).mono ?_
  rintro e w1 ⟨rfl, hb⟩
  refine ⟨_, rfl, ?_⟩
  have hS1 := Aside0.mk (hS.out.step hb)
  clear hb hS
  refine hK.out _ _ hS1.out.six (fun hHeld => ?_)
  clear hK K
  refine norm_ (a' := ?_) ?_ ?_
  rotate_left
  · show Act.put _ (some 48) _ = _
    simp only [Act.put, List.setIfInBounds_toArray, List.set_cons_zero, List.set_cons_succ, i64_w, i32_w]
    rfl
  refine one_ (i := 3) (N := some 50) #[true, true, true, true, false, false, false, false] rfl rfl (one_of HT_.out (by kernel_rfl)) (by decide) (fun K hK => ?_)
  refine goes_ Tryd.func23 (by kernel_rfl) rfl #[.agg #[.int .i64 b0, .int .i64 b1, .string b2]] (by rfl) rfl rfl (by (try simp only [List.map_toArray, List.map_cons, List.map_nil]); first | done | rfl) ?_
  refine (HNB.out _).mono ?_
  rintro e w3 ⟨rfl, hb⟩
  refine ⟨_, rfl, ?_⟩
  have hS3 := Aside0.mk (hS1.out.step hb)
  clear hb hS1
  refine hK.out _ _ hS3.out.six (fun hHeld => ?_)
  clear hK K
  refine norm_ (a' := ?_) ?_ ?_
  rotate_left
  · show Act.put _ (some 50) _ = _
    simp only [Act.put, List.setIfInBounds_toArray, List.set_cons_zero, List.set_cons_succ, i64_w, i32_w]
    rfl
  refine pure_ (i := 4) (N := some 51) (v := ?_) (a' := ?_) #[true, true, true, true, true, false, false, false] rfl rfl (any_of HT_.out (by kernel_rfl)) (fun _ _ _ h => h) (Or.inl ⟨by rfl, ?_⟩) ?_ ?_
  rotate_left
  · intro w'
    go_simp
    with_reducible rfl
  rotate_left
  · simp only [Act.put, List.setIfInBounds_toArray, List.set_cons_zero, List.set_cons_succ, i64_w, i32_w]
    rfl
  refine pure_ (i := 5) (N := some 52) (v := ?_) (a' := ?_) #[true, true, true, true, true, true, false, false] rfl rfl (any_of HT_.out (by kernel_rfl)) (fun _ _ _ h => h) (Or.inl ⟨by rfl, ?_⟩) ?_ ?_
  rotate_left
  · intro w'
    go_simp
    with_reducible rfl
  rotate_left
  · simp only [Act.put, List.setIfInBounds_toArray, List.set_cons_zero, List.set_cons_succ, i64_w, i32_w]
    rfl
  refine last_ (i := 6) (N := none) #[true, true, true, true, true, true, true, false] rfl rfl (one_of HT_.out (by kernel_rfl)) (by decide) (fun K hK => ?_)
  obtain ⟨⟨hc0, hc1, hc2⟩, hf0, hf1, hf2⟩ := hS3.out.res
  refine skip_ (w1 := ?_) (by rfl) rfl ?_ ?_
  rotate_left
  · go_simp
    rfl
  refine hK.out _ _ ?_
  clear hK K
  refine pure_ (i := 7) (N := some 7) (v := ?_) (a' := ?_) #[true, true, true, true, true, true, true, true] rfl rfl (any_of HT_.out (by kernel_rfl)) (fun _ _ _ h => h) (Or.inl ⟨by rfl, ?_⟩) ?_ ?_
  rotate_left
  · intro w'
    go_simp
    with_reducible rfl
  rotate_left
  · simp only [Act.put, List.setIfInBounds_toArray, List.set_cons_zero, List.set_cons_succ, i64_w, i32_w]
    rfl
  refine done_ (done_of HT_.out (by kernel_rfl)) ?_
  try go_wp2
  refine bodyPost_ret (results_ct rfl _ _ (w.heap.size + 1 + 1) 23 #[_, _, _] (0, 0) _ rfl (blk_set (blk_set (blk_set hS3.out.bk 0 _) 1 _) 2 _) Tryd.underlying23 rfl (by kernel_rfl)) rfl ⟨rfl, below_set (below_set (below_set hS3.out.bel (by omega)) (by omega)) (by omega)⟩
set_option maxHeartbeats 4000000 in
set_option maxRecDepth 100000 in
theorem rtwo_add (s : ByteArray) (a b : VR) (ha : Fits a) (hb : Fits b) (hs : s.toList = [43]) (hg : ¬ (a.1 = 4 ∨ b.1 = 4)) (w : World) :
    Calls Tryd.prog 14 #[.string s, agg a, agg b] w (TwoPost w ((3, wrap64 (numS a.1 a.2.1 a.2.2 + numS b.1 b.2.1 b.2.2), ⟨#[]⟩), 0)) := by
  have HNA := Aside0.mk (fun W => rnum_run a ha W)
  have HNB := Aside0.mk (fun W => rnum_run b hb W)
  have HX := Aside0.mk (TwoS.boxes w a b)
  obtain ⟨a0, a1, a2⟩ := a
  obtain ⟨b0, b1, b2⟩ := b
  clear ha hb
  generalize hx : numS (a0, a1, a2).1 (a0, a1, a2).2.1 (a0, a1, a2).2.2 = x at *
  generalize hy : numS (b0, b1, b2).1 (b0, b1, b2).2.1 (b0, b1, b2).2.2 = y at *
  clear hx hy
  unfold agg at *
  simp only at HNA HNB HX hg ⊢
  have g1 : (a0 == 4) = false := beq_eq_false_iff_ne.mpr (fun e => hg (.inl e))
  have g2 : (b0 == 4) = false := beq_eq_false_iff_ne.mpr (fun e => hg (.inr e))
  clear hg
  have e0 : (s.toList == [43]) = true := by rw [hs]; decide
  clear hs
  go_enter Tryd.func14, Tryd.ntmps14
  go_wp2
  have hS := Aside0.mk HX.out.drew
  refine start_ (n := 8) (S := fun W' => W'.cell? ⟨w.heap.size, 0, none⟩ = some (.int .i64 a0) ∧ W'.cell? ⟨w.heap.size, 1, none⟩ = some (.int .i64 a1) ∧ W'.cell? ⟨w.heap.size, 2, none⟩ = some (.string a2) ∧ W'.cell? ⟨w.heap.size + 1, 0, none⟩ = some (.int .i64 b0) ∧ W'.cell? ⟨w.heap.size + 1, 1, none⟩ = some (.int .i64 b1) ∧ W'.cell? ⟨w.heap.size + 1, 2, none⟩ = some (.string b2)) (ds := [6]) #[false, false, false, false, false, false, false, false] (by kernel_rfl) rfl rfl hS.out.six (fun hHeld => ?_)
  refine with_tabW rtab8 rbits8 (fun HT_ HW_ => ?_)
  generalize ((((w.alloc (.cells #[.int .i64 a0, .int .i64 a1, .string a2] 23)).alloc (.cells #[.int .i64 b0, .int .i64 b1, .string b2] 23)).alloc (.cells #[.int .i64 0, .int .i64 0, .string ⟨#[]⟩] 23))).drew = w0 at hS hHeld ⊢
  clear HX
  refine take_ (i := 0) (N := some 31) (v := ?_) (a' := ?_) #[true, false, false, false, false, false, false, false] rfl rfl (take_ofW HT_.out HW_.out (by kernel_rfl)) (fun _ _ _ h => h) (Or.inl ⟨by rfl, ?_⟩) hHeld ?_ ?_
  rotate_left
  · rintro w' ⟨s0, s1, s2, s3, s4, s5⟩
    go_simp
    with_reducible rfl
  rotate_left
  · simp only [Act.put, List.setIfInBounds_toArray, List.set_cons_zero, List.set_cons_succ, i64_w, i32_w]
    rfl
  refine take_ (i := 2) (N := some 33) (v := ?_) (a' := ?_) #[true, false, true, false, false, false, false, false] rfl rfl (take_ofW HT_.out HW_.out (by kernel_rfl)) (fun _ _ _ h => h) (Or.inl ⟨by rfl, ?_⟩) hHeld ?_ ?_
  rotate_left
  · rintro w' ⟨s0, s1, s2, s3, s4, s5⟩
    go_simp
    with_reducible rfl
  rotate_left
  · simp only [Act.put, List.setIfInBounds_toArray, List.set_cons_zero, List.set_cons_succ, i64_w, i32_w]
    rfl
  refine one_ (i := 1) (N := some 32) #[true, true, true, false, false, false, false, false] rfl rfl (one_of HT_.out (by kernel_rfl)) (by decide) (fun K hK => ?_)
  refine goes_ Tryd.func23 (by kernel_rfl) rfl #[.agg #[.int .i64 a0, .int .i64 a1, .string a2]] (by rfl) rfl rfl (by (try simp only [List.map_toArray, List.map_cons, List.map_nil]); first | done | rfl) ?_
  refine (HNA.out _).mono ?_
  rintro e w1 ⟨rfl, hb⟩
  refine ⟨_, rfl, ?_⟩
  have hS1 := Aside0.mk (hS.out.step hb)
  clear hb hS
  refine hK.out _ _ hS1.out.six (fun hHeld => ?_)
  clear hK K
  refine norm_ (a' := ?_) ?_ ?_
  rotate_left
  · show Act.put _ (some 32) _ = _
    simp only [Act.put, List.setIfInBounds_toArray, List.set_cons_zero, List.set_cons_succ, i64_w, i32_w]
    rfl
  refine one_ (i := 3) (N := some 34) #[true, true, true, true, false, false, false, false] rfl rfl (one_of HT_.out (by kernel_rfl)) (by decide) (fun K hK => ?_)
  refine goes_ Tryd.func23 (by kernel_rfl) rfl #[.agg #[.int .i64 b0, .int .i64 b1, .string b2]] (by rfl) rfl rfl (by (try simp only [List.map_toArray, List.map_cons, List.map_nil]); first | done | rfl) ?_
  refine (HNB.out _).mono ?_
  rintro e w3 ⟨rfl, hb⟩
  refine ⟨_, rfl, ?_⟩
  have hS3 := Aside0.mk (hS1.out.step hb)
  clear hb hS1
  refine hK.out _ _ hS3.out.six (fun hHeld => ?_)
  clear hK K
  refine norm_ (a' := ?_) ?_ ?_
  rotate_left
  · show Act.put _ (some 34) _ = _
    simp only [Act.put, List.setIfInBounds_toArray, List.set_cons_zero, List.set_cons_succ, i64_w, i32_w]
    rfl
  refine pure_ (i := 4) (N := some 35) (v := ?_) (a' := ?_) #[true, true, true, true, true, false, false, false] rfl rfl (any_of HT_.out (by kernel_rfl)) (fun _ _ _ h => h) (Or.inl ⟨by rfl, ?_⟩) ?_ ?_
  rotate_left
  · intro w'
    go_simp
    with_reducible rfl
  rotate_left
  · simp only [Act.put, List.setIfInBounds_toArray, List.set_cons_zero, List.set_cons_succ, i64_w, i32_w]
    rfl
  refine pure_ (i := 5) (N := some 36) (v := ?_) (a' := ?_) #[true, true, true, true, true, true, false, false] rfl rfl (any_of HT_.out (by kernel_rfl)) (fun _ _ _ h => h) (Or.inl ⟨by rfl, ?_⟩) ?_ ?_
  rotate_left
  · intro w'
    go_simp
    with_reducible rfl
  rotate_left
  · simp only [Act.put, List.setIfInBounds_toArray, List.set_cons_zero, List.set_cons_succ, i64_w, i32_w]
    rfl
  refine last_ (i := 6) (N := none) #[true, true, true, true, true, true, true, false] rfl rfl (one_of HT_.out (by kernel_rfl)) (by decide) (fun K hK => ?_)
  obtain ⟨⟨hc0, hc1, hc2⟩, hf0, hf1, hf2⟩ := hS3.out.res
  refine skip_ (w1 := ?_) (by rfl) rfl ?_ ?_
  rotate_left
  · go_simp
    rfl
  refine hK.out _ _ ?_
  clear hK K
  refine pure_ (i := 7) (N := some 7) (v := ?_) (a' := ?_) #[true, true, true, true, true, true, true, true] rfl rfl (any_of HT_.out (by kernel_rfl)) (fun _ _ _ h => h) (Or.inl ⟨by rfl, ?_⟩) ?_ ?_
  rotate_left
  · intro w'
    go_simp
    with_reducible rfl
  rotate_left
  · simp only [Act.put, List.setIfInBounds_toArray, List.set_cons_zero, List.set_cons_succ, i64_w, i32_w]
    rfl
  refine done_ (done_of HT_.out (by kernel_rfl)) ?_
  try go_wp2
  refine bodyPost_ret (results_ct rfl _ _ (w.heap.size + 1 + 1) 23 #[_, _, _] (0, 0) _ rfl (blk_set (blk_set (blk_set hS3.out.bk 0 _) 1 _) 2 _) Tryd.underlying23 rfl (by kernel_rfl)) rfl ⟨rfl, below_set (below_set (below_set hS3.out.bel (by omega)) (by omega)) (by omega)⟩
set_option maxHeartbeats 4000000 in
set_option maxRecDepth 100000 in
theorem rtwo_texta (s : ByteArray) (a b : VR) (ha : Fits a) (hb : Fits b) (hs : s.toList = [43]) (hg : a.1 = 4) (w : World) :
    Calls Tryd.prog 14 #[.string s, agg a, agg b] w (TwoPost w (if 65536 < (keyS a.1 a.2.1 a.2.2 ++ keyS b.1 b.2.1 b.2.2).size then ((0, 0, ⟨#[]⟩), 61) else ((4, 0, keyS a.1 a.2.1 a.2.2 ++ keyS b.1 b.2.1 b.2.2), 0))) := by
  have HNA := Aside0.mk (fun W => rkey_run a ha W)
  have HNB := Aside0.mk (fun W => rkey_run b hb W)
  have HX := Aside0.mk (TwoS.boxes w a b)
  have hz1 := keyS_size a.1 a.2.1 a.2.2 ha.num
  have hz2 := keyS_size b.1 b.2.1 b.2.2 hb.num
  have hz3 := ha.size
  have hz4 := hb.size
  have hz : (keyS a.1 a.2.1 a.2.2).size + (keyS b.1 b.2.1 b.2.2).size ≤ 9223372036854775807 := by omega
  obtain ⟨a0, a1, a2⟩ := a
  obtain ⟨b0, b1, b2⟩ := b
  clear ha hb hz1 hz2 hz3 hz4
  generalize hx : keyS (a0, a1, a2).1 (a0, a1, a2).2.1 (a0, a1, a2).2.2 = x at *
  generalize hy : keyS (b0, b1, b2).1 (b0, b1, b2).2.1 (b0, b1, b2).2.2 = y at *
  clear hx hy
  unfold agg at *
  simp only at HNA HNB HX hg ⊢
  have hzn : ¬ 9223372036854775807 < x.size + y.size := by omega
  have g1 : (a0 == 4) = true := beq_iff_eq.mpr hg
  clear hg
  have e0 : (s.toList == [43]) = true := by rw [hs]; decide
  clear hs
  by_cases h65 : 65536 < (x ++ y).size
  case pos =>
    rw [if_pos h65]
    have H65 := Aside0.mk h65
    clear h65
    go_enter Tryd.func14, Tryd.ntmps14
    go_wp2
    have hS := Aside0.mk HX.out.drew
    refine start_ (n := 6) (S := fun W' => W'.cell? ⟨w.heap.size, 0, none⟩ = some (.int .i64 a0) ∧ W'.cell? ⟨w.heap.size, 1, none⟩ = some (.int .i64 a1) ∧ W'.cell? ⟨w.heap.size, 2, none⟩ = some (.string a2) ∧ W'.cell? ⟨w.heap.size + 1, 0, none⟩ = some (.int .i64 b0) ∧ W'.cell? ⟨w.heap.size + 1, 1, none⟩ = some (.int .i64 b1) ∧ W'.cell? ⟨w.heap.size + 1, 2, none⟩ = some (.string b2)) (ds := []) #[false, false, false, false, false, false] (by kernel_rfl) rfl rfl hS.out.six (fun hHeld => ?_)
    generalize ((((w.alloc (.cells #[.int .i64 a0, .int .i64 a1, .string a2] 23)).alloc (.cells #[.int .i64 b0, .int .i64 b1, .string b2] 23)).alloc (.cells #[.int .i64 0, .int .i64 0, .string ⟨#[]⟩] 23))).drew = w0 at hS hHeld ⊢
    clear HX
    refine take_ (i := 0) (N := some 20) (v := ?_) (a' := ?_) #[true, false, false, false, false, false] rfl rfl (by kernel_rfl) (fun _ _ _ h => h) (Or.inl ⟨by rfl, ?_⟩) hHeld ?_ ?_
    rotate_left
    · rintro w' ⟨s0, s1, s2, s3, s4, s5⟩
      go_simp
      with_reducible rfl
    rotate_left
    · simp only [Act.put, List.setIfInBounds_toArray, List.set_cons_zero, List.set_cons_succ, i64_w, i32_w]
      rfl
    refine take_ (i := 2) (N := some 22) (v := ?_) (a' := ?_) #[true, false, true, false, false, false] rfl rfl (by kernel_rfl) (fun _ _ _ h => h) (Or.inl ⟨by rfl, ?_⟩) hHeld ?_ ?_
    rotate_left
    · rintro w' ⟨s0, s1, s2, s3, s4, s5⟩
      go_simp
      with_reducible rfl
    rotate_left
    · simp only [Act.put, List.setIfInBounds_toArray, List.set_cons_zero, List.set_cons_succ, i64_w, i32_w]
      rfl
    refine one_ (i := 1) (N := some 21) #[true, true, true, false, false, false] rfl rfl (by kernel_rfl) (by decide) (fun K hK => ?_)
    refine goes_ Tryd.func22 (by kernel_rfl) rfl #[.agg #[.int .i64 a0, .int .i64 a1, .string a2]] (by rfl) rfl rfl (by (try simp only [List.map_toArray, List.map_cons, List.map_nil]); first | done | rfl) ?_
    refine (HNA.out _).mono ?_
    rintro e w1 ⟨rfl, hb⟩
    refine ⟨_, rfl, ?_⟩
    have hS1 := Aside0.mk (hS.out.step hb)
    clear hb hS
    refine hK.out _ _ hS1.out.six (fun hHeld => ?_)
    clear hK K
    refine norm_ (a' := ?_) ?_ ?_
    rotate_left
    · show Act.put _ (some 21) _ = _
      simp only [Act.put, List.setIfInBounds_toArray, List.set_cons_zero, List.set_cons_succ, i64_w, i32_w]
      rfl
    refine one_ (i := 3) (N := some 23) #[true, true, true, true, false, false] rfl rfl (by kernel_rfl) (by decide) (fun K hK => ?_)
    refine goes_ Tryd.func22 (by kernel_rfl) rfl #[.agg #[.int .i64 b0, .int .i64 b1, .string b2]] (by rfl) rfl rfl (by (try simp only [List.map_toArray, List.map_cons, List.map_nil]); first | done | rfl) ?_
    refine (HNB.out _).mono ?_
    rintro e w3 ⟨rfl, hb⟩
    refine ⟨_, rfl, ?_⟩
    have hS3 := Aside0.mk (hS1.out.step hb)
    clear hb hS1
    refine hK.out _ _ hS3.out.six (fun hHeld => ?_)
    clear hK K
    refine norm_ (a' := ?_) ?_ ?_
    rotate_left
    · show Act.put _ (some 23) _ = _
      simp only [Act.put, List.setIfInBounds_toArray, List.set_cons_zero, List.set_cons_succ, i64_w, i32_w]
      rfl
    refine pure_ (i := 4) (N := some 24) (v := ?_) (a' := ?_) #[true, true, true, true, true, false] rfl rfl (by kernel_rfl) (fun _ _ _ h => h) (Or.inl ⟨by rfl, ?_⟩) ?_ ?_
    rotate_left
    · intro w'
      go_simp
      first | with_reducible rfl | (rw [if_neg hzn])
    rotate_left
    · simp only [Act.put, List.setIfInBounds_toArray, List.set_cons_zero, List.set_cons_succ, i64_w, i32_w]
      rfl
    refine pure_ (i := 5) (N := some 8) (v := ?_) (a' := ?_) #[true, true, true, true, true, true] rfl rfl (by kernel_rfl) (fun _ _ _ h => h) (Or.inl ⟨by rfl, ?_⟩) ?_ ?_
    rotate_left
    · intro w'
      go_simp
      first | with_reducible rfl | (rw [if_neg hzn])
    rotate_left
    · simp only [Act.put, List.setIfInBounds_toArray, List.set_cons_zero, List.set_cons_succ, i64_w, i32_w]
      rfl
    refine done_ (by kernel_rfl) ?_
    have hz' : (x ++ y).size ≤ 9223372036854775807 := by rw [ByteArray.size_append]; exact hz
    clear hz hzn
    generalize x ++ y = t at *
    obtain ⟨⟨hc0, hc1, hc2⟩, hf0, hf1, hf2⟩ := hS3.out.res
    have h65 := H65.out
    have hgt : (65536 : Int) < (t.size : Int) := by omega
    go_wp2
    refine bodyPost_ret (results_ct rfl _ _ (w.heap.size + 1 + 1) 23 #[_, _, _] (0, 0) _ rfl (blk_set (blk_set (blk_set hS3.out.bk 0 _) 1 _) 2 _) Tryd.underlying23 rfl (by kernel_rfl)) rfl ⟨rfl, below_set (below_set (below_set hS3.out.bel (by omega)) (by omega)) (by omega)⟩
  case neg =>
    rw [if_neg h65]
    have H65 := Aside0.mk h65
    clear h65
    go_enter Tryd.func14, Tryd.ntmps14
    go_wp2
    have hS := Aside0.mk HX.out.drew
    refine start_ (n := 6) (S := fun W' => W'.cell? ⟨w.heap.size, 0, none⟩ = some (.int .i64 a0) ∧ W'.cell? ⟨w.heap.size, 1, none⟩ = some (.int .i64 a1) ∧ W'.cell? ⟨w.heap.size, 2, none⟩ = some (.string a2) ∧ W'.cell? ⟨w.heap.size + 1, 0, none⟩ = some (.int .i64 b0) ∧ W'.cell? ⟨w.heap.size + 1, 1, none⟩ = some (.int .i64 b1) ∧ W'.cell? ⟨w.heap.size + 1, 2, none⟩ = some (.string b2)) (ds := []) #[false, false, false, false, false, false] (by kernel_rfl) rfl rfl hS.out.six (fun hHeld => ?_)
    generalize ((((w.alloc (.cells #[.int .i64 a0, .int .i64 a1, .string a2] 23)).alloc (.cells #[.int .i64 b0, .int .i64 b1, .string b2] 23)).alloc (.cells #[.int .i64 0, .int .i64 0, .string ⟨#[]⟩] 23))).drew = w0 at hS hHeld ⊢
    clear HX
    refine take_ (i := 0) (N := some 20) (v := ?_) (a' := ?_) #[true, false, false, false, false, false] rfl rfl (by kernel_rfl) (fun _ _ _ h => h) (Or.inl ⟨by rfl, ?_⟩) hHeld ?_ ?_
    rotate_left
    · rintro w' ⟨s0, s1, s2, s3, s4, s5⟩
      go_simp
      with_reducible rfl
    rotate_left
    · simp only [Act.put, List.setIfInBounds_toArray, List.set_cons_zero, List.set_cons_succ, i64_w, i32_w]
      rfl
    refine take_ (i := 2) (N := some 22) (v := ?_) (a' := ?_) #[true, false, true, false, false, false] rfl rfl (by kernel_rfl) (fun _ _ _ h => h) (Or.inl ⟨by rfl, ?_⟩) hHeld ?_ ?_
    rotate_left
    · rintro w' ⟨s0, s1, s2, s3, s4, s5⟩
      go_simp
      with_reducible rfl
    rotate_left
    · simp only [Act.put, List.setIfInBounds_toArray, List.set_cons_zero, List.set_cons_succ, i64_w, i32_w]
      rfl
    refine one_ (i := 1) (N := some 21) #[true, true, true, false, false, false] rfl rfl (by kernel_rfl) (by decide) (fun K hK => ?_)
    refine goes_ Tryd.func22 (by kernel_rfl) rfl #[.agg #[.int .i64 a0, .int .i64 a1, .string a2]] (by rfl) rfl rfl (by (try simp only [List.map_toArray, List.map_cons, List.map_nil]); first | done | rfl) ?_
    refine (HNA.out _).mono ?_
    rintro e w1 ⟨rfl, hb⟩
    refine ⟨_, rfl, ?_⟩
    have hS1 := Aside0.mk (hS.out.step hb)
    clear hb hS
    refine hK.out _ _ hS1.out.six (fun hHeld => ?_)
    clear hK K
    refine norm_ (a' := ?_) ?_ ?_
    rotate_left
    · show Act.put _ (some 21) _ = _
      simp only [Act.put, List.setIfInBounds_toArray, List.set_cons_zero, List.set_cons_succ, i64_w, i32_w]
      rfl
    refine one_ (i := 3) (N := some 23) #[true, true, true, true, false, false] rfl rfl (by kernel_rfl) (by decide) (fun K hK => ?_)
    refine goes_ Tryd.func22 (by kernel_rfl) rfl #[.agg #[.int .i64 b0, .int .i64 b1, .string b2]] (by rfl) rfl rfl (by (try simp only [List.map_toArray, List.map_cons, List.map_nil]); first | done | rfl) ?_
    refine (HNB.out _).mono ?_
    rintro e w3 ⟨rfl, hb⟩
    refine ⟨_, rfl, ?_⟩
    have hS3 := Aside0.mk (hS1.out.step hb)
    clear hb hS1
    refine hK.out _ _ hS3.out.six (fun hHeld => ?_)
    clear hK K
    refine norm_ (a' := ?_) ?_ ?_
    rotate_left
    · show Act.put _ (some 23) _ = _
      simp only [Act.put, List.setIfInBounds_toArray, List.set_cons_zero, List.set_cons_succ, i64_w, i32_w]
      rfl
    refine pure_ (i := 4) (N := some 24) (v := ?_) (a' := ?_) #[true, true, true, true, true, false] rfl rfl (by kernel_rfl) (fun _ _ _ h => h) (Or.inl ⟨by rfl, ?_⟩) ?_ ?_
    rotate_left
    · intro w'
      go_simp
      first | with_reducible rfl | (rw [if_neg hzn])
    rotate_left
    · simp only [Act.put, List.setIfInBounds_toArray, List.set_cons_zero, List.set_cons_succ, i64_w, i32_w]
      rfl
    refine pure_ (i := 5) (N := some 8) (v := ?_) (a' := ?_) #[true, true, true, true, true, true] rfl rfl (by kernel_rfl) (fun _ _ _ h => h) (Or.inl ⟨by rfl, ?_⟩) ?_ ?_
    rotate_left
    · intro w'
      go_simp
      first | with_reducible rfl | (rw [if_neg hzn])
    rotate_left
    · simp only [Act.put, List.setIfInBounds_toArray, List.set_cons_zero, List.set_cons_succ, i64_w, i32_w]
      rfl
    refine done_ (by kernel_rfl) ?_
    have hz' : (x ++ y).size ≤ 9223372036854775807 := by rw [ByteArray.size_append]; exact hz
    clear hz hzn
    generalize x ++ y = t at *
    obtain ⟨⟨hc0, hc1, hc2⟩, hf0, hf1, hf2⟩ := hS3.out.res
    have h65 := H65.out
    have hgt : ¬ (65536 : Int) < (t.size : Int) := by omega
    go_wp2
    refine bodyPost_ret (results_ct rfl _ _ (w.heap.size + 1 + 1) 23 #[_, _, _] (0, 0) _ rfl (blk_set (blk_set (blk_set hS3.out.bk 0 _) 1 _) 2 _) Tryd.underlying23 rfl (by kernel_rfl)) rfl ⟨rfl, below_set (below_set (below_set hS3.out.bel (by omega)) (by omega)) (by omega)⟩
set_option maxHeartbeats 4000000 in
set_option maxRecDepth 100000 in
theorem rtwo_textb (s : ByteArray) (a b : VR) (ha : Fits a) (hb : Fits b) (hs : s.toList = [43]) (hg : ¬ a.1 = 4 ∧ b.1 = 4) (w : World) :
    Calls Tryd.prog 14 #[.string s, agg a, agg b] w (TwoPost w (if 65536 < (keyS a.1 a.2.1 a.2.2 ++ keyS b.1 b.2.1 b.2.2).size then ((0, 0, ⟨#[]⟩), 61) else ((4, 0, keyS a.1 a.2.1 a.2.2 ++ keyS b.1 b.2.1 b.2.2), 0))) := by
  have HNA := Aside0.mk (fun W => rkey_run a ha W)
  have HNB := Aside0.mk (fun W => rkey_run b hb W)
  have HX := Aside0.mk (TwoS.boxes w a b)
  have hz1 := keyS_size a.1 a.2.1 a.2.2 ha.num
  have hz2 := keyS_size b.1 b.2.1 b.2.2 hb.num
  have hz3 := ha.size
  have hz4 := hb.size
  have hz : (keyS a.1 a.2.1 a.2.2).size + (keyS b.1 b.2.1 b.2.2).size ≤ 9223372036854775807 := by omega
  obtain ⟨a0, a1, a2⟩ := a
  obtain ⟨b0, b1, b2⟩ := b
  clear ha hb hz1 hz2 hz3 hz4
  generalize hx : keyS (a0, a1, a2).1 (a0, a1, a2).2.1 (a0, a1, a2).2.2 = x at *
  generalize hy : keyS (b0, b1, b2).1 (b0, b1, b2).2.1 (b0, b1, b2).2.2 = y at *
  clear hx hy
  unfold agg at *
  simp only at HNA HNB HX hg ⊢
  have hzn : ¬ 9223372036854775807 < x.size + y.size := by omega
  have g1 : (a0 == 4) = false := beq_eq_false_iff_ne.mpr hg.1
  have g2 : (b0 == 4) = true := beq_iff_eq.mpr hg.2
  clear hg
  have e0 : (s.toList == [43]) = true := by rw [hs]; decide
  clear hs
  by_cases h65 : 65536 < (x ++ y).size
  case pos =>
    rw [if_pos h65]
    have H65 := Aside0.mk h65
    clear h65
    go_enter Tryd.func14, Tryd.ntmps14
    go_wp2
    have hS := Aside0.mk HX.out.drew
    refine start_ (n := 6) (S := fun W' => W'.cell? ⟨w.heap.size, 0, none⟩ = some (.int .i64 a0) ∧ W'.cell? ⟨w.heap.size, 1, none⟩ = some (.int .i64 a1) ∧ W'.cell? ⟨w.heap.size, 2, none⟩ = some (.string a2) ∧ W'.cell? ⟨w.heap.size + 1, 0, none⟩ = some (.int .i64 b0) ∧ W'.cell? ⟨w.heap.size + 1, 1, none⟩ = some (.int .i64 b1) ∧ W'.cell? ⟨w.heap.size + 1, 2, none⟩ = some (.string b2)) (ds := []) #[false, false, false, false, false, false] (by kernel_rfl) rfl rfl hS.out.six (fun hHeld => ?_)
    generalize ((((w.alloc (.cells #[.int .i64 a0, .int .i64 a1, .string a2] 23)).alloc (.cells #[.int .i64 b0, .int .i64 b1, .string b2] 23)).alloc (.cells #[.int .i64 0, .int .i64 0, .string ⟨#[]⟩] 23))).drew = w0 at hS hHeld ⊢
    clear HX
    refine take_ (i := 0) (N := some 20) (v := ?_) (a' := ?_) #[true, false, false, false, false, false] rfl rfl (by kernel_rfl) (fun _ _ _ h => h) (Or.inl ⟨by rfl, ?_⟩) hHeld ?_ ?_
    rotate_left
    · rintro w' ⟨s0, s1, s2, s3, s4, s5⟩
      go_simp
      with_reducible rfl
    rotate_left
    · simp only [Act.put, List.setIfInBounds_toArray, List.set_cons_zero, List.set_cons_succ, i64_w, i32_w]
      rfl
    refine take_ (i := 2) (N := some 22) (v := ?_) (a' := ?_) #[true, false, true, false, false, false] rfl rfl (by kernel_rfl) (fun _ _ _ h => h) (Or.inl ⟨by rfl, ?_⟩) hHeld ?_ ?_
    rotate_left
    · rintro w' ⟨s0, s1, s2, s3, s4, s5⟩
      go_simp
      with_reducible rfl
    rotate_left
    · simp only [Act.put, List.setIfInBounds_toArray, List.set_cons_zero, List.set_cons_succ, i64_w, i32_w]
      rfl
    refine one_ (i := 1) (N := some 21) #[true, true, true, false, false, false] rfl rfl (by kernel_rfl) (by decide) (fun K hK => ?_)
    refine goes_ Tryd.func22 (by kernel_rfl) rfl #[.agg #[.int .i64 a0, .int .i64 a1, .string a2]] (by rfl) rfl rfl (by (try simp only [List.map_toArray, List.map_cons, List.map_nil]); first | done | rfl) ?_
    refine (HNA.out _).mono ?_
    rintro e w1 ⟨rfl, hb⟩
    refine ⟨_, rfl, ?_⟩
    have hS1 := Aside0.mk (hS.out.step hb)
    clear hb hS
    refine hK.out _ _ hS1.out.six (fun hHeld => ?_)
    clear hK K
    refine norm_ (a' := ?_) ?_ ?_
    rotate_left
    · show Act.put _ (some 21) _ = _
      simp only [Act.put, List.setIfInBounds_toArray, List.set_cons_zero, List.set_cons_succ, i64_w, i32_w]
      rfl
    refine one_ (i := 3) (N := some 23) #[true, true, true, true, false, false] rfl rfl (by kernel_rfl) (by decide) (fun K hK => ?_)
    refine goes_ Tryd.func22 (by kernel_rfl) rfl #[.agg #[.int .i64 b0, .int .i64 b1, .string b2]] (by rfl) rfl rfl (by (try simp only [List.map_toArray, List.map_cons, List.map_nil]); first | done | rfl) ?_
    refine (HNB.out _).mono ?_
    rintro e w3 ⟨rfl, hb⟩
    refine ⟨_, rfl, ?_⟩
    have hS3 := Aside0.mk (hS1.out.step hb)
    clear hb hS1
    refine hK.out _ _ hS3.out.six (fun hHeld => ?_)
    clear hK K
    refine norm_ (a' := ?_) ?_ ?_
    rotate_left
    · show Act.put _ (some 23) _ = _
      simp only [Act.put, List.setIfInBounds_toArray, List.set_cons_zero, List.set_cons_succ, i64_w, i32_w]
      rfl
    refine pure_ (i := 4) (N := some 24) (v := ?_) (a' := ?_) #[true, true, true, true, true, false] rfl rfl (by kernel_rfl) (fun _ _ _ h => h) (Or.inl ⟨by rfl, ?_⟩) ?_ ?_
    rotate_left
    · intro w'
      go_simp
      first | with_reducible rfl | (rw [if_neg hzn])
    rotate_left
    · simp only [Act.put, List.setIfInBounds_toArray, List.set_cons_zero, List.set_cons_succ, i64_w, i32_w]
      rfl
    refine pure_ (i := 5) (N := some 8) (v := ?_) (a' := ?_) #[true, true, true, true, true, true] rfl rfl (by kernel_rfl) (fun _ _ _ h => h) (Or.inl ⟨by rfl, ?_⟩) ?_ ?_
    rotate_left
    · intro w'
      go_simp
      first | with_reducible rfl | (rw [if_neg hzn])
    rotate_left
    · simp only [Act.put, List.setIfInBounds_toArray, List.set_cons_zero, List.set_cons_succ, i64_w, i32_w]
      rfl
    refine done_ (by kernel_rfl) ?_
    have hz' : (x ++ y).size ≤ 9223372036854775807 := by rw [ByteArray.size_append]; exact hz
    clear hz hzn
    generalize x ++ y = t at *
    obtain ⟨⟨hc0, hc1, hc2⟩, hf0, hf1, hf2⟩ := hS3.out.res
    have h65 := H65.out
    have hgt : (65536 : Int) < (t.size : Int) := by omega
    go_wp2
    refine bodyPost_ret (results_ct rfl _ _ (w.heap.size + 1 + 1) 23 #[_, _, _] (0, 0) _ rfl (blk_set (blk_set (blk_set hS3.out.bk 0 _) 1 _) 2 _) Tryd.underlying23 rfl (by kernel_rfl)) rfl ⟨rfl, below_set (below_set (below_set hS3.out.bel (by omega)) (by omega)) (by omega)⟩
  case neg =>
    rw [if_neg h65]
    have H65 := Aside0.mk h65
    clear h65
    go_enter Tryd.func14, Tryd.ntmps14
    go_wp2
    have hS := Aside0.mk HX.out.drew
    refine start_ (n := 6) (S := fun W' => W'.cell? ⟨w.heap.size, 0, none⟩ = some (.int .i64 a0) ∧ W'.cell? ⟨w.heap.size, 1, none⟩ = some (.int .i64 a1) ∧ W'.cell? ⟨w.heap.size, 2, none⟩ = some (.string a2) ∧ W'.cell? ⟨w.heap.size + 1, 0, none⟩ = some (.int .i64 b0) ∧ W'.cell? ⟨w.heap.size + 1, 1, none⟩ = some (.int .i64 b1) ∧ W'.cell? ⟨w.heap.size + 1, 2, none⟩ = some (.string b2)) (ds := []) #[false, false, false, false, false, false] (by kernel_rfl) rfl rfl hS.out.six (fun hHeld => ?_)
    generalize ((((w.alloc (.cells #[.int .i64 a0, .int .i64 a1, .string a2] 23)).alloc (.cells #[.int .i64 b0, .int .i64 b1, .string b2] 23)).alloc (.cells #[.int .i64 0, .int .i64 0, .string ⟨#[]⟩] 23))).drew = w0 at hS hHeld ⊢
    clear HX
    refine take_ (i := 0) (N := some 20) (v := ?_) (a' := ?_) #[true, false, false, false, false, false] rfl rfl (by kernel_rfl) (fun _ _ _ h => h) (Or.inl ⟨by rfl, ?_⟩) hHeld ?_ ?_
    rotate_left
    · rintro w' ⟨s0, s1, s2, s3, s4, s5⟩
      go_simp
      with_reducible rfl
    rotate_left
    · simp only [Act.put, List.setIfInBounds_toArray, List.set_cons_zero, List.set_cons_succ, i64_w, i32_w]
      rfl
    refine take_ (i := 2) (N := some 22) (v := ?_) (a' := ?_) #[true, false, true, false, false, false] rfl rfl (by kernel_rfl) (fun _ _ _ h => h) (Or.inl ⟨by rfl, ?_⟩) hHeld ?_ ?_
    rotate_left
    · rintro w' ⟨s0, s1, s2, s3, s4, s5⟩
      go_simp
      with_reducible rfl
    rotate_left
    · simp only [Act.put, List.setIfInBounds_toArray, List.set_cons_zero, List.set_cons_succ, i64_w, i32_w]
      rfl
    refine one_ (i := 1) (N := some 21) #[true, true, true, false, false, false] rfl rfl (by kernel_rfl) (by decide) (fun K hK => ?_)
    refine goes_ Tryd.func22 (by kernel_rfl) rfl #[.agg #[.int .i64 a0, .int .i64 a1, .string a2]] (by rfl) rfl rfl (by (try simp only [List.map_toArray, List.map_cons, List.map_nil]); first | done | rfl) ?_
    refine (HNA.out _).mono ?_
    rintro e w1 ⟨rfl, hb⟩
    refine ⟨_, rfl, ?_⟩
    have hS1 := Aside0.mk (hS.out.step hb)
    clear hb hS
    refine hK.out _ _ hS1.out.six (fun hHeld => ?_)
    clear hK K
    refine norm_ (a' := ?_) ?_ ?_
    rotate_left
    · show Act.put _ (some 21) _ = _
      simp only [Act.put, List.setIfInBounds_toArray, List.set_cons_zero, List.set_cons_succ, i64_w, i32_w]
      rfl
    refine one_ (i := 3) (N := some 23) #[true, true, true, true, false, false] rfl rfl (by kernel_rfl) (by decide) (fun K hK => ?_)
    refine goes_ Tryd.func22 (by kernel_rfl) rfl #[.agg #[.int .i64 b0, .int .i64 b1, .string b2]] (by rfl) rfl rfl (by (try simp only [List.map_toArray, List.map_cons, List.map_nil]); first | done | rfl) ?_
    refine (HNB.out _).mono ?_
    rintro e w3 ⟨rfl, hb⟩
    refine ⟨_, rfl, ?_⟩
    have hS3 := Aside0.mk (hS1.out.step hb)
    clear hb hS1
    refine hK.out _ _ hS3.out.six (fun hHeld => ?_)
    clear hK K
    refine norm_ (a' := ?_) ?_ ?_
    rotate_left
    · show Act.put _ (some 23) _ = _
      simp only [Act.put, List.setIfInBounds_toArray, List.set_cons_zero, List.set_cons_succ, i64_w, i32_w]
      rfl
    refine pure_ (i := 4) (N := some 24) (v := ?_) (a' := ?_) #[true, true, true, true, true, false] rfl rfl (by kernel_rfl) (fun _ _ _ h => h) (Or.inl ⟨by rfl, ?_⟩) ?_ ?_
    rotate_left
    · intro w'
      go_simp
      first | with_reducible rfl | (rw [if_neg hzn])
    rotate_left
    · simp only [Act.put, List.setIfInBounds_toArray, List.set_cons_zero, List.set_cons_succ, i64_w, i32_w]
      rfl
    refine pure_ (i := 5) (N := some 8) (v := ?_) (a' := ?_) #[true, true, true, true, true, true] rfl rfl (by kernel_rfl) (fun _ _ _ h => h) (Or.inl ⟨by rfl, ?_⟩) ?_ ?_
    rotate_left
    · intro w'
      go_simp
      first | with_reducible rfl | (rw [if_neg hzn])
    rotate_left
    · simp only [Act.put, List.setIfInBounds_toArray, List.set_cons_zero, List.set_cons_succ, i64_w, i32_w]
      rfl
    refine done_ (by kernel_rfl) ?_
    have hz' : (x ++ y).size ≤ 9223372036854775807 := by rw [ByteArray.size_append]; exact hz
    clear hz hzn
    generalize x ++ y = t at *
    obtain ⟨⟨hc0, hc1, hc2⟩, hf0, hf1, hf2⟩ := hS3.out.res
    have h65 := H65.out
    have hgt : ¬ (65536 : Int) < (t.size : Int) := by omega
    go_wp2
    refine bodyPost_ret (results_ct rfl _ _ (w.heap.size + 1 + 1) 23 #[_, _, _] (0, 0) _ rfl (blk_set (blk_set (blk_set hS3.out.bk 0 _) 1 _) 2 _) Tryd.underlying23 rfl (by kernel_rfl)) rfl ⟨rfl, below_set (below_set (below_set hS3.out.bel (by omega)) (by omega)) (by omega)⟩
end Go.Proofs.YtmdchbenalhpjaaDoor.Va

/- gumshoeref06.Two answers what value.Two answers; Neg, Not; the values of a text and of a number. No condition. -/
namespace Go.Proofs.YtmdchbenalhpjaaDoor.Va
open Go.RowKit Go.Proofs.YtmdchbenalhpjaaDoorW.PrintWords Go.Proofs.YtmdchbenalhpjaaDoorW.PrintLast Go.Proofs.YtmdchbenalhpjaaDoorW.PrintMore Go.Proofs.YtmdchbenalhpjaaDoor.Pr Go.Proofs.YtmdchbenalhpjaaDoor.Ev
set_option linter.unusedVariables false
set_option linter.unusedSimpArgs false
theorem small_two (n : Nat) (a b : VR) (h : (mkS n a b).2.2.size = 0) : (if 65536 < (mkS n a b).2.2.size then (((0, 0, ⟨#[]⟩), 61) : VR × Int) else (mkS n a b, 0)) = (mkS n a b, 0) := if_neg (by omega)
theorem rtwo_run (s : ByteArray) (a b : VR) (ha : Fits a) (hb : Fits b) (W : World) : Calls Tryd.prog 14 #[.string s, agg a, agg b] W (TwoPost W (twoS s.data.toList a b)) := by
  have hl : s.toList = s.data.toList := ByteArray.toList_eq s
  by_cases h0 : s.data.toList = [43]
  · have e : sign s.data.toList = some 38 := by rw [h0]; decide
    unfold twoS
    rw [e]
    by_cases hk : a.1 = 4
    · have hm : mkS 38 a b = (4, 0, keyS a.1 a.2.1 a.2.2 ++ keyS b.1 b.2.1 b.2.2) := by unfold mkS; rw [if_pos rfl, if_pos (.inl hk)]
      simp only [hm]
      exact rtwo_texta s a b ha hb (hl.trans h0) hk W
    · by_cases hk2 : b.1 = 4
      · have hm : mkS 38 a b = (4, 0, keyS a.1 a.2.1 a.2.2 ++ keyS b.1 b.2.1 b.2.2) := by unfold mkS; rw [if_pos rfl, if_pos (.inr hk2)]
        simp only [hm]
        exact rtwo_textb s a b ha hb (hl.trans h0) ⟨hk, hk2⟩ W
      · have hm : mkS 38 a b = (3, wrap64 (numS a.1 a.2.1 a.2.2 + numS b.1 b.2.1 b.2.2), ⟨#[]⟩) := by unfold mkS; rw [if_pos rfl, if_neg (fun h => h.elim hk hk2)]
        simp only [small_two _ a b (show (mkS 38 a b).2.2.size = 0 by rw [hm]; rfl), hm]
        exact rtwo_add s a b ha hb (hl.trans h0) (fun h => h.elim hk hk2) W
  by_cases h1 : s.data.toList = [45]
  · have e : sign s.data.toList = some 39 := by rw [h1]; decide
    unfold twoS
    rw [e]
    have hm : mkS 39 a b = (3, wrap64 (numS a.1 a.2.1 a.2.2 - numS b.1 b.2.1 b.2.2), ⟨#[]⟩) := rfl
    simp only [small_two _ a b (show (mkS 39 a b).2.2.size = 0 by rw [hm]; rfl), hm]
    exact rtwo_sub s a b ha hb (hl.trans h1) W
  by_cases h2 : s.data.toList = [42]
  · have e : sign s.data.toList = some 40 := by rw [h2]; decide
    unfold twoS
    rw [e]
    have hm : mkS 40 a b = (3, wrap64 (numS a.1 a.2.1 a.2.2 * numS b.1 b.2.1 b.2.2), ⟨#[]⟩) := rfl
    simp only [small_two _ a b (show (mkS 40 a b).2.2.size = 0 by rw [hm]; rfl), hm]
    exact rtwo_mul s a b ha hb (hl.trans h2) W
  by_cases h3 : s.data.toList = [60]
  · have e : sign s.data.toList = some 41 := by rw [h3]; decide
    unfold twoS
    rw [e]
    have hm : mkS 41 a b = boolS (decide (cmpS a b < 0)) := rfl
    simp only [small_two _ a b (show (mkS 41 a b).2.2.size = 0 by rw [hm]; rfl), hm]
    exact rtwo_lss s a b ha hb (hl.trans h3) W
  by_cases h4 : s.data.toList = [60, 61]
  · have e : sign s.data.toList = some 43 := by rw [h4]; decide
    unfold twoS
    rw [e]
    have hm : mkS 43 a b = boolS (decide (cmpS a b ≤ 0)) := rfl
    simp only [small_two _ a b (show (mkS 43 a b).2.2.size = 0 by rw [hm]; rfl), hm]
    exact rtwo_leq s a b ha hb (hl.trans h4) W
  by_cases h5 : s.data.toList = [61, 61, 61]
  · have e : sign s.data.toList = some 44 := by rw [h5]; decide
    unfold twoS
    rw [e]
    have hm : mkS 44 a b = boolS (eqS a b) := rfl
    simp only [small_two _ a b (show (mkS 44 a b).2.2.size = 0 by rw [hm]; rfl), hm]
    exact rtwo_eql s a b ha hb (hl.trans h5) W
  by_cases h6 : s.data.toList = [33, 61, 61]
  · have e : sign s.data.toList = some 45 := by rw [h6]; decide
    unfold twoS
    rw [e]
    have hm : mkS 45 a b = boolS (!eqS a b) := rfl
    simp only [small_two _ a b (show (mkS 45 a b).2.2.size = 0 by rw [hm]; rfl), hm]
    exact rtwo_neq s a b ha hb (hl.trans h6) W
  have e : sign s.data.toList = none := by
    unfold sign
    rw [if_neg h6, if_neg h5, if_neg h4, if_neg h3, if_neg h2, if_neg h1, if_neg h0]
  have ht : twoS s.data.toList a b = ((0, 0, ⟨#[]⟩), 60) := by unfold twoS; rw [e]
  rw [ht]
  exact rtwo_none s a b e W
theorem rneg_run (a : VR) (ha : Fits a) (W : World) : Calls Tryd.prog 26 #[agg a] W fun e W' => e = .returned (agg (negS a)) ∧ Below W.heap.size W W' := by
  obtain ⟨k, hk⟩ := (rnum_tells a.1 a.2.1 a.2.2 (by have := ha.size; omega)).ex
  exact gumshoeref06_Neg.calls k a.1 a.2.1 a.2.2 _ _ _ W (by unfold gumshoeref06_Neg.f; rw [hk]; rfl)
theorem rnot_run (a : VR) (h : rightS a.1 a.2.1 a.2.2 = true) (W : World) : Calls Tryd.prog 27 #[agg a] W fun e W' => e = .returned (agg (boolS (!truthyS a.1 a.2.1 a.2.2))) ∧ Below W.heap.size W W' :=
  gumshoeref06_Not.calls 6 a.1 a.2.1 a.2.2 _ _ _ W (by
    unfold gumshoeref06_Not.f
    rw [rtruthy_tells _ _ _ h, Option.bind_some]
    unfold gumshoeref06_Bool.f boolS
    cases truthyS a.1 a.2.1 a.2.2 <;> rfl)
theorem text_run (s : ByteArray) (W : World) : Calls Tryd.prog 18 #[.string s] W fun e W' => e = .returned (agg (4, 0, s)) ∧ Below W.heap.size W W' :=
  gumshoelaw06_text.calls s 4 0 s W rfl
theorem num_run (n : Int) (W : World) : Calls Tryd.prog 16 #[.int .i64 n] W fun e W' => e = .returned (agg (3, n, ⟨#[]⟩)) ∧ Below W.heap.size W W' :=
  gumshoelaw06_num.calls n 3 n ⟨#[]⟩ W rfl
end Go.Proofs.YtmdchbenalhpjaaDoor.Va

/- The closed forms of the values' functions, as contracts that hprint takes. No condition. -/
namespace Go.Proofs.YtmdchbenalhpjaaDoor.Vb
open Go.RowKit Go.Proofs.YtmdchbenalhpjaaDoorW.PrintWords Go.Proofs.YtmdchbenalhpjaaDoorW.PrintLast Go.Proofs.YtmdchbenalhpjaaDoorW.PrintMore Go.Proofs.YtmdchbenalhpjaaDoor.Va
set_option linter.unusedVariables false
set_option linter.unusedSimpArgs false
abbrev Laid (w : World) : Prop := Va.Laid w
theorem Laid.below {w w' : World} (h : Laid w) (hb : Below w.heap.size w w') : Laid w' := Va.Laid.below h hb
def FB (n : Int) (s : ByteArray) : Prop := (-9223372036854775808 ≤ n ∧ n ≤ 9223372036854775807) ∧ s.size ≤ 140737488355328
instance (n : Int) (s : ByteArray) : Decidable (FB n s) := inferInstanceAs (Decidable (_ ∧ _))
theorem FB.fits {k n : Int} {s : ByteArray} (h : FB n s) : Fits (k, n, s) := ⟨by have := h.1; simp only [I64]; omega, h.2⟩
def value_Right.f (a0 a1 : Int) (a2 : ByteArray) : Option (Bool) := some (rightS a0 a1 a2)
theorem value_Right.calls (a0_0 a0_1 : Int) (a0_2 : ByteArray) (r : Bool) (w : World) (h : value_Right.f a0_0 a0_1 a0_2 = some r) :
    Calls Tryd.prog 19 #[.agg #[.int .i64 a0_0, .int .i64 a0_1, .string a0_2]] w fun e w' => e = .returned (.bool r) ∧ Below w.heap.size w w' := by
  unfold value_Right.f at h
  cases h
  exact vright_run (a0_0, a0_1, a0_2) w
def value_Key.f (a0 a1 : Int) (a2 : ByteArray) : Option (ByteArray) := if FB a1 a2 then some (keyS a0 a1 a2) else none
theorem value_Key.calls (a0_0 a0_1 : Int) (a0_2 : ByteArray) (r : ByteArray) (w : World) (hL : Laid w) (h : value_Key.f a0_0 a0_1 a0_2 = some r) :
    Calls Tryd.prog 15 #[.agg #[.int .i64 a0_0, .int .i64 a0_1, .string a0_2]] w fun e w' => e = .returned (.string r) ∧ Below w.heap.size w w' := by
  unfold value_Key.f at h
  by_cases hc : FB a0_1 a0_2
  case neg => rw [if_neg hc] at h; cases h
  rw [if_pos hc] at h
  cases h
  exact vkey_run (a0_0, a0_1, a0_2) hc.fits w hL
def value_Num.f (a0 a1 : Int) (a2 : ByteArray) : Option (Int) := if FB a1 a2 then some (numS a0 a1 a2) else none
theorem value_Num.calls (a0_0 a0_1 : Int) (a0_2 : ByteArray) (r : Int) (w : World) (hL : Laid w) (h : value_Num.f a0_0 a0_1 a0_2 = some r) :
    Calls Tryd.prog 17 #[.agg #[.int .i64 a0_0, .int .i64 a0_1, .string a0_2]] w fun e w' => e = .returned (.int .i64 r) ∧ Below w.heap.size w w' := by
  unfold value_Num.f at h
  by_cases hc : FB a0_1 a0_2
  case neg => rw [if_neg hc] at h; cases h
  rw [if_pos hc] at h
  cases h
  exact vnum_run (a0_0, a0_1, a0_2) hc.fits w hL
def value_Truthy.f (a0 a1 : Int) (a2 : ByteArray) : Option (Bool) := some (truthyS a0 a1 a2)
theorem value_Truthy.calls (a0_0 a0_1 : Int) (a0_2 : ByteArray) (r : Bool) (w : World) (h : value_Truthy.f a0_0 a0_1 a0_2 = some r) :
    Calls Tryd.prog 20 #[.agg #[.int .i64 a0_0, .int .i64 a0_1, .string a0_2]] w fun e w' => e = .returned (.bool r) ∧ Below w.heap.size w w' := by
  unfold value_Truthy.f at h
  cases h
  exact vtruthy_run (a0_0, a0_1, a0_2) w
def value_Neg.f (a0 a1 : Int) (a2 : ByteArray) : Option (Int × Int × ByteArray) := if FB a1 a2 then some (negS (a0, a1, a2)) else none
theorem value_Neg.calls (a0_0 a0_1 : Int) (a0_2 : ByteArray) (r1 r2 : Int) (r3 : ByteArray) (w : World) (hL : Laid w) (h : value_Neg.f a0_0 a0_1 a0_2 = some (r1, r2, r3)) :
    Calls Tryd.prog 25 #[.agg #[.int .i64 a0_0, .int .i64 a0_1, .string a0_2]] w fun e w' => e = .returned (.agg #[.int .i64 r1, .int .i64 r2, .string r3]) ∧ Below w.heap.size w w' := by
  unfold value_Neg.f at h
  by_cases hc : FB a0_1 a0_2
  case neg => rw [if_neg hc] at h; cases h
  rw [if_pos hc] at h
  cases h
  exact vneg_run (a0_0, a0_1, a0_2) hc.fits w hL
def value_Not.f (a0 a1 : Int) (a2 : ByteArray) : Option (Int × Int × ByteArray) := some (boolS (!truthyS a0 a1 a2))
theorem value_Not.calls (a0_0 a0_1 : Int) (a0_2 : ByteArray) (r1 r2 : Int) (r3 : ByteArray) (w : World) (h : value_Not.f a0_0 a0_1 a0_2 = some (r1, r2, r3)) :
    Calls Tryd.prog 21 #[.agg #[.int .i64 a0_0, .int .i64 a0_1, .string a0_2]] w fun e w' => e = .returned (.agg #[.int .i64 r1, .int .i64 r2, .string r3]) ∧ Below w.heap.size w w' := by
  unfold value_Not.f at h
  cases h
  exact vnot_run (a0_0, a0_1, a0_2) w
def gumshoeref06_Right.f (a0 a1 : Int) (a2 : ByteArray) : Option (Bool) := some (rightS a0 a1 a2)
theorem gumshoeref06_Right.calls (a0_0 a0_1 : Int) (a0_2 : ByteArray) (r : Bool) (w : World) (h : gumshoeref06_Right.f a0_0 a0_1 a0_2 = some r) :
    Calls Tryd.prog 12 #[.agg #[.int .i64 a0_0, .int .i64 a0_1, .string a0_2]] w fun e w' => e = .returned (.bool r) ∧ Below w.heap.size w w' := by
  unfold gumshoeref06_Right.f at h
  cases h
  exact rright_run (a0_0, a0_1, a0_2) w
def gumshoeref06_Key.f (a0 a1 : Int) (a2 : ByteArray) : Option (ByteArray) := if FB a1 a2 then some (keyS a0 a1 a2) else none
theorem gumshoeref06_Key.calls (a0_0 a0_1 : Int) (a0_2 : ByteArray) (r : ByteArray) (w : World) (h : gumshoeref06_Key.f a0_0 a0_1 a0_2 = some r) :
    Calls Tryd.prog 22 #[.agg #[.int .i64 a0_0, .int .i64 a0_1, .string a0_2]] w fun e w' => e = .returned (.string r) ∧ Below w.heap.size w w' := by
  unfold gumshoeref06_Key.f at h
  by_cases hc : FB a0_1 a0_2
  case neg => rw [if_neg hc] at h; cases h
  rw [if_pos hc] at h
  cases h
  exact rkey_run (a0_0, a0_1, a0_2) hc.fits w
def gumshoeref06_Num.f (a0 a1 : Int) (a2 : ByteArray) : Option (Int) := if FB a1 a2 then some (numS a0 a1 a2) else none
theorem gumshoeref06_Num.calls (a0_0 a0_1 : Int) (a0_2 : ByteArray) (r : Int) (w : World) (h : gumshoeref06_Num.f a0_0 a0_1 a0_2 = some r) :
    Calls Tryd.prog 23 #[.agg #[.int .i64 a0_0, .int .i64 a0_1, .string a0_2]] w fun e w' => e = .returned (.int .i64 r) ∧ Below w.heap.size w w' := by
  unfold gumshoeref06_Num.f at h
  by_cases hc : FB a0_1 a0_2
  case neg => rw [if_neg hc] at h; cases h
  rw [if_pos hc] at h
  cases h
  exact rnum_run (a0_0, a0_1, a0_2) hc.fits w
def gumshoeref06_Truthy.f (a0 a1 : Int) (a2 : ByteArray) : Option (Bool) := if rightS a0 a1 a2 = true then some (truthyS a0 a1 a2) else none
theorem gumshoeref06_Truthy.calls (a0_0 a0_1 : Int) (a0_2 : ByteArray) (r : Bool) (w : World) (h : gumshoeref06_Truthy.f a0_0 a0_1 a0_2 = some r) :
    Calls Tryd.prog 24 #[.agg #[.int .i64 a0_0, .int .i64 a0_1, .string a0_2]] w fun e w' => e = .returned (.bool r) ∧ Below w.heap.size w w' := by
  unfold gumshoeref06_Truthy.f at h
  by_cases hc : rightS a0_0 a0_1 a0_2 = true
  case neg => rw [if_neg hc] at h; cases h
  rw [if_pos hc] at h
  cases h
  exact rtruthy_run (a0_0, a0_1, a0_2) hc w
def gumshoeref06_Neg.f (a0 a1 : Int) (a2 : ByteArray) : Option (Int × Int × ByteArray) := if FB a1 a2 then some (negS (a0, a1, a2)) else none
theorem gumshoeref06_Neg.calls (a0_0 a0_1 : Int) (a0_2 : ByteArray) (r1 r2 : Int) (r3 : ByteArray) (w : World) (h : gumshoeref06_Neg.f a0_0 a0_1 a0_2 = some (r1, r2, r3)) :
    Calls Tryd.prog 26 #[.agg #[.int .i64 a0_0, .int .i64 a0_1, .string a0_2]] w fun e w' => e = .returned (.agg #[.int .i64 r1, .int .i64 r2, .string r3]) ∧ Below w.heap.size w w' := by
  unfold gumshoeref06_Neg.f at h
  by_cases hc : FB a0_1 a0_2
  case neg => rw [if_neg hc] at h; cases h
  rw [if_pos hc] at h
  cases h
  exact rneg_run (a0_0, a0_1, a0_2) hc.fits w
def gumshoeref06_Not.f (a0 a1 : Int) (a2 : ByteArray) : Option (Int × Int × ByteArray) := if rightS a0 a1 a2 = true then some (boolS (!truthyS a0 a1 a2)) else none
theorem gumshoeref06_Not.calls (a0_0 a0_1 : Int) (a0_2 : ByteArray) (r1 r2 : Int) (r3 : ByteArray) (w : World) (h : gumshoeref06_Not.f a0_0 a0_1 a0_2 = some (r1, r2, r3)) :
    Calls Tryd.prog 27 #[.agg #[.int .i64 a0_0, .int .i64 a0_1, .string a0_2]] w fun e w' => e = .returned (.agg #[.int .i64 r1, .int .i64 r2, .string r3]) ∧ Below w.heap.size w w' := by
  unfold gumshoeref06_Not.f at h
  by_cases hc : rightS a0_0 a0_1 a0_2 = true
  case neg => rw [if_neg hc] at h; cases h
  rw [if_pos hc] at h
  cases h
  exact rnot_run (a0_0, a0_1, a0_2) hc w
def value_Two.f (s : ByteArray) (a0 a1 : Int) (a2 : ByteArray) (b0 b1 : Int) (b2 : ByteArray) : Option (Int × Int × ByteArray × Int) := if FB a1 a2 ∧ FB b1 b2 ∧ s.size ≤ maxLen then some ((twoS s.data.toList (a0, a1, a2) (b0, b1, b2)).1.1, (twoS s.data.toList (a0, a1, a2) (b0, b1, b2)).1.2.1, (twoS s.data.toList (a0, a1, a2) (b0, b1, b2)).1.2.2, (twoS s.data.toList (a0, a1, a2) (b0, b1, b2)).2) else none
theorem value_Two.calls (s : ByteArray) (a0 a1 : Int) (a2 : ByteArray) (b0 b1 : Int) (b2 : ByteArray) (r1 r2 : Int) (r3 : ByteArray) (r4 : Int) (w : World) (hL : Laid w) (h : value_Two.f s a0 a1 a2 b0 b1 b2 = some (r1, r2, r3, r4)) :
    Calls Tryd.prog 13 #[.string s, .agg #[.int .i64 a0, .int .i64 a1, .string a2], .agg #[.int .i64 b0, .int .i64 b1, .string b2]] w fun e w' => e = .returned (.tuple #[.agg #[.int .i64 r1, .int .i64 r2, .string r3], .int .i64 r4]) ∧ Below w.heap.size w w' := by
  unfold value_Two.f at h
  by_cases hc : FB a1 a2 ∧ FB b1 b2 ∧ s.size ≤ maxLen
  case neg => rw [if_neg hc] at h; cases h
  rw [if_pos hc] at h
  cases h
  exact vtwo_run s (a0, a1, a2) (b0, b1, b2) hc.2.2 hc.1.fits hc.2.1.fits w hL
def gumshoeref06_Two.f (s : ByteArray) (a0 a1 : Int) (a2 : ByteArray) (b0 b1 : Int) (b2 : ByteArray) : Option (Int × Int × ByteArray × Int) := if FB a1 a2 ∧ FB b1 b2 then some ((twoS s.data.toList (a0, a1, a2) (b0, b1, b2)).1.1, (twoS s.data.toList (a0, a1, a2) (b0, b1, b2)).1.2.1, (twoS s.data.toList (a0, a1, a2) (b0, b1, b2)).1.2.2, (twoS s.data.toList (a0, a1, a2) (b0, b1, b2)).2) else none
theorem gumshoeref06_Two.calls (s : ByteArray) (a0 a1 : Int) (a2 : ByteArray) (b0 b1 : Int) (b2 : ByteArray) (r1 r2 : Int) (r3 : ByteArray) (r4 : Int) (w : World) (h : gumshoeref06_Two.f s a0 a1 a2 b0 b1 b2 = some (r1, r2, r3, r4)) :
    Calls Tryd.prog 14 #[.string s, .agg #[.int .i64 a0, .int .i64 a1, .string a2], .agg #[.int .i64 b0, .int .i64 b1, .string b2]] w fun e w' => e = .returned (.tuple #[.agg #[.int .i64 r1, .int .i64 r2, .string r3], .int .i64 r4]) ∧ Below w.heap.size w w' := by
  unfold gumshoeref06_Two.f at h
  by_cases hc : FB a1 a2 ∧ FB b1 b2
  case neg => rw [if_neg hc] at h; cases h
  rw [if_pos hc] at h
  cases h
  exact rtwo_run s (a0, a1, a2) (b0, b1, b2) hc.1.fits hc.2.fits w
def gumshoelaw06_text.f (s : ByteArray) : Option (Int × Int × ByteArray) := some (4, 0, s)
theorem gumshoelaw06_text.calls (s : ByteArray) (r1 r2 : Int) (r3 : ByteArray) (w : World) (h : gumshoelaw06_text.f s = some (r1, r2, r3)) :
    Calls Tryd.prog 18 #[.string s] w fun e w' => e = .returned (.agg #[.int .i64 r1, .int .i64 r2, .string r3]) ∧ Below w.heap.size w w' := by
  cases h
  exact text_run s w
def gumshoelaw06_num.f (n : Int) : Option (Int × Int × ByteArray) := some (3, n, ⟨#[]⟩)
theorem gumshoelaw06_num.calls (n : Int) (r1 r2 : Int) (r3 : ByteArray) (w : World) (h : gumshoelaw06_num.f n = some (r1, r2, r3)) :
    Calls Tryd.prog 16 #[.int .i64 n] w fun e w' => e = .returned (.agg #[.int .i64 r1, .int .i64 r2, .string r3]) ∧ Below w.heap.size w w' := by
  cases h
  exact num_run n w
end Go.Proofs.YtmdchbenalhpjaaDoor.Vb

-- WRITTEN BY hprint.py (a patched scratch copy of print.py, see NOTES.md): out of the translation and of contracts proved by hand.
namespace Go.Proofs.YtmdchbenalhpjaaDoor.Pv
open Go.RowKit Go.Proofs.YtmdchbenalhpjaaDoorW.PrintWords Go.Proofs.YtmdchbenalhpjaaDoorW.PrintLast Go.Proofs.YtmdchbenalhpjaaDoorW.PrintMore
set_option linter.unusedVariables false
set_option linter.unusedSimpArgs false
def errW : Option Int → Value
  | none => .nilIface
  | some c => .iface 0 (.int .i64 c)
theorem errW_none : errW none = .nilIface := rfl
theorem errW_some (c : Int) : errW (some c) = .iface 0 (.int .i64 c) := rfl
theorem info5 : (Tryd.prog.info? 5).map (fun i => (i.zero, i.size, i.bytes)) = some (some (.int .u8 0), 1, 1) := by kernel_rfl
end Go.Proofs.YtmdchbenalhpjaaDoor.Pv

-- WRITTEN BY hprint.py (a patched scratch copy of print.py, see NOTES.md): out of the translation and of contracts proved by hand.
namespace Go.Proofs.YtmdchbenalhpjaaDoor.Pv
open Go.RowKit Go.Proofs.YtmdchbenalhpjaaDoorW.PrintWords Go.Proofs.YtmdchbenalhpjaaDoorW.PrintLast Go.Proofs.YtmdchbenalhpjaaDoorW.PrintMore
set_option linter.unusedVariables false
set_option linter.unusedSimpArgs false
theorem eqA23 (d : Nat) (w : World) (x0 y0 : Int) (x1 y1 : Int) (x2 y2 : ByteArray) :
    (Op.equalIn (d + 2) 23 (.agg #[.int .i64 x0, .int .i64 x1, .string x2]) (.agg #[.int .i64 y0, .int .i64 y1, .string y2])).run Tryd.prog w = .ok (x0 == y0 && (x1 == y1 && (x2.toList == y2.toList))) w := by
  refine eqA_of Tryd.underlying23 (by kernel_rfl) ?_
  refine eqf_cons (by rfl) (by go_simp; rfl) (by go_simp; rfl) (by go_simp) ?_
  refine eqf_cons (by rfl) (by go_simp; rfl) (by go_simp; rfl) (by go_simp) ?_
  exact eqf_last (by rfl) (by go_simp; rfl) (by go_simp; rfl) (by go_simp)
end Go.Proofs.YtmdchbenalhpjaaDoor.Pv

