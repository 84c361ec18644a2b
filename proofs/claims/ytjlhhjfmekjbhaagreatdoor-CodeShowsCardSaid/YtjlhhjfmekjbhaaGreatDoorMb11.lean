/- Lemmas for the claims of this seat (own texts, packed; what the claims do not use is left out). No condition. -/
import Derived.Laws.RangeAny
import Derived.RangeFuncNested
import Derived.RangeFuncBound
import Derived.RangeFuncCalls
import Derived.RangeFuncLeaves
import Derived.Below
import Derived.Deep.Draws
import Derived.Test.YtjlhhjfmekjbhaaGreatDoorMb0
import Derived.Test.YtjlhhjfmekjbhaaGreatDoorMb10
/- checker.fits: whether an instruction is right. No condition. -/
namespace Go.Proofs.YtjlhhjfmekjbhaaGreatDoor.Cd
open Go.RowKit Go.Proofs.YtjlhhjfmekjbhaaGreatDoorW.PrintWords Go.Proofs.YtjlhhjfmekjbhaaGreatDoorW.PrintLast Go.Proofs.YtjlhhjfmekjbhaaGreatDoorW.PrintMore Go.Proofs.YtjlhhjfmekjbhaaGreatDoor.Va Go.Proofs.YtjlhhjfmekjbhaaGreatDoor.Pq
set_option linter.unusedVariables false
set_option linter.unusedSimpArgs false
def letS (f : ByteArray) : List Int := f.data.toList.map fun b => (b.toNat : Int)
def blankS (x : S31) : Bool := x.f1 == 0 && (x.f2 == 0 && (x.f3 == 0 && (x.f4 == 0 && (x.f5.toList == [] && (x.f6 == 0 && ((x.f7.length : Int) == 0))))))
def fitsS (x : S31) (r : Int) (l : List S31) (u : Int) : Bool := match formS x.f0 with
  | none => false
  | some f => (letS f).all (fun c => ruleS c x r l u) && blankS ((letS f).foldl (fun y c => restS c y) x)
theorem form_letters (n : Int) (f : ByteArray) (h : formS n = some f) : (letS f).all (fun c => letters.contains c) = true := by
  by_cases e1 : n = 1
  · subst e1
    obtain rfl : _ = f := Option.some.inj h
    decide
  by_cases e2 : n = 2
  · subst e2
    obtain rfl : _ = f := Option.some.inj h
    decide
  by_cases e3 : n = 3
  · subst e3
    obtain rfl : _ = f := Option.some.inj h
    decide
  by_cases e4 : n = 4
  · subst e4
    obtain rfl : _ = f := Option.some.inj h
    decide
  by_cases e5 : n = 5
  · subst e5
    obtain rfl : _ = f := Option.some.inj h
    decide
  by_cases e6 : n = 6
  · subst e6
    obtain rfl : _ = f := Option.some.inj h
    decide
  by_cases e7 : n = 7
  · subst e7
    obtain rfl : _ = f := Option.some.inj h
    decide
  by_cases e8 : n = 8
  · subst e8
    obtain rfl : _ = f := Option.some.inj h
    decide
  by_cases e9 : n = 9
  · subst e9
    obtain rfl : _ = f := Option.some.inj h
    decide
  by_cases e10 : n = 10
  · subst e10
    obtain rfl : _ = f := Option.some.inj h
    decide
  by_cases e11 : n = 11
  · subst e11
    obtain rfl : _ = f := Option.some.inj h
    decide
  by_cases e12 : n = 12
  · subst e12
    obtain rfl : _ = f := Option.some.inj h
    decide
  by_cases e13 : n = 13
  · subst e13
    obtain rfl : _ = f := Option.some.inj h
    decide
  by_cases e14 : n = 14
  · subst e14
    obtain rfl : _ = f := Option.some.inj h
    decide
  by_cases e15 : n = 15
  · subst e15
    obtain rfl : _ = f := Option.some.inj h
    decide
  by_cases e16 : n = 16
  · subst e16
    obtain rfl : _ = f := Option.some.inj h
    decide
  by_cases e17 : n = 17
  · subst e17
    obtain rfl : _ = f := Option.some.inj h
    decide
  by_cases e18 : n = 18
  · subst e18
    obtain rfl : _ = f := Option.some.inj h
    decide
  by_cases e19 : n = 19
  · subst e19
    obtain rfl : _ = f := Option.some.inj h
    decide
  by_cases e20 : n = 20
  · subst e20
    obtain rfl : _ = f := Option.some.inj h
    decide
  by_cases e21 : n = 21
  · subst e21
    obtain rfl : _ = f := Option.some.inj h
    decide
  by_cases e22 : n = 22
  · subst e22
    obtain rfl : _ = f := Option.some.inj h
    decide
  by_cases e23 : n = 23
  · subst e23
    obtain rfl : _ = f := Option.some.inj h
    decide
  by_cases e24 : n = 24
  · subst e24
    obtain rfl : _ = f := Option.some.inj h
    decide
  by_cases e25 : n = 25
  · subst e25
    obtain rfl : _ = f := Option.some.inj h
    decide
  by_cases e26 : n = 26
  · subst e26
    obtain rfl : _ = f := Option.some.inj h
    decide
  unfold formS at h
  rw [if_neg e26, if_neg e25, if_neg e24, if_neg e23, if_neg e22, if_neg e21, if_neg e20, if_neg e19, if_neg e18, if_neg e17, if_neg e16, if_neg e15, if_neg e14, if_neg e13, if_neg e12, if_neg e11, if_neg e10, if_neg e9, if_neg e8, if_neg e7, if_neg e6, if_neg e5, if_neg e4, if_neg e3, if_neg e2, if_neg e1] at h
  cases h
theorem blank_f (x : S31) : code_isBlank.f x.f0 x.f1 x.f2 x.f3 x.f4 x.f5 x.f6 x.f7 = some (blankS x) := by
  unfold code_isBlank.f blankS
  by_cases h1 : x.f1 = 0 <;> by_cases h2 : x.f2 = 0 <;> by_cases h3 : x.f3 = 0 <;> by_cases h4 : x.f4 = 0 <;> by_cases h5 : x.f5.toList = [] <;> by_cases h6 : x.f6 = 0 <;> simp [h1, h2, h3, h4, h5, h6]
theorem field0 (n m : Nat) (c e : Array Value) (W : World) : (Instr.field 79 (.agg #[.func (.func n) #[] c, .func (.func m) #[] e]) 0).run Tryz.prog W = .ok (.func (.func n) #[] c) W := by kernel_rfl
theorem field1 (n m : Nat) (c e : Array Value) (W : World) : (Instr.field 79 (.agg #[.func (.func n) #[] c, .func (.func m) #[] e]) 1).run Tryz.prog W = .ok (.func (.func m) #[] e) W := by kernel_rfl
def nxW (W : World) (b : Nat) (s : ByteArray) (pos : Nat) : World := { W with heap := W.heap.setIfInBounds b (.stringIter s pos) }
theorem run_next_gen (W : World) (b : Nat) (s : ByteArray) (pos : Nat) (ty : TypeId) (hb : W.heap[b]? = some (.stringIter s pos)) (h : pos < s.size) :
    (Instr.next (.pointer (some ⟨b, 0, none⟩)) true ty).run Tryz.prog W = .ok (.tuple #[.bool true, .int .i64 pos, .int .i32 (Utf8.decode s pos).1]) (nxW W b s (pos + (Utf8.decode s pos).2)) := by
  simp only [Instr.next, getObj, setObj, Sem.run_bind, Sem.run, hb, Result.andThen, h, if_true]
  simp [goInt, nxW]
theorem run_next_gen_end (W : World) (b : Nat) (s : ByteArray) (pos : Nat) (ty : TypeId) (hb : W.heap[b]? = some (.stringIter s pos)) (h : ¬ pos < s.size) :
    (Instr.next (.pointer (some ⟨b, 0, none⟩)) true ty).run Tryz.prog W = .ok (.tuple #[.bool false]) W := by
  simp [Instr.next, getObj, Sem.run, hb, h]
set_option maxHeartbeats 8000000 in
set_option maxRecDepth 100000 in
theorem blank_calls (a0_0 : Int) (a0_1 : Int) (a0_2 : Int) (a0_3 : Int) (a0_4 : Int) (a0_5 : ByteArray) (a0_6 : Int) (A0_7 : Option Addr) (c0_7 : Nat) (l0_7 : List Int) (r : Bool) (w : World) (hr0_7 : Kd.C (Kd.int .i64) w A0_7 l0_7.length l0_7) (h : code_isBlank.f a0_0 a0_1 a0_2 a0_3 a0_4 a0_5 a0_6 l0_7 = some r) :
  Calls Tryz.prog 71 #[.agg #[.int .i64 a0_0, .int .i64 a0_1, .int .i64 a0_2, .int .i64 a0_3, .int .i64 a0_4, .string a0_5, .int .i64 a0_6, .slice A0_7 l0_7.length c0_7]] w fun e w' => e = .returned (.bool r) ∧ Below w.heap.size w w' := by
 have hu31 := Tryz.underlying31
 have HR0_7 := Aside0.mk hr0_7
 clear hr0_7
 have HB := Aside0.mk (Below.refl w.heap.size w)
 have H : (if a0_1 = 0 then (if a0_2 = 0 then (if a0_3 = 0 then (if a0_4 = 0 then (if a0_5.toList = ([] : List UInt8) then (if a0_6 = 0 then (some ((l0_7.length : Int) == 0)) else (some false)) else (some false)) else (some false)) else (some false)) else (some false)) else (some false)) = some r := h
 clear h
 by_cases c2 : a0_1 = 0
 ·rw [if_pos c2] at H
  have c2b0 : (a0_1 == 0) = true := beq_iff_eq.mpr c2
  have c2b1 : (a0_1 != 0) = false := bne_eq_false_iff_eq.mpr c2
  clear c2
  by_cases c3 : a0_2 = 0
  ·rw [if_pos c3] at H
   have c3b0 : (a0_2 == 0) = true := beq_iff_eq.mpr c3
   have c3b1 : (a0_2 != 0) = false := bne_eq_false_iff_eq.mpr c3
   clear c3
   by_cases c4 : a0_3 = 0
   ·rw [if_pos c4] at H
    have c4b0 : (a0_3 == 0) = true := beq_iff_eq.mpr c4
    have c4b1 : (a0_3 != 0) = false := bne_eq_false_iff_eq.mpr c4
    clear c4
    by_cases c5 : a0_4 = 0
    ·rw [if_pos c5] at H
     have c5b0 : (a0_4 == 0) = true := beq_iff_eq.mpr c5
     have c5b1 : (a0_4 != 0) = false := bne_eq_false_iff_eq.mpr c5
     clear c5
     by_cases c6 : a0_5.toList = ([] : List UInt8)
     ·rw [if_pos c6] at H
      have c6b0 : (a0_5.toList == ([] : List UInt8)) = true := beq_iff_eq.mpr c6
      have c6b1 : (a0_5.toList != ([] : List UInt8)) = false := bne_eq_false_iff_eq.mpr c6
      clear c6
      by_cases c7 : a0_6 = 0
      ·rw [if_pos c7] at H
       have c7b0 : (a0_6 == 0) = true := beq_iff_eq.mpr c7
       have c7b1 : (a0_6 != 0) = false := bne_eq_false_iff_eq.mpr c7
       clear c7
       obtain rfl := Option.some.inj H
       go_enter Tryz.func71, Tryz.ntmps71
       go_wp2_with (first | ((with_reducible refine gate_dst (N := 1) rfl ?_); (try (refine gate_guard (by rfl) ?_; dsimp only)); refine box_event ?hg (N := 1) ?hd (cs := #[.int .i64 a0_0, .int .i64 a0_1, .int .i64 a0_2, .int .i64 a0_3, .int .i64 a0_4, .string a0_5, .int .i64 a0_6, .slice A0_7 l0_7.length c0_7]) (t := 31) ?hr ?_; (case hd => rfl); (case hg => rfl); (case hr => first | (go_simp; done) | (go_simp; rfl)); intro gb206 hg w8 hbox hb; have n0_ := Aside0.mk (below_step (by repeat (first | (with_reducible first | exact HB.out | apply below_alloc | apply pw_below_drewN | apply below_drew1) | exact HB.out)) hb); have n1_ := Aside0.mk (hbox); have n2_ := Aside0.mk ((by rw [hg]; exact (below_size (by repeat (first | (with_reducible first | exact HB.out | apply below_alloc | apply pw_below_drewN | apply below_drew1) | exact HB.out))) : w.heap.size ≤ gb206)); have n3_ := Aside0.mk ((by rw [hg]; exact (below_size (by repeat (first | (with_reducible first | exact HB.out | apply below_alloc | apply pw_below_drewN | apply below_drew1) | exact HB.out))) : w.heap.size ≤ gb206)); clear HB; have HB := n0_; have BK206 := n1_; have GW206 := n2_; have GE206 := n3_; clear n0_ n1_ n2_ n3_; clear hb hbox hg; have hcz9_0 : w8.cell? ⟨gb206, 0, none⟩ = some (.int .i64 a0_0) := (blk_cell BK206.out 0).trans rfl; have hcz9_1 : w8.cell? ⟨gb206, 1, none⟩ = some (.int .i64 a0_1) := (blk_cell BK206.out 1).trans rfl; have hcz9_2 : w8.cell? ⟨gb206, 2, none⟩ = some (.int .i64 a0_2) := (blk_cell BK206.out 2).trans rfl; have hcz9_3 : w8.cell? ⟨gb206, 3, none⟩ = some (.int .i64 a0_3) := (blk_cell BK206.out 3).trans rfl; have hcz9_4 : w8.cell? ⟨gb206, 4, none⟩ = some (.int .i64 a0_4) := (blk_cell BK206.out 4).trans rfl; have hcz9_5 : w8.cell? ⟨gb206, 5, none⟩ = some (.string a0_5) := (blk_cell BK206.out 5).trans rfl; have hcz9_6 : w8.cell? ⟨gb206, 6, none⟩ = some (.int .i64 a0_6) := (blk_cell BK206.out 6).trans rfl; have hcz9_7 : w8.cell? ⟨gb206, 7, none⟩ = some (.slice A0_7 l0_7.length c0_7) := (blk_cell BK206.out 7).trans rfl; have hfz9_0 := blk_frozen BK206.out 0; have hfz9_1 := blk_frozen BK206.out 1; have hfz9_2 := blk_frozen BK206.out 2; have hfz9_3 := blk_frozen BK206.out 3; have hfz9_4 := blk_frozen BK206.out 4; have hfz9_5 := blk_frozen BK206.out 5; have hfz9_6 := blk_frozen BK206.out 6; have hfz9_7 := blk_frozen BK206.out 7))
       go_ret
       exact ⟨by first | rfl | (simp [errW_none, errW_some] <;> rfl) | (simp [*, errW_none, errW_some] <;> rfl) | (simp [*, errW_none, errW_some]; exact (fun (l_ : List UInt8) => (by cases l_ <;> rfl : l_.isEmpty = !(l_ != []))) _), by repeat (first | (with_reducible first | exact HB.out | apply below_alloc | apply pw_below_drewN | apply below_drew1 | refine below_set ?_ GE206.out) | exact HB.out)⟩
      ·rw [if_neg c7] at H
       have c7b0 : (a0_6 == 0) = false := beq_eq_false_iff_ne.mpr c7
       have c7b1 : (a0_6 != 0) = true := bne_iff_ne.mpr c7
       obtain rfl := Option.some.inj H
       go_enter Tryz.func71, Tryz.ntmps71
       go_wp2_with (first | ((with_reducible refine gate_dst (N := 1) rfl ?_); (try (refine gate_guard (by rfl) ?_; dsimp only)); refine box_event ?hg (N := 1) ?hd (cs := #[.int .i64 a0_0, .int .i64 a0_1, .int .i64 a0_2, .int .i64 a0_3, .int .i64 a0_4, .string a0_5, .int .i64 a0_6, .slice A0_7 l0_7.length c0_7]) (t := 31) ?hr ?_; (case hd => rfl); (case hg => rfl); (case hr => first | (go_simp; done) | (go_simp; rfl)); intro gb206 hg w10 hbox hb; have n0_ := Aside0.mk (below_step (by repeat (first | (with_reducible first | exact HB.out | apply below_alloc | apply pw_below_drewN | apply below_drew1) | exact HB.out)) hb); have n1_ := Aside0.mk (hbox); have n2_ := Aside0.mk ((by rw [hg]; exact (below_size (by repeat (first | (with_reducible first | exact HB.out | apply below_alloc | apply pw_below_drewN | apply below_drew1) | exact HB.out))) : w.heap.size ≤ gb206)); have n3_ := Aside0.mk ((by rw [hg]; exact (below_size (by repeat (first | (with_reducible first | exact HB.out | apply below_alloc | apply pw_below_drewN | apply below_drew1) | exact HB.out))) : w.heap.size ≤ gb206)); clear HB; have HB := n0_; have BK206 := n1_; have GW206 := n2_; have GE206 := n3_; clear n0_ n1_ n2_ n3_; clear hb hbox hg; have hcz11_0 : w10.cell? ⟨gb206, 0, none⟩ = some (.int .i64 a0_0) := (blk_cell BK206.out 0).trans rfl; have hcz11_1 : w10.cell? ⟨gb206, 1, none⟩ = some (.int .i64 a0_1) := (blk_cell BK206.out 1).trans rfl; have hcz11_2 : w10.cell? ⟨gb206, 2, none⟩ = some (.int .i64 a0_2) := (blk_cell BK206.out 2).trans rfl; have hcz11_3 : w10.cell? ⟨gb206, 3, none⟩ = some (.int .i64 a0_3) := (blk_cell BK206.out 3).trans rfl; have hcz11_4 : w10.cell? ⟨gb206, 4, none⟩ = some (.int .i64 a0_4) := (blk_cell BK206.out 4).trans rfl; have hcz11_5 : w10.cell? ⟨gb206, 5, none⟩ = some (.string a0_5) := (blk_cell BK206.out 5).trans rfl; have hcz11_6 : w10.cell? ⟨gb206, 6, none⟩ = some (.int .i64 a0_6) := (blk_cell BK206.out 6).trans rfl; have hcz11_7 : w10.cell? ⟨gb206, 7, none⟩ = some (.slice A0_7 l0_7.length c0_7) := (blk_cell BK206.out 7).trans rfl; have hfz11_0 := blk_frozen BK206.out 0; have hfz11_1 := blk_frozen BK206.out 1; have hfz11_2 := blk_frozen BK206.out 2; have hfz11_3 := blk_frozen BK206.out 3; have hfz11_4 := blk_frozen BK206.out 4; have hfz11_5 := blk_frozen BK206.out 5; have hfz11_6 := blk_frozen BK206.out 6; have hfz11_7 := blk_frozen BK206.out 7))
       go_ret
       exact ⟨by first | rfl | (simp [errW_none, errW_some] <;> rfl) | (simp [*, errW_none, errW_some] <;> rfl) | (simp [*, errW_none, errW_some]; exact (fun (l_ : List UInt8) => (by cases l_ <;> rfl : l_.isEmpty = !(l_ != []))) _), by repeat (first | (with_reducible first | exact HB.out | apply below_alloc | apply pw_below_drewN | apply below_drew1 | refine below_set ?_ GE206.out) | exact HB.out)⟩
     ·rw [if_neg c6] at H
      have c6b0 : (a0_5.toList == ([] : List UInt8)) = false := beq_eq_false_iff_ne.mpr c6
      have c6b1 : (a0_5.toList != ([] : List UInt8)) = true := bne_iff_ne.mpr c6
      obtain rfl := Option.some.inj H
      go_enter Tryz.func71, Tryz.ntmps71
      go_wp2_with (first | ((with_reducible refine gate_dst (N := 1) rfl ?_); (try (refine gate_guard (by rfl) ?_; dsimp only)); refine box_event ?hg (N := 1) ?hd (cs := #[.int .i64 a0_0, .int .i64 a0_1, .int .i64 a0_2, .int .i64 a0_3, .int .i64 a0_4, .string a0_5, .int .i64 a0_6, .slice A0_7 l0_7.length c0_7]) (t := 31) ?hr ?_; (case hd => rfl); (case hg => rfl); (case hr => first | (go_simp; done) | (go_simp; rfl)); intro gb206 hg w12 hbox hb; have n0_ := Aside0.mk (below_step (by repeat (first | (with_reducible first | exact HB.out | apply below_alloc | apply pw_below_drewN | apply below_drew1) | exact HB.out)) hb); have n1_ := Aside0.mk (hbox); have n2_ := Aside0.mk ((by rw [hg]; exact (below_size (by repeat (first | (with_reducible first | exact HB.out | apply below_alloc | apply pw_below_drewN | apply below_drew1) | exact HB.out))) : w.heap.size ≤ gb206)); have n3_ := Aside0.mk ((by rw [hg]; exact (below_size (by repeat (first | (with_reducible first | exact HB.out | apply below_alloc | apply pw_below_drewN | apply below_drew1) | exact HB.out))) : w.heap.size ≤ gb206)); clear HB; have HB := n0_; have BK206 := n1_; have GW206 := n2_; have GE206 := n3_; clear n0_ n1_ n2_ n3_; clear hb hbox hg; have hcz13_0 : w12.cell? ⟨gb206, 0, none⟩ = some (.int .i64 a0_0) := (blk_cell BK206.out 0).trans rfl; have hcz13_1 : w12.cell? ⟨gb206, 1, none⟩ = some (.int .i64 a0_1) := (blk_cell BK206.out 1).trans rfl; have hcz13_2 : w12.cell? ⟨gb206, 2, none⟩ = some (.int .i64 a0_2) := (blk_cell BK206.out 2).trans rfl; have hcz13_3 : w12.cell? ⟨gb206, 3, none⟩ = some (.int .i64 a0_3) := (blk_cell BK206.out 3).trans rfl; have hcz13_4 : w12.cell? ⟨gb206, 4, none⟩ = some (.int .i64 a0_4) := (blk_cell BK206.out 4).trans rfl; have hcz13_5 : w12.cell? ⟨gb206, 5, none⟩ = some (.string a0_5) := (blk_cell BK206.out 5).trans rfl; have hcz13_6 : w12.cell? ⟨gb206, 6, none⟩ = some (.int .i64 a0_6) := (blk_cell BK206.out 6).trans rfl; have hcz13_7 : w12.cell? ⟨gb206, 7, none⟩ = some (.slice A0_7 l0_7.length c0_7) := (blk_cell BK206.out 7).trans rfl; have hfz13_0 := blk_frozen BK206.out 0; have hfz13_1 := blk_frozen BK206.out 1; have hfz13_2 := blk_frozen BK206.out 2; have hfz13_3 := blk_frozen BK206.out 3; have hfz13_4 := blk_frozen BK206.out 4; have hfz13_5 := blk_frozen BK206.out 5; have hfz13_6 := blk_frozen BK206.out 6; have hfz13_7 := blk_frozen BK206.out 7))
      go_ret
      exact ⟨by first | rfl | (simp [errW_none, errW_some] <;> rfl) | (simp [*, errW_none, errW_some] <;> rfl) | (simp [*, errW_none, errW_some]; exact (fun (l_ : List UInt8) => (by cases l_ <;> rfl : l_.isEmpty = !(l_ != []))) _), by repeat (first | (with_reducible first | exact HB.out | apply below_alloc | apply pw_below_drewN | apply below_drew1 | refine below_set ?_ GE206.out) | exact HB.out)⟩
    ·rw [if_neg c5] at H
     have c5b0 : (a0_4 == 0) = false := beq_eq_false_iff_ne.mpr c5
     have c5b1 : (a0_4 != 0) = true := bne_iff_ne.mpr c5
     obtain rfl := Option.some.inj H
     go_enter Tryz.func71, Tryz.ntmps71
     go_wp2_with (first | ((with_reducible refine gate_dst (N := 1) rfl ?_); (try (refine gate_guard (by rfl) ?_; dsimp only)); refine box_event ?hg (N := 1) ?hd (cs := #[.int .i64 a0_0, .int .i64 a0_1, .int .i64 a0_2, .int .i64 a0_3, .int .i64 a0_4, .string a0_5, .int .i64 a0_6, .slice A0_7 l0_7.length c0_7]) (t := 31) ?hr ?_; (case hd => rfl); (case hg => rfl); (case hr => first | (go_simp; done) | (go_simp; rfl)); intro gb206 hg w14 hbox hb; have n0_ := Aside0.mk (below_step (by repeat (first | (with_reducible first | exact HB.out | apply below_alloc | apply pw_below_drewN | apply below_drew1) | exact HB.out)) hb); have n1_ := Aside0.mk (hbox); have n2_ := Aside0.mk ((by rw [hg]; exact (below_size (by repeat (first | (with_reducible first | exact HB.out | apply below_alloc | apply pw_below_drewN | apply below_drew1) | exact HB.out))) : w.heap.size ≤ gb206)); have n3_ := Aside0.mk ((by rw [hg]; exact (below_size (by repeat (first | (with_reducible first | exact HB.out | apply below_alloc | apply pw_below_drewN | apply below_drew1) | exact HB.out))) : w.heap.size ≤ gb206)); clear HB; have HB := n0_; have BK206 := n1_; have GW206 := n2_; have GE206 := n3_; clear n0_ n1_ n2_ n3_; clear hb hbox hg; have hcz15_0 : w14.cell? ⟨gb206, 0, none⟩ = some (.int .i64 a0_0) := (blk_cell BK206.out 0).trans rfl; have hcz15_1 : w14.cell? ⟨gb206, 1, none⟩ = some (.int .i64 a0_1) := (blk_cell BK206.out 1).trans rfl; have hcz15_2 : w14.cell? ⟨gb206, 2, none⟩ = some (.int .i64 a0_2) := (blk_cell BK206.out 2).trans rfl; have hcz15_3 : w14.cell? ⟨gb206, 3, none⟩ = some (.int .i64 a0_3) := (blk_cell BK206.out 3).trans rfl; have hcz15_4 : w14.cell? ⟨gb206, 4, none⟩ = some (.int .i64 a0_4) := (blk_cell BK206.out 4).trans rfl; have hcz15_5 : w14.cell? ⟨gb206, 5, none⟩ = some (.string a0_5) := (blk_cell BK206.out 5).trans rfl; have hcz15_6 : w14.cell? ⟨gb206, 6, none⟩ = some (.int .i64 a0_6) := (blk_cell BK206.out 6).trans rfl; have hcz15_7 : w14.cell? ⟨gb206, 7, none⟩ = some (.slice A0_7 l0_7.length c0_7) := (blk_cell BK206.out 7).trans rfl; have hfz15_0 := blk_frozen BK206.out 0; have hfz15_1 := blk_frozen BK206.out 1; have hfz15_2 := blk_frozen BK206.out 2; have hfz15_3 := blk_frozen BK206.out 3; have hfz15_4 := blk_frozen BK206.out 4; have hfz15_5 := blk_frozen BK206.out 5; have hfz15_6 := blk_frozen BK206.out 6; have hfz15_7 := blk_frozen BK206.out 7))
     go_ret
     exact ⟨by first | rfl | (simp [errW_none, errW_some] <;> rfl) | (simp [*, errW_none, errW_some] <;> rfl) | (simp [*, errW_none, errW_some]; exact (fun (l_ : List UInt8) => (by cases l_ <;> rfl : l_.isEmpty = !(l_ != []))) _), by repeat (first | (with_reducible first | exact HB.out | apply below_alloc | apply pw_below_drewN | apply below_drew1 | refine below_set ?_ GE206.out) | exact HB.out)⟩
   ·rw [if_neg c4] at H
    have c4b0 : (a0_3 == 0) = false := beq_eq_false_iff_ne.mpr c4
    have c4b1 : (a0_3 != 0) = true := bne_iff_ne.mpr c4
    obtain rfl := Option.some.inj H
    go_enter Tryz.func71, Tryz.ntmps71
    go_wp2_with (first | ((with_reducible refine gate_dst (N := 1) rfl ?_); (try (refine gate_guard (by rfl) ?_; dsimp only)); refine box_event ?hg (N := 1) ?hd (cs := #[.int .i64 a0_0, .int .i64 a0_1, .int .i64 a0_2, .int .i64 a0_3, .int .i64 a0_4, .string a0_5, .int .i64 a0_6, .slice A0_7 l0_7.length c0_7]) (t := 31) ?hr ?_; (case hd => rfl); (case hg => rfl); (case hr => first | (go_simp; done) | (go_simp; rfl)); intro gb206 hg w16 hbox hb; have n0_ := Aside0.mk (below_step (by repeat (first | (with_reducible first | exact HB.out | apply below_alloc | apply pw_below_drewN | apply below_drew1) | exact HB.out)) hb); have n1_ := Aside0.mk (hbox); have n2_ := Aside0.mk ((by rw [hg]; exact (below_size (by repeat (first | (with_reducible first | exact HB.out | apply below_alloc | apply pw_below_drewN | apply below_drew1) | exact HB.out))) : w.heap.size ≤ gb206)); have n3_ := Aside0.mk ((by rw [hg]; exact (below_size (by repeat (first | (with_reducible first | exact HB.out | apply below_alloc | apply pw_below_drewN | apply below_drew1) | exact HB.out))) : w.heap.size ≤ gb206)); clear HB; have HB := n0_; have BK206 := n1_; have GW206 := n2_; have GE206 := n3_; clear n0_ n1_ n2_ n3_; clear hb hbox hg; have hcz17_0 : w16.cell? ⟨gb206, 0, none⟩ = some (.int .i64 a0_0) := (blk_cell BK206.out 0).trans rfl; have hcz17_1 : w16.cell? ⟨gb206, 1, none⟩ = some (.int .i64 a0_1) := (blk_cell BK206.out 1).trans rfl; have hcz17_2 : w16.cell? ⟨gb206, 2, none⟩ = some (.int .i64 a0_2) := (blk_cell BK206.out 2).trans rfl; have hcz17_3 : w16.cell? ⟨gb206, 3, none⟩ = some (.int .i64 a0_3) := (blk_cell BK206.out 3).trans rfl; have hcz17_4 : w16.cell? ⟨gb206, 4, none⟩ = some (.int .i64 a0_4) := (blk_cell BK206.out 4).trans rfl; have hcz17_5 : w16.cell? ⟨gb206, 5, none⟩ = some (.string a0_5) := (blk_cell BK206.out 5).trans rfl; have hcz17_6 : w16.cell? ⟨gb206, 6, none⟩ = some (.int .i64 a0_6) := (blk_cell BK206.out 6).trans rfl; have hcz17_7 : w16.cell? ⟨gb206, 7, none⟩ = some (.slice A0_7 l0_7.length c0_7) := (blk_cell BK206.out 7).trans rfl; have hfz17_0 := blk_frozen BK206.out 0; have hfz17_1 := blk_frozen BK206.out 1; have hfz17_2 := blk_frozen BK206.out 2; have hfz17_3 := blk_frozen BK206.out 3; have hfz17_4 := blk_frozen BK206.out 4; have hfz17_5 := blk_frozen BK206.out 5; have hfz17_6 := blk_frozen BK206.out 6; have hfz17_7 := blk_frozen BK206.out 7))
    go_ret
    exact ⟨by first | rfl | (simp [errW_none, errW_some] <;> rfl) | (simp [*, errW_none, errW_some] <;> rfl) | (simp [*, errW_none, errW_some]; exact (fun (l_ : List UInt8) => (by cases l_ <;> rfl : l_.isEmpty = !(l_ != []))) _), by repeat (first | (with_reducible first | exact HB.out | apply below_alloc | apply pw_below_drewN | apply below_drew1 | refine below_set ?_ GE206.out) | exact HB.out)⟩
  ·rw [if_neg c3] at H
   have c3b0 : (a0_2 == 0) = false := beq_eq_false_iff_ne.mpr c3
   have c3b1 : (a0_2 != 0) = true := bne_iff_ne.mpr c3
   obtain rfl := Option.some.inj H
   go_enter Tryz.func71, Tryz.ntmps71
   go_wp2_with (first | ((with_reducible refine gate_dst (N := 1) rfl ?_); (try (refine gate_guard (by rfl) ?_; dsimp only)); refine box_event ?hg (N := 1) ?hd (cs := #[.int .i64 a0_0, .int .i64 a0_1, .int .i64 a0_2, .int .i64 a0_3, .int .i64 a0_4, .string a0_5, .int .i64 a0_6, .slice A0_7 l0_7.length c0_7]) (t := 31) ?hr ?_; (case hd => rfl); (case hg => rfl); (case hr => first | (go_simp; done) | (go_simp; rfl)); intro gb206 hg w18 hbox hb; have n0_ := Aside0.mk (below_step (by repeat (first | (with_reducible first | exact HB.out | apply below_alloc | apply pw_below_drewN | apply below_drew1) | exact HB.out)) hb); have n1_ := Aside0.mk (hbox); have n2_ := Aside0.mk ((by rw [hg]; exact (below_size (by repeat (first | (with_reducible first | exact HB.out | apply below_alloc | apply pw_below_drewN | apply below_drew1) | exact HB.out))) : w.heap.size ≤ gb206)); have n3_ := Aside0.mk ((by rw [hg]; exact (below_size (by repeat (first | (with_reducible first | exact HB.out | apply below_alloc | apply pw_below_drewN | apply below_drew1) | exact HB.out))) : w.heap.size ≤ gb206)); clear HB; have HB := n0_; have BK206 := n1_; have GW206 := n2_; have GE206 := n3_; clear n0_ n1_ n2_ n3_; clear hb hbox hg; have hcz19_0 : w18.cell? ⟨gb206, 0, none⟩ = some (.int .i64 a0_0) := (blk_cell BK206.out 0).trans rfl; have hcz19_1 : w18.cell? ⟨gb206, 1, none⟩ = some (.int .i64 a0_1) := (blk_cell BK206.out 1).trans rfl; have hcz19_2 : w18.cell? ⟨gb206, 2, none⟩ = some (.int .i64 a0_2) := (blk_cell BK206.out 2).trans rfl; have hcz19_3 : w18.cell? ⟨gb206, 3, none⟩ = some (.int .i64 a0_3) := (blk_cell BK206.out 3).trans rfl; have hcz19_4 : w18.cell? ⟨gb206, 4, none⟩ = some (.int .i64 a0_4) := (blk_cell BK206.out 4).trans rfl; have hcz19_5 : w18.cell? ⟨gb206, 5, none⟩ = some (.string a0_5) := (blk_cell BK206.out 5).trans rfl; have hcz19_6 : w18.cell? ⟨gb206, 6, none⟩ = some (.int .i64 a0_6) := (blk_cell BK206.out 6).trans rfl; have hcz19_7 : w18.cell? ⟨gb206, 7, none⟩ = some (.slice A0_7 l0_7.length c0_7) := (blk_cell BK206.out 7).trans rfl; have hfz19_0 := blk_frozen BK206.out 0; have hfz19_1 := blk_frozen BK206.out 1; have hfz19_2 := blk_frozen BK206.out 2; have hfz19_3 := blk_frozen BK206.out 3; have hfz19_4 := blk_frozen BK206.out 4; have hfz19_5 := blk_frozen BK206.out 5; have hfz19_6 := blk_frozen BK206.out 6; have hfz19_7 := blk_frozen BK206.out 7))
   go_ret
   exact ⟨by first | rfl | (simp [errW_none, errW_some] <;> rfl) | (simp [*, errW_none, errW_some] <;> rfl) | (simp [*, errW_none, errW_some]; exact (fun (l_ : List UInt8) => (by cases l_ <;> rfl : l_.isEmpty = !(l_ != []))) _), by repeat (first | (with_reducible first | exact HB.out | apply below_alloc | apply pw_below_drewN | apply below_drew1 | refine below_set ?_ GE206.out) | exact HB.out)⟩
 ·rw [if_neg c2] at H
  have c2b0 : (a0_1 == 0) = false := beq_eq_false_iff_ne.mpr c2
  have c2b1 : (a0_1 != 0) = true := bne_iff_ne.mpr c2
  obtain rfl := Option.some.inj H
  go_enter Tryz.func71, Tryz.ntmps71
  go_wp2_with (first | ((with_reducible refine gate_dst (N := 1) rfl ?_); (try (refine gate_guard (by rfl) ?_; dsimp only)); refine box_event ?hg (N := 1) ?hd (cs := #[.int .i64 a0_0, .int .i64 a0_1, .int .i64 a0_2, .int .i64 a0_3, .int .i64 a0_4, .string a0_5, .int .i64 a0_6, .slice A0_7 l0_7.length c0_7]) (t := 31) ?hr ?_; (case hd => rfl); (case hg => rfl); (case hr => first | (go_simp; done) | (go_simp; rfl)); intro gb206 hg w20 hbox hb; have n0_ := Aside0.mk (below_step (by repeat (first | (with_reducible first | exact HB.out | apply below_alloc | apply pw_below_drewN | apply below_drew1) | exact HB.out)) hb); have n1_ := Aside0.mk (hbox); have n2_ := Aside0.mk ((by rw [hg]; exact (below_size (by repeat (first | (with_reducible first | exact HB.out | apply below_alloc | apply pw_below_drewN | apply below_drew1) | exact HB.out))) : w.heap.size ≤ gb206)); have n3_ := Aside0.mk ((by rw [hg]; exact (below_size (by repeat (first | (with_reducible first | exact HB.out | apply below_alloc | apply pw_below_drewN | apply below_drew1) | exact HB.out))) : w.heap.size ≤ gb206)); clear HB; have HB := n0_; have BK206 := n1_; have GW206 := n2_; have GE206 := n3_; clear n0_ n1_ n2_ n3_; clear hb hbox hg; have hcz21_0 : w20.cell? ⟨gb206, 0, none⟩ = some (.int .i64 a0_0) := (blk_cell BK206.out 0).trans rfl; have hcz21_1 : w20.cell? ⟨gb206, 1, none⟩ = some (.int .i64 a0_1) := (blk_cell BK206.out 1).trans rfl; have hcz21_2 : w20.cell? ⟨gb206, 2, none⟩ = some (.int .i64 a0_2) := (blk_cell BK206.out 2).trans rfl; have hcz21_3 : w20.cell? ⟨gb206, 3, none⟩ = some (.int .i64 a0_3) := (blk_cell BK206.out 3).trans rfl; have hcz21_4 : w20.cell? ⟨gb206, 4, none⟩ = some (.int .i64 a0_4) := (blk_cell BK206.out 4).trans rfl; have hcz21_5 : w20.cell? ⟨gb206, 5, none⟩ = some (.string a0_5) := (blk_cell BK206.out 5).trans rfl; have hcz21_6 : w20.cell? ⟨gb206, 6, none⟩ = some (.int .i64 a0_6) := (blk_cell BK206.out 6).trans rfl; have hcz21_7 : w20.cell? ⟨gb206, 7, none⟩ = some (.slice A0_7 l0_7.length c0_7) := (blk_cell BK206.out 7).trans rfl; have hfz21_0 := blk_frozen BK206.out 0; have hfz21_1 := blk_frozen BK206.out 1; have hfz21_2 := blk_frozen BK206.out 2; have hfz21_3 := blk_frozen BK206.out 3; have hfz21_4 := blk_frozen BK206.out 4; have hfz21_5 := blk_frozen BK206.out 5; have hfz21_6 := blk_frozen BK206.out 6; have hfz21_7 := blk_frozen BK206.out 7))
  go_ret
  exact ⟨by first | rfl | (simp [errW_none, errW_some] <;> rfl) | (simp [*, errW_none, errW_some] <;> rfl) | (simp [*, errW_none, errW_some]; exact (fun (l_ : List UInt8) => (by cases l_ <;> rfl : l_.isEmpty = !(l_ != []))) _), by repeat (first | (with_reducible first | exact HB.out | apply below_alloc | apply pw_below_drewN | apply below_drew1 | refine below_set ?_ GE206.out) | exact HB.out)⟩
structure FS (w W : World) (bf bp : Nat) (x : S31) (A : Option Addr) (c : Nat) (r : Int) (B : Option Addr) (d : Nat) (l : List S31) (u : Int) (f : ByteArray) (i : Nat) (y : S31) : Prop where
  bel : Below w.heap.size w W
  bc : W.heap[w.heap.size]? = some (.cells #[.map (some bf), .map (some bp)] 45)
  bx : W.heap[w.heap.size + 1]? = some (.cells #[.int .i64 x.f0, .int .i64 x.f1, .int .i64 x.f2, .int .i64 x.f3, .int .i64 x.f4, .string x.f5, .int .i64 x.f6, .slice A x.f7.length c] 31)
  ba : W.heap[w.heap.size + 1 + 1]? = some (.cells #[.int .i64 r, .slice B l.length d, .int .i64 u] 49)
  rest : IsX w W (w.heap.size + 1 + 1 + 1) y
  it : W.heap[w.heap.size + 1 + 1 + 1 + 1]? = some (.stringIter f i)
section
variable {w W W' : World} {bf bp : Nat} {x : S31} {A : Option Addr} {c : Nat} {r : Int} {B : Option Addr} {d : Nat} {l : List S31} {u : Int} {f : ByteArray} {i : Nat} {y : S31}
theorem FS.step (h : FS w W bf bp x A c r B d l u f i y) (hb : Below W.heap.size W W') : FS w W' bf bp x A c r B d l u f i y :=
  ⟨below_step h.bel hb, blk_below h.bc hb, blk_below h.bx hb, blk_below h.ba hb, IsS31.below h.rest hb, blk_below h.it hb⟩
theorem FS.struck {y' : S31} (h : FS w W bf bp x A c r B d l u f i y) (hB : Below w.heap.size w W') (hI : IsX w W' (w.heap.size + 1 + 1 + 1) y') (hK : KeepBut W W' (w.heap.size + 1 + 1 + 1) none) : FS w W' bf bp x A c r B d l u f i y' :=
  ⟨hB, kb_blk hK h.bc (by omega), kb_blk hK h.bx (by omega), kb_blk hK h.ba (by omega), hI, kb_blk hK h.it (by omega)⟩
theorem FS.next (h : FS w W bf bp x A c r B d l u f i y) (j : Nat) : FS w (nxW W (w.heap.size + 1 + 1 + 1 + 1) f j) bf bp x A c r B d l u f j y := by
  have hlt := blk_lt h.it
  have hk : ∀ k, k ≠ w.heap.size + 1 + 1 + 1 + 1 → (nxW W (w.heap.size + 1 + 1 + 1 + 1) f j).heap[k]? = W.heap[k]? := fun k hk => by
    unfold nxW
    simp only
    rw [Array.getElem?_setIfInBounds_ne (fun e => hk e.symm)]
  have hG : W.grownBy (nxW W (w.heap.size + 1 + 1 + 1 + 1) f j) (some (w.heap.size + 1 + 1 + 1 + 1)) := ⟨rfl, rfl, rfl, by simp [nxW], fun k _ hne => hk k (fun e => hne (by rw [e]))⟩
  refine ⟨h.bel.grown hG h.bel.size (fun k hkk => by injection hkk with hkk; omega), (hk _ (by omega)).trans h.bc, (hk _ (by omega)).trans h.bx, (hk _ (by omega)).trans h.ba, ?_, ?_⟩
  · obtain ⟨A7, c7, hb, hg, hr⟩ := h.rest
    exact ⟨A7, c7, (hk _ (by omega)).trans hb, hg, hr⟩
  · unfold nxW
    simp only
    rw [Array.getElem?_setIfInBounds_self_of_lt hlt]
end
theorem let_take (f : ByteArray) (i : Nat) (h : i < f.size) : (letS f).take (i + 1) = (letS f).take i ++ [((f[i]'h).toNat : Int)] := by
  have hl : i < (letS f).length := by simp [letS]; try exact h
  rw [List.take_add_one, List.getElem?_eq_getElem hl]
  simp [letS]
  try rfl
theorem let_all (f : ByteArray) : (letS f).take f.size = letS f := List.take_of_length_le (by simp [letS]; try exact Nat.le_refl _)
set_option maxHeartbeats 8000000 in
set_option maxRecDepth 100000 in
theorem fits_calls (x : S31) (A : Option Addr) (c : Nat) (r : Int) (B : Option Addr) (d : Nat) (l : List S31) (u : Int) (w : World) (bf bp : Nat)
    (hF : ∀ W, Below w.heap.size w W → Forms W bf) (hP : ∀ W, Below w.heap.size w W → Parts W bp) (hL : Va.Laid w) (hA : ArgsOk w x A c B d l) (hn : x.f7.length ≤ 140737488355328) (hx0 : (Lit.int .i64 x.f0).wf = true) :
    Calls Tryz.prog 25 #[.agg #[.map (some bf), .map (some bp)], insV x A c, aroV r B d l u] w fun e w' => e = .returned (.bool (fitsS x r l u)) ∧ Below w.heap.size w w' := by
  obtain ⟨x0, x1, x2, x3, x4, x5, x6, x7⟩ := x
  have H3 := Aside0.mk (three_boxes w (.cells #[.map (some bf), .map (some bp)] 45) (.cells #[.int .i64 x0, .int .i64 x1, .int .i64 x2, .int .i64 x3, .int .i64 x4, .string x5, .int .i64 x6, .slice A x7.length c] 31) (.cells #[.int .i64 r, .slice B l.length d, .int .i64 u] 49))
  have H3Z := Aside0.mk (show (((w.alloc (.cells #[.map (some bf), .map (some bp)] 45)).alloc (.cells #[.int .i64 x0, .int .i64 x1, .int .i64 x2, .int .i64 x3, .int .i64 x4, .string x5, .int .i64 x6, .slice A x7.length c] 31)).alloc (.cells #[.int .i64 r, .slice B l.length d, .int .i64 u] 49)).heap.size = w.heap.size + 1 + 1 + 1 by simp)
  have hlk := hF _ H3.out.2.2.2 x0 hx0
  have HF := Aside0.mk hF
  have HP := Aside0.mk hP
  have HL := Aside0.mk hL
  have HA := Aside0.mk hA
  have HN := Aside0.mk hn
  clear hF hP hL hA hn hx0
  unfold insV aroV
  cases hf : formS x0 with
  | none =>
    rw [hf] at hlk
    simp only [Option.getD, Option.isSome] at hlk
    have HV := Aside0.mk (show fitsS ⟨x0, x1, x2, x3, x4, x5, x6, x7⟩ r l u = false by unfold fitsS; simp only [hf])
    clear hf
    go_enter Tryz.func25, Tryz.ntmps25
    go_wp2
    go_ret
    exact ⟨by rw [HV.out]; rfl, H3.out.2.2.2⟩
  | some f =>
    rw [hf] at hlk
    simp only [Option.getD, Option.isSome] at hlk
    have HFM := Aside0.mk hf
    clear hf
    go_enter Tryz.func25, Tryz.ntmps25
    go_wp2
    have H0 := Aside0.mk (show FS w ((((((w.alloc (.cells #[.map (some bf), .map (some bp)] 45)).alloc (.cells #[.int .i64 x0, .int .i64 x1, .int .i64 x2, .int .i64 x3, .int .i64 x4, .string x5, .int .i64 x6, .slice A x7.length c] 31)).alloc (.cells #[.int .i64 r, .slice B l.length d, .int .i64 u] 49)).alloc (.cells #[.int .i64 x0, .int .i64 x1, .int .i64 x2, .int .i64 x3, .int .i64 x4, .string x5, .int .i64 x6, .slice A x7.length c] 31)).iter f 0)) bf bp (⟨x0, x1, x2, x3, x4, x5, x6, x7⟩ : S31) A c r B d l u f 0 (⟨x0, x1, x2, x3, x4, x5, x6, x7⟩ : S31) from by
      obtain ⟨q1, q2, q3, q4⟩ := H3.out
      generalize (((w.alloc (.cells #[.map (some bf), .map (some bp)] 45)).alloc (.cells #[.int .i64 x0, .int .i64 x1, .int .i64 x2, .int .i64 x3, .int .i64 x4, .string x5, .int .i64 x6, .slice A x7.length c] 31)).alloc (.cells #[.int .i64 r, .slice B l.length d, .int .i64 u] 49)) = w3 at *
      have hz := H3Z.out
      have e1 := heap_alloc_new w3 (.cells #[.int .i64 x0, .int .i64 x1, .int .i64 x2, .int .i64 x3, .int .i64 x4, .string x5, .int .i64 x6, .slice A x7.length c] 31)
      have e2 := heap_alloc_new (w3.alloc (.cells #[.int .i64 x0, .int .i64 x1, .int .i64 x2, .int .i64 x3, .int .i64 x4, .string x5, .int .i64 x6, .slice A x7.length c] 31)) (.stringIter f 0)
      have s1 : (w3.alloc (.cells #[.int .i64 x0, .int .i64 x1, .int .i64 x2, .int .i64 x3, .int .i64 x4, .string x5, .int .i64 x6, .slice A x7.length c] 31)).heap.size = w3.heap.size + 1 := by simp
      rw [s1] at e2
      rw [hz] at e1 e2
      refine ⟨below_alloc (below_alloc q4 _) _, blk_alloc (blk_alloc q1 _) _, blk_alloc (blk_alloc q2 _) _, blk_alloc (blk_alloc q3 _) _, ⟨A, c, blk_alloc e1 _, by omega, HA.out.hx⟩, e2⟩)
    go_loopg [11] f.size (fun kq _ W => ∃ (i : Nat) (y : S31), i + kq = f.size ∧ ((letS f).take i).all (fun q => ruleS q (⟨x0, x1, x2, x3, x4, x5, x6, x7⟩ : S31) r l u) = true ∧ y = ((letS f).take i).foldl (fun z q => restS q z) (⟨x0, x1, x2, x3, x4, x5, x6, x7⟩ : S31) ∧ FS w W bf bp (⟨x0, x1, x2, x3, x4, x5, x6, x7⟩ : S31) A c r B d l u f i y)
    case atStart => exact ⟨0, _, by omega, rfl, rfl, H0.out⟩
    case round =>
      clear H0
      obtain ⟨i, y, hi, hall, hy, hfs⟩ := hrel
      have HS := Aside0.mk hfs
      have HALL := Aside0.mk hall
      have HY := Aside0.mk hy
      clear hfs hall hy
      by_cases hp : i < f.size
      · have hmem : ((f[i]'hp).toNat : Int) ∈ letters := by
          have := List.all_eq_true.1 (form_letters x0 f HFM.out) ((f[i]'hp).toNat : Int) (by
            have hl : i < (letS f).length := by simp [letS]; try exact hp
            have e : (letS f)[i]'hl = ((f[i]'hp).toNat : Int) := by simp [letS]; try rfl
            rw [← e]; exact List.getElem_mem hl)
          simpa using this
        have hasc : (f[i]'hp).toNat < 128 := by
          have : ∀ q ∈ letters, q < 128 := by decide
          have := this _ hmem
          omega
        have hnx : ∀ ty, (Instr.next (.pointer (some ⟨w.heap.size + 1 + 1 + 1 + 1, 0, none⟩)) true ty).run Tryz.prog wr = _ := fun ty => run_next_gen wr _ f i ty HS.out.it hp
        rw [show Utf8.decode f i = ((f[i]'hp).toNat, 1) from decode_ascii f i hp hasc] at hnx
        have HS1 := Aside0.mk (HS.out.next (i + 1))
        have HTK := Aside0.mk (let_take f i hp)
        generalize nxW wr (w.heap.size + 1 + 1 + 1 + 1) f (i + 1) = W1 at hnx HS1
        generalize hq : ((f[i]'hp).toNat : Int) = q at *
        have HQ := Aside0.mk hmem
        clear hasc hmem hq
        obtain ⟨rv, sv, hlk1, hrule, hrest1⟩ := HP.out W1 HS1.out.bel q HQ.out
        obtain ⟨m1, rfl, _, _⟩ := hrest1
        obtain ⟨n1, cap, rfl, en, K⟩ := hrule
        have hfd := field0 n1 m1 cap #[]
        have K1 := Aside0.mk (K W1 (Below.refl _ _) (HL.out.below HS1.out.bel) (⟨x0, x1, x2, x3, x4, x5, x6, x7⟩ : S31) A c r B d l u ⟨Kd.C_below HA.out.hx HS1.out.bel, HA.out.hc, Kd.C_below HA.out.hl HS1.out.bel, HA.out.hd, HA.out.hs⟩ HN.out)
        clear K
        have hx0 := (blk_cell HS1.out.bx 0).trans rfl
        have hx1 := (blk_cell HS1.out.bx 1).trans rfl
        have hx2 := (blk_cell HS1.out.bx 2).trans rfl
        have hx3 := (blk_cell HS1.out.bx 3).trans rfl
        have hx4 := (blk_cell HS1.out.bx 4).trans rfl
        have hx5 := (blk_cell HS1.out.bx 5).trans rfl
        have hx6 := (blk_cell HS1.out.bx 6).trans rfl
        have hx7 := (blk_cell HS1.out.bx 7).trans rfl
        have ha0 := (blk_cell HS1.out.ba 0).trans rfl
        have ha1 := (blk_cell HS1.out.ba 1).trans rfl
        have ha2 := (blk_cell HS1.out.ba 2).trans rfl
        have hc1 := (blk_cell HS1.out.bc 1).trans rfl
        by_cases hr : ruleS q (⟨x0, x1, x2, x3, x4, x5, x6, x7⟩ : S31) r l u = true
        · rw [hr] at K1
          go_wp2_with (first | (refine K1.out.mono ?_; rintro e w2 ⟨rfl, hb⟩; have HS2 := Aside0.mk (HS1.out.step hb); clear hb; have hc2 := (blk_cell HS2.out.bc 1).trans rfl; obtain ⟨rv2, sv2, hlk2, hrule2, hrest⟩ := HP.out w2 HS2.out.bel q HQ.out; obtain ⟨n2, cap2, rfl, _, _⟩ := hrule2; obtain ⟨m2, rfl, em, M⟩ := hrest; have hfd2 := field1 n2 m2 cap2 #[]; have M2 := Aside0.mk (M w w2 (w.heap.size + 1 + 1 + 1) y HS2.out.rest HS2.out.bel); clear M) | (refine M2.out.mono ?_; rintro e w3 ⟨rfl, hI, hB, hK⟩; have HS3 := Aside0.mk (HS2.out.struck hB hI hK); clear hI hB hK))
          go_roundg (gk - 1)
          case measure => omega
          case rel => exact ⟨i + 1, restS q y, by omega, by rw [HTK.out, List.all_append, HALL.out]; simp [hr], by rw [HTK.out, List.foldl_append, HY.out]; rfl, HS3.out⟩
        · have hr' : ruleS q (⟨x0, x1, x2, x3, x4, x5, x6, x7⟩ : S31) r l u = false := by simpa using hr
          rw [hr'] at K1
          have HV := Aside0.mk (show fitsS (⟨x0, x1, x2, x3, x4, x5, x6, x7⟩ : S31) r l u = false from by
            have hin : q ∈ letS f := List.mem_of_mem_take (i := i + 1) (by rw [HTK.out]; simp)
            have : (letS f).all (fun q => ruleS q (⟨x0, x1, x2, x3, x4, x5, x6, x7⟩ : S31) r l u) = false := by
              rw [List.all_eq_false]
              exact ⟨q, hin, by simpa using hr'⟩
            unfold fitsS
            simp only [HFM.out, this, Bool.false_and])
          clear hr hr'
          go_wp2_with (first | (refine K1.out.mono ?_; rintro e w2 ⟨rfl, hb⟩; have HS2 := Aside0.mk (HS1.out.step hb); clear hb))
          (first | go_ret | (rw [Exit.noGoto_ret]; go_ret))
          exact ⟨by rw [HV.out]; rfl, HS2.out.bel⟩
      · have hnx : ∀ ty, (Instr.next (.pointer (some ⟨w.heap.size + 1 + 1 + 1 + 1, 0, none⟩)) true ty).run Tryz.prog wr = _ := fun ty => run_next_gen_end wr _ f i ty HS.out.it hp
        obtain rfl : i = f.size := by omega
        have hall := HALL.out
        have hy := HY.out
        rw [let_all] at hall hy
        have HV := Aside0.mk (show fitsS (⟨x0, x1, x2, x3, x4, x5, x6, x7⟩ : S31) r l u = blankS y from by
          unfold fitsS
          simp only [HFM.out, hall, Bool.true_and]
          rw [hy])
        clear hall hy
        obtain ⟨A7, c7, hb, _, hr7⟩ := HS.out.rest
        have HC7 := Aside0.mk (blank_calls y.f0 y.f1 y.f2 y.f3 y.f4 y.f5 y.f6 A7 c7 y.f7 (blankS y) wr (Kd.C_below hr7 HS.out.bel) (blank_f y))
        have hz0 := (blk_cell hb 0).trans rfl
        have hz1 := (blk_cell hb 1).trans rfl
        have hz2 := (blk_cell hb 2).trans rfl
        have hz3 := (blk_cell hb 3).trans rfl
        have hz4 := (blk_cell hb 4).trans rfl
        have hz5 := (blk_cell hb 5).trans rfl
        have hz6 := (blk_cell hb 6).trans rfl
        have hz7 := (blk_cell hb 7).trans rfl
        clear hb hr7
        go_wp2_with (go_at_call 71; refine HC7.out.mono ?_; rintro e w2 ⟨rfl, hb2⟩; have HB2 := Aside0.mk (below_step HS.out.bel hb2); clear hb2)
        go_ret
        exact ⟨by rw [HV.out]; rfl, HB2.out⟩
end Go.Proofs.YtjlhhjfmekjbhaaGreatDoor.Cd

/- code.Right: whether a code is right. No condition. -/
namespace Go.Proofs.YtjlhhjfmekjbhaaGreatDoor.Cd
open Go.RowKit Go.Proofs.YtjlhhjfmekjbhaaGreatDoorW.PrintWords Go.Proofs.YtjlhhjfmekjbhaaGreatDoorW.PrintLast Go.Proofs.YtjlhhjfmekjbhaaGreatDoorW.PrintMore Go.Proofs.YtjlhhjfmekjbhaaGreatDoor.Va Go.Proofs.YtjlhhjfmekjbhaaGreatDoor.Pq
set_option linter.unusedVariables false
set_option linter.unusedSimpArgs false
set_option maxHeartbeats 4000000 in
set_option maxRecDepth 100000 in
theorem r1_calls (x : S31) (A : Option Addr) (c : Nat) (r : Int) (B : Option Addr) (d : Nat) (l : List S31) (Al : Option Addr) (u cl : Nat) (pc pp pl : Nat) (w : World) (bf bp : Nat)
    (hc0 : w.cell? ⟨pc, 0, none⟩ = some (.map (some bf))) (hc1 : w.cell? ⟨pc, 1, none⟩ = some (.map (some bp))) (hp0 : w.cell? ⟨pp, 0, none⟩ = some (.int .i64 r)) (hp1 : w.cell? ⟨pp, 1, none⟩ = some (.slice B l.length d)) (hl0 : w.cell? ⟨pl, 0, none⟩ = some (.slice Al u cl))
    (hF : ∀ W, Below w.heap.size w W → Forms W bf) (hP : ∀ W, Below w.heap.size w W → Parts W bp) (hL : Va.Laid w) (hA : ArgsOk w x A c B d l) (hn : x.f7.length ≤ 140737488355328) (hx0 : (Lit.int .i64 x.f0).wf = true) :
    Calls Tryz.prog 24 #[insV x A c, .pointer (some ⟨pc, 0, none⟩), .pointer (some ⟨pp, 0, none⟩), .pointer (some ⟨pl, 0, none⟩)] w fun e w' => e = .returned (.bool (!fitsS x r l (u : Int))) ∧ Below w.heap.size w w' := by
  have lc := World.block_lt_of_cell? w _ hc0
  have lp := World.block_lt_of_cell? w _ hp0
  have ll := World.block_lt_of_cell? w _ hl0
  have HB1 := Aside0.mk (show Below w.heap.size w (w.alloc (.cells #[.int .i64 x.f0, .int .i64 x.f1, .int .i64 x.f2, .int .i64 x.f3, .int .i64 x.f4, .string x.f5, .int .i64 x.f6, .slice A x.f7.length c] 31)) from below_alloc (Below.refl _ _) _)
  have HC := Aside0.mk (fits_calls x A c r B d l (u : Int) (w.alloc (.cells #[.int .i64 x.f0, .int .i64 x.f1, .int .i64 x.f2, .int .i64 x.f3, .int .i64 x.f4, .string x.f5, .int .i64 x.f6, .slice A x.f7.length c] 31)) bf bp
    (fun W hW => hF W (below_step HB1.out hW)) (fun W hW => hP W (below_step HB1.out hW)) (hL.below HB1.out) ⟨Kd.C_below hA.hx HB1.out, hA.hc, Kd.C_below hA.hl HB1.out, hA.hd, hA.hs⟩ hn hx0)
  clear hF hP hL hA hn hx0
  unfold insV aroV at *
  go_enter Tryz.func24, Tryz.ntmps24
  go_wp2_with (go_at_call 25; refine HC.out.mono ?_; rintro e w2 ⟨rfl, hb⟩; have HB2 := Aside0.mk (below_step HB1.out hb); clear hb)
  go_ret
  exact ⟨by simp [*], HB2.out⟩
def procS (p : S28) (u : Int) : Bool :=
  !(decide (p.f0 < 0)) && (!(decide (p.f0 > 60000)) && (!((p.f1.length : Int) == 0) && (!(decide ((p.f1.length : Int) > 60000)) && (((p.f1.getD (p.f1.length - 1) z31).f0 == 20) && !(p.f1.any fun x => !fitsS x p.f0 p.f1 u)))))
def codeS (l : List S28) : Bool := (l.all fun p => procS p (l.length : Int)) && decide ((l.length : Int) > 0)
structure WfX (x : S31) : Prop where
  kind : (Lit.int .i64 x.f0).wf = true
  text : x.f5.size ≤ maxLen
  regs : x.f7.length ≤ 140737488355328
structure WfL (l : List S28) : Prop where
  len : l.length ≤ 140737488355328
  proc : ∀ p ∈ l, p.f1.length ≤ 140737488355328 ∧ ∀ x ∈ p.f1, WfX x
theorem all_take {α : Type} (l : List α) (P : α → Bool) (d : α) (j : Nat) (h : j < l.length) : (l.take (j + 1)).all P = ((l.take j).all P && P (l.getD j d)) := by
  have e : l.take (j + 1) = l.take j ++ [l.getD j d] := by
    rw [List.take_add_one, List.getElem?_eq_getElem h]
    simp [List.getD, h]
  rw [e]
  simp
theorem not_all {α : Type} (l : List α) (P : α → Bool) (d : α) (j : Nat) (h : j < l.length) (hp : P (l.getD j d) = false) : l.all P = false := by
  rw [List.all_eq_false]
  refine ⟨l.getD j d, ?_, by rw [hp]; decide⟩
  rw [List.getD_eq_getElem?_getD, List.getElem?_eq_getElem h]
  exact List.getElem_mem h
set_option maxHeartbeats 8000000 in
set_option maxRecDepth 100000 in
theorem right_calls (A : Option Addr) (c : Nat) (l : List S28) (w : World) (hL : Va.Laid w) (hl : Kd.C k28 w A l.length l) (hc : l.length ≤ c) (hw : WfL l) :
    Calls Tryz.prog 12 #[.slice A l.length c] w fun e w' => e = .returned (.bool (codeS l)) ∧ Below w.heap.size w w' := by
  have HL := Aside0.mk hL
  have HR := Aside0.mk hl
  have HW := Aside0.mk hw
  clear hL hl hw
  have b0 : (w.alloc (.cells #[.slice A l.length c] 22)).heap[w.heap.size]? = some (.cells #[.slice A l.length c] 22) := heap_alloc_new w _
  have HB0 := Aside0.mk b0
  clear b0
  go_enter Tryz.func12, Tryz.ntmps12
  go_wp2_with (first
    | (go_at_call 21; refine (forms_calls _).mono ?_; rintro e w1 ⟨bf, m, f, rfl, hm, hf, _, hb⟩; have B1 := Aside0.mk (below_step (below_alloc (Below.refl _ _) _) hb); have K1 := Aside0.mk (blk_below HB0.out hb); have HF := Aside0.mk (fun W (hW : Below w1.heap.size w1 W) => hf W (hm.below hW)); clear hm hf hb)
    | (go_at_call 22; refine (parts_calls _).mono ?_; rintro e w2 ⟨bp, rfl, hp, hb⟩; have B2 := Aside0.mk (below_step B1.out hb); have K2 := Aside0.mk (blk_below K1.out hb); have HF2 := Aside0.mk (fun W (hW : Below w2.heap.size w2 W) => HF.out W (below_step hb hW)); have HP2 := Aside0.mk hp; have k2 := (blk_cell K2.out 0).trans rfl; have l2 := blk_lt K2.out; clear hp hb))
  generalize hw3 : w2.alloc (.cells #[.map (some bf), .map (some bp)] 45) = w3 at *
  have K3 := Aside0.mk (show w3.heap[w2.heap.size]? = some (.cells #[.map (some bf), .map (some bp)] 45) from by rw [← hw3]; exact heap_alloc_new w2 _)
  have B23 := Aside0.mk (show Below w2.heap.size w2 w3 from by rw [← hw3]; exact below_alloc (Below.refl _ _) _)
  have B3 := Aside0.mk (below_step B2.out B23.out)
  clear hw3 k2 l2
  go_loopg [5, 6, 12] l.length (fun kq _ _ i W => ∃ j : Nat, i = .int .i64 j ∧ j + kq = l.length ∧ ((l.take j).all fun p => procS p (l.length : Int)) = true ∧ Below w3.heap.size w3 W)
  case atStart => exact ⟨0, rfl, by omega, rfl, Below.refl _ _⟩
  case round =>
    obtain ⟨j, rfl, hj, hall, hb⟩ := hrel
    have HB := Aside0.mk hb
    have HALL := Aside0.mk hall
    have BR := Aside0.mk (below_step B3.out hb)
    have KP := Aside0.mk (blk_below (blk_below K2.out B23.out) hb)
    clear hb hall
    have kc := (blk_cell KP.out 0).trans rfl
    have lt0 := blk_lt KP.out
    by_cases hlt : j < l.length
    · obtain ⟨ad, A1, c1, rfl, hx0, hx1, hl1, hi1⟩ := at_T28 (Kd.C_below HR.out BR.out) (j : Int) (by omega) (by omega)
      rw [Int.toNat_natCast] at hx0 hx1
      have HG := Aside0.mk (show rd_T28 l (j : Int) = l.getD j z28 by unfold rd_T28; rw [Int.toNat_natCast])
      have HM := Aside0.mk (show rd_T28 l (j : Int) ∈ l by rw [HG.out, List.getD_eq_getElem?_getD, List.getElem?_eq_getElem hlt]; exact List.getElem_mem hlt)
      have HI1 := Aside0.mk hi1
      have HL1 := Aside0.mk hl1
      have HWP := Aside0.mk (HW.out.proc _ HM.out)
      clear hi1 hl1
      generalize rd_T28 l (j : Int) = p at *
      obtain ⟨p0, p1⟩ := p
      simp only at hx0 hx1 HI1 HL1 HWP
      have hplen := HWP.out.1
      have hg : decide ((j : Int) < (l.length : Int)) = true := decide_eq_true (by omega)
      have BW := Aside0.mk (below_alloc BR.out (.cells #[.int .i64 p0, .slice A1 p1.length c1] 28))
      have BP := Aside0.mk (heap_alloc_new wr (.cells #[.int .i64 p0, .slice A1 p1.length c1] 28))
      have HVF := Aside0.mk (show procS (⟨p0, p1⟩ : S28) (l.length : Int) = false → codeS l = false from fun h => by
        unfold codeS
        rw [not_all l _ z28 j hlt (by rw [← HG.out]; exact h)]
        rfl)
      by_cases g1 : p0 < 0
      · have b1 : decide (p0 < 0) = true := decide_eq_true g1
        have HV := Aside0.mk (HVF.out (by unfold procS; simp only [b1]; rfl))
        clear g1
        go_wp2
        go_ret
        exact ⟨by rw [HV.out]; rfl, BW.out⟩
      have b1 : decide (p0 < 0) = false := decide_eq_false g1
      clear g1
      by_cases g2 : p0 > 60000
      · have b2 : decide (60000 < p0) = true := decide_eq_true g2
        have HV := Aside0.mk (HVF.out (by unfold procS; simp only [gt_iff_lt, b1, b2]; rfl))
        clear g2
        go_wp2
        go_ret
        exact ⟨by rw [HV.out]; rfl, BW.out⟩
      have b2 : decide (60000 < p0) = false := decide_eq_false g2
      clear g2
      by_cases g3 : (p1.length : Int) = 0
      · have b3 : ((p1.length : Int) == 0) = true := beq_iff_eq.mpr g3
        have b3n : p1.length = 0 := by omega
        have HV := Aside0.mk (HVF.out (by unfold procS; simp only [gt_iff_lt, b1, b2, b3]; rfl))
        clear g3
        have HN := Aside0.mk b3n
        clear b3n
        go_wp2
        go_ret
        exact ⟨by rw [HV.out]; rfl, BW.out⟩
      have b3 : ((p1.length : Int) == 0) = false := beq_eq_false_iff_ne.mpr g3
      by_cases g4 : (p1.length : Int) > 60000
      · have b4 : decide (60000 < (p1.length : Int)) = true := decide_eq_true g4
        have HV := Aside0.mk (HVF.out (by unfold procS; simp only [gt_iff_lt, b1, b2, b3, b4]; rfl))
        clear g3 g4
        go_wp2
        go_ret
        exact ⟨by rw [HV.out]; rfl, BW.out⟩
      have b4 : decide (60000 < (p1.length : Int)) = false := decide_eq_false g4
      have hwl : wrap64 ((p1.length : Int) - 1) = (p1.length : Int) - 1 := by unfold wrap64; omega
      have hi0 : (0 ≤ (p1.length : Int) - 1) = True := eq_true (by omega)
      have hi2 : ((p1.length : Int) - 1 < (p1.length : Int)) = True := eq_true (by omega)
      have hi3 : decide (0 ≤ (p1.length : Int) - 1) = true := decide_eq_true (by omega)
      have hi5 : (1 ≤ (p1.length : Int)) = True := eq_true (by omega)
      have hi6 : decide (1 ≤ (p1.length : Int)) = true := decide_eq_true (by omega)
      have hi7 : ((p1.length : Int) < 1) = False := eq_false (by omega)
      have hi4 : decide ((p1.length : Int) - 1 < (p1.length : Int)) = true := decide_eq_true (by omega)
      obtain ⟨ad2, A7, c7, rfl, hz0, _⟩ := at_T31 HI1.out ((p1.length : Int) - 1) (by omega) (by omega)
      rw [show ((p1.length : Int) - 1).toNat = p1.length - 1 by omega] at hz0
      replace hz0 := ((below_alloc (Below.refl wr.heap.size wr) (.cells #[.int .i64 p0, .slice (some ad2) p1.length c1] 28)).cell (World.block_lt_of_cell? wr _ hz0)).trans hz0
      have HG2 := Aside0.mk (show rd_T31 p1 ((p1.length : Int) - 1) = p1.getD (p1.length - 1) z31 by unfold rd_T31; congr 1; omega)
      clear g3 g4
      by_cases g5 : (rd_T31 p1 ((p1.length : Int) - 1)).f0 = 20
      case neg =>
        have b5 : ((rd_T31 p1 ((p1.length : Int) - 1)).f0 == 20) = false := beq_eq_false_iff_ne.mpr g5
        have b5' : ((rd_T31 p1 ((p1.length : Int) - 1)).f0 != 20) = true := bne_iff_ne.mpr g5
        have HV := Aside0.mk (HVF.out (by unfold procS; simp only [gt_iff_lt, b1, b2, b3, b4, ← HG2.out, b5]; rfl))
        clear g5
        go_wp2
        go_ret
        exact ⟨by rw [HV.out]; rfl, BW.out⟩
      have b5 : ((rd_T31 p1 ((p1.length : Int) - 1)).f0 == 20) = true := beq_iff_eq.mpr g5
      have b5' : ((rd_T31 p1 ((p1.length : Int) - 1)).f0 != 20) = false := bne_eq_false_iff_eq.mpr g5
      clear g5
      have HPR := Aside0.mk (show PredX (wr.alloc (.cells #[.int .i64 p0, .slice (some ad2) p1.length c1] 28)) (.func (.func 24) #[] #[.pointer (some ⟨w2.heap.size, 0, none⟩), .pointer (some ⟨wr.heap.size, 0, none⟩), .pointer (some ⟨w.heap.size, 0, none⟩)]) p1 (fun x => !fitsS x p0 p1 (l.length : Int)) from
        ⟨_, _, rfl, enters Tryz.func24 (by kernel_rfl) (by kernel_rfl), fun W' hW' x Ax cx hx hxl hxc => by
          have hwr : Below wr.heap.size wr W' := below_step (below_alloc (Below.refl _ _) _) hW'
          have q1 := blk_below (blk_below K3.out HB.out) hwr
          have q2 := blk_below BP.out hW'
          have q3 := blk_below KP.out hwr
          have hw' := below_step BR.out hwr
          have h2 := below_step B23.out (below_step HB.out hwr)
          have wx := HWP.out.2 x hx
          exact r1_calls x Ax cx p0 (some ad2) c1 p1 _ l.length c w2.heap.size wr.heap.size w.heap.size W' bf bp ((blk_cell q1 0).trans rfl) ((blk_cell q1 1).trans rfl) ((blk_cell q2 0).trans rfl) ((blk_cell q2 1).trans rfl) ((blk_cell q3 0).trans rfl)
            (fun W hW => HF2.out W (below_step h2 hW)) (fun W hW => HP2.out W (below_step h2 hW)) (HL.out.below hw') ⟨hxl, hxc, Kd.C_below HI1.out hwr, HL1.out, wx.text⟩ wx.regs wx.kind⟩)
      have HCT := Aside0.mk (containsX _ _ (some ad2) c1 p1 _ HPR.out (Kd.C_below HI1.out (below_alloc (Below.refl _ _) _)) HL1.out hplen)
      by_cases g6 : (p1.any fun x => !fitsS x p0 p1 (l.length : Int)) = true
      · have HV := Aside0.mk (HVF.out (by unfold procS; simp only [gt_iff_lt, b1, b2, b3, b4, ← HG2.out, b5, g6]; rfl))
        rw [g6] at HCT
        clear g6
        go_wp2_with (go_at_call 23; refine HCT.out.mono ?_; rintro e w5 ⟨rfl, hb⟩; have BX := Aside0.mk (below_step BW.out hb); clear hb)
        go_ret
        exact ⟨by rw [HV.out]; rfl, BX.out⟩
      · have g6' : (p1.any fun x => !fitsS x p0 p1 (l.length : Int)) = false := by simpa using g6
        have HV := Aside0.mk (show procS (⟨p0, p1⟩ : S28) (l.length : Int) = true from by unfold procS; simp only [gt_iff_lt, b1, b2, b3, b4, ← HG2.out, b5, g6']; rfl)
        rw [g6'] at HCT
        clear g6 g6'
        have hwj : wrap64 ((j : Int) + 1) = ((j + 1 : Nat) : Int) := by have := HW.out.len; unfold wrap64; omega
        go_wp2_with (go_at_call 23; refine HCT.out.mono ?_; rintro e w5 ⟨rfl, hb⟩; have BX := Aside0.mk (below_step HB.out (below_step (below_alloc (Below.refl _ _) _) hb)); clear hb)
        go_roundg (gk - 1)
        case measure => omega
        case rel => exact ⟨j + 1, by go_num, by omega, by rw [all_take l _ z28 j hlt, HALL.out, ← HG.out, HV.out]; rfl, BX.out⟩
    · obtain rfl : j = l.length := by omega
      have hg : decide ((l.length : Int) < (l.length : Int)) = false := decide_eq_false (by omega)
      have HV := Aside0.mk (show codeS l = decide ((l.length : Int) > 0) from by
        have := HALL.out
        rw [List.take_length] at this
        unfold codeS
        rw [this, Bool.true_and])
      go_wp2
      go_ret
      exact ⟨by rw [HV.out]; simp [*], BR.out⟩
end Go.Proofs.YtjlhhjfmekjbhaaGreatDoor.Cd

/- slices.EqualFunc; code.Same: whether two codes are the same. No condition. -/
namespace Go.Proofs.YtjlhhjfmekjbhaaGreatDoor.Cd
open Go.RowKit Go.Proofs.YtjlhhjfmekjbhaaGreatDoorW.PrintWords Go.Proofs.YtjlhhjfmekjbhaaGreatDoorW.PrintLast Go.Proofs.YtjlhhjfmekjbhaaGreatDoorW.PrintMore Go.Proofs.YtjlhhjfmekjbhaaGreatDoor.Va Go.Proofs.YtjlhhjfmekjbhaaGreatDoor.Pq
set_option linter.unusedVariables false
set_option linter.unusedSimpArgs false
def all2 {α : Type} (P : α → α → Bool) (a b : List α) : Bool := (a.length == b.length) && (a.zip b).all fun q => P q.1 q.2
end Go.Proofs.YtjlhhjfmekjbhaaGreatDoor.Cd

/- code.Same: whether two codes are the same. No condition. -/
namespace Go.Proofs.YtjlhhjfmekjbhaaGreatDoor.Cd
open Go.RowKit Go.Proofs.YtjlhhjfmekjbhaaGreatDoorW.PrintWords Go.Proofs.YtjlhhjfmekjbhaaGreatDoorW.PrintLast Go.Proofs.YtjlhhjfmekjbhaaGreatDoorW.PrintMore Go.Proofs.YtjlhhjfmekjbhaaGreatDoor.Va Go.Proofs.YtjlhhjfmekjbhaaGreatDoor.Pq
set_option linter.unusedVariables false
set_option linter.unusedSimpArgs false
theorem drop_cons (l : List Int) (i : Nat) (h : i < l.length) : l.drop i = rd l (i : Int) :: l.drop (i + 1) := by
  rw [List.drop_eq_getElem_cons h]
  congr 1
  unfold rd
  rw [Int.toNat_natCast]
  simp [List.getD, h]
theorem eq_loop (a b : List Int) (h : a.length = b.length) (hn : a.length ≤ 140737488355328) : ∀ d i : Nat, i + d = a.length → slices_Equal_int_int.l0 (d + 1) a b (a.length : Int) (i : Int) = some (a.drop i == b.drop i) := by
  intro d
  induction d with
  | zero =>
    intro i hi
    rw [slices_Equal_int_int.l0, if_neg (by omega), List.drop_eq_nil_of_le (by omega), List.drop_eq_nil_of_le (by omega)]
    rfl
  | succ d ih =>
    intro i hi
    have hw : wrap64 ((i : Int) + 1) = ((i + 1 : Nat) : Int) := by unfold wrap64; omega
    rw [slices_Equal_int_int.l0, if_pos (by omega), if_pos (by omega), if_pos (by omega), if_pos (by omega), drop_cons a i (by omega), drop_cons b i (by omega), hw]
    by_cases e : rd a (i : Int) = rd b (i : Int)
    · rw [if_pos e, ih (i + 1) (by omega), e]
      simp
    · rw [if_neg e]
      simp [e]
theorem eq_tells (a b : List Int) (hn : a.length ≤ 140737488355328) : slices_Equal_int_int.f (a.length + 1) a b = some (a == b) := by
  unfold slices_Equal_int_int.f
  by_cases h : (a.length : Int) = (b.length : Int)
  · rw [if_pos h]
    have := eq_loop a b (by omega) hn a.length 0 (by omega)
    simpa using this
  · rw [if_neg h]
    have : (a == b) = false := beq_eq_false_iff_ne.mpr (fun e => h (by rw [e]))
    rw [this]
def insS (x y : S31) : Bool := (x.f7 == y.f7) && ((x.f0 == y.f0) && ((x.f1 == y.f1) && ((x.f2 == y.f2) && ((x.f3 == y.f3) && ((x.f4 == y.f4) && ((x.f5.toList == y.f5.toList) && (x.f6 == y.f6)))))))
theorem ins_tells (x y : S31) (hn : x.f7.length ≤ 140737488355328) : code_sameIns.f (x.f7.length + 1) x.f0 x.f1 x.f2 x.f3 x.f4 x.f5 x.f6 x.f7 y.f0 y.f1 y.f2 y.f3 y.f4 y.f5 y.f6 y.f7 = some (insS x y) := by
  unfold code_sameIns.f
  rw [eq_tells _ _ hn, Option.bind_some]
  unfold insS
  by_cases h7 : (x.f7 == y.f7) = true
  case neg => rw [if_neg h7, show (x.f7 == y.f7) = false by simpa using h7]; rfl
  rw [if_pos h7, h7, Bool.true_and]
  by_cases h0 : x.f0 = y.f0
  case neg => rw [if_neg h0, beq_eq_false_iff_ne.mpr h0]; rfl
  rw [if_pos h0, beq_iff_eq.mpr h0, Bool.true_and]
  by_cases h1 : x.f1 = y.f1
  case neg => rw [if_neg h1, beq_eq_false_iff_ne.mpr h1]; rfl
  rw [if_pos h1, beq_iff_eq.mpr h1, Bool.true_and]
  by_cases h2 : x.f2 = y.f2
  case neg => rw [if_neg h2, beq_eq_false_iff_ne.mpr h2]; rfl
  rw [if_pos h2, beq_iff_eq.mpr h2, Bool.true_and]
  by_cases h3 : x.f3 = y.f3
  case neg => rw [if_neg h3, beq_eq_false_iff_ne.mpr h3]; rfl
  rw [if_pos h3, beq_iff_eq.mpr h3, Bool.true_and]
  by_cases h4 : x.f4 = y.f4
  case neg => rw [if_neg h4, beq_eq_false_iff_ne.mpr h4]; rfl
  rw [if_pos h4, beq_iff_eq.mpr h4, Bool.true_and]
  by_cases h5 : x.f5.toList = y.f5.toList
  case neg => rw [if_neg h5, beq_eq_false_iff_ne.mpr h5]; rfl
  rw [if_pos h5, beq_iff_eq.mpr h5, Bool.true_and]
def prS (p q : S28) : Bool := (p.f0 == q.f0) && all2 insS p.f1 q.f1
def sameS (a b : List S28) : Bool := all2 prS a b
end Go.Proofs.YtjlhhjfmekjbhaaGreatDoor.Cd

/- The reference's ins, in closed form: it is what checker.fits tells. No condition. -/
namespace Go.Proofs.YtjlhhjfmekjbhaaGreatDoor.Vf
open Go.RowKit Go.Proofs.YtjlhhjfmekjbhaaGreatDoorW.PrintWords Go.Proofs.YtjlhhjfmekjbhaaGreatDoorW.PrintLast Go.Proofs.YtjlhhjfmekjbhaaGreatDoorW.PrintMore Go.Proofs.YtjlhhjfmekjbhaaGreatDoor.Va Go.Proofs.YtjlhhjfmekjbhaaGreatDoor.Pq Go.Proofs.YtjlhhjfmekjbhaaGreatDoor.Cd
set_option linter.unusedVariables false
set_option linter.unusedSimpArgs false
abbrev X := S31
abbrev P := S28
def hasS (s : ByteArray) (c : Int) : Bool := s.data.toList.any fun b => (b.toNat : Int) == c
theorem drop_at (l : List UInt8) (i : Nat) (h : i < l.length) : l.drop i = l.getD i 0 :: l.drop (i + 1) := by
  rw [List.drop_eq_getElem_cons h, List.getD_eq_getElem?_getD, List.getElem?_eq_getElem h]
  rfl
theorem has_loop (s : ByteArray) (c : Int) (hs : s.size ≤ 140737488355328) : ∀ d e i : Nat, i + d = s.size → q9_has.l0 (d + 1 + e) s c (i : Int) = some ((s.data.toList.drop i).any fun b => (b.toNat : Int) == c) := by
  have hl : s.data.toList.length = s.size := rfl
  intro d
  induction d with
  | zero =>
    intro e i hi
    rw [show 0 + 1 + e = e + 1 by omega, q9_has.l0, if_neg (by omega), List.drop_eq_nil_of_le (by omega)]
    rfl
  | succ d ih =>
    intro e i hi
    have hw : wrap64 ((i : Int) + 1) = ((i + 1 : Nat) : Int) := by unfold wrap64; omega
    rw [show d + 1 + 1 + e = (d + 1 + e) + 1 by omega, q9_has.l0, if_pos (by omega), if_pos (by omega), bt_getD s i (by omega), hw, drop_at s.data.toList i (by omega)]
    by_cases hc : ((s.data.toList.getD i 0).toNat : Int) = c
    · rw [if_pos hc, List.any_cons, beq_iff_eq.mpr hc]
      rfl
    · rw [if_neg hc, ih e (i + 1) (by omega), List.any_cons, beq_eq_false_iff_ne.mpr hc, Bool.false_or]
theorem has_ge (s : ByteArray) (c : Int) (hs : s.size ≤ 5) (k : Nat) (hk : 6 ≤ k) : q9_has.f k s c = some (hasS s c) := by
  obtain ⟨e, rfl⟩ : ∃ e, k = s.size + 1 + e := ⟨k - (s.size + 1), by omega⟩
  unfold q9_has.f hasS
  have := has_loop s c (by omega) s.size e 0 (by omega)
  simpa using this
def nameS (n : Int) : ByteArray := if n = 1 then ⟨#[68, 97, 78, 83]⟩ else if n = 2 then ⟨#[68, 118]⟩ else if n = 3 then ⟨#[65, 118]⟩ else if n = 4 then ⟨#[68]⟩ else if n = 5 then ⟨#[68]⟩ else if n = 6 then ⟨#[68, 109]⟩ else if n = 7 then ⟨#[68, 102]⟩ else if n = 8 then ⟨#[68, 65, 83]⟩ else if n = 9 then ⟨#[65, 83, 66]⟩ else if n = 10 then ⟨#[68, 65, 66]⟩ else if n = 11 then ⟨#[65, 66, 67]⟩ else if n = 12 then ⟨#[68, 65, 98, 76, 109]⟩ else if n = 13 then ⟨#[68, 65, 76, 109]⟩ else if n = 14 then ⟨#[68, 65, 66, 115]⟩ else if n = 15 then ⟨#[68, 65]⟩ else if n = 16 then ⟨#[68, 65]⟩ else if n = 17 then ⟨#[68, 65]⟩ else if n = 18 then ⟨#[106]⟩ else if n = 19 then ⟨#[65, 106]⟩ else if n = 20 then ⟨#[114]⟩ else if n = 21 then ⟨#[65]⟩ else if n = 22 then ⟨#[68, 106]⟩ else if n = 23 then ⟨#[]⟩ else if n = 24 then ⟨#[68, 65]⟩ else if n = 25 then ⟨#[68, 65, 106]⟩ else if n = 26 then ⟨#[68]⟩ else ⟨#[45]⟩
theorem cases26 (n : Int) : n = 1 ∨ n = 2 ∨ n = 3 ∨ n = 4 ∨ n = 5 ∨ n = 6 ∨ n = 7 ∨ n = 8 ∨ n = 9 ∨ n = 10 ∨ n = 11 ∨ n = 12 ∨ n = 13 ∨ n = 14 ∨ n = 15 ∨ n = 16 ∨ n = 17 ∨ n = 18 ∨ n = 19 ∨ n = 20 ∨ n = 21 ∨ n = 22 ∨ n = 23 ∨ n = 24 ∨ n = 25 ∨ n = 26 ∨ (n ≠ 1 ∧ n ≠ 2 ∧ n ≠ 3 ∧ n ≠ 4 ∧ n ≠ 5 ∧ n ≠ 6 ∧ n ≠ 7 ∧ n ≠ 8 ∧ n ≠ 9 ∧ n ≠ 10 ∧ n ≠ 11 ∧ n ≠ 12 ∧ n ≠ 13 ∧ n ≠ 14 ∧ n ≠ 15 ∧ n ≠ 16 ∧ n ≠ 17 ∧ n ≠ 18 ∧ n ≠ 19 ∧ n ≠ 20 ∧ n ≠ 21 ∧ n ≠ 22 ∧ n ≠ 23 ∧ n ≠ 24 ∧ n ≠ 25 ∧ n ≠ 26) := by omega
theorem name_other (n : Int) (h : n ≠ 1 ∧ n ≠ 2 ∧ n ≠ 3 ∧ n ≠ 4 ∧ n ≠ 5 ∧ n ≠ 6 ∧ n ≠ 7 ∧ n ≠ 8 ∧ n ≠ 9 ∧ n ≠ 10 ∧ n ≠ 11 ∧ n ≠ 12 ∧ n ≠ 13 ∧ n ≠ 14 ∧ n ≠ 15 ∧ n ≠ 16 ∧ n ≠ 17 ∧ n ≠ 18 ∧ n ≠ 19 ∧ n ≠ 20 ∧ n ≠ 21 ∧ n ≠ 22 ∧ n ≠ 23 ∧ n ≠ 24 ∧ n ≠ 25 ∧ n ≠ 26) : nameS n = ⟨#[45]⟩ ∧ formS n = none := by
  obtain ⟨h1, h2, h3, h4, h5, h6, h7, h8, h9, h10, h11, h12, h13, h14, h15, h16, h17, h18, h19, h20, h21, h22, h23, h24, h25, h26⟩ := h
  unfold nameS formS
  constructor
  · rw [if_neg h1, if_neg h2, if_neg h3, if_neg h4, if_neg h5, if_neg h6, if_neg h7, if_neg h8, if_neg h9, if_neg h10, if_neg h11, if_neg h12, if_neg h13, if_neg h14, if_neg h15, if_neg h16, if_neg h17, if_neg h18, if_neg h19, if_neg h20, if_neg h21, if_neg h22, if_neg h23, if_neg h24, if_neg h25, if_neg h26]
  · rw [if_neg h26, if_neg h25, if_neg h24, if_neg h23, if_neg h22, if_neg h21, if_neg h20, if_neg h19, if_neg h18, if_neg h17, if_neg h16, if_neg h15, if_neg h14, if_neg h13, if_neg h12, if_neg h11, if_neg h10, if_neg h9, if_neg h8, if_neg h7, if_neg h6, if_neg h5, if_neg h4, if_neg h3, if_neg h2, if_neg h1]
theorem names_tells (n : Int) (k : Nat) : q9_names.f (k + 2) n = some (nameS n) := by
  rcases cases26 n with rfl | rfl | rfl | rfl | rfl | rfl | rfl | rfl | rfl | rfl | rfl | rfl | rfl | rfl | rfl | rfl | rfl | rfl | rfl | rfl | rfl | rfl | rfl | rfl | rfl | rfl | h
  rotate_right
  · rw [(name_other n h).1]
    obtain ⟨h1, h2, h3, h4, h5, h6, h7, h8, h9, h10, h11, h12, h13, h14, h15, h16, h17, h18, h19, h20, h21, h22, h23, h24, h25, h26⟩ := h
    simp [q9_names.f, q9_names.j0, q9_names.j1, *]
  all_goals simp [q9_names.f, q9_names.j0, q9_names.j1, nameS]
theorem name_size (n : Int) : (nameS n).size ≤ 5 := by
  rcases cases26 n with rfl | rfl | rfl | rfl | rfl | rfl | rfl | rfl | rfl | rfl | rfl | rfl | rfl | rfl | rfl | rfl | rfl | rfl | rfl | rfl | rfl | rfl | rfl | rfl | rfl | rfl | h
  rotate_right
  · rw [(name_other n h).1]
    decide
  all_goals decide
def regS (n : Int) (named : Bool) (r : Int) : Bool := if named = true then isR n r else n == 0
theorem reg_tells (n : Int) (named : Bool) (r : Int) : q9_reg.f n named r = some (regS n named r) := by
  unfold q9_reg.f regS isR
  cases named
  · rfl
  · rw [if_pos rfl, if_pos rfl]
    by_cases h : n ≥ 0
    · rw [if_pos h, decide_eq_true h]; rfl
    · rw [if_neg h, decide_eq_false h]; rfl
def numR (H : Int → Bool) (N len u : Int) : Bool :=
  if H 78 = true then true else if H 118 = true then decide (N ≥ 0) && (decide (N < wrap64 (u * 1000)) && decide (Int.tmod N 1000 < 200)) else if H 109 = true then decide (N ≥ 4) && decide (N ≤ 1000000)
  else if H 102 = true then decide (N > 0) && decide (N < u) else if H 106 = true then decide (N ≥ 0) && decide (N < len) else N == 0
theorem ite_dec {p : Prop} [Decidable p] (q : Bool) : (if p then some q else some false) = some (decide p && q) := by
  by_cases h : p
  · rw [if_pos h, decide_eq_true h]; rfl
  · rw [if_neg h, decide_eq_false h]; rfl
theorem number_tells (x : X) (s : ByteArray) (hs : s.size ≤ 5) (r : Int) (l : List X) (u : Int) (k : Nat) (hk : 6 ≤ k) : q9_number.f k x.f0 x.f1 x.f2 x.f3 x.f4 x.f5 x.f6 x.f7 s r l u = some (numR (hasS s) x.f6 (l.length : Int) u) := by
  unfold q9_number.f numR
  simp only [has_ge s _ hs k hk, Option.bind_some, ite_dec]
  repeat' split
  all_goals rfl
def tailR (s : ByteArray) (x : X) (r len u : Int) (a b t : Bool) : Bool := a && (b && (t && (numR (hasS s) x.f6 len u && (regS x.f1 (hasS s 68) r && regS x.f4 (hasS s 67) r))))
theorem l0_tells (s : ByteArray) (hs : s.size ≤ 5) (x : X) (r : Int) (l : List X) (u : Int) (a b t : Bool) (hx : x.f7.length ≤ 140737488355328) : ∀ d e i : Nat, i + d = x.f7.length → q9_ins.l0 (d + 7 + e) u s a b t (i : Int) x.f0 x.f1 x.f2 x.f3 x.f4 x.f5 x.f6 x.f7 r l = some ((x.f7.drop i).all (fun n => isR n r) && tailR s x r (l.length : Int) u a b t) := by
  intro d
  induction d with
  | zero =>
    intro e i hi
    rw [show 0 + 7 + e = (6 + e) + 1 by omega, q9_ins.l0, if_neg (by omega), List.drop_eq_nil_of_le (by omega), number_tells x s hs r l u (6 + e) (by omega)]
    simp only [Option.bind_some, has_ge s _ hs (6 + e) (by omega), reg_tells, List.all_nil, Bool.true_and]
    unfold tailR
    cases a <;> cases b <;> cases t <;> cases numR (hasS s) x.f6 (l.length : Int) u <;> cases regS x.f1 (hasS s 68) r <;> rfl
  | succ d ih =>
    intro e i hi
    have hw : wrap64 ((i : Int) + 1) = ((i + 1 : Nat) : Int) := by unfold wrap64; omega
    have hr : rd x.f7 (i : Int) = x.f7.getD i 0 := by unfold rd; rw [Int.toNat_natCast]
    have e2 : x.f7.drop i = x.f7.getD i 0 :: x.f7.drop (i + 1) := by
      rw [List.drop_eq_getElem_cons (by omega), List.getD_eq_getElem?_getD, List.getElem?_eq_getElem (by omega)]
      rfl
    rw [show d + 1 + 7 + e = (d + 7 + e) + 1 by omega, q9_ins.l0, if_pos (by omega), if_pos (by omega), hr, hw, e2, List.all_cons]
    by_cases h1 : x.f7.getD i 0 < 0
    · rw [if_pos h1]
      have : isR (x.f7.getD i 0) r = false := by unfold isR; rw [decide_eq_false (by omega)]; rfl
      rw [this]; rfl
    · rw [if_neg h1]
      by_cases h2 : x.f7.getD i 0 ≥ r
      · rw [if_pos h2]
        have : isR (x.f7.getD i 0) r = false := by unfold isR; rw [decide_eq_false (p := x.f7.getD i 0 < r) (by omega)]; simp
        rw [this]; rfl
      · rw [if_neg h2, ih e (i + 1) (by omega)]
        have : isR (x.f7.getD i 0) r = true := by unfold isR; rw [decide_eq_true (by omega), decide_eq_true (by omega)]; rfl
        rw [this, Bool.true_and]
def insR (s : ByteArray) (x : X) (r len u : Int) : Bool :=
  !(s.toList == [45]) && (!(decide ((x.f7.length : Int) > 0) && !hasS s 76) && (x.f7.all (fun n => isR n r) && tailR s x r len u
    (if hasS s 114 = true then decide (x.f2 ≥ -1) && decide (x.f2 < r) else if hasS s 97 = true then rightS x.f2 x.f6 x.f5 && (x.f2 != 5) else regS x.f2 (hasS s 65) r)
    (if hasS s 98 = true then decide (x.f3 ≥ -1) && decide (x.f3 < r) else regS x.f3 (hasS s 66) r)
    (if hasS s 115 = true then (twoS x.f5.data.toList zeroV zeroV).2 == 0 else (x.f5.toList == []) || hasS s 83)))
theorem sign_tells (s : ByteArray) : q9_sign.f s = some ((twoS s.data.toList zeroV zeroV).2 == 0) := by
  unfold q9_sign.f Vb.q6_Two.f
  rw [if_pos (by decide)]
  rfl
theorem ins_tells (x : X) (r : Int) (l : List X) (u : Int) (hx : x.f7.length ≤ 140737488355328) (k : Nat) (hk : x.f7.length + 20 ≤ k) : q9_ins.f k x.f0 x.f1 x.f2 x.f3 x.f4 x.f5 x.f6 x.f7 r l u = some (insR (nameS x.f0) x r (l.length : Int) u) := by
  have hs := name_size x.f0
  obtain ⟨e, rfl⟩ : ∃ e, k = x.f7.length + 20 + e := ⟨k - (x.f7.length + 20), by omega⟩
  unfold q9_ins.f insR
  rw [show x.f7.length + 20 + e = (x.f7.length + 18 + e) + 2 by omega, names_tells]
  generalize nameS x.f0 = s at *
  have h5 : ∀ a b t bad, q9_ins.j5 (x.f7.length + 8 + (7 + e)) u s a b t bad x.f0 x.f1 x.f2 x.f3 x.f4 x.f5 x.f6 x.f7 r l = some (!bad && (x.f7.all (fun n => isR n r) && tailR s x r (l.length : Int) u a b t)) := by
    intro a b t bad
    rw [show x.f7.length + 8 + (7 + e) = (x.f7.length + 7 + (7 + e)) + 1 by omega, q9_ins.j5]
    cases bad
    · have := l0_tells s hs x r l u a b t hx x.f7.length (7 + e) 0 (by omega)
      rw [if_neg (by decide)]
      simpa using this
    · rfl
  have h4 : ∀ a b t, q9_ins.j4 (x.f7.length + 9 + (7 + e)) u s a b t x.f0 x.f1 x.f2 x.f3 x.f4 x.f5 x.f6 x.f7 r l = some (!(decide ((x.f7.length : Int) > 0) && !hasS s 76) && (x.f7.all (fun n => isR n r) && tailR s x r (l.length : Int) u a b t)) := by
    intro a b t
    rw [show x.f7.length + 9 + (7 + e) = (x.f7.length + 8 + (7 + e)) + 1 by omega, q9_ins.j4, has_ge s 76 hs _ (by omega), Option.bind_some, h5, h5]
    by_cases h : (x.f7.length : Int) > 0
    · rw [if_pos h, decide_eq_true h]; rfl
    · rw [if_neg h, decide_eq_false h]; rfl
  have h3 : ∀ a b t, q9_ins.j3 (x.f7.length + 10 + (7 + e)) u s a b t x.f0 x.f1 x.f2 x.f3 x.f4 x.f5 x.f6 x.f7 r l = some (!(decide ((x.f7.length : Int) > 0) && !hasS s 76) && (x.f7.all (fun n => isR n r) && tailR s x r (l.length : Int) u a b (if hasS s 115 = true then (twoS x.f5.data.toList zeroV zeroV).2 == 0 else t))) := by
    intro a b t
    rw [show x.f7.length + 10 + (7 + e) = (x.f7.length + 9 + (7 + e)) + 1 by omega, q9_ins.j3, has_ge s 115 hs _ (by omega), Option.bind_some, sign_tells, Option.bind_some, h4, h4]
    cases hasS s 115 <;> rfl
  have h2 : ∀ a b, q9_ins.j2 (x.f7.length + 11 + (7 + e)) u s a b x.f0 x.f1 x.f2 x.f3 x.f4 x.f5 x.f6 x.f7 r l = some (!(decide ((x.f7.length : Int) > 0) && !hasS s 76) && (x.f7.all (fun n => isR n r) && tailR s x r (l.length : Int) u a b (if hasS s 115 = true then (twoS x.f5.data.toList zeroV zeroV).2 == 0 else (x.f5.toList == []) || hasS s 83))) := by
    intro a b
    rw [show x.f7.length + 11 + (7 + e) = (x.f7.length + 10 + (7 + e)) + 1 by omega, q9_ins.j2, has_ge s 83 hs _ (by omega), Option.bind_some, h3, h3]
    by_cases h : x.f5.toList = []
    · rw [if_pos h, beq_iff_eq.mpr h, Bool.true_or]
    · rw [if_neg h, beq_eq_false_iff_ne.mpr h, Bool.false_or]
  have h1 : ∀ a, q9_ins.j1 (x.f7.length + 12 + (7 + e)) u s a x.f0 x.f1 x.f2 x.f3 x.f4 x.f5 x.f6 x.f7 r l = some (!(decide ((x.f7.length : Int) > 0) && !hasS s 76) && (x.f7.all (fun n => isR n r) && tailR s x r (l.length : Int) u a (if hasS s 98 = true then decide (x.f3 ≥ -1) && decide (x.f3 < r) else regS x.f3 (hasS s 66) r) (if hasS s 115 = true then (twoS x.f5.data.toList zeroV zeroV).2 == 0 else (x.f5.toList == []) || hasS s 83))) := by
    intro a
    rw [show x.f7.length + 12 + (7 + e) = (x.f7.length + 11 + (7 + e)) + 1 by omega, q9_ins.j1, has_ge s 66 hs _ (by omega), Option.bind_some, reg_tells, Option.bind_some, has_ge s 98 hs _ (by omega), Option.bind_some, h2, h2, h2]
    cases hasS s 98
    · rfl
    · by_cases h : x.f3 ≥ -1
      · rw [if_pos rfl, if_pos h, decide_eq_true h]; rfl
      · rw [if_pos rfl, if_neg h, decide_eq_false h]; rfl
  have h0 : ∀ a, q9_ins.j0 (x.f7.length + 18 + e + 2) u s a x.f0 x.f1 x.f2 x.f3 x.f4 x.f5 x.f6 x.f7 r l = some (!(decide ((x.f7.length : Int) > 0) && !hasS s 76) && (x.f7.all (fun n => isR n r) && tailR s x r (l.length : Int) u (if hasS s 114 = true then decide (x.f2 ≥ -1) && decide (x.f2 < r) else a) (if hasS s 98 = true then decide (x.f3 ≥ -1) && decide (x.f3 < r) else regS x.f3 (hasS s 66) r) (if hasS s 115 = true then (twoS x.f5.data.toList zeroV zeroV).2 == 0 else (x.f5.toList == []) || hasS s 83))) := by
    intro a
    rw [show x.f7.length + 18 + e + 2 = (x.f7.length + 12 + (7 + e)) + 1 by omega, q9_ins.j0, has_ge s 114 hs _ (by omega), Option.bind_some, h1, h1, h1]
    cases hasS s 114
    · rfl
    · by_cases h : x.f2 ≥ -1
      · rw [if_pos rfl, if_pos h, decide_eq_true h]; rfl
      · rw [if_pos rfl, if_neg h, decide_eq_false h]; rfl
  rw [Option.bind_some]
  by_cases hd : s.toList = [45]
  · rw [if_pos hd, beq_iff_eq.mpr hd]; rfl
  · rw [if_neg hd, beq_eq_false_iff_ne.mpr hd, has_ge s 65 hs _ (by omega), Option.bind_some, reg_tells, Option.bind_some, has_ge s 97 hs _ (by omega), Option.bind_some, h0, h0, h0]
    unfold Vb.q6_Right.f
    rw [Option.bind_some]
    cases hasS s 97
    · rfl
    · cases rightS x.f2 x.f6 x.f5 <;> rfl
end Go.Proofs.YtjlhhjfmekjbhaaGreatDoor.Vf

/- The reference's ins is checker.fits; its Right is code.Right. No condition. -/
namespace Go.Proofs.YtjlhhjfmekjbhaaGreatDoor.Vf
open Go.RowKit Go.Proofs.YtjlhhjfmekjbhaaGreatDoorW.PrintWords Go.Proofs.YtjlhhjfmekjbhaaGreatDoorW.PrintLast Go.Proofs.YtjlhhjfmekjbhaaGreatDoorW.PrintMore Go.Proofs.YtjlhhjfmekjbhaaGreatDoor.Va Go.Proofs.YtjlhhjfmekjbhaaGreatDoor.Pq Go.Proofs.YtjlhhjfmekjbhaaGreatDoor.Cd
set_option linter.unusedVariables false
set_option linter.unusedSimpArgs false
theorem var_num (N u : Int) (h0 : -9223372036854775808 ≤ N) (h1 : N ≤ 9223372036854775807) (hu0 : 0 ≤ u) (hu1 : u ≤ 1000000) :
    (decide (N ≥ 0) && (decide (N < wrap64 (u * 1000)) && decide (Int.tmod N 1000 < 200))) = (decide (N ≥ 0) && (decide (wrap64 (Int.tdiv N 1000) < u) && decide (Int.tmod N 1000 < 200))) := by
  by_cases h : N ≥ 0
  · have e1 : wrap64 (u * 1000) = u * 1000 := by unfold wrap64; omega
    have e2 : Int.tdiv N 1000 = N / 1000 := Int.tdiv_eq_ediv_of_nonneg h
    have e3 : wrap64 (N / 1000) = N / 1000 := by unfold wrap64; omega
    rw [e1, e2, e3]
    congr 2
    rw [decide_eq_decide]
    omega
  · rw [decide_eq_false h]; rfl
theorem or_m1 (n r : Int) (hr : 0 ≤ r) : ((n == -1) || isR n r) = (decide (-1 ≤ n) && decide (n < r)) := by
  unfold isR
  rw [Bool.eq_iff_iff]
  simp only [Bool.or_eq_true, Bool.and_eq_true, beq_iff_eq, decide_eq_true_eq]
  omega
theorem any_all (r : Int) (t : List Int) : (!t.any fun n => !isR n r) = t.all fun n => isR n r := by
  induction t with
  | nil => rfl
  | cons n t ih => simp only [List.any_cons, List.all_cons, Bool.not_or, Bool.not_not, ih]
theorem ins_fits (x : X) (r : Int) (l : List X) (u : Int) (h0 : -9223372036854775808 ≤ x.f6) (h1 : x.f6 ≤ 9223372036854775807) (hu0 : 0 ≤ u) (hu1 : u ≤ 1000000) (hr : 0 ≤ r) : insR (nameS x.f0) x r (l.length : Int) u = fitsS x r l u := by
  have hv := var_num x.f6 u h0 h1 hu0 hu1
  obtain ⟨x0, x1, x2, x3, x4, x5, x6, x7⟩ := x
  dsimp only at *
  have e1 : decide (x6 ≤ 1000000) = decide (x6 < 1000001) := by rw [decide_eq_decide]; omega
  have e2 : decide (0 < x6) = decide (1 ≤ x6) := by rw [decide_eq_decide]; omega
  have e3 := or_m1 x3 r hr
  have e4 := or_m1 x2 r hr
  have e5 := any_all r
  rcases cases26 x0 with rfl | rfl | rfl | rfl | rfl | rfl | rfl | rfl | rfl | rfl | rfl | rfl | rfl | rfl | rfl | rfl | rfl | rfl | rfl | rfl | rfl | rfl | rfl | rfl | rfl | rfl | h
  rotate_right
  · have := (name_other x0 h).2
    unfold fitsS insR
    dsimp only
    rw [this, (name_other x0 h).1, ByteArray.toList_eq]
    rfl
  all_goals
    cases x7 with
    | nil =>
      simp [insR, nameS, hasS, fitsS, formS, letS, ruleS, restS, blankS, tailR, regS, numR, hv, ByteArray.toList_eq]
      try (simp only [e1, e2, e3, e4]; ac_rfl)
      try ac_rfl
    | cons n t =>
      simp [insR, nameS, hasS, fitsS, formS, letS, ruleS, restS, blankS, tailR, regS, numR, hv, ByteArray.toList_eq]
      try (intros; omega)
      try (simp only [e1, e2, e3, e4, e5]; ac_rfl)
      try ac_rfl
structure TinyX (x : X) : Prop where
  lo : -9223372036854775808 ≤ x.f6
  hi : x.f6 ≤ 9223372036854775807
  l7 : x.f7.length ≤ 100
structure TinyL (l : List P) : Prop where
  len : l.length ≤ 100
  proc : ∀ p ∈ l, p.f1.length ≤ 100 ∧ ∀ x ∈ p.f1, TinyX x
theorem l1_tells (l : List P) (j : Int) (hl : l.length ≤ 100) (r : Int) (hr : 0 ≤ r) (pl : List X) (hp : pl.length ≤ 100) (hx : ∀ x ∈ pl, TinyX x) (e : Nat) (he : 120 ≤ e) : ∀ d i : Nat, i + d = pl.length →
    q9_Right.l1 (d + 1 + e) l j (pl.length : Int) (i : Int) r pl = if ((pl.drop i).all fun x => fitsS x r pl (l.length : Int)) = true then q9_Right.l0 (e) l (wrap64 (j + 1)) else some false := by
  intro d
  induction d with
  | zero =>
    intro i hi
    rw [show 0 + 1 + e = e + 1 by omega, q9_Right.l1, if_neg (by omega), List.drop_eq_nil_of_le (by omega)]
    rfl
  | succ d ih =>
    intro i hi
    have hw : wrap64 ((i : Int) + 1) = ((i + 1 : Nat) : Int) := by unfold wrap64; omega
    have hrd : rd_T31 pl (i : Int) = pl.getD i z31 := by unfold rd_T31; rw [Int.toNat_natCast]
    have hm : pl.getD i z31 ∈ pl := by rw [List.getD_eq_getElem?_getD, List.getElem?_eq_getElem (by omega)]; exact List.getElem_mem _
    have e2 : pl.drop i = pl.getD i z31 :: pl.drop (i + 1) := by
      rw [List.drop_eq_getElem_cons (by omega), List.getD_eq_getElem?_getD, List.getElem?_eq_getElem (by omega)]
      rfl
    have hX := hx _ hm
    rw [show d + 1 + 1 + e = (d + 1 + e) + 1 by omega, q9_Right.l1, if_pos (by omega), if_pos (by omega), if_pos (by omega), hrd, e2, List.all_cons, hw]
    generalize pl.getD i z31 = x at *
    rw [ins_tells x r pl (l.length : Int) (by have := hX.l7; omega) (d + 1 + e) (by have := hX.l7; omega), Option.bind_some, ins_fits x r pl (l.length : Int) hX.lo hX.hi (by omega) (by omega) hr, ih (i + 1) (by omega)]
    cases fitsS x r pl (l.length : Int) <;> rfl
theorem any_fits (f : X → Bool) (t : List X) : (!t.any fun x => !f x) = t.all f := by
  induction t with
  | nil => rfl
  | cons n t ih => simp only [List.any_cons, List.all_cons, Bool.not_or, Bool.not_not, ih]
theorem l0R_tells (l : List P) (h : TinyL l) : ∀ d j e : Nat, j + d = l.length → 120 ≤ e → q9_Right.l0 (d * 104 + 1 + e) l (j : Int) = some (((l.drop j).all fun p => procS p (l.length : Int)) && decide ((l.length : Int) > 0)) := by
  intro d
  induction d with
  | zero =>
    intro j e hj he
    rw [show 0 * 104 + 1 + e = e + 1 by omega, q9_Right.l0, if_neg (by omega), List.drop_eq_nil_of_le (by omega)]
    rfl
  | succ d ih =>
    intro j e hj he
    have hll := h.len
    have hw : wrap64 ((j : Int) + 1) = ((j + 1 : Nat) : Int) := by unfold wrap64; omega
    have hrd : rd_T28 l (j : Int) = l.getD j z28 := by unfold rd_T28; rw [Int.toNat_natCast]
    have hm : l.getD j z28 ∈ l := by rw [List.getD_eq_getElem?_getD, List.getElem?_eq_getElem (by omega)]; exact List.getElem_mem _
    have e2 : l.drop j = l.getD j z28 :: l.drop (j + 1) := by
      rw [List.drop_eq_getElem_cons (by omega), List.getD_eq_getElem?_getD, List.getElem?_eq_getElem (by omega)]
      rfl
    have hP := h.proc _ hm
    rw [show (d + 1) * 104 + 1 + e = (d * 104 + 104 + e) + 1 by omega, q9_Right.l0, if_pos (by omega), if_pos (by omega), hrd, e2, List.all_cons]
    generalize l.getD j z28 = p at *
    have hbad : ∀ r pl x5, q9_Right.j1 (d * 104 + 104 + e) l (j : Int) x5 true r pl = some false := by
      intro r pl x5
      rw [show d * 104 + 104 + e = (d * 104 + 103 + e) + 1 by omega, q9_Right.j1, if_pos rfl]
    unfold procS
    by_cases h1 : p.f0 < 0
    · rw [if_pos h1, hbad, decide_eq_true h1]; rfl
    rw [if_neg h1, decide_eq_false h1]
    by_cases h2 : p.f0 > 60000
    · rw [if_pos h2, hbad, decide_eq_true h2]; rfl
    rw [if_neg h2, decide_eq_false h2]
    by_cases h3 : (p.f1.length : Int) < 1
    · have h3' : ((p.f1.length : Int) == 0) = true := by rw [beq_iff_eq]; omega
      rw [if_pos h3, hbad, h3']; rfl
    have h3' : ((p.f1.length : Int) == 0) = false := by rw [beq_eq_false_iff_ne]; omega
    have hw2 : wrap64 ((p.f1.length : Int) - 1) = ((p.f1.length - 1 : Nat) : Int) := by have := hP.1; unfold wrap64; omega
    have hrd2 : rd_T31 p.f1 ((p.f1.length - 1 : Nat) : Int) = p.f1.getD (p.f1.length - 1) z31 := by unfold rd_T31; rw [Int.toNat_natCast]
    have h4 : ¬ (p.f1.length : Int) > 60000 := by have := hP.1; omega
    rw [if_neg h3, h3', if_neg h4, decide_eq_false h4, hw2, if_pos (by omega), if_pos (by omega), hrd2]
    rw [show d * 104 + 104 + e = (d * 104 + 103 + e) + 1 by omega, q9_Right.j1]
    by_cases h5 : (p.f1.getD (p.f1.length - 1) z31).f0 = 20
    · rw [if_neg (by rw [h5]; decide), beq_iff_eq.mpr h5]
      have hk : d * 104 + 103 + e = p.f1.length + 1 + ((d * 104 + 1) + (e + 101 - p.f1.length)) := by have := hP.1; omega
      have hl := l1_tells l (j : Int) hll p.f0 (by omega) p.f1 hP.1 hP.2 ((d * 104 + 1) + (e + 101 - p.f1.length)) (by have := hP.1; omega) p.f1.length 0 (by omega)
      rw [hk, show (0 : Int) = ((0 : Nat) : Int) from rfl, hl, hw, ih (j + 1) (e + 101 - p.f1.length) (by omega) (by have := hP.1; omega), List.drop_zero]
      have ea := any_fits (fun x => fitsS x p.f0 p.f1 (l.length : Int)) p.f1
      rw [ea]
      cases (p.f1.all fun x => fitsS x p.f0 p.f1 (l.length : Int)) <;> rfl
    · rw [if_pos (bne_iff_ne.mpr h5), beq_eq_false_iff_ne.mpr h5]; rfl
end Go.Proofs.YtjlhhjfmekjbhaaGreatDoor.Vf

/- A range over a function: one law for the caller, one word for an iterator's contract. Each party owns blocks: the caller those of O (which may grow by new ones), the iterator others; what neither owns stays as it is. -/
namespace Go.Proofs.YtjlhhjfmekjbhaaGreatDoor.Iter
open Go.RowKit
set_option linter.unusedVariables false
structure Chg (S : Nat → Prop) (W W' : World) : Prop where
  os : W'.os = W.os
  tape : W'.tape = W.tape
  output : W'.output = W.output
  size : W.heap.size ≤ W'.heap.size
  block : ∀ k, k < W.heap.size → ¬ S k → W'.heap[k]? = W.heap[k]?
theorem Chg.refl (S : Nat → Prop) (W : World) : Chg S W W := ⟨rfl, rfl, rfl, Nat.le_refl _, fun _ _ _ => rfl⟩
theorem Chg.mono {S T : Nat → Prop} {W W' : World} (h : Chg S W W') (hs : ∀ k, k < W.heap.size → S k → T k) : Chg T W W' :=
  ⟨h.os, h.tape, h.output, h.size, fun k hk hn => h.block k hk (fun hS => hn (hs k hk hS))⟩
theorem Chg.trans {S T : Nat → Prop} {A B C : World} (h : Chg S A B) (k : Chg T B C) (hT : ∀ i, T i → S i ∨ A.heap.size ≤ i) : Chg S A C :=
  ⟨k.os.trans h.os, k.tape.trans h.tape, k.output.trans h.output, Nat.le_trans h.size k.size, fun i hi hn =>
    (k.block i (Nat.lt_of_lt_of_le hi h.size) (fun hTi => (hT i hTi).elim hn (fun h' => by omega))).trans (h.block i hi hn)⟩
theorem Chg.then_ {S : Nat → Prop} {A B C : World} (h : Chg S A B) (k : Chg S B C) : Chg S A C := h.trans k (fun _ hi => .inl hi)
theorem Chg.alloc {S : Nat → Prop} {A B : World} (h : Chg S A B) (o : Obj) : Chg S A (B.alloc o) :=
  h.then_ ⟨rfl, rfl, rfl, by simp, fun k hk _ => Below.heap_alloc _ _ _ hk⟩
theorem Chg.setCell {S : Nat → Prop} {A B : World} (h : Chg S A B) {p : Addr} (hp : S p.block ∨ A.heap.size ≤ p.block) (u : Value) : Chg S A (B.setCell p u) :=
  h.trans (T := fun k => k = p.block) ⟨rfl, rfl, rfl, by simp [World.setCell], fun k _ hn => Below.heap_setCell _ _ _ _ hn⟩ (fun k hk => by rw [hk]; exact hp)
theorem Chg.putObj {S : Nat → Prop} {A B : World} (h : Chg S A B) {l : Nat} (hl : S l ∨ A.heap.size ≤ l) (o : Obj) : Chg S A (B.putObj l o) :=
  h.trans (T := fun k => k = l) ⟨rfl, rfl, rfl, by simp, fun k _ hn => World.putObj_heap_other hn⟩ (fun k hk => by rw [hk]; exact hl)
theorem Chg.put1 (A : World) (l : Nat) (o : Obj) : Chg (fun i => i = l) A (A.putObj l o) := (Chg.refl (fun i => i = l) A).putObj (.inl rfl) o
theorem Chg.grown {S : Nat → Prop} {A B C : World} {row : Option Nat} (h : Chg S A B) (hg : B.grownBy C row) (hr : ∀ k, row = some k → S k ∨ A.heap.size ≤ k) : Chg S A C :=
  h.trans (T := fun k => row = some k) ⟨hg.os, hg.tape, hg.output, hg.size, fun k hk hn => hg.block k hk (fun e => hn e.symm)⟩ hr
theorem Chg.of_grown {A B : World} {row : Option Nat} (hg : A.grownBy B row) : Chg (fun k => row = some k) A B := ⟨hg.os, hg.tape, hg.output, hg.size, fun k hk hn => hg.block k hk (fun e => hn e.symm)⟩
theorem Chg.of_below {A B : World} (hb : Below A.heap.size A B) (S : Nat → Prop) : Chg S A B := ⟨hb.os, hb.tape, hb.output, hb.size, fun k hk _ => hb.block k hk⟩
theorem Chg.below {A B : World} {S : Nat → Prop} (h : Chg S A B) {n : Nat} (hn : n ≤ A.heap.size) (hS : ∀ k, S k → n ≤ k) : Below n A B :=
  ⟨h.os, h.tape, h.output, h.size, fun k hk => h.block k (by omega) (fun hs => by have := hS k hs; omega)⟩
theorem Chg.blk {S : Nat → Prop} {A B : World} (h : Chg S A B) {k : Nat} {o : Obj} (hk : A.heap[k]? = some o) (hn : ¬ S k) : B.heap[k]? = some o :=
  (h.block k (Array.getElem?_eq_some_iff.1 hk).1 hn).trans hk
theorem Chg.cell {S : Nat → Prop} {A B : World} (h : Chg S A B) {a : Addr} {v : Value} (hc : A.cell? a = some v) (hn : ¬ S a.block) : B.cell? a = some v := by
  have := h.block a.block (World.block_lt_of_cell? A a hc) hn
  simpa [World.cell?, this] using hc
def Abide (B0 : Nat) (J : (Nat → Prop) → World → Prop) : Prop :=
  ∀ (O : Nat → Prop) (A B : World) (T : Nat → Prop), J O A → Chg T A B → (∀ i, T i → B0 ≤ i ∧ ¬ O i) → J O B
def Grow (O : Nat → Prop) (W : World) (O2 : Nat → Prop) (W' : World) : Prop := ∀ i, O2 i → (O i ∨ W.heap.size ≤ i) ∧ i < W'.heap.size
theorem Grow.same {O : Nat → Prop} {W W' : World} (hO : ∀ i, O i → i < W.heap.size) (hs : W.heap.size ≤ W'.heap.size) : Grow O W O W' := fun i hi => ⟨.inl hi, Nat.lt_of_lt_of_le (hO i hi) hs⟩
def IterOK {α : Type} (P : Program) (gf : Nat) (lb : Array Value) (encs : α → Array Value) (xs : List α) (B0 : Nat) (Oi : Nat → Prop) (w : World) : Prop :=
  ∀ (l : Nat) (J : Nat → (Nat → Prop) → World → Prop) (Jx : Nat → (Nat → Prop) → World → Prop) (O : Nat → Prop) (W : World),
    Chg (fun i => O i ∧ w.heap.size ≤ i) w W → (∀ i, O i → ¬ Oi i ∧ B0 ≤ i ∧ i < W.heap.size) → (∀ k, Abide B0 (J k)) → (∀ k, Abide B0 (Jx k)) →
    (∀ k (x : α) (O1 : Nat → Prop) (W1 : World), xs[k]? = some x → J k O1 W1 → (∀ i, O1 i → i < W1.heap.size) → YieldAt Fence.wide 0 P l (encs x) W1 fun e W' =>
      (e = .returned (.bool true) ∧ (∃ O2 : Nat → Prop, Grow O1 W1 O2 W' ∧ J (k + 1) O2 W') ∧ Chg O1 W1 W') ∨ (e = .returned (.bool false) ∧ (∃ O2 : Nat → Prop, Grow O1 W1 O2 W' ∧ Jx k O2 W') ∧ Chg O1 W1 W')) →
    J 0 O W →
    Calls P gf (#[.func (.yield l) #[] #[]] ++ lb) W fun e W' => (∃ v, e = .returned v) ∧ ((∃ O2, J xs.length O2 W') ∨ (∃ k O2, k < xs.length ∧ Jx k O2 W'))
def rPost (I : Nat → (Nat → Prop) → World → Prop) (Ix : Code → Nat → (Nat → Prop) → World → Prop) (k : Nat) (O : Nat → Prop) (W : World) : Exit → Act → World → Prop
  | .normal, _, W' => Chg O W W' ∧ ∃ O2 : Nat → Prop, Grow O W O2 W' ∧ I (k + 1) O2 W'
  | .ret, _, W' => Chg O W W' ∧ ∃ O2 : Nat → Prop, Grow O W O2 W' ∧ Ix .ret k O2 W'
  | .exit id, _, W' => Chg O W W' ∧ ∃ O2 : Nat → Prop, Grow O W O2 W' ∧ Ix (.exit id) k O2 W'
  | .goto t, _, W' => Chg O W W' ∧ ∃ O2 : Nat → Prop, Grow O W O2 W' ∧ Ix (.goto t) k O2 W'
  | .panic _, _, _ => False
  | .outgrown, _, _ => False
variable {P : Program}
theorem wp_rangeFunc_own {α : Type} {g : Operand} {ps : Array Tmp} {assign body : Code} {Q : Exit → Act → World → Prop} {a : Act} {w : World} {gf : Nat} {lb : Array Value}
    (hg : a.eval g = .func (.func gf) #[] lb) (eg : ∀ args w, (callFunc gf args).run P w = .ok (.enter gf args) w)
    {encs : α → Array Value} {xs : List α} {B0 : Nat} {Oi : Nat → Prop} {w0 : World} (hit : IterOK P gf lb encs xs B0 Oi w0) (hps : ∀ x, (encs x).size = ps.size)
    (O : Nat → Prop) (hB0 : B0 ≤ w.heap.size) (hO : ∀ i, O i → B0 ≤ i ∧ i < w.heap.size ∧ ¬ Oi i) (hOi : ∀ i, Oi i → i < w.heap.size) (hw0 : Chg (fun i => O i ∧ w0.heap.size ≤ i) w0 w)
    (I : Nat → (Nat → Prop) → World → Prop) (Ix : Code → Nat → (Nat → Prop) → World → Prop) (Ax : α → (Nat → Prop) → Act → World → Prop)
    (hI : ∀ k, Abide B0 (I k)) (hAx : ∀ x a', Abide B0 (fun O W => Ax x O a' W)) (hIx : ∀ c k, Abide B0 (Ix c k))
    (h0 : I 0 O w)
    (hassign : ∀ (l k : Nat) (x : α) (O1 : Nat → Prop) (W : World) (K : Act → World → Prop), xs[k]? = some x → I k O1 W →
      (∀ i, O1 i → i < W.heap.size) → (∀ a' W' (O2 : Nat → Prop), Chg O1 W W' → Grow O1 W O2 W' → I k O2 W' → Ax x O2 a' W' → K a' W') →
      assign.wpIn (Fence.wide.inRound l) 0 P (Exit.then K (fun _ _ _ => False)) { tmps := (ps.zip (encs x)).foldl (fun t (p, v) => t.setIfInBounds p v) a.tmps, defers := [] } W)
    (hbody : ∀ (l k : Nat) (x : α) (O1 : Nat → Prop) (a' : Act) (W : World), xs[k]? = some x → (∀ i, O1 i → i < W.heap.size) → w.heap.size ≤ l → ¬ O1 l → (∃ r, W.heap[l]? = some (.loop r)) → I k O1 W → Ax x O1 a' W → body.wpIn (Fence.wide.inRound l) 0 P (rPost I Ix k O1 W) a' W)
    (hdone : ∀ (D : Nat) (O1 : Nat → Prop) (W : World), w.heap.size ≤ D → ¬ O1 D → I xs.length O1 W → W.heap[D]? = some (.deferred (some [])) → Q .normal { a with defers := { target := .collected D, args := #[] } :: a.defers } W)
    (hstop : ∀ (D k : Nat) (c : Code) (O1 : Nat → Prop) (W : World), w.heap.size ≤ D → ¬ O1 D → k < xs.length → Ix c k O1 W → W.heap[D]? = some (.deferred (some [])) → c.wpIn Fence.wide 0 P Q { a with defers := { target := .collected D, args := #[] } :: a.defers } W) :
    (Code.rangeFunc g ps assign body).wpIn Fence.wide 0 P Q a w := by
  refine wpIn_rangeFunc ?_
  intro fn hfn
  have hro : Fence.wide.round = none := rfl
  rw [hro]
  obtain ⟨rec, hrec⟩ : ∃ rec : LoopState → Option Code → Loop, rec = fun st pe => { state := st, pending := pe, fn, tmps := a.tmps, params := ps, assign, body, defers := w.heap.size } := ⟨_, rfl⟩
  obtain ⟨W1, hW1⟩ : ∃ W1, (w.alloc (.deferred (some []))).alloc (.loop (rec .ready none)) = W1 := ⟨_, rfl⟩
  have hL1 : W1.heap[w.heap.size + 1]? = some (.loop (rec .ready none)) := by
    rw [← hW1]; have := World.alloc_heap_new (w.alloc (.deferred (some []))) (.loop (rec .ready none)); rwa [World.size_alloc] at this
  have hK1 : W1.heap[w.heap.size]? = some (.deferred (some [])) := by
    rw [← hW1]; exact (Below.heap_alloc _ _ _ (by simp)).trans (World.alloc_heap_new w _)
  have hcw : Chg (fun _ => False) w W1 := by rw [← hW1]; exact ((Chg.refl _ w).alloc _).alloc _
  have hI1 : I 0 O W1 := hI 0 O w W1 _ h0 hcw (fun i hi => hi.elim)
  -- the caller's blocks, the loop's record, the block for the rounds' deferred calls
  let OO : (Nat → Prop) → Nat → Prop := fun O1 i => O1 i ∨ i = w.heap.size ∨ i = w.heap.size + 1
  refine ⟨w.heap.size + 1, [{ target := .collected w.heap.size, args := #[] }], W1, { target := .fn (.func gf) lb, args := #[.func (.yield (w.heap.size + 1)) #[] #[]] }, W1, gf,
    #[.func (.yield (w.heap.size + 1)) #[] #[]] ++ lb, W1, ?_, ?_, ?_, ?_, (fun h => by cases h), ?_⟩
  · rw [← hW1, hrec]; exact run_enterLoop_outer _ _ _ _ _
  · simp only [resolve, hg]
    simp [go_sem]
  · intro f' hf'; trivial
  · simp [invoke, go_sem, eg]
  · refine callsIn_wide.2 ?_
    refine (hit (w.heap.size + 1)
      (fun k O2 W => ∃ O1 : Nat → Prop, (∀ i, O2 i ↔ OO O1 i) ∧ ¬ O1 w.heap.size ∧ ¬ O1 (w.heap.size + 1) ∧ I k O1 W ∧ W.heap[w.heap.size + 1]? = some (.loop (rec .ready none)) ∧ W.heap[w.heap.size]? = some (.deferred (some [])))
      (fun k O2 W => ∃ O1 : Nat → Prop, (∀ i, O2 i ↔ OO O1 i) ∧ ¬ O1 w.heap.size ∧ ¬ O1 (w.heap.size + 1) ∧ ∃ c, Ix c k O1 W ∧ W.heap[w.heap.size + 1]? = some (.loop (rec .done (some c))) ∧ W.heap[w.heap.size]? = some (.deferred (some [])))
      (OO O) W1 ?_ ?_ ?_ ?_ ?_ ?_).mono ?_
    · refine (hw0.mono (fun k hk hs => ⟨.inl hs.1, hs.2⟩)).trans hcw (fun i hi => hi.elim)
    · intro i hi
      rcases hi with hi | hi | hi
      · exact ⟨(hO i hi).2.2, (hO i hi).1, Nat.lt_of_lt_of_le (hO i hi).2.1 hcw.size⟩
      · exact ⟨fun h => by have := hOi i h; omega, by omega, by rw [hi]; exact (Array.getElem?_eq_some_iff.1 hK1).1⟩
      · exact ⟨fun h => by have := hOi i h; omega, by omega, by rw [hi]; exact (Array.getElem?_eq_some_iff.1 hL1).1⟩
    · -- all of it abides the iterator's own steps
      intro k O2 A B T hs hc hT
      obtain ⟨O1, hO1, hn1, hn2, hi, hl, hk⟩ := hs
      have hT1 : ∀ i, T i → B0 ≤ i ∧ ¬ O1 i := fun i h => ⟨(hT i h).1, fun h1 => (hT i h).2 ((hO1 i).2 (.inl h1))⟩
      refine ⟨O1, hO1, hn1, hn2, hI k O1 A B T hi hc hT1, hc.blk hl (fun h => (hT _ h).2 ((hO1 _).2 (.inr (.inr rfl)))), hc.blk hk (fun h => (hT _ h).2 ((hO1 _).2 (.inr (.inl rfl))))⟩
    · intro k O2 A B T hs hc hT
      obtain ⟨O1, hO1, hn1, hn2, c, hi, hl, hk⟩ := hs
      have hT1 : ∀ i, T i → B0 ≤ i ∧ ¬ O1 i := fun i h => ⟨(hT i h).1, fun h1 => (hT i h).2 ((hO1 i).2 (.inl h1))⟩
      refine ⟨O1, hO1, hn1, hn2, c, hIx c k O1 A B T hi hc hT1, hc.blk hl (fun h => (hT _ h).2 ((hO1 _).2 (.inr (.inr rfl)))), hc.blk hk (fun h => (hT _ h).2 ((hO1 _).2 (.inr (.inl rfl))))⟩
    · -- ONE ROUND
      rintro k x O2 W hx ⟨O1, hO1, hn1, hn2, hi, hl, hk⟩ hb2
      have hb1 : ∀ i, O1 i → i < W.heap.size := fun i h => hb2 i ((hO1 i).2 (.inl h))
      have hlt : w.heap.size + 1 < W.heap.size := (Array.getElem?_eq_some_iff.1 hl).1
      have hy := run_yield (P := P) (args := encs x) hl (by rw [hrec]; exact hps x)
      rw [hrec] at hy
      refine ⟨fn, _, assign, body, hy, roundIn_of_wpIn trivial (hassign _ k x O1 W _ hx hi hb1 ?_)⟩
      clear hy
      intro a' Wa O3 hca hO3 hia hax
      have hl' := hca.blk hl hn2
      have hk' := hca.blk hk hn1
      have hn1' : ¬ O3 w.heap.size := fun h => (hO3 _ h).1.elim hn1 (fun h' => by omega)
      have hn2' : ¬ O3 (w.heap.size + 1) := fun h => (hO3 _ h).1.elim hn2 (fun h' => by omega)
      have hlta : w.heap.size + 1 < Wa.heap.size := (Array.getElem?_eq_some_iff.1 hl').1
      refine ⟨_, run_beginRound hl' (by rw [hrec]), ?_⟩
      obtain ⟨Wb, hWb⟩ : ∃ Wb, Wa.putObj (w.heap.size + 1) (.loop { rec .ready none with state := .busy }) = Wb := ⟨_, rfl⟩
      have hcb : Chg (fun i => i = w.heap.size + 1) Wa Wb := by rw [← hWb]; exact Chg.put1 Wa _ _
      have hl2 : Wb.heap[w.heap.size + 1]? = some (.loop { rec .ready none with state := .busy }) := by rw [← hWb]; exact World.putObj_heap_same hlta
      have hk2 : Wb.heap[w.heap.size]? = some (.deferred (some [])) := hcb.blk hk' (by omega)
      have hTb : ∀ i, i = w.heap.size + 1 → B0 ≤ i ∧ ¬ O3 i := fun i e => by subst e; exact ⟨by omega, hn2'⟩
      have hib : I k O3 Wb := hI k O3 Wa Wb _ hia hcb hTb
      have haxb : Ax x O3 a' Wb := hAx x a' O3 Wa Wb _ hax hcb hTb
      rw [hWb]
      have fin : ∀ (jump : Option Code) (W3 : World), Chg O3 Wb W3 →
          (Instr.endRound (w.heap.size + 1) jump).run P W3 = .ok (.bool jump.isNone) (W3.putObj (w.heap.size + 1) (.loop (rec (if jump.isNone then .ready else .done) jump))) ∧
          w.heap.size + 1 < W3.heap.size ∧
          (W3.putObj (w.heap.size + 1) (.loop (rec (if jump.isNone then .ready else .done) jump))).heap[w.heap.size + 1]? = some (.loop (rec (if jump.isNone then .ready else .done) jump)) ∧
          (W3.putObj (w.heap.size + 1) (.loop (rec (if jump.isNone then .ready else .done) jump))).heap[w.heap.size]? = some (.deferred (some [])) ∧
          Chg O2 W (W3.putObj (w.heap.size + 1) (.loop (rec (if jump.isNone then .ready else .done) jump))) := fun jump W3 hk3 => by
        have hl3 := hk3.blk hl2 hn2'
        have := run_endRound (P := P) jump hl3
        rw [hrec] at this ⊢
        have hlt3 := (Array.getElem?_eq_some_iff.1 hl3).1
        refine ⟨this, hlt3, World.putObj_heap_same hlt3, (World.putObj_heap_other (by omega)).trans (hk3.blk hk2 hn1'), ?_⟩
        have c1 : Chg O2 W Wa := hca.mono (fun i _ h => (hO1 i).2 (.inl h))
        have c2 : Chg O2 W Wb := c1.trans hcb (fun i e => by subst e; exact .inl ((hO1 _).2 (.inr (.inr rfl))))
        have c3 : Chg O2 W W3 := c2.trans hk3 (fun i h => (hO3 i h).1.elim (fun h' => .inl ((hO1 i).2 (.inl h'))) .inr)
        exact c3.putObj (.inl ((hO1 _).2 (.inr (.inr rfl)))) _
      have hb3 : ∀ i, O3 i → i < Wb.heap.size := fun i h => Nat.lt_of_lt_of_le (hO3 i h).2 hcb.size
      refine wpIn_mono (hbody _ k x O3 a' _ hx hb3 (by omega) hn2' ⟨_, hl2⟩ hib haxb) ?_
      have hOO : ∀ (O4 : Nat → Prop) (W3 : World), Chg O3 Wb W3 → Grow O3 Wb O4 W3 → ∀ (o : Obj), (¬ O4 w.heap.size) ∧ (¬ O4 (w.heap.size + 1)) ∧ Grow O2 W (OO O4) (W3.putObj (w.heap.size + 1) o) := by
        intro O4 W3 h3 hO4 o
        have hs1 := hcb.size
        have hs2 := hca.size
        have hs3 := h3.size
        have hs4 : (W3.putObj (w.heap.size + 1) o).heap.size = W3.heap.size := by simp
        refine ⟨fun h => (hO4 _ h).1.elim hn1' (fun h' => by omega), fun h => (hO4 _ h).1.elim hn2' (fun h' => by omega), ?_⟩
        intro i hi
        rw [hs4]
        rcases hi with hi | hi | hi
        · refine ⟨?_, (hO4 i hi).2⟩
          rcases (hO4 i hi).1 with h | h
          · rcases (hO3 i h).1 with h | h
            · exact .inl ((hO1 i).2 (.inl h))
            · exact .inr h
          · exact .inr (by omega)
        · exact ⟨.inl ((hO1 i).2 (.inr (.inl hi))), by omega⟩
        · exact ⟨.inl ((hO1 i).2 (.inr (.inr hi))), by omega⟩
      have jmp : ∀ (c : Code) (W3 : World) (O4 : Nat → Prop), Chg O3 Wb W3 → Grow O3 Wb O4 W3 → Ix c k O4 W3 → ∃ (r : Value) (w'' : World), (Instr.endRound (w.heap.size + 1) (some c)).run P W3 = .ok r w'' ∧
          ((Ending.returned r = .returned (.bool true) ∧ (∃ O2' : Nat → Prop, Grow O2 W O2' w'' ∧ ∃ O1 : Nat → Prop, (∀ i, O2' i ↔ OO O1 i) ∧ ¬ O1 w.heap.size ∧ ¬ O1 (w.heap.size + 1) ∧ I (k + 1) O1 w'' ∧ w''.heap[w.heap.size + 1]? = some (.loop (rec .ready none)) ∧ w''.heap[w.heap.size]? = some (.deferred (some []))) ∧ Chg O2 W w'') ∨
           (Ending.returned r = .returned (.bool false) ∧ (∃ O2' : Nat → Prop, Grow O2 W O2' w'' ∧ ∃ O1 : Nat → Prop, (∀ i, O2' i ↔ OO O1 i) ∧ ¬ O1 w.heap.size ∧ ¬ O1 (w.heap.size + 1) ∧ ∃ c, Ix c k O1 w'' ∧ w''.heap[w.heap.size + 1]? = some (.loop (rec .done (some c))) ∧ w''.heap[w.heap.size]? = some (.deferred (some []))) ∧ Chg O2 W w'')) := by
        intro c W3 O4 hk3 hO4 hi3
        obtain ⟨hr, hlt3, hl4, hk4, hc4⟩ := fin (some c) W3 hk3
        obtain ⟨h1, h2, h3⟩ := hOO O4 W3 hk3 hO4 _
        exact ⟨_, _, hr, .inr ⟨rfl, ⟨OO O4, h3, O4, fun _ => Iff.rfl, h1, h2, c, hIx c k O4 W3 _ (fun i => i = w.heap.size + 1) hi3 (Chg.put1 _ _ _) (fun i e => by subst e; exact ⟨by omega, h2⟩), hl4, hk4⟩, hc4⟩⟩
      rintro e a3 W3 hp
      cases e with
      | normal =>
        obtain ⟨hk3, O4, hO4, hi4⟩ := hp
        obtain ⟨hr, hlt3, hl4, hk4, hc4⟩ := fin none W3 hk3
        obtain ⟨h1, h2, h3⟩ := hOO O4 W3 hk3 hO4 _
        exact ⟨_, _, hr, .inl ⟨rfl, ⟨OO O4, h3, O4, fun _ => Iff.rfl, h1, h2, hI (k + 1) O4 W3 _ (fun i => i = w.heap.size + 1) hi4 (Chg.put1 _ _ _) (fun i e => by subst e; exact ⟨by omega, h2⟩), hl4, hk4⟩, hc4⟩⟩
      | ret =>
        obtain ⟨hk3, O4, hO4, hi4⟩ := hp
        exact jmp .ret W3 O4 hk3 hO4 hi4
      | exit id =>
        obtain ⟨hk3, O4, hO4, hi4⟩ := hp
        exact jmp (.exit id) W3 O4 hk3 hO4 hi4
      | goto t =>
        obtain ⟨hk3, O4, hO4, hi4⟩ := hp
        exact jmp (.goto t) W3 O4 hk3 hO4 hi4
      | panic ch => exact hp.elim
      | outgrown => exact hp.elim
    · exact ⟨O, fun _ => Iff.rfl, fun h => by have := (hO _ h).2.1; omega, fun h => by have := (hO _ h).2.1; omega, hI1, hL1, hK1⟩
    · -- BEHIND THE ITERATOR
      rintro e W2 ⟨⟨v, rfl⟩, (⟨O2, O1, hO1, hn1, hn2, hi, hl, hk⟩ | ⟨k, O2, hlen, O1, hO1, hn1, hn2, c, hi, hl, hk⟩)⟩
      · refine ⟨none, _, by have := run_endLoop (P := P) hl (by rw [hrec]; simp); rw [hrec] at this; exact this, hdone _ O1 _ (Nat.le_refl _) hn1 (hI _ O1 W2 _ (fun i => i = w.heap.size + 1) hi (Chg.put1 _ _ _) (fun i e => by subst e; exact ⟨by omega, hn2⟩)) ((World.putObj_heap_other (by omega)).trans hk)⟩
      · exact ⟨some c, _, by have := run_endLoop (P := P) hl (by rw [hrec]; simp); rw [hrec] at this; exact this, hstop _ k c O1 _ (Nat.le_refl _) hn1 hlen (hIx c k O1 W2 _ (fun i => i = w.heap.size + 1) hi (Chg.put1 _ _ _) (fun i e => by subst e; exact ⟨by omega, hn2⟩)) ((World.putObj_heap_other (by omega)).trans hk)⟩
theorem wp_rangeFunc_go {α : Type} {g : Operand} {ps : Array Tmp} {assign body : Code} {Q : Exit → Act → World → Prop} {a : Act} {w : World} {gf : Nat} {lb : Array Value}
    (hg : a.eval g = .func (.func gf) #[] lb) (eg : ∀ args w, (callFunc gf args).run P w = .ok (.enter gf args) w)
    {encs : α → Array Value} {xs : List α} {B0 : Nat} {Oi : Nat → Prop} {w0 : World} (hit : IterOK P gf lb encs xs B0 Oi w0) (hps : ∀ x, (encs x).size = ps.size)
    (O : Nat → Prop) (hB0 : B0 ≤ w.heap.size) (hO : ∀ i, O i → B0 ≤ i ∧ i < w.heap.size ∧ ¬ Oi i) (hOi : ∀ i, Oi i → i < w.heap.size) (hw0 : Chg (fun i => O i ∧ w0.heap.size ≤ i) w0 w)
    (I : Nat → (Nat → Prop) → World → Prop) (Ix : Code → Nat → (Nat → Prop) → World → Prop)
    (hI : ∀ k, Abide B0 (I k)) (hIx : ∀ c k, Abide B0 (Ix c k))
    (h0 : I 0 O w)
    (hround : ∀ (l0 k : Nat) (x : α) (O1 : Nat → Prop) (W : World) (K : Act → World → Prop), xs[k]? = some x → I k O1 W →
      (∀ i, O1 i → i < W.heap.size) → (∀ a' W' (O2 : Nat → Prop), Chg O1 W W' → Grow O1 W O2 W' → I k O2 W' →
        (∀ (l : Nat) (T : Nat → Prop) (Wb : World), Chg T W' Wb → (∀ i, T i → B0 ≤ i ∧ ¬ O2 i) → (∀ i, O2 i → i < Wb.heap.size) → w.heap.size ≤ l → ¬ O2 l → (∃ r, Wb.heap[l]? = some (.loop r)) → I k O2 Wb → body.wpIn (Fence.wide.inRound l) 0 P (rPost I Ix k O2 Wb) a' Wb) → K a' W') →
      assign.wpIn (Fence.wide.inRound l0) 0 P (Exit.then K (fun _ _ _ => False)) { tmps := (ps.zip (encs x)).foldl (fun t (p, v) => t.setIfInBounds p v) a.tmps, defers := [] } W)
    (hdone : ∀ (D : Nat) (O1 : Nat → Prop) (W : World), w.heap.size ≤ D → ¬ O1 D → I xs.length O1 W → W.heap[D]? = some (.deferred (some [])) → Q .normal { a with defers := { target := .collected D, args := #[] } :: a.defers } W)
    (hstop : ∀ (D k : Nat) (c : Code) (O1 : Nat → Prop) (W : World), w.heap.size ≤ D → ¬ O1 D → k < xs.length → Ix c k O1 W → W.heap[D]? = some (.deferred (some [])) → c.wpIn Fence.wide 0 P Q { a with defers := { target := .collected D, args := #[] } :: a.defers } W) :
    (Code.rangeFunc g ps assign body).wpIn Fence.wide 0 P Q a w :=
  wp_rangeFunc_own (α := Nat × α) (encs := fun x => encs x.2) (xs := (List.range xs.length).zip xs) hg eg
    (by
      have hz : ∀ (k : Nat) (x : Nat × α), ((List.range xs.length).zip xs)[k]? = some x ↔ xs[k]? = some x.2 ∧ x.1 = k := by
        intro k x
        rw [List.getElem?_zip_eq_some]
        constructor
        · rintro ⟨h1, h2⟩
          have hk := (List.getElem?_eq_some_iff.1 h2).1
          rw [List.getElem?_range hk] at h1
          exact ⟨h2, (Option.some.inj h1).symm⟩
        · rintro ⟨h2, rfl⟩
          have hk := (List.getElem?_eq_some_iff.1 h2).1
          exact ⟨List.getElem?_range hk, h2⟩
      have hl : ((List.range xs.length).zip xs).length = xs.length := by simp
      intro l J Jx O W h1 h2 h3 h4 h5 h6
      rw [hl]
      exact hit l J Jx O W h1 h2 h3 h4 (fun k x O1 W1 hx hj hb => h5 k (k, x) O1 W1 ((hz k (k, x)).2 ⟨hx, rfl⟩) hj hb) h6)
    (fun x => hps x.2) O hB0 hO hOi hw0 I Ix
    (fun x O1 a' W => ∀ (l : Nat) (T : Nat → Prop) (Wb : World), Chg T W Wb → (∀ i, T i → B0 ≤ i ∧ ¬ O1 i) → (∀ i, O1 i → i < Wb.heap.size) → w.heap.size ≤ l → ¬ O1 l → (∃ r, Wb.heap[l]? = some (.loop r)) → I x.1 O1 Wb → body.wpIn (Fence.wide.inRound l) 0 P (rPost I Ix x.1 O1 Wb) a' Wb)
    hI
    (fun x a' O1 A B T h hc hT l T' Wb hc' hT' => h l (fun i => T i ∨ T' i) Wb ((hc.mono (fun _ _ h => .inl h)).trans (hc'.mono (fun _ _ h => .inr h)) (fun i hi => .inl hi)) (fun i hi => hi.elim (hT i) (hT' i)))
    hIx h0
    (fun l k x O1 W K hx hi hb hK => by
      have hk := hx
      rw [List.getElem?_zip_eq_some] at hk
      obtain ⟨hk1, hk2⟩ := hk
      have hlt := (List.getElem?_eq_some_iff.1 hk2).1
      rw [List.getElem?_range hlt] at hk1
      have hkx := Option.some.inj hk1
      exact hround l k x.2 O1 W K hk2 hi hb (fun a' W' O2 hc hO2 hi2 hb => hK a' W' O2 hc hO2 hi2 (by rw [← hkx]; exact hb)))
    (fun l k x O1 a' W hx hb hl hnl hrec hi hax => by
      have hk := hx
      rw [List.getElem?_zip_eq_some] at hk
      obtain ⟨hk1, hk2⟩ := hk
      have hlt := (List.getElem?_eq_some_iff.1 hk2).1
      rw [List.getElem?_range hlt] at hk1
      have hkx := Option.some.inj hk1
      have := hax l (fun _ => False) W (Chg.refl _ _) (fun _ h => h.elim) hb hl hnl hrec (by rw [← hkx]; exact hi)
      rwa [← hkx] at this)
    (fun D O1 W hD hn hi hK => hdone D O1 W hD hn (by simpa using hi) hK)
    (fun D k c O1 W hD hn hk hi hK => hstop D k c O1 W hD hn (by simpa using hk) hi hK)
end Go.Proofs.YtjlhhjfmekjbhaaGreatDoor.Iter

