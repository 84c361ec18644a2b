/- The law CodeLong: for every input it returns true, and each argument reads as it did. No condition but those of the given card or row. -/
import Derived.Test.YtjlhhjfmekjbhaaGreatDoorRows
import Derived.Test.YtjlhhjfmekjbhaaGreatDoorCards
import Derived.Test.YtjlhhjfmekjbhaaGreatDoorTie
import Derived.WalkKit
import Derived.ProofKit
import Derived.OpenShut
import Derived.ShutString
import Derived.ChangeOld
import Derived.Below
import Derived.SizedLaws
import Derived.Stop.Joined
import Derived.SevenTiedAt
import Derived.Test.YtjlhhjfmekjbhaaGreatDoorMg0
import Derived.Test.YtjlhhjfmekjbhaaGreatDoorMg1
import Derived.Test.YtjlhhjfmekjbhaaGreatDoorMg7
-- WRITTEN BY hprint.py (a patched scratch copy of print.py, see NOTES.md): out of the translation and of contracts proved by hand.
namespace Go.Proofs.YtjlhhjfmekjbhaaGreatDoor.Pl
open Go.Proofs.YtjlhhjfmekjbhaaGreatDoor.Pq (S28 S31 at_T28 at_T31 errW errW_none errW_some k28 k28_mk k28_open k31 k31_mk k31_open rd_T28 rd_T31 z28 z31)
open Go.Proofs.YtjlhhjfmekjbhaaGreatDoor.Pv (v9_shown.f v9_shown.calls info31 k28_mkF k31_mkF)
open Go.RowKit Go.Proofs.YtjlhhjfmekjbhaaGreatDoor.Vg Go.Proofs.YtjlhhjfmekjbhaaGreatDoorW.PrintWords Go.Proofs.YtjlhhjfmekjbhaaGreatDoorW.PrintLast Go.Proofs.YtjlhhjfmekjbhaaGreatDoorW.PrintMore
set_option linter.unusedVariables false
set_option linter.unusedSimpArgs false
/-! ### v9_CodeLong: function 5 -/
mutual
def v9_CodeLong.j0 : Nat → Int → Int → Bool → Bool → Option (Bool)
 | 0, _, _, _, _ => none
 | k + 1, x0, x1, x5, x23 => if x23 = true then (some x5) else (v9_CodeLong.l0 k x0 x1 x5 0 1 ([] : List (S31)))
def v9_CodeLong.l0 : Nat → Int → Int → Bool → Int → Int → List (S31) → Option (Bool)
 | 0, _, _, _, _, _, _ => none
 | k + 1, x0, x1, x5, x7, x113000, x113001 => if x7 < x0 then (if x113001.length < 1599289640401 then (v9_CodeLong.l0 k x0 x1 x5 (wrap64 (x7 + 1)) x113000 (x113001 ++ [(⟨20, 0, 0, 0, 0, (⟨#[]⟩ : ByteArray), 0, ([] : List Int)⟩ : S31)])) else (none)) else (if x5 = true then ((code_Right.f (([(⟨x113000, x113001⟩ : S28)] : List (S28)))).bind fun t123 => (if (t123 == (decide (x0 ≤ 60000))) = true then ((code_Right.f (([(⟨x1, (([(⟨20, 0, wrap64 (x1 - 1), 0, 0, (⟨#[]⟩ : ByteArray), 0, ([] : List Int)⟩ : S31)] : List (S31)))⟩ : S28)] : List (S28)))).bind fun t127 => (some (t127 == (decide (x1 ≤ 60000))))) else (none))) else (none))
end
def v9_CodeLong.f (k : Nat) (a0 : Int) (a1 : Int) : Option (Bool) := (v9_shown.f).bind fun t111 => (if a0 < 59990 then (v9_CodeLong.j0 k a0 a1 t111 true) else (if a0 > 60010 then (v9_CodeLong.j0 k a0 a1 t111 true) else (if a1 < 59990 then (v9_CodeLong.j0 k a0 a1 t111 true) else (v9_CodeLong.j0 k a0 a1 t111 (decide (a1 > 60010))))))
set_option maxHeartbeats 8000000 in
set_option maxRecDepth 100000 in
theorem v9_CodeLong.calls (k : Nat) (a0 : Int) (a1 : Int) (r : Bool) (w : World) (hL : Laid w) (h : v9_CodeLong.f k a0 a1 = some r) :
  Calls Tryz.prog 5 #[.int .i64 a0, .int .i64 a1] w fun e w' => e = .returned (.bool r) ∧ Below w.heap.size w w' := by
 have HL := Aside0.mk hL
 clear hL
 have hu28 := Tryz.underlying28
 have hu31 := Tryz.underlying31
 have HB := Aside0.mk (Below.refl w.heap.size w)
 have H : ((v9_shown.f).bind fun t111 => (if a0 < 59990 then (v9_CodeLong.j0 k a0 a1 t111 true) else (if a0 > 60010 then (v9_CodeLong.j0 k a0 a1 t111 true) else (if a1 < 59990 then (v9_CodeLong.j0 k a0 a1 t111 true) else (v9_CodeLong.j0 k a0 a1 t111 (decide (a1 > 60010))))))) = some r := h
 clear h
 replace H := Option.bind_eq_some_iff.mp H
 obtain ⟨t111, A30, H⟩ := H
 replace H : (if a0 < 59990 then (v9_CodeLong.j0 k a0 a1 t111 true) else (if a0 > 60010 then (v9_CodeLong.j0 k a0 a1 t111 true) else (if a1 < 59990 then (v9_CodeLong.j0 k a0 a1 t111 true) else (v9_CodeLong.j0 k a0 a1 t111 (decide (a1 > 60010)))))) = some r := H
 have A3 := Aside0.mk A30
 clear A30
 have HC4 := Aside0.mk H
 clear H
 go_enter Tryz.func5, Tryz.ntmps5
 go_upto_region 2 with (first | ((with_reducible refine gate_callee (f := 10) rfl ?_); refine goesL_ (some 9) rfl rfl Tryz.func10 (by kernel_rfl) rfl #[] rfl (by (try simp only [List.map_toArray, List.map_cons, List.map_nil]); first | done | rfl | (simp only [List.length_drop, List.length_take]; rfl)) ?_; (with_reducible refine (v9_shown.calls (hL := ?sideL)  t111 _ A3.out).mono ?_); (case sideL => exact Laid.below HL.out (by repeat (first | (with_reducible first | exact HB.out | apply below_alloc | apply pw_below_drewN | apply below_drew1) | exact HB.out))); rintro e w5 ⟨rfl, hb⟩; refine ⟨_, rfl, ?_⟩; have n0_ := Aside0.mk (below_step (by repeat (first | (with_reducible first | exact HB.out | apply below_alloc | apply pw_below_drewN | apply below_drew1) | exact HB.out)) hb); clear HB; have HB := n0_; clear n0_; (try clear hb); (try clear hb2); (try clear hk); (try clear hi)))
 (try simp only [Act.put, List.setIfInBounds_toArray, List.set_cons_zero, List.set_cons_succ])
 go_cut [23] (fun v23 wc => ∃ (kq : Nat) (x23_3 : Bool), v23 = .bool x23_3 ∧ Aside0 (v9_CodeLong.j0 kq a0 a1 t111 x23_3 = some r) ∧ Aside0 (kq ≤ k) ∧ Aside0 (Below w.heap.size w wc))
 case first =>
  have H := HC4.out
  clear HC4
  by_cases c6 : a0 < 59990
  ·rw [if_pos c6] at H
   have c6b0 : decide (a0 < 59990) = true := decide_eq_true c6
   clear c6
   (first | rw [c6b0] | (simp only [i64_w, i32_w]; rw [c6b0]) | skip)
   have H' := Aside0.mk H
   clear H
   go_wp2
   go_meet
   case rel => exact ⟨_, (true), (by first | rfl | (simp; done) | (simp [*]; done) | (simp [*]; exact (fun (l_ : List UInt8) => (by cases l_ <;> rfl : l_.isEmpty = !(l_ != []))) _)), H', ⟨by first | omega | exact Nat.le_refl _⟩, ⟨by repeat (first | (with_reducible first | exact HB.out | apply below_alloc | apply pw_below_drewN | apply below_drew1) | exact HB.out)⟩⟩
  ·rw [if_neg c6] at H
   have c6b0 : decide (a0 < 59990) = false := decide_eq_false c6
   clear c6
   (first | rw [c6b0] | (simp only [i64_w, i32_w]; rw [c6b0]) | skip)
   by_cases c7 : a0 > 60010
   ·rw [if_pos c7] at H
    have c7b0 : decide (60010 < a0) = true := decide_eq_true c7
    clear c7
    have H' := Aside0.mk H
    clear H
    go_wp2
    go_meet
    case rel => exact ⟨_, (true), (by first | rfl | (simp; done) | (simp [*]; done) | (simp [*]; exact (fun (l_ : List UInt8) => (by cases l_ <;> rfl : l_.isEmpty = !(l_ != []))) _)), H', ⟨by first | omega | exact Nat.le_refl _⟩, ⟨by repeat (first | (with_reducible first | exact HB.out | apply below_alloc | apply pw_below_drewN | apply below_drew1) | exact HB.out)⟩⟩
   ·rw [if_neg c7] at H
    have c7b0 : decide (60010 < a0) = false := decide_eq_false c7
    clear c7
    by_cases c8 : a1 < 59990
    ·rw [if_pos c8] at H
     have c8b0 : decide (a1 < 59990) = true := decide_eq_true c8
     clear c8
     have H' := Aside0.mk H
     clear H
     go_wp2
     go_meet
     case rel => exact ⟨_, (true), (by first | rfl | (simp; done) | (simp [*]; done) | (simp [*]; exact (fun (l_ : List UInt8) => (by cases l_ <;> rfl : l_.isEmpty = !(l_ != []))) _)), H', ⟨by first | omega | exact Nat.le_refl _⟩, ⟨by repeat (first | (with_reducible first | exact HB.out | apply below_alloc | apply pw_below_drewN | apply below_drew1) | exact HB.out)⟩⟩
    ·rw [if_neg c8] at H
     have c8b0 : decide (a1 < 59990) = false := decide_eq_false c8
     clear c8
     have H' := Aside0.mk H
     clear H
     go_wp2
     go_meet
     case rel => exact ⟨_, (decide (a1 > 60010)), (by first | rfl | (simp; done) | (simp [*]; done) | (simp [*]; exact (fun (l_ : List UInt8) => (by cases l_ <;> rfl : l_.isEmpty = !(l_ != []))) _)), H', ⟨by first | omega | exact Nat.le_refl _⟩, ⟨by repeat (first | (with_reducible first | exact HB.out | apply below_alloc | apply pw_below_drewN | apply below_drew1) | exact HB.out)⟩⟩
 case rest =>
  clear HC4
  try clear c1
  try clear p2
  try clear c5
  try clear c6
  try clear c6b0
  try clear c7
  try clear c7b0
  try clear c8
  try clear c8b0
  obtain ⟨kq, x23_3, rfl, HA, HJ3, HB⟩ := hcut
  cases kq with
  | zero => exact absurd HA.out (by simp [v9_CodeLong.j0])
  | succ kj3 =>
   have H := HA.out
   clear HA
   simp only [v9_CodeLong.j0] at H
   by_cases c9 : x23_3 = true
   ·subst c9
    have H1 : (some t111) = some r := by rw [if_pos rfl] at H; exact H
    clear H
    have H := H1
    clear H1
    obtain rfl := Option.some.inj H
    go_wp2
    go_ret
    exact ⟨by first | rfl | (simp [errW_none, errW_some] <;> rfl) | (simp [*, errW_none, errW_some] <;> rfl) | (simp [*, errW_none, errW_some]; exact (fun (l_ : List UInt8) => (by cases l_ <;> rfl : l_.isEmpty = !(l_ != []))) _), by repeat (first | (with_reducible first | exact HB.out | apply below_alloc | apply pw_below_drewN | apply below_drew1) | exact HB.out)⟩
   ·replace c9 := Bool.eq_false_iff.mpr c9
    subst c9
    have H1 : (v9_CodeLong.l0 kj3 a0 a1 t111 0 1 ([] : List (S31))) = some r := by rw [if_neg (show ¬ (false = true) by decide)] at H; exact H
    clear H
    have H := H1
    clear H1
    have H' := Aside0.mk H
    clear H
    go_wp2_with (first | ((with_reducible refine gate_dst (N := 6) rfl ?_); (try (refine gate_guard (by rfl) ?_; dsimp only)); refine box_event ?hg (N := 6) ?hd (cs := #[.int .i64 0, .slice none 0 0]) (t := 28) ?hr ?_; (case hd => rfl); (case hg => rfl); (case hr => first | (go_simp; done) | (go_simp; rfl)); intro gb112 hg w10 hbox hb; have n0_ := Aside0.mk (below_step (by repeat (first | (with_reducible first | exact HB.out | apply below_alloc | apply pw_below_drewN | apply below_drew1) | exact HB.out)) hb); have n1_ := Aside0.mk (hbox); have n2_ := Aside0.mk ((by rw [hg]; exact (below_size (by repeat (first | (with_reducible first | exact HB.out | apply below_alloc | apply pw_below_drewN | apply below_drew1) | exact HB.out))) : w.heap.size ≤ gb112)); have n3_ := Aside0.mk ((by rw [hg]; exact (below_size (by repeat (first | (with_reducible first | exact HB.out | apply below_alloc | apply pw_below_drewN | apply below_drew1) | exact HB.out))) : w.heap.size ≤ gb112)); clear HB; have HB := n0_; have BK112 := n1_; have GW112 := n2_; have GE112 := n3_; clear n0_ n1_ n2_ n3_; clear hb hbox hg; have hcz11_0 : w10.cell? ⟨gb112, 0, none⟩ = some (.int .i64 0) := (blk_cell BK112.out 0).trans rfl; have hcz11_1 : w10.cell? ⟨gb112, 1, none⟩ = some (.slice none 0 0) := (blk_cell BK112.out 1).trans rfl; have hfz11_0 := blk_frozen BK112.out 0; have hfz11_1 := blk_frozen BK112.out 1))
    go_loopg [7] kj3 (fun kq v7 w' => ∃ (x7_2 : Int) (x113001_2 : List (S31)) (u113001 : Value), v7 = .int .i64 x7_2 ∧ Aside0 (v9_CodeLong.l0 kq a0 a1 t111 x7_2 1 x113001_2 = some r) ∧ Aside0 (kq ≤ kj3) ∧ Aside0 (Kd.N k31 31 w' w.heap.size (fun k_ => k_ ≠ gb112) u113001 x113001_2) ∧ Aside0 (w'.heap[gb112]? = some (.cells #[.int .i64 1, u113001] 28 (0, 0))) ∧ Aside0 (Below w.heap.size w w'))
    case atStart => exact ⟨(0), (([] : List (S31))), (.slice none 0 0), (by first | rfl | (simp; done) | (simp [*]; done) | (simp [*]; exact (fun (l_ : List UInt8) => (by cases l_ <;> rfl : l_.isEmpty = !(l_ != []))) _)), H', ⟨Nat.le_refl _⟩, ⟨by first | exact Kd.S_nil _ _ _ _ _ | exact Kd.N_nil _ _ _ _ _ | exact Kd.V_nil _ _ _ _ _ | exact Kd.Q_nil _ _ _ _ _ | exact Kd.R_nil _ _ _ _ _⟩, ⟨by (with_reducible repeat (first | refine blk_drewN ?_ _ | refine blk_drew ?_ | refine blk_alloc ?_ _)); refine blk_put (cs := #[.int .i64 1, .slice none 0 0]) ?_ 1 _ rfl; (with_reducible repeat (first | refine blk_drewN ?_ _ | refine blk_drew ?_ | refine blk_alloc ?_ _)); refine blk_put (cs := #[.int .i64 0, .slice none 0 0]) ?_ 0 _ rfl; (with_reducible repeat (first | refine blk_drewN ?_ _ | refine blk_drew ?_ | refine blk_alloc ?_ _)); exact BK112.out⟩, ⟨by repeat (first | (with_reducible first | exact HB.out | apply below_alloc | apply pw_below_drewN | apply below_drew1 | refine below_set ?_ GE112.out) | exact HB.out)⟩⟩
    case round =>
     clear H'
     try clear c1
     try clear p2
     try clear c5
     try clear c6
     try clear c6b0
     try clear c7
     try clear c7b0
     try clear c8
     try clear c8b0
     try clear c9
     try clear c10
     try clear hcz11_0
     try clear hcz11_1
     try clear hfz11_0
     try clear hfz11_1
     try clear p2
     obtain ⟨x7_2, x113001_2, u113001, rfl, HA, HK2, HO_113001, BK112, HB⟩ := hrel
     cases gk with
     | zero => exact absurd HA.out (by simp [v9_CodeLong.l0])
     | succ k2 =>
      have H := HA.out
      clear HA
      simp only [v9_CodeLong.l0] at H
      by_cases c12 : x7_2 < a0
      ·rw [if_pos c12] at H
       have c12b0 : decide (x7_2 < a0) = true := decide_eq_true c12
       clear c12
       by_cases c13 : x113001_2.length < 1599289640401
       ·rw [if_pos c13] at H
        have LMc13 := Aside0.mk c13
        clear c13
        obtain ⟨y113, hy113⟩ : ∃ y_ : List (S31), y_ = (x113001_2 ++ [(⟨20, 0, 0, 0, 0, (⟨#[]⟩ : ByteArray), 0, ([] : List Int)⟩ : S31)]) := ⟨_, rfl⟩
        replace H : (v9_CodeLong.l0 k2 a0 a1 t111 (wrap64 (x7_2 + 1)) 1 y113) = some r := by first | (rw [hy113]; with_reducible exact H) | (have H2_ := (Option.bind_some _ _).symm.trans H; rw [hy113]; with_reducible exact H2_) | (have H2_ := (Option.bind_some _ _).symm.trans H; with_reducible exact H2_) | with_reducible exact H | (rw [hy113]; exact H) | exact H
        have Ny113 := Aside0.mk hy113
        clear hy113
        have H' := Aside0.mk H
        clear H
        have hcz14_0 : wr.cell? ⟨gb112, 0, none⟩ = some (.int .i64 1) := (blk_cell BK112.out 0).trans rfl
        have hcz14_1 : wr.cell? ⟨gb112, 1, none⟩ = some (u113001) := (blk_cell BK112.out 1).trans rfl
        have hfz14_0 := blk_frozen BK112.out 0
        have hfz14_1 := blk_frozen BK112.out 1
        go_wp2_with (first | ((with_reducible refine gate_builtin (b := .append) (xs := #[.tmp 32, .tmp 34]) rfl ?_); (try (refine gate_guard (by rfl) ?_; dsimp only)); at_builtin; refine Kd.N_append k31 (w0 := w) w.heap.size rfl (.tmp 32) (.tmp 34) 26 31 (.agg #[(.int .i64 0), (.int .i64 0), (.int .i64 0), (.int .i64 0), (.int .i64 0), (.string ⟨#[]⟩), (.int .i64 0), (.slice none 0 0)]) 88 rfl Tryz.underlying26 info31 rfl (by decide) (by omega) u113001 x113001_2 (⟨20, 0, 0, 0, 0, (⟨#[]⟩ : ByteArray), 0, ([] : List Int)⟩ : S31) [.int .i64 20, .int .i64 0, .int .i64 0, .int .i64 0, .int .i64 0, .string (⟨#[]⟩ : ByteArray), .int .i64 0, .slice none 0 0] (fun k_ => k_ ≠ gb112) (fun k_ => ((fun k_ => k_ ≠ gb112)) k_ ∧ some k_ ≠ (u113001 : Value).ownBlock) rfl rfl ?aP (fun _ hk => hk) ?aF ?aO ?aB ?aS ?aL ?_; (case aP => exact (k31_mkF _ _ (⟨20, 0, 0, 0, 0, (⟨#[]⟩ : ByteArray), 0, ([] : List Int)⟩ : S31) (Nat.le_refl _) (Kd.F_nil _ _ _))); (case aB => exact (by repeat (first | (with_reducible first | exact HB.out | apply below_alloc | apply pw_below_drewN | apply below_drew1 | refine below_set ?_ GE112.out) | exact HB.out))); (case aF => exact (fun k_ hk => Kd.freshB (g := gb112) (o := .cells #[.int .i64 1, u113001] 28 (0, 0)) (by (with_reducible repeat (first | refine blk_drewN ?_ _ | refine blk_drew ?_ | refine blk_alloc ?_ _)); exact BK112.out) k_ hk)); (case aO => exact (by (with_reducible repeat (first | apply Kd.N_alloc | apply Kd.N_drewN | apply Kd.N_drew)); exact HO_113001.out)); (case aS => exact (below_size (by repeat (first | (with_reducible first | exact HB.out | apply below_alloc | apply pw_below_drewN | apply below_drew1 | refine below_set ?_ GE112.out) | exact HB.out)))); (case aL => have := LMc13.out; omega); intro v114 w15 ho hb hg hat; rw [← Ny113.out] at ho; have n0_ := Aside0.mk (blk_grown (g := gb112) (o := .cells #[.int .i64 1, u113001] 28 (0, 0)) (by (with_reducible repeat (first | refine blk_drewN ?_ _ | refine blk_drew ?_ | refine blk_alloc ?_ _)); exact BK112.out) hg (Kd.N_ne HO_113001.out BK112.out (by decide))); have n1_ := Aside0.mk (hb); have n2_ := Aside0.mk (ho); clear BK112; clear HB; clear HO_113001; have BK112 := n0_; have HB := n1_; have HO115 := n2_; clear n0_ n1_ n2_; clear ho hb hg hat; obtain ⟨Ao16, co16, eo16⟩ := Kd.N_slice HO115.out; subst eo16; have hcz17_0 : w15.cell? ⟨gb112, 0, none⟩ = some (.int .i64 1) := (blk_cell BK112.out 0).trans rfl; have hcz17_1 : w15.cell? ⟨gb112, 1, none⟩ = some (u113001) := (blk_cell BK112.out 1).trans rfl; have hfz17_0 := blk_frozen BK112.out 0; have hfz17_1 := blk_frozen BK112.out 1))
        go_roundg k2
        case measure => have := HJ3.out; have := HK2.out; omega
        case rel => exact ⟨(wrap64 (x7_2 + 1)), (y113), (.slice Ao16 y113.length co16), (by first | rfl | (simp; done) | (simp [*]; done) | (simp [*]; exact (fun (l_ : List UInt8) => (by cases l_ <;> rfl : l_.isEmpty = !(l_ != []))) _)), H', ⟨by have := HJ3.out; have := HK2.out; omega⟩, ⟨by (with_reducible repeat (first | apply Kd.N_alloc | apply Kd.N_drewN | apply Kd.N_drew)); exact Kd.N_mono (Kd.N_far (p := ⟨gb112, 1, none⟩) (Kd.N_mono HO115.out (fun k_ hk => (⟨hk, hk⟩ : _ ∧ k_ ≠ gb112))) (fun _ hk => hk.2) (.slice Ao16 y113.length co16)) (fun _ hk => hk.1)⟩, ⟨by (with_reducible repeat (first | refine blk_drewN ?_ _ | refine blk_drew ?_ | refine blk_alloc ?_ _)); refine blk_put (cs := #[.int .i64 1, u113001]) ?_ 1 _ rfl; (with_reducible repeat (first | refine blk_drewN ?_ _ | refine blk_drew ?_ | refine blk_alloc ?_ _)); exact BK112.out⟩, ⟨by repeat (first | (with_reducible first | exact HB.out | apply below_alloc | apply pw_below_drewN | apply below_drew1 | refine below_set ?_ GE112.out) | exact HB.out)⟩⟩
       ·rw [if_neg c13] at H
        exact absurd H (by simp)
      ·rw [if_neg c12] at H
       have c12b0 : decide (x7_2 < a0) = false := decide_eq_false c12
       clear c12
       obtain ⟨y116, hy116⟩ : ∃ y_ : List (S31), y_ = (([(⟨20, 0, wrap64 (a1 - 1), 0, 0, (⟨#[]⟩ : ByteArray), 0, ([] : List Int)⟩ : S31)] : List (S31))) := ⟨_, rfl⟩
       replace H : (if t111 = true then ((code_Right.f (([(⟨1, x113001_2⟩ : S28)] : List (S28)))).bind fun t123 => (if (t123 == (decide (a0 ≤ 60000))) = true then ((code_Right.f (([(⟨a1, y116⟩ : S28)] : List (S28)))).bind fun t127 => (some (t127 == (decide (a1 ≤ 60000))))) else (none))) else (none)) = some r := by first | (rw [hy116]; with_reducible exact H) | (have H2_ := (Option.bind_some _ _).symm.trans H; rw [hy116]; with_reducible exact H2_) | (have H2_ := (Option.bind_some _ _).symm.trans H; with_reducible exact H2_) | with_reducible exact H | (rw [hy116]; exact H) | exact H
       have Ny116 := Aside0.mk hy116
       clear hy116
       by_cases c18 : t111 = true
       ·subst c18
        have H1 : ((code_Right.f (([(⟨1, x113001_2⟩ : S28)] : List (S28)))).bind fun t123 => (if (t123 == (decide (a0 ≤ 60000))) = true then ((code_Right.f (([(⟨a1, y116⟩ : S28)] : List (S28)))).bind fun t127 => (some (t127 == (decide (a1 ≤ 60000))))) else (none))) = some r := by rw [if_pos rfl] at H; exact H
        clear H
        have H := H1
        clear H1
        obtain ⟨y120, hy120⟩ : ∃ y_ : List (S28), y_ = (([(⟨1, x113001_2⟩ : S28)] : List (S28))) := ⟨_, rfl⟩
        replace H : ((code_Right.f y120).bind fun t123 => (if (t123 == (decide (a0 ≤ 60000))) = true then ((code_Right.f (([(⟨a1, y116⟩ : S28)] : List (S28)))).bind fun t127 => (some (t127 == (decide (a1 ≤ 60000))))) else (none))) = some r := by first | (rw [hy120]; with_reducible exact H) | (have H2_ := (Option.bind_some _ _).symm.trans H; rw [hy120]; with_reducible exact H2_) | (have H2_ := (Option.bind_some _ _).symm.trans H; with_reducible exact H2_) | with_reducible exact H | (rw [hy120]; exact H) | exact H
        have Ny120 := Aside0.mk hy120
        clear hy120
        replace H := Option.bind_eq_some_iff.mp H
        obtain ⟨t123, A190, H⟩ := H
        replace H : (if (t123 == (decide (a0 ≤ 60000))) = true then ((code_Right.f (([(⟨a1, y116⟩ : S28)] : List (S28)))).bind fun t127 => (some (t127 == (decide (a1 ≤ 60000))))) else (none)) = some r := H
        have A19 := Aside0.mk A190
        clear A190
        by_cases c20 : (t123 == (decide (a0 ≤ 60000))) = true
        ·rw [if_pos c20] at H
         have c20b0 : (t123 == (decide (a0 ≤ 60000))) = true := c20
         (try (have c20b1 : decide (t123 = (decide (a0 ≤ 60000))) = true := by simpa using c20))
         (try (have c20b2 : (t123 == (decide (a0 ≤ 60000))) = true := by simpa using c20))
         clear c20
         obtain ⟨y124, hy124⟩ : ∃ y_ : List (S28), y_ = (([(⟨a1, y116⟩ : S28)] : List (S28))) := ⟨_, rfl⟩
         replace H : ((code_Right.f y124).bind fun t127 => (some (t127 == (decide (a1 ≤ 60000))))) = some r := by first | (rw [hy124]; with_reducible exact H) | (have H2_ := (Option.bind_some _ _).symm.trans H; rw [hy124]; with_reducible exact H2_) | (have H2_ := (Option.bind_some _ _).symm.trans H; with_reducible exact H2_) | with_reducible exact H | (rw [hy124]; exact H) | exact H
         have Ny124 := Aside0.mk hy124
         clear hy124
         replace H := Option.bind_eq_some_iff.mp H
         obtain ⟨t127, A210, H⟩ := H
         replace H : (some (t127 == (decide (a1 ≤ 60000)))) = some r := H
         have A21 := Aside0.mk A210
         clear A210
         obtain rfl := Option.some.inj H
         go_wp2_with (first | (go_at_call 12; (with_reducible refine (code_Right.calls (hL := ?sideL) _ _ y124 t127 _ ?side1 ?side2 A21.out).mono ?_); (case sideL => exact Laid.below HL.out (by repeat (first | (with_reducible first | exact HB.out | apply below_alloc | apply pw_below_drewN | apply below_drew1 | refine below_set ?_ GE112.out | refine below_set ?_ GE119.out) | exact HB.out))); (case side1 => repeat (first | exact (Kd.N_reads' HO126.out).2.2 | (with_reducible refine Kd.C_alloc ?_ _) | (with_reducible refine Kd.C_drewN ?_ _) | (with_reducible refine Kd.C_drew ?_))); (case side2 => exact (Kd.N_reads' HO126.out).2.1); rintro e w39 ⟨rfl, hb⟩; have n0_ := Aside0.mk (Kd.N_below (by (with_reducible repeat (first | apply Kd.N_alloc | apply Kd.N_drewN | apply Kd.N_drew)); exact HO122.out) hb); have n1_ := Aside0.mk (Kd.N_below (by (with_reducible repeat (first | apply Kd.N_alloc | apply Kd.N_drewN | apply Kd.N_drew)); exact HO126.out) hb); have n2_ := Aside0.mk (blk_below (g := gb112) (o := .cells #[.int .i64 1, .slice Ao30 x113001_2.length co30] 28 (0, 0)) (by (with_reducible repeat (first | refine blk_drewN ?_ _ | refine blk_drew ?_ | refine blk_alloc ?_ _)); exact BK112.out) hb); have n3_ := Aside0.mk (blk_below (g := gb119) (o := .cells #[.int .i64 a1, .slice Ao24 y116.length co24] 28 (0, 0)) (by (with_reducible repeat (first | refine blk_drewN ?_ _ | refine blk_drew ?_ | refine blk_alloc ?_ _)); exact BK119.out) hb); have n4_ := Aside0.mk (below_step (by repeat (first | (with_reducible first | exact HB.out | apply below_alloc | apply pw_below_drewN | apply below_drew1 | refine below_set ?_ GE112.out | refine below_set ?_ GE119.out) | exact HB.out)) hb); clear HO122; clear HO126; clear BK112; clear BK119; clear HB; have HO122 := n0_; have HO126 := n1_; have BK112 := n2_; have BK119 := n3_; have HB := n4_; clear n0_ n1_ n2_ n3_ n4_; (try clear hb); (try clear hb2); (try clear hk); (try clear hi)) | ((with_reducible refine gate_dst (N := 54) rfl ?_); (try (refine gate_guard (by rfl) ?_; dsimp only)); refine Kd.N_lit k28 _ 28 ?hg (N' := 54) ?hd (xs := ([(⟨a1, y116⟩ : S28)] : List (S28))) (inner := [.int .i64 a1, .slice Ao24 y116.length co24]) (ok := (fun k_ => some k_ ≠ (.slice Ao33 y120.length co33 : Value).ownBlock ∧ k_ ≠ gb112 ∧ k_ ≠ gb119)) (okp := (fun k_ => some k_ ≠ (.slice Ao33 y120.length co33 : Value).ownBlock ∧ k_ ≠ gb112 ∧ k_ ≠ gb119)) ?hr ?hp (fun _ hk => hk) ((show ∀ k_, w34.heap.size ≤ k_ → (fun k_ => some k_ ≠ (.slice Ao33 y120.length co33 : Value).ownBlock ∧ k_ ≠ gb112 ∧ k_ ≠ gb119) k_ from fun k_ hk => ⟨Kd.fresh' (Kd.N_lt (by (with_reducible repeat (first | apply Kd.N_alloc | apply Kd.N_drewN | apply Kd.N_drew)); exact HO122.out)) k_ hk, Kd.freshB (g := gb112) (o := .cells #[.int .i64 1, .slice Ao30 x113001_2.length co30] 28 (0, 0)) (by (with_reducible repeat (first | refine blk_drewN ?_ _ | refine blk_drew ?_ | refine blk_alloc ?_ _)); exact BK112.out) k_ hk, Kd.freshB (g := gb119) (o := .cells #[.int .i64 a1, .slice Ao24 y116.length co24] 28 (0, 0)) (by (with_reducible repeat (first | refine blk_drewN ?_ _ | refine blk_drew ?_ | refine blk_alloc ?_ _)); exact BK119.out) k_ hk⟩) _ (Nat.le_refl _)) (Below.refl _ _) (Nat.le_refl _) (by simp) ?_; (case hd => rfl); (case hg => rfl); (case hr => first | (go_simp; done) | (go_simp; rfl)); (case hp => exact (Reps.c2 (show Kd.FK k28 _ _ (⟨a1, y116⟩ : S28) [.int .i64 a1, .slice Ao24 y116.length co24] from (k28_mkF _ _ (⟨a1, y116⟩ : S28) (Kd.N_reads' (Kd.N_mono (ok' := (fun k_ => some k_ ≠ (.slice Ao33 y120.length co33 : Value).ownBlock ∧ k_ ≠ gb112 ∧ k_ ≠ gb119)) (HO118.out) (fun k_ hk => ⟨hk.2, ⟨hk.1.2.1, hk.1.2.2⟩⟩))).2.1 (Kd.N_F (Kd.N_mono (ok' := (fun k_ => some k_ ≠ (.slice Ao33 y120.length co33 : Value).ownBlock ∧ k_ ≠ gb112 ∧ k_ ≠ gb119)) (HO118.out) (fun k_ hk => ⟨hk.2, ⟨hk.1.2.1, hk.1.2.2⟩⟩))))) (Reps.none _ _))); intro v125 w36 ho37 hb hg_ hnew_; clear hg_ hnew_; (first | rw [← Ny124.out] at ho37 | (simp only [Int.reduceToNat] at ho37; rw [← Ny124.out] at ho37)); have n0_ := Aside0.mk (Kd.N_elder' (by (with_reducible repeat (first | apply Kd.N_alloc | apply Kd.N_drewN | apply Kd.N_drew)); exact HO122.out) (Kd.N_base ho37) hb); have n1_ := Aside0.mk (Kd.N_lower ho37 (below_size (by repeat (first | (with_reducible first | exact HB.out | apply below_alloc | apply pw_below_drewN | apply below_drew1 | refine below_set ?_ GE112.out | refine below_set ?_ GE119.out) | exact HB.out)))); have n2_ := Aside0.mk (blk_below (g := gb112) (o := .cells #[.int .i64 1, .slice Ao30 x113001_2.length co30] 28 (0, 0)) (by (with_reducible repeat (first | refine blk_drewN ?_ _ | refine blk_drew ?_ | refine blk_alloc ?_ _)); exact BK112.out) hb); have n3_ := Aside0.mk (blk_below (g := gb119) (o := .cells #[.int .i64 a1, .slice Ao24 y116.length co24] 28 (0, 0)) (by (with_reducible repeat (first | refine blk_drewN ?_ _ | refine blk_drew ?_ | refine blk_alloc ?_ _)); exact BK119.out) hb); have n4_ := Aside0.mk (below_step (by repeat (first | (with_reducible first | exact HB.out | apply below_alloc | apply pw_below_drewN | apply below_drew1 | refine below_set ?_ GE112.out | refine below_set ?_ GE119.out) | exact HB.out)) hb); clear HO122; clear BK112; clear BK119; clear HB; clear HO118; have HO122 := n0_; have HO126 := n1_; have BK112 := n2_; have BK119 := n3_; have HB := n4_; clear n0_ n1_ n2_ n3_ n4_; clear hb ho37; obtain ⟨Ao38, co38, eo38⟩ := Kd.N_slice HO126.out; subst eo38) | (go_at_call 12; (with_reducible refine (code_Right.calls (hL := ?sideL) _ _ y120 t123 _ ?side1 ?side2 A19.out).mono ?_); (case sideL => exact Laid.below HL.out (by repeat (first | (with_reducible first | exact HB.out | apply below_alloc | apply pw_below_drewN | apply below_drew1 | refine below_set ?_ GE112.out | refine below_set ?_ GE119.out) | exact HB.out))); (case side1 => repeat (first | exact (Kd.N_reads' HO122.out).2.2 | (with_reducible refine Kd.C_alloc ?_ _) | (with_reducible refine Kd.C_drewN ?_ _) | (with_reducible refine Kd.C_drew ?_))); (case side2 => exact (Kd.N_reads' HO122.out).2.1); rintro e w34 ⟨rfl, hb⟩; have n0_ := Aside0.mk (Kd.N_below (by (with_reducible repeat (first | apply Kd.N_alloc | apply Kd.N_drewN | apply Kd.N_drew)); exact HO118.out) hb); have n1_ := Aside0.mk (Kd.N_below (by (with_reducible repeat (first | apply Kd.N_alloc | apply Kd.N_drewN | apply Kd.N_drew)); exact HO122.out) hb); have n2_ := Aside0.mk (blk_below (g := gb112) (o := .cells #[.int .i64 1, .slice Ao30 x113001_2.length co30] 28 (0, 0)) (by (with_reducible repeat (first | refine blk_drewN ?_ _ | refine blk_drew ?_ | refine blk_alloc ?_ _)); exact BK112.out) hb); have n3_ := Aside0.mk (blk_below (g := gb119) (o := .cells #[.int .i64 a1, .slice Ao24 y116.length co24] 28 (0, 0)) (by (with_reducible repeat (first | refine blk_drewN ?_ _ | refine blk_drew ?_ | refine blk_alloc ?_ _)); exact BK119.out) hb); have n4_ := Aside0.mk (below_step (by repeat (first | (with_reducible first | exact HB.out | apply below_alloc | apply pw_below_drewN | apply below_drew1 | refine below_set ?_ GE112.out | refine below_set ?_ GE119.out) | exact HB.out)) hb); clear HO118; clear HO122; clear BK112; clear BK119; clear HB; have HO118 := n0_; have HO122 := n1_; have BK112 := n2_; have BK119 := n3_; have HB := n4_; clear n0_ n1_ n2_ n3_ n4_; (try clear hb); (try clear hb2); (try clear hk); (try clear hi); have hcz35_0 : w34.cell? ⟨gb119, 0, none⟩ = some (.int .i64 a1) := (blk_cell BK119.out 0).trans rfl; have hcz35_1 : w34.cell? ⟨gb119, 1, none⟩ = some (.slice Ao24 y116.length co24) := (blk_cell BK119.out 1).trans rfl; have hfz35_0 := blk_frozen BK119.out 0; have hfz35_1 := blk_frozen BK119.out 1) | ((with_reducible refine gate_dst (N := 46) rfl ?_); (try (refine gate_guard (by rfl) ?_; dsimp only)); refine Kd.N_lit k28 _ 28 ?hg (N' := 46) ?hd (xs := ([(⟨1, x113001_2⟩ : S28)] : List (S28))) (inner := [.int .i64 1, .slice Ao30 x113001_2.length co30]) (ok := (fun k_ => some k_ ≠ (.slice Ao24 y116.length co24 : Value).ownBlock ∧ k_ ≠ gb112 ∧ k_ ≠ gb119)) (okp := (fun k_ => some k_ ≠ (.slice Ao24 y116.length co24 : Value).ownBlock ∧ k_ ≠ gb112 ∧ k_ ≠ gb119)) ?hr ?hp (fun _ hk => hk) ((show ∀ k_, w28.heap.size ≤ k_ → (fun k_ => some k_ ≠ (.slice Ao24 y116.length co24 : Value).ownBlock ∧ k_ ≠ gb112 ∧ k_ ≠ gb119) k_ from fun k_ hk => ⟨Kd.fresh' (Kd.N_lt (by (with_reducible repeat (first | apply Kd.N_alloc | apply Kd.N_drewN | apply Kd.N_drew)); exact HO118.out)) k_ hk, Kd.freshB (g := gb112) (o := .cells #[.int .i64 1, .slice Ao30 x113001_2.length co30] 28 (0, 0)) (by (with_reducible repeat (first | refine blk_drewN ?_ _ | refine blk_drew ?_ | refine blk_alloc ?_ _)); exact BK112.out) k_ hk, Kd.freshB (g := gb119) (o := .cells #[.int .i64 a1, .slice Ao24 y116.length co24] 28 (0, 0)) (by (with_reducible repeat (first | refine blk_drewN ?_ _ | refine blk_drew ?_ | refine blk_alloc ?_ _)); exact BK119.out) k_ hk⟩) _ (Nat.le_refl _)) (Below.refl _ _) (Nat.le_refl _) (by simp) ?_; (case hd => rfl); (case hg => rfl); (case hr => first | (go_simp; done) | (go_simp; rfl)); (case hp => exact (Reps.c2 (show Kd.FK k28 _ _ (⟨1, x113001_2⟩ : S28) [.int .i64 1, .slice Ao30 x113001_2.length co30] from (k28_mkF _ _ (⟨1, x113001_2⟩ : S28) (Kd.N_reads' (Kd.N_mono (ok' := (fun k_ => some k_ ≠ (.slice Ao24 y116.length co24 : Value).ownBlock ∧ k_ ≠ gb112 ∧ k_ ≠ gb119)) (HO_113001.out) (fun k_ hk => ⟨hk.1, ⟨hk.2.1, hk.2.2⟩⟩))).2.1 (Kd.N_F (Kd.N_mono (ok' := (fun k_ => some k_ ≠ (.slice Ao24 y116.length co24 : Value).ownBlock ∧ k_ ≠ gb112 ∧ k_ ≠ gb119)) (HO_113001.out) (fun k_ hk => ⟨hk.1, ⟨hk.2.1, hk.2.2⟩⟩))))) (Reps.none _ _))); intro v121 w31 ho32 hb hg_ hnew_; clear hg_ hnew_; (first | rw [← Ny120.out] at ho32 | (simp only [Int.reduceToNat] at ho32; rw [← Ny120.out] at ho32)); have n0_ := Aside0.mk (Kd.N_elder' (by (with_reducible repeat (first | apply Kd.N_alloc | apply Kd.N_drewN | apply Kd.N_drew)); exact HO118.out) (Kd.N_base ho32) hb); have n1_ := Aside0.mk (Kd.N_lower ho32 (below_size (by repeat (first | (with_reducible first | exact HB.out | apply below_alloc | apply pw_below_drewN | apply below_drew1 | refine below_set ?_ GE112.out | refine below_set ?_ GE119.out) | exact HB.out)))); have n2_ := Aside0.mk (blk_below (g := gb112) (o := .cells #[.int .i64 1, .slice Ao30 x113001_2.length co30] 28 (0, 0)) (by (with_reducible repeat (first | refine blk_drewN ?_ _ | refine blk_drew ?_ | refine blk_alloc ?_ _)); exact BK112.out) hb); have n3_ := Aside0.mk (blk_below (g := gb119) (o := .cells #[.int .i64 a1, .slice Ao24 y116.length co24] 28 (0, 0)) (by (with_reducible repeat (first | refine blk_drewN ?_ _ | refine blk_drew ?_ | refine blk_alloc ?_ _)); exact BK119.out) hb); have n4_ := Aside0.mk (below_step (by repeat (first | (with_reducible first | exact HB.out | apply below_alloc | apply pw_below_drewN | apply below_drew1 | refine below_set ?_ GE112.out | refine below_set ?_ GE119.out) | exact HB.out)) hb); clear HO118; clear BK112; clear BK119; clear HB; clear HO_113001; have HO118 := n0_; have HO122 := n1_; have BK112 := n2_; have BK119 := n3_; have HB := n4_; clear n0_ n1_ n2_ n3_ n4_; clear hb ho32; obtain ⟨Ao33, co33, eo33⟩ := Kd.N_slice HO122.out; subst eo33) | ((with_reducible refine gate_store (t := 28) (p := 8) rfl ?_); refine store_event (t := 28) (p := 8) (v := ?vo_w28) (w1 := ((w25.setCell ⟨gb119, 0, none⟩ (.int .i64 a1)).setCell ⟨gb119, 1, none⟩ (.slice Ao24 y116.length co24))) ?hg ?ho ?hn ?hr ?_; (case ho => rfl); (case hg => rfl); (case hn => rfl); (case hr => first | (go_simp; done) | (go_simp; rfl)); intro w28 hw; have n0_ : Aside0 (Kd.N k31 31 w28 w.heap.size (fun k_ => some k_ ≠ (.slice Ao24 y116.length co24 : Value).ownBlock ∧ k_ ≠ gb112 ∧ k_ ≠ gb119) u113001 x113001_2) := ⟨(by rw [hw]; exact (by (with_reducible repeat (first | apply Kd.N_alloc | apply Kd.N_drewN | apply Kd.N_drew)); exact Kd.N_mono (Kd.N_far (p := ⟨gb119, 1, none⟩) (Kd.N_far (p := ⟨gb119, 0, none⟩) (Kd.N_mono HO_113001.out (fun k_ hk => (⟨hk, hk.2⟩ : _ ∧ k_ ≠ gb119))) (fun _ hk => hk.2) (.int .i64 a1)) (fun _ hk => hk.2) (.slice Ao24 y116.length co24)) (fun _ hk => ⟨hk.1.1.2, ⟨hk.1.1.1, hk.1.2⟩⟩)))⟩; have n1_ : Aside0 (Kd.N k31 31 w28 w.heap.size (fun k_ => some k_ ≠ (u113001 : Value).ownBlock ∧ k_ ≠ gb112 ∧ k_ ≠ gb119) (.slice Ao24 y116.length co24) y116) := ⟨(by rw [hw]; exact (by (with_reducible repeat (first | apply Kd.N_alloc | apply Kd.N_drewN | apply Kd.N_drew)); exact Kd.N_mono (Kd.N_far (p := ⟨gb119, 1, none⟩) (Kd.N_far (p := ⟨gb119, 0, none⟩) (Kd.N_mono HO118.out (fun k_ hk => (⟨hk, hk.2⟩ : _ ∧ k_ ≠ gb119))) (fun _ hk => hk.2) (.int .i64 a1)) (fun _ hk => hk.2) (.slice Ao24 y116.length co24)) (fun _ hk => ⟨hk.1.1.1, ⟨hk.1.1.2, hk.1.2⟩⟩)))⟩; have n2_ : Aside0 (w28.heap[gb112]? = some (.cells #[.int .i64 1, u113001] 28 (0, 0))) := ⟨(by rw [hw]; exact (by (with_reducible repeat (first | refine blk_drewN ?_ _ | refine blk_drew ?_ | refine blk_alloc ?_ _)); refine blk_far ?_ NB112_119.out _; (with_reducible repeat (first | refine blk_drewN ?_ _ | refine blk_drew ?_ | refine blk_alloc ?_ _)); refine blk_far ?_ NB112_119.out _; (with_reducible repeat (first | refine blk_drewN ?_ _ | refine blk_drew ?_ | refine blk_alloc ?_ _)); exact BK112.out))⟩; have n3_ : Aside0 (w28.heap[gb119]? = some (.cells #[.int .i64 a1, .slice Ao24 y116.length co24] 28 (0, 0))) := ⟨(by rw [hw]; exact (by (with_reducible repeat (first | refine blk_drewN ?_ _ | refine blk_drew ?_ | refine blk_alloc ?_ _)); refine blk_put (cs := #[.int .i64 a1, .slice none 0 0]) ?_ 1 _ rfl; (with_reducible repeat (first | refine blk_drewN ?_ _ | refine blk_drew ?_ | refine blk_alloc ?_ _)); refine blk_put (cs := #[.int .i64 0, .slice none 0 0]) ?_ 0 _ rfl; (with_reducible repeat (first | refine blk_drewN ?_ _ | refine blk_drew ?_ | refine blk_alloc ?_ _)); exact BK119.out))⟩; have n4_ : Aside0 (Below w.heap.size w w28) := ⟨(by rw [hw]; exact (by repeat (first | (with_reducible first | exact HB.out | apply below_alloc | apply pw_below_drewN | apply below_drew1 | refine below_set ?_ GE112.out | refine below_set ?_ GE119.out) | exact HB.out)))⟩; clear hw; clear HO_113001; clear HO118; clear BK112; clear BK119; clear HB; have HO_113001 := n0_; have HO118 := n1_; have BK112 := n2_; have BK119 := n3_; have HB := n4_; clear n0_ n1_ n2_ n3_ n4_; have hcz29_0 : w28.cell? ⟨gb112, 0, none⟩ = some (.int .i64 1) := (blk_cell BK112.out 0).trans rfl; have hcz29_1 : w28.cell? ⟨gb112, 1, none⟩ = some (u113001) := (blk_cell BK112.out 1).trans rfl; have hfz29_0 := blk_frozen BK112.out 0; have hfz29_1 := blk_frozen BK112.out 1; obtain ⟨Ao30, co30, eo30⟩ := Kd.N_slice HO_113001.out; subst eo30) | ((with_reducible refine gate_dst (N := 8) rfl ?_); (try (refine gate_guard (by rfl) ?_; dsimp only)); refine box_event ?hg (N := 8) ?hd (cs := #[.int .i64 0, .slice none 0 0]) (t := 28) ?hr ?_; (case hd => rfl); (case hg => rfl); (case hr => first | (go_simp; done) | (go_simp; rfl)); intro gb119 hg w25 hbox hb; have n0_ := Aside0.mk (Kd.N_below (Kd.N_elderB (by (with_reducible repeat (first | apply Kd.N_alloc | apply Kd.N_drewN | apply Kd.N_drew)); exact HO_113001.out) gb119 (Nat.le_of_eq hg.symm)) hb); have n1_ := Aside0.mk (Kd.N_below (Kd.N_elderB (by (with_reducible repeat (first | apply Kd.N_alloc | apply Kd.N_drewN | apply Kd.N_drew)); exact HO118.out) gb119 (Nat.le_of_eq hg.symm)) hb); have n2_ := Aside0.mk (blk_below (g := gb112) (o := .cells #[.int .i64 1, u113001] 28 (0, 0)) (by (with_reducible repeat (first | refine blk_drewN ?_ _ | refine blk_drew ?_ | refine blk_alloc ?_ _)); exact BK112.out) hb); have n3_ := Aside0.mk (below_step (by repeat (first | (with_reducible first | exact HB.out | apply below_alloc | apply pw_below_drewN | apply below_drew1 | refine below_set ?_ GE112.out) | exact HB.out)) hb); have n4_ := Aside0.mk (hbox); have n5_ := Aside0.mk ((by rw [hg]; exact (below_size (by repeat (first | (with_reducible first | exact HB.out | apply below_alloc | apply pw_below_drewN | apply below_drew1 | refine below_set ?_ GE112.out) | exact HB.out))) : w.heap.size ≤ gb119)); have n6_ := Aside0.mk ((by rw [hg]; exact (below_size (by repeat (first | (with_reducible first | exact HB.out | apply below_alloc | apply pw_below_drewN | apply below_drew1 | refine below_set ?_ GE112.out) | exact HB.out))) : w.heap.size ≤ gb119)); have n7_ := Aside0.mk ((by rw [hg]; exact Nat.ne_of_lt (blk_lt (g := gb112) (o := .cells #[.int .i64 1, u113001] 28 (0, 0)) (by (with_reducible repeat (first | refine blk_drewN ?_ _ | refine blk_drew ?_ | refine blk_alloc ?_ _)); exact BK112.out)) : gb112 ≠ gb119)); have n8_ := Aside0.mk ((by rw [hg]; exact Nat.ne_of_gt (blk_lt (g := gb112) (o := .cells #[.int .i64 1, u113001] 28 (0, 0)) (by (with_reducible repeat (first | refine blk_drewN ?_ _ | refine blk_drew ?_ | refine blk_alloc ?_ _)); exact BK112.out)) : gb119 ≠ gb112)); clear HO_113001; clear HO118; clear BK112; clear HB; have HO_113001 := n0_; have HO118 := n1_; have BK112 := n2_; have HB := n3_; have BK119 := n4_; have GW119 := n5_; have GE119 := n6_; have NB112_119 := n7_; have NB119_112 := n8_; clear n0_ n1_ n2_ n3_ n4_ n5_ n6_ n7_ n8_; clear hb hbox hg; have hnb26 := NB119_112.out; have hnc26 := NB112_119.out; have hcz27_0 : w25.cell? ⟨gb119, 0, none⟩ = some (.int .i64 0) := (blk_cell BK119.out 0).trans rfl; have hcz27_1 : w25.cell? ⟨gb119, 1, none⟩ = some (.slice none 0 0) := (blk_cell BK119.out 1).trans rfl; have hfz27_0 := blk_frozen BK119.out 0; have hfz27_1 := blk_frozen BK119.out 1) | ((with_reducible refine gate_dst (N := 41) rfl ?_); (try (refine gate_guard (by rfl) ?_; dsimp only)); refine Kd.N_lit k31 _ 31 ?hg (N' := 41) ?hd (xs := ([(⟨20, 0, wrap64 (a1 - 1), 0, 0, (⟨#[]⟩ : ByteArray), 0, ([] : List Int)⟩ : S31)] : List (S31))) (inner := [.int .i64 20, .int .i64 0, .int .i64 (wrap64 (a1 - 1)), .int .i64 0, .int .i64 0, .string (⟨#[]⟩ : ByteArray), .int .i64 0, .slice none 0 0]) (ok := (fun k_ => some k_ ≠ (u113001 : Value).ownBlock ∧ k_ ≠ gb112)) (okp := (fun k_ => some k_ ≠ (u113001 : Value).ownBlock ∧ k_ ≠ gb112)) ?hr ?hp (fun _ hk => hk) ((show ∀ k_, wr.heap.size ≤ k_ → (fun k_ => some k_ ≠ (u113001 : Value).ownBlock ∧ k_ ≠ gb112) k_ from fun k_ hk => ⟨Kd.fresh' (Kd.N_lt (by (with_reducible repeat (first | apply Kd.N_alloc | apply Kd.N_drewN | apply Kd.N_drew)); exact HO_113001.out)) k_ hk, Kd.freshB (g := gb112) (o := .cells #[.int .i64 1, u113001] 28 (0, 0)) (by (with_reducible repeat (first | refine blk_drewN ?_ _ | refine blk_drew ?_ | refine blk_alloc ?_ _)); exact BK112.out) k_ hk⟩) _ (Nat.le_refl _)) (Below.refl _ _) (Nat.le_refl _) (by simp) ?_; (case hd => rfl); (case hg => rfl); (case hr => first | (go_simp; done) | (go_simp; rfl)); (case hp => exact (Reps.c8 (show Kd.FK k31 _ _ (⟨20, 0, wrap64 (a1 - 1), 0, 0, (⟨#[]⟩ : ByteArray), 0, ([] : List Int)⟩ : S31) [.int .i64 20, .int .i64 0, .int .i64 (wrap64 (a1 - 1)), .int .i64 0, .int .i64 0, .string (⟨#[]⟩ : ByteArray), .int .i64 0, .slice none 0 0] from (k31_mkF _ _ (⟨20, 0, wrap64 (a1 - 1), 0, 0, (⟨#[]⟩ : ByteArray), 0, ([] : List Int)⟩ : S31) (Nat.le_refl _) (Kd.F_nil _ _ _))) (Reps.none _ _))); intro v117 w22 ho23 hb hg_ hnew_; clear hg_ hnew_; (first | rw [← Ny116.out] at ho23 | (simp only [Int.reduceToNat] at ho23; rw [← Ny116.out] at ho23)); have n0_ := Aside0.mk (Kd.N_elder' (by (with_reducible repeat (first | apply Kd.N_alloc | apply Kd.N_drewN | apply Kd.N_drew)); exact HO_113001.out) (Kd.N_base ho23) hb); have n1_ := Aside0.mk (Kd.N_lower ho23 (below_size (by repeat (first | (with_reducible first | exact HB.out | apply below_alloc | apply pw_below_drewN | apply below_drew1 | refine below_set ?_ GE112.out) | exact HB.out)))); have n2_ := Aside0.mk (blk_below (g := gb112) (o := .cells #[.int .i64 1, u113001] 28 (0, 0)) (by (with_reducible repeat (first | refine blk_drewN ?_ _ | refine blk_drew ?_ | refine blk_alloc ?_ _)); exact BK112.out) hb); have n3_ := Aside0.mk (below_step (by repeat (first | (with_reducible first | exact HB.out | apply below_alloc | apply pw_below_drewN | apply below_drew1 | refine below_set ?_ GE112.out) | exact HB.out)) hb); clear HO_113001; clear BK112; clear HB; have HO_113001 := n0_; have HO118 := n1_; have BK112 := n2_; have HB := n3_; clear n0_ n1_ n2_ n3_; clear hb ho23; obtain ⟨Ao24, co24, eo24⟩ := Kd.N_slice HO118.out; subst eo24))
         go_ret
         exact ⟨by first | rfl | (simp [errW_none, errW_some] <;> rfl) | (simp [*, errW_none, errW_some] <;> rfl) | (simp [*, errW_none, errW_some]; exact (fun (l_ : List UInt8) => (by cases l_ <;> rfl : l_.isEmpty = !(l_ != []))) _), by repeat (first | (with_reducible first | exact HB.out | apply below_alloc | apply pw_below_drewN | apply below_drew1 | refine below_set ?_ GE112.out | refine below_set ?_ GE119.out) | exact HB.out)⟩
        ·rw [if_neg c20] at H
         exact absurd H (by simp)
       ·replace c18 := Bool.eq_false_iff.mpr c18
        subst c18
        have H1 : (none) = some r := by rw [if_neg (show ¬ (false = true) by decide)] at H; exact H
        clear H
        have H := H1
        clear H1
        exact absurd H (by simp)
end Go.Proofs.YtjlhhjfmekjbhaaGreatDoor.Pl

/- The plain law of CodeLong. No condition. -/
namespace Go.Proofs.YtjlhhjfmekjbhaaGreatDoor.Pure
open Go.RowKit Go.Proofs.YtjlhhjfmekjbhaaGreatDoorW.PrintWords Go.Proofs.YtjlhhjfmekjbhaaGreatDoorW.PrintLast Go.Proofs.YtjlhhjfmekjbhaaGreatDoor.Cd Go.Proofs.YtjlhhjfmekjbhaaGreatDoor.Cf Go.Proofs.YtjlhhjfmekjbhaaGreatDoor.Bld Go.Proofs.YtjlhhjfmekjbhaaGreatDoor.Sh Go.Proofs.YtjlhhjfmekjbhaaGreatDoor.Vf Go.Proofs.YtjlhhjfmekjbhaaGreatDoor.Vg Go.Proofs.YtjlhhjfmekjbhaaGreatDoor.Pl
open Go.Proofs.YtjlhhjfmekjbhaaGreatDoor.Pq (S31 S28 k31 k28 z31 z28 rd_T28)
open Go.Proofs.YtjlhhjfmekjbhaaGreatDoor.Pv (v9_shown.f)
set_option linter.unusedVariables false
set_option linter.unusedSimpArgs false
def iret (a : Int) : X := ⟨20, 0, a, 0, 0, ⟨#[]⟩, 0, []⟩
theorem form_ret : formS 20 = some ⟨#[114]⟩ := by decide +kernel
theorem fits_ret (a r : Int) (l : List X) (u : Int) (h0 : 0 ≤ a) (h1 : a < r) : fitsS (iret a) r l u = true := by
  have h : isR a r = true := by simp [isR, h0, h1]
  have hl : letS ⟨#[114]⟩ = [114] := by decide +kernel
  unfold fitsS
  rw [show (iret a).f0 = 20 from rfl, form_ret]
  simp only [hl, List.all_cons, List.all_nil, Bool.and_true, List.foldl_cons, List.foldl_nil]
  rw [show ruleS 114 (iret a) r l u = true by
    show ((a == -1) || isR a r) = true
    rw [h, Bool.or_true]]
  simp [blankS, restS, iret]
theorem proc_ret (r a : Int) (n : Nat) (u : Int) (h0 : 0 ≤ a) (h1 : a < r) (hn : 0 < n) : procS ⟨r, List.replicate n (iret a)⟩ u = decide (r ≤ 60000 ∧ (n : Int) ≤ 60000) := by
  by_cases hc : r ≤ 60000 ∧ (n : Int) ≤ 60000
  · rw [decide_eq_true hc, procS_iff]
    have hb : (List.replicate n (iret a)).length = n := List.length_replicate
    refine ⟨by show ¬ r < 0; omega, by show ¬ r > 60000; omega, ?_, ?_, ?_, ?_⟩
    · show ¬ ((List.replicate n (iret a)).length : Int) = 0
      rw [hb]; omega
    · show ¬ ((List.replicate n (iret a)).length : Int) > 60000
      rw [hb]; omega
    · show ((List.replicate n (iret a)).getD ((List.replicate n (iret a)).length - 1) z31).f0 = 20
      rw [hb, List.getD_eq_getElem?_getD, List.getElem?_replicate, if_pos (by omega)]
      rfl
    · show ((List.replicate n (iret a)).any fun x => !fitsS x r (List.replicate n (iret a)) u) = false
      rw [List.any_eq_false]
      intro x hx
      obtain ⟨_, rfl⟩ := List.mem_replicate.1 hx
      rw [fits_ret a r _ u h0 h1]
      decide
  · rw [decide_eq_false hc]
    cases hp : procS ⟨r, List.replicate n (iret a)⟩ u with
    | false => rfl
    | true =>
      have h := (procS_iff _ _).1 hp
      have h2 : ¬ r > 60000 := h.2.1
      have h4 : ¬ ((List.replicate n (iret a)).length : Int) > 60000 := h.2.2.2.1
      rw [List.length_replicate] at h4
      exact absurd ⟨by omega, by omega⟩ hc
theorem right_ret (r a : Int) (n : Nat) (h0 : 0 ≤ a) (h1 : a < r) (hn : 0 < n) (hm : n ≤ 100000) (hr : r ≤ 100000) : code_Right.f [⟨r, List.replicate n (iret a)⟩] = some (decide (r ≤ 60000 ∧ (n : Int) ≤ 60000)) := by
  have hw : Ve.wfL [⟨r, List.replicate n (iret a)⟩] = true := by
    simp only [Ve.wfL, Bool.and_eq_true, decide_eq_true_eq, List.all_eq_true]
    refine ⟨by simp, fun p hp => ?_⟩
    rw [List.mem_singleton] at hp
    subst hp
    refine ⟨by rw [List.length_replicate]; omega, fun x hx => ?_⟩
    obtain ⟨_, rfl⟩ := List.mem_replicate.1 hx
    simp only [Ve.wfX, Bool.and_eq_true, decide_eq_true_eq]
    exact ⟨wf_of 20 (by decide), by show (⟨#[]⟩ : ByteArray).size ≤ maxLen; decide, by show ([] : List Int).length ≤ 140737488355328; decide⟩
  show Ve.code_Right.f _ = _
  unfold Ve.code_Right.f
  rw [if_pos hw]
  unfold codeS
  rw [List.all_cons, List.all_nil, Bool.and_true, proc_ret r a n _ h0 h1 hn]
  simp
theorem long_loop (x0 x1 : Int) (h0 : x0 ≤ 60010) (h1 : 59990 ≤ x0) (h2 : 59990 ≤ x1) (h3 : x1 ≤ 60010) : ∀ (d : Nat) (i : Int) (m : Nat), (m : Int) = i → i + d = x0 → v9_CodeLong.l0 (d + 1) x0 x1 true i 1 (List.replicate m (iret 0)) = some true
  | 0, i, m, hm, hd => by
    have hw : wrap64 (x1 - 1) = x1 - 1 := by unfold wrap64; omega
    rw [v9_CodeLong.l0, if_neg (by omega), if_pos rfl, hw, right_ret 1 0 m (by omega) (by omega) (by omega) (by omega) (by omega), Option.bind_some]
    have e1 : decide ((1 : Int) ≤ 60000 ∧ (m : Int) ≤ 60000) = decide (x0 ≤ 60000) := decide_eq_decide.2 (by omega)
    have e2 := right_ret x1 (x1 - 1) 1 (by omega) (by omega) (by omega) (by omega) (by omega)
    have e3 : decide (x1 ≤ 60000 ∧ ((1 : Nat) : Int) ≤ 60000) = decide (x1 ≤ 60000) := decide_eq_decide.2 (by omega)
    rw [e3] at e2
    rw [e1, beq_self_eq_true, if_pos rfl]
    refine Eq.trans (congrArg (fun z : Option Bool => z.bind fun t127 => some (t127 == decide (x1 ≤ 60000))) e2) ?_
    rw [Option.bind_some, beq_self_eq_true]
  | d + 1, i, m, hm, hd => by
    have hw : wrap64 (i + 1) = i + 1 := by unfold wrap64; omega
    have ih := long_loop x0 x1 h0 h1 h2 h3 d (i + 1) (m + 1) (by omega) (by omega)
    rw [v9_CodeLong.l0, if_pos (by omega), if_pos (by rw [List.length_replicate]; omega), hw]
    rw [List.replicate_succ'] at ih
    exact ih
theorem CodeLong (n : Int) (_ : B64 n) (r : Int) (_ : B64 r) : ∃ k, v9_CodeLong.f k n r = some true := by
  have base : ∀ k, v9_CodeLong.j0 (k + 1) n r true true = some true := fun k => by rw [v9_CodeLong.j0, if_pos rfl]
  by_cases h1 : n < 59990
  · exact ⟨1, by unfold v9_CodeLong.f; rw [shown_tells, Option.bind_some, if_pos h1, base]⟩
  by_cases h2 : n > 60010
  · exact ⟨1, by unfold v9_CodeLong.f; rw [shown_tells, Option.bind_some, if_neg h1, if_pos h2, base]⟩
  by_cases h3 : r < 59990
  · exact ⟨1, by unfold v9_CodeLong.f; rw [shown_tells, Option.bind_some, if_neg h1, if_neg h2, if_pos h3, base]⟩
  by_cases h4 : r > 60010
  · exact ⟨1, by unfold v9_CodeLong.f; rw [shown_tells, Option.bind_some, if_neg h1, if_neg h2, if_neg h3, decide_eq_true h4, base]⟩
  refine ⟨n.toNat + 1 + 1, ?_⟩
  unfold v9_CodeLong.f
  rw [shown_tells, Option.bind_some, if_neg h1, if_neg h2, if_neg h3, decide_eq_false h4, v9_CodeLong.j0, if_neg (by decide)]
  exact long_loop n r (by omega) (by omega) (by omega) (by omega) n.toNat 0 0 rfl (by omega)
end Go.Proofs.YtjlhhjfmekjbhaaGreatDoor.Pure

/- CodeLong: for every input the law returns true, and each argument reads as it did; its row, and its tied card. No condition but those of the card. -/
namespace Go.Proofs.YtjlhhjfmekjbhaaGreatDoor.codeLong
open Go.ChangeShapes Go.WideShapes Go.ChangeAt Go.RowKit
open Go.ChangeMaps (open_string shut_string)
open Go.Proofs.YtjlhhjfmekjbhaaGreatDoor Go.Proofs.YtjlhhjfmekjbhaaGreatDoor.Vl Go.Proofs.YtjlhhjfmekjbhaaGreatDoorW.PrintWords
set_option linter.unusedVariables false
set_option maxRecDepth 100000 in
theorem lifted (os : Os) (started : os.Started) (H : Type) (enc : TypeId × Value → H) :
    ReturnsInHanded {} Tryz.checked os 5 .any (fun w args => (Rows.codeLongSpec.pre enc Tryz.prog Tryz.f5 [] false w args ∧ laidMetH Tryz.prog five w) ∧ sizedMet enc Tryz.prog Tryz.f5 (OpenSpec.ofChange Rows.codeLongSpec) false w args) (Rows.codeLongSpec.post enc Tryz.prog Tryz.f5 false true false false) := by
  refine returnsInHanded_of_change_and (C := Tryz.checked) (X := fun w _ => laidMetH Tryz.prog five w) (fun _ _ _ hh h => h.of_heap hh) own started (by kernel_rfl) Tryz.func5
    (ChangeSpec.witness_shaped (enc := enc) (C := Tryz.checked) (os := os) (X := fun w _ => laidMetH Tryz.prog five w) false (World.doorLaid Tryz.prog 400 os) #[.int .i64 0, .int .i64 0] 8 rfl (World.shaped_of_RefB (by kernel_rfl) (by kernel_rfl)) (by kernel_rfl) (by kernel_rfl) (by kernel_rfl) (door_met os _)) ?_
  intro W base args ds gs before hval0 hW _ hsz0 hL0 _
  have hL := laid_of hL0
  have hsz : (DataW.weightsEach Tryz.prog (Tryz.f5.params.toList ++ Rows.codeLongSpec.plain.varTypes Tryz.prog) (ds ++ gs)).all (· ≤ reachBytes) = true := hsz0
  have hval : ∀ (j : Nat) t v, Tryz.f5.params[j]? = some t → args[j]? = some v → Value.okWide Tryz.prog W .any base t v := hval0
  have hW' := hW
  obtain ⟨p, q, hA0, hV, rfl, hfz, hnd⟩ := hW
  have hA : DataW.TrodAll enc Tryz.prog W 0 (fun _ => true) true Tryz.f5.params.toList args.toList ds p := hA0
  rw [Tryz.params5] at hA hval hsz
  obtain ⟨v0, vs0, d0, ds0, p0, q0, hargs, rfl, rfl, h0, r0⟩ := trodAll_cons hA
  obtain ⟨v1, vs1, d1, ds1, p1, q1, rfl, rfl, rfl, h1, r1⟩ := trodAll_cons r0
  obtain ⟨rfl, rfl, rfl⟩ := trodAll_nil r1
  obtain rfl : args = #[v0, v1] := by cases args; simp_all
  obtain ⟨rfl, rfl⟩ := trodVars_none hV
  obtain ⟨a0, rfl, rfl, rfl, w0⟩ := open_int Tryz.underlying3 (hval 0 3 v0 rfl rfl) h0
  obtain ⟨a1, rfl, rfl, rfl, w1⟩ := open_int Tryz.underlying3 (hval 1 3 v1 rfl rfl) h1
  clear hA0 hval0 hsz0 hsz hL0
  have hP := Pure.CodeLong a0 (Va.i64_of_wf w0) a1 (Va.i64_of_wf w1)
  obtain ⟨k, hP⟩ := hP
  refine (Pl.v9_CodeLong.calls k a0 a1 true W hL  hP).mono fun e W' ⟨he, bel⟩ => ?_
  subst he
  exact ⟨_, rfl, _, _, _, [], _, [], hW', trodAll_mk1 (shut_bool Tryz.underlying4 _), (trodAll_cons_mk (shut_int Tryz.underlying3 w0) (trodAll_cons_mk (shut_int Tryz.underlying3 w1) trodAll_mk0)), rfl, bel.frame _, fun h => by cases h⟩
theorem over : Rows.codeLongRow.holds Tryz.pinned (OpenSpec.ofChange Rows.codeLongSpec) :=
  OpenClaim.holds_of_wide 5 Tryz.f5 rfl rfl rfl rfl rfl rfl rfl ⟨rfl, rfl, rfl, rfl, rfl⟩ rfl rfl rfl rfl rfl (by kernel_rfl) Tryz.func5 (by kernel_rfl)
    (of_decide_eq_true (by kernel_rfl)) (by unfold Func.isWrapper; first | (rw [if_pos (by decide +kernel)]; kernel_rfl) | (rw [if_neg (by decide +kernel)]; exact ⟨rfl, rfl⟩))
    (fun os started H enc _ => lifted os started H enc)
set_option maxRecDepth 100000 in
theorem card : Rows.CodeLongCardSaid :=
  Claim7.holds_tied_plain_at .later [] [.data, .data, .data, .sentinel, .sentinel] true (true, "85c2d0c8c5b4204c20e433950d907f7fb04aa29ec539f0ae38069e55df88bd6d") true
    over (fun _ h => by cases h) (by kernel_rfl) (fun _ h => by cases h) codeLong_row_tie rfl ⟨rfl, rfl⟩ (by kernel_rfl) rfl
    (fun f fn hf hfn => by
      obtain rfl : f = 5 := Option.some.inj ((show Tryz.prog.funcNamed "gumshoe/gumshoelaw09.CodeLong" = some 5 by kernel_rfl).symm.trans hf) |>.symm
      obtain rfl : fn = Tryz.f5 := (Option.some.inj (Tryz.func5.symm.trans hfn)).symm
      exact ⟨by kernel_rfl, fun j t ht => by
        rw [Tryz.params5] at ht
        have hm : t ∈ [3, 3] := by simpa using Array.mem_of_getElem? ht
        have hall : ([3, 3].all fun u => !Tryz.prog.wantsStandIn u) = true := by kernel_rfl
        exact (show Tryz.prog.wantsStandIn t = false by simpa using List.all_eq_true.1 hall t hm)⟩)
    (by kernel_rfl)
end Go.Proofs.YtjlhhjfmekjbhaaGreatDoor.codeLong
namespace Go.Proofs.YtjlhhjfmekjbhaaGreatDoor
theorem codeLong_holds : Rows.CodeLongCardSaid := codeLong.card
end Go.Proofs.YtjlhhjfmekjbhaaGreatDoor

