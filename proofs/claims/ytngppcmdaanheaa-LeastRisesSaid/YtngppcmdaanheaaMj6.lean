/- Lemmas for the claims of this seat (own texts, packed; what the claims do not use is left out). No condition. -/
import Derived.Deep.Slices
import Derived.ChangeSlices
import Derived.DataReads
import Derived.Test.YtngppcmdaanheaaRows
import Derived.WalkKit
import Derived.ProofKit
import Derived.OpenShut
import Derived.ShutString
import Derived.ChangeOld
import Derived.Below
import Derived.SizedLaws
import Derived.Test.YtngppcmdaanheaaMj0
import Derived.Test.YtngppcmdaanheaaMj1
import Derived.Test.YtngppcmdaanheaaMj4
import Derived.Test.YtngppcmdaanheaaMj5
-- WRITTEN BY hprint.py (a patched scratch copy of print.py, see NOTES.md): out of the translation and of contracts proved by hand.
namespace Go.Proofs.Ytngppcmdaanheaa.Pr
open Go.RowKit Go.Proofs.YtngppcmdaanheaaW.PrintWords Go.Proofs.YtngppcmdaanheaaW.PrintLast Go.Proofs.YtngppcmdaanheaaW.PrintMore
attribute [local go_sem] max2_int min2_int max_two min_two
set_option linter.unusedVariables false
set_option linter.unusedSimpArgs false
/-! ### gumshoelaw14_few: function 10 -/
def gumshoelaw14_few.f (l0 : List (S41)) : Option ((List (S41))) := if 0 ≤ (mn (l0.length : Int) 60) then (if (mn (l0.length : Int) 60) ≤ (l0.length : Int) then (some (l0.take ((mn (l0.length : Int) 60) : Int).toNat)) else (none)) else (none)
set_option maxHeartbeats 8000000 in
set_option maxRecDepth 100000 in
theorem gumshoelaw14_few.calls (P0_ : Nat → Prop) (A0 : Option Addr) (c0 : Nat) (l0 : List (S41)) (r : List (S41)) (w : World) (hs0 : Kd.V k41 41 w w.heap.size (fun k_ => P0_ k_) (.slice A0 l0.length c0) l0) (h : gumshoelaw14_few.f l0 = some r) :
    Calls Try.prog 10 #[.slice A0 l0.length c0] w fun e w' => ∃ v0_ : Value, e = .returned (v0_) ∧ Kd.V k41 41 w' w.heap.size (fun k_ => (P0_ k_ ∨ w.heap.size ≤ k_)) v0_ r ∧ Below w.heap.size w w' := by
  have HO0 := Aside0.mk (show Kd.V k41 41 w w.heap.size (fun k_ => (P0_ k_ ∨ w.heap.size ≤ k_)) (.slice A0 l0.length c0) l0 from Kd.V_mono hs0 (fun k_ hk => .inl hk))
  have HB := Aside0.mk (Below.refl w.heap.size w)
  have H : (if 0 ≤ (mn (l0.length : Int) 60) then (if (mn (l0.length : Int) 60) ≤ (l0.length : Int) then (some (l0.take ((mn (l0.length : Int) 60) : Int).toNat)) else (none)) else (none)) = some r := h
  clear h
  obtain ⟨ji2, hji2⟩ : ∃ j_ : Int, (mn (l0.length : Int) 60) = j_ := ⟨_, rfl⟩
  replace H : (if 0 ≤ (ji2) then (if (ji2) ≤ (l0.length : Int) then (some (l0.take ((ji2) : Int).toNat)) else (none)) else (none)) = some r := by first | (rw [hji2] at H; exact H) | (simp only [hji2] at H ⊢; exact H)
  (try (have hji2h : ji2 ≤ 60 := by (rw [← hji2]; unfold mn; (repeat' split) <;> omega)))
  (try (have hji2g : ji2 ≤ 64 := by omega))
  (try (have hji2l : 0 ≤ ji2 := by (rw [← hji2]; unfold mn; (repeat' split) <;> omega)))
  (try (have hji2m : 0 ≤ ji2 := by omega))
  have hji2_ : (if 60 < (l0.length : Int) then 60 else (l0.length : Int)) = ji2 := hji2
  by_cases c3 : 0 ≤ (ji2)
  · rw [if_pos c3] at H
    have c3b0 := eq_true c3
    have c3b1 : decide (0 ≤ (ji2)) = true := decide_eq_true c3
    clear c3
    by_cases c4 : (ji2) ≤ (l0.length : Int)
    · rw [if_pos c4] at H
      have c4b0 := eq_true c4
      have c4b1 : decide ((ji2) ≤ (l0.length : Int)) = true := decide_eq_true c4
      clear c4
      obtain ⟨y163, hy163⟩ : ∃ y_ : List (S41), y_ = (l0.take ((ji2) : Int).toNat) := ⟨_, rfl⟩
      replace H : (some y163) = some r := by first | (rw [hy163]; with_reducible exact H) | (have H2_ := (Option.bind_some _ _).symm.trans H; rw [hy163]; with_reducible exact H2_) | (have H2_ := (Option.bind_some _ _).symm.trans H; with_reducible exact H2_) | with_reducible exact H | (rw [hy163]; exact H) | exact H
      have Ny163 := Aside0.mk hy163
      clear hy163
      obtain rfl := Option.some.inj H
      have q5 : ((ji2) : Int) ≤ ((l0.length : Int) : Int) := of_decide_eq_true (by first | (with_reducible assumption) | assumption)
      obtain ⟨i05, hi05, _, hsz5, _⟩ := info_parts info41
      have hroom5 : l0.length ≤ c0 := (Kd.V_reads' HO0.out).2.1
      have hC5 : Kd.F k41 _ _ A0 l0.length l0 := (Kd.V_at (base := w.heap.size) HO0.out).2.2
      have hcut5 := cut_to (P := Try.prog) 26 41 .i64 Try.underlying26 hi05 A0 l0.length c0 (ji2) (of_decide_eq_true (by first | (with_reducible assumption) | assumption)) q5 hroom5
      have hr5 := Kd.F_take (m := ((ji2) : Int).toNat) hC5 (by omega)
      have hy5 : y163.length = ((ji2) : Int).toNat := (by rw [Ny163.out, List.length_take]; omega)
      rw [← Ny163.out] at hr5
      rw [← hy5] at hcut5
      have HO167 := Aside0.mk (show Kd.V k41 41 _ w.heap.size _ (.slice A0 y163.length c0) y163 from Kd.V_mk (by omega) hr5)
      have HC167 := Aside0.mk (show y163.length ≤ c0 from by omega)
      clear hr5 hC5 hroom5 hi05 hsz5
      have KY5 := Aside0.mk hy5
      clear hy5
      replace q5 := eq_true q5
      go_enter Try.func10, Try.ntmps10
      go_wp2
      go_ret
      exact ⟨_, by first | rfl | (simp [errW_none, errW_some] <;> rfl) | (simp only [← hji2]; first | rfl | (simp [errW_none, errW_some] <;> rfl)) | (simp [*, errW_none, errW_some] <;> rfl) | (simp [*, errW_none, errW_some]; exact (fun (l_ : List UInt8) => (by cases l_ <;> rfl : l_.isEmpty = !(l_ != []))) _), by (with_reducible repeat (first | apply Kd.V_alloc | apply Kd.V_drewN | apply Kd.V_drew)); exact HO167.out, by repeat (first | (with_reducible first | exact HB.out | apply below_alloc | apply pw_below_drewN | apply below_drew1) | exact HB.out)⟩
    · rw [if_neg c4] at H
      exact absurd H (by simp)
  · rw [if_neg c3] at H
    exact absurd H (by simp)
end Go.Proofs.Ytngppcmdaanheaa.Pr

-- WRITTEN BY hprint.py (a patched scratch copy of print.py, see NOTES.md): out of the translation and of contracts proved by hand.
namespace Go.Proofs.Ytngppcmdaanheaa.Pr
open Go.RowKit Go.Proofs.Ytngppcmdaanheaa.Ls Go.Proofs.Ytngppcmdaanheaa.Va Go.Proofs.YtngppcmdaanheaaW.PrintWords Go.Proofs.YtngppcmdaanheaaW.PrintLast Go.Proofs.YtngppcmdaanheaaW.PrintMore
attribute [local go_sem] max2_int min2_int max_two min_two
set_option linter.unusedVariables false
set_option linter.unusedSimpArgs false
/-! ### least_Right: function 17 -/
def least_Right.f (k : Nat) (a0_0 : Int) (l0_1 : List (S44)) (l0_2 : List (S46)) (l1 : List (S41)) : Option (Bool) := (solve_Right.f a0_0 l0_1 l0_2).bind fun t213 => (if t213 = true then ((least_areRight.f k a0_0 l0_1 l0_2 l1).bind fun t214 => (some t214)) else (some false))
set_option maxHeartbeats 8000000 in
set_option maxRecDepth 100000 in
theorem least_Right.calls (k : Nat) (a0_0 : Int) (A0_1 : Option Addr) (c0_1 : Nat) (l0_1 : List (S44)) (A0_2 : Option Addr) (c0_2 : Nat) (l0_2 : List (S46)) (A1 : Option Addr) (c1 : Nat) (l1 : List (S41)) (r : Bool) (w : World) (hr0_1 : Kd.C k44 w A0_1 l0_1.length l0_1) (hc0_1 : l0_1.length ≤ c0_1) (hr0_2 : Kd.C k46 w A0_2 l0_2.length l0_2) (hc0_2 : l0_2.length ≤ c0_2) (hr1 : Kd.C k41 w A1 l1.length l1) (hc1 : l1.length ≤ c1) (h : least_Right.f k a0_0 l0_1 l0_2 l1 = some r) :
    Calls Try.prog 17 #[.agg #[.int .i64 a0_0, .slice A0_1 l0_1.length c0_1, .slice A0_2 l0_2.length c0_2], .slice A1 l1.length c1] w fun e w' => e = .returned (.bool r) ∧ Below w.heap.size w w' := by
  have hu25 := Try.underlying25
  have HR0_1 := Aside0.mk hr0_1
  have HC0_1 := Aside0.mk hc0_1
  clear hr0_1 hc0_1
  have HR0_2 := Aside0.mk hr0_2
  have HC0_2 := Aside0.mk hc0_2
  clear hr0_2 hc0_2
  have HR1 := Aside0.mk hr1
  have HC1 := Aside0.mk hc1
  clear hr1 hc1
  have HB := Aside0.mk (Below.refl w.heap.size w)
  have H : ((solve_Right.f a0_0 l0_1 l0_2).bind fun t213 => (if t213 = true then ((least_areRight.f k a0_0 l0_1 l0_2 l1).bind fun t214 => (some t214)) else (some false))) = some r := h
  clear h
  replace H := Option.bind_eq_some_iff.mp H
  obtain ⟨t213, A30, H⟩ := H
  replace H : (if t213 = true then ((least_areRight.f k a0_0 l0_1 l0_2 l1).bind fun t214 => (some t214)) else (some false)) = some r := H
  have A3 := Aside0.mk A30
  clear A30
  by_cases c4 : t213 = true
  · subst c4
    have H1 : ((least_areRight.f k a0_0 l0_1 l0_2 l1).bind fun t214 => (some t214)) = some r := by rw [if_pos rfl] at H; exact H
    clear H
    have H := H1
    clear H1
    replace H := Option.bind_eq_some_iff.mp H
    obtain ⟨t214, A50, H⟩ := H
    replace H : (some t214) = some r := H
    have A5 := Aside0.mk A50
    clear A50
    obtain rfl := Option.some.inj H
    go_enter Try.func17, Try.ntmps17
    go_wp2_with (first | ((with_reducible refine gate_dst (N := 2) rfl ?_); refine box_event ?hg (N := 2) ?hd (cs := #[.int .i64 a0_0, .slice A0_1 l0_1.length c0_1, .slice A0_2 l0_2.length c0_2]) (t := 25) ?hr ?_; (case hd => rfl); (case hg => rfl); (case hr => first | (go_simp; done) | (go_simp; rfl)); intro gb212 hg w6 hbox hb; have n0_ := Aside0.mk (below_step (by repeat (first | (with_reducible first | exact HB.out | apply below_alloc | apply pw_below_drewN | apply below_drew1) | exact HB.out)) hb); have n1_ := Aside0.mk (hbox); have n2_ := Aside0.mk ((by rw [hg]; exact (below_size (by repeat (first | (with_reducible first | exact HB.out | apply below_alloc | apply pw_below_drewN | apply below_drew1) | exact HB.out))) : w.heap.size ≤ gb212)); have n3_ := Aside0.mk ((by rw [hg]; exact (below_size (by repeat (first | (with_reducible first | exact HB.out | apply below_alloc | apply pw_below_drewN | apply below_drew1) | exact HB.out))) : w.heap.size ≤ gb212)); clear HB; have HB := n0_; have BK212 := n1_; have GW212 := n2_; have GE212 := n3_; clear n0_ n1_ n2_ n3_; clear hb hbox hg; have hcz7_0 : w6.cell? ⟨gb212, 0, none⟩ = some (.int .i64 a0_0) := (blk_cell BK212.out 0).trans rfl; have hcz7_1 : w6.cell? ⟨gb212, 1, none⟩ = some (.slice A0_1 l0_1.length c0_1) := (blk_cell BK212.out 1).trans rfl; have hcz7_2 : w6.cell? ⟨gb212, 2, none⟩ = some (.slice A0_2 l0_2.length c0_2) := (blk_cell BK212.out 2).trans rfl; have hfz7_0 := blk_frozen BK212.out 0; have hfz7_1 := blk_frozen BK212.out 1; have hfz7_2 := blk_frozen BK212.out 2) | ((with_reducible refine gate_callee (f := 32) rfl ?_); refine goesL_ (some 6) rfl rfl Try.func32 (by kernel_rfl) rfl #[.agg #[.int .i64 a0_0, .slice A0_1 l0_1.length c0_1, .slice A0_2 l0_2.length c0_2]] rfl (by (try simp only [List.map_toArray, List.map_cons, List.map_nil]); first | done | rfl | (simp only [List.length_drop, List.length_take]; rfl)) ?_; (with_reducible refine (solve_Right.calls a0_0 _ _ l0_1 _ _ l0_2 true _ ?side1 ?side2 ?side3 ?side4 A3.out).mono ?_); (case side1 => repeat (first | exact (Kd.C_below HR0_1.out HB.out) | (with_reducible refine Kd.C_alloc ?_ _) | (with_reducible refine Kd.C_drewN ?_ _) | (with_reducible refine Kd.C_drew ?_))); (case side2 => exact HC0_1.out); (case side3 => repeat (first | exact (Kd.C_below HR0_2.out HB.out) | (with_reducible refine Kd.C_alloc ?_ _) | (with_reducible refine Kd.C_drewN ?_ _) | (with_reducible refine Kd.C_drew ?_))); (case side4 => exact HC0_2.out); rintro e w8 ⟨rfl, hb⟩; refine ⟨_, rfl, ?_⟩; have n0_ := Aside0.mk (blk_below (g := gb212) (o := .cells #[.int .i64 a0_0, .slice A0_1 l0_1.length c0_1, .slice A0_2 l0_2.length c0_2] 25 (0, 0)) (by (with_reducible repeat (first | refine blk_drewN ?_ _ | refine blk_drew ?_ | refine blk_alloc ?_ _)); exact BK212.out) hb); have n1_ := Aside0.mk (below_step (by repeat (first | (with_reducible first | exact HB.out | apply below_alloc | apply pw_below_drewN | apply below_drew1 | refine below_set ?_ GE212.out) | exact HB.out)) hb); clear BK212; clear HB; have BK212 := n0_; have HB := n1_; clear n0_ n1_; (try clear hb); (try clear hb2); (try clear hk); (try clear hi); have hcz9_0 : w8.cell? ⟨gb212, 0, none⟩ = some (.int .i64 a0_0) := (blk_cell BK212.out 0).trans rfl; have hcz9_1 : w8.cell? ⟨gb212, 1, none⟩ = some (.slice A0_1 l0_1.length c0_1) := (blk_cell BK212.out 1).trans rfl; have hcz9_2 : w8.cell? ⟨gb212, 2, none⟩ = some (.slice A0_2 l0_2.length c0_2) := (blk_cell BK212.out 2).trans rfl; have hfz9_0 := blk_frozen BK212.out 0; have hfz9_1 := blk_frozen BK212.out 1; have hfz9_2 := blk_frozen BK212.out 2) | (go_at_call 33; (with_reducible refine (least_areRight.calls k a0_0 _ _ l0_1 _ _ l0_2 _ _ l1 t214 _ ?side1 ?side2 ?side3 ?side4 ?side5 ?side6 A5.out).mono ?_); (case side1 => repeat (first | exact (Kd.C_below HR0_1.out HB.out) | (with_reducible refine Kd.C_alloc ?_ _) | (with_reducible refine Kd.C_drewN ?_ _) | (with_reducible refine Kd.C_drew ?_))); (case side2 => exact HC0_1.out); (case side3 => repeat (first | exact (Kd.C_below HR0_2.out HB.out) | (with_reducible refine Kd.C_alloc ?_ _) | (with_reducible refine Kd.C_drewN ?_ _) | (with_reducible refine Kd.C_drew ?_))); (case side4 => exact HC0_2.out); (case side5 => repeat (first | exact (Kd.C_below HR1.out HB.out) | (with_reducible refine Kd.C_alloc ?_ _) | (with_reducible refine Kd.C_drewN ?_ _) | (with_reducible refine Kd.C_drew ?_))); (case side6 => exact HC1.out); rintro e w10 ⟨rfl, hb⟩; have n0_ := Aside0.mk (blk_below (g := gb212) (o := .cells #[.int .i64 a0_0, .slice A0_1 l0_1.length c0_1, .slice A0_2 l0_2.length c0_2] 25 (0, 0)) (by (with_reducible repeat (first | refine blk_drewN ?_ _ | refine blk_drew ?_ | refine blk_alloc ?_ _)); exact BK212.out) hb); have n1_ := Aside0.mk (below_step (by repeat (first | (with_reducible first | exact HB.out | apply below_alloc | apply pw_below_drewN | apply below_drew1 | refine below_set ?_ GE212.out) | exact HB.out)) hb); clear BK212; clear HB; have BK212 := n0_; have HB := n1_; clear n0_ n1_; (try clear hb); (try clear hb2); (try clear hk); (try clear hi)))
    go_ret
    exact ⟨by first | rfl | (simp [errW_none, errW_some] <;> rfl) | (simp [*, errW_none, errW_some] <;> rfl) | (simp [*, errW_none, errW_some]; exact (fun (l_ : List UInt8) => (by cases l_ <;> rfl : l_.isEmpty = !(l_ != []))) _), by repeat (first | (with_reducible first | exact HB.out | apply below_alloc | apply pw_below_drewN | apply below_drew1 | refine below_set ?_ GE212.out) | exact HB.out)⟩
  · replace c4 := Bool.eq_false_iff.mpr c4
    subst c4
    have H1 : (some false) = some r := by rw [if_neg (show ¬ (false = true) by decide)] at H; exact H
    clear H
    have H := H1
    clear H1
    obtain rfl := Option.some.inj H
    go_enter Try.func17, Try.ntmps17
    go_wp2_with (first | ((with_reducible refine gate_dst (N := 2) rfl ?_); refine box_event ?hg (N := 2) ?hd (cs := #[.int .i64 a0_0, .slice A0_1 l0_1.length c0_1, .slice A0_2 l0_2.length c0_2]) (t := 25) ?hr ?_; (case hd => rfl); (case hg => rfl); (case hr => first | (go_simp; done) | (go_simp; rfl)); intro gb212 hg w11 hbox hb; have n0_ := Aside0.mk (below_step (by repeat (first | (with_reducible first | exact HB.out | apply below_alloc | apply pw_below_drewN | apply below_drew1) | exact HB.out)) hb); have n1_ := Aside0.mk (hbox); have n2_ := Aside0.mk ((by rw [hg]; exact (below_size (by repeat (first | (with_reducible first | exact HB.out | apply below_alloc | apply pw_below_drewN | apply below_drew1) | exact HB.out))) : w.heap.size ≤ gb212)); have n3_ := Aside0.mk ((by rw [hg]; exact (below_size (by repeat (first | (with_reducible first | exact HB.out | apply below_alloc | apply pw_below_drewN | apply below_drew1) | exact HB.out))) : w.heap.size ≤ gb212)); clear HB; have HB := n0_; have BK212 := n1_; have GW212 := n2_; have GE212 := n3_; clear n0_ n1_ n2_ n3_; clear hb hbox hg; have hcz12_0 : w11.cell? ⟨gb212, 0, none⟩ = some (.int .i64 a0_0) := (blk_cell BK212.out 0).trans rfl; have hcz12_1 : w11.cell? ⟨gb212, 1, none⟩ = some (.slice A0_1 l0_1.length c0_1) := (blk_cell BK212.out 1).trans rfl; have hcz12_2 : w11.cell? ⟨gb212, 2, none⟩ = some (.slice A0_2 l0_2.length c0_2) := (blk_cell BK212.out 2).trans rfl; have hfz12_0 := blk_frozen BK212.out 0; have hfz12_1 := blk_frozen BK212.out 1; have hfz12_2 := blk_frozen BK212.out 2) | ((with_reducible refine gate_callee (f := 32) rfl ?_); refine goesL_ (some 6) rfl rfl Try.func32 (by kernel_rfl) rfl #[.agg #[.int .i64 a0_0, .slice A0_1 l0_1.length c0_1, .slice A0_2 l0_2.length c0_2]] rfl (by (try simp only [List.map_toArray, List.map_cons, List.map_nil]); first | done | rfl | (simp only [List.length_drop, List.length_take]; rfl)) ?_; (with_reducible refine (solve_Right.calls a0_0 _ _ l0_1 _ _ l0_2 false _ ?side1 ?side2 ?side3 ?side4 A3.out).mono ?_); (case side1 => repeat (first | exact (Kd.C_below HR0_1.out HB.out) | (with_reducible refine Kd.C_alloc ?_ _) | (with_reducible refine Kd.C_drewN ?_ _) | (with_reducible refine Kd.C_drew ?_))); (case side2 => exact HC0_1.out); (case side3 => repeat (first | exact (Kd.C_below HR0_2.out HB.out) | (with_reducible refine Kd.C_alloc ?_ _) | (with_reducible refine Kd.C_drewN ?_ _) | (with_reducible refine Kd.C_drew ?_))); (case side4 => exact HC0_2.out); rintro e w13 ⟨rfl, hb⟩; refine ⟨_, rfl, ?_⟩; have n0_ := Aside0.mk (blk_below (g := gb212) (o := .cells #[.int .i64 a0_0, .slice A0_1 l0_1.length c0_1, .slice A0_2 l0_2.length c0_2] 25 (0, 0)) (by (with_reducible repeat (first | refine blk_drewN ?_ _ | refine blk_drew ?_ | refine blk_alloc ?_ _)); exact BK212.out) hb); have n1_ := Aside0.mk (below_step (by repeat (first | (with_reducible first | exact HB.out | apply below_alloc | apply pw_below_drewN | apply below_drew1 | refine below_set ?_ GE212.out) | exact HB.out)) hb); clear BK212; clear HB; have BK212 := n0_; have HB := n1_; clear n0_ n1_; (try clear hb); (try clear hb2); (try clear hk); (try clear hi)))
    go_ret
    exact ⟨by first | rfl | (simp [errW_none, errW_some] <;> rfl) | (simp [*, errW_none, errW_some] <;> rfl) | (simp [*, errW_none, errW_some]; exact (fun (l_ : List UInt8) => (by cases l_ <;> rfl : l_.isEmpty = !(l_ != []))) _), by repeat (first | (with_reducible first | exact HB.out | apply below_alloc | apply pw_below_drewN | apply below_drew1 | refine below_set ?_ GE212.out) | exact HB.out)⟩
end Go.Proofs.Ytngppcmdaanheaa.Pr

-- WRITTEN BY hprint.py (a patched scratch copy of print.py, see NOTES.md): out of the translation and of contracts proved by hand.
namespace Go.Proofs.Ytngppcmdaanheaa.Pr
open Go.RowKit Go.Proofs.Ytngppcmdaanheaa.Ls Go.Proofs.Ytngppcmdaanheaa.Va Go.Proofs.YtngppcmdaanheaaW.PrintWords Go.Proofs.YtngppcmdaanheaaW.PrintLast Go.Proofs.YtngppcmdaanheaaW.PrintMore
attribute [local go_sem] max2_int min2_int max_two min_two
set_option linter.unusedVariables false
set_option linter.unusedSimpArgs false
/-! ### gumshoelaw14_LeastRises: function 6 -/
def gumshoelaw14_LeastRises.j0 : Nat → List (S41) → Int → Bool → Bool → Int → List (S44) → List (S46) → Option (Bool)
  | 0, _, _, _, _, _, _, _ => none
  | k + 1, x1, x2, x7, x33, x251000, x251001, x251002 => if x33 = true then (some x7) else (if 0 ≤ x2 then (if x2 ≤ (x1.length : Int) then ((least_Round.f k x251000 x251001 x251002 (x1.take (x2 : Int).toNat)).bind fun bt262 => ((least_Round.f k x251000 x251001 x251002 x1).bind fun bt266 => (if x7 = true then (if bt262.2 = 0 then (if bt266.2 = 0 then ((least_Within.f bt262.1 bt266.1).bind fun t270 => (some t270)) else (none)) else (none)) else (none)))) else (none)) else (none))
def gumshoelaw14_LeastRises.f (k : Nat) (a0_0 : Int) (l0_1 : List (S44)) (l0_2 : List (S46)) (l1 : List (S41)) (a2 : Int) : Option (Bool) := (gumshoelaw14_shown.f k).bind fun t251 => ((gumshoelaw14_few.f l1).bind fun t252 => ((gumshoelaw13_Small.f k a0_0 l0_1 l0_2).bind fun t255 => (if t255 = 0 then (gumshoelaw14_LeastRises.j0 k t252 a2 t251 true a0_0 l0_1 l0_2) else (if a2 < 0 then (gumshoelaw14_LeastRises.j0 k t252 a2 t251 true a0_0 l0_1 l0_2) else (if a2 > (t252.length : Int) then (gumshoelaw14_LeastRises.j0 k t252 a2 t251 true a0_0 l0_1 l0_2) else ((least_Right.f k a0_0 l0_1 l0_2 t252).bind fun t256 => (gumshoelaw14_LeastRises.j0 k t252 a2 t251 (!t256) a0_0 l0_1 l0_2)))))))
def gumshoelaw14_LeastRises.T5 : Bool × List (List Nat × List Nat) := (true, [([], []), ([], []), ([], []), ([1, 2], [1, 2]), ([0, 3], [0, 3]), ([4], [4]), ([5], [5]), ([5], [5]), ([6, 4, 0, 1, 2, 3, 4, 5, 6], [6]), ([7, 8, 0, 1, 2, 3, 4, 5, 6, 7, 8], [7])])
def gumshoelaw14_LeastRises.B5 : List Nat := [0, 0, 0, 6, 15, 31, 63, 63, 127, 511]
theorem gumshoelaw14_LeastRises.tab5 : rtab .any (opsOf Try.f6 5) = gumshoelaw14_LeastRises.T5 := by kernel_rfl
theorem gumshoelaw14_LeastRises.bits5 : waitsOk gumshoelaw14_LeastRises.T5.2 gumshoelaw14_LeastRises.B5 = true := by kernel_rfl
set_option maxHeartbeats 8000000 in
set_option maxRecDepth 100000 in
theorem gumshoelaw14_LeastRises.calls (k : Nat) (a0_0 : Int) (A0_1 : Option Addr) (c0_1 : Nat) (l0_1 : List (S44)) (A0_2 : Option Addr) (c0_2 : Nat) (l0_2 : List (S46)) (A1 : Option Addr) (c1 : Nat) (l1 : List (S41)) (a2 : Int) (r : Bool) (w : World) (hr0_1 : Kd.C k44 w A0_1 l0_1.length l0_1) (hc0_1 : l0_1.length ≤ c0_1) (hr0_2 : Kd.C k46 w A0_2 l0_2.length l0_2) (hc0_2 : l0_2.length ≤ c0_2) (hr1 : Kd.C k41 w A1 l1.length l1) (hc1 : l1.length ≤ c1) (h : gumshoelaw14_LeastRises.f k a0_0 l0_1 l0_2 l1 a2 = some r) :
    Calls Try.prog 6 #[.agg #[.int .i64 a0_0, .slice A0_1 l0_1.length c0_1, .slice A0_2 l0_2.length c0_2], .slice A1 l1.length c1, .int .i64 a2] w fun e w' => e = .returned (.bool r) ∧ Below w.heap.size w w' := by
  have hu25 := Try.underlying25
  have HR0_1 := Aside0.mk hr0_1
  have HC0_1 := Aside0.mk hc0_1
  clear hr0_1 hc0_1
  have HR0_2 := Aside0.mk hr0_2
  have HC0_2 := Aside0.mk hc0_2
  clear hr0_2 hc0_2
  have HR1 := Aside0.mk hr1
  have HC1 := Aside0.mk hc1
  clear hr1 hc1
  have HB := Aside0.mk (Below.refl w.heap.size w)
  have H : ((gumshoelaw14_shown.f k).bind fun t251 => ((gumshoelaw14_few.f l1).bind fun t252 => ((gumshoelaw13_Small.f k a0_0 l0_1 l0_2).bind fun t255 => (if t255 = 0 then (gumshoelaw14_LeastRises.j0 k t252 a2 t251 true a0_0 l0_1 l0_2) else (if a2 < 0 then (gumshoelaw14_LeastRises.j0 k t252 a2 t251 true a0_0 l0_1 l0_2) else (if a2 > (t252.length : Int) then (gumshoelaw14_LeastRises.j0 k t252 a2 t251 true a0_0 l0_1 l0_2) else ((least_Right.f k a0_0 l0_1 l0_2 t252).bind fun t256 => (gumshoelaw14_LeastRises.j0 k t252 a2 t251 (!t256) a0_0 l0_1 l0_2)))))))) = some r := h
  clear h
  replace H := Option.bind_eq_some_iff.mp H
  obtain ⟨t251, A40, H⟩ := H
  replace H : ((gumshoelaw14_few.f l1).bind fun t252 => ((gumshoelaw13_Small.f k a0_0 l0_1 l0_2).bind fun t255 => (if t255 = 0 then (gumshoelaw14_LeastRises.j0 k t252 a2 t251 true a0_0 l0_1 l0_2) else (if a2 < 0 then (gumshoelaw14_LeastRises.j0 k t252 a2 t251 true a0_0 l0_1 l0_2) else (if a2 > (t252.length : Int) then (gumshoelaw14_LeastRises.j0 k t252 a2 t251 true a0_0 l0_1 l0_2) else ((least_Right.f k a0_0 l0_1 l0_2 t252).bind fun t256 => (gumshoelaw14_LeastRises.j0 k t252 a2 t251 (!t256) a0_0 l0_1 l0_2))))))) = some r := H
  have A4 := Aside0.mk A40
  clear A40
  replace H := Option.bind_eq_some_iff.mp H
  obtain ⟨t252, A50, H⟩ := H
  replace H : ((gumshoelaw13_Small.f k a0_0 l0_1 l0_2).bind fun t255 => (if t255 = 0 then (gumshoelaw14_LeastRises.j0 k t252 a2 t251 true a0_0 l0_1 l0_2) else (if a2 < 0 then (gumshoelaw14_LeastRises.j0 k t252 a2 t251 true a0_0 l0_1 l0_2) else (if a2 > (t252.length : Int) then (gumshoelaw14_LeastRises.j0 k t252 a2 t251 true a0_0 l0_1 l0_2) else ((least_Right.f k a0_0 l0_1 l0_2 t252).bind fun t256 => (gumshoelaw14_LeastRises.j0 k t252 a2 t251 (!t256) a0_0 l0_1 l0_2)))))) = some r := H
  have A5 := Aside0.mk A50
  clear A50
  have HC6 := Aside0.mk H
  clear H
  go_enter Try.func6, Try.ntmps6
  go_upto_region 3 with (first | ((with_reducible refine gate_dst (N := 3) rfl ?_); (try (refine gate_guard (by rfl) ?_; dsimp only)); refine box_event ?hg (N := 3) ?hd (cs := #[.int .i64 a0_0, .slice A0_1 l0_1.length c0_1, .slice A0_2 l0_2.length c0_2]) (t := 25) ?hr ?_; (case hd => rfl); (case hg => rfl); (case hr => first | (go_simp; done) | (go_simp; rfl)); intro gb250 hg w7 hbox hb; have n0_ := Aside0.mk (below_step (by repeat (first | (with_reducible first | exact HB.out | apply below_alloc | apply pw_below_drewN | apply below_drew1) | exact HB.out)) hb); have n1_ := Aside0.mk (hbox); have n2_ := Aside0.mk ((by rw [hg]; exact (below_size (by repeat (first | (with_reducible first | exact HB.out | apply below_alloc | apply pw_below_drewN | apply below_drew1) | exact HB.out))) : w.heap.size ≤ gb250)); have n3_ := Aside0.mk ((by rw [hg]; exact (below_size (by repeat (first | (with_reducible first | exact HB.out | apply below_alloc | apply pw_below_drewN | apply below_drew1) | exact HB.out))) : w.heap.size ≤ gb250)); clear HB; have HB := n0_; have BK250 := n1_; have GW250 := n2_; have GE250 := n3_; clear n0_ n1_ n2_ n3_; clear hb hbox hg) | ((with_reducible refine gate_callee (f := 8) rfl ?_); refine goesL_ (some 12) rfl rfl Try.func8 (by kernel_rfl) rfl #[] rfl (by (try simp only [List.map_toArray, List.map_cons, List.map_nil]); first | done | rfl | (simp only [List.length_drop, List.length_take]; rfl)) ?_; (with_reducible refine (gumshoelaw14_shown.calls k  t251 _ A4.out).mono ?_); rintro e w8 ⟨rfl, hb⟩; refine ⟨_, rfl, ?_⟩; have n0_ := Aside0.mk (blk_below (g := gb250) (o := .cells #[.int .i64 a0_0, .slice A0_1 l0_1.length c0_1, .slice A0_2 l0_2.length c0_2] 25 (0, 0)) (by (with_reducible repeat (first | refine blk_drewN ?_ _ | refine blk_drew ?_ | refine blk_alloc ?_ _)); exact BK250.out) hb); have n1_ := Aside0.mk (below_step (by repeat (first | (with_reducible first | exact HB.out | apply below_alloc | apply pw_below_drewN | apply below_drew1 | refine below_set ?_ GE250.out) | exact HB.out)) hb); clear BK250; clear HB; have BK250 := n0_; have HB := n1_; clear n0_ n1_; (try clear hb); (try clear hb2); (try clear hk); (try clear hi)) | ((with_reducible refine gate_callee (f := 10) rfl ?_); refine goesL_ (some 14) rfl rfl Try.func10 (by kernel_rfl) rfl #[.slice A1 l1.length c1] rfl (by (try simp only [List.map_toArray, List.map_cons, List.map_nil]); first | done | rfl | (simp only [List.length_drop, List.length_take]; rfl)) ?_; (with_reducible refine (gumshoelaw14_few.calls (fun k_ => k_ < w.heap.size) _ _ l1 t252 _ ?side1 A5.out).mono ?_); (case side1 => exact Kd.V_mk HC1.out (Kd.F_below (Kd.C_F k41_heap HR1.out) (by repeat (first | (with_reducible first | exact HB.out | apply below_alloc | apply pw_below_drewN | apply below_drew1 | refine below_set ?_ GE250.out) | exact HB.out)))); rintro e w9 ⟨v253, rfl, ho0, hb⟩; refine ⟨_, rfl, ?_⟩; have n0_ := Aside0.mk (Kd.V_lower (Kd.V_mono (ok' := fun k_ => k_ ≠ gb250) ho0 (fun k_ hk_ => Or.elim hk_ (fun hs_ => fun e_ => Nat.not_le.2 hs_ (by rw [e_]; exact GW250.out)) (fun hn_ => (Kd.freshB (g := gb250) (o := .cells #[.int .i64 a0_0, .slice A0_1 l0_1.length c0_1, .slice A0_2 l0_2.length c0_2] 25 (0, 0)) (by (with_reducible repeat (first | refine blk_drewN ?_ _ | refine blk_drew ?_ | refine blk_alloc ?_ _)); exact BK250.out) k_ hn_)))) (below_size (by repeat (first | (with_reducible first | exact HB.out | apply below_alloc | apply pw_below_drewN | apply below_drew1 | refine below_set ?_ GE250.out) | exact HB.out)))); have n1_ := Aside0.mk (blk_below (g := gb250) (o := .cells #[.int .i64 a0_0, .slice A0_1 l0_1.length c0_1, .slice A0_2 l0_2.length c0_2] 25 (0, 0)) (by (with_reducible repeat (first | refine blk_drewN ?_ _ | refine blk_drew ?_ | refine blk_alloc ?_ _)); exact BK250.out) hb); have n2_ := Aside0.mk (below_step (by repeat (first | (with_reducible first | exact HB.out | apply below_alloc | apply pw_below_drewN | apply below_drew1 | refine below_set ?_ GE250.out) | exact HB.out)) hb); clear BK250; clear HB; have HO254 := n0_; have BK250 := n1_; have HB := n2_; clear n0_ n1_ n2_; (try clear hb); (try clear hb2); (try clear hk); (try clear hi); (try clear ho0)))
  (try simp only [Act.put, List.setIfInBounds_toArray, List.set_cons_zero, List.set_cons_succ])
  go_cut [33] (fun v33 wc => ∃ (kq : Nat) (x33_5 : Bool), v33 = .bool x33_5 ∧ Aside0 (gumshoelaw14_LeastRises.j0 kq t252 a2 t251 x33_5 a0_0 l0_1 l0_2 = some r) ∧ Aside0 (kq ≤ k) ∧ Aside0 (Kd.V k41 41 wc w.heap.size (fun k_ => k_ ≠ gb250) v253 t252) ∧ Aside0 (wc.heap[gb250]? = some (.cells #[.int .i64 a0_0, (.slice A0_1 l0_1.length c0_1), (.slice A0_2 l0_2.length c0_2)] 25 (0, 0))) ∧ Aside0 (Below w.heap.size w wc))
  case first =>
    have H := HC6.out
    clear HC6
    replace H := Option.bind_eq_some_iff.mp H
    obtain ⟨t255, A100, H⟩ := H
    replace H : (if t255 = 0 then (gumshoelaw14_LeastRises.j0 k t252 a2 t251 true a0_0 l0_1 l0_2) else (if a2 < 0 then (gumshoelaw14_LeastRises.j0 k t252 a2 t251 true a0_0 l0_1 l0_2) else (if a2 > (t252.length : Int) then (gumshoelaw14_LeastRises.j0 k t252 a2 t251 true a0_0 l0_1 l0_2) else ((least_Right.f k a0_0 l0_1 l0_2 t252).bind fun t256 => (gumshoelaw14_LeastRises.j0 k t252 a2 t251 (!t256) a0_0 l0_1 l0_2))))) = some r := H
    have A10 := Aside0.mk A100
    clear A100
    by_cases c11 : t255 = 0
    · rw [if_pos c11] at H
      have c11b0 : (t255 == 0) = true := beq_iff_eq.mpr c11
      have c11b1 : (t255 != 0) = false := bne_eq_false_iff_eq.mpr c11
      clear c11
      (first | rw [c11b0] | (simp only [i64_w, i32_w]; rw [c11b0]) | skip)
      have H' := Aside0.mk H
      clear H
      have hcz12_0 : w9.cell? ⟨gb250, 0, none⟩ = some (.int .i64 a0_0) := (blk_cell BK250.out 0).trans rfl
      have hcz12_1 : w9.cell? ⟨gb250, 1, none⟩ = some (.slice A0_1 l0_1.length c0_1) := (blk_cell BK250.out 1).trans rfl
      have hcz12_2 : w9.cell? ⟨gb250, 2, none⟩ = some (.slice A0_2 l0_2.length c0_2) := (blk_cell BK250.out 2).trans rfl
      have hfz12_0 := blk_frozen BK250.out 0
      have hfz12_1 := blk_frozen BK250.out 1
      have hfz12_2 := blk_frozen BK250.out 2
      go_wp2_with (first | ((with_reducible refine gate_callee (f := 9) rfl ?_); refine goesL_ (some 16) rfl rfl Try.func9 (by kernel_rfl) rfl #[.agg #[.int .i64 a0_0, .slice A0_1 l0_1.length c0_1, .slice A0_2 l0_2.length c0_2]] rfl (by (try simp only [List.map_toArray, List.map_cons, List.map_nil]); first | done | rfl | (simp only [List.length_drop, List.length_take]; rfl)) ?_; (with_reducible refine (gumshoelaw13_Small.calls k a0_0 _ _ l0_1 _ _ l0_2 t255 _ ?side1 ?side2 ?side3 ?side4 A10.out).mono ?_); (case side1 => repeat (first | exact (Kd.C_below HR0_1.out HB.out) | (with_reducible refine Kd.C_alloc ?_ _) | (with_reducible refine Kd.C_drewN ?_ _) | (with_reducible refine Kd.C_drew ?_))); (case side2 => exact HC0_1.out); (case side3 => repeat (first | exact (Kd.C_below HR0_2.out HB.out) | (with_reducible refine Kd.C_alloc ?_ _) | (with_reducible refine Kd.C_drewN ?_ _) | (with_reducible refine Kd.C_drew ?_))); (case side4 => exact HC0_2.out); rintro e w13 ⟨rfl, hb⟩; refine ⟨_, rfl, ?_⟩; have n0_ := Aside0.mk (Kd.V_below (by (with_reducible repeat (first | apply Kd.V_alloc | apply Kd.V_drewN | apply Kd.V_drew)); exact HO254.out) hb); have n1_ := Aside0.mk (blk_below (g := gb250) (o := .cells #[.int .i64 a0_0, .slice A0_1 l0_1.length c0_1, .slice A0_2 l0_2.length c0_2] 25 (0, 0)) (by (with_reducible repeat (first | refine blk_drewN ?_ _ | refine blk_drew ?_ | refine blk_alloc ?_ _)); exact BK250.out) hb); have n2_ := Aside0.mk (below_step (by repeat (first | (with_reducible first | exact HB.out | apply below_alloc | apply pw_below_drewN | apply below_drew1 | refine below_set ?_ GE250.out) | exact HB.out)) hb); clear HO254; clear BK250; clear HB; have HO254 := n0_; have BK250 := n1_; have HB := n2_; clear n0_ n1_ n2_; (try clear hb); (try clear hb2); (try clear hk); (try clear hi)))
      go_meet
      case rel => exact ⟨_, (true), (by first | rfl | (simp; done) | (simp [*]; done) | (simp [*]; exact (fun (l_ : List UInt8) => (by cases l_ <;> rfl : l_.isEmpty = !(l_ != []))) _)), H', ⟨by first | omega | exact Nat.le_refl _⟩, ⟨by (with_reducible repeat (first | apply Kd.V_alloc | apply Kd.V_drewN | apply Kd.V_drew)); exact HO254.out⟩, ⟨by (with_reducible repeat (first | refine blk_drewN ?_ _ | refine blk_drew ?_ | refine blk_alloc ?_ _)); exact BK250.out⟩, ⟨by repeat (first | (with_reducible first | exact HB.out | apply below_alloc | apply pw_below_drewN | apply below_drew1 | refine below_set ?_ GE250.out) | exact HB.out)⟩⟩
    · rw [if_neg c11] at H
      have c11b0 : (t255 == 0) = false := beq_eq_false_iff_ne.mpr c11
      have c11b1 : (t255 != 0) = true := bne_iff_ne.mpr c11
      (first | rw [c11b0] | (simp only [i64_w, i32_w]; rw [c11b0]) | skip)
      by_cases c14 : a2 < 0
      · rw [if_pos c14] at H
        have c14b0 : decide (a2 < 0) = true := decide_eq_true c14
        clear c14
        have H' := Aside0.mk H
        clear H
        have hcz15_0 : w9.cell? ⟨gb250, 0, none⟩ = some (.int .i64 a0_0) := (blk_cell BK250.out 0).trans rfl
        have hcz15_1 : w9.cell? ⟨gb250, 1, none⟩ = some (.slice A0_1 l0_1.length c0_1) := (blk_cell BK250.out 1).trans rfl
        have hcz15_2 : w9.cell? ⟨gb250, 2, none⟩ = some (.slice A0_2 l0_2.length c0_2) := (blk_cell BK250.out 2).trans rfl
        have hfz15_0 := blk_frozen BK250.out 0
        have hfz15_1 := blk_frozen BK250.out 1
        have hfz15_2 := blk_frozen BK250.out 2
        go_wp2_with (first | ((with_reducible refine gate_callee (f := 9) rfl ?_); refine goesL_ (some 16) rfl rfl Try.func9 (by kernel_rfl) rfl #[.agg #[.int .i64 a0_0, .slice A0_1 l0_1.length c0_1, .slice A0_2 l0_2.length c0_2]] rfl (by (try simp only [List.map_toArray, List.map_cons, List.map_nil]); first | done | rfl | (simp only [List.length_drop, List.length_take]; rfl)) ?_; (with_reducible refine (gumshoelaw13_Small.calls k a0_0 _ _ l0_1 _ _ l0_2 t255 _ ?side1 ?side2 ?side3 ?side4 A10.out).mono ?_); (case side1 => repeat (first | exact (Kd.C_below HR0_1.out HB.out) | (with_reducible refine Kd.C_alloc ?_ _) | (with_reducible refine Kd.C_drewN ?_ _) | (with_reducible refine Kd.C_drew ?_))); (case side2 => exact HC0_1.out); (case side3 => repeat (first | exact (Kd.C_below HR0_2.out HB.out) | (with_reducible refine Kd.C_alloc ?_ _) | (with_reducible refine Kd.C_drewN ?_ _) | (with_reducible refine Kd.C_drew ?_))); (case side4 => exact HC0_2.out); rintro e w16 ⟨rfl, hb⟩; refine ⟨_, rfl, ?_⟩; have n0_ := Aside0.mk (Kd.V_below (by (with_reducible repeat (first | apply Kd.V_alloc | apply Kd.V_drewN | apply Kd.V_drew)); exact HO254.out) hb); have n1_ := Aside0.mk (blk_below (g := gb250) (o := .cells #[.int .i64 a0_0, .slice A0_1 l0_1.length c0_1, .slice A0_2 l0_2.length c0_2] 25 (0, 0)) (by (with_reducible repeat (first | refine blk_drewN ?_ _ | refine blk_drew ?_ | refine blk_alloc ?_ _)); exact BK250.out) hb); have n2_ := Aside0.mk (below_step (by repeat (first | (with_reducible first | exact HB.out | apply below_alloc | apply pw_below_drewN | apply below_drew1 | refine below_set ?_ GE250.out) | exact HB.out)) hb); clear HO254; clear BK250; clear HB; have HO254 := n0_; have BK250 := n1_; have HB := n2_; clear n0_ n1_ n2_; (try clear hb); (try clear hb2); (try clear hk); (try clear hi)))
        go_meet
        case rel => exact ⟨_, (true), (by first | rfl | (simp; done) | (simp [*]; done) | (simp [*]; exact (fun (l_ : List UInt8) => (by cases l_ <;> rfl : l_.isEmpty = !(l_ != []))) _)), H', ⟨by first | omega | exact Nat.le_refl _⟩, ⟨by (with_reducible repeat (first | apply Kd.V_alloc | apply Kd.V_drewN | apply Kd.V_drew)); exact HO254.out⟩, ⟨by (with_reducible repeat (first | refine blk_drewN ?_ _ | refine blk_drew ?_ | refine blk_alloc ?_ _)); exact BK250.out⟩, ⟨by repeat (first | (with_reducible first | exact HB.out | apply below_alloc | apply pw_below_drewN | apply below_drew1 | refine below_set ?_ GE250.out) | exact HB.out)⟩⟩
      · rw [if_neg c14] at H
        have c14b0 : decide (a2 < 0) = false := decide_eq_false c14
        clear c14
        by_cases c17 : a2 > (t252.length : Int)
        · rw [if_pos c17] at H
          have c17b0 : decide ((t252.length : Int) < a2) = true := decide_eq_true c17
          clear c17
          have H' := Aside0.mk H
          clear H
          have hcz18_0 : w9.cell? ⟨gb250, 0, none⟩ = some (.int .i64 a0_0) := (blk_cell BK250.out 0).trans rfl
          have hcz18_1 : w9.cell? ⟨gb250, 1, none⟩ = some (.slice A0_1 l0_1.length c0_1) := (blk_cell BK250.out 1).trans rfl
          have hcz18_2 : w9.cell? ⟨gb250, 2, none⟩ = some (.slice A0_2 l0_2.length c0_2) := (blk_cell BK250.out 2).trans rfl
          have hfz18_0 := blk_frozen BK250.out 0
          have hfz18_1 := blk_frozen BK250.out 1
          have hfz18_2 := blk_frozen BK250.out 2
          go_wp2_with (first | ((with_reducible refine gate_callee (f := 9) rfl ?_); refine goesL_ (some 16) rfl rfl Try.func9 (by kernel_rfl) rfl #[.agg #[.int .i64 a0_0, .slice A0_1 l0_1.length c0_1, .slice A0_2 l0_2.length c0_2]] rfl (by (try simp only [List.map_toArray, List.map_cons, List.map_nil]); first | done | rfl | (simp only [List.length_drop, List.length_take]; rfl)) ?_; (with_reducible refine (gumshoelaw13_Small.calls k a0_0 _ _ l0_1 _ _ l0_2 t255 _ ?side1 ?side2 ?side3 ?side4 A10.out).mono ?_); (case side1 => repeat (first | exact (Kd.C_below HR0_1.out HB.out) | (with_reducible refine Kd.C_alloc ?_ _) | (with_reducible refine Kd.C_drewN ?_ _) | (with_reducible refine Kd.C_drew ?_))); (case side2 => exact HC0_1.out); (case side3 => repeat (first | exact (Kd.C_below HR0_2.out HB.out) | (with_reducible refine Kd.C_alloc ?_ _) | (with_reducible refine Kd.C_drewN ?_ _) | (with_reducible refine Kd.C_drew ?_))); (case side4 => exact HC0_2.out); rintro e w19 ⟨rfl, hb⟩; refine ⟨_, rfl, ?_⟩; have n0_ := Aside0.mk (Kd.V_below (by (with_reducible repeat (first | apply Kd.V_alloc | apply Kd.V_drewN | apply Kd.V_drew)); exact HO254.out) hb); have n1_ := Aside0.mk (blk_below (g := gb250) (o := .cells #[.int .i64 a0_0, .slice A0_1 l0_1.length c0_1, .slice A0_2 l0_2.length c0_2] 25 (0, 0)) (by (with_reducible repeat (first | refine blk_drewN ?_ _ | refine blk_drew ?_ | refine blk_alloc ?_ _)); exact BK250.out) hb); have n2_ := Aside0.mk (below_step (by repeat (first | (with_reducible first | exact HB.out | apply below_alloc | apply pw_below_drewN | apply below_drew1 | refine below_set ?_ GE250.out) | exact HB.out)) hb); clear HO254; clear BK250; clear HB; have HO254 := n0_; have BK250 := n1_; have HB := n2_; clear n0_ n1_ n2_; (try clear hb); (try clear hb2); (try clear hk); (try clear hi); obtain ⟨Ao20, co20, eo20⟩ := Kd.V_slice HO254.out; subst eo20))
          go_meet
          case rel => exact ⟨_, (true), (by first | rfl | (simp; done) | (simp [*]; done) | (simp [*]; exact (fun (l_ : List UInt8) => (by cases l_ <;> rfl : l_.isEmpty = !(l_ != []))) _)), H', ⟨by first | omega | exact Nat.le_refl _⟩, ⟨by (with_reducible repeat (first | apply Kd.V_alloc | apply Kd.V_drewN | apply Kd.V_drew)); exact HO254.out⟩, ⟨by (with_reducible repeat (first | refine blk_drewN ?_ _ | refine blk_drew ?_ | refine blk_alloc ?_ _)); exact BK250.out⟩, ⟨by repeat (first | (with_reducible first | exact HB.out | apply below_alloc | apply pw_below_drewN | apply below_drew1 | refine below_set ?_ GE250.out) | exact HB.out)⟩⟩
        · rw [if_neg c17] at H
          have c17b0 : decide ((t252.length : Int) < a2) = false := decide_eq_false c17
          clear c17
          replace H := Option.bind_eq_some_iff.mp H
          obtain ⟨t256, A210, H⟩ := H
          replace H : (gumshoelaw14_LeastRises.j0 k t252 a2 t251 (!t256) a0_0 l0_1 l0_2) = some r := H
          have A21 := Aside0.mk A210
          clear A210
          have H' := Aside0.mk H
          clear H
          have hcz22_0 : w9.cell? ⟨gb250, 0, none⟩ = some (.int .i64 a0_0) := (blk_cell BK250.out 0).trans rfl
          have hcz22_1 : w9.cell? ⟨gb250, 1, none⟩ = some (.slice A0_1 l0_1.length c0_1) := (blk_cell BK250.out 1).trans rfl
          have hcz22_2 : w9.cell? ⟨gb250, 2, none⟩ = some (.slice A0_2 l0_2.length c0_2) := (blk_cell BK250.out 2).trans rfl
          have hfz22_0 := blk_frozen BK250.out 0
          have hfz22_1 := blk_frozen BK250.out 1
          have hfz22_2 := blk_frozen BK250.out 2
          go_wp2_with (first | ((with_reducible refine gate_callee (f := 9) rfl ?_); refine goesL_ (some 16) rfl rfl Try.func9 (by kernel_rfl) rfl #[.agg #[.int .i64 a0_0, .slice A0_1 l0_1.length c0_1, .slice A0_2 l0_2.length c0_2]] rfl (by (try simp only [List.map_toArray, List.map_cons, List.map_nil]); first | done | rfl | (simp only [List.length_drop, List.length_take]; rfl)) ?_; (with_reducible refine (gumshoelaw13_Small.calls k a0_0 _ _ l0_1 _ _ l0_2 t255 _ ?side1 ?side2 ?side3 ?side4 A10.out).mono ?_); (case side1 => repeat (first | exact (Kd.C_below HR0_1.out HB.out) | (with_reducible refine Kd.C_alloc ?_ _) | (with_reducible refine Kd.C_drewN ?_ _) | (with_reducible refine Kd.C_drew ?_))); (case side2 => exact HC0_1.out); (case side3 => repeat (first | exact (Kd.C_below HR0_2.out HB.out) | (with_reducible refine Kd.C_alloc ?_ _) | (with_reducible refine Kd.C_drewN ?_ _) | (with_reducible refine Kd.C_drew ?_))); (case side4 => exact HC0_2.out); rintro e w23 ⟨rfl, hb⟩; refine ⟨_, rfl, ?_⟩; have n0_ := Aside0.mk (Kd.V_below (by (with_reducible repeat (first | apply Kd.V_alloc | apply Kd.V_drewN | apply Kd.V_drew)); exact HO254.out) hb); have n1_ := Aside0.mk (blk_below (g := gb250) (o := .cells #[.int .i64 a0_0, .slice A0_1 l0_1.length c0_1, .slice A0_2 l0_2.length c0_2] 25 (0, 0)) (by (with_reducible repeat (first | refine blk_drewN ?_ _ | refine blk_drew ?_ | refine blk_alloc ?_ _)); exact BK250.out) hb); have n2_ := Aside0.mk (below_step (by repeat (first | (with_reducible first | exact HB.out | apply below_alloc | apply pw_below_drewN | apply below_drew1 | refine below_set ?_ GE250.out) | exact HB.out)) hb); clear HO254; clear BK250; clear HB; have HO254 := n0_; have BK250 := n1_; have HB := n2_; clear n0_ n1_ n2_; (try clear hb); (try clear hb2); (try clear hk); (try clear hi); obtain ⟨Ao24, co24, eo24⟩ := Kd.V_slice HO254.out; subst eo24; have hcz25_0 : w23.cell? ⟨gb250, 0, none⟩ = some (.int .i64 a0_0) := (blk_cell BK250.out 0).trans rfl; have hcz25_1 : w23.cell? ⟨gb250, 1, none⟩ = some (.slice A0_1 l0_1.length c0_1) := (blk_cell BK250.out 1).trans rfl; have hcz25_2 : w23.cell? ⟨gb250, 2, none⟩ = some (.slice A0_2 l0_2.length c0_2) := (blk_cell BK250.out 2).trans rfl; have hfz25_0 := blk_frozen BK250.out 0; have hfz25_1 := blk_frozen BK250.out 1; have hfz25_2 := blk_frozen BK250.out 2) | (go_at_call 17; (with_reducible refine (least_Right.calls k a0_0 _ _ l0_1 _ _ l0_2 _ _ t252 t256 _ ?side1 ?side2 ?side3 ?side4 ?side5 ?side6 A21.out).mono ?_); (case side1 => repeat (first | exact (Kd.C_below HR0_1.out HB.out) | (with_reducible refine Kd.C_alloc ?_ _) | (with_reducible refine Kd.C_drewN ?_ _) | (with_reducible refine Kd.C_drew ?_))); (case side2 => exact HC0_1.out); (case side3 => repeat (first | exact (Kd.C_below HR0_2.out HB.out) | (with_reducible refine Kd.C_alloc ?_ _) | (with_reducible refine Kd.C_drewN ?_ _) | (with_reducible refine Kd.C_drew ?_))); (case side4 => exact HC0_2.out); (case side5 => repeat (first | exact (Kd.V_reads' HO254.out).2.2 | (with_reducible refine Kd.C_alloc ?_ _) | (with_reducible refine Kd.C_drewN ?_ _) | (with_reducible refine Kd.C_drew ?_))); (case side6 => exact (Kd.V_reads' HO254.out).2.1); rintro e w26 ⟨rfl, hb⟩; have n0_ := Aside0.mk (Kd.V_below (by (with_reducible repeat (first | apply Kd.V_alloc | apply Kd.V_drewN | apply Kd.V_drew)); exact HO254.out) hb); have n1_ := Aside0.mk (blk_below (g := gb250) (o := .cells #[.int .i64 a0_0, .slice A0_1 l0_1.length c0_1, .slice A0_2 l0_2.length c0_2] 25 (0, 0)) (by (with_reducible repeat (first | refine blk_drewN ?_ _ | refine blk_drew ?_ | refine blk_alloc ?_ _)); exact BK250.out) hb); have n2_ := Aside0.mk (below_step (by repeat (first | (with_reducible first | exact HB.out | apply below_alloc | apply pw_below_drewN | apply below_drew1 | refine below_set ?_ GE250.out) | exact HB.out)) hb); clear HO254; clear BK250; clear HB; have HO254 := n0_; have BK250 := n1_; have HB := n2_; clear n0_ n1_ n2_; (try clear hb); (try clear hb2); (try clear hk); (try clear hi)))
          go_meet
          case rel => exact ⟨_, (!t256), (by first | rfl | (simp; done) | (simp [*]; done) | (simp [*]; exact (fun (l_ : List UInt8) => (by cases l_ <;> rfl : l_.isEmpty = !(l_ != []))) _)), H', ⟨by first | omega | exact Nat.le_refl _⟩, ⟨by (with_reducible repeat (first | apply Kd.V_alloc | apply Kd.V_drewN | apply Kd.V_drew)); exact HO254.out⟩, ⟨by (with_reducible repeat (first | refine blk_drewN ?_ _ | refine blk_drew ?_ | refine blk_alloc ?_ _)); exact BK250.out⟩, ⟨by repeat (first | (with_reducible first | exact HB.out | apply below_alloc | apply pw_below_drewN | apply below_drew1 | refine below_set ?_ GE250.out) | exact HB.out)⟩⟩
  case rest =>
    clear HC6
    try clear c1
    try clear p2
    try clear c6
    try clear c8
    try clear c9
    try clear c10
    try clear c11
    try clear c11b0
    try clear c11b1
    try clear c14
    try clear c14b0
    try clear c17
    try clear c17b0
    try clear hcz12_0
    try clear hcz12_1
    try clear hcz12_2
    try clear hcz15_0
    try clear hcz15_1
    try clear hcz15_2
    try clear hcz18_0
    try clear hcz18_1
    try clear hcz18_2
    try clear hcz22_0
    try clear hcz22_1
    try clear hcz22_2
    try clear hcz25_0
    try clear hcz25_1
    try clear hcz25_2
    try clear hfz12_0
    try clear hfz12_1
    try clear hfz12_2
    try clear hfz15_0
    try clear hfz15_1
    try clear hfz15_2
    try clear hfz18_0
    try clear hfz18_1
    try clear hfz18_2
    try clear hfz22_0
    try clear hfz22_1
    try clear hfz22_2
    try clear hfz25_0
    try clear hfz25_1
    try clear hfz25_2
    obtain ⟨kq, x33_5, rfl, HA, HJ5, HO_1, BK250, HB⟩ := hcut
    cases kq with
    | zero => exact absurd HA.out (by simp [gumshoelaw14_LeastRises.j0])
    | succ kj5 =>
      have H := HA.out
      clear HA
      simp only [gumshoelaw14_LeastRises.j0] at H
      by_cases c27 : x33_5 = true
      · subst c27
        have H1 : (some t251) = some r := by rw [if_pos rfl] at H; exact H
        clear H
        have H := H1
        clear H1
        obtain rfl := Option.some.inj H
        go_wp2
        go_ret
        exact ⟨by first | rfl | (simp [errW_none, errW_some] <;> rfl) | (simp [*, errW_none, errW_some] <;> rfl) | (simp [*, errW_none, errW_some]; exact (fun (l_ : List UInt8) => (by cases l_ <;> rfl : l_.isEmpty = !(l_ != []))) _), by repeat (first | (with_reducible first | exact HB.out | apply below_alloc | apply pw_below_drewN | apply below_drew1 | refine below_set ?_ GE250.out) | exact HB.out)⟩
      · replace c27 := Bool.eq_false_iff.mpr c27
        subst c27
        have H1 : (if 0 ≤ a2 then (if a2 ≤ (t252.length : Int) then ((least_Round.f kj5 a0_0 l0_1 l0_2 (t252.take (a2 : Int).toNat)).bind fun bt262 => ((least_Round.f kj5 a0_0 l0_1 l0_2 t252).bind fun bt266 => (if t251 = true then (if bt262.2 = 0 then (if bt266.2 = 0 then ((least_Within.f bt262.1 bt266.1).bind fun t270 => (some t270)) else (none)) else (none)) else (none)))) else (none)) else (none)) = some r := by rw [if_neg (show ¬ (false = true) by decide)] at H; exact H
        clear H
        have H := H1
        clear H1
        by_cases c28 : 0 ≤ a2
        · rw [if_pos c28] at H
          have c28b0 := eq_true c28
          have c28b1 : decide (0 ≤ a2) = true := decide_eq_true c28
          clear c28
          by_cases c29 : a2 ≤ (t252.length : Int)
          · rw [if_pos c29] at H
            have c29b0 := eq_true c29
            have c29b1 : decide (a2 ≤ (t252.length : Int)) = true := decide_eq_true c29
            clear c29
            obtain ⟨y257, hy257⟩ : ∃ y_ : List (S41), y_ = (t252.take (a2 : Int).toNat) := ⟨_, rfl⟩
            replace H : ((least_Round.f kj5 a0_0 l0_1 l0_2 y257).bind fun bt262 => ((least_Round.f kj5 a0_0 l0_1 l0_2 t252).bind fun bt266 => (if t251 = true then (if bt262.2 = 0 then (if bt266.2 = 0 then ((least_Within.f bt262.1 bt266.1).bind fun t270 => (some t270)) else (none)) else (none)) else (none)))) = some r := by first | (rw [hy257]; with_reducible exact H) | (have H2_ := (Option.bind_some _ _).symm.trans H; rw [hy257]; with_reducible exact H2_) | (have H2_ := (Option.bind_some _ _).symm.trans H; with_reducible exact H2_) | with_reducible exact H | (rw [hy257]; exact H) | exact H
            have Ny257 := Aside0.mk hy257
            clear hy257
            replace H := Option.bind_eq_some_iff.mp H
            obtain ⟨⟨t262, t265⟩, A300, H⟩ := H
            replace H : ((least_Round.f kj5 a0_0 l0_1 l0_2 t252).bind fun bt266 => (if t251 = true then (if t265 = 0 then (if bt266.2 = 0 then ((least_Within.f t262 bt266.1).bind fun t270 => (some t270)) else (none)) else (none)) else (none))) = some r := H
            have A30 := Aside0.mk A300
            clear A300
            replace H := Option.bind_eq_some_iff.mp H
            obtain ⟨⟨t266, t269⟩, A310, H⟩ := H
            replace H : (if t251 = true then (if t265 = 0 then (if t269 = 0 then ((least_Within.f t262 t266).bind fun t270 => (some t270)) else (none)) else (none)) else (none)) = some r := H
            have A31 := Aside0.mk A310
            clear A310
            by_cases c32 : t251 = true
            · subst c32
              have H1 : (if t265 = 0 then (if t269 = 0 then ((least_Within.f t262 t266).bind fun t270 => (some t270)) else (none)) else (none)) = some r := by rw [if_pos rfl] at H; exact H
              clear H
              have H := H1
              clear H1
              by_cases c33 : t265 = 0
              · rw [if_pos c33] at H
                have c33b0 : (t265 == 0) = true := beq_iff_eq.mpr c33
                have c33b1 : (t265 != 0) = false := bne_eq_false_iff_eq.mpr c33
                clear c33
                by_cases c34 : t269 = 0
                · rw [if_pos c34] at H
                  have c34b0 : (t269 == 0) = true := beq_iff_eq.mpr c34
                  have c34b1 : (t269 != 0) = false := bne_eq_false_iff_eq.mpr c34
                  clear c34
                  replace H := Option.bind_eq_some_iff.mp H
                  obtain ⟨t270, A350, H⟩ := H
                  replace H : (some t270) = some r := H
                  have A35 := Aside0.mk A350
                  clear A350
                  obtain rfl := Option.some.inj H
                  try go_wp2
                  have n0_ := Aside0.mk (Kd.V_drew HO_1.out)
                  have n1_ := Aside0.mk (blk_drew BK250.out)
                  have n2_ := Aside0.mk (below_drew1 HB.out)
                  clear HO_1
                  clear BK250
                  clear HB
                  have HO_1 := n0_
                  have BK250 := n1_
                  have HB := n2_
                  clear n0_ n1_ n2_
                  obtain ⟨Ao38, co38, eo38⟩ := Kd.V_slice HO_1.out
                  (first | subst eo38 | (injection eo38 with f1_ f2_ f3_; have f4_ := f1_.symm; have f5_ := f3_.symm; clear f1_ f2_ f3_; subst f4_; subst f5_))
                  have q37 : (a2 : Int) ≤ ((t252.length : Int) : Int) := of_decide_eq_true (by first | (with_reducible assumption) | assumption)
                  obtain ⟨i037, hi037, _, hsz37, _⟩ := info_parts info41
                  have hroom37 : t252.length ≤ co38 := (Kd.V_reads' HO_1.out).2.1
                  have hC37 : Kd.F k41 _ _ Ao38 t252.length t252 := (Kd.V_at (base := w.heap.size) HO_1.out).2.2
                  have hcut37 := cut_to (P := Try.prog) 26 41 .i64 Try.underlying26 hi037 Ao38 t252.length co38 a2 (of_decide_eq_true (by first | (with_reducible assumption) | assumption)) q37 hroom37
                  have hr37 := Kd.F_take (m := (a2 : Int).toNat) hC37 (by omega)
                  have hy37 : y257.length = (a2 : Int).toNat := (by rw [Ny257.out, List.length_take]; omega)
                  rw [← Ny257.out] at hr37
                  rw [← hy37] at hcut37
                  have HO261 := Aside0.mk (show Kd.V k41 41 _ w.heap.size _ (.slice Ao38 y257.length co38) y257 from Kd.V_mk (by omega) hr37)
                  have HC261 := Aside0.mk (show y257.length ≤ co38 from by omega)
                  clear hr37 hC37 hroom37 hi037 hsz37
                  have KY37 := Aside0.mk hy37
                  clear hy37
                  replace q37 := eq_true q37
                  refine start_ (n := 10) (S := fun w' => w'.cell? ⟨gb250, 0, none⟩ = some (.int .i64 a0_0) ∧ w'.cell? ⟨gb250, 1, none⟩ = some (.slice A0_1 l0_1.length c0_1) ∧ w'.cell? ⟨gb250, 2, none⟩ = some (.slice A0_2 l0_2.length c0_2)) (ds := []) #[false, false, false, false, false, false, false, false, false, false] (by kernel_rfl) rfl rfl ⟨(blk_cell BK250.out 0).trans rfl, (blk_cell BK250.out 1).trans rfl, (blk_cell BK250.out 2).trans rfl⟩ (fun hHeld => ?_); refine with_tabW gumshoelaw14_LeastRises.tab5 gumshoelaw14_LeastRises.bits5 (fun HT_ HW_ => ?_)
                  generalize wc.drew = w36 at HO_1 BK250 HB HO261 hHeld ⊢
                  refine pure_ (i := 1) (N := some 37) (v := ?_) (a' := ?_) #[false, true, false, false, false, false, false, false, false, false] rfl rfl (any_of HT_.out (by kernel_rfl)) (fun _ _ _ h => h) (Or.inl ⟨by rfl, ?_⟩) ?_ ?_
                  rotate_left
                  · intro w'
                    go_simp
                    with_reducible rfl
                  rotate_left
                  · simp only [Act.put, List.setIfInBounds_toArray, List.set_cons_zero, List.set_cons_succ, i64_w, i32_w]
                    rfl
                  refine pure_ (i := 2) (N := some 38) (v := ?_) (a' := ?_) #[false, true, true, false, false, false, false, false, false, false] rfl rfl (any_of HT_.out (by kernel_rfl)) (fun _ _ _ h => h) (Or.inl ⟨by rfl, ?_⟩) ?_ ?_
                  rotate_left
                  · intro w'
                    go_simp
                    with_reducible rfl
                  rotate_left
                  · simp only [Act.put, List.setIfInBounds_toArray, List.set_cons_zero, List.set_cons_succ, i64_w, i32_w]
                    rfl
                  refine pure_ (i := 3) (N := some 39) (v := ?_) (a' := ?_) #[false, true, true, true, false, false, false, false, false, false] rfl rfl (any_of HT_.out (by kernel_rfl)) (fun _ _ _ h => h) (Or.inl ⟨by rfl, ?_⟩) ?_ ?_
                  rotate_left
                  · intro w'
                    go_simp
                    with_reducible rfl
                  rotate_left
                  · simp only [Act.put, List.setIfInBounds_toArray, List.set_cons_zero, List.set_cons_succ, i64_w, i32_w]
                    rfl
                  refine take_ (i := 0) (N := some 36) (v := ?_) (a' := ?_) #[true, true, true, true, false, false, false, false, false, false] rfl rfl (take_ofW HT_.out HW_.out (by kernel_rfl)) (fun _ _ _ h => h) (Or.inl ⟨by rfl, ?_⟩) hHeld ?_ ?_
                  rotate_left
                  · rintro w' ⟨s0, s1, s2⟩
                    go_simp
                    with_reducible rfl
                  rotate_left
                  · simp only [Act.put, List.setIfInBounds_toArray, List.set_cons_zero, List.set_cons_succ, i64_w, i32_w]
                    rfl
                  refine one_ (i := 4) (N := some 40) #[true, true, true, true, true, false, false, false, false, false] rfl rfl (one_of HT_.out (by kernel_rfl)) (by decide) (fun K hK => ?_)
                  refine goes_ Try.func11 (by kernel_rfl) rfl #[.agg #[.int .i64 a0_0, .slice A0_1 l0_1.length c0_1, .slice A0_2 l0_2.length c0_2], .slice Ao38 y257.length co38] (by rfl) rfl rfl (by (try simp only [List.map_toArray, List.map_cons, List.map_nil]); first | done | rfl | (simp only [List.length_drop, List.length_take]; rfl)) ?_
                  with_reducible refine (least_Round.calls kj5 a0_0 _ _ l0_1 _ _ l0_2 _ _ y257 t262 t265 _ ?side1 ?side2 ?side3 ?side4 ?side5 ?side6 A30.out).mono ?_
                  (case side1 => repeat (first | exact (Kd.C_below HR0_1.out HB.out) | (with_reducible refine Kd.C_alloc ?_ _) | (with_reducible refine Kd.C_drewN ?_ _) | (with_reducible refine Kd.C_drew ?_)))
                  (case side2 => exact HC0_1.out)
                  (case side3 => repeat (first | exact (Kd.C_below HR0_2.out HB.out) | (with_reducible refine Kd.C_alloc ?_ _) | (with_reducible refine Kd.C_drewN ?_ _) | (with_reducible refine Kd.C_drew ?_)))
                  (case side4 => exact HC0_2.out)
                  (case side5 => repeat (first | exact (Kd.V_reads' HO261.out).2.2 | (with_reducible refine Kd.C_alloc ?_ _) | (with_reducible refine Kd.C_drewN ?_ _) | (with_reducible refine Kd.C_drew ?_)))
                  (case side6 => exact (Kd.V_reads' HO261.out).2.1)
                  rintro e w39 ⟨v263, rfl, ho0, hb⟩
                  refine ⟨_, rfl, ?_⟩
                  have n0_ := Aside0.mk (Kd.V_below (by (with_reducible repeat (first | apply Kd.V_alloc | apply Kd.V_drewN | apply Kd.V_drew)); exact HO_1.out) hb)
                  have n1_ := Aside0.mk (Kd.V_below (by (with_reducible repeat (first | apply Kd.V_alloc | apply Kd.V_drewN | apply Kd.V_drew)); exact HO261.out) hb)
                  have n2_ := Aside0.mk (Kd.V_lower (Kd.V_mono (ok' := fun k_ => k_ ≠ gb250) ho0 (fun k_ hk_ => (Kd.freshB (g := gb250) (o := .cells #[.int .i64 a0_0, .slice A0_1 l0_1.length c0_1, .slice A0_2 l0_2.length c0_2] 25 (0, 0)) (by (with_reducible repeat (first | refine blk_drewN ?_ _ | refine blk_drew ?_ | refine blk_alloc ?_ _)); exact BK250.out) k_ hk_))) (below_size (by repeat (first | (with_reducible first | exact HB.out | apply below_alloc | apply pw_below_drewN | apply below_drew1 | refine below_set ?_ GE250.out) | exact HB.out))))
                  have n3_ := Aside0.mk (blk_below (g := gb250) (o := .cells #[.int .i64 a0_0, .slice A0_1 l0_1.length c0_1, .slice A0_2 l0_2.length c0_2] 25 (0, 0)) (by (with_reducible repeat (first | refine blk_drewN ?_ _ | refine blk_drew ?_ | refine blk_alloc ?_ _)); exact BK250.out) hb)
                  have n4_ := Aside0.mk (below_step (by repeat (first | (with_reducible first | exact HB.out | apply below_alloc | apply pw_below_drewN | apply below_drew1 | refine below_set ?_ GE250.out) | exact HB.out)) hb)
                  clear HO_1
                  clear HO261
                  clear BK250
                  clear HB
                  have HO_1 := n0_
                  have HO261 := n1_
                  have HO264 := n2_
                  have BK250 := n3_
                  have HB := n4_
                  clear n0_ n1_ n2_ n3_ n4_
                  (try clear hb)
                  (try clear hb2)
                  (try clear hk)
                  (try clear hi)
                  (try clear ho0)
                  refine hK.out _ _ ⟨(blk_cell BK250.out 0).trans rfl, (blk_cell BK250.out 1).trans rfl, (blk_cell BK250.out 2).trans rfl⟩ (fun hHeld => ?_)
                  clear hK K
                  refine norm_ (a' := ?_) ?_ ?_
                  rotate_left
                  · show Act.put _ (some 40) _ = _
                    simp only [Act.put, List.setIfInBounds_toArray, List.set_cons_zero, List.set_cons_succ, i64_w, i32_w]
                    rfl
                  refine pure_ (i := 5) (N := some 35) (v := ?_) (a' := ?_) #[true, true, true, true, true, true, false, false, false, false] rfl rfl (any_of HT_.out (by kernel_rfl)) (fun _ _ _ h => h) (Or.inl ⟨by rfl, ?_⟩) ?_ ?_
                  rotate_left
                  · intro w'
                    go_simp
                    with_reducible rfl
                  rotate_left
                  · simp only [Act.put, List.setIfInBounds_toArray, List.set_cons_zero, List.set_cons_succ, i64_w, i32_w]
                    rfl
                  refine pure_ (i := 6) (N := some 41) (v := ?_) (a' := ?_) #[true, true, true, true, true, true, true, false, false, false] rfl rfl (any_of HT_.out (by kernel_rfl)) (fun _ _ _ h => h) (Or.inl ⟨by rfl, ?_⟩) ?_ ?_
                  rotate_left
                  · intro w'
                    go_simp
                    with_reducible rfl
                  rotate_left
                  · simp only [Act.put, List.setIfInBounds_toArray, List.set_cons_zero, List.set_cons_succ, i64_w, i32_w]
                    rfl
                  refine pure_ (i := 7) (N := some 42) (v := ?_) (a' := ?_) #[true, true, true, true, true, true, true, true, false, false] rfl rfl (any_of HT_.out (by kernel_rfl)) (fun _ _ _ h => h) (Or.inl ⟨by rfl, ?_⟩) ?_ ?_
                  rotate_left
                  · intro w'
                    go_simp
                    with_reducible rfl
                  rotate_left
                  · simp only [Act.put, List.setIfInBounds_toArray, List.set_cons_zero, List.set_cons_succ, i64_w, i32_w]
                    rfl
                  refine pure_ (i := 8) (N := some 8) (v := ?_) (a' := ?_) #[true, true, true, true, true, true, true, true, true, false] rfl rfl (any_of HT_.out (by kernel_rfl)) (fun _ _ _ h => h) (Or.inl ⟨by rfl, ?_⟩) ?_ ?_
                  rotate_left
                  · intro w'
                    go_simp
                    with_reducible rfl
                  rotate_left
                  · simp only [Act.put, List.setIfInBounds_toArray, List.set_cons_zero, List.set_cons_succ, i64_w, i32_w]
                    rfl
                  refine pure_ (i := 9) (N := some 9) (v := ?_) (a' := ?_) #[true, true, true, true, true, true, true, true, true, true] rfl rfl (any_of HT_.out (by kernel_rfl)) (fun _ _ _ h => h) (Or.inl ⟨by rfl, ?_⟩) ?_ ?_
                  rotate_left
                  · intro w'
                    go_simp
                    with_reducible rfl
                  rotate_left
                  · simp only [Act.put, List.setIfInBounds_toArray, List.set_cons_zero, List.set_cons_succ, i64_w, i32_w]
                    rfl
                  refine done_ (done_of HT_.out (by kernel_rfl)) ?_
                  have hcz40_0 : w39.cell? ⟨gb250, 0, none⟩ = some (.int .i64 a0_0) := (blk_cell BK250.out 0).trans rfl
                  have hcz40_1 : w39.cell? ⟨gb250, 1, none⟩ = some (.slice A0_1 l0_1.length c0_1) := (blk_cell BK250.out 1).trans rfl
                  have hcz40_2 : w39.cell? ⟨gb250, 2, none⟩ = some (.slice A0_2 l0_2.length c0_2) := (blk_cell BK250.out 2).trans rfl
                  have hfz40_0 := blk_frozen BK250.out 0
                  have hfz40_1 := blk_frozen BK250.out 1
                  have hfz40_2 := blk_frozen BK250.out 2
                  try go_wp2_with (first | ((with_reducible refine gate_callee (f := 11) rfl ?_); refine goesL_ (some 46) rfl rfl Try.func11 (by kernel_rfl) rfl #[.agg #[.int .i64 a0_0, .slice A0_1 l0_1.length c0_1, .slice A0_2 l0_2.length c0_2], .slice Ao38 t252.length co38] rfl (by (try simp only [List.map_toArray, List.map_cons, List.map_nil]); first | done | rfl | (simp only [List.length_drop, List.length_take]; rfl)) ?_; (with_reducible refine (least_Round.calls kj5 a0_0 _ _ l0_1 _ _ l0_2 _ _ t252 t266 t269 _ ?side1 ?side2 ?side3 ?side4 ?side5 ?side6 A31.out).mono ?_); (case side1 => repeat (first | exact (Kd.C_below HR0_1.out HB.out) | (with_reducible refine Kd.C_alloc ?_ _) | (with_reducible refine Kd.C_drewN ?_ _) | (with_reducible refine Kd.C_drew ?_))); (case side2 => exact HC0_1.out); (case side3 => repeat (first | exact (Kd.C_below HR0_2.out HB.out) | (with_reducible refine Kd.C_alloc ?_ _) | (with_reducible refine Kd.C_drewN ?_ _) | (with_reducible refine Kd.C_drew ?_))); (case side4 => exact HC0_2.out); (case side5 => repeat (first | exact (Kd.V_reads' HO_1.out).2.2 | (with_reducible refine Kd.C_alloc ?_ _) | (with_reducible refine Kd.C_drewN ?_ _) | (with_reducible refine Kd.C_drew ?_))); (case side6 => exact (Kd.V_reads' HO_1.out).2.1); rintro e w41 ⟨v267, rfl, ho0, hb⟩; refine ⟨_, rfl, ?_⟩; have n0_ := Aside0.mk (Kd.V_below (by (with_reducible repeat (first | apply Kd.V_alloc | apply Kd.V_drewN | apply Kd.V_drew)); exact HO_1.out) hb); have n1_ := Aside0.mk (Kd.V_below (by (with_reducible repeat (first | apply Kd.V_alloc | apply Kd.V_drewN | apply Kd.V_drew)); exact HO261.out) hb); have n2_ := Aside0.mk (Kd.V_below (by (with_reducible repeat (first | apply Kd.V_alloc | apply Kd.V_drewN | apply Kd.V_drew)); exact HO264.out) hb); have n3_ := Aside0.mk (Kd.V_lower (Kd.V_mono (ok' := fun k_ => k_ ≠ gb250) ho0 (fun k_ hk_ => (Kd.freshB (g := gb250) (o := .cells #[.int .i64 a0_0, .slice A0_1 l0_1.length c0_1, .slice A0_2 l0_2.length c0_2] 25 (0, 0)) (by (with_reducible repeat (first | refine blk_drewN ?_ _ | refine blk_drew ?_ | refine blk_alloc ?_ _)); exact BK250.out) k_ hk_))) (below_size (by repeat (first | (with_reducible first | exact HB.out | apply below_alloc | apply pw_below_drewN | apply below_drew1 | refine below_set ?_ GE250.out) | exact HB.out)))); have n4_ := Aside0.mk (blk_below (g := gb250) (o := .cells #[.int .i64 a0_0, .slice A0_1 l0_1.length c0_1, .slice A0_2 l0_2.length c0_2] 25 (0, 0)) (by (with_reducible repeat (first | refine blk_drewN ?_ _ | refine blk_drew ?_ | refine blk_alloc ?_ _)); exact BK250.out) hb); have n5_ := Aside0.mk (below_step (by repeat (first | (with_reducible first | exact HB.out | apply below_alloc | apply pw_below_drewN | apply below_drew1 | refine below_set ?_ GE250.out) | exact HB.out)) hb); clear HO_1; clear HO261; clear HO264; clear BK250; clear HB; have HO_1 := n0_; have HO261 := n1_; have HO264 := n2_; have HO268 := n3_; have BK250 := n4_; have HB := n5_; clear n0_ n1_ n2_ n3_ n4_ n5_; (try clear hb); (try clear hb2); (try clear hk); (try clear hi); (try clear ho0); obtain ⟨Ao42, co42, eo42⟩ := Kd.V_slice HO264.out; subst eo42; obtain ⟨Ao43, co43, eo43⟩ := Kd.V_slice HO268.out; subst eo43) | (go_at_call 18; (with_reducible refine (least_Within.calls _ _ t262 _ _ t266 t270 _ ?side1 ?side2 ?side3 ?side4 A35.out).mono ?_); (case side1 => repeat (first | exact (Kd.V_reads' HO264.out).2.2 | (with_reducible refine Kd.C_alloc ?_ _) | (with_reducible refine Kd.C_drewN ?_ _) | (with_reducible refine Kd.C_drew ?_))); (case side2 => exact (Kd.V_reads' HO264.out).2.1); (case side3 => repeat (first | exact (Kd.V_reads' HO268.out).2.2 | (with_reducible refine Kd.C_alloc ?_ _) | (with_reducible refine Kd.C_drewN ?_ _) | (with_reducible refine Kd.C_drew ?_))); (case side4 => exact (Kd.V_reads' HO268.out).2.1); rintro e w44 ⟨rfl, hb⟩; have n0_ := Aside0.mk (Kd.V_below (by (with_reducible repeat (first | apply Kd.V_alloc | apply Kd.V_drewN | apply Kd.V_drew)); exact HO_1.out) hb); have n1_ := Aside0.mk (Kd.V_below (by (with_reducible repeat (first | apply Kd.V_alloc | apply Kd.V_drewN | apply Kd.V_drew)); exact HO261.out) hb); have n2_ := Aside0.mk (Kd.V_below (by (with_reducible repeat (first | apply Kd.V_alloc | apply Kd.V_drewN | apply Kd.V_drew)); exact HO264.out) hb); have n3_ := Aside0.mk (Kd.V_below (by (with_reducible repeat (first | apply Kd.V_alloc | apply Kd.V_drewN | apply Kd.V_drew)); exact HO268.out) hb); have n4_ := Aside0.mk (blk_below (g := gb250) (o := .cells #[.int .i64 a0_0, .slice A0_1 l0_1.length c0_1, .slice A0_2 l0_2.length c0_2] 25 (0, 0)) (by (with_reducible repeat (first | refine blk_drewN ?_ _ | refine blk_drew ?_ | refine blk_alloc ?_ _)); exact BK250.out) hb); have n5_ := Aside0.mk (below_step (by repeat (first | (with_reducible first | exact HB.out | apply below_alloc | apply pw_below_drewN | apply below_drew1 | refine below_set ?_ GE250.out) | exact HB.out)) hb); clear HO_1; clear HO261; clear HO264; clear HO268; clear BK250; clear HB; have HO_1 := n0_; have HO261 := n1_; have HO264 := n2_; have HO268 := n3_; have BK250 := n4_; have HB := n5_; clear n0_ n1_ n2_ n3_ n4_ n5_; (try clear hb); (try clear hb2); (try clear hk); (try clear hi)))
                  go_ret
                  exact ⟨by first | rfl | (simp [errW_none, errW_some] <;> rfl) | (simp [*, errW_none, errW_some] <;> rfl) | (simp [*, errW_none, errW_some]; exact (fun (l_ : List UInt8) => (by cases l_ <;> rfl : l_.isEmpty = !(l_ != []))) _), by repeat (first | (with_reducible first | exact HB.out | apply below_alloc | apply pw_below_drewN | apply below_drew1 | refine below_set ?_ GE250.out) | exact HB.out)⟩
                · rw [if_neg c34] at H
                  exact absurd H (by simp)
              · rw [if_neg c33] at H
                exact absurd H (by simp)
            · replace c32 := Bool.eq_false_iff.mpr c32
              subst c32
              have H1 : (none) = some r := by rw [if_neg (show ¬ (false = true) by decide)] at H; exact H
              clear H
              have H := H1
              clear H1
              exact absurd H (by simp)
          · rw [if_neg c29] at H
            exact absurd H (by simp)
        · rw [if_neg c28] at H
          exact absurd H (by simp)
end Go.Proofs.Ytngppcmdaanheaa.Pr

/- What holds for all large numbers of rounds; small facts on lists and whole numbers. No condition. -/
namespace Go.Proofs.Ytngppcmdaanheaa.Ev
open Go.RowKit Go.Proofs.YtngppcmdaanheaaW.PrintWords
def Ev (p : Nat → Prop) : Prop := ∃ K, ∀ k, K ≤ k → p k
theorem Ev.all {p : Nat → Prop} (h : ∀ k, p k) : Ev p := ⟨0, fun k _ => h k⟩
theorem Ev.ex {p : Nat → Prop} (h : Ev p) : ∃ k, p k := by obtain ⟨K, h⟩ := h; exact ⟨K, h K (Nat.le_refl _)⟩
theorem Ev.and {p q : Nat → Prop} (h : Ev p) (g : Ev q) : Ev fun k => p k ∧ q k := by
  obtain ⟨K, h⟩ := h
  obtain ⟨M, g⟩ := g
  exact ⟨K + M, fun k hk => ⟨h k (by omega), g k (by omega)⟩⟩
theorem Ev.mono {p q : Nat → Prop} (h : Ev p) (f : ∀ k, p k → q k) : Ev q := by
  obtain ⟨K, h⟩ := h
  exact ⟨K, fun k hk => f k (h k hk)⟩
theorem Ev.succ {p q : Nat → Prop} (h : Ev p) (f : ∀ k, p k → q (k + 1)) : Ev q := by
  obtain ⟨K, h⟩ := h
  refine ⟨K + 1, fun k hk => ?_⟩
  obtain ⟨k, rfl⟩ : ∃ j, k = j + 1 := ⟨k - 1, by omega⟩
  exact f k (h k (by omega))
theorem Ev.step {q : Nat → Prop} (f : ∀ k, q (k + 1)) : Ev q := (Ev.all (p := fun _ => True) fun _ => trivial).succ fun k _ => f k
theorem wrap_nat (i : Nat) (h : i + 1 ≤ 9223372036854775807) : wrap64 ((i : Int) + 1) = ((i + 1 : Nat) : Int) := by
  unfold wrap64
  omega
theorem drop_len {α : Type} (l : List α) (i : Nat) (h : l.length ≤ i) : l.drop i = [] := List.drop_eq_nil_of_le h
end Go.Proofs.Ytngppcmdaanheaa.Ev

/- What a round asks for may be facts, and is not too much. No condition. -/
namespace Go.Proofs.Ytngppcmdaanheaa.Lv
open Go.RowKit Go.Proofs.Ytngppcmdaanheaa.ISet Go.Proofs.Ytngppcmdaanheaa.Pr Go.Proofs.Ytngppcmdaanheaa.Ls Go.Proofs.Ytngppcmdaanheaa.Ev Go.Proofs.YtngppcmdaanheaaW.PrintWords Go.Proofs.YtngppcmdaanheaaW.PrintMore
set_option linter.unusedVariables false
set_option linter.unusedSimpArgs false
abbrev FunT := S44
abbrev RuT := S46
def Mk (x : Int) : Prop := 0 ≤ x ∧ x ≤ 1000001
def InR (f : Fa) : Prop := 3 ≤ f.f0 ∧ f.f0 ≤ 9 ∧ Mk f.f1 ∧ Mk f.f3 ∧ f.f2.size ≤ maxLen
theorem InR.wf {f : Fa} (h : InR f) : wfF f := by
  obtain ⟨h0, h1, ⟨h2, h3⟩, ⟨h4, h5⟩, h6⟩ := h
  have hw : ∀ x : Int, 0 ≤ x → x ≤ 1000001 → (Lit.int .i64 x).wf = true := fun x a b => by
    have h1 : IntKind.i64.min = -9223372036854775808 := by decide
    have h2 : IntKind.i64.max = 9223372036854775807 := by decide
    simp only [Lit.wf, Bool.and_eq_true, decide_eq_true_iff, h1, h2]
    omega
  exact ⟨hw _ (by omega) (by omega), hw _ h2 h3, h6, hw _ h4 h5⟩
def All (L : List Fa) : Prop := ∀ f ∈ L, InR f
theorem All.nil : All [] := fun f h => by cases h
theorem All.app {L M : List Fa} (h : All L) (k : All M) : All (L ++ M) := fun f hf => (List.mem_append.1 hf).elim (h f) (k f)
theorem All.rg {n : Nat} {F : Nat → List Fa} (h : ∀ i, i < n → All (F i)) : All (rg n F) := fun f hf => by
  obtain ⟨i, hi, hm⟩ := mem_rg.1 hf
  exact h i hi f hm
theorem noS_le : noS.size ≤ maxLen := by decide
theorem protoS_le : protoS.size ≤ maxLen := by decide
theorem All.ask {kind a : Int} {s : ByteArray} {xs : List Int} (hk : 3 ≤ kind ∧ kind ≤ 9) (ha : Mk a) (hs : s.size ≤ maxLen) (hx : ∀ x ∈ xs, Mk x) : All (askL kind a s xs) := fun f hf => by
  obtain ⟨x, h, rfl⟩ := List.mem_map.1 hf
  exact ⟨hk.1, hk.2, ha, hx x h, hs⟩
theorem one_mk {x y : Int} (h : Mk x) : y ∈ [x] → Mk y := fun k => by rw [List.mem_singleton.1 k]; exact h
theorem rg_len {n : Nat} {F : Nat → List Fa} {B : Nat} (h : ∀ i, i < n → (F i).length ≤ B) : (rg n F).length ≤ n * B := by
  induction n with
  | zero => simp [rg_zero]
  | succ n ih =>
    rw [rg_succ, List.length_append, Nat.succ_mul]
    have h1 := ih (fun i hi => h i (by omega))
    have h2 := h n (by omega)
    omega
theorem askL_len (kind a : Int) (s : ByteArray) (xs : List Int) : (askL kind a s xs).length = xs.length := by simp [askL]
/-! ### systems and facts that may be -/
def InS (s0 x : Int) : Prop := 0 ≤ x ∧ x < s0
theorem setsB_iff {s0 : Int} {l : List Int} : setsB s0 l = true ↔ ∀ x ∈ l, InS s0 x := by
  unfold setsB
  rw [Bool.not_eq_true', List.any_eq_false]
  refine ⟨fun h x hx => ?_, fun h x hx => ?_⟩
  · have h1 := h x hx
    simp only [isNo, Bool.or_eq_true, decide_eq_true_iff, not_or] at h1
    exact ⟨by omega, by omega⟩
  · have h1 := h x hx
    simp only [isNo, Bool.or_eq_true, decide_eq_true_iff, not_or]
    exact ⟨by have := h1.1; omega, by have := h1.2; omega⟩
structure SysOk (s0 : Int) (fs : List FunT) (rs : List RuT) : Prop where
  s : 9 ≤ s0 ∧ s0 ≤ 100000
  fn : 1 ≤ fs.length ∧ fs.length ≤ 15
  rn : rs.length ≤ 40
  f : ∀ f ∈ fs, f.f1.length ≤ 200 ∧ (∀ p ∈ f.f1, InS s0 p) ∧ InS s0 f.f2 ∧ InS s0 f.f3 ∧ InS s0 f.f4
  fm : ∀ i : Nat, 0 < i → i < fs.length → 4 ≤ (rd_T44 fs (i : Int)).f0 ∧ (rd_T44 fs (i : Int)).f0 < 1000000
  r : ∀ x ∈ rs, fitsB s0 fs.length x = true ∧ x.f8.length ≤ 205 ∧ x.f7.size ≤ maxLen
structure FactOk (s0 : Int) (nf : Nat) (f : Fa) : Prop where
  a : Mk f.f1
  b : Mk f.f3
  k : f.f0 = 3 ∨ f.f0 = 4 ∨ f.f0 = 5 ∨ f.f0 = 6 ∧ f.f1 < nf ∧ f.f3 = 0 ∨ f.f0 = 8 ∨ f.f0 = 9 ∧ f.f1 < s0
  s : f.f0 ≠ 3 → f.f2 = (⟨#[]⟩ : ByteArray)
structure FactsOk (s0 : Int) (nf : Nat) (l : List Fa) : Prop where
  ok : ∀ f ∈ l, FactOk s0 nf f
  srt : l.Pairwise LF
  len : l.length ≤ 100
  sz : ∀ f ∈ l, f.f2.size ≤ maxLen
theorem FactOk.inR {s0 : Int} {nf : Nat} {f : Fa} (h : FactOk s0 nf f) (hs : f.f2.size ≤ maxLen) : InR f := ⟨by rcases h.k with e | e | e | ⟨e, _⟩ | e | ⟨e, _⟩ <;> omega, by rcases h.k with e | e | e | ⟨e, _⟩ | e | ⟨e, _⟩ <;> omega, h.a, h.b, hs⟩
theorem InS.mk {s0 x : Int} (h : InS s0 x) (hs : s0 ≤ 100000) : Mk x := ⟨h.1, by have := h.2; omega⟩
section
variable {s0 : Int} {fs : List FunT} {rs : List RuT} {l : List Fa}
theorem bs_mk (hl : FactsOk s0 fs.length l) {kind a x : Int} (hx : x ∈ bsL l kind a) : Mk x := by
  unfold bsL toldR at hx
  obtain ⟨f, hf, rfl⟩ := List.mem_map.1 hx
  exact (hl.ok f (List.mem_filter.1 hf).1).b
theorem loads_mk (hl : FactsOk s0 fs.length l) {p : ByteArray → Bool} {m x : Int} (hx : x ∈ loadsL l p m) : Mk x := by
  unfold loadsL at hx
  obtain ⟨f, hf, rfl⟩ := List.mem_map.1 hx
  exact (hl.ok f (List.mem_filter.1 hf).1).b
theorem rdF_mem {i : Nat} (h : i < fs.length) : rd_T44 fs (i : Int) ∈ fs := by
  unfold rd_T44
  rw [Int.toNat_natCast, List.getD_eq_getElem?_getD, List.getElem?_eq_getElem h]
  exact List.getElem_mem h
theorem rdR_mem {i : Nat} (h : i < rs.length) : rd_T46 rs (i : Int) ∈ rs := by
  unfold rd_T46
  rw [Int.toNat_natCast, List.getD_eq_getElem?_getD, List.getElem?_eq_getElem h]
  exact List.getElem_mem h
theorem rdA_mem {i : Nat} (h : i < l.length) : rd_T41 l (i : Int) ∈ l := by
  unfold rd_T41
  rw [Int.toNat_natCast, List.getD_eq_getElem?_getD, List.getElem?_eq_getElem h]
  exact List.getElem_mem h
structure ClOk (s0 : Int) (N : Nat) (x : Cl) : Prop where
  mark : Mk x.mark
  this : ∀ y ∈ x.this, Mk y
  ret : Mk x.ret
  out : Mk x.out
  tl : x.this.length ≤ N
  al : x.args.length ≤ 205
theorem call_all (hs : SysOk s0 fs rs) (hl : FactsOk s0 fs.length l) {N : Nat} {x : Cl} (hx : ClOk s0 N x) {c : Int} (hc : Mk c) : All (callL (roC s0 fs rs l) x c) := by
  have hb : ∀ a, ∀ y ∈ bsL l 9 a, Mk y := fun a y hy => bs_mk hl hy
  have hspare : ∀ t, Mk t → Mk (t + 1) → Mk (t + 2) → Mk (t + 3) → All (spareAsk l x c t) := fun t h0 h1 h2 h3 => by
    unfold spareAsk
    refine All.app (All.ask (by omega) hx.mark noS_le (fun y => one_mk hc)) (All.app (All.ask (by omega) h0 noS_le hx.this) (All.app (All.rg (fun i _ => All.app (All.ask (by omega) h1 noS_le (hb _)) All.nil)) (All.app ?_ (All.app (All.ask (by omega) hx.ret noS_le (hb _)) (All.app (All.ask (by omega) hx.out noS_le (hb _)) All.nil)))))
    split
    · exact All.ask (by omega) h1 noS_le (hb _)
    · exact All.nil
  unfold callL
  refine All.app (All.rg (fun g hg => ?_)) ?_
  · unfold funAsk
    split
    · exact All.nil
    · obtain ⟨_, hp, h2, h3, h4⟩ := hs.f _ (rdF_mem hg)
      have hs1 := hs.s.2
      refine All.app (All.ask (by omega) hx.mark noS_le (fun y => one_mk hc)) (All.app (All.ask (by omega) ⟨by omega, by have := hs.fn.2; have hg' : g < fs.length := hg; omega⟩ noS_le (fun y => one_mk ⟨by omega, by omega⟩)) (All.app (All.ask (by omega) (h2.mk hs1) noS_le hx.this) (All.app (All.rg (fun i hi => ?_)) (All.app (All.ask (by omega) hx.ret noS_le (hb _)) (All.app (All.ask (by omega) hx.out noS_le (hb _)) All.nil)))))
      have hpi : Mk (rd (rd_T44 fs (g : Int)).f1 (i : Int)) := (hp _ (rd_mem _ i hi)).mk hs1
      unfold parAsk
      split
      · exact All.app (All.ask (by omega) hpi noS_le (hb _)) All.nil
      · split
        · exact All.app (All.ask (by omega) hpi noS_le (hb _)) All.nil
        · exact All.nil
  · have h1 := hs.s
    unfold tailAsk
    split
    · exact hspare _ ⟨by simp only [roC]; omega, by simp only [roC]; omega⟩ ⟨by simp only [roC]; omega, by simp only [roC]; omega⟩ ⟨by simp only [roC]; omega, by simp only [roC]; omega⟩ ⟨by simp only [roC]; omega, by simp only [roC]; omega⟩
    · split
      · exact hspare _ ⟨by simp only [roC]; omega, by simp only [roC]; omega⟩ ⟨by simp only [roC]; omega, by simp only [roC]; omega⟩ ⟨by simp only [roC]; omega, by simp only [roC]; omega⟩ ⟨by simp only [roC]; omega, by simp only [roC]; omega⟩
      · exact All.nil
theorem call_len (hs : SysOk s0 fs rs) (hl : FactsOk s0 fs.length l) {x : Cl} (hx : ClOk s0 100 x) (c : Int) : (callL (roC s0 fs rs l) x c).length ≤ 400000 := by
  have hb : ∀ a, (bsL l 9 a).length ≤ 100 := fun a => Nat.le_trans (bsL_le l 9 a) hl.len
  have h1 : (rg fs.length (funAsk l x c fs)).length ≤ fs.length * 20402 := rg_len (fun g hg => by
    unfold funAsk
    split
    · simp
    · have hp := (hs.f _ (rdF_mem hg)).1
      have h2 : (rg (rd_T44 fs (g : Int)).f1.length (parAsk l x (rd_T44 fs (g : Int)).f1)).length ≤ (rd_T44 fs (g : Int)).f1.length * 100 := rg_len (fun i hi => by
        unfold parAsk
        split
        · rw [List.append_nil, askL_len]; exact hb _
        · split
          · rw [List.append_nil, askL_len]; exact hb _
          · simp)
      have h3 := hb (rd_T44 fs (g : Int)).f3
      have h4 := hb (rd_T44 fs (g : Int)).f4
      have h5 := hx.tl
      simp only [List.length_append, askL_len, List.length_nil, List.length_singleton]
      omega)
  have h2 : ∀ t, (spareAsk l x c t).length ≤ 21000 := fun t => by
    unfold spareAsk
    have h3 : (rg x.args.length (argAsk l x t)).length ≤ x.args.length * 100 := rg_len (fun i hi => by
      unfold argAsk
      rw [List.append_nil, askL_len]; exact hb _)
    have h4 := hx.al
    have h5 := hx.tl
    have h6 := hb (t + 2)
    have h7 := hb (t + 3)
    have h8 : (if 0 ≤ x.each then askL 9 (t + 1) noS (bsL l 9 x.each) else []).length ≤ 100 := by
      split
      · rw [askL_len]; exact hb _
      · simp
    simp only [List.length_append, askL_len, List.length_nil, List.length_singleton]
    omega
  have h3 : (tailAsk s0 l x c).length ≤ 21000 := by
    unfold tailAsk
    split
    · exact h2 _
    · split
      · exact h2 _
      · simp
  have h4 := hs.fn.2
  show (rg fs.length (funAsk l x c fs) ++ tailAsk s0 l x c).length ≤ _
  rw [List.length_append]
  omega
end
end Go.Proofs.Ytngppcmdaanheaa.Lv

/- What a round asks for may be facts, and is not too much: rules, builtins, the round. No condition. -/
namespace Go.Proofs.Ytngppcmdaanheaa.Lv
open Go.RowKit Go.Proofs.Ytngppcmdaanheaa.ISet Go.Proofs.Ytngppcmdaanheaa.Pr Go.Proofs.Ytngppcmdaanheaa.Ls Go.Proofs.Ytngppcmdaanheaa.Ev Go.Proofs.YtngppcmdaanheaaW.PrintWords Go.Proofs.YtngppcmdaanheaaW.PrintMore
set_option linter.unusedVariables false
set_option linter.unusedSimpArgs false
section
variable {s0 : Int} {fs : List FunT} {rs : List RuT} {l : List Fa}
theorem isM_mk {m : Int} (h : isM m = true) : Mk m := by
  unfold isM at h
  split at h
  · have := of_decide_eq_true h
    exact ⟨by omega, by omega⟩
  · cases h
structure RuOk (s0 : Int) (nf : Nat) (x : RuT) : Prop where
  x2 : InS s0 x.f2
  k : kindB s0 nf x = true
theorem fitsB_ok {nf : Nat} {x : RuT} (h : fitsB s0 nf x = true) : RuOk s0 nf x := by
  unfold fitsB at h
  split at h
  · cases h
  · split at h
    · cases h
    · split at h
      · rename_i hs
        exact ⟨setsB_iff.1 hs x.f2 (List.mem_singleton.2 rfl), h⟩
      · cases h
theorem callB_ok {x : RuT} (h : callB s0 x = true) : Mk x.f6 ∧ InS s0 x.f3 ∧ InS s0 x.f5 := by
  unfold callB at h
  simp only [Bool.and_eq_true] at h
  obtain ⟨h1, h2, _⟩ := h
  exact ⟨isM_mk h1, setsB_iff.1 h2 _ (by simp), setsB_iff.1 h2 _ (by simp)⟩
theorem each_cases {nf : Nat} {x : RuT} (h : RuOk s0 nf x) : (x.f0 = 4 ∨ x.f0 = 5 ∨ x.f0 = 6 ∨ x.f0 = 7 ∨ x.f0 = 3 → InS s0 x.f3) ∧ (x.f0 = 8 ∨ x.f0 = 9 → Mk x.f6 ∧ InS s0 x.f3 ∧ InS s0 x.f5) := by
  have hk := h.k
  unfold kindB at hk
  constructor
  · intro hx
    rw [if_neg (by omega), if_neg (by omega), if_neg (by omega), if_neg (by omega), if_pos (by omega)] at hk
    exact setsB_iff.1 hk _ (List.mem_singleton.2 rfl)
  · rintro (hx | hx)
    · rw [if_neg (by omega), if_neg (by omega), if_pos hx] at hk
      split at hk
      · exact callB_ok hk
      · split at hk
        · exact callB_ok hk
        · cases hk
    · rw [if_neg (by omega), if_neg (by omega), if_neg (by omega), if_pos hx] at hk
      exact callB_ok hk
theorem clOk_rule (hs : SysOk s0 fs rs) (hl : FactsOk s0 fs.length l) {x : RuT} (h8 : x.f8.length ≤ 205) (h : Mk x.f6 ∧ InS s0 x.f3 ∧ InS s0 x.f5) {th : List Int} (ht : ∀ y ∈ th, Mk y) (htl : th.length ≤ 100) :
    ClOk s0 100 ⟨x.f6, th, x.f8, -1, x.f3, x.f5⟩ := ⟨h.1, ht, h.2.1.mk hs.s.2, h.2.2.mk hs.s.2, htl, h8⟩
theorem bsl100 (hl : FactsOk s0 fs.length l) (kind a : Int) : (bsL l kind a).length ≤ 100 := Nat.le_trans (bsL_le l kind a) hl.len
theorem each_all (hs : SysOk s0 fs rs) (hl : FactsOk s0 fs.length l) {x : RuT} (hx : x ∈ rs) {c : Int} (hc : Mk c) : All (eachL (roC s0 fs rs l) x c) := by
  obtain ⟨hf, h8, h7⟩ := hs.r x hx
  obtain ⟨e1, e2⟩ := each_cases (fitsB_ok hf)
  have hb : ∀ a, ∀ y ∈ bsL l 9 a, Mk y := fun a y hy => bs_mk hl hy
  have hs1 := hs.s.2
  unfold eachL
  by_cases h4 : x.f0 = 4
  · rw [if_pos h4]
    exact All.ask (by omega) ((e1 (by omega)).mk hs1) noS_le (fun y hy => loads_mk hl hy)
  rw [if_neg h4]
  by_cases h5 : x.f0 = 5
  · rw [if_pos h5]
    exact All.ask (by omega) ((e1 (by omega)).mk hs1) noS_le (fun y hy => loads_mk hl hy)
  rw [if_neg h5]
  by_cases h6 : x.f0 = 6
  · rw [if_pos h6]
    exact All.ask (by omega) hc h7 (hb _)
  rw [if_neg h6]
  by_cases h7' : x.f0 = 7
  · rw [if_pos h7']
    exact All.ask (by omega) hc noS_le (hb _)
  rw [if_neg h7']
  by_cases h8' : x.f0 = 8
  · rw [if_pos h8']
    refine call_all hs hl (clOk_rule hs hl h8 (e2 (.inl h8')) ?_ ?_) hc
    · split
      · exact hb _
      · intro y hy; cases hy
    · split
      · exact bsl100 hl _ _
      · simp
  rw [if_neg h8']
  by_cases h9 : x.f0 = 9
  · rw [if_pos h9]
    obtain ⟨m1, m2, m3⟩ := e2 (.inr h9)
    split
    · exact All.app (All.ask (by omega) (m2.mk hs1) noS_le (fun y => one_mk m1)) (All.app (All.ask (by omega) m1 noS_le (fun y => one_mk ⟨by omega, by omega⟩)) (All.app (All.ask (by omega) m1 noS_le (fun y hy => loads_mk hl hy)) (call_all hs hl (clOk_rule hs hl h8 ⟨m1, m2, m3⟩ (fun y => one_mk m1) (by simp)) hc)))
    · exact All.nil
  rw [if_neg h9]
  exact All.nil
theorem loads100 (hl : FactsOk s0 fs.length l) (p : ByteArray → Bool) (m : Int) : (loadsL l p m).length ≤ 100 := Nat.le_trans (loadsL_le l p m) hl.len
theorem each_len (hs : SysOk s0 fs rs) (hl : FactsOk s0 fs.length l) {x : RuT} (hx : x ∈ rs) (c : Int) : (eachL (roC s0 fs rs l) x c).length ≤ 500000 := by
  obtain ⟨hf, h8, h7⟩ := hs.r x hx
  obtain ⟨e1, e2⟩ := each_cases (fitsB_ok hf)
  have hs1 := hs.s.2
  unfold eachL
  by_cases h4 : x.f0 = 4
  · rw [if_pos h4, askL_len]
    have := loads100 hl (fun k => decide (k = x.f7)) c
    simp only [roC]; omega
  rw [if_neg h4]
  by_cases h5 : x.f0 = 5
  · rw [if_pos h5, askL_len]
    have := loads100 hl (fun _ => true) c
    simp only [roC]; omega
  rw [if_neg h5]
  by_cases h6 : x.f0 = 6
  · rw [if_pos h6, askL_len]
    have := bsl100 hl 9 x.f3
    simp only [roC]; omega
  rw [if_neg h6]
  by_cases h7' : x.f0 = 7
  · rw [if_pos h7', askL_len]
    have := bsl100 hl 9 x.f3
    simp only [roC]; omega
  rw [if_neg h7']
  by_cases h8' : x.f0 = 8
  · rw [if_pos h8']
    refine Nat.le_trans (call_len hs hl (clOk_rule hs hl h8 (e2 (.inl h8')) ?_ ?_) c) (by omega)
    · split
      · exact fun y hy => bs_mk hl hy
      · intro y hy; cases hy
    · split
      · exact bsl100 hl _ _
      · simp
  rw [if_neg h8']
  by_cases h9 : x.f0 = 9
  · rw [if_pos h9]
    obtain ⟨m1, m2, m3⟩ := e2 (.inr h9)
    split
    · have h1 := call_len hs hl (clOk_rule hs hl h8 ⟨m1, m2, m3⟩ (th := [x.f6]) (fun y => one_mk m1) (by simp)) c
      have h2 := loads100 hl (fun k => decide (k = protoS)) c
      simp only [List.length_append, askL_len, List.length_singleton]
      simp only [roC] at h1 h2 ⊢
      omega
    · simp
  rw [if_neg h9]
  simp
theorem mark_ok (hs : SysOk s0 fs rs) {x : RuT} (hx : x ∈ rs) (h2 : x.f0 = 2) : 0 ≤ x.f5 ∧ x.f5 < fs.length ∧ 0 ≤ markOf (roC s0 fs rs l) x ∧ markOf (roC s0 fs rs l) x ≤ 1000000 := by
  have hk := (fitsB_ok (hs.r x hx).1).k
  unfold kindB at hk
  rw [if_neg (by omega), if_pos h2] at hk
  split at hk
  · have h3 := of_decide_eq_true hk
    have h4 := hs.fm x.f5.toNat (by omega) (by omega)
    rw [show ((x.f5.toNat : Nat) : Int) = x.f5 by omega] at h4
    refine ⟨by omega, h3, ?_, ?_⟩ <;> unfold markOf <;> simp only [roC] <;> omega
  · cases hk
theorem rule_all (hs : SysOk s0 fs rs) (hl : FactsOk s0 fs.length l) {x : RuT} (hx : x ∈ rs) : All (ruleL (roC s0 fs rs l) x) := by
  have hs1 := hs.s.2
  obtain ⟨hf, h8, h7⟩ := hs.r x hx
  have hro := fitsB_ok hf
  have hk := hro.k
  unfold ruleL
  refine All.app ?_ (All.rg (fun i hi => each_all hs hl hx (bs_mk hl (rd_mem _ i hi))))
  unfold headL
  by_cases h1 : x.f0 = 1
  · rw [if_pos h1]
    unfold kindB at hk
    rw [if_pos h1] at hk
    have hm := isM_mk hk
    exact All.app (All.ask (by omega) (hro.x2.mk hs1) noS_le (fun y => one_mk hm)) (All.ask (by omega) hm noS_le (fun y => one_mk ⟨by omega, by omega⟩))
  rw [if_neg h1]
  by_cases h2 : x.f0 = 2
  · rw [if_pos h2]
    obtain ⟨_, _, m0, m1⟩ := mark_ok (l := l) hs hx h2
    have hm : Mk (markOf (roC s0 fs rs l) x) := ⟨m0, by omega⟩
    have hm1 : Mk (markOf (roC s0 fs rs l) x + 1) := ⟨by omega, by omega⟩
    exact All.app (All.ask (by omega) (hro.x2.mk hs1) noS_le (fun y => one_mk hm)) (All.app (All.ask (by omega) hm protoS_le (fun y => one_mk hm1)) (All.app (All.ask (by omega) hm noS_le (fun y => one_mk ⟨by omega, by omega⟩)) (All.ask (by omega) hm1 noS_le (fun y => one_mk ⟨by omega, by omega⟩))))
  rw [if_neg h2]
  by_cases h3 : x.f0 = 3
  · rw [if_pos h3]
    exact All.ask (by omega) (((each_cases hro).1 (by omega)).mk hs1) noS_le (fun y hy => bs_mk hl hy)
  rw [if_neg h3]
  exact All.nil
theorem rule_len (hs : SysOk s0 fs rs) (hl : FactsOk s0 fs.length l) {x : RuT} (hx : x ∈ rs) : (ruleL (roC s0 fs rs l) x).length ≤ 60000000 := by
  have h1 : (rg (bsL l 9 x.f2).length (fun i => eachL (roC s0 fs rs l) x (rd (bsL l 9 x.f2) (i : Int)))).length ≤ (bsL l 9 x.f2).length * 500000 := rg_len (fun i hi => each_len hs hl hx _)
  have h2 := bsl100 hl 9 x.f2
  have h3 : (headL (roC s0 fs rs l) x).length ≤ 200 := by
    unfold headL
    split
    · simp [askL_len]
    · split
      · simp [askL_len]
      · split
        · rw [askL_len]; simp only [roC]; omega
        · simp
  unfold ruleL
  rw [List.length_append]
  have h4 : (rg (bsL (roC s0 fs rs l).l 9 x.f2).length (fun i => eachL (roC s0 fs rs l) x (rd (bsL (roC s0 fs rs l).l 9 x.f2) (i : Int)))).length ≤ (bsL l 9 x.f2).length * 500000 := h1
  omega
theorem built_all (hs : SysOk s0 fs rs) (hl : FactsOk s0 fs.length l) {f : Fa} (hf : f ∈ l) : All (builtL (roC s0 fs rs l) f) := by
  have h0 := hl.ok f hf
  have hb : ∀ a, ∀ y ∈ bsL l 9 a, Mk y := fun a y hy => bs_mk hl hy
  have hs1 := hs.s
  have hap : ∀ t ea, Mk (t + 2) → Mk (t + 3) → All (apL (roC s0 fs rs l) t ea f.f1) := fun t ea h2 h3 => by
    unfold apL
    exact All.rg (fun i hi => call_all (N := 100) hs hl ⟨h0.a, hb _, h2, h3, bsl100 hl _ _, by simp⟩ (hb _ _ (rd_mem _ i hi)))
  unfold builtL
  split
  · exact hap _ _ ⟨by simp only [roC]; omega, by simp only [roC]; omega⟩ ⟨by simp only [roC]; omega, by simp only [roC]; omega⟩
  · split
    · refine All.app ?_ (hap _ _ ⟨by simp only [roC]; omega, by simp only [roC]; omega⟩ ⟨by simp only [roC]; omega, by simp only [roC]; omega⟩)
      unfold spreadL
      exact All.rg (fun i hi => All.app (All.ask (by omega) ⟨by simp only [roC]; omega, by simp only [roC]; omega⟩ noS_le (fun y hy => loads_mk hl hy)) All.nil)
    · exact All.nil
theorem built_len (hs : SysOk s0 fs rs) (hl : FactsOk s0 fs.length l) {f : Fa} (hf : f ∈ l) : (builtL (roC s0 fs rs l) f).length ≤ 60000000 := by
  have h0 := hl.ok f hf
  have hb : ∀ a, ∀ y ∈ bsL l 9 a, Mk y := fun a y hy => bs_mk hl hy
  have hs1 := hs.s
  have hap : ∀ t ea, Mk (t + 2) → Mk (t + 3) → (apL (roC s0 fs rs l) t ea f.f1).length ≤ 40000000 := fun t ea h2 h3 => by
    have h1 : (apL (roC s0 fs rs l) t ea f.f1).length ≤ (bsL l 9 t).length * 400000 := rg_len (fun i hi => call_len hs hl ⟨h0.a, hb _, h2, h3, bsl100 hl _ _, by simp⟩ _)
    have h2 := bsl100 hl 9 t
    omega
  unfold builtL
  split
  · refine Nat.le_trans (hap _ _ ⟨by simp only [roC]; omega, by simp only [roC]; omega⟩ ⟨by simp only [roC]; omega, by simp only [roC]; omega⟩) (by omega)
  · split
    · have h1 := hap (s0 - 9 + 4) (s0 - 9 + 8) ⟨by omega, by omega⟩ ⟨by omega, by omega⟩
      have h2 : (spreadL (roC s0 fs rs l) (s0 - 9 + 4) (s0 - 9 + 8)).length ≤ (bsL l 9 (s0 - 9 + 4 + 1)).length * 100 := rg_len (fun i hi => by
        rw [List.append_nil, askL_len]
        exact loads100 hl _ _)
      have h3 := bsl100 hl 9 (s0 - 9 + 4 + 1)
      rw [List.length_append]
      simp only [roC] at h1 h2 ⊢
      omega
    · simp
theorem round_all (hs : SysOk s0 fs rs) (hl : FactsOk s0 fs.length l) : All (roundL (roC s0 fs rs l)) := by
  have c1 : callS.size ≤ maxLen := by decide
  have c2 : applyS.size ≤ maxLen := by decide
  have hk : ∀ z : Int, 0 ≤ z → z ≤ 3 → Mk z := fun z h0 h1 => ⟨h0, by omega⟩
  unfold roundL
  refine All.app (All.rg (fun i hi => ?_)) (All.app (All.ask (by omega) (hk _ (by omega) (by omega)) noS_le (fun y => one_mk (hk _ (by omega) (by omega)))) (All.app (All.ask (by omega) (hk _ (by omega) (by omega)) c1 (fun y => one_mk (hk _ (by omega) (by omega)))) (All.app (All.ask (by omega) (hk _ (by omega) (by omega)) c2 (fun y => one_mk (hk _ (by omega) (by omega)))) (All.app (All.ask (by omega) (hk _ (by omega) (by omega)) noS_le (fun y => one_mk (hk _ (by omega) (by omega)))) (All.app (All.ask (by omega) (hk _ (by omega) (by omega)) noS_le (fun y => one_mk (hk _ (by omega) (by omega)))) (All.app (All.ask (by omega) (hk _ (by omega) (by omega)) noS_le (fun y => one_mk (hk _ (by omega) (by omega)))) (All.rg (fun i hi => ?_))))))))
  · have hm : rd_T41 l (i : Int) ∈ l := rdA_mem hi
    unfold oldL
    refine All.app (fun f hf => ?_) (built_all hs hl hm)
    rw [List.mem_singleton.1 hf]
    exact (hl.ok _ hm).inR (hl.sz _ hm)
  · unfold newL
    split
    · exact rule_all hs hl (rdR_mem hi)
    · exact All.nil
theorem round_len (hs : SysOk s0 fs rs) (hl : FactsOk s0 fs.length l) : (roundL (roC s0 fs rs l)).length ≤ 10000000000 := by
  have h1 : (rg l.length (oldL (roC s0 fs rs l))).length ≤ l.length * 60000001 := rg_len (fun i hi => by
    have h := built_len hs hl (rdA_mem hi)
    unfold oldL
    rw [List.length_append, List.length_singleton]
    simp only [roC] at h ⊢
    omega)
  have h2 : (rg rs.length (newL (roC s0 fs rs l))).length ≤ rs.length * 60000000 := rg_len (fun i hi => by
    unfold newL
    split
    · exact rule_len hs hl (rdR_mem hi)
    · simp)
  have h3 := hs.rn
  have h4 := hl.len
  unfold roundL
  simp only [List.length_append, askL_len, List.length_singleton]
  simp only [roC] at h1 h2 ⊢
  omega
theorem round_ok (hs : SysOk s0 fs rs) (hl : FactsOk s0 fs.length l) : RoundOk (roC s0 fs rs l) :=
  ⟨⟨fun f hf => (round_all hs hl f hf).wf, by have := round_len hs hl; omega⟩, hl.srt, Nat.le_trans hl.len (by decide), ⟨hs.fn.1, Nat.le_trans hs.fn.2 (by decide)⟩, ⟨by have := hs.s; simp only [roC]; omega, by have := hs.s; simp only [roC]; omega⟩, fun x hx h2 => mark_ok hs hx h2⟩
theorem round_tells (hs : SysOk s0 fs rs) (hl : FactsOk s0 fs.length l) : least_round.f s0 fs rs l = some (factSet (roundL (roC s0 fs rs l))) := by
  unfold least_round.f
  rw [if_pos (round_ok hs hl)]
end
end Go.Proofs.Ytngppcmdaanheaa.Lv

/- What least's printed functions compute, in closed form. No condition. -/
namespace Go.Proofs.Ytngppcmdaanheaa.Lv
open Go.RowKit Go.Proofs.Ytngppcmdaanheaa.ISet Go.Proofs.Ytngppcmdaanheaa.Pr Go.Proofs.Ytngppcmdaanheaa.Ls Go.Proofs.Ytngppcmdaanheaa.Ev Go.Proofs.YtngppcmdaanheaaW.PrintWords Go.Proofs.YtngppcmdaanheaaW.PrintMore
set_option linter.unusedVariables false
set_option linter.unusedSimpArgs false
def FitP (s0 : Int) (nf : Nat) (f : Fa) : Prop := (0 ≤ f.f1 ∧ f.f1 ≤ 1000001 ∧ 0 ≤ f.f3 ∧ f.f3 ≤ 1000001) ∧ (f.f0 = 3 ∨ f.f2.toList = []) ∧ (f.f0 = 3 ∨ f.f0 = 4 ∨ f.f0 = 5 ∨ f.f0 = 8 ∨ (f.f0 = 6 ∧ f.f1 < (nf : Int) ∧ f.f3 = 0) ∨ (f.f0 = 9 ∧ f.f1 < s0))
instance decFit (s0 : Int) (nf : Nat) (f : Fa) : Decidable (FitP s0 nf f) := by unfold FitP; infer_instance
theorem noS_list : (⟨#[]⟩ : ByteArray).toList = [] := by rw [ByteArray.toList_eq]
theorem fitP_ok {s0 : Int} {nf : Nat} {f : Fa} : FitP s0 nf f ↔ FactOk s0 nf f := by
  constructor
  · rintro ⟨⟨a1, a2, a3, a4⟩, h2, h3⟩
    refine ⟨⟨a1, a2⟩, ⟨a3, a4⟩, ?_, fun hne => bytes_ext ((h2.resolve_left hne).trans noS_list.symm)⟩
    rcases h3 with e | e | e | e | e | e
    · exact .inl e
    · exact .inr (.inl e)
    · exact .inr (.inr (.inl e))
    · exact .inr (.inr (.inr (.inr (.inl e))))
    · exact .inr (.inr (.inr (.inl e)))
    · exact .inr (.inr (.inr (.inr (.inr e))))
  · rintro ⟨⟨a1, a2⟩, ⟨a3, a4⟩, h3, h2⟩
    refine ⟨⟨a1, a2, a3, a4⟩, ?_, ?_⟩
    · by_cases e : f.f0 = 3
      · exact .inl e
      · exact .inr (by rw [h2 e]; exact noS_list)
    · rcases h3 with e | e | e | e | e | e
      · exact .inl e
      · exact .inr (.inl e)
      · exact .inr (.inr (.inl e))
      · exact .inr (.inr (.inr (.inr (.inl e))))
      · exact .inr (.inr (.inr (.inl e)))
      · exact .inr (.inr (.inr (.inr (.inr e))))
theorem fit_j (s0 : Int) (fs : List FunT) (rs : List RuT) (f : Fa) (hA : 0 ≤ f.f1 ∧ f.f1 ≤ 1000001 ∧ 0 ≤ f.f3 ∧ f.f3 ≤ 1000001) (hB : f.f0 = 3 ∨ f.f2.toList = []) (k : Nat) :
    least_fits.j0 (k + 2) false s0 fs rs f.f0 f.f1 f.f2 f.f3 = some (decide (FitP s0 fs.length f)) := by
  have hj : ∀ b, least_fits.j1 (k + 1) f.f0 b s0 fs rs f.f0 f.f1 f.f2 f.f3 = if b = true then some true else (if f.f0 = 6 then (if f.f1 < (fs.length : Int) then (some (f.f3 == 0)) else (some false)) else (if f.f0 = 9 then (some (decide (f.f1 < s0))) else (some false))) := fun b => by rw [least_fits.j1]
  rw [least_fits.j0, if_neg (by decide), hj, hj, hj, hj]
  by_cases h3 : f.f0 = 3
  · rw [if_pos h3, if_pos (by simp [h3]), decide_eq_true (show FitP s0 fs.length f from ⟨hA, hB, .inl h3⟩)]
  rw [if_neg h3]
  by_cases h4 : f.f0 = 4
  · rw [if_pos h4, if_pos (by simp [h4]), decide_eq_true (show FitP s0 fs.length f from ⟨hA, hB, .inr (.inl h4)⟩)]
  rw [if_neg h4]
  by_cases h5 : f.f0 = 5
  · rw [if_pos h5, if_pos (by simp [h5]), decide_eq_true (show FitP s0 fs.length f from ⟨hA, hB, .inr (.inr (.inl h5))⟩)]
  rw [if_neg h5]
  by_cases h8 : f.f0 = 8
  · rw [if_pos (by simp [h8]), decide_eq_true (show FitP s0 fs.length f from ⟨hA, hB, .inr (.inr (.inr (.inl h8)))⟩)]
  rw [if_neg (by simpa using h8)]
  by_cases h6 : f.f0 = 6
  · rw [if_pos h6]
    by_cases h1 : f.f1 < (fs.length : Int)
    · rw [if_pos h1]
      by_cases hz : f.f3 = 0
      · rw [decide_eq_true (show FitP s0 fs.length f from ⟨hA, hB, .inr (.inr (.inr (.inr (.inl ⟨h6, h1, hz⟩))))⟩)]
        simp [hz]
      · rw [decide_eq_false (show ¬ FitP s0 fs.length f from fun h => by rcases h.2.2 with e | e | e | e | e | e <;> omega)]
        simp [hz]
    · rw [if_neg h1, decide_eq_false (show ¬ FitP s0 fs.length f from fun h => by rcases h.2.2 with e | e | e | e | e | e <;> omega)]
  rw [if_neg h6]
  by_cases h9 : f.f0 = 9
  · rw [if_pos h9]
    congr 1
    refine decide_eq_decide.2 ⟨fun h => ⟨hA, hB, .inr (.inr (.inr (.inr (.inr ⟨h9, h⟩))))⟩, fun h => ?_⟩
    rcases h.2.2 with e | e | e | e | e | e <;> omega
  · rw [if_neg h9, decide_eq_false (show ¬ FitP s0 fs.length f from fun h => by rcases h.2.2 with e | e | e | e | e | e <;> omega)]
theorem fit_no (s0 : Int) (fs : List FunT) (rs : List RuT) (f : Fa) (h : ¬ FitP s0 fs.length f) (k : Nat) : least_fits.j0 (k + 1) true s0 fs rs f.f0 f.f1 f.f2 f.f3 = some (decide (FitP s0 fs.length f)) := by
  rw [least_fits.j0, if_pos rfl, decide_eq_false h]
theorem fit_tells (s0 : Int) (fs : List FunT) (rs : List RuT) (f : Fa) (k : Nat) : least_fits.f (k + 2) s0 fs rs f.f0 f.f1 f.f2 f.f3 = some (decide (FitP s0 fs.length f)) := by
  unfold least_fits.f
  by_cases h1 : mn f.f1 f.f3 < 0
  · rw [if_pos h1]
    exact fit_no s0 fs rs f (fun h => by have := h.1; unfold mn at h1; split at h1 <;> omega) _
  rw [if_neg h1]
  by_cases h2 : mx f.f1 f.f3 > 1000001
  · rw [if_pos h2]
    exact fit_no s0 fs rs f (fun h => by have := h.1; unfold mx at h2; split at h2 <;> omega) _
  rw [if_neg h2]
  have hA : 0 ≤ f.f1 ∧ f.f1 ≤ 1000001 ∧ 0 ≤ f.f3 ∧ f.f3 ≤ 1000001 := by
    unfold mn at h1
    unfold mx at h2
    split at h1 <;> split at h2 <;> omega
  by_cases h3 : f.f0 = 3
  · rw [if_pos h3]
    exact fit_j s0 fs rs f hA (.inl h3) k
  rw [if_neg h3]
  by_cases he : f.f2.toList = []
  · rw [show (f.f2.toList != ([] : List UInt8)) = false by simp [he]]
    exact fit_j s0 fs rs f hA (.inr he) k
  · rw [show (f.f2.toList != ([] : List UInt8)) = true by simp [he]]
    exact fit_no s0 fs rs f (fun h => h.2.1.elim h3 he) _
theorem Ev.up {α : Type} {g : Nat → Option α} (hm : ∀ k, LeO (g k) (g (k + 1))) {n : Nat} {r : α} (h : g n = some r) : Ev fun k => g k = some r := by
  refine ⟨n, fun k hk => ?_⟩
  obtain ⟨d, rfl⟩ : ∃ d, k = n + d := ⟨k - n, by omega⟩
  induction d with
  | zero => exact h
  | succ d ih => exact hm (n + d) r (ih (by omega))
theorem compare_f (a b : Int) : Pr.cmp_Compare_int.f a b = some (cm a b) := by
  unfold Pr.cmp_Compare_int.f Pr.cmp_isNaN_int.f cm
  simp only [bne_self_eq_false, Option.bind_some, Bool.false_eq_true, if_false]
  by_cases h1 : a < b
  · rw [if_pos h1, if_pos h1]
  · rw [if_neg h1, if_neg h1]
    by_cases h2 : a > b
    · rw [if_pos h2, if_pos h2]
    · rw [if_neg h2, if_neg h2]
theorem or_f (a b c d : Int) : Pr.cmp_Or_int.f 9 [a, b, c, d] = some (if a ≠ 0 then a else if b ≠ 0 then b else if c ≠ 0 then c else d) := by
  have e0 : Go.Proofs.YtngppcmdaanheaaW.PrintWords.rd [a, b, c, d] 0 = a := rfl
  have e1 : Go.Proofs.YtngppcmdaanheaaW.PrintWords.rd [a, b, c, d] 1 = b := rfl
  have e2 : Go.Proofs.YtngppcmdaanheaaW.PrintWords.rd [a, b, c, d] 2 = c := rfl
  have e3 : Go.Proofs.YtngppcmdaanheaaW.PrintWords.rd [a, b, c, d] 3 = d := rfl
  by_cases ha : a = 0 <;> by_cases hb : b = 0 <;> by_cases hc : c = 0 <;> by_cases hd : d = 0 <;> simp [Pr.cmp_Or_int.f, Pr.cmp_Or_int.l0, e0, e1, e2, e3, ha, hb, hc, hd, wrap64] <;> simp_all
theorem order_f (x y : Fa) : Ev fun k => Pr.least_order.f k x.f0 x.f1 x.f2 x.f3 y.f0 y.f1 y.f2 y.f3 = some (cmpF x y) := by
  refine Ev.up (n := 9) (fun k => Pr.least_order.mono _ _ _ _ _ _ _ _ k) ?_
  have hs : Va.cmp_Compare_string.f x.f2 y.f2 = some (cmS x.f2 y.f2) := rfl
  unfold Pr.least_order.f cmpF
  simp only [compare_f, Option.bind_some, or_f, hs]
theorem cmpF_ge (x y : Fa) : decide (cmpF x y ≥ 0) = decide (¬ LF x y) := by
  refine decide_eq_decide.2 ?_
  have h := lf_iff x y
  unfold ltOf at h
  rw [decide_eq_true_iff] at h
  rw [← h]
  omega
def AreAt (s0 : Int) (nf : Nat) (l : List Fa) (j : Nat) : Prop := FitP s0 nf (rd_T41 l (j : Int)) ∧ (0 < j → LF (rd_T41 l ((j - 1 : Nat) : Int)) (rd_T41 l (j : Int)))
instance decAre (s0 : Int) (nf : Nat) (l : List Fa) (j : Nat) : Decidable (AreAt s0 nf l j) := by unfold AreAt; infer_instance
def areB (s0 : Int) (nf : Nat) (l : List Fa) : Bool := (List.range l.length).all (fun j => decide (AreAt s0 nf l j))
theorem range_drop (n i : Nat) (h : i < n) : (List.range n).drop i = i :: (List.range n).drop (i + 1) := by
  rw [List.drop_eq_getElem_cons (by simpa using h), List.getElem_range]
theorem are_loop (s0 : Int) (fs : List FunT) (rs : List RuT) (l : List Fa) (hm : l.length ≤ 1000000) (d : Nat) : ∀ i, i + d = l.length →
    Ev fun k => least_areRight.l0 k l l (l.length : Int) (i : Int) s0 fs rs = some (((List.range l.length).drop i).all (fun j => decide (AreAt s0 fs.length l j))) := by
  induction d with
  | zero =>
    intro i h
    refine Ev.step fun k => ?_
    rw [least_areRight.l0, if_neg (by omega), drop_len _ i (by simp; omega)]
    rfl
  | succ d ih =>
    intro i h
    have hi : i < l.length := by omega
    rw [range_drop l.length i hi, List.all_cons]
    have hih := ih (i + 1) (by omega)
    have hf : Ev fun k => least_fits.f k s0 fs rs (rd_T41 l (i : Int)).f0 (rd_T41 l (i : Int)).f1 (rd_T41 l (i : Int)).f2 (rd_T41 l (i : Int)).f3 = some (decide (FitP s0 fs.length (rd_T41 l (i : Int)))) := ⟨2, fun k hk => by
      obtain ⟨k, rfl⟩ : ∃ j, k = j + 2 := ⟨k - 2, by omega⟩
      exact fit_tells s0 fs rs _ k⟩
    have hyes : Ev fun k => least_areRight.j1 k l l (l.length : Int) (i : Int) true s0 fs rs = some false := Ev.step fun k => by rw [least_areRight.j1, if_pos rfl]
    have hno : Ev fun k => least_areRight.j1 k l l (l.length : Int) (i : Int) false s0 fs rs = some (((List.range l.length).drop (i + 1)).all (fun j => decide (AreAt s0 fs.length l j))) := hih.succ fun k hk => by
      rw [least_areRight.j1, if_neg (by decide), wrap_nat i (by omega)]
      exact hk
    by_cases hfit : FitP s0 fs.length (rd_T41 l (i : Int))
    · rw [decide_eq_true hfit] at hf
      by_cases h0 : i = 0
      · have ha : AreAt s0 fs.length l i := ⟨hfit, fun h => by omega⟩
        refine (hf.and hno).succ fun k hk => ?_
        rw [least_areRight.l0, if_pos (by omega), if_pos (by omega), if_pos (by omega), hk.1, Option.bind_some, if_pos rfl, if_neg (by omega), hk.2, decide_eq_true ha, Bool.true_and]
      · have hw : wrap64 ((i : Int) - 1) = ((i - 1 : Nat) : Int) := by unfold wrap64; omega
        have ho := order_f (rd_T41 l ((i - 1 : Nat) : Int)) (rd_T41 l (i : Int))
        by_cases hlf : LF (rd_T41 l ((i - 1 : Nat) : Int)) (rd_T41 l (i : Int))
        · have ha : AreAt s0 fs.length l i := ⟨hfit, fun _ => hlf⟩
          refine ((hf.and ho).and hno).succ fun k hk => ?_
          rw [least_areRight.l0, if_pos (by omega), if_pos (by omega), if_pos (by omega), hk.1.1, Option.bind_some, if_pos rfl, if_pos (by omega), hw, if_pos (by omega), if_pos (by omega), hk.1.2, Option.bind_some, cmpF_ge, decide_eq_false (by simpa using hlf), hk.2, decide_eq_true ha, Bool.true_and]
        · have ha : ¬ AreAt s0 fs.length l i := fun h => hlf (h.2 (by omega))
          refine ((hf.and ho).and hyes).succ fun k hk => ?_
          rw [least_areRight.l0, if_pos (by omega), if_pos (by omega), if_pos (by omega), hk.1.1, Option.bind_some, if_pos rfl, if_pos (by omega), hw, if_pos (by omega), if_pos (by omega), hk.1.2, Option.bind_some, cmpF_ge, decide_eq_true hlf, hk.2, decide_eq_false ha, Bool.false_and]
    · rw [decide_eq_false hfit] at hf
      have ha : ¬ AreAt s0 fs.length l i := fun h => hfit h.1
      refine (hf.and hyes).succ fun k hk => ?_
      rw [least_areRight.l0, if_pos (by omega), if_pos (by omega), if_pos (by omega), hk.1, Option.bind_some, if_neg (by decide), hk.2, decide_eq_false ha, Bool.false_and]
theorem are_tells (s0 : Int) (fs : List FunT) (rs : List RuT) (l : List Fa) (hm : l.length ≤ 1000000) : Ev fun k => least_areRight.f k s0 fs rs l = some (areB s0 fs.length l) :=
  (are_loop s0 fs rs l hm l.length 0 (by omega)).mono fun k hk => hk
theorem rdK_get {l : List Fa} {i : Nat} (h : i < l.length) : rd_T41 l (i : Int) = l[i] := by
  unfold rd_T41
  rw [Int.toNat_natCast, List.getD_eq_getElem?_getD, List.getElem?_eq_getElem h]
  rfl
theorem pw_of_next {l : List Fa} (h : ∀ j, 0 < j → ∀ hj : j < l.length, LF (l[j - 1]'(by omega)) l[j]) : l.Pairwise LF := by
  rw [List.pairwise_iff_getElem]
  intro i j hi hj hij
  induction j with
  | zero => omega
  | succ j ih =>
    have h1 := h (j + 1) (by omega) hj
    rcases Nat.lt_or_eq_of_le (Nat.le_of_lt_succ hij) with h2 | h2
    · exact LF.trans (ih (by omega) h2) h1
    · subst h2
      exact h1
theorem areB_ok {s0 : Int} {nf : Nat} {l : List Fa} : areB s0 nf l = true ↔ (∀ f ∈ l, FactOk s0 nf f) ∧ l.Pairwise LF := by
  unfold areB
  rw [List.all_eq_true]
  constructor
  · intro h
    have h' : ∀ j, j < l.length → AreAt s0 nf l j := fun j hj => of_decide_eq_true (h j (List.mem_range.2 hj))
    refine ⟨fun f hf => ?_, pw_of_next (fun j h0 hj => ?_)⟩
    · obtain ⟨i, hi, rfl⟩ := List.getElem_of_mem hf
      have h1 := (h' i hi).1
      rw [rdK_get hi] at h1
      exact fitP_ok.1 h1
    · have h1 := (h' j hj).2 h0
      rw [rdK_get hj, rdK_get (by omega : j - 1 < l.length)] at h1
      exact h1
  · rintro ⟨h1, h2⟩ j hj
    have hj' := List.mem_range.1 hj
    refine decide_eq_true ⟨?_, fun h0 => ?_⟩
    · rw [rdK_get hj']
      exact fitP_ok.2 (h1 _ (List.getElem_mem _))
    · rw [rdK_get hj', rdK_get (by omega : j - 1 < l.length)]
      exact List.pairwise_iff_getElem.1 h2 _ _ _ _ (by omega)
end Go.Proofs.Ytngppcmdaanheaa.Lv

/- least's printed functions on small systems. No condition. -/
namespace Go.Proofs.Ytngppcmdaanheaa.Lv
open Go.RowKit Go.Proofs.Ytngppcmdaanheaa.ISet Go.Proofs.Ytngppcmdaanheaa.Pr Go.Proofs.Ytngppcmdaanheaa.Ls Go.Proofs.Ytngppcmdaanheaa.Ev Go.Proofs.YtngppcmdaanheaaW.PrintWords Go.Proofs.YtngppcmdaanheaaW.PrintMore
set_option linter.unusedVariables false
set_option linter.unusedSimpArgs false
def SmallP (s0 : Int) (fs : List FunT) (rs : List RuT) : Prop := fs.length ≤ 15 ∧ rs.length ≤ 40 ∧ s0 ≤ 300 ∧ (∀ f ∈ fs, f.f1.length ≤ 205) ∧ ∀ x ∈ rs, x.f8.length ≤ 205 ∧ x.f7.size ≤ 100
theorem all_get {α : Type} {l : List α} {P : α → Prop} (h : ∀ j, ∀ hj : j < l.length, P l[j]) : ∀ x ∈ l, P x := fun x hx => by
  obtain ⟨i, hi, rfl⟩ := List.getElem_of_mem hx
  exact h i hi
theorem rdF_get {l : List FunT} {i : Nat} (h : i < l.length) : rd_T44 l (i : Int) = l[i] := by
  unfold rd_T44
  rw [Int.toNat_natCast, List.getD_eq_getElem?_getD, List.getElem?_eq_getElem h]
  rfl
theorem rdR_get {l : List RuT} {i : Nat} (h : i < l.length) : rd_T46 l (i : Int) = l[i] := by
  unfold rd_T46
  rw [Int.toNat_natCast, List.getD_eq_getElem?_getD, List.getElem?_eq_getElem h]
  rfl
section
variable (s0 : Int) (fs : List FunT) (rs : List RuT)
theorem small_rules (hr : rs.length ≤ 40) (d : Nat) : ∀ i, i + d = rs.length → (Ev fun k => gumshoelaw13_Small.l1 k (i : Int) s0 fs rs = some 0) ∨ ((∀ j, i ≤ j → ∀ hj : j < rs.length, rs[j].f8.length ≤ 205 ∧ rs[j].f7.size ≤ 100) ∧ Ev fun k => gumshoelaw13_Small.l1 k (i : Int) s0 fs rs = some 1) := by
  induction d with
  | zero =>
    intro i h
    refine .inr ⟨fun j h1 hj => by omega, Ev.step fun k => ?_⟩
    rw [gumshoelaw13_Small.l1, if_neg (by omega)]
  | succ d ih =>
    intro i h
    have hi : i < rs.length := by omega
    have hget := rdR_get hi
    have hstep : ∀ (b : Bool) (r : Int), (Ev fun k => gumshoelaw13_Small.j3 k (i : Int) b s0 fs rs = some r) → ((rd_T46 rs (i : Int)).f8.length : Int) > 205 ∧ b = true ∨ ¬ ((rd_T46 rs (i : Int)).f8.length : Int) > 205 ∧ b = decide (((rd_T46 rs (i : Int)).f7.size : Int) > 100) →
        Ev fun k => gumshoelaw13_Small.l1 k (i : Int) s0 fs rs = some r := fun b r hk hb => hk.succ fun k hk => by
      rw [gumshoelaw13_Small.l1, if_pos (by omega), if_pos (by omega)]
      rcases hb with ⟨h1, h2⟩ | ⟨h1, h2⟩
      · rw [if_pos h1, ← h2]; exact hk
      · rw [if_neg h1, ← h2]; exact hk
    have hT : Ev fun k => gumshoelaw13_Small.j3 k (i : Int) true s0 fs rs = some 0 := Ev.step fun k => by rw [gumshoelaw13_Small.j3, if_pos rfl]
    by_cases h1 : ((rd_T46 rs (i : Int)).f8.length : Int) > 205
    · exact .inl (hstep true 0 hT (.inl ⟨h1, rfl⟩))
    by_cases h2 : ((rd_T46 rs (i : Int)).f7.size : Int) > 100
    · exact .inl (hstep true 0 hT (.inr ⟨h1, (decide_eq_true h2).symm⟩))
    have hF : ∀ r, (Ev fun k => gumshoelaw13_Small.l1 k ((i + 1 : Nat) : Int) s0 fs rs = some r) → Ev fun k => gumshoelaw13_Small.l1 k (i : Int) s0 fs rs = some r := fun r hk => hstep false r (hk.succ fun k hk => by
      rw [gumshoelaw13_Small.j3, if_neg (by decide), wrap_nat i (by omega)]
      exact hk) (.inr ⟨h1, (decide_eq_false h2).symm⟩)
    rcases ih (i + 1) (by omega) with hz | ⟨ha, ho⟩
    · exact .inl (hF 0 hz)
    · refine .inr ⟨fun j h3 hj => ?_, hF 1 ho⟩
      rcases Nat.lt_or_eq_of_le h3 with h4 | h4
      · exact ha j h4 hj
      · subst h4
        rw [hget] at h1 h2
        exact ⟨by omega, by omega⟩
theorem small_funs (hf : fs.length ≤ 15) (hr : rs.length ≤ 40) (d : Nat) : ∀ i, i + d = fs.length → (Ev fun k => gumshoelaw13_Small.l0 k (i : Int) s0 fs rs = some 0) ∨ (((∀ j, i ≤ j → ∀ hj : j < fs.length, fs[j].f1.length ≤ 205) ∧ ∀ x ∈ rs, x.f8.length ≤ 205 ∧ x.f7.size ≤ 100) ∧ Ev fun k => gumshoelaw13_Small.l0 k (i : Int) s0 fs rs = some 1) := by
  induction d with
  | zero =>
    intro i h
    have hs : ∀ r, (Ev fun k => gumshoelaw13_Small.l1 k ((0 : Nat) : Int) s0 fs rs = some r) → Ev fun k => gumshoelaw13_Small.l0 k (i : Int) s0 fs rs = some r := fun r hk => hk.succ fun k hk => by
      rw [gumshoelaw13_Small.l0, if_neg (by omega)]
      exact hk
    rcases small_rules s0 fs rs hr rs.length 0 (by omega) with hz | ⟨ha, ho⟩
    · exact .inl (hs 0 hz)
    · exact .inr ⟨⟨fun j h1 hj => by omega, all_get (fun j hj => ha j (by omega) hj)⟩, hs 1 ho⟩
  | succ d ih =>
    intro i h
    have hi : i < fs.length := by omega
    have hget := rdF_get hi
    by_cases h1 : ((rd_T44 fs (i : Int)).f1.length : Int) > 205
    · exact .inl (Ev.step fun k => by rw [gumshoelaw13_Small.l0, if_pos (by omega), if_pos (by omega), if_pos h1])
    have hs : ∀ r, (Ev fun k => gumshoelaw13_Small.l0 k ((i + 1 : Nat) : Int) s0 fs rs = some r) → Ev fun k => gumshoelaw13_Small.l0 k (i : Int) s0 fs rs = some r := fun r hk => hk.succ fun k hk => by
      rw [gumshoelaw13_Small.l0, if_pos (by omega), if_pos (by omega), if_neg h1, wrap_nat i (by omega)]
      exact hk
    rcases ih (i + 1) (by omega) with hz | ⟨⟨ha, hb⟩, ho⟩
    · exact .inl (hs 0 hz)
    · refine .inr ⟨⟨fun j h3 hj => ?_, hb⟩, hs 1 ho⟩
      rcases Nat.lt_or_eq_of_le h3 with h4 | h4
      · exact ha j h4 hj
      · subst h4
        rw [hget] at h1
        omega
theorem small_tells : (Ev fun k => gumshoelaw13_Small.f k s0 fs rs = some 0) ∨ (SmallP s0 fs rs ∧ Ev fun k => gumshoelaw13_Small.f k s0 fs rs = some 1) := by
  have hT : Ev fun k => gumshoelaw13_Small.j0 k true s0 fs rs = some 0 := Ev.step fun k => by rw [gumshoelaw13_Small.j0, if_pos rfl]
  by_cases h1 : (fs.length : Int) > 15
  · exact .inl (hT.mono fun k hk => by rw [gumshoelaw13_Small.f, if_pos h1]; exact hk)
  by_cases h2 : (rs.length : Int) > 40
  · exact .inl (hT.mono fun k hk => by rw [gumshoelaw13_Small.f, if_neg h1, if_pos h2]; exact hk)
  by_cases h3 : s0 > 300
  · exact .inl (hT.mono fun k hk => by rw [gumshoelaw13_Small.f, if_neg h1, if_neg h2, decide_eq_true h3]; exact hk)
  have hs : ∀ r, (Ev fun k => gumshoelaw13_Small.l0 k ((0 : Nat) : Int) s0 fs rs = some r) → Ev fun k => gumshoelaw13_Small.f k s0 fs rs = some r := fun r hk => (hk.succ (q := fun k => gumshoelaw13_Small.j0 k false s0 fs rs = some r) fun k hk => by
    rw [gumshoelaw13_Small.j0, if_neg (by decide)]
    exact hk).mono fun k hk => by rw [gumshoelaw13_Small.f, if_neg h1, if_neg h2, decide_eq_false h3]; exact hk
  rcases small_funs s0 fs rs (by omega) (by omega) fs.length 0 (by omega) with hz | ⟨⟨ha, hb⟩, ho⟩
  · exact .inl (hs 0 hz)
  · exact .inr ⟨⟨by omega, by omega, by omega, all_get (fun j hj => ha j (by omega) hj), hb⟩, hs 1 ho⟩
end
theorem few_tells (l : List Fa) : gumshoelaw14_few.f l = some (l.take 60) := by
  unfold gumshoelaw14_few.f
  have h1 : mn (l.length : Int) 60 = ((min l.length 60 : Nat) : Int) := by
    unfold mn
    split <;> omega
  rw [h1, if_pos (by omega), if_pos (by omega), Int.toNat_natCast]
  congr 1
  rcases Nat.le_total l.length 60 with h | h
  · rw [Nat.min_eq_left h, List.take_of_length_le (Nat.le_refl _), List.take_of_length_le h]
  · rw [Nat.min_eq_right h]
section
variable {s0 : Int} {fs : List FunT} {rs : List RuT} {l : List Fa}
theorem small_s (h : SmallP s0 fs rs) : SmallS s0 fs rs := ⟨fun f hf => Nat.le_trans (h.2.2.2.1 f hf) (by decide), fun x hx => Nat.le_trans (h.2.2.2.2 x hx).1 (by decide), Nat.le_trans h.2.1 (by decide)⟩
theorem right_f (h : SmallP s0 fs rs) : solve_Right.f s0 fs rs = some (rightB s0 fs rs) := by
  unfold solve_Right.f
  rw [if_pos (small_s h)]
theorem sys_of (h : SmallP s0 fs rs) (hr : rightB s0 fs rs = true) : SysOk s0 fs rs := by
  unfold rightB at hr
  simp only [Bool.and_eq_true, decide_eq_true_iff, Bool.not_eq_true'] at hr
  obtain ⟨⟨h1, h2, h3⟩, h4, h5⟩ := hr
  have hf : ∀ j, ∀ hj : j < fs.length, funB s0 j fs[j] = true := fun j hj => by
    unfold funsB at h4
    rw [List.all_eq_true] at h4
    have := h4 j (List.mem_range.2 hj)
    rwa [rdF_get hj] at this
  have hm : (100 : Nat) ≤ maxLen := by decide
  refine ⟨⟨h1, h2⟩, ⟨h3, h.1⟩, h.2.1, all_get (fun j hj => ?_), fun i h0 hi => ?_, fun x hx => ⟨?_, (h.2.2.2.2 x hx).1, Nat.le_trans (h.2.2.2.2 x hx).2 hm⟩⟩
  · have h6 := hf j hj
    unfold funB at h6
    simp only [Bool.and_eq_true, decide_eq_true_iff] at h6
    obtain ⟨a, b, c, _⟩ := h6
    have hc := setsB_iff.1 c
    exact ⟨by omega, setsB_iff.1 b, hc _ (by simp), hc _ (by simp), hc _ (by simp)⟩
  · have h6 := hf i hi
    unfold funB at h6
    simp only [Bool.and_eq_true, Bool.or_eq_true, decide_eq_true_iff] at h6
    rw [rdF_get hi]
    rcases h6.2.2.2 with h7 | h7
    · omega
    · exact h7
  · have h6 := List.any_eq_false.1 h5 x hx
    simpa using h6
theorem facts_of (ha : areB s0 fs.length l = true) (hl : l.length ≤ 100) (hz : ∀ f ∈ l, f.f2.size ≤ maxLen) : FactsOk s0 fs.length l := ⟨(areB_ok.1 ha).1, (areB_ok.1 ha).2, hl, hz⟩
theorem check_tells (h : SmallP s0 fs rs) (hl : l.length ≤ 100) : Ev fun k => least_check.f k s0 fs rs l = some (if rightB s0 fs rs = true then (if areB s0 fs.length l = true then 0 else 140) else 100) := by
  refine (are_tells s0 fs rs l (by omega)).mono fun k hk => ?_
  unfold least_check.f
  rw [right_f h, Option.bind_some]
  cases rightB s0 fs rs
  · rfl
  · rw [if_pos rfl, hk, Option.bind_some, if_pos rfl]
    cases areB s0 fs.length l <;> rfl
theorem Right_tells (h : SmallP s0 fs rs) (hl : l.length ≤ 100) : Ev fun k => least_Right.f k s0 fs rs l = some (rightB s0 fs rs && areB s0 fs.length l) := by
  refine (are_tells s0 fs rs l (by omega)).mono fun k hk => ?_
  unfold least_Right.f
  rw [right_f h, Option.bind_some]
  cases rightB s0 fs rs
  · rfl
  · rw [if_pos rfl, hk, Option.bind_some]
    rfl
theorem Round_tells (h : SmallP s0 fs rs) (hl : l.length ≤ 100) (hz : ∀ f ∈ l, f.f2.size ≤ maxLen) (hr : rightB s0 fs rs = true) (ha : areB s0 fs.length l = true) :
    Ev fun k => least_Round.f k s0 fs rs l = some (factSet (roundL (roC s0 fs rs l)), 0) := by
  refine (check_tells (l := l) h hl).mono fun k hk => ?_
  rw [if_pos hr, if_pos ha] at hk
  unfold least_Round.f
  rw [hk, Option.bind_some, if_pos rfl, round_tells (sys_of h hr) (facts_of ha hl hz), Option.bind_some]
theorem Round_no (h : SmallP s0 fs rs) (hl : l.length ≤ 100) (hn : ¬ (rightB s0 fs rs = true ∧ areB s0 fs.length l = true)) :
    Ev fun k => least_Round.f k s0 fs rs l = some ([], if rightB s0 fs rs = true then 140 else 100) := by
  refine (check_tells (l := l) h hl).mono fun k hk => ?_
  unfold least_Round.f
  by_cases hr : rightB s0 fs rs = true
  · rw [if_pos hr, if_neg (fun ha => hn ⟨hr, ha⟩)] at hk
    rw [hk, Option.bind_some, if_neg (by decide), if_pos hr]
  · rw [if_neg hr] at hk
    rw [hk, Option.bind_some, if_neg (by decide), if_neg hr]
theorem Closed_tells (h : SmallP s0 fs rs) (hl : l.length ≤ 100) (hz : ∀ f ∈ l, f.f2.size ≤ maxLen) (hr : rightB s0 fs rs = true) (ha : areB s0 fs.length l = true) :
    Ev fun k => least_Closed.f k s0 fs rs l = some (((factSet (roundL (roC s0 fs rs l))).length : Int) == (l.length : Int), 0) := by
  refine (check_tells (l := l) h hl).mono fun k hk => ?_
  rw [if_pos hr, if_pos ha] at hk
  unfold least_Closed.f
  rw [hk, Option.bind_some, if_pos rfl, round_tells (sys_of h hr) (facts_of ha hl hz), Option.bind_some]
end
end Go.Proofs.Ytngppcmdaanheaa.Lv

/- What gumshoelaw14.shown answers. No condition. -/
namespace Go.Proofs.Ytngppcmdaanheaa.Lv
open Go.RowKit Go.Proofs.Ytngppcmdaanheaa.ISet Go.Proofs.Ytngppcmdaanheaa.Pr Go.Proofs.Ytngppcmdaanheaa.Ls Go.Proofs.Ytngppcmdaanheaa.Ev Go.Proofs.YtngppcmdaanheaaW.PrintWords Go.Proofs.YtngppcmdaanheaaW.PrintMore
set_option linter.unusedVariables false
set_option linter.unusedSimpArgs false
def fs0 : List FunT := [⟨0, [], 0, 0, 0⟩]
def rs0 : List RuT := [⟨3, 0, 0, 1, 0, 0, 0, ⟨#[]⟩, []⟩]
def la : List Fa := [⟨6, 0, ⟨#[]⟩, 0⟩, ⟨9, 0, ⟨#[]⟩, 4⟩]
def lT : List Fa := [⟨3, 1, applyS, 3⟩, ⟨3, 1, callS, 2⟩, ⟨4, 1, ⟨#[]⟩, 0⟩, ⟨4, 2, ⟨#[]⟩, 1⟩, ⟨4, 3, ⟨#[]⟩, 1⟩, ⟨6, 0, ⟨#[]⟩, 0⟩, ⟨9, 0, ⟨#[]⟩, 4⟩, ⟨9, 1, ⟨#[]⟩, 4⟩]
theorem small0 : SmallP 20 fs0 rs0 := by
  refine ⟨by decide, by decide, by decide, ?_, ?_⟩
  · intro f hf
    obtain rfl := List.mem_singleton.1 hf
    decide
  · intro x hx
    obtain rfl := List.mem_singleton.1 hx
    decide
theorem right0 : rightB 20 fs0 rs0 = true := by rfl
theorem apply_call : SL applyS callS := by
  unfold SL
  rw [ByteArray.toList_eq, ByteArray.toList_eq]
  decide
theorem la_are : areB 20 fs0.length la = true := by
  refine areB_ok.2 ⟨?_, ?_⟩
  · intro f hf
    rcases List.mem_cons.1 hf with rfl | hf
    · exact ⟨⟨by decide, by decide⟩, ⟨by decide, by decide⟩, .inr (.inr (.inr (.inl ⟨rfl, by decide, rfl⟩))), fun _ => rfl⟩
    · obtain rfl := List.mem_singleton.1 hf
      exact ⟨⟨by decide, by decide⟩, ⟨by decide, by decide⟩, .inr (.inr (.inr (.inr (.inr ⟨rfl, by decide⟩)))), fun _ => rfl⟩
  · refine pw_of_next (fun j h0 hj => ?_)
    obtain rfl : j = 1 := by
      have : j < 2 := hj
      omega
    exact .inl (show (6 : Int) < 9 by decide)
theorem lT_pw : lT.Pairwise LF := by
  refine pw_of_next (fun j h0 hj => ?_)
  have h8 : j < 8 := hj
  rcases (show j = 1 ∨ j = 2 ∨ j = 3 ∨ j = 4 ∨ j = 5 ∨ j = 6 ∨ j = 7 by omega) with rfl | rfl | rfl | rfl | rfl | rfl | rfl
  · exact .inr ⟨rfl, .inr ⟨rfl, .inl apply_call⟩⟩
  · exact .inl (show (3 : Int) < 4 by decide)
  · exact .inr ⟨rfl, .inl (show (1 : Int) < 2 by decide)⟩
  · exact .inr ⟨rfl, .inl (show (2 : Int) < 3 by decide)⟩
  · exact .inl (show (4 : Int) < 6 by decide)
  · exact .inl (show (6 : Int) < 9 by decide)
  · exact .inr ⟨rfl, .inl (show (0 : Int) < 1 by decide)⟩
theorem lT_are : areB 20 fs0.length lT = true := by
  refine areB_ok.2 ⟨?_, lT_pw⟩
  intro f hf
  unfold lT at hf
  simp only [List.mem_cons, List.not_mem_nil, or_false] at hf
  rcases hf with rfl | rfl | rfl | rfl | rfl | rfl | rfl | rfl
  · exact ⟨⟨by decide, by decide⟩, ⟨by decide, by decide⟩, .inl rfl, fun h => absurd rfl h⟩
  · exact ⟨⟨by decide, by decide⟩, ⟨by decide, by decide⟩, .inl rfl, fun h => absurd rfl h⟩
  · exact ⟨⟨by decide, by decide⟩, ⟨by decide, by decide⟩, .inr (.inl rfl), fun _ => rfl⟩
  · exact ⟨⟨by decide, by decide⟩, ⟨by decide, by decide⟩, .inr (.inl rfl), fun _ => rfl⟩
  · exact ⟨⟨by decide, by decide⟩, ⟨by decide, by decide⟩, .inr (.inl rfl), fun _ => rfl⟩
  · exact ⟨⟨by decide, by decide⟩, ⟨by decide, by decide⟩, .inr (.inr (.inr (.inl ⟨rfl, by decide, rfl⟩))), fun _ => rfl⟩
  · exact ⟨⟨by decide, by decide⟩, ⟨by decide, by decide⟩, .inr (.inr (.inr (.inr (.inr ⟨rfl, by decide⟩)))), fun _ => rfl⟩
  · exact ⟨⟨by decide, by decide⟩, ⟨by decide, by decide⟩, .inr (.inr (.inr (.inr (.inr ⟨rfl, by decide⟩)))), fun _ => rfl⟩
theorem round_la : roundL (roC 20 fs0 rs0 la) = [⟨6, 0, ⟨#[]⟩, 0⟩, ⟨9, 0, ⟨#[]⟩, 4⟩, ⟨6, 0, ⟨#[]⟩, 0⟩, ⟨3, 1, callS, 2⟩, ⟨3, 1, applyS, 3⟩, ⟨4, 1, ⟨#[]⟩, 0⟩, ⟨4, 2, ⟨#[]⟩, 1⟩, ⟨4, 3, ⟨#[]⟩, 1⟩, ⟨9, 1, ⟨#[]⟩, 4⟩] := by kernel_rfl
theorem round_lT : roundL (roC 20 fs0 rs0 lT) = lT ++ [⟨6, 0, ⟨#[]⟩, 0⟩, ⟨3, 1, callS, 2⟩, ⟨3, 1, applyS, 3⟩, ⟨4, 1, ⟨#[]⟩, 0⟩, ⟨4, 2, ⟨#[]⟩, 1⟩, ⟨4, 3, ⟨#[]⟩, 1⟩, ⟨9, 1, ⟨#[]⟩, 4⟩] := by kernel_rfl
theorem set_la : factSet (roundL (roC 20 fs0 rs0 la)) = lT := by
  refine Ls.rise_unique (factSet_rises _).1 lT_pw (fun x => ?_)
  rw [(factSet_rises _).2, round_la]
  unfold lT
  simp only [List.mem_cons, List.not_mem_nil, or_false]
  constructor
  · rintro (h | h | h | h | h | h | h | h | h) <;> simp [h]
  · rintro (h | h | h | h | h | h | h | h) <;> simp [h]
theorem set_lT : factSet (roundL (roC 20 fs0 rs0 lT)) = lT := by
  refine Ls.rise_unique (factSet_rises _).1 lT_pw (fun x => ?_)
  rw [(factSet_rises _).2, round_lT, List.mem_append]
  refine ⟨fun h => h.elim id (fun h => ?_), .inl⟩
  unfold lT
  simp only [List.mem_cons, List.not_mem_nil, or_false] at h ⊢
  rcases h with h | h | h | h | h | h | h <;> simp [h]
theorem zero_not : ¬ (rightB 20 fs0 rs0 = true ∧ areB 20 fs0.length [(⟨0, 0, ⟨#[]⟩, 0⟩ : Fa)] = true) := fun h => by
  have h1 := (areB_ok.1 h.2).1 ⟨0, 0, ⟨#[]⟩, 0⟩ (List.mem_singleton.2 rfl)
  rcases h1.k with e | e | e | ⟨e, _⟩ | e | ⟨e, _⟩ <;> simp at e
theorem size0 : (⟨#[]⟩ : ByteArray).size ≤ maxLen := by decide
theorem la_size : ∀ f ∈ la, f.f2.size ≤ maxLen := fun f hf => by
  rcases List.mem_cons.1 hf with rfl | hf
  · exact size0
  · obtain rfl := List.mem_singleton.1 hf
    exact size0
theorem lT_size : ∀ f ∈ lT, f.f2.size ≤ maxLen := fun f hf => by
  unfold lT at hf
  simp only [List.mem_cons, List.not_mem_nil, or_false] at hf
  rcases hf with rfl | rfl | rfl | rfl | rfl | rfl | rfl | rfl
  · show applyS.size ≤ maxLen
    decide
  · show callS.size ≤ maxLen
    decide
  all_goals exact size0
theorem shown_tells : Ev fun k => gumshoelaw14_shown.f k = some true := by
  have h1 := Round_tells small0 (l := la) (by decide) la_size right0 la_are
  have h2 := Closed_tells small0 (l := lT) (by decide) lT_size right0 lT_are
  have h3 := Round_no small0 (l := [(⟨0, 0, ⟨#[]⟩, 0⟩ : Fa)]) (by decide) zero_not
  rw [set_la] at h1
  rw [set_lT] at h2
  rw [if_pos right0] at h3
  refine ((h1.and h2).and h3).mono fun k hk => ?_
  obtain ⟨⟨k1, k2⟩, k3⟩ := hk
  unfold gumshoelaw14_shown.f
  simp only [Option.bind_some]
  have k1' : least_Round.f k 20 [(⟨0, ([] : List Int), 0, 0, 0⟩ : FunT)] [(⟨3, 0, 0, 1, 0, 0, 0, (⟨#[]⟩ : ByteArray), ([] : List Int)⟩ : RuT)] [(⟨6, 0, (⟨#[]⟩ : ByteArray), 0⟩ : Fa), (⟨9, 0, (⟨#[]⟩ : ByteArray), 4⟩ : Fa)] = some (lT, 0) := k1
  have k2' : least_Closed.f k 20 [(⟨0, ([] : List Int), 0, 0, 0⟩ : FunT)] [(⟨3, 0, 0, 1, 0, 0, 0, (⟨#[]⟩ : ByteArray), ([] : List Int)⟩ : RuT)] lT = some ((lT.length : Int) == (lT.length : Int), 0) := k2
  have k3' : least_Round.f k 20 [(⟨0, ([] : List Int), 0, 0, 0⟩ : FunT)] [(⟨3, 0, 0, 1, 0, 0, 0, (⟨#[]⟩ : ByteArray), ([] : List Int)⟩ : RuT)] [(⟨0, 0, (⟨#[]⟩ : ByteArray), 0⟩ : Fa)] = some ([], 140) := k3
  rw [k1', Option.bind_some, k2', Option.bind_some, k3', Option.bind_some, if_pos rfl, if_pos rfl, if_pos (by simp), if_pos rfl, if_pos (show (((lT, (0 : Int)).1.length : Nat) : Int) = 8 from rfl), if_pos (show (7 : Int) < (((lT, (0 : Int)).1.length : Nat) : Int) by decide)]
  have e : rd_T41 lT 7 = ⟨9, 1, ⟨#[]⟩, 4⟩ := rfl
  show some ((rd_T41 lT 7).f0 == 9 && ((rd_T41 lT 7).f1 == 1 && ((rd_T41 lT 7).f2.toList == [] && (rd_T41 lT 7).f3 == 4))) = some true
  rw [e]
  simp [noS_list]
end Go.Proofs.Ytngppcmdaanheaa.Lv

/- More facts have no fewer ones behind a round. No condition. -/
namespace Go.Proofs.Ytngppcmdaanheaa.Lv
open Go.RowKit Go.Proofs.Ytngppcmdaanheaa.ISet Go.Proofs.Ytngppcmdaanheaa.Pr Go.Proofs.Ytngppcmdaanheaa.Ls Go.Proofs.Ytngppcmdaanheaa.Ev Go.Proofs.YtngppcmdaanheaaW.PrintWords Go.Proofs.YtngppcmdaanheaaW.PrintMore
open Go.Proofs.Ytngppcmdaanheaa.Rm (Leads mem_reachL reachL)
set_option linter.unusedVariables false
set_option linter.unusedSimpArgs false
def Sub {α : Type} (A B : List α) : Prop := ∀ f ∈ A, f ∈ B
theorem Sub.refl {α : Type} (A : List α) : Sub A A := fun _ h => h
theorem Sub.app {α : Type} {A B C D : List α} (h : Sub A B) (k : Sub C D) : Sub (A ++ C) (B ++ D) := fun f hf => List.mem_append.2 ((List.mem_append.1 hf).imp (h f) (k f))
theorem Sub.ask {kind a : Int} {s : ByteArray} {xs ys : List Int} (h : Sub xs ys) : Sub (askL kind a s xs) (askL kind a s ys) := fun f hf => by
  obtain ⟨x, hx, rfl⟩ := List.mem_map.1 hf
  exact List.mem_map.2 ⟨x, h x hx, rfl⟩
theorem Sub.rg {n : Nat} {F G : Nat → List Fa} (h : ∀ i, i < n → Sub (F i) (G i)) : Sub (rg n F) (rg n G) := fun f hf => by
  obtain ⟨i, hi, hm⟩ := mem_rg.1 hf
  exact mem_rg.2 ⟨i, hi, h i hi f hm⟩
theorem mem_rgx {xs : List Int} {F : Int → List Fa} {f : Fa} : f ∈ rg xs.length (fun i => F (rd xs (i : Int))) ↔ ∃ x ∈ xs, f ∈ F x := by
  rw [mem_rg]
  constructor
  · rintro ⟨i, hi, h⟩
    exact ⟨_, rd_mem xs i hi, h⟩
  · rintro ⟨x, hx, h⟩
    obtain ⟨i, hi, rfl⟩ := List.getElem_of_mem hx
    refine ⟨i, hi, ?_⟩
    have e : rd xs (i : Int) = xs[i] := by unfold rd; rw [Int.toNat_natCast, List.getD_eq_getElem?_getD, List.getElem?_eq_getElem hi]; rfl
    rw [e]
    exact h
theorem Sub.rgx {xs ys : List Int} {F G : Int → List Fa} (h : Sub xs ys) (k : ∀ x ∈ xs, Sub (F x) (G x)) : Sub (Ls.rg xs.length (fun i => F (rd xs (i : Int)))) (Ls.rg ys.length (fun i => G (rd ys (i : Int)))) := fun f hf => by
  obtain ⟨x, hx, hm⟩ := mem_rgx.1 hf
  exact mem_rgx.2 ⟨x, h x hx, k x hx f hm⟩
theorem Sub.ite {c : Prop} [Decidable c] {A B C D : List Fa} (h : Sub A B) (k : Sub C D) : Sub (if c then A else C) (if c then B else D) := by
  split
  · exact h
  · exact k
section
variable {s0 : Int} {fs : List FunT} {rs : List RuT} {l l' : List Fa}
theorem bs_sub (h : Sub l l') (kind a : Int) : Sub (bsL l kind a) (bsL l' kind a) := fun x hx => by
  unfold bsL toldR at hx ⊢
  obtain ⟨f, hf, rfl⟩ := List.mem_map.1 hx
  obtain ⟨h1, h2⟩ := List.mem_filter.1 hf
  exact List.mem_map.2 ⟨f, List.mem_filter.2 ⟨h f h1, h2⟩, rfl⟩
theorem leads_sub (h : Sub l l') {m x : Int} (hx : Leads m (prE l) x) : Leads m (prE l') x := by
  induction hx with
  | zero => exact .zero
  | step _ he ih =>
    obtain ⟨f, h1, h2⟩ := (mem_prE l _ _).1 he
    exact .step ih ((mem_prE l' _ _).2 ⟨f, h f h1, h2⟩)
theorem loads_sub (h : Sub l l') (p : ByteArray → Bool) (m : Int) : Sub (loadsL l p m) (loadsL l' p m) := fun x hx => by
  unfold loadsL at hx ⊢
  obtain ⟨f, hf, rfl⟩ := List.mem_map.1 hx
  obtain ⟨h1, h2⟩ := List.mem_filter.1 hf
  simp only [Bool.and_eq_true, decide_eq_true_iff] at h2
  refine List.mem_map.2 ⟨f, List.mem_filter.2 ⟨h f h1, ?_⟩, rfl⟩
  simp only [Bool.and_eq_true, decide_eq_true_iff]
  exact ⟨(mem_reachL m (prE l') _).2 (leads_sub h ((mem_reachL m (prE l) _).1 h2.1)), h2.2⟩
theorem call_sub (h : Sub l l') {m e y n : Int} {th th' ar : List Int} (ht : Sub th th') (c : Int) : Sub (callL (roC s0 fs rs l) ⟨m, th, ar, e, y, n⟩ c) (callL (roC s0 fs rs l') ⟨m, th', ar, e, y, n⟩ c) := by
  have hb : ∀ a, Sub (bsL l 9 a) (bsL l' 9 a) := fun a => bs_sub h 9 a
  have hspare : ∀ t, Sub (spareAsk l ⟨m, th, ar, e, y, n⟩ c t) (spareAsk l' ⟨m, th', ar, e, y, n⟩ c t) := fun t => by
    unfold spareAsk
    exact Sub.app (Sub.refl _) (Sub.app (Sub.ask ht) (Sub.app (Sub.rg (fun i _ => Sub.app (Sub.ask (hb _)) (Sub.refl _))) (Sub.app (Sub.ite (Sub.ask (hb _)) (Sub.refl _)) (Sub.app (Sub.ask (hb _)) (Sub.app (Sub.ask (hb _)) (Sub.refl _))))))
  unfold callL
  refine Sub.app (Sub.rg (fun g hg => ?_)) ?_
  · unfold funAsk
    exact Sub.ite (Sub.refl _) (Sub.app (Sub.refl _) (Sub.app (Sub.refl _) (Sub.app (Sub.ask ht) (Sub.app (Sub.rg (fun i _ => by
      unfold parAsk
      exact Sub.ite (Sub.app (Sub.ask (hb _)) (Sub.refl _)) (Sub.ite (Sub.app (Sub.ask (hb _)) (Sub.refl _)) (Sub.refl _)))) (Sub.app (Sub.ask (hb _)) (Sub.app (Sub.ask (hb _)) (Sub.refl _)))))))
  · unfold tailAsk
    exact Sub.ite (hspare _) (Sub.ite (hspare _) (Sub.refl _))
theorem each_sub (h : Sub l l') (x : RuT) (c : Int) : Sub (eachL (roC s0 fs rs l) x c) (eachL (roC s0 fs rs l') x c) := by
  have hb : ∀ a, Sub (bsL l 9 a) (bsL l' 9 a) := fun a => bs_sub h 9 a
  unfold eachL
  refine Sub.ite (Sub.ask (loads_sub h _ _)) (Sub.ite (Sub.ask (loads_sub h _ _)) (Sub.ite (Sub.ask (hb _)) (Sub.ite (Sub.ask (hb _)) (Sub.ite (call_sub h ?_ c) (Sub.ite (Sub.ite (Sub.app (Sub.refl _) (Sub.app (Sub.refl _) (Sub.app (Sub.ask (loads_sub h _ _)) (call_sub h (Sub.refl _) c)))) (Sub.refl _)) (Sub.refl _))))))
  split
  · exact hb _
  · exact Sub.refl _
theorem rule_sub (h : Sub l l') (x : RuT) : Sub (ruleL (roC s0 fs rs l) x) (ruleL (roC s0 fs rs l') x) := by
  have hb : ∀ a, Sub (bsL l 9 a) (bsL l' 9 a) := fun a => bs_sub h 9 a
  unfold ruleL
  refine Sub.app ?_ (Sub.rgx (F := fun c => eachL (roC s0 fs rs l) x c) (G := fun c => eachL (roC s0 fs rs l') x c) (hb _) (fun c _ => each_sub h x c))
  unfold headL
  exact Sub.ite (Sub.refl _) (Sub.ite (Sub.refl _) (Sub.ite (Sub.ask (hb _)) (Sub.refl _)))
theorem built_sub (h : Sub l l') (f : Fa) : Sub (builtL (roC s0 fs rs l) f) (builtL (roC s0 fs rs l') f) := by
  have hb : ∀ a, Sub (bsL l 9 a) (bsL l' 9 a) := fun a => bs_sub h 9 a
  have hap : ∀ t ea m, Sub (apL (roC s0 fs rs l) t ea m) (apL (roC s0 fs rs l') t ea m) := fun t ea m => by
    unfold apL
    exact Sub.rgx (F := fun d => callL (roC s0 fs rs l) ⟨m, bsL l 9 (t + 1), [], ea, t + 2, t + 3⟩ d) (G := fun d => callL (roC s0 fs rs l') ⟨m, bsL l' 9 (t + 1), [], ea, t + 2, t + 3⟩ d) (hb _) (fun d _ => call_sub h (hb _) d)
  unfold builtL
  refine Sub.ite (hap _ _ _) (Sub.ite (Sub.app ?_ (hap _ _ _)) (Sub.refl _))
  unfold spreadL
  exact Sub.rgx (F := fun o => askL 9 _ noS (loadsL l (fun _ => true) o) ++ []) (G := fun o => askL 9 _ noS (loadsL l' (fun _ => true) o) ++ []) (hb _) (fun o _ => Sub.app (Sub.ask (loads_sub h _ _)) (Sub.refl _))
theorem mem_old {f : Fa} : f ∈ rg l.length (oldL (roC s0 fs rs l)) ↔ ∃ g ∈ l, f = g ∨ f ∈ builtL (roC s0 fs rs l) g := by
  rw [mem_rg]
  constructor
  · rintro ⟨i, hi, h⟩
    unfold oldL at h
    refine ⟨_, rdA_mem hi, ?_⟩
    rcases List.mem_append.1 h with h | h
    · exact .inl (List.mem_singleton.1 h)
    · exact .inr h
  · rintro ⟨g, hg, h⟩
    obtain ⟨i, hi, rfl⟩ := List.getElem_of_mem hg
    refine ⟨i, hi, ?_⟩
    have e : rd_T41 l (i : Int) = l[i] := by
      unfold rd_T41
      rw [Int.toNat_natCast, List.getD_eq_getElem?_getD, List.getElem?_eq_getElem hi]
      rfl
    unfold oldL
    show f ∈ [rd_T41 l (i : Int)] ++ builtL (roC s0 fs rs l) (rd_T41 l (i : Int))
    rw [e]
    rcases h with h | h
    · exact List.mem_append_left _ (List.mem_singleton.2 h)
    · exact List.mem_append_right _ h
theorem round_sub (h : Sub l l') : Sub (roundL (roC s0 fs rs l)) (roundL (roC s0 fs rs l')) := by
  unfold roundL
  refine Sub.app (fun f hf => ?_) (Sub.app (Sub.refl _) (Sub.app (Sub.refl _) (Sub.app (Sub.refl _) (Sub.app (Sub.refl _) (Sub.app (Sub.refl _) (Sub.app (Sub.refl _) (Sub.rg (fun i hi => ?_))))))))
  · obtain ⟨g, hg, hm⟩ := mem_old.1 hf
    exact mem_old.2 ⟨g, h g hg, hm.imp id (built_sub h g f)⟩
  · unfold newL
    intro f hf
    by_cases hc : 0 < (bsL (roC s0 fs rs l).l 6 (rd_T46 (roC s0 fs rs l).rs (i : Int)).f1).length
    · rw [if_pos hc] at hf
      have hc' : 0 < (bsL (roC s0 fs rs l').l 6 (rd_T46 (roC s0 fs rs l').rs (i : Int)).f1).length := by
        obtain ⟨x, hx⟩ := List.exists_mem_of_length_pos hc
        exact List.length_pos_of_mem (bs_sub h 6 _ x hx)
      rw [if_pos hc']
      exact rule_sub h _ f hf
    · rw [if_neg hc] at hf
      cases hf
end
end Go.Proofs.Ytngppcmdaanheaa.Lv

/- The plain law of LeastRises. No condition. -/
namespace Go.Proofs.Ytngppcmdaanheaa.Pure
open Go.RowKit Go.Proofs.Ytngppcmdaanheaa.Pr Go.Proofs.Ytngppcmdaanheaa.Ls Go.Proofs.Ytngppcmdaanheaa.Lv Go.Proofs.Ytngppcmdaanheaa.Ev Go.Proofs.YtngppcmdaanheaaW.PrintWords Go.Proofs.YtngppcmdaanheaaW.PrintMore
set_option linter.unusedVariables false
set_option linter.unusedSimpArgs false
theorem withinR {a b : List Fa} (ha : ∀ f ∈ a, wfF f) (hb : ∀ f ∈ b, wfF f) (h1 : a.length ≤ 1000000000000) (h2 : b.length ≤ 1000000000000) (hs : ∀ f ∈ a, f ∈ b) : least_Within.f a b = some true := by
  unfold least_Within.f
  rw [if_pos ⟨ha, hb, h1, h2⟩]
  congr 1
  unfold withinB
  rw [Bool.not_eq_true', List.any_eq_false]
  intro f hf
  simp [hs f hf]
theorem set_wf {s0 : Int} {fs : List Lv.FunT} {rs : List Lv.RuT} {l : List Fa} (hs : SysOk s0 fs rs) (hl : FactsOk s0 fs.length l) : (∀ f ∈ factSet (roundL (roC s0 fs rs l)), wfF f) ∧ (factSet (roundL (roC s0 fs rs l))).length ≤ 1000000000000 := by
  have h := factSet_rises (roundL (roC s0 fs rs l))
  refine ⟨fun f hf => (round_all hs hl f ((h.2 f).1 hf)).wf, ?_⟩
  have hn : (factSet (roundL (roC s0 fs rs l))).Nodup := h.1.imp (fun {a b} hab e => by subst e; exact LF.irrefl _ hab)
  have h2 := hn.length_le_of_subset (fun x hx => (h.2 x).1 hx)
  have h3 := round_len hs hl
  omega
theorem LeastRises (s : Int) (fs : List S44) (rs : List S46)
    (h0 : (Lit.int .i64 s).wf = true ∧ (∀ a ∈ fs, (Lit.int .i64 a.f0).wf = true ∧ (∀ y ∈ a.f1, (Lit.int .i64 y).wf = true) ∧ (Lit.int .i64 a.f2).wf = true ∧ (Lit.int .i64 a.f3).wf = true ∧ (Lit.int .i64 a.f4).wf = true) ∧
      ∀ a ∈ rs, (Lit.int .i64 a.f0).wf = true ∧ (Lit.int .i64 a.f1).wf = true ∧ (Lit.int .i64 a.f2).wf = true ∧ (Lit.int .i64 a.f3).wf = true ∧ (Lit.int .i64 a.f4).wf = true ∧ (Lit.int .i64 a.f5).wf = true ∧ (Lit.int .i64 a.f6).wf = true ∧ a.f7.size ≤ maxLen ∧ ∀ y ∈ a.f8, (Lit.int .i64 y).wf = true)
    (l1 : List S41) (h1 : ∀ a ∈ l1, (Lit.int .i64 a.f0).wf = true ∧ (Lit.int .i64 a.f1).wf = true ∧ a.f2.size ≤ maxLen ∧ (Lit.int .i64 a.f3).wf = true)
    (n : Int) (h2 : (Lit.int .i64 n).wf = true) :
    ∃ k, gumshoelaw14_LeastRises.f k s fs rs l1 n = some true := by
  obtain ⟨l, hl⟩ : ∃ l, l = l1.take 60 := ⟨_, rfl⟩
  have hln : l.length ≤ 60 := by rw [hl, List.length_take]; omega
  have hz : ∀ f ∈ l, f.f2.size ≤ maxLen := fun f hf => (h1 f (List.mem_of_mem_take (by rw [hl] at hf; exact hf))).2.2.1
  have hj : Ev fun k => gumshoelaw14_LeastRises.j0 k l n true true s fs rs = some true := Ev.step fun k => by rw [gumshoelaw14_LeastRises.j0, if_pos rfl]
  rcases small_tells s fs rs with h | ⟨hsm, h⟩
  · refine ((shown_tells.and h).and hj).mono (fun k hk => ?_) |>.ex
    obtain ⟨⟨k1, k2⟩, k3⟩ := hk
    unfold gumshoelaw14_LeastRises.f
    rw [k1, Option.bind_some, Lv.few_tells, Option.bind_some, k2, Option.bind_some, if_pos rfl, ← hl, k3]
  · by_cases hn0 : n < 0
    · refine ((shown_tells.and h).and hj).mono (fun k hk => ?_) |>.ex
      obtain ⟨⟨k1, k2⟩, k3⟩ := hk
      unfold gumshoelaw14_LeastRises.f
      rw [k1, Option.bind_some, Lv.few_tells, Option.bind_some, k2, Option.bind_some, if_neg (by decide), if_pos hn0, ← hl, k3]
    by_cases hn1 : n > (l.length : Int)
    · refine ((shown_tells.and h).and hj).mono (fun k hk => ?_) |>.ex
      obtain ⟨⟨k1, k2⟩, k3⟩ := hk
      unfold gumshoelaw14_LeastRises.f
      rw [k1, Option.bind_some, Lv.few_tells, Option.bind_some, k2, Option.bind_some, if_neg (by decide), if_neg hn0, ← hl, if_pos hn1, k3]
    have hR := Right_tells hsm (l := l) (by omega)
    by_cases hok : (rightB s fs rs && areB s fs.length l) = true
    · rw [hok] at hR
      obtain ⟨hr, ha⟩ := Bool.and_eq_true_iff.1 hok
      have hsys := sys_of hsm hr
      have hfo := facts_of ha (by omega) hz
      have hsub : ∀ f ∈ l.take n.toNat, f ∈ l := fun f hf => List.mem_of_mem_take hf
      have ha2 : areB s fs.length (l.take n.toNat) = true := areB_ok.2 ⟨fun f hf => hfo.ok f (hsub f hf), hfo.srt.sublist (List.take_sublist _ _)⟩
      have hl2 : (l.take n.toNat).length ≤ 100 := by rw [List.length_take]; omega
      have hz2 : ∀ f ∈ l.take n.toNat, f.f2.size ≤ maxLen := fun f hf => hz f (hsub f hf)
      have hA := Round_tells hsm hl2 hz2 hr ha2
      have hB := Round_tells hsm (l := l) (by omega) hz hr ha
      have w1 := set_wf hsys (facts_of ha2 hl2 hz2)
      have w2 := set_wf hsys hfo
      have hW := withinR w1.1 w2.1 w1.2 w2.2 (fun f hf => ((factSet_rises _).2 f).2 (round_sub (s0 := s) (fs := fs) (rs := rs) hsub f (((factSet_rises _).2 f).1 hf)))
      have hJ : Ev fun k => gumshoelaw14_LeastRises.j0 k l n true false s fs rs = some true := (hA.and hB).succ fun k hk => by
        rw [gumshoelaw14_LeastRises.j0, if_neg (by decide), if_pos (by omega), if_pos (by omega), hk.1, Option.bind_some, hk.2, Option.bind_some, if_pos rfl, if_pos rfl, if_pos rfl, hW, Option.bind_some]
      refine (((shown_tells.and h).and hR).and hJ).mono (fun k hk => ?_) |>.ex
      obtain ⟨⟨⟨k1, k2⟩, k3⟩, k4⟩ := hk
      unfold gumshoelaw14_LeastRises.f
      rw [k1, Option.bind_some, Lv.few_tells, Option.bind_some, k2, Option.bind_some, if_neg (by decide), if_neg hn0, ← hl, if_neg hn1, k3, Option.bind_some]
      exact k4
    · rw [Bool.eq_false_iff.2 hok] at hR
      refine (((shown_tells.and h).and hR).and hj).mono (fun k hk => ?_) |>.ex
      obtain ⟨⟨⟨k1, k2⟩, k3⟩, k4⟩ := hk
      unfold gumshoelaw14_LeastRises.f
      rw [k1, Option.bind_some, Lv.few_tells, Option.bind_some, k2, Option.bind_some, if_neg (by decide), if_neg hn0, ← hl, if_neg hn1, k3, Option.bind_some]
      exact k4
end Go.Proofs.Ytngppcmdaanheaa.Pure

/- What a row reads of an argument, as a value of a kind: over whatever program. -/
namespace Go.Proofs.Ytngppcmdaanheaa.Opens
open Go.RowKit Go.Deep Go.ChangeShapes Go.WideShapes Go.Proofs.YtngppcmdaanheaaW.PrintWords
set_option linter.unusedVariables false
def OpensTo {α : Type} (P : Program) (t : TypeId) (K : World → α → List Value → Prop) (Wf : α → Prop) : Prop :=
  ∀ (H : Type) (enc : TypeId × Value → H) (w : World) (base : Nat) (sp : Nat → Bool) (held : Bool) (fuel : Nat) (cs : List Value) (x : DataW H × List MemPlace), DataW.trod enc P w base sp held fuel t cs = some x → ∃ a, K w a cs ∧ Wf a
variable {P : Program} {t e : TypeId}
theorem opens_int {k : IntKind} (ht : P.underlying t = some (.int k)) : OpensTo P t (Kd.int k).K (fun n => (Lit.int k n).wf = true) := by
  intro H enc w base sp held fuel cs x h
  cases fuel with
  | zero => simp [DataW.trod] at h
  | succ fuel =>
    unfold DataW.trod at h
    rw [ht] at h
    split at h <;> first | (rename_i heq; cases heq; done) | (cases h; done) | skip
    rename_i heq
    injection heq with heq
    injection heq with heq
    subst heq
    split at h
    · rename_i hk
      obtain ⟨rfl, hk⟩ := hk
      exact ⟨_, rfl, hk⟩
    · exact absurd h (by simp)
theorem opens_string (ht : P.underlying t = some .string) : OpensTo P t Kd.string.K (fun s => s.size ≤ maxLen) := by
  intro H enc w base sp held fuel cs x h
  cases fuel with
  | zero => simp [DataW.trod] at h
  | succ fuel =>
    unfold DataW.trod at h
    rw [ht] at h
    split at h <;> first | (rename_i heq; cases heq; done) | (cases h; done) | skip
    split at h
    · rename_i hk
      exact ⟨_, rfl, hk⟩
    · exact absurd h (by simp)
theorem opens_slice {α : Type} [Inhabited α] {d : Kd α} {Wf : α → Prop} (ht : P.underlying t = some (.slice e)) (hc : P.cellsOf e = d.sz) (he : OpensTo P e d.K Wf) : OpensTo P t (Kd.slice e d).K (fun l => ∀ a ∈ l, Wf a) := by
  intro H enc w base sp held fuel cs x h
  rcases open_slice ht h with ⟨rfl, _⟩ | ⟨a, len, cap, m, n, D, Pl, rfl, hb, hl, hcap, hm, _, hel⟩
  · exact ⟨[], ⟨none, 0, rfl, Nat.le_refl _, rfl, by simp, fun h => by simp at h⟩, by simp⟩
  · have hmm : len ≤ m := by rw [hm]; split <;> omega
    have hx : ∀ i, i < len → ∃ (y : α) (cs' : List Value), w.cells? base (a.add (i * d.sz)) d.sz = some cs' ∧ d.K w y cs' ∧ Wf y := by
      intro i hi
      obtain ⟨cs', h1, h2⟩ := hel i (by omega)
      rw [hc] at h1
      obtain ⟨y, h3, h4⟩ := he H enc w base sp held n cs' _ h2
      exact ⟨y, cs', h1, h3, h4⟩
    let f : Nat → α := fun i => if h : i < len then Classical.choose (hx i h) else default
    have hf : ∀ i, i < len → ∃ cs', w.cells? base (a.add (i * d.sz)) d.sz = some cs' ∧ d.K w (f i) cs' ∧ Wf (f i) := by
      intro i hi
      have : f i = Classical.choose (hx i hi) := dif_pos hi
      rw [this]
      exact Classical.choose_spec (hx i hi)
    have hlen : ((List.range len).map f).length = len := by simp
    refine ⟨(List.range len).map f, ⟨some a, cap, by rw [hlen], by rw [hlen]; exact hl, ?_⟩, ?_⟩
    · refine ⟨rfl, by rw [hlen]; simp only [maxLen] at hcap; omega, fun _ => ⟨a, rfl, fun j p hj => ?_⟩⟩
      have hj' : j < len := by
        have := (List.getElem?_eq_some_iff.1 hj).1
        omega
      have hp : p = f j := by simp [hj'] at hj; exact hj.symm
      subst hp
      obtain ⟨cs', h1, h2, _⟩ := hf j hj'
      refine ⟨cs', d.K_len h2, h2, fun i u hu => ?_⟩
      obtain ⟨_, h3, h4⟩ := World.cells?_some h1
      have hi : i < d.sz := by have := (List.getElem?_eq_some_iff.1 hu).1; have := d.K_len h2; omega
      have h5 := h4 i hi
      rw [show (a.add (j * d.sz + i)) = (a.add (j * d.sz)).add i from ?_, h5, hu]
      unfold Addr.add
      by_cases e1 : j * d.sz = 0 <;> by_cases e2 : i = 0 <;> simp [e1, e2, Nat.add_assoc]
    · intro y hy
      rw [List.mem_map] at hy
      obtain ⟨i, hi, rfl⟩ := hy
      obtain ⟨_, _, _, h⟩ := hf i (List.mem_range.1 hi)
      exact h
theorem slice_of_K {α : Type} {d : Kd α} {w : World} {l : List α} {v : Value} {A : Option Addr} {n c : Nat} (hv : v = .slice A n c) (h : (Kd.slice e d).K w l v.cells.toList) : n = l.length ∧ l.length ≤ c ∧ d.C w A l.length l := by
  subst hv
  obtain ⟨A', c', h1, h2, h3⟩ := h
  simp [Value.cells] at h1
  obtain ⟨rfl, rfl, rfl⟩ := h1
  exact ⟨rfl, h2, h3⟩
/-! ### structs -/
def OpensFs {β : Type} (P : Program) (fs : List Field) (o sz : Nat) (K : World → β → List Value → Prop) (Wf : β → Prop) : Prop :=
  ∀ (H : Type) (enc : TypeId × Value → H) (w : World) (base : Nat) (sp : Nat → Bool) (held : Bool) (fuel : Nat) (cs : List Value) (xs : List (DataW H × List MemPlace)), cs.length = o + sz →
    (fs.mapM fun f => DataW.trod enc P w base sp held fuel f.type ((cs.drop f.offset).take (P.cellsOf f.type))) = some xs → ∃ b, K w b (cs.drop o) ∧ Wf b
theorem opensFs_last {β : Type} {K : World → β → List Value → Prop} {Wf : β → Prop} {f : Field} {o sz : Nat} (ho : f.offset = o) (hc : P.cellsOf f.type = sz) (h : OpensTo P f.type K Wf) : OpensFs P [f] o sz K Wf := by
  intro H enc w base sp held fuel cs xs hl hx
  rw [List.mapM_cons] at hx
  cases hq : DataW.trod enc P w base sp held fuel f.type ((cs.drop f.offset).take (P.cellsOf f.type)) with
  | none => rw [hq] at hx; cases hx
  | some y =>
    obtain ⟨b, h1, h2⟩ := h H enc w base sp held fuel _ _ hq
    rw [ho, hc, List.take_of_length_le (by rw [List.length_drop]; omega)] at h1
    exact ⟨b, h1, h2⟩
theorem opensFs_cons {α β : Type} {da : Kd α} {db : Kd β} {Wa : α → Prop} {Wb : β → Prop} {f : Field} {fs : List Field} {o sz : Nat} (ho : f.offset = o) (hc : P.cellsOf f.type = da.sz) (h : OpensTo P f.type da.K Wa) (hs : OpensFs P fs (o + da.sz) sz db.K Wb) :
    OpensFs P (f :: fs) o (da.sz + sz) (Kd.pair da db).K (fun x => Wa x.1 ∧ Wb x.2) := by
  intro H enc w base sp held fuel cs xs hl hx
  rw [List.mapM_cons] at hx
  cases hq : DataW.trod enc P w base sp held fuel f.type ((cs.drop f.offset).take (P.cellsOf f.type)) with
  | none => rw [hq] at hx; cases hx
  | some y =>
    rw [hq] at hx
    cases hr : (fs.mapM fun f => DataW.trod enc P w base sp held fuel f.type ((cs.drop f.offset).take (P.cellsOf f.type))) with
    | none => rw [hr] at hx; cases hx
    | some ys =>
      obtain ⟨a, h1, h2⟩ := h H enc w base sp held fuel _ _ hq
      obtain ⟨b, h3, h4⟩ := hs H enc w base sp held fuel cs ys (by omega) hr
      rw [ho, hc] at h1
      refine ⟨(a, b), ⟨_, _, ?_, h1, h3⟩, h2, h4⟩
      rw [← List.drop_drop, List.take_append_drop]
theorem opens_struct {α : Type} {d : Kd α} {Wf : α → Prop} {fs : Array Field} (ht : P.underlying t = some (.struct fs)) (hc : P.cellsOf t = d.sz) (h : OpensFs P fs.toList 0 d.sz d.K Wf) : OpensTo P t d.K Wf := by
  intro H enc w base sp held fuel cs x hx
  cases fuel with
  | zero => simp [DataW.trod] at hx
  | succ fuel =>
    unfold DataW.trod at hx
    rw [ht] at hx
    dsimp only at hx
    split at hx
    · rename_i hl
      rw [Option.map_eq_some_iff] at hx
      obtain ⟨xs, hxs, _⟩ := hx
      have := h H enc w base sp held fuel _ _ (by rw [hl, hc, Nat.zero_add]) hxs
      simpa using this
    · cases hx
theorem opens_iso {α β : Type} {d : Kd α} (f : β → α) (g : α → β) (hfg : ∀ x, f (g x) = x) {Wf : α → Prop} (h : OpensTo P t d.K Wf) : OpensTo P t (Kd.iso d f).K (fun x => Wf (f x)) := by
  intro H enc w base sp held fuel cs x hx
  obtain ⟨a, h1, h2⟩ := h H enc w base sp held fuel cs x hx
  refine ⟨g a, ?_, ?_⟩
  · show d.K w (f (g a)) cs
    rw [hfg]; exact h1
  · show Wf (f (g a))
    rw [hfg]; exact h2
end Go.Proofs.Ytngppcmdaanheaa.Opens

/- The row of LeastRises, out of its contract and its plain law. No condition. -/
namespace Go.Proofs.Ytngppcmdaanheaa.leastRises
open Go.ChangeShapes Go.WideShapes Go.ChangeAt Go.RowKit
open Go.ChangeMaps (open_string shut_string)
open Go.Proofs.Ytngppcmdaanheaa Go.Proofs.YtngppcmdaanheaaW.PrintWords
set_option linter.unusedVariables false
theorem own : ownKnob Try.prog.godebug = none := by kernel_rfl
theorem laidOut : laidOutB Try.prog = true := by kernel_rfl
instance : Inhabited Pr.S44 := ⟨Pr.z44⟩
instance : Inhabited Pr.S46 := ⟨Pr.z46⟩
instance : Inhabited Pr.S41 := ⟨Pr.z41⟩
set_option maxRecDepth 100000 in
theorem lifted (os : Os) (started : os.Started) (H : Type) (enc : TypeId × Value → H) :
    ReturnsInHanded {} Try.checked os 6 .any (Rows.leastRisesSpec.pre6 enc Try.prog Try.f6 Rows.leastRisesRow.domain false) (Rows.leastRisesSpec.post enc Try.prog Try.f6 false true false false) := by
  refine returnsInHanded_of_change_sized (C := Try.checked) own started (by kernel_rfl) Try.func6
    (ChangeSpec.witness6 (enc := enc) (C := Try.checked) false ⟨#[], #[.agg #[.int .i64 0, .slice none 0 0, .slice none 0 0], .slice none 0 0, .int .i64 0], []⟩ 8 (by kernel_rfl) (by kernel_rfl) (by kernel_rfl) (by kernel_rfl)) ?_
  intro W base args ds gs before hval0 hW hcnd hsz0 _
  have hsz : (DataW.weightsEach Try.prog (Try.f6.params.toList ++ Rows.leastRisesSpec.plain.varTypes Try.prog) (ds ++ gs)).all (· ≤ reachBytes) = true := hsz0
  have hval : ∀ (j : Nat) t v, Try.f6.params[j]? = some t → args[j]? = some v → Value.okWide Try.prog W .any base t v := hval0
  have hW' := hW
  obtain ⟨p, q, hA0, hV, rfl, hfz, hnd⟩ := hW
  have hA : DataW.TrodAll enc Try.prog W 0 (fun _ => true) true Try.f6.params.toList args.toList ds p := hA0
  rw [Try.params6] at hA hval hsz
  obtain ⟨v0, vs0, d0, ds0, p0, q0, hargs, rfl, rfl, h0, r0⟩ := trodAll_cons hA
  obtain ⟨v1, vs1, d1, ds1, p1, q1, rfl, rfl, rfl, h1, r1⟩ := trodAll_cons r0
  obtain ⟨v2, vs2, d2, ds2, p2, q2, rfl, rfl, rfl, h2, r2⟩ := trodAll_cons r1
  obtain ⟨rfl, rfl, rfl⟩ := trodAll_nil r2
  obtain rfl : args = #[v0, v1, v2] := by cases args; simp_all
  obtain ⟨rfl, rfl⟩ := trodVars_none hV
  obtain ⟨cs0, rfl, _⟩ := okWide_struct Try.underlying25 (hval 0 25 v0 rfl rfl)
  have k0 := h0
  have lt0 : ∀ x ∈ p0, x.block < W.heap.size := by obtain ⟨m, hm⟩ := k0; exact DataW.trod_lt m _ _ _ hm
  obtain ⟨m0, hm0⟩ := h0
  obtain ⟨x0, hK0, hw0⟩ := (Opens.opens_struct (d := Kd.pair (Kd.int .i64) (Kd.pair (Kd.slice 44 (Pr.k44)) (Kd.slice 46 (Pr.k46)))) Try.underlying25 (by kernel_rfl) (Opens.opensFs_cons (da := Kd.int .i64) rfl (by kernel_rfl) (Opens.opens_int Try.underlying3) (Opens.opensFs_cons (da := Kd.slice 44 (Pr.k44)) rfl (by kernel_rfl) (Opens.opens_slice (d := Pr.k44) Try.underlying22 (by kernel_rfl) (Opens.opens_iso (fun x : Pr.S44 => (x.f0, x.f1, x.f2, x.f3, x.f4)) (fun y => (⟨y.1, y.2.1, y.2.2.1, y.2.2.2.1, y.2.2.2.2⟩ : Pr.S44)) (fun _ => rfl) (Opens.opens_struct Try.underlying44 (by kernel_rfl) (Opens.opensFs_cons (da := Kd.int .i64) rfl (by kernel_rfl) (Opens.opens_int Try.underlying3) (Opens.opensFs_cons (da := Kd.slice 3 (Kd.int .i64)) rfl (by kernel_rfl) (Opens.opens_slice (d := Kd.int .i64) Try.underlying42 (by kernel_rfl) (Opens.opens_int Try.underlying3)) (Opens.opensFs_cons (da := Kd.int .i64) rfl (by kernel_rfl) (Opens.opens_int Try.underlying3) (Opens.opensFs_cons (da := Kd.int .i64) rfl (by kernel_rfl) (Opens.opens_int Try.underlying3) (Opens.opensFs_last rfl (by kernel_rfl) (Opens.opens_int Try.underlying3))))))))) (Opens.opensFs_last rfl (by kernel_rfl) (Opens.opens_slice (d := Pr.k46) Try.underlying23 (by kernel_rfl) (Opens.opens_iso (fun x : Pr.S46 => (x.f0, x.f1, x.f2, x.f3, x.f4, x.f5, x.f6, x.f7, x.f8)) (fun y => (⟨y.1, y.2.1, y.2.2.1, y.2.2.2.1, y.2.2.2.2.1, y.2.2.2.2.2.1, y.2.2.2.2.2.2.1, y.2.2.2.2.2.2.2.1, y.2.2.2.2.2.2.2.2⟩ : Pr.S46)) (fun _ => rfl) (Opens.opens_struct Try.underlying46 (by kernel_rfl) (Opens.opensFs_cons (da := Kd.int .i64) rfl (by kernel_rfl) (Opens.opens_int Try.underlying3) (Opens.opensFs_cons (da := Kd.int .i64) rfl (by kernel_rfl) (Opens.opens_int Try.underlying3) (Opens.opensFs_cons (da := Kd.int .i64) rfl (by kernel_rfl) (Opens.opens_int Try.underlying3) (Opens.opensFs_cons (da := Kd.int .i64) rfl (by kernel_rfl) (Opens.opens_int Try.underlying3) (Opens.opensFs_cons (da := Kd.int .i64) rfl (by kernel_rfl) (Opens.opens_int Try.underlying3) (Opens.opensFs_cons (da := Kd.int .i64) rfl (by kernel_rfl) (Opens.opens_int Try.underlying3) (Opens.opensFs_cons (da := Kd.int .i64) rfl (by kernel_rfl) (Opens.opens_int Try.underlying3) (Opens.opensFs_cons (da := Kd.string) rfl (by kernel_rfl) (Opens.opens_string Try.underlying9) (Opens.opensFs_last rfl (by kernel_rfl) (Opens.opens_slice (d := Kd.int .i64) Try.underlying42 (by kernel_rfl) (Opens.opens_int Try.underlying3)))))))))))))))))) H enc W 0 _ true m0 _ _ hm0
  obtain ⟨_, _, e0, q0_0, _, _, rfl, q0_1, q0_2⟩ := hK0
  obtain rfl := q0_0
  obtain ⟨A0_1, c0_1, rfl, hc0_1, hr0_1⟩ := q0_1
  obtain ⟨A0_2, c0_2, rfl, hc0_2, hr0_2⟩ := q0_2
  obtain rfl : cs0 = #[.int .i64 x0.1, .slice A0_1 x0.2.1.length c0_1, .slice A0_2 x0.2.2.length c0_2] := by have e0' := congrArg List.toArray e0; simpa [Value.cells] using e0'
  obtain ⟨a1, len1, cap1, rfl⟩ := okWide_slice Try.underlying26 (hval 1 26 v1 rfl rfl)
  have k1 := h1
  have lt1 : ∀ x ∈ p1, x.block < W.heap.size := by obtain ⟨m, hm⟩ := k1; exact DataW.trod_lt m _ _ _ hm
  obtain ⟨m1, hm1⟩ := h1
  obtain ⟨l1, hK1, hw1⟩ := (Opens.opens_slice (d := Pr.k41) Try.underlying26 (by kernel_rfl) (Opens.opens_iso (fun x : Pr.S41 => (x.f0, x.f1, x.f2, x.f3)) (fun y => (⟨y.1, y.2.1, y.2.2.1, y.2.2.2⟩ : Pr.S41)) (fun _ => rfl) (Opens.opens_struct Try.underlying41 (by kernel_rfl) (Opens.opensFs_cons (da := Kd.int .i64) rfl (by kernel_rfl) (Opens.opens_int Try.underlying3) (Opens.opensFs_cons (da := Kd.int .i64) rfl (by kernel_rfl) (Opens.opens_int Try.underlying3) (Opens.opensFs_cons (da := Kd.string) rfl (by kernel_rfl) (Opens.opens_string Try.underlying9) (Opens.opensFs_last rfl (by kernel_rfl) (Opens.opens_int Try.underlying3)))))))) H enc W 0 _ true m1 _ _ hm1
  obtain ⟨hn1, hc1, hr1⟩ := Opens.slice_of_K rfl hK1
  subst hn1
  obtain ⟨a2, rfl, rfl, rfl, w2⟩ := open_int Try.underlying3 (hval 2 3 v2 rfl rfl) h2
  clear hA0 hval0 hsz0 hsz
  have hP := Pure.LeastRises x0.1 x0.2.1 x0.2.2 hw0 l1 hw1 a2 w2
  obtain ⟨k, hP⟩ := hP
  refine (Pr.gumshoelaw14_LeastRises.calls k x0.1 _ _ x0.2.1 _ _ x0.2.2 _ _ l1 a2 true W hr0_1 hc0_1 hr0_2 hc0_2 hr1 hc1 hP).mono fun e W' ⟨he, bel⟩ => ?_
  subst he
  exact ⟨_, rfl, _, _, _, [], _, [], hW', trodAll_mk1 (shut_bool Try.underlying4 _), (trodAll_cons_mk (Below.trod laidOut (by kernel_rfl) (of_decide_eq_true (by kernel_rfl)) k0 bel lt0) (trodAll_cons_mk (Below.trod laidOut (by kernel_rfl) (of_decide_eq_true (by kernel_rfl)) k1 bel lt1) (trodAll_cons_mk (shut_int Try.underlying3 w2) trodAll_mk0))), rfl, bel.frame _, fun h => by cases h⟩
theorem over : Rows.leastRisesRow.holds Try.pinned (OpenSpec.ofChange Rows.leastRisesSpec) :=
  OpenClaim.holds_of_wide 6 Try.f6 rfl rfl rfl rfl rfl rfl rfl ⟨rfl, rfl, rfl, rfl, rfl⟩ rfl rfl rfl rfl rfl (by kernel_rfl) Try.func6 (by kernel_rfl)
    (of_decide_eq_true (by kernel_rfl)) (by unfold Func.isWrapper; first | (rw [if_pos (by decide +kernel)]; kernel_rfl) | (rw [if_neg (by decide +kernel)]; exact ⟨rfl, rfl⟩))
    (fun os started H enc _ => lifted os started H enc)
theorem proved : Rows.LeastRisesSaid := over
end Go.Proofs.Ytngppcmdaanheaa.leastRises
namespace Go.Proofs.Ytngppcmdaanheaa
theorem leastRises_holds : Rows.LeastRisesSaid := leastRises.proved
end Go.Proofs.Ytngppcmdaanheaa

