/- Lemmas for the claims of this seat (own texts, packed; what the claims do not use is left out). No condition. -/
import Derived.Test.YtngppcmdaanheaaMj0
import Derived.Test.YtngppcmdaanheaaMj1
import Derived.Test.YtngppcmdaanheaaMj3
/- solve.areSets, as a contract that the print takes. No condition. -/
namespace Go.Proofs.Ytngppcmdaanheaa.Ls
open Go.RowKit Go.Maps Go.Proofs.Ytngppcmdaanheaa.Iter Go.Proofs.Ytngppcmdaanheaa.ISet Go.Proofs.Ytngppcmdaanheaa.Pr Go.Proofs.Ytngppcmdaanheaa.Ext Go.Proofs.YtngppcmdaanheaaW.PrintWords Go.Proofs.YtngppcmdaanheaaW.PrintLast Go.Proofs.YtngppcmdaanheaaW.PrintMore
set_option linter.unusedVariables false
set_option linter.unusedSimpArgs false
theorem cell_of_blk4 {W : World} {g : Nat} {t : TypeId} {a b c : Value} (h : W.heap[g]? = some (.cells #[a, b, c] t (0, 0))) : W.cell? ⟨g, 0, none⟩ = some a := by
  simp [World.cell?, h]
def isNo (s0 : Int) (n : Int) : Bool := decide (n < 0) || decide (n ≥ s0)
def setsB (s0 : Int) (l : List Int) : Bool := !(l.any (isNo s0))
theorem areSets1_calls (s0 n : Int) (b : Nat) (w : World) (h : w.cell? ⟨b, 0, none⟩ = some (.int .i64 s0)) :
    Calls Try.prog 65 #[.int .i64 n, .pointer (some ⟨b, 0, none⟩)] w fun e w' => e = .returned (.bool (isNo s0 n)) ∧ Below w.heap.size w w' := by
  by_cases hn : n < 0
  · have hd : decide (n < 0) = true := decide_eq_true hn
    have he : isNo s0 n = true := by unfold isNo; rw [hd]; rfl
    rw [he]
    go_enter Try.func65, Try.ntmps65
    go_wp2
    go_ret
    exact ⟨rfl, Below.refl _ _⟩
  · have hd : decide (n < 0) = false := decide_eq_false hn
    have he : isNo s0 n = decide (n ≥ s0) := by unfold isNo; rw [hd]; rfl
    rw [he]
    go_enter Try.func65, Try.ntmps65
    go_wp2
    go_ret
    exact ⟨rfl, Below.refl _ _⟩
def solve_areSets.f (a0_0 : Int) (l0_1 : List S44) (l0_2 : List S46) (l1 : List Int) : Option Bool := if l1.length ≤ 140737488355328 then some (setsB a0_0 l1) else none
theorem solve_areSets.calls (a0_0 : Int) (A0_1 : Option Addr) (c0_1 : Nat) (l0_1 : List S44) (A0_2 : Option Addr) (c0_2 : Nat) (l0_2 : List S46) (A1 : Option Addr) (c1 : Nat) (l1 : List Int) (r : Bool) (w : World)
    (hr0_1 : Kd.C k44 w A0_1 l0_1.length l0_1) (hc0_1 : l0_1.length ≤ c0_1) (hr0_2 : Kd.C k46 w A0_2 l0_2.length l0_2) (hc0_2 : l0_2.length ≤ c0_2) (hr1 : Kd.C (Kd.int .i64) w A1 l1.length l1) (hc1 : l1.length ≤ c1) (h : solve_areSets.f a0_0 l0_1 l0_2 l1 = some r) :
    Calls Try.prog 46 #[.agg #[.int .i64 a0_0, .slice A0_1 l0_1.length c0_1, .slice A0_2 l0_2.length c0_2], .slice A1 l1.length c1] w fun e w' => e = .returned (.bool r) ∧ Below w.heap.size w w' := by
  unfold solve_areSets.f at h
  by_cases hl : l1.length ≤ 140737488355328
  · rw [if_pos hl] at h
    obtain rfl : setsB a0_0 l1 = r := by injection h
    have hb : Below w.heap.size w (w.alloc (.cells #[.int .i64 a0_0, .slice A0_1 l0_1.length c0_1, .slice A0_2 l0_2.length c0_2] 25)) := below_alloc (Below.refl _ w) _
    have hc : (w.alloc (.cells #[.int .i64 a0_0, .slice A0_1 l0_1.length c0_1, .slice A0_2 l0_2.length c0_2] 25)).cell? ⟨w.heap.size, 0, none⟩ = some (.int .i64 a0_0) := cell_of_blk4 (heap_alloc_new _ _)
    have HI := Aside0.mk (containsI (.func (.func 65) #[] #[.pointer (some ⟨w.heap.size, 0, none⟩)]) (isNo a0_0) A1 c1 l1 _
      ⟨_, _, rfl, (enters_of Try.func65 (by kernel_rfl) rfl), fun W' hb' n => areSets1_calls a0_0 n _ W' ((hb'.cell (by simp)).trans hc)⟩ (Kd.C_below hr1 hb) hc1 hl)
    have HB := Aside0.mk hb
    clear hb hc hr0_1 hr0_2 hr1
    go_enter Try.func46, Try.ntmps46
    go_wp2_with (go_at_call 64; refine HI.out.mono ?_; rintro e w1 ⟨rfl, hb1⟩; have HB1 := Aside0.mk (below_step HB.out hb1); clear hb1)
    go_ret
    exact ⟨rfl, HB1.out⟩
  · rw [if_neg hl] at h
    cases h
end Go.Proofs.Ytngppcmdaanheaa.Ls

-- WRITTEN BY hprint.py (a patched scratch copy of print.py, see NOTES.md): out of the translation and of contracts proved by hand.
namespace Go.Proofs.Ytngppcmdaanheaa.Pr
open Go.RowKit Go.Proofs.Ytngppcmdaanheaa.Ls Go.Proofs.Ytngppcmdaanheaa.Va Go.Proofs.YtngppcmdaanheaaW.PrintWords Go.Proofs.YtngppcmdaanheaaW.PrintLast Go.Proofs.YtngppcmdaanheaaW.PrintMore
attribute [local go_sem] max2_int min2_int max_two min_two
set_option linter.unusedVariables false
set_option linter.unusedSimpArgs false
/-! ### solve_fits: function 49 -/
mutual
def solve_fits.j0 : Nat → Bool → Int → Int → Int → Int → Int → Int → Int → ByteArray → List Int → Int → List (S44) → List (S46) → Option (Bool)
  | 0, _, _, _, _, _, _, _, _, _, _, _, _, _ => none
  | k + 1, x24, x380000, x380001, x380002, x380003, x380004, x380005, x380006, x380007, x380008, x381000, x381001, x381002 => if x24 = true then (some false) else (if x380006 ≥ 4 then (solve_fits.j1 k (decide (x380006 ≤ 1000000)) x380000 x380001 x380002 x380003 x380004 x380005 x380006 x380007 x380008 x381000 x381001 x381002) else (solve_fits.j1 k false x380000 x380001 x380002 x380003 x380004 x380005 x380006 x380007 x380008 x381000 x381001 x381002))
def solve_fits.j1 : Nat → Bool → Int → Int → Int → Int → Int → Int → Int → ByteArray → List Int → Int → List (S44) → List (S46) → Option (Bool)
  | 0, _, _, _, _, _, _, _, _, _, _, _, _, _ => none
  | k + 1, x5, x380000, x380001, x380002, x380003, x380004, x380005, x380006, x380007, x380008, x381000, x381001, x381002 => if x380000 = 1 then (some x5) else (if x380000 = 2 then (if x380005 > 0 then (some (decide (x380005 < (x381001.length : Int)))) else (some false)) else (if x380000 = 8 then (if x380004 = (-1) then (solve_fits.j3 k x5 false x380000 x380001 x380002 x380003 x380004 x380005 x380006 x380007 x380008 x381000 x381001 x381002) else ((solve_areSets.f x381000 x381001 x381002 (([x380004] : List Int))).bind fun t392 => (solve_fits.j3 k x5 (!t392) x380000 x380001 x380002 x380003 x380004 x380005 x380006 x380007 x380008 x381000 x381001 x381002))) else (if x380000 = 9 then (solve_fits.j4 k x5 x380000 x380001 x380002 x380003 x380004 x380005 x380006 x380007 x380008 x381000 x381001 x381002) else (if x380000 = 3 then (solve_fits.j2 k (x380000 == 3) x380000 x380001 x380002 x380003 x380004 x380005 x380006 x380007 x380008 x381000 x381001 x381002) else (if x380000 = 4 then (solve_fits.j2 k (x380000 == 4) x380000 x380001 x380002 x380003 x380004 x380005 x380006 x380007 x380008 x381000 x381001 x381002) else (if x380000 = 5 then (solve_fits.j2 k (x380000 == 5) x380000 x380001 x380002 x380003 x380004 x380005 x380006 x380007 x380008 x381000 x381001 x381002) else (if x380000 = 6 then (solve_fits.j2 k (x380000 == 6) x380000 x380001 x380002 x380003 x380004 x380005 x380006 x380007 x380008 x381000 x381001 x381002) else (solve_fits.j2 k (x380000 == 7) x380000 x380001 x380002 x380003 x380004 x380005 x380006 x380007 x380008 x381000 x381001 x381002))))))))
def solve_fits.j4 : Nat → Bool → Int → Int → Int → Int → Int → Int → Int → ByteArray → List Int → Int → List (S44) → List (S46) → Option (Bool)
  | 0, _, _, _, _, _, _, _, _, _, _, _, _, _ => none
  | k + 1, x5, x380000, x380001, x380002, x380003, x380004, x380005, x380006, x380007, x380008, x381000, x381001, x381002 => if x5 = true then ((solve_areSets.f x381000 x381001 x381002 (([x380003, x380005] : List Int))).bind fun t396 => (if t396 = true then ((solve_areSets.f x381000 x381001 x381002 x380008).bind fun t397 => (if t397 = true then (some (decide ((x380008.length : Int) ≤ 200))) else (some false))) else (some false))) else (some false)
def solve_fits.j3 : Nat → Bool → Bool → Int → Int → Int → Int → Int → Int → Int → ByteArray → List Int → Int → List (S44) → List (S46) → Option (Bool)
  | 0, _, _, _, _, _, _, _, _, _, _, _, _, _, _ => none
  | k + 1, x5, x71, x380000, x380001, x380002, x380003, x380004, x380005, x380006, x380007, x380008, x381000, x381001, x381002 => if x71 = true then (some false) else (solve_fits.j4 k x5 x380000 x380001 x380002 x380003 x380004 x380005 x380006 x380007 x380008 x381000 x381001 x381002)
def solve_fits.j2 : Nat → Bool → Int → Int → Int → Int → Int → Int → Int → ByteArray → List Int → Int → List (S44) → List (S46) → Option (Bool)
  | 0, _, _, _, _, _, _, _, _, _, _, _, _, _ => none
  | k + 1, x43, x380000, x380001, x380002, x380003, x380004, x380005, x380006, x380007, x380008, x381000, x381001, x381002 => if x43 = true then ((solve_areSets.f x381000 x381001 x381002 (([x380003] : List Int))).bind fun t388 => (some t388)) else (some false)
end
def solve_fits.f (k : Nat) (a0_0 : Int) (a0_1 : Int) (a0_2 : Int) (a0_3 : Int) (a0_4 : Int) (a0_5 : Int) (a0_6 : Int) (a0_7 : ByteArray) (l0_8 : List Int) (a1_0 : Int) (l1_1 : List (S44)) (l1_2 : List (S46)) : Option (Bool) := if a0_1 < 0 then (solve_fits.j0 k true a0_0 a0_1 a0_2 a0_3 a0_4 a0_5 a0_6 a0_7 l0_8 a1_0 l1_1 l1_2) else (if a0_1 ≥ (l1_1.length : Int) then (solve_fits.j0 k true a0_0 a0_1 a0_2 a0_3 a0_4 a0_5 a0_6 a0_7 l0_8 a1_0 l1_1 l1_2) else ((solve_areSets.f a1_0 l1_1 l1_2 (([a0_2] : List Int))).bind fun t384 => (solve_fits.j0 k (!t384) a0_0 a0_1 a0_2 a0_3 a0_4 a0_5 a0_6 a0_7 l0_8 a1_0 l1_1 l1_2)))
set_option maxHeartbeats 8000000 in
set_option maxRecDepth 100000 in
theorem solve_fits.calls (k : Nat) (a0_0 : Int) (a0_1 : Int) (a0_2 : Int) (a0_3 : Int) (a0_4 : Int) (a0_5 : Int) (a0_6 : Int) (a0_7 : ByteArray) (A0_8 : Option Addr) (c0_8 : Nat) (l0_8 : List Int) (a1_0 : Int) (A1_1 : Option Addr) (c1_1 : Nat) (l1_1 : List (S44)) (A1_2 : Option Addr) (c1_2 : Nat) (l1_2 : List (S46)) (r : Bool) (w : World) (hr0_8 : Kd.C (Kd.int .i64) w A0_8 l0_8.length l0_8) (hc0_8 : l0_8.length ≤ c0_8) (hr1_1 : Kd.C k44 w A1_1 l1_1.length l1_1) (hc1_1 : l1_1.length ≤ c1_1) (hr1_2 : Kd.C k46 w A1_2 l1_2.length l1_2) (hc1_2 : l1_2.length ≤ c1_2) (h : solve_fits.f k a0_0 a0_1 a0_2 a0_3 a0_4 a0_5 a0_6 a0_7 l0_8 a1_0 l1_1 l1_2 = some r) :
    Calls Try.prog 49 #[.agg #[.int .i64 a0_0, .int .i64 a0_1, .int .i64 a0_2, .int .i64 a0_3, .int .i64 a0_4, .int .i64 a0_5, .int .i64 a0_6, .string a0_7, .slice A0_8 l0_8.length c0_8], .agg #[.int .i64 a1_0, .slice A1_1 l1_1.length c1_1, .slice A1_2 l1_2.length c1_2]] w fun e w' => e = .returned (.bool r) ∧ Below w.heap.size w w' := by
  have hu46 := Try.underlying46
  have hu25 := Try.underlying25
  have HR0_8 := Aside0.mk hr0_8
  have HC0_8 := Aside0.mk hc0_8
  clear hr0_8 hc0_8
  have HR1_1 := Aside0.mk hr1_1
  have HC1_1 := Aside0.mk hc1_1
  clear hr1_1 hc1_1
  have HR1_2 := Aside0.mk hr1_2
  have HC1_2 := Aside0.mk hc1_2
  clear hr1_2 hc1_2
  have HB := Aside0.mk (Below.refl w.heap.size w)
  have H : (if a0_1 < 0 then (solve_fits.j0 k true a0_0 a0_1 a0_2 a0_3 a0_4 a0_5 a0_6 a0_7 l0_8 a1_0 l1_1 l1_2) else (if a0_1 ≥ (l1_1.length : Int) then (solve_fits.j0 k true a0_0 a0_1 a0_2 a0_3 a0_4 a0_5 a0_6 a0_7 l0_8 a1_0 l1_1 l1_2) else ((solve_areSets.f a1_0 l1_1 l1_2 (([a0_2] : List Int))).bind fun t384 => (solve_fits.j0 k (!t384) a0_0 a0_1 a0_2 a0_3 a0_4 a0_5 a0_6 a0_7 l0_8 a1_0 l1_1 l1_2)))) = some r := h
  clear h
  have HC3 := Aside0.mk H
  clear H
  go_enter Try.func49, Try.ntmps49
  go_upto_region 1 with (first | ((with_reducible refine gate_dst (N := 2) rfl ?_); (try (refine gate_guard (by rfl) ?_; dsimp only)); refine box_event ?hg (N := 2) ?hd (cs := #[.int .i64 a0_0, .int .i64 a0_1, .int .i64 a0_2, .int .i64 a0_3, .int .i64 a0_4, .int .i64 a0_5, .int .i64 a0_6, .string a0_7, .slice A0_8 l0_8.length c0_8]) (t := 46) ?hr ?_; (case hd => rfl); (case hg => rfl); (case hr => first | (go_simp; done) | (go_simp; rfl)); intro gb379 hg w4 hbox hb; have n0_ := Aside0.mk (below_step (by repeat (first | (with_reducible first | exact HB.out | apply below_alloc | apply pw_below_drewN | apply below_drew1) | exact HB.out)) hb); have n1_ := Aside0.mk (hbox); have n2_ := Aside0.mk ((by rw [hg]; exact (below_size (by repeat (first | (with_reducible first | exact HB.out | apply below_alloc | apply pw_below_drewN | apply below_drew1) | exact HB.out))) : w.heap.size ≤ gb379)); have n3_ := Aside0.mk ((by rw [hg]; exact (below_size (by repeat (first | (with_reducible first | exact HB.out | apply below_alloc | apply pw_below_drewN | apply below_drew1) | exact HB.out))) : w.heap.size ≤ gb379)); clear HB; have HB := n0_; have BK379 := n1_; have GW379 := n2_; have GE379 := n3_; clear n0_ n1_ n2_ n3_; clear hb hbox hg) | ((with_reducible refine gate_dst (N := 3) rfl ?_); (try (refine gate_guard (by rfl) ?_; dsimp only)); refine box_event ?hg (N := 3) ?hd (cs := #[.int .i64 a1_0, .slice A1_1 l1_1.length c1_1, .slice A1_2 l1_2.length c1_2]) (t := 25) ?hr ?_; (case hd => rfl); (case hg => rfl); (case hr => first | (go_simp; done) | (go_simp; rfl)); intro gb380 hg w5 hbox hb; have n0_ := Aside0.mk (blk_below (g := gb379) (o := .cells #[.int .i64 a0_0, .int .i64 a0_1, .int .i64 a0_2, .int .i64 a0_3, .int .i64 a0_4, .int .i64 a0_5, .int .i64 a0_6, .string a0_7, .slice A0_8 l0_8.length c0_8] 46 (0, 0)) (by (with_reducible repeat (first | refine blk_drewN ?_ _ | refine blk_drew ?_ | refine blk_alloc ?_ _)); exact BK379.out) hb); have n1_ := Aside0.mk (below_step (by repeat (first | (with_reducible first | exact HB.out | apply below_alloc | apply pw_below_drewN | apply below_drew1 | refine below_set ?_ GE379.out) | exact HB.out)) hb); have n2_ := Aside0.mk (hbox); have n3_ := Aside0.mk ((by rw [hg]; exact (below_size (by repeat (first | (with_reducible first | exact HB.out | apply below_alloc | apply pw_below_drewN | apply below_drew1 | refine below_set ?_ GE379.out) | exact HB.out))) : w.heap.size ≤ gb380)); have n4_ := Aside0.mk ((by rw [hg]; exact (below_size (by repeat (first | (with_reducible first | exact HB.out | apply below_alloc | apply pw_below_drewN | apply below_drew1 | refine below_set ?_ GE379.out) | exact HB.out))) : w.heap.size ≤ gb380)); have n5_ := Aside0.mk ((by rw [hg]; exact Nat.ne_of_lt (blk_lt (g := gb379) (o := .cells #[.int .i64 a0_0, .int .i64 a0_1, .int .i64 a0_2, .int .i64 a0_3, .int .i64 a0_4, .int .i64 a0_5, .int .i64 a0_6, .string a0_7, .slice A0_8 l0_8.length c0_8] 46 (0, 0)) (by (with_reducible repeat (first | refine blk_drewN ?_ _ | refine blk_drew ?_ | refine blk_alloc ?_ _)); exact BK379.out)) : gb379 ≠ gb380)); have n6_ := Aside0.mk ((by rw [hg]; exact Nat.ne_of_gt (blk_lt (g := gb379) (o := .cells #[.int .i64 a0_0, .int .i64 a0_1, .int .i64 a0_2, .int .i64 a0_3, .int .i64 a0_4, .int .i64 a0_5, .int .i64 a0_6, .string a0_7, .slice A0_8 l0_8.length c0_8] 46 (0, 0)) (by (with_reducible repeat (first | refine blk_drewN ?_ _ | refine blk_drew ?_ | refine blk_alloc ?_ _)); exact BK379.out)) : gb380 ≠ gb379)); clear BK379; clear HB; have BK379 := n0_; have HB := n1_; have BK380 := n2_; have GW380 := n3_; have GE380 := n4_; have NB379_380 := n5_; have NB380_379 := n6_; clear n0_ n1_ n2_ n3_ n4_ n5_ n6_; clear hb hbox hg))
  (try simp only [Act.put, List.setIfInBounds_toArray, List.set_cons_zero, List.set_cons_succ])
  go_cut [24] (fun v24 wc => ∃ (kq : Nat) (x24_2 : Bool), v24 = .bool x24_2 ∧ Aside0 (solve_fits.j0 kq x24_2 a0_0 a0_1 a0_2 a0_3 a0_4 a0_5 a0_6 a0_7 l0_8 a1_0 l1_1 l1_2 = some r) ∧ Aside0 (kq ≤ k) ∧ Aside0 (wc.heap[gb379]? = some (.cells #[.int .i64 a0_0, .int .i64 a0_1, .int .i64 a0_2, .int .i64 a0_3, .int .i64 a0_4, .int .i64 a0_5, .int .i64 a0_6, .string a0_7, (.slice A0_8 l0_8.length c0_8)] 46 (0, 0))) ∧ Aside0 (wc.heap[gb380]? = some (.cells #[.int .i64 a1_0, (.slice A1_1 l1_1.length c1_1), (.slice A1_2 l1_2.length c1_2)] 25 (0, 0))) ∧ Aside0 (Below w.heap.size w wc))
  case first =>
    have H := HC3.out
    clear HC3
    by_cases c6 : a0_1 < 0
    · rw [if_pos c6] at H
      have c6b0 : decide (a0_1 < 0) = true := decide_eq_true c6
      clear c6
      (first | rw [c6b0] | (simp only [i64_w, i32_w]; rw [c6b0]) | skip)
      have H' := Aside0.mk H
      clear H
      have hnb7 := NB379_380.out
      have hnc7 := NB380_379.out
      have hcz8_0 : w5.cell? ⟨gb379, 0, none⟩ = some (.int .i64 a0_0) := (blk_cell BK379.out 0).trans rfl
      have hcz8_1 : w5.cell? ⟨gb379, 1, none⟩ = some (.int .i64 a0_1) := (blk_cell BK379.out 1).trans rfl
      have hcz8_2 : w5.cell? ⟨gb379, 2, none⟩ = some (.int .i64 a0_2) := (blk_cell BK379.out 2).trans rfl
      have hcz8_3 : w5.cell? ⟨gb379, 3, none⟩ = some (.int .i64 a0_3) := (blk_cell BK379.out 3).trans rfl
      have hcz8_4 : w5.cell? ⟨gb379, 4, none⟩ = some (.int .i64 a0_4) := (blk_cell BK379.out 4).trans rfl
      have hcz8_5 : w5.cell? ⟨gb379, 5, none⟩ = some (.int .i64 a0_5) := (blk_cell BK379.out 5).trans rfl
      have hcz8_6 : w5.cell? ⟨gb379, 6, none⟩ = some (.int .i64 a0_6) := (blk_cell BK379.out 6).trans rfl
      have hcz8_7 : w5.cell? ⟨gb379, 7, none⟩ = some (.string a0_7) := (blk_cell BK379.out 7).trans rfl
      have hcz8_8 : w5.cell? ⟨gb379, 8, none⟩ = some (.slice A0_8 l0_8.length c0_8) := (blk_cell BK379.out 8).trans rfl
      have hfz8_0 := blk_frozen BK379.out 0
      have hfz8_1 := blk_frozen BK379.out 1
      have hfz8_2 := blk_frozen BK379.out 2
      have hfz8_3 := blk_frozen BK379.out 3
      have hfz8_4 := blk_frozen BK379.out 4
      have hfz8_5 := blk_frozen BK379.out 5
      have hfz8_6 := blk_frozen BK379.out 6
      have hfz8_7 := blk_frozen BK379.out 7
      have hfz8_8 := blk_frozen BK379.out 8
      go_wp2
      go_meet
      case rel => exact ⟨_, (true), (by first | rfl | (simp; done) | (simp [*]; done) | (simp [*]; exact (fun (l_ : List UInt8) => (by cases l_ <;> rfl : l_.isEmpty = !(l_ != []))) _)), H', ⟨by first | omega | exact Nat.le_refl _⟩, ⟨by (with_reducible repeat (first | refine blk_drewN ?_ _ | refine blk_drew ?_ | refine blk_alloc ?_ _)); exact BK379.out⟩, ⟨by (with_reducible repeat (first | refine blk_drewN ?_ _ | refine blk_drew ?_ | refine blk_alloc ?_ _)); exact BK380.out⟩, ⟨by repeat (first | (with_reducible first | exact HB.out | apply below_alloc | apply pw_below_drewN | apply below_drew1 | refine below_set ?_ GE379.out | refine below_set ?_ GE380.out) | exact HB.out)⟩⟩
    · rw [if_neg c6] at H
      have c6b0 : decide (a0_1 < 0) = false := decide_eq_false c6
      clear c6
      (first | rw [c6b0] | (simp only [i64_w, i32_w]; rw [c6b0]) | skip)
      by_cases c9 : a0_1 ≥ (l1_1.length : Int)
      · rw [if_pos c9] at H
        have c9b0 : decide ((l1_1.length : Int) ≤ a0_1) = true := decide_eq_true c9
        clear c9
        have H' := Aside0.mk H
        clear H
        have hnb10 := NB379_380.out
        have hnc10 := NB380_379.out
        have hcz11_0 : w5.cell? ⟨gb379, 0, none⟩ = some (.int .i64 a0_0) := (blk_cell BK379.out 0).trans rfl
        have hcz11_1 : w5.cell? ⟨gb379, 1, none⟩ = some (.int .i64 a0_1) := (blk_cell BK379.out 1).trans rfl
        have hcz11_2 : w5.cell? ⟨gb379, 2, none⟩ = some (.int .i64 a0_2) := (blk_cell BK379.out 2).trans rfl
        have hcz11_3 : w5.cell? ⟨gb379, 3, none⟩ = some (.int .i64 a0_3) := (blk_cell BK379.out 3).trans rfl
        have hcz11_4 : w5.cell? ⟨gb379, 4, none⟩ = some (.int .i64 a0_4) := (blk_cell BK379.out 4).trans rfl
        have hcz11_5 : w5.cell? ⟨gb379, 5, none⟩ = some (.int .i64 a0_5) := (blk_cell BK379.out 5).trans rfl
        have hcz11_6 : w5.cell? ⟨gb379, 6, none⟩ = some (.int .i64 a0_6) := (blk_cell BK379.out 6).trans rfl
        have hcz11_7 : w5.cell? ⟨gb379, 7, none⟩ = some (.string a0_7) := (blk_cell BK379.out 7).trans rfl
        have hcz11_8 : w5.cell? ⟨gb379, 8, none⟩ = some (.slice A0_8 l0_8.length c0_8) := (blk_cell BK379.out 8).trans rfl
        have hfz11_0 := blk_frozen BK379.out 0
        have hfz11_1 := blk_frozen BK379.out 1
        have hfz11_2 := blk_frozen BK379.out 2
        have hfz11_3 := blk_frozen BK379.out 3
        have hfz11_4 := blk_frozen BK379.out 4
        have hfz11_5 := blk_frozen BK379.out 5
        have hfz11_6 := blk_frozen BK379.out 6
        have hfz11_7 := blk_frozen BK379.out 7
        have hfz11_8 := blk_frozen BK379.out 8
        have hcz12_0 : w5.cell? ⟨gb380, 0, none⟩ = some (.int .i64 a1_0) := (blk_cell BK380.out 0).trans rfl
        have hcz12_1 : w5.cell? ⟨gb380, 1, none⟩ = some (.slice A1_1 l1_1.length c1_1) := (blk_cell BK380.out 1).trans rfl
        have hcz12_2 : w5.cell? ⟨gb380, 2, none⟩ = some (.slice A1_2 l1_2.length c1_2) := (blk_cell BK380.out 2).trans rfl
        have hfz12_0 := blk_frozen BK380.out 0
        have hfz12_1 := blk_frozen BK380.out 1
        have hfz12_2 := blk_frozen BK380.out 2
        go_wp2
        go_meet
        case rel => exact ⟨_, (true), (by first | rfl | (simp; done) | (simp [*]; done) | (simp [*]; exact (fun (l_ : List UInt8) => (by cases l_ <;> rfl : l_.isEmpty = !(l_ != []))) _)), H', ⟨by first | omega | exact Nat.le_refl _⟩, ⟨by (with_reducible repeat (first | refine blk_drewN ?_ _ | refine blk_drew ?_ | refine blk_alloc ?_ _)); exact BK379.out⟩, ⟨by (with_reducible repeat (first | refine blk_drewN ?_ _ | refine blk_drew ?_ | refine blk_alloc ?_ _)); exact BK380.out⟩, ⟨by repeat (first | (with_reducible first | exact HB.out | apply below_alloc | apply pw_below_drewN | apply below_drew1 | refine below_set ?_ GE379.out | refine below_set ?_ GE380.out) | exact HB.out)⟩⟩
      · rw [if_neg c9] at H
        have c9b0 : decide ((l1_1.length : Int) ≤ a0_1) = false := decide_eq_false c9
        clear c9
        obtain ⟨y381, hy381⟩ : ∃ y_ : List Int, y_ = (([a0_2] : List Int)) := ⟨_, rfl⟩
        replace H : ((solve_areSets.f a1_0 l1_1 l1_2 y381).bind fun t384 => (solve_fits.j0 k (!t384) a0_0 a0_1 a0_2 a0_3 a0_4 a0_5 a0_6 a0_7 l0_8 a1_0 l1_1 l1_2)) = some r := by first | (rw [hy381]; with_reducible exact H) | (have H2_ := (Option.bind_some _ _).symm.trans H; rw [hy381]; with_reducible exact H2_) | (have H2_ := (Option.bind_some _ _).symm.trans H; with_reducible exact H2_) | with_reducible exact H | (rw [hy381]; exact H) | exact H
        have Ny381 := Aside0.mk hy381
        clear hy381
        replace H := Option.bind_eq_some_iff.mp H
        obtain ⟨t384, A130, H⟩ := H
        replace H : (solve_fits.j0 k (!t384) a0_0 a0_1 a0_2 a0_3 a0_4 a0_5 a0_6 a0_7 l0_8 a1_0 l1_1 l1_2) = some r := H
        have A13 := Aside0.mk A130
        clear A130
        have H' := Aside0.mk H
        clear H
        have hnb14 := NB379_380.out
        have hnc14 := NB380_379.out
        have hcz15_0 : w5.cell? ⟨gb379, 0, none⟩ = some (.int .i64 a0_0) := (blk_cell BK379.out 0).trans rfl
        have hcz15_1 : w5.cell? ⟨gb379, 1, none⟩ = some (.int .i64 a0_1) := (blk_cell BK379.out 1).trans rfl
        have hcz15_2 : w5.cell? ⟨gb379, 2, none⟩ = some (.int .i64 a0_2) := (blk_cell BK379.out 2).trans rfl
        have hcz15_3 : w5.cell? ⟨gb379, 3, none⟩ = some (.int .i64 a0_3) := (blk_cell BK379.out 3).trans rfl
        have hcz15_4 : w5.cell? ⟨gb379, 4, none⟩ = some (.int .i64 a0_4) := (blk_cell BK379.out 4).trans rfl
        have hcz15_5 : w5.cell? ⟨gb379, 5, none⟩ = some (.int .i64 a0_5) := (blk_cell BK379.out 5).trans rfl
        have hcz15_6 : w5.cell? ⟨gb379, 6, none⟩ = some (.int .i64 a0_6) := (blk_cell BK379.out 6).trans rfl
        have hcz15_7 : w5.cell? ⟨gb379, 7, none⟩ = some (.string a0_7) := (blk_cell BK379.out 7).trans rfl
        have hcz15_8 : w5.cell? ⟨gb379, 8, none⟩ = some (.slice A0_8 l0_8.length c0_8) := (blk_cell BK379.out 8).trans rfl
        have hfz15_0 := blk_frozen BK379.out 0
        have hfz15_1 := blk_frozen BK379.out 1
        have hfz15_2 := blk_frozen BK379.out 2
        have hfz15_3 := blk_frozen BK379.out 3
        have hfz15_4 := blk_frozen BK379.out 4
        have hfz15_5 := blk_frozen BK379.out 5
        have hfz15_6 := blk_frozen BK379.out 6
        have hfz15_7 := blk_frozen BK379.out 7
        have hfz15_8 := blk_frozen BK379.out 8
        have hcz16_0 : w5.cell? ⟨gb380, 0, none⟩ = some (.int .i64 a1_0) := (blk_cell BK380.out 0).trans rfl
        have hcz16_1 : w5.cell? ⟨gb380, 1, none⟩ = some (.slice A1_1 l1_1.length c1_1) := (blk_cell BK380.out 1).trans rfl
        have hcz16_2 : w5.cell? ⟨gb380, 2, none⟩ = some (.slice A1_2 l1_2.length c1_2) := (blk_cell BK380.out 2).trans rfl
        have hfz16_0 := blk_frozen BK380.out 0
        have hfz16_1 := blk_frozen BK380.out 1
        have hfz16_2 := blk_frozen BK380.out 2
        go_wp2_with (first | ((with_reducible refine gate_dst (N := 21) rfl ?_); (try (refine gate_guard (by rfl) ?_; dsimp only)); refine Kd.R_lit (Kd.int .i64) _ 3 ?hg (N := 21) ?hd (xs := ([a0_2] : List Int)) (inner := [.int .i64 a0_2]) (ok := fun _ => True) (okp := fun _ => True) ?hr ?hp (fun _ hk => hk) trivial (Below.refl _ _) (Nat.le_refl _) (by simp) ?_; (case hd => rfl); (case hg => rfl); (case hr => first | (go_simp; done) | (go_simp; rfl)); (case hp => exact (Reps.one (show Kd.M (Kd.int .i64) _ _ _ a0_2 [.int .i64 a0_2] from rfl) (Reps.none _ _))); intro v382 w17 ho18 hb hg_ hnew_; clear hg_ hnew_; (first | rw [← Ny381.out] at ho18 | (simp only [Int.reduceToNat] at ho18; rw [← Ny381.out] at ho18)); have n0_ := Aside0.mk (Kd.R_lower ho18 (below_size (by repeat (first | (with_reducible first | exact HB.out | apply below_alloc | apply pw_below_drewN | apply below_drew1 | refine below_set ?_ GE379.out | refine below_set ?_ GE380.out) | exact HB.out)))); have n1_ := Aside0.mk (blk_below (g := gb379) (o := .cells #[.int .i64 a0_0, .int .i64 a0_1, .int .i64 a0_2, .int .i64 a0_3, .int .i64 a0_4, .int .i64 a0_5, .int .i64 a0_6, .string a0_7, .slice A0_8 l0_8.length c0_8] 46 (0, 0)) (by (with_reducible repeat (first | refine blk_drewN ?_ _ | refine blk_drew ?_ | refine blk_alloc ?_ _)); exact BK379.out) hb); have n2_ := Aside0.mk (blk_below (g := gb380) (o := .cells #[.int .i64 a1_0, .slice A1_1 l1_1.length c1_1, .slice A1_2 l1_2.length c1_2] 25 (0, 0)) (by (with_reducible repeat (first | refine blk_drewN ?_ _ | refine blk_drew ?_ | refine blk_alloc ?_ _)); exact BK380.out) hb); have n3_ := Aside0.mk (below_step (by repeat (first | (with_reducible first | exact HB.out | apply below_alloc | apply pw_below_drewN | apply below_drew1 | refine below_set ?_ GE379.out | refine below_set ?_ GE380.out) | exact HB.out)) hb); clear BK379; clear BK380; clear HB; have HO383 := n0_; have BK379 := n1_; have BK380 := n2_; have HB := n3_; clear n0_ n1_ n2_ n3_; clear hb ho18; obtain ⟨Ao19, co19, eo19⟩ := Kd.R_slice HO383.out; subst eo19) | (go_at_call 46; (with_reducible refine (solve_areSets.calls a1_0 _ _ l1_1 _ _ l1_2 _ _ y381 t384 _ ?side1 ?side2 ?side3 ?side4 ?side5 ?side6 A13.out).mono ?_); (case side1 => repeat (first | exact (Kd.C_below HR1_1.out HB.out) | (with_reducible refine Kd.C_alloc ?_ _) | (with_reducible refine Kd.C_drewN ?_ _) | (with_reducible refine Kd.C_drew ?_))); (case side2 => exact HC1_1.out); (case side3 => repeat (first | exact (Kd.C_below HR1_2.out HB.out) | (with_reducible refine Kd.C_alloc ?_ _) | (with_reducible refine Kd.C_drewN ?_ _) | (with_reducible refine Kd.C_drew ?_))); (case side4 => exact HC1_2.out); (case side5 => repeat (first | exact (Kd.R_reads' HO383.out).2.2 | (with_reducible refine Kd.C_alloc ?_ _) | (with_reducible refine Kd.C_drewN ?_ _) | (with_reducible refine Kd.C_drew ?_))); (case side6 => exact (Kd.R_reads' HO383.out).2.1); rintro e w20 ⟨rfl, hb⟩; have n0_ := Aside0.mk (Kd.R_below (by (with_reducible repeat (first | apply Kd.R_alloc | apply Kd.R_drewN | apply Kd.R_drew)); exact HO383.out) hb); have n1_ := Aside0.mk (blk_below (g := gb379) (o := .cells #[.int .i64 a0_0, .int .i64 a0_1, .int .i64 a0_2, .int .i64 a0_3, .int .i64 a0_4, .int .i64 a0_5, .int .i64 a0_6, .string a0_7, .slice A0_8 l0_8.length c0_8] 46 (0, 0)) (by (with_reducible repeat (first | refine blk_drewN ?_ _ | refine blk_drew ?_ | refine blk_alloc ?_ _)); exact BK379.out) hb); have n2_ := Aside0.mk (blk_below (g := gb380) (o := .cells #[.int .i64 a1_0, .slice A1_1 l1_1.length c1_1, .slice A1_2 l1_2.length c1_2] 25 (0, 0)) (by (with_reducible repeat (first | refine blk_drewN ?_ _ | refine blk_drew ?_ | refine blk_alloc ?_ _)); exact BK380.out) hb); have n3_ := Aside0.mk (below_step (by repeat (first | (with_reducible first | exact HB.out | apply below_alloc | apply pw_below_drewN | apply below_drew1 | refine below_set ?_ GE379.out | refine below_set ?_ GE380.out) | exact HB.out)) hb); clear HO383; clear BK379; clear BK380; clear HB; have HO383 := n0_; have BK379 := n1_; have BK380 := n2_; have HB := n3_; clear n0_ n1_ n2_ n3_; (try clear hb); (try clear hb2); (try clear hk); (try clear hi)))
        go_meet
        case rel => exact ⟨_, (!t384), (by first | rfl | (simp; done) | (simp [*]; done) | (simp [*]; exact (fun (l_ : List UInt8) => (by cases l_ <;> rfl : l_.isEmpty = !(l_ != []))) _)), H', ⟨by first | omega | exact Nat.le_refl _⟩, ⟨by (with_reducible repeat (first | refine blk_drewN ?_ _ | refine blk_drew ?_ | refine blk_alloc ?_ _)); exact BK379.out⟩, ⟨by (with_reducible repeat (first | refine blk_drewN ?_ _ | refine blk_drew ?_ | refine blk_alloc ?_ _)); exact BK380.out⟩, ⟨by repeat (first | (with_reducible first | exact HB.out | apply below_alloc | apply pw_below_drewN | apply below_drew1 | refine below_set ?_ GE379.out | refine below_set ?_ GE380.out) | exact HB.out)⟩⟩
  case rest =>
    clear HC3
    try clear c1
    try clear p2
    try clear c4
    try clear c6
    try clear c6b0
    try clear c7
    try clear c9
    try clear c9b0
    try clear c10
    try clear c14
    try clear hcz11_0
    try clear hcz11_1
    try clear hcz11_2
    try clear hcz11_3
    try clear hcz11_4
    try clear hcz11_5
    try clear hcz11_6
    try clear hcz11_7
    try clear hcz11_8
    try clear hcz12_0
    try clear hcz12_1
    try clear hcz12_2
    try clear hcz15_0
    try clear hcz15_1
    try clear hcz15_2
    try clear hcz15_3
    try clear hcz15_4
    try clear hcz15_5
    try clear hcz15_6
    try clear hcz15_7
    try clear hcz15_8
    try clear hcz16_0
    try clear hcz16_1
    try clear hcz16_2
    try clear hcz8_0
    try clear hcz8_1
    try clear hcz8_2
    try clear hcz8_3
    try clear hcz8_4
    try clear hcz8_5
    try clear hcz8_6
    try clear hcz8_7
    try clear hcz8_8
    try clear hfz11_0
    try clear hfz11_1
    try clear hfz11_2
    try clear hfz11_3
    try clear hfz11_4
    try clear hfz11_5
    try clear hfz11_6
    try clear hfz11_7
    try clear hfz11_8
    try clear hfz12_0
    try clear hfz12_1
    try clear hfz12_2
    try clear hfz15_0
    try clear hfz15_1
    try clear hfz15_2
    try clear hfz15_3
    try clear hfz15_4
    try clear hfz15_5
    try clear hfz15_6
    try clear hfz15_7
    try clear hfz15_8
    try clear hfz16_0
    try clear hfz16_1
    try clear hfz16_2
    try clear hfz8_0
    try clear hfz8_1
    try clear hfz8_2
    try clear hfz8_3
    try clear hfz8_4
    try clear hfz8_5
    try clear hfz8_6
    try clear hfz8_7
    try clear hfz8_8
    obtain ⟨kq, x24_2, rfl, HA, HJ2, BK379, BK380, HB⟩ := hcut
    cases kq with
    | zero => exact absurd HA.out (by simp [solve_fits.j0])
    | succ kj2 =>
      have H := HA.out
      clear HA
      simp only [solve_fits.j0] at H
      by_cases c21 : x24_2 = true
      · subst c21
        have H1 : (some false) = some r := by rw [if_pos rfl] at H; exact H
        clear H
        have H := H1
        clear H1
        obtain rfl := Option.some.inj H
        go_wp2
        go_ret
        exact ⟨by first | rfl | (simp [errW_none, errW_some] <;> rfl) | (simp [*, errW_none, errW_some] <;> rfl) | (simp [*, errW_none, errW_some]; exact (fun (l_ : List UInt8) => (by cases l_ <;> rfl : l_.isEmpty = !(l_ != []))) _), by repeat (first | (with_reducible first | exact HB.out | apply below_alloc | apply pw_below_drewN | apply below_drew1 | refine below_set ?_ GE379.out | refine below_set ?_ GE380.out) | exact HB.out)⟩
      · replace c21 := Bool.eq_false_iff.mpr c21
        subst c21
        have H1 : (if a0_6 ≥ 4 then (solve_fits.j1 kj2 (decide (a0_6 ≤ 1000000)) a0_0 a0_1 a0_2 a0_3 a0_4 a0_5 a0_6 a0_7 l0_8 a1_0 l1_1 l1_2) else (solve_fits.j1 kj2 false a0_0 a0_1 a0_2 a0_3 a0_4 a0_5 a0_6 a0_7 l0_8 a1_0 l1_1 l1_2)) = some r := by rw [if_neg (show ¬ (false = true) by decide)] at H; exact H
        clear H
        have H := H1
        clear H1
        have HC22 := Aside0.mk H
        clear H
        go_upto_region 3 with (fail)
        go_cut [5] (fun v5 wc => ∃ (kq : Nat) (x5_21 : Bool), v5 = .bool x5_21 ∧ Aside0 (solve_fits.j1 kq x5_21 a0_0 a0_1 a0_2 a0_3 a0_4 a0_5 a0_6 a0_7 l0_8 a1_0 l1_1 l1_2 = some r) ∧ Aside0 (kq ≤ kj2) ∧ Aside0 (wc.heap[gb379]? = some (.cells #[.int .i64 a0_0, .int .i64 a0_1, .int .i64 a0_2, .int .i64 a0_3, .int .i64 a0_4, .int .i64 a0_5, .int .i64 a0_6, .string a0_7, (.slice A0_8 l0_8.length c0_8)] 46 (0, 0))) ∧ Aside0 (wc.heap[gb380]? = some (.cells #[.int .i64 a1_0, (.slice A1_1 l1_1.length c1_1), (.slice A1_2 l1_2.length c1_2)] 25 (0, 0))) ∧ Aside0 (Below w.heap.size w wc))
        case first =>
          have H := HC22.out
          clear HC22
          by_cases c23 : a0_6 ≥ 4
          · rw [if_pos c23] at H
            have c23b0 : decide (4 ≤ a0_6) = true := decide_eq_true c23
            clear c23
            (first | rw [c23b0] | (simp only [i64_w, i32_w]; rw [c23b0]) | skip)
            have H' := Aside0.mk H
            clear H
            have hnb24 := NB379_380.out
            have hnc24 := NB380_379.out
            have hcz25_0 : wc.cell? ⟨gb379, 0, none⟩ = some (.int .i64 a0_0) := (blk_cell BK379.out 0).trans rfl
            have hcz25_1 : wc.cell? ⟨gb379, 1, none⟩ = some (.int .i64 a0_1) := (blk_cell BK379.out 1).trans rfl
            have hcz25_2 : wc.cell? ⟨gb379, 2, none⟩ = some (.int .i64 a0_2) := (blk_cell BK379.out 2).trans rfl
            have hcz25_3 : wc.cell? ⟨gb379, 3, none⟩ = some (.int .i64 a0_3) := (blk_cell BK379.out 3).trans rfl
            have hcz25_4 : wc.cell? ⟨gb379, 4, none⟩ = some (.int .i64 a0_4) := (blk_cell BK379.out 4).trans rfl
            have hcz25_5 : wc.cell? ⟨gb379, 5, none⟩ = some (.int .i64 a0_5) := (blk_cell BK379.out 5).trans rfl
            have hcz25_6 : wc.cell? ⟨gb379, 6, none⟩ = some (.int .i64 a0_6) := (blk_cell BK379.out 6).trans rfl
            have hcz25_7 : wc.cell? ⟨gb379, 7, none⟩ = some (.string a0_7) := (blk_cell BK379.out 7).trans rfl
            have hcz25_8 : wc.cell? ⟨gb379, 8, none⟩ = some (.slice A0_8 l0_8.length c0_8) := (blk_cell BK379.out 8).trans rfl
            have hfz25_0 := blk_frozen BK379.out 0
            have hfz25_1 := blk_frozen BK379.out 1
            have hfz25_2 := blk_frozen BK379.out 2
            have hfz25_3 := blk_frozen BK379.out 3
            have hfz25_4 := blk_frozen BK379.out 4
            have hfz25_5 := blk_frozen BK379.out 5
            have hfz25_6 := blk_frozen BK379.out 6
            have hfz25_7 := blk_frozen BK379.out 7
            have hfz25_8 := blk_frozen BK379.out 8
            go_wp2
            go_meet
            case rel => exact ⟨_, (decide (a0_6 ≤ 1000000)), (by first | rfl | (simp; done) | (simp [*]; done) | (simp [*]; exact (fun (l_ : List UInt8) => (by cases l_ <;> rfl : l_.isEmpty = !(l_ != []))) _)), H', ⟨by have := HJ2.out; first | omega | exact Nat.le_refl _⟩, ⟨by (with_reducible repeat (first | refine blk_drewN ?_ _ | refine blk_drew ?_ | refine blk_alloc ?_ _)); exact BK379.out⟩, ⟨by (with_reducible repeat (first | refine blk_drewN ?_ _ | refine blk_drew ?_ | refine blk_alloc ?_ _)); exact BK380.out⟩, ⟨by repeat (first | (with_reducible first | exact HB.out | apply below_alloc | apply pw_below_drewN | apply below_drew1 | refine below_set ?_ GE379.out | refine below_set ?_ GE380.out) | exact HB.out)⟩⟩
          · rw [if_neg c23] at H
            have c23b0 : decide (4 ≤ a0_6) = false := decide_eq_false c23
            clear c23
            (first | rw [c23b0] | (simp only [i64_w, i32_w]; rw [c23b0]) | skip)
            have H' := Aside0.mk H
            clear H
            have hnb26 := NB379_380.out
            have hnc26 := NB380_379.out
            have hcz27_0 : wc.cell? ⟨gb379, 0, none⟩ = some (.int .i64 a0_0) := (blk_cell BK379.out 0).trans rfl
            have hcz27_1 : wc.cell? ⟨gb379, 1, none⟩ = some (.int .i64 a0_1) := (blk_cell BK379.out 1).trans rfl
            have hcz27_2 : wc.cell? ⟨gb379, 2, none⟩ = some (.int .i64 a0_2) := (blk_cell BK379.out 2).trans rfl
            have hcz27_3 : wc.cell? ⟨gb379, 3, none⟩ = some (.int .i64 a0_3) := (blk_cell BK379.out 3).trans rfl
            have hcz27_4 : wc.cell? ⟨gb379, 4, none⟩ = some (.int .i64 a0_4) := (blk_cell BK379.out 4).trans rfl
            have hcz27_5 : wc.cell? ⟨gb379, 5, none⟩ = some (.int .i64 a0_5) := (blk_cell BK379.out 5).trans rfl
            have hcz27_6 : wc.cell? ⟨gb379, 6, none⟩ = some (.int .i64 a0_6) := (blk_cell BK379.out 6).trans rfl
            have hcz27_7 : wc.cell? ⟨gb379, 7, none⟩ = some (.string a0_7) := (blk_cell BK379.out 7).trans rfl
            have hcz27_8 : wc.cell? ⟨gb379, 8, none⟩ = some (.slice A0_8 l0_8.length c0_8) := (blk_cell BK379.out 8).trans rfl
            have hfz27_0 := blk_frozen BK379.out 0
            have hfz27_1 := blk_frozen BK379.out 1
            have hfz27_2 := blk_frozen BK379.out 2
            have hfz27_3 := blk_frozen BK379.out 3
            have hfz27_4 := blk_frozen BK379.out 4
            have hfz27_5 := blk_frozen BK379.out 5
            have hfz27_6 := blk_frozen BK379.out 6
            have hfz27_7 := blk_frozen BK379.out 7
            have hfz27_8 := blk_frozen BK379.out 8
            go_wp2
            go_meet
            case rel => exact ⟨_, (false), (by first | rfl | (simp; done) | (simp [*]; done) | (simp [*]; exact (fun (l_ : List UInt8) => (by cases l_ <;> rfl : l_.isEmpty = !(l_ != []))) _)), H', ⟨by have := HJ2.out; first | omega | exact Nat.le_refl _⟩, ⟨by (with_reducible repeat (first | refine blk_drewN ?_ _ | refine blk_drew ?_ | refine blk_alloc ?_ _)); exact BK379.out⟩, ⟨by (with_reducible repeat (first | refine blk_drewN ?_ _ | refine blk_drew ?_ | refine blk_alloc ?_ _)); exact BK380.out⟩, ⟨by repeat (first | (with_reducible first | exact HB.out | apply below_alloc | apply pw_below_drewN | apply below_drew1 | refine below_set ?_ GE379.out | refine below_set ?_ GE380.out) | exact HB.out)⟩⟩
        case rest =>
          clear HC22
          try clear c1
          try clear c2
          try clear p2
          try clear c4
          try clear c6
          try clear c6b0
          try clear c7
          try clear c9
          try clear c9b0
          try clear c10
          try clear c14
          try clear c21
          try clear c23
          try clear c23b0
          try clear c24
          try clear c26
          try clear hcz11_0
          try clear hcz11_1
          try clear hcz11_2
          try clear hcz11_3
          try clear hcz11_4
          try clear hcz11_5
          try clear hcz11_6
          try clear hcz11_7
          try clear hcz11_8
          try clear hcz12_0
          try clear hcz12_1
          try clear hcz12_2
          try clear hcz15_0
          try clear hcz15_1
          try clear hcz15_2
          try clear hcz15_3
          try clear hcz15_4
          try clear hcz15_5
          try clear hcz15_6
          try clear hcz15_7
          try clear hcz15_8
          try clear hcz16_0
          try clear hcz16_1
          try clear hcz16_2
          try clear hcz25_0
          try clear hcz25_1
          try clear hcz25_2
          try clear hcz25_3
          try clear hcz25_4
          try clear hcz25_5
          try clear hcz25_6
          try clear hcz25_7
          try clear hcz25_8
          try clear hcz27_0
          try clear hcz27_1
          try clear hcz27_2
          try clear hcz27_3
          try clear hcz27_4
          try clear hcz27_5
          try clear hcz27_6
          try clear hcz27_7
          try clear hcz27_8
          try clear hcz8_0
          try clear hcz8_1
          try clear hcz8_2
          try clear hcz8_3
          try clear hcz8_4
          try clear hcz8_5
          try clear hcz8_6
          try clear hcz8_7
          try clear hcz8_8
          try clear hfz11_0
          try clear hfz11_1
          try clear hfz11_2
          try clear hfz11_3
          try clear hfz11_4
          try clear hfz11_5
          try clear hfz11_6
          try clear hfz11_7
          try clear hfz11_8
          try clear hfz12_0
          try clear hfz12_1
          try clear hfz12_2
          try clear hfz15_0
          try clear hfz15_1
          try clear hfz15_2
          try clear hfz15_3
          try clear hfz15_4
          try clear hfz15_5
          try clear hfz15_6
          try clear hfz15_7
          try clear hfz15_8
          try clear hfz16_0
          try clear hfz16_1
          try clear hfz16_2
          try clear hfz25_0
          try clear hfz25_1
          try clear hfz25_2
          try clear hfz25_3
          try clear hfz25_4
          try clear hfz25_5
          try clear hfz25_6
          try clear hfz25_7
          try clear hfz25_8
          try clear hfz27_0
          try clear hfz27_1
          try clear hfz27_2
          try clear hfz27_3
          try clear hfz27_4
          try clear hfz27_5
          try clear hfz27_6
          try clear hfz27_7
          try clear hfz27_8
          try clear hfz8_0
          try clear hfz8_1
          try clear hfz8_2
          try clear hfz8_3
          try clear hfz8_4
          try clear hfz8_5
          try clear hfz8_6
          try clear hfz8_7
          try clear hfz8_8
          try clear p2
          obtain ⟨kq, x5_21, rfl, HA, HJ21, BK379, BK380, HB⟩ := hcut
          cases kq with
          | zero => exact absurd HA.out (by simp [solve_fits.j1])
          | succ kj21 =>
            have H := HA.out
            clear HA
            simp only [solve_fits.j1] at H
            have HC28 := Aside0.mk H
            clear H
            have hnb29 := NB379_380.out
            have hnc29 := NB380_379.out
            have hcz30_0 : wc.cell? ⟨gb379, 0, none⟩ = some (.int .i64 a0_0) := (blk_cell BK379.out 0).trans rfl
            have hcz30_1 : wc.cell? ⟨gb379, 1, none⟩ = some (.int .i64 a0_1) := (blk_cell BK379.out 1).trans rfl
            have hcz30_2 : wc.cell? ⟨gb379, 2, none⟩ = some (.int .i64 a0_2) := (blk_cell BK379.out 2).trans rfl
            have hcz30_3 : wc.cell? ⟨gb379, 3, none⟩ = some (.int .i64 a0_3) := (blk_cell BK379.out 3).trans rfl
            have hcz30_4 : wc.cell? ⟨gb379, 4, none⟩ = some (.int .i64 a0_4) := (blk_cell BK379.out 4).trans rfl
            have hcz30_5 : wc.cell? ⟨gb379, 5, none⟩ = some (.int .i64 a0_5) := (blk_cell BK379.out 5).trans rfl
            have hcz30_6 : wc.cell? ⟨gb379, 6, none⟩ = some (.int .i64 a0_6) := (blk_cell BK379.out 6).trans rfl
            have hcz30_7 : wc.cell? ⟨gb379, 7, none⟩ = some (.string a0_7) := (blk_cell BK379.out 7).trans rfl
            have hcz30_8 : wc.cell? ⟨gb379, 8, none⟩ = some (.slice A0_8 l0_8.length c0_8) := (blk_cell BK379.out 8).trans rfl
            have hfz30_0 := blk_frozen BK379.out 0
            have hfz30_1 := blk_frozen BK379.out 1
            have hfz30_2 := blk_frozen BK379.out 2
            have hfz30_3 := blk_frozen BK379.out 3
            have hfz30_4 := blk_frozen BK379.out 4
            have hfz30_5 := blk_frozen BK379.out 5
            have hfz30_6 := blk_frozen BK379.out 6
            have hfz30_7 := blk_frozen BK379.out 7
            have hfz30_8 := blk_frozen BK379.out 8
            go_upto_block 4 with (fail)
            go_cut [] (fun wc => ∃ (kq : Nat), Aside0 (solve_fits.j4 kq x5_21 a0_0 a0_1 a0_2 a0_3 a0_4 a0_5 a0_6 a0_7 l0_8 a1_0 l1_1 l1_2 = some r) ∧ Aside0 (kq ≤ kj21) ∧ Aside0 (wc.heap[gb379]? = some (.cells #[.int .i64 a0_0, .int .i64 a0_1, .int .i64 a0_2, .int .i64 a0_3, .int .i64 a0_4, .int .i64 a0_5, .int .i64 a0_6, .string a0_7, (.slice A0_8 l0_8.length c0_8)] 46 (0, 0))) ∧ Aside0 (wc.heap[gb380]? = some (.cells #[.int .i64 a1_0, (.slice A1_1 l1_1.length c1_1), (.slice A1_2 l1_2.length c1_2)] 25 (0, 0))) ∧ Aside0 (Below w.heap.size w wc))
            case first =>
              have H := HC28.out
              clear HC28
              by_cases c31 : a0_0 = 1
              · rw [if_pos c31] at H
                have c31b0 : (a0_0 == 1) = true := beq_iff_eq.mpr c31
                have c31b1 : (a0_0 != 1) = false := bne_eq_false_iff_eq.mpr c31
                clear c31
                (first | rw [c31b0] | (simp only [i64_w, i32_w]; rw [c31b0]) | skip)
                obtain rfl := Option.some.inj H
                go_wp2
                go_ret
                exact ⟨by first | rfl | (simp [errW_none, errW_some] <;> rfl) | (simp [*, errW_none, errW_some] <;> rfl) | (simp [*, errW_none, errW_some]; exact (fun (l_ : List UInt8) => (by cases l_ <;> rfl : l_.isEmpty = !(l_ != []))) _), by repeat (first | (with_reducible first | exact HB.out | apply below_alloc | apply pw_below_drewN | apply below_drew1 | refine below_set ?_ GE379.out | refine below_set ?_ GE380.out) | exact HB.out)⟩
              · rw [if_neg c31] at H
                have c31b0 : (a0_0 == 1) = false := beq_eq_false_iff_ne.mpr c31
                have c31b1 : (a0_0 != 1) = true := bne_iff_ne.mpr c31
                (first | rw [c31b0] | (simp only [i64_w, i32_w]; rw [c31b0]) | skip)
                by_cases c32 : a0_0 = 2
                · rw [if_pos c32] at H
                  have c32b0 : (a0_0 == 2) = true := beq_iff_eq.mpr c32
                  have c32b1 : (a0_0 != 2) = false := bne_eq_false_iff_eq.mpr c32
                  clear c32
                  by_cases c33 : a0_5 > 0
                  · rw [if_pos c33] at H
                    have c33b0 : decide (0 < a0_5) = true := decide_eq_true c33
                    clear c33
                    obtain rfl := Option.some.inj H
                    have hnb34 := NB379_380.out
                    have hnc34 := NB380_379.out
                    have hcz35_0 : wc.cell? ⟨gb379, 0, none⟩ = some (.int .i64 a0_0) := (blk_cell BK379.out 0).trans rfl
                    have hcz35_1 : wc.cell? ⟨gb379, 1, none⟩ = some (.int .i64 a0_1) := (blk_cell BK379.out 1).trans rfl
                    have hcz35_2 : wc.cell? ⟨gb379, 2, none⟩ = some (.int .i64 a0_2) := (blk_cell BK379.out 2).trans rfl
                    have hcz35_3 : wc.cell? ⟨gb379, 3, none⟩ = some (.int .i64 a0_3) := (blk_cell BK379.out 3).trans rfl
                    have hcz35_4 : wc.cell? ⟨gb379, 4, none⟩ = some (.int .i64 a0_4) := (blk_cell BK379.out 4).trans rfl
                    have hcz35_5 : wc.cell? ⟨gb379, 5, none⟩ = some (.int .i64 a0_5) := (blk_cell BK379.out 5).trans rfl
                    have hcz35_6 : wc.cell? ⟨gb379, 6, none⟩ = some (.int .i64 a0_6) := (blk_cell BK379.out 6).trans rfl
                    have hcz35_7 : wc.cell? ⟨gb379, 7, none⟩ = some (.string a0_7) := (blk_cell BK379.out 7).trans rfl
                    have hcz35_8 : wc.cell? ⟨gb379, 8, none⟩ = some (.slice A0_8 l0_8.length c0_8) := (blk_cell BK379.out 8).trans rfl
                    have hfz35_0 := blk_frozen BK379.out 0
                    have hfz35_1 := blk_frozen BK379.out 1
                    have hfz35_2 := blk_frozen BK379.out 2
                    have hfz35_3 := blk_frozen BK379.out 3
                    have hfz35_4 := blk_frozen BK379.out 4
                    have hfz35_5 := blk_frozen BK379.out 5
                    have hfz35_6 := blk_frozen BK379.out 6
                    have hfz35_7 := blk_frozen BK379.out 7
                    have hfz35_8 := blk_frozen BK379.out 8
                    have hcz36_0 : wc.cell? ⟨gb380, 0, none⟩ = some (.int .i64 a1_0) := (blk_cell BK380.out 0).trans rfl
                    have hcz36_1 : wc.cell? ⟨gb380, 1, none⟩ = some (.slice A1_1 l1_1.length c1_1) := (blk_cell BK380.out 1).trans rfl
                    have hcz36_2 : wc.cell? ⟨gb380, 2, none⟩ = some (.slice A1_2 l1_2.length c1_2) := (blk_cell BK380.out 2).trans rfl
                    have hfz36_0 := blk_frozen BK380.out 0
                    have hfz36_1 := blk_frozen BK380.out 1
                    have hfz36_2 := blk_frozen BK380.out 2
                    go_wp2
                    go_ret
                    exact ⟨by first | rfl | (simp [errW_none, errW_some] <;> rfl) | (simp [*, errW_none, errW_some] <;> rfl) | (simp [*, errW_none, errW_some]; exact (fun (l_ : List UInt8) => (by cases l_ <;> rfl : l_.isEmpty = !(l_ != []))) _), by repeat (first | (with_reducible first | exact HB.out | apply below_alloc | apply pw_below_drewN | apply below_drew1 | refine below_set ?_ GE379.out | refine below_set ?_ GE380.out) | exact HB.out)⟩
                  · rw [if_neg c33] at H
                    have c33b0 : decide (0 < a0_5) = false := decide_eq_false c33
                    clear c33
                    obtain rfl := Option.some.inj H
                    have hnb37 := NB379_380.out
                    have hnc37 := NB380_379.out
                    have hcz38_0 : wc.cell? ⟨gb379, 0, none⟩ = some (.int .i64 a0_0) := (blk_cell BK379.out 0).trans rfl
                    have hcz38_1 : wc.cell? ⟨gb379, 1, none⟩ = some (.int .i64 a0_1) := (blk_cell BK379.out 1).trans rfl
                    have hcz38_2 : wc.cell? ⟨gb379, 2, none⟩ = some (.int .i64 a0_2) := (blk_cell BK379.out 2).trans rfl
                    have hcz38_3 : wc.cell? ⟨gb379, 3, none⟩ = some (.int .i64 a0_3) := (blk_cell BK379.out 3).trans rfl
                    have hcz38_4 : wc.cell? ⟨gb379, 4, none⟩ = some (.int .i64 a0_4) := (blk_cell BK379.out 4).trans rfl
                    have hcz38_5 : wc.cell? ⟨gb379, 5, none⟩ = some (.int .i64 a0_5) := (blk_cell BK379.out 5).trans rfl
                    have hcz38_6 : wc.cell? ⟨gb379, 6, none⟩ = some (.int .i64 a0_6) := (blk_cell BK379.out 6).trans rfl
                    have hcz38_7 : wc.cell? ⟨gb379, 7, none⟩ = some (.string a0_7) := (blk_cell BK379.out 7).trans rfl
                    have hcz38_8 : wc.cell? ⟨gb379, 8, none⟩ = some (.slice A0_8 l0_8.length c0_8) := (blk_cell BK379.out 8).trans rfl
                    have hfz38_0 := blk_frozen BK379.out 0
                    have hfz38_1 := blk_frozen BK379.out 1
                    have hfz38_2 := blk_frozen BK379.out 2
                    have hfz38_3 := blk_frozen BK379.out 3
                    have hfz38_4 := blk_frozen BK379.out 4
                    have hfz38_5 := blk_frozen BK379.out 5
                    have hfz38_6 := blk_frozen BK379.out 6
                    have hfz38_7 := blk_frozen BK379.out 7
                    have hfz38_8 := blk_frozen BK379.out 8
                    go_wp2
                    go_ret
                    exact ⟨by first | rfl | (simp [errW_none, errW_some] <;> rfl) | (simp [*, errW_none, errW_some] <;> rfl) | (simp [*, errW_none, errW_some]; exact (fun (l_ : List UInt8) => (by cases l_ <;> rfl : l_.isEmpty = !(l_ != []))) _), by repeat (first | (with_reducible first | exact HB.out | apply below_alloc | apply pw_below_drewN | apply below_drew1 | refine below_set ?_ GE379.out | refine below_set ?_ GE380.out) | exact HB.out)⟩
                · rw [if_neg c32] at H
                  have c32b0 : (a0_0 == 2) = false := beq_eq_false_iff_ne.mpr c32
                  have c32b1 : (a0_0 != 2) = true := bne_iff_ne.mpr c32
                  by_cases c39 : a0_0 = 8
                  · rw [if_pos c39] at H
                    have c39b0 : (a0_0 == 8) = true := beq_iff_eq.mpr c39
                    have c39b1 : (a0_0 != 8) = false := bne_eq_false_iff_eq.mpr c39
                    clear c39
                    have HC40 := Aside0.mk H
                    clear H
                    go_upto_region 16 with (fail)
                    go_cut [71] (fun v71 wc => ∃ (kq : Nat) (x71_39 : Bool), v71 = .bool x71_39 ∧ Aside0 (solve_fits.j3 kq x5_21 x71_39 a0_0 a0_1 a0_2 a0_3 a0_4 a0_5 a0_6 a0_7 l0_8 a1_0 l1_1 l1_2 = some r) ∧ Aside0 (kq ≤ kj21) ∧ Aside0 (wc.heap[gb379]? = some (.cells #[.int .i64 a0_0, .int .i64 a0_1, .int .i64 a0_2, .int .i64 a0_3, .int .i64 a0_4, .int .i64 a0_5, .int .i64 a0_6, .string a0_7, (.slice A0_8 l0_8.length c0_8)] 46 (0, 0))) ∧ Aside0 (wc.heap[gb380]? = some (.cells #[.int .i64 a1_0, (.slice A1_1 l1_1.length c1_1), (.slice A1_2 l1_2.length c1_2)] 25 (0, 0))) ∧ Aside0 (Below w.heap.size w wc))
                    case first =>
                      have H := HC40.out
                      clear HC40
                      by_cases c41 : a0_4 = (-1)
                      · rw [if_pos c41] at H
                        have c41b0 : (a0_4 == (-1)) = true := beq_iff_eq.mpr c41
                        have c41b1 : (a0_4 != (-1)) = false := bne_eq_false_iff_eq.mpr c41
                        clear c41
                        (first | rw [c41b0] | (simp only [i64_w, i32_w]; rw [c41b0]) | skip)
                        have H' := Aside0.mk H
                        clear H
                        have hnb42 := NB379_380.out
                        have hnc42 := NB380_379.out
                        have hcz43_0 : wc.cell? ⟨gb379, 0, none⟩ = some (.int .i64 a0_0) := (blk_cell BK379.out 0).trans rfl
                        have hcz43_1 : wc.cell? ⟨gb379, 1, none⟩ = some (.int .i64 a0_1) := (blk_cell BK379.out 1).trans rfl
                        have hcz43_2 : wc.cell? ⟨gb379, 2, none⟩ = some (.int .i64 a0_2) := (blk_cell BK379.out 2).trans rfl
                        have hcz43_3 : wc.cell? ⟨gb379, 3, none⟩ = some (.int .i64 a0_3) := (blk_cell BK379.out 3).trans rfl
                        have hcz43_4 : wc.cell? ⟨gb379, 4, none⟩ = some (.int .i64 a0_4) := (blk_cell BK379.out 4).trans rfl
                        have hcz43_5 : wc.cell? ⟨gb379, 5, none⟩ = some (.int .i64 a0_5) := (blk_cell BK379.out 5).trans rfl
                        have hcz43_6 : wc.cell? ⟨gb379, 6, none⟩ = some (.int .i64 a0_6) := (blk_cell BK379.out 6).trans rfl
                        have hcz43_7 : wc.cell? ⟨gb379, 7, none⟩ = some (.string a0_7) := (blk_cell BK379.out 7).trans rfl
                        have hcz43_8 : wc.cell? ⟨gb379, 8, none⟩ = some (.slice A0_8 l0_8.length c0_8) := (blk_cell BK379.out 8).trans rfl
                        have hfz43_0 := blk_frozen BK379.out 0
                        have hfz43_1 := blk_frozen BK379.out 1
                        have hfz43_2 := blk_frozen BK379.out 2
                        have hfz43_3 := blk_frozen BK379.out 3
                        have hfz43_4 := blk_frozen BK379.out 4
                        have hfz43_5 := blk_frozen BK379.out 5
                        have hfz43_6 := blk_frozen BK379.out 6
                        have hfz43_7 := blk_frozen BK379.out 7
                        have hfz43_8 := blk_frozen BK379.out 8
                        go_wp2
                        go_meet
                        case rel => exact ⟨_, (false), (by first | rfl | (simp; done) | (simp [*]; done) | (simp [*]; exact (fun (l_ : List UInt8) => (by cases l_ <;> rfl : l_.isEmpty = !(l_ != []))) _)), H', ⟨by have := HJ2.out; have := HJ21.out; first | omega | exact Nat.le_refl _⟩, ⟨by (with_reducible repeat (first | refine blk_drewN ?_ _ | refine blk_drew ?_ | refine blk_alloc ?_ _)); exact BK379.out⟩, ⟨by (with_reducible repeat (first | refine blk_drewN ?_ _ | refine blk_drew ?_ | refine blk_alloc ?_ _)); exact BK380.out⟩, ⟨by repeat (first | (with_reducible first | exact HB.out | apply below_alloc | apply pw_below_drewN | apply below_drew1 | refine below_set ?_ GE379.out | refine below_set ?_ GE380.out) | exact HB.out)⟩⟩
                      · rw [if_neg c41] at H
                        have c41b0 : (a0_4 == (-1)) = false := beq_eq_false_iff_ne.mpr c41
                        have c41b1 : (a0_4 != (-1)) = true := bne_iff_ne.mpr c41
                        (first | rw [c41b0] | (simp only [i64_w, i32_w]; rw [c41b0]) | skip)
                        obtain ⟨y389, hy389⟩ : ∃ y_ : List Int, y_ = (([a0_4] : List Int)) := ⟨_, rfl⟩
                        replace H : ((solve_areSets.f a1_0 l1_1 l1_2 y389).bind fun t392 => (solve_fits.j3 kj21 x5_21 (!t392) a0_0 a0_1 a0_2 a0_3 a0_4 a0_5 a0_6 a0_7 l0_8 a1_0 l1_1 l1_2)) = some r := by first | (rw [hy389]; with_reducible exact H) | (have H2_ := (Option.bind_some _ _).symm.trans H; rw [hy389]; with_reducible exact H2_) | (have H2_ := (Option.bind_some _ _).symm.trans H; with_reducible exact H2_) | with_reducible exact H | (rw [hy389]; exact H) | exact H
                        have Ny389 := Aside0.mk hy389
                        clear hy389
                        replace H := Option.bind_eq_some_iff.mp H
                        obtain ⟨t392, A440, H⟩ := H
                        replace H : (solve_fits.j3 kj21 x5_21 (!t392) a0_0 a0_1 a0_2 a0_3 a0_4 a0_5 a0_6 a0_7 l0_8 a1_0 l1_1 l1_2) = some r := H
                        have A44 := Aside0.mk A440
                        clear A440
                        have H' := Aside0.mk H
                        clear H
                        have hnb45 := NB379_380.out
                        have hnc45 := NB380_379.out
                        have hcz46_0 : wc.cell? ⟨gb379, 0, none⟩ = some (.int .i64 a0_0) := (blk_cell BK379.out 0).trans rfl
                        have hcz46_1 : wc.cell? ⟨gb379, 1, none⟩ = some (.int .i64 a0_1) := (blk_cell BK379.out 1).trans rfl
                        have hcz46_2 : wc.cell? ⟨gb379, 2, none⟩ = some (.int .i64 a0_2) := (blk_cell BK379.out 2).trans rfl
                        have hcz46_3 : wc.cell? ⟨gb379, 3, none⟩ = some (.int .i64 a0_3) := (blk_cell BK379.out 3).trans rfl
                        have hcz46_4 : wc.cell? ⟨gb379, 4, none⟩ = some (.int .i64 a0_4) := (blk_cell BK379.out 4).trans rfl
                        have hcz46_5 : wc.cell? ⟨gb379, 5, none⟩ = some (.int .i64 a0_5) := (blk_cell BK379.out 5).trans rfl
                        have hcz46_6 : wc.cell? ⟨gb379, 6, none⟩ = some (.int .i64 a0_6) := (blk_cell BK379.out 6).trans rfl
                        have hcz46_7 : wc.cell? ⟨gb379, 7, none⟩ = some (.string a0_7) := (blk_cell BK379.out 7).trans rfl
                        have hcz46_8 : wc.cell? ⟨gb379, 8, none⟩ = some (.slice A0_8 l0_8.length c0_8) := (blk_cell BK379.out 8).trans rfl
                        have hfz46_0 := blk_frozen BK379.out 0
                        have hfz46_1 := blk_frozen BK379.out 1
                        have hfz46_2 := blk_frozen BK379.out 2
                        have hfz46_3 := blk_frozen BK379.out 3
                        have hfz46_4 := blk_frozen BK379.out 4
                        have hfz46_5 := blk_frozen BK379.out 5
                        have hfz46_6 := blk_frozen BK379.out 6
                        have hfz46_7 := blk_frozen BK379.out 7
                        have hfz46_8 := blk_frozen BK379.out 8
                        have hcz47_0 : wc.cell? ⟨gb380, 0, none⟩ = some (.int .i64 a1_0) := (blk_cell BK380.out 0).trans rfl
                        have hcz47_1 : wc.cell? ⟨gb380, 1, none⟩ = some (.slice A1_1 l1_1.length c1_1) := (blk_cell BK380.out 1).trans rfl
                        have hcz47_2 : wc.cell? ⟨gb380, 2, none⟩ = some (.slice A1_2 l1_2.length c1_2) := (blk_cell BK380.out 2).trans rfl
                        have hfz47_0 := blk_frozen BK380.out 0
                        have hfz47_1 := blk_frozen BK380.out 1
                        have hfz47_2 := blk_frozen BK380.out 2
                        go_wp2_with (first | ((with_reducible refine gate_dst (N := 68) rfl ?_); (try (refine gate_guard (by rfl) ?_; dsimp only)); refine Kd.R_lit (Kd.int .i64) _ 3 ?hg (N := 68) ?hd (xs := ([a0_4] : List Int)) (inner := [.int .i64 a0_4]) (ok := fun _ => True) (okp := fun _ => True) ?hr ?hp (fun _ hk => hk) trivial (Below.refl _ _) (Nat.le_refl _) (by simp) ?_; (case hd => rfl); (case hg => rfl); (case hr => first | (go_simp; done) | (go_simp; rfl)); (case hp => exact (Reps.one (show Kd.M (Kd.int .i64) _ _ _ a0_4 [.int .i64 a0_4] from rfl) (Reps.none _ _))); intro v390 w48 ho49 hb hg_ hnew_; clear hg_ hnew_; (first | rw [← Ny389.out] at ho49 | (simp only [Int.reduceToNat] at ho49; rw [← Ny389.out] at ho49)); have n0_ := Aside0.mk (Kd.R_lower ho49 (below_size (by repeat (first | (with_reducible first | exact HB.out | apply below_alloc | apply pw_below_drewN | apply below_drew1 | refine below_set ?_ GE379.out | refine below_set ?_ GE380.out) | exact HB.out)))); have n1_ := Aside0.mk (blk_below (g := gb379) (o := .cells #[.int .i64 a0_0, .int .i64 a0_1, .int .i64 a0_2, .int .i64 a0_3, .int .i64 a0_4, .int .i64 a0_5, .int .i64 a0_6, .string a0_7, .slice A0_8 l0_8.length c0_8] 46 (0, 0)) (by (with_reducible repeat (first | refine blk_drewN ?_ _ | refine blk_drew ?_ | refine blk_alloc ?_ _)); exact BK379.out) hb); have n2_ := Aside0.mk (blk_below (g := gb380) (o := .cells #[.int .i64 a1_0, .slice A1_1 l1_1.length c1_1, .slice A1_2 l1_2.length c1_2] 25 (0, 0)) (by (with_reducible repeat (first | refine blk_drewN ?_ _ | refine blk_drew ?_ | refine blk_alloc ?_ _)); exact BK380.out) hb); have n3_ := Aside0.mk (below_step (by repeat (first | (with_reducible first | exact HB.out | apply below_alloc | apply pw_below_drewN | apply below_drew1 | refine below_set ?_ GE379.out | refine below_set ?_ GE380.out) | exact HB.out)) hb); clear BK379; clear BK380; clear HB; have HO391 := n0_; have BK379 := n1_; have BK380 := n2_; have HB := n3_; clear n0_ n1_ n2_ n3_; clear hb ho49; obtain ⟨Ao50, co50, eo50⟩ := Kd.R_slice HO391.out; subst eo50) | (go_at_call 46; (with_reducible refine (solve_areSets.calls a1_0 _ _ l1_1 _ _ l1_2 _ _ y389 t392 _ ?side1 ?side2 ?side3 ?side4 ?side5 ?side6 A44.out).mono ?_); (case side1 => repeat (first | exact (Kd.C_below HR1_1.out HB.out) | (with_reducible refine Kd.C_alloc ?_ _) | (with_reducible refine Kd.C_drewN ?_ _) | (with_reducible refine Kd.C_drew ?_))); (case side2 => exact HC1_1.out); (case side3 => repeat (first | exact (Kd.C_below HR1_2.out HB.out) | (with_reducible refine Kd.C_alloc ?_ _) | (with_reducible refine Kd.C_drewN ?_ _) | (with_reducible refine Kd.C_drew ?_))); (case side4 => exact HC1_2.out); (case side5 => repeat (first | exact (Kd.R_reads' HO391.out).2.2 | (with_reducible refine Kd.C_alloc ?_ _) | (with_reducible refine Kd.C_drewN ?_ _) | (with_reducible refine Kd.C_drew ?_))); (case side6 => exact (Kd.R_reads' HO391.out).2.1); rintro e w51 ⟨rfl, hb⟩; have n0_ := Aside0.mk (Kd.R_below (by (with_reducible repeat (first | apply Kd.R_alloc | apply Kd.R_drewN | apply Kd.R_drew)); exact HO391.out) hb); have n1_ := Aside0.mk (blk_below (g := gb379) (o := .cells #[.int .i64 a0_0, .int .i64 a0_1, .int .i64 a0_2, .int .i64 a0_3, .int .i64 a0_4, .int .i64 a0_5, .int .i64 a0_6, .string a0_7, .slice A0_8 l0_8.length c0_8] 46 (0, 0)) (by (with_reducible repeat (first | refine blk_drewN ?_ _ | refine blk_drew ?_ | refine blk_alloc ?_ _)); exact BK379.out) hb); have n2_ := Aside0.mk (blk_below (g := gb380) (o := .cells #[.int .i64 a1_0, .slice A1_1 l1_1.length c1_1, .slice A1_2 l1_2.length c1_2] 25 (0, 0)) (by (with_reducible repeat (first | refine blk_drewN ?_ _ | refine blk_drew ?_ | refine blk_alloc ?_ _)); exact BK380.out) hb); have n3_ := Aside0.mk (below_step (by repeat (first | (with_reducible first | exact HB.out | apply below_alloc | apply pw_below_drewN | apply below_drew1 | refine below_set ?_ GE379.out | refine below_set ?_ GE380.out) | exact HB.out)) hb); clear HO391; clear BK379; clear BK380; clear HB; have HO391 := n0_; have BK379 := n1_; have BK380 := n2_; have HB := n3_; clear n0_ n1_ n2_ n3_; (try clear hb); (try clear hb2); (try clear hk); (try clear hi)))
                        go_meet
                        case rel => exact ⟨_, (!t392), (by first | rfl | (simp; done) | (simp [*]; done) | (simp [*]; exact (fun (l_ : List UInt8) => (by cases l_ <;> rfl : l_.isEmpty = !(l_ != []))) _)), H', ⟨by have := HJ2.out; have := HJ21.out; first | omega | exact Nat.le_refl _⟩, ⟨by (with_reducible repeat (first | refine blk_drewN ?_ _ | refine blk_drew ?_ | refine blk_alloc ?_ _)); exact BK379.out⟩, ⟨by (with_reducible repeat (first | refine blk_drewN ?_ _ | refine blk_drew ?_ | refine blk_alloc ?_ _)); exact BK380.out⟩, ⟨by repeat (first | (with_reducible first | exact HB.out | apply below_alloc | apply pw_below_drewN | apply below_drew1 | refine below_set ?_ GE379.out | refine below_set ?_ GE380.out) | exact HB.out)⟩⟩
                    case rest =>
                      clear HC40
                      try clear c1
                      try clear c2
                      try clear p2
                      try clear c3
                      try clear c4
                      try clear c6
                      try clear c6b0
                      try clear c7
                      try clear c9
                      try clear c9b0
                      try clear c10
                      try clear c14
                      try clear c21
                      try clear c23
                      try clear c23b0
                      try clear c24
                      try clear c26
                      try clear c29
                      try clear c31
                      try clear c31b0
                      try clear c31b1
                      try clear c32
                      try clear c32b0
                      try clear c32b1
                      try clear c33
                      try clear c33b0
                      try clear c34
                      try clear c37
                      try clear c39
                      try clear c39b0
                      try clear c39b1
                      try clear c41
                      try clear c41b0
                      try clear c41b1
                      try clear c42
                      try clear c45
                      try clear hcz11_0
                      try clear hcz11_1
                      try clear hcz11_2
                      try clear hcz11_3
                      try clear hcz11_4
                      try clear hcz11_5
                      try clear hcz11_6
                      try clear hcz11_7
                      try clear hcz11_8
                      try clear hcz12_0
                      try clear hcz12_1
                      try clear hcz12_2
                      try clear hcz15_0
                      try clear hcz15_1
                      try clear hcz15_2
                      try clear hcz15_3
                      try clear hcz15_4
                      try clear hcz15_5
                      try clear hcz15_6
                      try clear hcz15_7
                      try clear hcz15_8
                      try clear hcz16_0
                      try clear hcz16_1
                      try clear hcz16_2
                      try clear hcz25_0
                      try clear hcz25_1
                      try clear hcz25_2
                      try clear hcz25_3
                      try clear hcz25_4
                      try clear hcz25_5
                      try clear hcz25_6
                      try clear hcz25_7
                      try clear hcz25_8
                      try clear hcz27_0
                      try clear hcz27_1
                      try clear hcz27_2
                      try clear hcz27_3
                      try clear hcz27_4
                      try clear hcz27_5
                      try clear hcz27_6
                      try clear hcz27_7
                      try clear hcz27_8
                      try clear hcz30_0
                      try clear hcz30_1
                      try clear hcz30_2
                      try clear hcz30_3
                      try clear hcz30_4
                      try clear hcz30_5
                      try clear hcz30_6
                      try clear hcz30_7
                      try clear hcz30_8
                      try clear hcz35_0
                      try clear hcz35_1
                      try clear hcz35_2
                      try clear hcz35_3
                      try clear hcz35_4
                      try clear hcz35_5
                      try clear hcz35_6
                      try clear hcz35_7
                      try clear hcz35_8
                      try clear hcz36_0
                      try clear hcz36_1
                      try clear hcz36_2
                      try clear hcz38_0
                      try clear hcz38_1
                      try clear hcz38_2
                      try clear hcz38_3
                      try clear hcz38_4
                      try clear hcz38_5
                      try clear hcz38_6
                      try clear hcz38_7
                      try clear hcz38_8
                      try clear hcz43_0
                      try clear hcz43_1
                      try clear hcz43_2
                      try clear hcz43_3
                      try clear hcz43_4
                      try clear hcz43_5
                      try clear hcz43_6
                      try clear hcz43_7
                      try clear hcz43_8
                      try clear hcz46_0
                      try clear hcz46_1
                      try clear hcz46_2
                      try clear hcz46_3
                      try clear hcz46_4
                      try clear hcz46_5
                      try clear hcz46_6
                      try clear hcz46_7
                      try clear hcz46_8
                      try clear hcz47_0
                      try clear hcz47_1
                      try clear hcz47_2
                      try clear hcz8_0
                      try clear hcz8_1
                      try clear hcz8_2
                      try clear hcz8_3
                      try clear hcz8_4
                      try clear hcz8_5
                      try clear hcz8_6
                      try clear hcz8_7
                      try clear hcz8_8
                      try clear hfz11_0
                      try clear hfz11_1
                      try clear hfz11_2
                      try clear hfz11_3
                      try clear hfz11_4
                      try clear hfz11_5
                      try clear hfz11_6
                      try clear hfz11_7
                      try clear hfz11_8
                      try clear hfz12_0
                      try clear hfz12_1
                      try clear hfz12_2
                      try clear hfz15_0
                      try clear hfz15_1
                      try clear hfz15_2
                      try clear hfz15_3
                      try clear hfz15_4
                      try clear hfz15_5
                      try clear hfz15_6
                      try clear hfz15_7
                      try clear hfz15_8
                      try clear hfz16_0
                      try clear hfz16_1
                      try clear hfz16_2
                      try clear hfz25_0
                      try clear hfz25_1
                      try clear hfz25_2
                      try clear hfz25_3
                      try clear hfz25_4
                      try clear hfz25_5
                      try clear hfz25_6
                      try clear hfz25_7
                      try clear hfz25_8
                      try clear hfz27_0
                      try clear hfz27_1
                      try clear hfz27_2
                      try clear hfz27_3
                      try clear hfz27_4
                      try clear hfz27_5
                      try clear hfz27_6
                      try clear hfz27_7
                      try clear hfz27_8
                      try clear hfz30_0
                      try clear hfz30_1
                      try clear hfz30_2
                      try clear hfz30_3
                      try clear hfz30_4
                      try clear hfz30_5
                      try clear hfz30_6
                      try clear hfz30_7
                      try clear hfz30_8
                      try clear hfz35_0
                      try clear hfz35_1
                      try clear hfz35_2
                      try clear hfz35_3
                      try clear hfz35_4
                      try clear hfz35_5
                      try clear hfz35_6
                      try clear hfz35_7
                      try clear hfz35_8
                      try clear hfz36_0
                      try clear hfz36_1
                      try clear hfz36_2
                      try clear hfz38_0
                      try clear hfz38_1
                      try clear hfz38_2
                      try clear hfz38_3
                      try clear hfz38_4
                      try clear hfz38_5
                      try clear hfz38_6
                      try clear hfz38_7
                      try clear hfz38_8
                      try clear hfz43_0
                      try clear hfz43_1
                      try clear hfz43_2
                      try clear hfz43_3
                      try clear hfz43_4
                      try clear hfz43_5
                      try clear hfz43_6
                      try clear hfz43_7
                      try clear hfz43_8
                      try clear hfz46_0
                      try clear hfz46_1
                      try clear hfz46_2
                      try clear hfz46_3
                      try clear hfz46_4
                      try clear hfz46_5
                      try clear hfz46_6
                      try clear hfz46_7
                      try clear hfz46_8
                      try clear hfz47_0
                      try clear hfz47_1
                      try clear hfz47_2
                      try clear hfz8_0
                      try clear hfz8_1
                      try clear hfz8_2
                      try clear hfz8_3
                      try clear hfz8_4
                      try clear hfz8_5
                      try clear hfz8_6
                      try clear hfz8_7
                      try clear hfz8_8
                      try clear p2
                      obtain ⟨kq, x71_39, rfl, HA, HJ39, BK379, BK380, HB⟩ := hcut
                      cases kq with
                      | zero => exact absurd HA.out (by simp [solve_fits.j3])
                      | succ kj39 =>
                        have H := HA.out
                        clear HA
                        simp only [solve_fits.j3] at H
                        by_cases c52 : x71_39 = true
                        · subst c52
                          have H1 : (some false) = some r := by rw [if_pos rfl] at H; exact H
                          clear H
                          have H := H1
                          clear H1
                          obtain rfl := Option.some.inj H
                          go_wp2
                          go_ret
                          exact ⟨by first | rfl | (simp [errW_none, errW_some] <;> rfl) | (simp [*, errW_none, errW_some] <;> rfl) | (simp [*, errW_none, errW_some]; exact (fun (l_ : List UInt8) => (by cases l_ <;> rfl : l_.isEmpty = !(l_ != []))) _), by repeat (first | (with_reducible first | exact HB.out | apply below_alloc | apply pw_below_drewN | apply below_drew1 | refine below_set ?_ GE379.out | refine below_set ?_ GE380.out) | exact HB.out)⟩
                        · replace c52 := Bool.eq_false_iff.mpr c52
                          subst c52
                          have H1 : (solve_fits.j4 kj39 x5_21 a0_0 a0_1 a0_2 a0_3 a0_4 a0_5 a0_6 a0_7 l0_8 a1_0 l1_1 l1_2) = some r := by rw [if_neg (show ¬ (false = true) by decide)] at H; exact H
                          clear H
                          have H := H1
                          clear H1
                          have H' := Aside0.mk H
                          clear H
                          go_wp2
                          go_meet
                          case rel => exact ⟨_, H', ⟨by have := HJ2.out; have := HJ21.out; have := HJ39.out; first | omega | exact Nat.le_refl _⟩, ⟨by (with_reducible repeat (first | refine blk_drewN ?_ _ | refine blk_drew ?_ | refine blk_alloc ?_ _)); exact BK379.out⟩, ⟨by (with_reducible repeat (first | refine blk_drewN ?_ _ | refine blk_drew ?_ | refine blk_alloc ?_ _)); exact BK380.out⟩, ⟨by repeat (first | (with_reducible first | exact HB.out | apply below_alloc | apply pw_below_drewN | apply below_drew1 | refine below_set ?_ GE379.out | refine below_set ?_ GE380.out) | exact HB.out)⟩⟩
                  · rw [if_neg c39] at H
                    have c39b0 : (a0_0 == 8) = false := beq_eq_false_iff_ne.mpr c39
                    have c39b1 : (a0_0 != 8) = true := bne_iff_ne.mpr c39
                    by_cases c53 : a0_0 = 9
                    · rw [if_pos c53] at H
                      have c53b0 : (a0_0 == 9) = true := beq_iff_eq.mpr c53
                      have c53b1 : (a0_0 != 9) = false := bne_eq_false_iff_eq.mpr c53
                      clear c53
                      have H' := Aside0.mk H
                      clear H
                      go_wp2
                      go_meet
                      case rel => exact ⟨_, H', ⟨by have := HJ2.out; have := HJ21.out; first | omega | exact Nat.le_refl _⟩, ⟨by (with_reducible repeat (first | refine blk_drewN ?_ _ | refine blk_drew ?_ | refine blk_alloc ?_ _)); exact BK379.out⟩, ⟨by (with_reducible repeat (first | refine blk_drewN ?_ _ | refine blk_drew ?_ | refine blk_alloc ?_ _)); exact BK380.out⟩, ⟨by repeat (first | (with_reducible first | exact HB.out | apply below_alloc | apply pw_below_drewN | apply below_drew1 | refine below_set ?_ GE379.out | refine below_set ?_ GE380.out) | exact HB.out)⟩⟩
                    · rw [if_neg c53] at H
                      have c53b0 : (a0_0 == 9) = false := beq_eq_false_iff_ne.mpr c53
                      have c53b1 : (a0_0 != 9) = true := bne_iff_ne.mpr c53
                      have HC54 := Aside0.mk H
                      clear H
                      go_upto_if 43 with (fail)
                      go_cut [43] (fun v43 wc => ∃ (kq : Nat) (x43_53 : Bool), v43 = .bool x43_53 ∧ Aside0 (solve_fits.j2 kq x43_53 a0_0 a0_1 a0_2 a0_3 a0_4 a0_5 a0_6 a0_7 l0_8 a1_0 l1_1 l1_2 = some r) ∧ Aside0 (kq ≤ kj21) ∧ Aside0 (wc.heap[gb379]? = some (.cells #[.int .i64 a0_0, .int .i64 a0_1, .int .i64 a0_2, .int .i64 a0_3, .int .i64 a0_4, .int .i64 a0_5, .int .i64 a0_6, .string a0_7, (.slice A0_8 l0_8.length c0_8)] 46 (0, 0))) ∧ Aside0 (wc.heap[gb380]? = some (.cells #[.int .i64 a1_0, (.slice A1_1 l1_1.length c1_1), (.slice A1_2 l1_2.length c1_2)] 25 (0, 0))) ∧ Aside0 (Below w.heap.size w wc))
                      case first =>
                        have H := HC54.out
                        clear HC54
                        by_cases c55 : a0_0 = 3
                        · rw [if_pos c55] at H
                          have c55b0 : (a0_0 == 3) = true := beq_iff_eq.mpr c55
                          have c55b1 : (a0_0 != 3) = false := bne_eq_false_iff_eq.mpr c55
                          clear c55
                          (first | rw [c55b0] | (simp only [i64_w, i32_w]; rw [c55b0]) | skip)
                          have H' := Aside0.mk H
                          clear H
                          go_wp2
                          go_meet
                          case rel => exact ⟨_, ((a0_0 == 3)), (by first | rfl | (simp; done) | (simp [*]; done) | (simp [*]; exact (fun (l_ : List UInt8) => (by cases l_ <;> rfl : l_.isEmpty = !(l_ != []))) _)), H', ⟨by have := HJ2.out; have := HJ21.out; first | omega | exact Nat.le_refl _⟩, ⟨by (with_reducible repeat (first | refine blk_drewN ?_ _ | refine blk_drew ?_ | refine blk_alloc ?_ _)); exact BK379.out⟩, ⟨by (with_reducible repeat (first | refine blk_drewN ?_ _ | refine blk_drew ?_ | refine blk_alloc ?_ _)); exact BK380.out⟩, ⟨by repeat (first | (with_reducible first | exact HB.out | apply below_alloc | apply pw_below_drewN | apply below_drew1 | refine below_set ?_ GE379.out | refine below_set ?_ GE380.out) | exact HB.out)⟩⟩
                        · rw [if_neg c55] at H
                          have c55b0 : (a0_0 == 3) = false := beq_eq_false_iff_ne.mpr c55
                          have c55b1 : (a0_0 != 3) = true := bne_iff_ne.mpr c55
                          (first | rw [c55b0] | (simp only [i64_w, i32_w]; rw [c55b0]) | skip)
                          by_cases c56 : a0_0 = 4
                          · rw [if_pos c56] at H
                            have c56b0 : (a0_0 == 4) = true := beq_iff_eq.mpr c56
                            have c56b1 : (a0_0 != 4) = false := bne_eq_false_iff_eq.mpr c56
                            clear c56
                            have H' := Aside0.mk H
                            clear H
                            go_wp2
                            go_meet
                            case rel => exact ⟨_, ((a0_0 == 4)), (by first | rfl | (simp; done) | (simp [*]; done) | (simp [*]; exact (fun (l_ : List UInt8) => (by cases l_ <;> rfl : l_.isEmpty = !(l_ != []))) _)), H', ⟨by have := HJ2.out; have := HJ21.out; first | omega | exact Nat.le_refl _⟩, ⟨by (with_reducible repeat (first | refine blk_drewN ?_ _ | refine blk_drew ?_ | refine blk_alloc ?_ _)); exact BK379.out⟩, ⟨by (with_reducible repeat (first | refine blk_drewN ?_ _ | refine blk_drew ?_ | refine blk_alloc ?_ _)); exact BK380.out⟩, ⟨by repeat (first | (with_reducible first | exact HB.out | apply below_alloc | apply pw_below_drewN | apply below_drew1 | refine below_set ?_ GE379.out | refine below_set ?_ GE380.out) | exact HB.out)⟩⟩
                          · rw [if_neg c56] at H
                            have c56b0 : (a0_0 == 4) = false := beq_eq_false_iff_ne.mpr c56
                            have c56b1 : (a0_0 != 4) = true := bne_iff_ne.mpr c56
                            by_cases c57 : a0_0 = 5
                            · rw [if_pos c57] at H
                              have c57b0 : (a0_0 == 5) = true := beq_iff_eq.mpr c57
                              have c57b1 : (a0_0 != 5) = false := bne_eq_false_iff_eq.mpr c57
                              clear c57
                              have H' := Aside0.mk H
                              clear H
                              go_wp2
                              go_meet
                              case rel => exact ⟨_, ((a0_0 == 5)), (by first | rfl | (simp; done) | (simp [*]; done) | (simp [*]; exact (fun (l_ : List UInt8) => (by cases l_ <;> rfl : l_.isEmpty = !(l_ != []))) _)), H', ⟨by have := HJ2.out; have := HJ21.out; first | omega | exact Nat.le_refl _⟩, ⟨by (with_reducible repeat (first | refine blk_drewN ?_ _ | refine blk_drew ?_ | refine blk_alloc ?_ _)); exact BK379.out⟩, ⟨by (with_reducible repeat (first | refine blk_drewN ?_ _ | refine blk_drew ?_ | refine blk_alloc ?_ _)); exact BK380.out⟩, ⟨by repeat (first | (with_reducible first | exact HB.out | apply below_alloc | apply pw_below_drewN | apply below_drew1 | refine below_set ?_ GE379.out | refine below_set ?_ GE380.out) | exact HB.out)⟩⟩
                            · rw [if_neg c57] at H
                              have c57b0 : (a0_0 == 5) = false := beq_eq_false_iff_ne.mpr c57
                              have c57b1 : (a0_0 != 5) = true := bne_iff_ne.mpr c57
                              by_cases c58 : a0_0 = 6
                              · rw [if_pos c58] at H
                                have c58b0 : (a0_0 == 6) = true := beq_iff_eq.mpr c58
                                have c58b1 : (a0_0 != 6) = false := bne_eq_false_iff_eq.mpr c58
                                clear c58
                                have H' := Aside0.mk H
                                clear H
                                go_wp2
                                go_meet
                                case rel => exact ⟨_, ((a0_0 == 6)), (by first | rfl | (simp; done) | (simp [*]; done) | (simp [*]; exact (fun (l_ : List UInt8) => (by cases l_ <;> rfl : l_.isEmpty = !(l_ != []))) _)), H', ⟨by have := HJ2.out; have := HJ21.out; first | omega | exact Nat.le_refl _⟩, ⟨by (with_reducible repeat (first | refine blk_drewN ?_ _ | refine blk_drew ?_ | refine blk_alloc ?_ _)); exact BK379.out⟩, ⟨by (with_reducible repeat (first | refine blk_drewN ?_ _ | refine blk_drew ?_ | refine blk_alloc ?_ _)); exact BK380.out⟩, ⟨by repeat (first | (with_reducible first | exact HB.out | apply below_alloc | apply pw_below_drewN | apply below_drew1 | refine below_set ?_ GE379.out | refine below_set ?_ GE380.out) | exact HB.out)⟩⟩
                              · rw [if_neg c58] at H
                                have c58b0 : (a0_0 == 6) = false := beq_eq_false_iff_ne.mpr c58
                                have c58b1 : (a0_0 != 6) = true := bne_iff_ne.mpr c58
                                have H' := Aside0.mk H
                                clear H
                                go_wp2
                                go_meet
                                case rel => exact ⟨_, ((a0_0 == 7)), (by first | rfl | (simp; done) | (simp [*]; done) | (simp [*]; exact (fun (l_ : List UInt8) => (by cases l_ <;> rfl : l_.isEmpty = !(l_ != []))) _)), H', ⟨by have := HJ2.out; have := HJ21.out; first | omega | exact Nat.le_refl _⟩, ⟨by (with_reducible repeat (first | refine blk_drewN ?_ _ | refine blk_drew ?_ | refine blk_alloc ?_ _)); exact BK379.out⟩, ⟨by (with_reducible repeat (first | refine blk_drewN ?_ _ | refine blk_drew ?_ | refine blk_alloc ?_ _)); exact BK380.out⟩, ⟨by repeat (first | (with_reducible first | exact HB.out | apply below_alloc | apply pw_below_drewN | apply below_drew1 | refine below_set ?_ GE379.out | refine below_set ?_ GE380.out) | exact HB.out)⟩⟩
                      case rest =>
                        clear HC54
                        try clear c1
                        try clear c2
                        try clear p2
                        try clear c3
                        try clear c4
                        try clear c5
                        try clear c6
                        try clear c6b0
                        try clear c7
                        try clear c9
                        try clear c9b0
                        try clear c10
                        try clear c14
                        try clear c21
                        try clear c23
                        try clear c23b0
                        try clear c24
                        try clear c26
                        try clear c29
                        try clear c31
                        try clear c31b0
                        try clear c31b1
                        try clear c32
                        try clear c32b0
                        try clear c32b1
                        try clear c33
                        try clear c33b0
                        try clear c34
                        try clear c37
                        try clear c39
                        try clear c39b0
                        try clear c39b1
                        try clear c41
                        try clear c41b0
                        try clear c41b1
                        try clear c42
                        try clear c45
                        try clear c52
                        try clear c53
                        try clear c53b0
                        try clear c53b1
                        try clear c55
                        try clear c55b0
                        try clear c55b1
                        try clear c56
                        try clear c56b0
                        try clear c56b1
                        try clear c57
                        try clear c57b0
                        try clear c57b1
                        try clear c58
                        try clear c58b0
                        try clear c58b1
                        try clear hcz11_0
                        try clear hcz11_1
                        try clear hcz11_2
                        try clear hcz11_3
                        try clear hcz11_4
                        try clear hcz11_5
                        try clear hcz11_6
                        try clear hcz11_7
                        try clear hcz11_8
                        try clear hcz12_0
                        try clear hcz12_1
                        try clear hcz12_2
                        try clear hcz15_0
                        try clear hcz15_1
                        try clear hcz15_2
                        try clear hcz15_3
                        try clear hcz15_4
                        try clear hcz15_5
                        try clear hcz15_6
                        try clear hcz15_7
                        try clear hcz15_8
                        try clear hcz16_0
                        try clear hcz16_1
                        try clear hcz16_2
                        try clear hcz25_0
                        try clear hcz25_1
                        try clear hcz25_2
                        try clear hcz25_3
                        try clear hcz25_4
                        try clear hcz25_5
                        try clear hcz25_6
                        try clear hcz25_7
                        try clear hcz25_8
                        try clear hcz27_0
                        try clear hcz27_1
                        try clear hcz27_2
                        try clear hcz27_3
                        try clear hcz27_4
                        try clear hcz27_5
                        try clear hcz27_6
                        try clear hcz27_7
                        try clear hcz27_8
                        try clear hcz30_0
                        try clear hcz30_1
                        try clear hcz30_2
                        try clear hcz30_3
                        try clear hcz30_4
                        try clear hcz30_5
                        try clear hcz30_6
                        try clear hcz30_7
                        try clear hcz30_8
                        try clear hcz35_0
                        try clear hcz35_1
                        try clear hcz35_2
                        try clear hcz35_3
                        try clear hcz35_4
                        try clear hcz35_5
                        try clear hcz35_6
                        try clear hcz35_7
                        try clear hcz35_8
                        try clear hcz36_0
                        try clear hcz36_1
                        try clear hcz36_2
                        try clear hcz38_0
                        try clear hcz38_1
                        try clear hcz38_2
                        try clear hcz38_3
                        try clear hcz38_4
                        try clear hcz38_5
                        try clear hcz38_6
                        try clear hcz38_7
                        try clear hcz38_8
                        try clear hcz43_0
                        try clear hcz43_1
                        try clear hcz43_2
                        try clear hcz43_3
                        try clear hcz43_4
                        try clear hcz43_5
                        try clear hcz43_6
                        try clear hcz43_7
                        try clear hcz43_8
                        try clear hcz46_0
                        try clear hcz46_1
                        try clear hcz46_2
                        try clear hcz46_3
                        try clear hcz46_4
                        try clear hcz46_5
                        try clear hcz46_6
                        try clear hcz46_7
                        try clear hcz46_8
                        try clear hcz47_0
                        try clear hcz47_1
                        try clear hcz47_2
                        try clear hcz8_0
                        try clear hcz8_1
                        try clear hcz8_2
                        try clear hcz8_3
                        try clear hcz8_4
                        try clear hcz8_5
                        try clear hcz8_6
                        try clear hcz8_7
                        try clear hcz8_8
                        try clear hfz11_0
                        try clear hfz11_1
                        try clear hfz11_2
                        try clear hfz11_3
                        try clear hfz11_4
                        try clear hfz11_5
                        try clear hfz11_6
                        try clear hfz11_7
                        try clear hfz11_8
                        try clear hfz12_0
                        try clear hfz12_1
                        try clear hfz12_2
                        try clear hfz15_0
                        try clear hfz15_1
                        try clear hfz15_2
                        try clear hfz15_3
                        try clear hfz15_4
                        try clear hfz15_5
                        try clear hfz15_6
                        try clear hfz15_7
                        try clear hfz15_8
                        try clear hfz16_0
                        try clear hfz16_1
                        try clear hfz16_2
                        try clear hfz25_0
                        try clear hfz25_1
                        try clear hfz25_2
                        try clear hfz25_3
                        try clear hfz25_4
                        try clear hfz25_5
                        try clear hfz25_6
                        try clear hfz25_7
                        try clear hfz25_8
                        try clear hfz27_0
                        try clear hfz27_1
                        try clear hfz27_2
                        try clear hfz27_3
                        try clear hfz27_4
                        try clear hfz27_5
                        try clear hfz27_6
                        try clear hfz27_7
                        try clear hfz27_8
                        try clear hfz30_0
                        try clear hfz30_1
                        try clear hfz30_2
                        try clear hfz30_3
                        try clear hfz30_4
                        try clear hfz30_5
                        try clear hfz30_6
                        try clear hfz30_7
                        try clear hfz30_8
                        try clear hfz35_0
                        try clear hfz35_1
                        try clear hfz35_2
                        try clear hfz35_3
                        try clear hfz35_4
                        try clear hfz35_5
                        try clear hfz35_6
                        try clear hfz35_7
                        try clear hfz35_8
                        try clear hfz36_0
                        try clear hfz36_1
                        try clear hfz36_2
                        try clear hfz38_0
                        try clear hfz38_1
                        try clear hfz38_2
                        try clear hfz38_3
                        try clear hfz38_4
                        try clear hfz38_5
                        try clear hfz38_6
                        try clear hfz38_7
                        try clear hfz38_8
                        try clear hfz43_0
                        try clear hfz43_1
                        try clear hfz43_2
                        try clear hfz43_3
                        try clear hfz43_4
                        try clear hfz43_5
                        try clear hfz43_6
                        try clear hfz43_7
                        try clear hfz43_8
                        try clear hfz46_0
                        try clear hfz46_1
                        try clear hfz46_2
                        try clear hfz46_3
                        try clear hfz46_4
                        try clear hfz46_5
                        try clear hfz46_6
                        try clear hfz46_7
                        try clear hfz46_8
                        try clear hfz47_0
                        try clear hfz47_1
                        try clear hfz47_2
                        try clear hfz8_0
                        try clear hfz8_1
                        try clear hfz8_2
                        try clear hfz8_3
                        try clear hfz8_4
                        try clear hfz8_5
                        try clear hfz8_6
                        try clear hfz8_7
                        try clear hfz8_8
                        try clear p2
                        obtain ⟨kq, x43_53, rfl, HA, HJ53, BK379, BK380, HB⟩ := hcut
                        cases kq with
                        | zero => exact absurd HA.out (by simp [solve_fits.j2])
                        | succ kj53 =>
                          have H := HA.out
                          clear HA
                          simp only [solve_fits.j2] at H
                          by_cases c59 : x43_53 = true
                          · subst c59
                            have H1 : ((solve_areSets.f a1_0 l1_1 l1_2 (([a0_3] : List Int))).bind fun t388 => (some t388)) = some r := by rw [if_pos rfl] at H; exact H
                            clear H
                            have H := H1
                            clear H1
                            obtain ⟨y385, hy385⟩ : ∃ y_ : List Int, y_ = (([a0_3] : List Int)) := ⟨_, rfl⟩
                            replace H : ((solve_areSets.f a1_0 l1_1 l1_2 y385).bind fun t388 => (some t388)) = some r := by first | (rw [hy385]; with_reducible exact H) | (have H2_ := (Option.bind_some _ _).symm.trans H; rw [hy385]; with_reducible exact H2_) | (have H2_ := (Option.bind_some _ _).symm.trans H; with_reducible exact H2_) | with_reducible exact H | (rw [hy385]; exact H) | exact H
                            have Ny385 := Aside0.mk hy385
                            clear hy385
                            replace H := Option.bind_eq_some_iff.mp H
                            obtain ⟨t388, A600, H⟩ := H
                            replace H : (some t388) = some r := H
                            have A60 := Aside0.mk A600
                            clear A600
                            obtain rfl := Option.some.inj H
                            have hnb61 := NB380_379.out
                            have hnc61 := NB379_380.out
                            have hcz62_0 : wc.cell? ⟨gb380, 0, none⟩ = some (.int .i64 a1_0) := (blk_cell BK380.out 0).trans rfl
                            have hcz62_1 : wc.cell? ⟨gb380, 1, none⟩ = some (.slice A1_1 l1_1.length c1_1) := (blk_cell BK380.out 1).trans rfl
                            have hcz62_2 : wc.cell? ⟨gb380, 2, none⟩ = some (.slice A1_2 l1_2.length c1_2) := (blk_cell BK380.out 2).trans rfl
                            have hfz62_0 := blk_frozen BK380.out 0
                            have hfz62_1 := blk_frozen BK380.out 1
                            have hfz62_2 := blk_frozen BK380.out 2
                            have hcz63_0 : wc.cell? ⟨gb379, 0, none⟩ = some (.int .i64 a0_0) := (blk_cell BK379.out 0).trans rfl
                            have hcz63_1 : wc.cell? ⟨gb379, 1, none⟩ = some (.int .i64 a0_1) := (blk_cell BK379.out 1).trans rfl
                            have hcz63_2 : wc.cell? ⟨gb379, 2, none⟩ = some (.int .i64 a0_2) := (blk_cell BK379.out 2).trans rfl
                            have hcz63_3 : wc.cell? ⟨gb379, 3, none⟩ = some (.int .i64 a0_3) := (blk_cell BK379.out 3).trans rfl
                            have hcz63_4 : wc.cell? ⟨gb379, 4, none⟩ = some (.int .i64 a0_4) := (blk_cell BK379.out 4).trans rfl
                            have hcz63_5 : wc.cell? ⟨gb379, 5, none⟩ = some (.int .i64 a0_5) := (blk_cell BK379.out 5).trans rfl
                            have hcz63_6 : wc.cell? ⟨gb379, 6, none⟩ = some (.int .i64 a0_6) := (blk_cell BK379.out 6).trans rfl
                            have hcz63_7 : wc.cell? ⟨gb379, 7, none⟩ = some (.string a0_7) := (blk_cell BK379.out 7).trans rfl
                            have hcz63_8 : wc.cell? ⟨gb379, 8, none⟩ = some (.slice A0_8 l0_8.length c0_8) := (blk_cell BK379.out 8).trans rfl
                            have hfz63_0 := blk_frozen BK379.out 0
                            have hfz63_1 := blk_frozen BK379.out 1
                            have hfz63_2 := blk_frozen BK379.out 2
                            have hfz63_3 := blk_frozen BK379.out 3
                            have hfz63_4 := blk_frozen BK379.out 4
                            have hfz63_5 := blk_frozen BK379.out 5
                            have hfz63_6 := blk_frozen BK379.out 6
                            have hfz63_7 := blk_frozen BK379.out 7
                            have hfz63_8 := blk_frozen BK379.out 8
                            go_wp2_with (first | ((with_reducible refine gate_dst (N := 97) rfl ?_); (try (refine gate_guard (by rfl) ?_; dsimp only)); refine Kd.R_lit (Kd.int .i64) _ 3 ?hg (N := 97) ?hd (xs := ([a0_3] : List Int)) (inner := [.int .i64 a0_3]) (ok := fun _ => True) (okp := fun _ => True) ?hr ?hp (fun _ hk => hk) trivial (Below.refl _ _) (Nat.le_refl _) (by simp) ?_; (case hd => rfl); (case hg => rfl); (case hr => first | (go_simp; done) | (go_simp; rfl)); (case hp => exact (Reps.one (show Kd.M (Kd.int .i64) _ _ _ a0_3 [.int .i64 a0_3] from rfl) (Reps.none _ _))); intro v386 w64 ho65 hb hg_ hnew_; clear hg_ hnew_; (first | rw [← Ny385.out] at ho65 | (simp only [Int.reduceToNat] at ho65; rw [← Ny385.out] at ho65)); have n0_ := Aside0.mk (Kd.R_lower ho65 (below_size (by repeat (first | (with_reducible first | exact HB.out | apply below_alloc | apply pw_below_drewN | apply below_drew1 | refine below_set ?_ GE379.out | refine below_set ?_ GE380.out) | exact HB.out)))); have n1_ := Aside0.mk (blk_below (g := gb379) (o := .cells #[.int .i64 a0_0, .int .i64 a0_1, .int .i64 a0_2, .int .i64 a0_3, .int .i64 a0_4, .int .i64 a0_5, .int .i64 a0_6, .string a0_7, .slice A0_8 l0_8.length c0_8] 46 (0, 0)) (by (with_reducible repeat (first | refine blk_drewN ?_ _ | refine blk_drew ?_ | refine blk_alloc ?_ _)); exact BK379.out) hb); have n2_ := Aside0.mk (blk_below (g := gb380) (o := .cells #[.int .i64 a1_0, .slice A1_1 l1_1.length c1_1, .slice A1_2 l1_2.length c1_2] 25 (0, 0)) (by (with_reducible repeat (first | refine blk_drewN ?_ _ | refine blk_drew ?_ | refine blk_alloc ?_ _)); exact BK380.out) hb); have n3_ := Aside0.mk (below_step (by repeat (first | (with_reducible first | exact HB.out | apply below_alloc | apply pw_below_drewN | apply below_drew1 | refine below_set ?_ GE379.out | refine below_set ?_ GE380.out) | exact HB.out)) hb); clear BK379; clear BK380; clear HB; have HO387 := n0_; have BK379 := n1_; have BK380 := n2_; have HB := n3_; clear n0_ n1_ n2_ n3_; clear hb ho65; obtain ⟨Ao66, co66, eo66⟩ := Kd.R_slice HO387.out; subst eo66) | ((with_reducible refine gate_callee (f := 46) rfl ?_); refine goesL_ (some 98) rfl rfl Try.func46 (by kernel_rfl) rfl #[.agg #[.int .i64 a1_0, .slice A1_1 l1_1.length c1_1, .slice A1_2 l1_2.length c1_2], .slice Ao66 y385.length co66] rfl (by (try simp only [List.map_toArray, List.map_cons, List.map_nil]); first | done | rfl | (simp only [List.length_drop, List.length_take]; rfl)) ?_; (with_reducible refine (solve_areSets.calls a1_0 _ _ l1_1 _ _ l1_2 _ _ y385 t388 _ ?side1 ?side2 ?side3 ?side4 ?side5 ?side6 A60.out).mono ?_); (case side1 => repeat (first | exact (Kd.C_below HR1_1.out HB.out) | (with_reducible refine Kd.C_alloc ?_ _) | (with_reducible refine Kd.C_drewN ?_ _) | (with_reducible refine Kd.C_drew ?_))); (case side2 => exact HC1_1.out); (case side3 => repeat (first | exact (Kd.C_below HR1_2.out HB.out) | (with_reducible refine Kd.C_alloc ?_ _) | (with_reducible refine Kd.C_drewN ?_ _) | (with_reducible refine Kd.C_drew ?_))); (case side4 => exact HC1_2.out); (case side5 => repeat (first | exact (Kd.R_reads' HO387.out).2.2 | (with_reducible refine Kd.C_alloc ?_ _) | (with_reducible refine Kd.C_drewN ?_ _) | (with_reducible refine Kd.C_drew ?_))); (case side6 => exact (Kd.R_reads' HO387.out).2.1); rintro e w67 ⟨rfl, hb⟩; refine ⟨_, rfl, ?_⟩; have n0_ := Aside0.mk (Kd.R_below (by (with_reducible repeat (first | apply Kd.R_alloc | apply Kd.R_drewN | apply Kd.R_drew)); exact HO387.out) hb); have n1_ := Aside0.mk (blk_below (g := gb379) (o := .cells #[.int .i64 a0_0, .int .i64 a0_1, .int .i64 a0_2, .int .i64 a0_3, .int .i64 a0_4, .int .i64 a0_5, .int .i64 a0_6, .string a0_7, .slice A0_8 l0_8.length c0_8] 46 (0, 0)) (by (with_reducible repeat (first | refine blk_drewN ?_ _ | refine blk_drew ?_ | refine blk_alloc ?_ _)); exact BK379.out) hb); have n2_ := Aside0.mk (blk_below (g := gb380) (o := .cells #[.int .i64 a1_0, .slice A1_1 l1_1.length c1_1, .slice A1_2 l1_2.length c1_2] 25 (0, 0)) (by (with_reducible repeat (first | refine blk_drewN ?_ _ | refine blk_drew ?_ | refine blk_alloc ?_ _)); exact BK380.out) hb); have n3_ := Aside0.mk (below_step (by repeat (first | (with_reducible first | exact HB.out | apply below_alloc | apply pw_below_drewN | apply below_drew1 | refine below_set ?_ GE379.out | refine below_set ?_ GE380.out) | exact HB.out)) hb); clear HO387; clear BK379; clear BK380; clear HB; have HO387 := n0_; have BK379 := n1_; have BK380 := n2_; have HB := n3_; clear n0_ n1_ n2_ n3_; (try clear hb); (try clear hb2); (try clear hk); (try clear hi)))
                            go_ret
                            exact ⟨by first | rfl | (simp [errW_none, errW_some] <;> rfl) | (simp [*, errW_none, errW_some] <;> rfl) | (simp [*, errW_none, errW_some]; exact (fun (l_ : List UInt8) => (by cases l_ <;> rfl : l_.isEmpty = !(l_ != []))) _), by repeat (first | (with_reducible first | exact HB.out | apply below_alloc | apply pw_below_drewN | apply below_drew1 | refine below_set ?_ GE379.out | refine below_set ?_ GE380.out) | exact HB.out)⟩
                          · replace c59 := Bool.eq_false_iff.mpr c59
                            subst c59
                            have H1 : (some false) = some r := by rw [if_neg (show ¬ (false = true) by decide)] at H; exact H
                            clear H
                            have H := H1
                            clear H1
                            obtain rfl := Option.some.inj H
                            go_wp2
                            go_ret
                            exact ⟨by first | rfl | (simp [errW_none, errW_some] <;> rfl) | (simp [*, errW_none, errW_some] <;> rfl) | (simp [*, errW_none, errW_some]; exact (fun (l_ : List UInt8) => (by cases l_ <;> rfl : l_.isEmpty = !(l_ != []))) _), by repeat (first | (with_reducible first | exact HB.out | apply below_alloc | apply pw_below_drewN | apply below_drew1 | refine below_set ?_ GE379.out | refine below_set ?_ GE380.out) | exact HB.out)⟩
            case rest =>
              clear HC28
              try clear c1
              try clear c2
              try clear p2
              try clear c3
              try clear c4
              try clear c5
              try clear c6
              try clear c6b0
              try clear c7
              try clear c9
              try clear c9b0
              try clear c10
              try clear c14
              try clear c21
              try clear c23
              try clear c23b0
              try clear c24
              try clear c26
              try clear c29
              try clear c31
              try clear c31b0
              try clear c31b1
              try clear c32
              try clear c32b0
              try clear c32b1
              try clear c33
              try clear c33b0
              try clear c34
              try clear c37
              try clear c39
              try clear c39b0
              try clear c39b1
              try clear c41
              try clear c41b0
              try clear c41b1
              try clear c42
              try clear c45
              try clear c46
              try clear c52
              try clear c53
              try clear c53b0
              try clear c53b1
              try clear c55
              try clear c55b0
              try clear c55b1
              try clear c56
              try clear c56b0
              try clear c56b1
              try clear c57
              try clear c57b0
              try clear c57b1
              try clear c58
              try clear c58b0
              try clear c58b1
              try clear c59
              try clear c61
              try clear hcz11_0
              try clear hcz11_1
              try clear hcz11_2
              try clear hcz11_3
              try clear hcz11_4
              try clear hcz11_5
              try clear hcz11_6
              try clear hcz11_7
              try clear hcz11_8
              try clear hcz12_0
              try clear hcz12_1
              try clear hcz12_2
              try clear hcz15_0
              try clear hcz15_1
              try clear hcz15_2
              try clear hcz15_3
              try clear hcz15_4
              try clear hcz15_5
              try clear hcz15_6
              try clear hcz15_7
              try clear hcz15_8
              try clear hcz16_0
              try clear hcz16_1
              try clear hcz16_2
              try clear hcz25_0
              try clear hcz25_1
              try clear hcz25_2
              try clear hcz25_3
              try clear hcz25_4
              try clear hcz25_5
              try clear hcz25_6
              try clear hcz25_7
              try clear hcz25_8
              try clear hcz27_0
              try clear hcz27_1
              try clear hcz27_2
              try clear hcz27_3
              try clear hcz27_4
              try clear hcz27_5
              try clear hcz27_6
              try clear hcz27_7
              try clear hcz27_8
              try clear hcz30_0
              try clear hcz30_1
              try clear hcz30_2
              try clear hcz30_3
              try clear hcz30_4
              try clear hcz30_5
              try clear hcz30_6
              try clear hcz30_7
              try clear hcz30_8
              try clear hcz35_0
              try clear hcz35_1
              try clear hcz35_2
              try clear hcz35_3
              try clear hcz35_4
              try clear hcz35_5
              try clear hcz35_6
              try clear hcz35_7
              try clear hcz35_8
              try clear hcz36_0
              try clear hcz36_1
              try clear hcz36_2
              try clear hcz38_0
              try clear hcz38_1
              try clear hcz38_2
              try clear hcz38_3
              try clear hcz38_4
              try clear hcz38_5
              try clear hcz38_6
              try clear hcz38_7
              try clear hcz38_8
              try clear hcz43_0
              try clear hcz43_1
              try clear hcz43_2
              try clear hcz43_3
              try clear hcz43_4
              try clear hcz43_5
              try clear hcz43_6
              try clear hcz43_7
              try clear hcz43_8
              try clear hcz46_0
              try clear hcz46_1
              try clear hcz46_2
              try clear hcz46_3
              try clear hcz46_4
              try clear hcz46_5
              try clear hcz46_6
              try clear hcz46_7
              try clear hcz46_8
              try clear hcz47_0
              try clear hcz47_1
              try clear hcz47_2
              try clear hcz62_0
              try clear hcz62_1
              try clear hcz62_2
              try clear hcz63_0
              try clear hcz63_1
              try clear hcz63_2
              try clear hcz63_3
              try clear hcz63_4
              try clear hcz63_5
              try clear hcz63_6
              try clear hcz63_7
              try clear hcz63_8
              try clear hcz8_0
              try clear hcz8_1
              try clear hcz8_2
              try clear hcz8_3
              try clear hcz8_4
              try clear hcz8_5
              try clear hcz8_6
              try clear hcz8_7
              try clear hcz8_8
              try clear hfz11_0
              try clear hfz11_1
              try clear hfz11_2
              try clear hfz11_3
              try clear hfz11_4
              try clear hfz11_5
              try clear hfz11_6
              try clear hfz11_7
              try clear hfz11_8
              try clear hfz12_0
              try clear hfz12_1
              try clear hfz12_2
              try clear hfz15_0
              try clear hfz15_1
              try clear hfz15_2
              try clear hfz15_3
              try clear hfz15_4
              try clear hfz15_5
              try clear hfz15_6
              try clear hfz15_7
              try clear hfz15_8
              try clear hfz16_0
              try clear hfz16_1
              try clear hfz16_2
              try clear hfz25_0
              try clear hfz25_1
              try clear hfz25_2
              try clear hfz25_3
              try clear hfz25_4
              try clear hfz25_5
              try clear hfz25_6
              try clear hfz25_7
              try clear hfz25_8
              try clear hfz27_0
              try clear hfz27_1
              try clear hfz27_2
              try clear hfz27_3
              try clear hfz27_4
              try clear hfz27_5
              try clear hfz27_6
              try clear hfz27_7
              try clear hfz27_8
              try clear hfz30_0
              try clear hfz30_1
              try clear hfz30_2
              try clear hfz30_3
              try clear hfz30_4
              try clear hfz30_5
              try clear hfz30_6
              try clear hfz30_7
              try clear hfz30_8
              try clear hfz35_0
              try clear hfz35_1
              try clear hfz35_2
              try clear hfz35_3
              try clear hfz35_4
              try clear hfz35_5
              try clear hfz35_6
              try clear hfz35_7
              try clear hfz35_8
              try clear hfz36_0
              try clear hfz36_1
              try clear hfz36_2
              try clear hfz38_0
              try clear hfz38_1
              try clear hfz38_2
              try clear hfz38_3
              try clear hfz38_4
              try clear hfz38_5
              try clear hfz38_6
              try clear hfz38_7
              try clear hfz38_8
              try clear hfz43_0
              try clear hfz43_1
              try clear hfz43_2
              try clear hfz43_3
              try clear hfz43_4
              try clear hfz43_5
              try clear hfz43_6
              try clear hfz43_7
              try clear hfz43_8
              try clear hfz46_0
              try clear hfz46_1
              try clear hfz46_2
              try clear hfz46_3
              try clear hfz46_4
              try clear hfz46_5
              try clear hfz46_6
              try clear hfz46_7
              try clear hfz46_8
              try clear hfz47_0
              try clear hfz47_1
              try clear hfz47_2
              try clear hfz62_0
              try clear hfz62_1
              try clear hfz62_2
              try clear hfz63_0
              try clear hfz63_1
              try clear hfz63_2
              try clear hfz63_3
              try clear hfz63_4
              try clear hfz63_5
              try clear hfz63_6
              try clear hfz63_7
              try clear hfz63_8
              try clear hfz8_0
              try clear hfz8_1
              try clear hfz8_2
              try clear hfz8_3
              try clear hfz8_4
              try clear hfz8_5
              try clear hfz8_6
              try clear hfz8_7
              try clear hfz8_8
              try clear p2
              obtain ⟨kq, HA, HJ27, BK379, BK380, HB⟩ := hcut
              cases kq with
              | zero => exact absurd HA.out (by simp [solve_fits.j4])
              | succ kj27 =>
                have H := HA.out
                clear HA
                simp only [solve_fits.j4] at H
                by_cases c68 : x5_21 = true
                · subst c68
                  have H1 : ((solve_areSets.f a1_0 l1_1 l1_2 (([a0_3, a0_5] : List Int))).bind fun t396 => (if t396 = true then ((solve_areSets.f a1_0 l1_1 l1_2 l0_8).bind fun t397 => (if t397 = true then (some (decide ((l0_8.length : Int) ≤ 200))) else (some false))) else (some false))) = some r := by rw [if_pos rfl] at H; exact H
                  clear H
                  have H := H1
                  clear H1
                  obtain ⟨y393, hy393⟩ : ∃ y_ : List Int, y_ = (([a0_3, a0_5] : List Int)) := ⟨_, rfl⟩
                  replace H : ((solve_areSets.f a1_0 l1_1 l1_2 y393).bind fun t396 => (if t396 = true then ((solve_areSets.f a1_0 l1_1 l1_2 l0_8).bind fun t397 => (if t397 = true then (some (decide ((l0_8.length : Int) ≤ 200))) else (some false))) else (some false))) = some r := by first | (rw [hy393]; with_reducible exact H) | (have H2_ := (Option.bind_some _ _).symm.trans H; rw [hy393]; with_reducible exact H2_) | (have H2_ := (Option.bind_some _ _).symm.trans H; with_reducible exact H2_) | with_reducible exact H | (rw [hy393]; exact H) | exact H
                  have Ny393 := Aside0.mk hy393
                  clear hy393
                  replace H := Option.bind_eq_some_iff.mp H
                  obtain ⟨t396, A690, H⟩ := H
                  replace H : (if t396 = true then ((solve_areSets.f a1_0 l1_1 l1_2 l0_8).bind fun t397 => (if t397 = true then (some (decide ((l0_8.length : Int) ≤ 200))) else (some false))) else (some false)) = some r := H
                  have A69 := Aside0.mk A690
                  clear A690
                  by_cases c70 : t396 = true
                  · subst c70
                    have H1 : ((solve_areSets.f a1_0 l1_1 l1_2 l0_8).bind fun t397 => (if t397 = true then (some (decide ((l0_8.length : Int) ≤ 200))) else (some false))) = some r := by rw [if_pos rfl] at H; exact H
                    clear H
                    have H := H1
                    clear H1
                    replace H := Option.bind_eq_some_iff.mp H
                    obtain ⟨t397, A710, H⟩ := H
                    replace H : (if t397 = true then (some (decide ((l0_8.length : Int) ≤ 200))) else (some false)) = some r := H
                    have A71 := Aside0.mk A710
                    clear A710
                    by_cases c72 : t397 = true
                    · subst c72
                      have H1 : (some (decide ((l0_8.length : Int) ≤ 200))) = some r := by rw [if_pos rfl] at H; exact H
                      clear H
                      have H := H1
                      clear H1
                      obtain rfl := Option.some.inj H
                      have hnb73 := NB380_379.out
                      have hnc73 := NB379_380.out
                      have hcz74_0 : wc.cell? ⟨gb380, 0, none⟩ = some (.int .i64 a1_0) := (blk_cell BK380.out 0).trans rfl
                      have hcz74_1 : wc.cell? ⟨gb380, 1, none⟩ = some (.slice A1_1 l1_1.length c1_1) := (blk_cell BK380.out 1).trans rfl
                      have hcz74_2 : wc.cell? ⟨gb380, 2, none⟩ = some (.slice A1_2 l1_2.length c1_2) := (blk_cell BK380.out 2).trans rfl
                      have hfz74_0 := blk_frozen BK380.out 0
                      have hfz74_1 := blk_frozen BK380.out 1
                      have hfz74_2 := blk_frozen BK380.out 2
                      have hcz75_0 : wc.cell? ⟨gb379, 0, none⟩ = some (.int .i64 a0_0) := (blk_cell BK379.out 0).trans rfl
                      have hcz75_1 : wc.cell? ⟨gb379, 1, none⟩ = some (.int .i64 a0_1) := (blk_cell BK379.out 1).trans rfl
                      have hcz75_2 : wc.cell? ⟨gb379, 2, none⟩ = some (.int .i64 a0_2) := (blk_cell BK379.out 2).trans rfl
                      have hcz75_3 : wc.cell? ⟨gb379, 3, none⟩ = some (.int .i64 a0_3) := (blk_cell BK379.out 3).trans rfl
                      have hcz75_4 : wc.cell? ⟨gb379, 4, none⟩ = some (.int .i64 a0_4) := (blk_cell BK379.out 4).trans rfl
                      have hcz75_5 : wc.cell? ⟨gb379, 5, none⟩ = some (.int .i64 a0_5) := (blk_cell BK379.out 5).trans rfl
                      have hcz75_6 : wc.cell? ⟨gb379, 6, none⟩ = some (.int .i64 a0_6) := (blk_cell BK379.out 6).trans rfl
                      have hcz75_7 : wc.cell? ⟨gb379, 7, none⟩ = some (.string a0_7) := (blk_cell BK379.out 7).trans rfl
                      have hcz75_8 : wc.cell? ⟨gb379, 8, none⟩ = some (.slice A0_8 l0_8.length c0_8) := (blk_cell BK379.out 8).trans rfl
                      have hfz75_0 := blk_frozen BK379.out 0
                      have hfz75_1 := blk_frozen BK379.out 1
                      have hfz75_2 := blk_frozen BK379.out 2
                      have hfz75_3 := blk_frozen BK379.out 3
                      have hfz75_4 := blk_frozen BK379.out 4
                      have hfz75_5 := blk_frozen BK379.out 5
                      have hfz75_6 := blk_frozen BK379.out 6
                      have hfz75_7 := blk_frozen BK379.out 7
                      have hfz75_8 := blk_frozen BK379.out 8
                      go_wp2_with (first | (go_at_call 46; (with_reducible refine (solve_areSets.calls a1_0 _ _ l1_1 _ _ l1_2 _ _ l0_8 true _ ?side1 ?side2 ?side3 ?side4 ?side5 ?side6 A71.out).mono ?_); (case side1 => repeat (first | exact (Kd.C_below HR1_1.out HB.out) | (with_reducible refine Kd.C_alloc ?_ _) | (with_reducible refine Kd.C_drewN ?_ _) | (with_reducible refine Kd.C_drew ?_))); (case side2 => exact HC1_1.out); (case side3 => repeat (first | exact (Kd.C_below HR1_2.out HB.out) | (with_reducible refine Kd.C_alloc ?_ _) | (with_reducible refine Kd.C_drewN ?_ _) | (with_reducible refine Kd.C_drew ?_))); (case side4 => exact HC1_2.out); (case side5 => repeat (first | exact (Kd.C_below HR0_8.out HB.out) | (with_reducible refine Kd.C_alloc ?_ _) | (with_reducible refine Kd.C_drewN ?_ _) | (with_reducible refine Kd.C_drew ?_))); (case side6 => exact HC0_8.out); rintro e w82 ⟨rfl, hb⟩; have n0_ := Aside0.mk (Kd.R_below (by (with_reducible repeat (first | apply Kd.R_alloc | apply Kd.R_drewN | apply Kd.R_drew)); exact HO395.out) hb); have n1_ := Aside0.mk (blk_below (g := gb379) (o := .cells #[.int .i64 a0_0, .int .i64 a0_1, .int .i64 a0_2, .int .i64 a0_3, .int .i64 a0_4, .int .i64 a0_5, .int .i64 a0_6, .string a0_7, .slice A0_8 l0_8.length c0_8] 46 (0, 0)) (by (with_reducible repeat (first | refine blk_drewN ?_ _ | refine blk_drew ?_ | refine blk_alloc ?_ _)); exact BK379.out) hb); have n2_ := Aside0.mk (blk_below (g := gb380) (o := .cells #[.int .i64 a1_0, .slice A1_1 l1_1.length c1_1, .slice A1_2 l1_2.length c1_2] 25 (0, 0)) (by (with_reducible repeat (first | refine blk_drewN ?_ _ | refine blk_drew ?_ | refine blk_alloc ?_ _)); exact BK380.out) hb); have n3_ := Aside0.mk (below_step (by repeat (first | (with_reducible first | exact HB.out | apply below_alloc | apply pw_below_drewN | apply below_drew1 | refine below_set ?_ GE379.out | refine below_set ?_ GE380.out) | exact HB.out)) hb); clear HO395; clear BK379; clear BK380; clear HB; have HO395 := n0_; have BK379 := n1_; have BK380 := n2_; have HB := n3_; clear n0_ n1_ n2_ n3_; (try clear hb); (try clear hb2); (try clear hk); (try clear hi); have hcz83_0 : w82.cell? ⟨gb379, 0, none⟩ = some (.int .i64 a0_0) := (blk_cell BK379.out 0).trans rfl; have hcz83_1 : w82.cell? ⟨gb379, 1, none⟩ = some (.int .i64 a0_1) := (blk_cell BK379.out 1).trans rfl; have hcz83_2 : w82.cell? ⟨gb379, 2, none⟩ = some (.int .i64 a0_2) := (blk_cell BK379.out 2).trans rfl; have hcz83_3 : w82.cell? ⟨gb379, 3, none⟩ = some (.int .i64 a0_3) := (blk_cell BK379.out 3).trans rfl; have hcz83_4 : w82.cell? ⟨gb379, 4, none⟩ = some (.int .i64 a0_4) := (blk_cell BK379.out 4).trans rfl; have hcz83_5 : w82.cell? ⟨gb379, 5, none⟩ = some (.int .i64 a0_5) := (blk_cell BK379.out 5).trans rfl; have hcz83_6 : w82.cell? ⟨gb379, 6, none⟩ = some (.int .i64 a0_6) := (blk_cell BK379.out 6).trans rfl; have hcz83_7 : w82.cell? ⟨gb379, 7, none⟩ = some (.string a0_7) := (blk_cell BK379.out 7).trans rfl; have hcz83_8 : w82.cell? ⟨gb379, 8, none⟩ = some (.slice A0_8 l0_8.length c0_8) := (blk_cell BK379.out 8).trans rfl; have hfz83_0 := blk_frozen BK379.out 0; have hfz83_1 := blk_frozen BK379.out 1; have hfz83_2 := blk_frozen BK379.out 2; have hfz83_3 := blk_frozen BK379.out 3; have hfz83_4 := blk_frozen BK379.out 4; have hfz83_5 := blk_frozen BK379.out 5; have hfz83_6 := blk_frozen BK379.out 6; have hfz83_7 := blk_frozen BK379.out 7; have hfz83_8 := blk_frozen BK379.out 8) | (go_at_call 46; (with_reducible refine (solve_areSets.calls a1_0 _ _ l1_1 _ _ l1_2 _ _ y393 true _ ?side1 ?side2 ?side3 ?side4 ?side5 ?side6 A69.out).mono ?_); (case side1 => repeat (first | exact (Kd.C_below HR1_1.out HB.out) | (with_reducible refine Kd.C_alloc ?_ _) | (with_reducible refine Kd.C_drewN ?_ _) | (with_reducible refine Kd.C_drew ?_))); (case side2 => exact HC1_1.out); (case side3 => repeat (first | exact (Kd.C_below HR1_2.out HB.out) | (with_reducible refine Kd.C_alloc ?_ _) | (with_reducible refine Kd.C_drewN ?_ _) | (with_reducible refine Kd.C_drew ?_))); (case side4 => exact HC1_2.out); (case side5 => repeat (first | exact (Kd.R_reads' HO395.out).2.2 | (with_reducible refine Kd.C_alloc ?_ _) | (with_reducible refine Kd.C_drewN ?_ _) | (with_reducible refine Kd.C_drew ?_))); (case side6 => exact (Kd.R_reads' HO395.out).2.1); rintro e w79 ⟨rfl, hb⟩; have n0_ := Aside0.mk (Kd.R_below (by (with_reducible repeat (first | apply Kd.R_alloc | apply Kd.R_drewN | apply Kd.R_drew)); exact HO395.out) hb); have n1_ := Aside0.mk (blk_below (g := gb379) (o := .cells #[.int .i64 a0_0, .int .i64 a0_1, .int .i64 a0_2, .int .i64 a0_3, .int .i64 a0_4, .int .i64 a0_5, .int .i64 a0_6, .string a0_7, .slice A0_8 l0_8.length c0_8] 46 (0, 0)) (by (with_reducible repeat (first | refine blk_drewN ?_ _ | refine blk_drew ?_ | refine blk_alloc ?_ _)); exact BK379.out) hb); have n2_ := Aside0.mk (blk_below (g := gb380) (o := .cells #[.int .i64 a1_0, .slice A1_1 l1_1.length c1_1, .slice A1_2 l1_2.length c1_2] 25 (0, 0)) (by (with_reducible repeat (first | refine blk_drewN ?_ _ | refine blk_drew ?_ | refine blk_alloc ?_ _)); exact BK380.out) hb); have n3_ := Aside0.mk (below_step (by repeat (first | (with_reducible first | exact HB.out | apply below_alloc | apply pw_below_drewN | apply below_drew1 | refine below_set ?_ GE379.out | refine below_set ?_ GE380.out) | exact HB.out)) hb); clear HO395; clear BK379; clear BK380; clear HB; have HO395 := n0_; have BK379 := n1_; have BK380 := n2_; have HB := n3_; clear n0_ n1_ n2_ n3_; (try clear hb); (try clear hb2); (try clear hk); (try clear hi); have hcz80_0 : w79.cell? ⟨gb380, 0, none⟩ = some (.int .i64 a1_0) := (blk_cell BK380.out 0).trans rfl; have hcz80_1 : w79.cell? ⟨gb380, 1, none⟩ = some (.slice A1_1 l1_1.length c1_1) := (blk_cell BK380.out 1).trans rfl; have hcz80_2 : w79.cell? ⟨gb380, 2, none⟩ = some (.slice A1_2 l1_2.length c1_2) := (blk_cell BK380.out 2).trans rfl; have hfz80_0 := blk_frozen BK380.out 0; have hfz80_1 := blk_frozen BK380.out 1; have hfz80_2 := blk_frozen BK380.out 2; have hcz81_0 : w79.cell? ⟨gb379, 0, none⟩ = some (.int .i64 a0_0) := (blk_cell BK379.out 0).trans rfl; have hcz81_1 : w79.cell? ⟨gb379, 1, none⟩ = some (.int .i64 a0_1) := (blk_cell BK379.out 1).trans rfl; have hcz81_2 : w79.cell? ⟨gb379, 2, none⟩ = some (.int .i64 a0_2) := (blk_cell BK379.out 2).trans rfl; have hcz81_3 : w79.cell? ⟨gb379, 3, none⟩ = some (.int .i64 a0_3) := (blk_cell BK379.out 3).trans rfl; have hcz81_4 : w79.cell? ⟨gb379, 4, none⟩ = some (.int .i64 a0_4) := (blk_cell BK379.out 4).trans rfl; have hcz81_5 : w79.cell? ⟨gb379, 5, none⟩ = some (.int .i64 a0_5) := (blk_cell BK379.out 5).trans rfl; have hcz81_6 : w79.cell? ⟨gb379, 6, none⟩ = some (.int .i64 a0_6) := (blk_cell BK379.out 6).trans rfl; have hcz81_7 : w79.cell? ⟨gb379, 7, none⟩ = some (.string a0_7) := (blk_cell BK379.out 7).trans rfl; have hcz81_8 : w79.cell? ⟨gb379, 8, none⟩ = some (.slice A0_8 l0_8.length c0_8) := (blk_cell BK379.out 8).trans rfl; have hfz81_0 := blk_frozen BK379.out 0; have hfz81_1 := blk_frozen BK379.out 1; have hfz81_2 := blk_frozen BK379.out 2; have hfz81_3 := blk_frozen BK379.out 3; have hfz81_4 := blk_frozen BK379.out 4; have hfz81_5 := blk_frozen BK379.out 5; have hfz81_6 := blk_frozen BK379.out 6; have hfz81_7 := blk_frozen BK379.out 7; have hfz81_8 := blk_frozen BK379.out 8) | ((with_reducible refine gate_dst (N := 79) rfl ?_); (try (refine gate_guard (by rfl) ?_; dsimp only)); refine Kd.R_lit (Kd.int .i64) _ 3 ?hg (N := 79) ?hd (xs := ([a0_3, a0_5] : List Int)) (inner := [.int .i64 a0_3, .int .i64 a0_5]) (ok := fun _ => True) (okp := fun _ => True) ?hr ?hp (fun _ hk => hk) trivial (Below.refl _ _) (Nat.le_refl _) (by simp) ?_; (case hd => rfl); (case hg => rfl); (case hr => first | (go_simp; done) | (go_simp; rfl)); (case hp => exact (Reps.one (show Kd.M (Kd.int .i64) _ _ _ a0_3 [.int .i64 a0_3] from rfl) (Reps.one (show Kd.M (Kd.int .i64) _ _ _ a0_5 [.int .i64 a0_5] from rfl) (Reps.none _ _)))); intro v394 w76 ho77 hb hg_ hnew_; clear hg_ hnew_; (first | rw [← Ny393.out] at ho77 | (simp only [Int.reduceToNat] at ho77; rw [← Ny393.out] at ho77)); have n0_ := Aside0.mk (Kd.R_lower ho77 (below_size (by repeat (first | (with_reducible first | exact HB.out | apply below_alloc | apply pw_below_drewN | apply below_drew1 | refine below_set ?_ GE379.out | refine below_set ?_ GE380.out) | exact HB.out)))); have n1_ := Aside0.mk (blk_below (g := gb379) (o := .cells #[.int .i64 a0_0, .int .i64 a0_1, .int .i64 a0_2, .int .i64 a0_3, .int .i64 a0_4, .int .i64 a0_5, .int .i64 a0_6, .string a0_7, .slice A0_8 l0_8.length c0_8] 46 (0, 0)) (by (with_reducible repeat (first | refine blk_drewN ?_ _ | refine blk_drew ?_ | refine blk_alloc ?_ _)); exact BK379.out) hb); have n2_ := Aside0.mk (blk_below (g := gb380) (o := .cells #[.int .i64 a1_0, .slice A1_1 l1_1.length c1_1, .slice A1_2 l1_2.length c1_2] 25 (0, 0)) (by (with_reducible repeat (first | refine blk_drewN ?_ _ | refine blk_drew ?_ | refine blk_alloc ?_ _)); exact BK380.out) hb); have n3_ := Aside0.mk (below_step (by repeat (first | (with_reducible first | exact HB.out | apply below_alloc | apply pw_below_drewN | apply below_drew1 | refine below_set ?_ GE379.out | refine below_set ?_ GE380.out) | exact HB.out)) hb); clear BK379; clear BK380; clear HB; have HO395 := n0_; have BK379 := n1_; have BK380 := n2_; have HB := n3_; clear n0_ n1_ n2_ n3_; clear hb ho77; obtain ⟨Ao78, co78, eo78⟩ := Kd.R_slice HO395.out; subst eo78))
                      go_ret
                      exact ⟨by first | rfl | (simp [errW_none, errW_some] <;> rfl) | (simp [*, errW_none, errW_some] <;> rfl) | (simp [*, errW_none, errW_some]; exact (fun (l_ : List UInt8) => (by cases l_ <;> rfl : l_.isEmpty = !(l_ != []))) _), by repeat (first | (with_reducible first | exact HB.out | apply below_alloc | apply pw_below_drewN | apply below_drew1 | refine below_set ?_ GE379.out | refine below_set ?_ GE380.out) | exact HB.out)⟩
                    · replace c72 := Bool.eq_false_iff.mpr c72
                      subst c72
                      have H1 : (some false) = some r := by rw [if_neg (show ¬ (false = true) by decide)] at H; exact H
                      clear H
                      have H := H1
                      clear H1
                      obtain rfl := Option.some.inj H
                      have hnb84 := NB380_379.out
                      have hnc84 := NB379_380.out
                      have hcz85_0 : wc.cell? ⟨gb380, 0, none⟩ = some (.int .i64 a1_0) := (blk_cell BK380.out 0).trans rfl
                      have hcz85_1 : wc.cell? ⟨gb380, 1, none⟩ = some (.slice A1_1 l1_1.length c1_1) := (blk_cell BK380.out 1).trans rfl
                      have hcz85_2 : wc.cell? ⟨gb380, 2, none⟩ = some (.slice A1_2 l1_2.length c1_2) := (blk_cell BK380.out 2).trans rfl
                      have hfz85_0 := blk_frozen BK380.out 0
                      have hfz85_1 := blk_frozen BK380.out 1
                      have hfz85_2 := blk_frozen BK380.out 2
                      have hcz86_0 : wc.cell? ⟨gb379, 0, none⟩ = some (.int .i64 a0_0) := (blk_cell BK379.out 0).trans rfl
                      have hcz86_1 : wc.cell? ⟨gb379, 1, none⟩ = some (.int .i64 a0_1) := (blk_cell BK379.out 1).trans rfl
                      have hcz86_2 : wc.cell? ⟨gb379, 2, none⟩ = some (.int .i64 a0_2) := (blk_cell BK379.out 2).trans rfl
                      have hcz86_3 : wc.cell? ⟨gb379, 3, none⟩ = some (.int .i64 a0_3) := (blk_cell BK379.out 3).trans rfl
                      have hcz86_4 : wc.cell? ⟨gb379, 4, none⟩ = some (.int .i64 a0_4) := (blk_cell BK379.out 4).trans rfl
                      have hcz86_5 : wc.cell? ⟨gb379, 5, none⟩ = some (.int .i64 a0_5) := (blk_cell BK379.out 5).trans rfl
                      have hcz86_6 : wc.cell? ⟨gb379, 6, none⟩ = some (.int .i64 a0_6) := (blk_cell BK379.out 6).trans rfl
                      have hcz86_7 : wc.cell? ⟨gb379, 7, none⟩ = some (.string a0_7) := (blk_cell BK379.out 7).trans rfl
                      have hcz86_8 : wc.cell? ⟨gb379, 8, none⟩ = some (.slice A0_8 l0_8.length c0_8) := (blk_cell BK379.out 8).trans rfl
                      have hfz86_0 := blk_frozen BK379.out 0
                      have hfz86_1 := blk_frozen BK379.out 1
                      have hfz86_2 := blk_frozen BK379.out 2
                      have hfz86_3 := blk_frozen BK379.out 3
                      have hfz86_4 := blk_frozen BK379.out 4
                      have hfz86_5 := blk_frozen BK379.out 5
                      have hfz86_6 := blk_frozen BK379.out 6
                      have hfz86_7 := blk_frozen BK379.out 7
                      have hfz86_8 := blk_frozen BK379.out 8
                      go_wp2_with (first | (go_at_call 46; (with_reducible refine (solve_areSets.calls a1_0 _ _ l1_1 _ _ l1_2 _ _ l0_8 false _ ?side1 ?side2 ?side3 ?side4 ?side5 ?side6 A71.out).mono ?_); (case side1 => repeat (first | exact (Kd.C_below HR1_1.out HB.out) | (with_reducible refine Kd.C_alloc ?_ _) | (with_reducible refine Kd.C_drewN ?_ _) | (with_reducible refine Kd.C_drew ?_))); (case side2 => exact HC1_1.out); (case side3 => repeat (first | exact (Kd.C_below HR1_2.out HB.out) | (with_reducible refine Kd.C_alloc ?_ _) | (with_reducible refine Kd.C_drewN ?_ _) | (with_reducible refine Kd.C_drew ?_))); (case side4 => exact HC1_2.out); (case side5 => repeat (first | exact (Kd.C_below HR0_8.out HB.out) | (with_reducible refine Kd.C_alloc ?_ _) | (with_reducible refine Kd.C_drewN ?_ _) | (with_reducible refine Kd.C_drew ?_))); (case side6 => exact HC0_8.out); rintro e w93 ⟨rfl, hb⟩; have n0_ := Aside0.mk (Kd.R_below (by (with_reducible repeat (first | apply Kd.R_alloc | apply Kd.R_drewN | apply Kd.R_drew)); exact HO395.out) hb); have n1_ := Aside0.mk (blk_below (g := gb379) (o := .cells #[.int .i64 a0_0, .int .i64 a0_1, .int .i64 a0_2, .int .i64 a0_3, .int .i64 a0_4, .int .i64 a0_5, .int .i64 a0_6, .string a0_7, .slice A0_8 l0_8.length c0_8] 46 (0, 0)) (by (with_reducible repeat (first | refine blk_drewN ?_ _ | refine blk_drew ?_ | refine blk_alloc ?_ _)); exact BK379.out) hb); have n2_ := Aside0.mk (blk_below (g := gb380) (o := .cells #[.int .i64 a1_0, .slice A1_1 l1_1.length c1_1, .slice A1_2 l1_2.length c1_2] 25 (0, 0)) (by (with_reducible repeat (first | refine blk_drewN ?_ _ | refine blk_drew ?_ | refine blk_alloc ?_ _)); exact BK380.out) hb); have n3_ := Aside0.mk (below_step (by repeat (first | (with_reducible first | exact HB.out | apply below_alloc | apply pw_below_drewN | apply below_drew1 | refine below_set ?_ GE379.out | refine below_set ?_ GE380.out) | exact HB.out)) hb); clear HO395; clear BK379; clear BK380; clear HB; have HO395 := n0_; have BK379 := n1_; have BK380 := n2_; have HB := n3_; clear n0_ n1_ n2_ n3_; (try clear hb); (try clear hb2); (try clear hk); (try clear hi)) | (go_at_call 46; (with_reducible refine (solve_areSets.calls a1_0 _ _ l1_1 _ _ l1_2 _ _ y393 true _ ?side1 ?side2 ?side3 ?side4 ?side5 ?side6 A69.out).mono ?_); (case side1 => repeat (first | exact (Kd.C_below HR1_1.out HB.out) | (with_reducible refine Kd.C_alloc ?_ _) | (with_reducible refine Kd.C_drewN ?_ _) | (with_reducible refine Kd.C_drew ?_))); (case side2 => exact HC1_1.out); (case side3 => repeat (first | exact (Kd.C_below HR1_2.out HB.out) | (with_reducible refine Kd.C_alloc ?_ _) | (with_reducible refine Kd.C_drewN ?_ _) | (with_reducible refine Kd.C_drew ?_))); (case side4 => exact HC1_2.out); (case side5 => repeat (first | exact (Kd.R_reads' HO395.out).2.2 | (with_reducible refine Kd.C_alloc ?_ _) | (with_reducible refine Kd.C_drewN ?_ _) | (with_reducible refine Kd.C_drew ?_))); (case side6 => exact (Kd.R_reads' HO395.out).2.1); rintro e w90 ⟨rfl, hb⟩; have n0_ := Aside0.mk (Kd.R_below (by (with_reducible repeat (first | apply Kd.R_alloc | apply Kd.R_drewN | apply Kd.R_drew)); exact HO395.out) hb); have n1_ := Aside0.mk (blk_below (g := gb379) (o := .cells #[.int .i64 a0_0, .int .i64 a0_1, .int .i64 a0_2, .int .i64 a0_3, .int .i64 a0_4, .int .i64 a0_5, .int .i64 a0_6, .string a0_7, .slice A0_8 l0_8.length c0_8] 46 (0, 0)) (by (with_reducible repeat (first | refine blk_drewN ?_ _ | refine blk_drew ?_ | refine blk_alloc ?_ _)); exact BK379.out) hb); have n2_ := Aside0.mk (blk_below (g := gb380) (o := .cells #[.int .i64 a1_0, .slice A1_1 l1_1.length c1_1, .slice A1_2 l1_2.length c1_2] 25 (0, 0)) (by (with_reducible repeat (first | refine blk_drewN ?_ _ | refine blk_drew ?_ | refine blk_alloc ?_ _)); exact BK380.out) hb); have n3_ := Aside0.mk (below_step (by repeat (first | (with_reducible first | exact HB.out | apply below_alloc | apply pw_below_drewN | apply below_drew1 | refine below_set ?_ GE379.out | refine below_set ?_ GE380.out) | exact HB.out)) hb); clear HO395; clear BK379; clear BK380; clear HB; have HO395 := n0_; have BK379 := n1_; have BK380 := n2_; have HB := n3_; clear n0_ n1_ n2_ n3_; (try clear hb); (try clear hb2); (try clear hk); (try clear hi); have hcz91_0 : w90.cell? ⟨gb380, 0, none⟩ = some (.int .i64 a1_0) := (blk_cell BK380.out 0).trans rfl; have hcz91_1 : w90.cell? ⟨gb380, 1, none⟩ = some (.slice A1_1 l1_1.length c1_1) := (blk_cell BK380.out 1).trans rfl; have hcz91_2 : w90.cell? ⟨gb380, 2, none⟩ = some (.slice A1_2 l1_2.length c1_2) := (blk_cell BK380.out 2).trans rfl; have hfz91_0 := blk_frozen BK380.out 0; have hfz91_1 := blk_frozen BK380.out 1; have hfz91_2 := blk_frozen BK380.out 2; have hcz92_0 : w90.cell? ⟨gb379, 0, none⟩ = some (.int .i64 a0_0) := (blk_cell BK379.out 0).trans rfl; have hcz92_1 : w90.cell? ⟨gb379, 1, none⟩ = some (.int .i64 a0_1) := (blk_cell BK379.out 1).trans rfl; have hcz92_2 : w90.cell? ⟨gb379, 2, none⟩ = some (.int .i64 a0_2) := (blk_cell BK379.out 2).trans rfl; have hcz92_3 : w90.cell? ⟨gb379, 3, none⟩ = some (.int .i64 a0_3) := (blk_cell BK379.out 3).trans rfl; have hcz92_4 : w90.cell? ⟨gb379, 4, none⟩ = some (.int .i64 a0_4) := (blk_cell BK379.out 4).trans rfl; have hcz92_5 : w90.cell? ⟨gb379, 5, none⟩ = some (.int .i64 a0_5) := (blk_cell BK379.out 5).trans rfl; have hcz92_6 : w90.cell? ⟨gb379, 6, none⟩ = some (.int .i64 a0_6) := (blk_cell BK379.out 6).trans rfl; have hcz92_7 : w90.cell? ⟨gb379, 7, none⟩ = some (.string a0_7) := (blk_cell BK379.out 7).trans rfl; have hcz92_8 : w90.cell? ⟨gb379, 8, none⟩ = some (.slice A0_8 l0_8.length c0_8) := (blk_cell BK379.out 8).trans rfl; have hfz92_0 := blk_frozen BK379.out 0; have hfz92_1 := blk_frozen BK379.out 1; have hfz92_2 := blk_frozen BK379.out 2; have hfz92_3 := blk_frozen BK379.out 3; have hfz92_4 := blk_frozen BK379.out 4; have hfz92_5 := blk_frozen BK379.out 5; have hfz92_6 := blk_frozen BK379.out 6; have hfz92_7 := blk_frozen BK379.out 7; have hfz92_8 := blk_frozen BK379.out 8) | ((with_reducible refine gate_dst (N := 79) rfl ?_); (try (refine gate_guard (by rfl) ?_; dsimp only)); refine Kd.R_lit (Kd.int .i64) _ 3 ?hg (N := 79) ?hd (xs := ([a0_3, a0_5] : List Int)) (inner := [.int .i64 a0_3, .int .i64 a0_5]) (ok := fun _ => True) (okp := fun _ => True) ?hr ?hp (fun _ hk => hk) trivial (Below.refl _ _) (Nat.le_refl _) (by simp) ?_; (case hd => rfl); (case hg => rfl); (case hr => first | (go_simp; done) | (go_simp; rfl)); (case hp => exact (Reps.one (show Kd.M (Kd.int .i64) _ _ _ a0_3 [.int .i64 a0_3] from rfl) (Reps.one (show Kd.M (Kd.int .i64) _ _ _ a0_5 [.int .i64 a0_5] from rfl) (Reps.none _ _)))); intro v394 w87 ho88 hb hg_ hnew_; clear hg_ hnew_; (first | rw [← Ny393.out] at ho88 | (simp only [Int.reduceToNat] at ho88; rw [← Ny393.out] at ho88)); have n0_ := Aside0.mk (Kd.R_lower ho88 (below_size (by repeat (first | (with_reducible first | exact HB.out | apply below_alloc | apply pw_below_drewN | apply below_drew1 | refine below_set ?_ GE379.out | refine below_set ?_ GE380.out) | exact HB.out)))); have n1_ := Aside0.mk (blk_below (g := gb379) (o := .cells #[.int .i64 a0_0, .int .i64 a0_1, .int .i64 a0_2, .int .i64 a0_3, .int .i64 a0_4, .int .i64 a0_5, .int .i64 a0_6, .string a0_7, .slice A0_8 l0_8.length c0_8] 46 (0, 0)) (by (with_reducible repeat (first | refine blk_drewN ?_ _ | refine blk_drew ?_ | refine blk_alloc ?_ _)); exact BK379.out) hb); have n2_ := Aside0.mk (blk_below (g := gb380) (o := .cells #[.int .i64 a1_0, .slice A1_1 l1_1.length c1_1, .slice A1_2 l1_2.length c1_2] 25 (0, 0)) (by (with_reducible repeat (first | refine blk_drewN ?_ _ | refine blk_drew ?_ | refine blk_alloc ?_ _)); exact BK380.out) hb); have n3_ := Aside0.mk (below_step (by repeat (first | (with_reducible first | exact HB.out | apply below_alloc | apply pw_below_drewN | apply below_drew1 | refine below_set ?_ GE379.out | refine below_set ?_ GE380.out) | exact HB.out)) hb); clear BK379; clear BK380; clear HB; have HO395 := n0_; have BK379 := n1_; have BK380 := n2_; have HB := n3_; clear n0_ n1_ n2_ n3_; clear hb ho88; obtain ⟨Ao89, co89, eo89⟩ := Kd.R_slice HO395.out; subst eo89))
                      go_ret
                      exact ⟨by first | rfl | (simp [errW_none, errW_some] <;> rfl) | (simp [*, errW_none, errW_some] <;> rfl) | (simp [*, errW_none, errW_some]; exact (fun (l_ : List UInt8) => (by cases l_ <;> rfl : l_.isEmpty = !(l_ != []))) _), by repeat (first | (with_reducible first | exact HB.out | apply below_alloc | apply pw_below_drewN | apply below_drew1 | refine below_set ?_ GE379.out | refine below_set ?_ GE380.out) | exact HB.out)⟩
                  · replace c70 := Bool.eq_false_iff.mpr c70
                    subst c70
                    have H1 : (some false) = some r := by rw [if_neg (show ¬ (false = true) by decide)] at H; exact H
                    clear H
                    have H := H1
                    clear H1
                    obtain rfl := Option.some.inj H
                    have hnb94 := NB380_379.out
                    have hnc94 := NB379_380.out
                    have hcz95_0 : wc.cell? ⟨gb380, 0, none⟩ = some (.int .i64 a1_0) := (blk_cell BK380.out 0).trans rfl
                    have hcz95_1 : wc.cell? ⟨gb380, 1, none⟩ = some (.slice A1_1 l1_1.length c1_1) := (blk_cell BK380.out 1).trans rfl
                    have hcz95_2 : wc.cell? ⟨gb380, 2, none⟩ = some (.slice A1_2 l1_2.length c1_2) := (blk_cell BK380.out 2).trans rfl
                    have hfz95_0 := blk_frozen BK380.out 0
                    have hfz95_1 := blk_frozen BK380.out 1
                    have hfz95_2 := blk_frozen BK380.out 2
                    have hcz96_0 : wc.cell? ⟨gb379, 0, none⟩ = some (.int .i64 a0_0) := (blk_cell BK379.out 0).trans rfl
                    have hcz96_1 : wc.cell? ⟨gb379, 1, none⟩ = some (.int .i64 a0_1) := (blk_cell BK379.out 1).trans rfl
                    have hcz96_2 : wc.cell? ⟨gb379, 2, none⟩ = some (.int .i64 a0_2) := (blk_cell BK379.out 2).trans rfl
                    have hcz96_3 : wc.cell? ⟨gb379, 3, none⟩ = some (.int .i64 a0_3) := (blk_cell BK379.out 3).trans rfl
                    have hcz96_4 : wc.cell? ⟨gb379, 4, none⟩ = some (.int .i64 a0_4) := (blk_cell BK379.out 4).trans rfl
                    have hcz96_5 : wc.cell? ⟨gb379, 5, none⟩ = some (.int .i64 a0_5) := (blk_cell BK379.out 5).trans rfl
                    have hcz96_6 : wc.cell? ⟨gb379, 6, none⟩ = some (.int .i64 a0_6) := (blk_cell BK379.out 6).trans rfl
                    have hcz96_7 : wc.cell? ⟨gb379, 7, none⟩ = some (.string a0_7) := (blk_cell BK379.out 7).trans rfl
                    have hcz96_8 : wc.cell? ⟨gb379, 8, none⟩ = some (.slice A0_8 l0_8.length c0_8) := (blk_cell BK379.out 8).trans rfl
                    have hfz96_0 := blk_frozen BK379.out 0
                    have hfz96_1 := blk_frozen BK379.out 1
                    have hfz96_2 := blk_frozen BK379.out 2
                    have hfz96_3 := blk_frozen BK379.out 3
                    have hfz96_4 := blk_frozen BK379.out 4
                    have hfz96_5 := blk_frozen BK379.out 5
                    have hfz96_6 := blk_frozen BK379.out 6
                    have hfz96_7 := blk_frozen BK379.out 7
                    have hfz96_8 := blk_frozen BK379.out 8
                    go_wp2_with (first | ((with_reducible refine gate_dst (N := 79) rfl ?_); (try (refine gate_guard (by rfl) ?_; dsimp only)); refine Kd.R_lit (Kd.int .i64) _ 3 ?hg (N := 79) ?hd (xs := ([a0_3, a0_5] : List Int)) (inner := [.int .i64 a0_3, .int .i64 a0_5]) (ok := fun _ => True) (okp := fun _ => True) ?hr ?hp (fun _ hk => hk) trivial (Below.refl _ _) (Nat.le_refl _) (by simp) ?_; (case hd => rfl); (case hg => rfl); (case hr => first | (go_simp; done) | (go_simp; rfl)); (case hp => exact (Reps.one (show Kd.M (Kd.int .i64) _ _ _ a0_3 [.int .i64 a0_3] from rfl) (Reps.one (show Kd.M (Kd.int .i64) _ _ _ a0_5 [.int .i64 a0_5] from rfl) (Reps.none _ _)))); intro v394 w97 ho98 hb hg_ hnew_; clear hg_ hnew_; (first | rw [← Ny393.out] at ho98 | (simp only [Int.reduceToNat] at ho98; rw [← Ny393.out] at ho98)); have n0_ := Aside0.mk (Kd.R_lower ho98 (below_size (by repeat (first | (with_reducible first | exact HB.out | apply below_alloc | apply pw_below_drewN | apply below_drew1 | refine below_set ?_ GE379.out | refine below_set ?_ GE380.out) | exact HB.out)))); have n1_ := Aside0.mk (blk_below (g := gb379) (o := .cells #[.int .i64 a0_0, .int .i64 a0_1, .int .i64 a0_2, .int .i64 a0_3, .int .i64 a0_4, .int .i64 a0_5, .int .i64 a0_6, .string a0_7, .slice A0_8 l0_8.length c0_8] 46 (0, 0)) (by (with_reducible repeat (first | refine blk_drewN ?_ _ | refine blk_drew ?_ | refine blk_alloc ?_ _)); exact BK379.out) hb); have n2_ := Aside0.mk (blk_below (g := gb380) (o := .cells #[.int .i64 a1_0, .slice A1_1 l1_1.length c1_1, .slice A1_2 l1_2.length c1_2] 25 (0, 0)) (by (with_reducible repeat (first | refine blk_drewN ?_ _ | refine blk_drew ?_ | refine blk_alloc ?_ _)); exact BK380.out) hb); have n3_ := Aside0.mk (below_step (by repeat (first | (with_reducible first | exact HB.out | apply below_alloc | apply pw_below_drewN | apply below_drew1 | refine below_set ?_ GE379.out | refine below_set ?_ GE380.out) | exact HB.out)) hb); clear BK379; clear BK380; clear HB; have HO395 := n0_; have BK379 := n1_; have BK380 := n2_; have HB := n3_; clear n0_ n1_ n2_ n3_; clear hb ho98; obtain ⟨Ao99, co99, eo99⟩ := Kd.R_slice HO395.out; subst eo99) | (go_at_call 46; (with_reducible refine (solve_areSets.calls a1_0 _ _ l1_1 _ _ l1_2 _ _ y393 false _ ?side1 ?side2 ?side3 ?side4 ?side5 ?side6 A69.out).mono ?_); (case side1 => repeat (first | exact (Kd.C_below HR1_1.out HB.out) | (with_reducible refine Kd.C_alloc ?_ _) | (with_reducible refine Kd.C_drewN ?_ _) | (with_reducible refine Kd.C_drew ?_))); (case side2 => exact HC1_1.out); (case side3 => repeat (first | exact (Kd.C_below HR1_2.out HB.out) | (with_reducible refine Kd.C_alloc ?_ _) | (with_reducible refine Kd.C_drewN ?_ _) | (with_reducible refine Kd.C_drew ?_))); (case side4 => exact HC1_2.out); (case side5 => repeat (first | exact (Kd.R_reads' HO395.out).2.2 | (with_reducible refine Kd.C_alloc ?_ _) | (with_reducible refine Kd.C_drewN ?_ _) | (with_reducible refine Kd.C_drew ?_))); (case side6 => exact (Kd.R_reads' HO395.out).2.1); rintro e w100 ⟨rfl, hb⟩; have n0_ := Aside0.mk (Kd.R_below (by (with_reducible repeat (first | apply Kd.R_alloc | apply Kd.R_drewN | apply Kd.R_drew)); exact HO395.out) hb); have n1_ := Aside0.mk (blk_below (g := gb379) (o := .cells #[.int .i64 a0_0, .int .i64 a0_1, .int .i64 a0_2, .int .i64 a0_3, .int .i64 a0_4, .int .i64 a0_5, .int .i64 a0_6, .string a0_7, .slice A0_8 l0_8.length c0_8] 46 (0, 0)) (by (with_reducible repeat (first | refine blk_drewN ?_ _ | refine blk_drew ?_ | refine blk_alloc ?_ _)); exact BK379.out) hb); have n2_ := Aside0.mk (blk_below (g := gb380) (o := .cells #[.int .i64 a1_0, .slice A1_1 l1_1.length c1_1, .slice A1_2 l1_2.length c1_2] 25 (0, 0)) (by (with_reducible repeat (first | refine blk_drewN ?_ _ | refine blk_drew ?_ | refine blk_alloc ?_ _)); exact BK380.out) hb); have n3_ := Aside0.mk (below_step (by repeat (first | (with_reducible first | exact HB.out | apply below_alloc | apply pw_below_drewN | apply below_drew1 | refine below_set ?_ GE379.out | refine below_set ?_ GE380.out) | exact HB.out)) hb); clear HO395; clear BK379; clear BK380; clear HB; have HO395 := n0_; have BK379 := n1_; have BK380 := n2_; have HB := n3_; clear n0_ n1_ n2_ n3_; (try clear hb); (try clear hb2); (try clear hk); (try clear hi)))
                    go_ret
                    exact ⟨by first | rfl | (simp [errW_none, errW_some] <;> rfl) | (simp [*, errW_none, errW_some] <;> rfl) | (simp [*, errW_none, errW_some]; exact (fun (l_ : List UInt8) => (by cases l_ <;> rfl : l_.isEmpty = !(l_ != []))) _), by repeat (first | (with_reducible first | exact HB.out | apply below_alloc | apply pw_below_drewN | apply below_drew1 | refine below_set ?_ GE379.out | refine below_set ?_ GE380.out) | exact HB.out)⟩
                · replace c68 := Bool.eq_false_iff.mpr c68
                  subst c68
                  have H1 : (some false) = some r := by rw [if_neg (show ¬ (false = true) by decide)] at H; exact H
                  clear H
                  have H := H1
                  clear H1
                  obtain rfl := Option.some.inj H
                  go_wp2
                  go_ret
                  exact ⟨by first | rfl | (simp [errW_none, errW_some] <;> rfl) | (simp [*, errW_none, errW_some] <;> rfl) | (simp [*, errW_none, errW_some]; exact (fun (l_ : List UInt8) => (by cases l_ <;> rfl : l_.isEmpty = !(l_ != []))) _), by repeat (first | (with_reducible first | exact HB.out | apply below_alloc | apply pw_below_drewN | apply below_drew1 | refine below_set ?_ GE379.out | refine below_set ?_ GE380.out) | exact HB.out)⟩
end Go.Proofs.Ytngppcmdaanheaa.Pr

/- solve.fits in closed form; solve.Right. No condition. -/
namespace Go.Proofs.Ytngppcmdaanheaa.Ls
open Go.RowKit Go.Maps Go.Proofs.Ytngppcmdaanheaa.Iter Go.Proofs.Ytngppcmdaanheaa.ISet Go.Proofs.Ytngppcmdaanheaa.Pr Go.Proofs.Ytngppcmdaanheaa.Ext Go.Proofs.YtngppcmdaanheaaW.PrintWords Go.Proofs.YtngppcmdaanheaaW.PrintLast Go.Proofs.YtngppcmdaanheaaW.PrintMore
set_option linter.unusedVariables false
set_option linter.unusedSimpArgs false
def isM (m : Int) : Bool := if m ≥ 4 then decide (m ≤ 1000000) else false
def callB (s0 : Int) (x : S46) : Bool := isM x.f6 && (setsB s0 [x.f3, x.f5] && (setsB s0 x.f8 && decide ((x.f8.length : Int) ≤ 200)))
def kindB (s0 : Int) (nf : Nat) (x : S46) : Bool :=
  if x.f0 = 1 then isM x.f6 else if x.f0 = 2 then (if x.f5 > 0 then decide (x.f5 < (nf : Int)) else false)
  else if x.f0 = 8 then (if x.f4 = -1 then callB s0 x else if setsB s0 [x.f4] = true then callB s0 x else false)
  else if x.f0 = 9 then callB s0 x else if 3 ≤ x.f0 ∧ x.f0 ≤ 7 then setsB s0 [x.f3] else false
def fitsB (s0 : Int) (nf : Nat) (x : S46) : Bool :=
  if x.f1 < 0 then false else if x.f1 ≥ (nf : Int) then false else if setsB s0 [x.f2] = true then kindB s0 nf x else false
theorem areSets_f (s0 : Int) (fs : List S44) (rs : List S46) (l : List Int) (h : l.length ≤ 140737488355328) : solve_areSets.f s0 fs rs l = some (setsB s0 l) := by
  unfold solve_areSets.f
  rw [if_pos h]
theorem fits_j4 (s0 : Int) (fs : List S44) (rs : List S46) (x : S46) (hx : x.f8.length ≤ 140737488355328) (k : Nat) :
    solve_fits.j4 (k + 1) (isM x.f6) x.f0 x.f1 x.f2 x.f3 x.f4 x.f5 x.f6 x.f7 x.f8 s0 fs rs = some (callB s0 x) := by
  rw [solve_fits.j4, areSets_f s0 fs rs [x.f3, x.f5] (by simp), areSets_f s0 fs rs x.f8 hx]
  simp only [Option.bind_some]
  unfold callB
  cases isM x.f6
  · rfl
  · cases setsB s0 [x.f3, x.f5]
    · rfl
    · cases setsB s0 x.f8 <;> rfl
theorem fits_j2 (s0 : Int) (fs : List S44) (rs : List S46) (x : S46) (k : Nat) (b : Bool) :
    solve_fits.j2 (k + 1) b x.f0 x.f1 x.f2 x.f3 x.f4 x.f5 x.f6 x.f7 x.f8 s0 fs rs = some (if b = true then setsB s0 [x.f3] else false) := by
  rw [solve_fits.j2, areSets_f s0 fs rs [x.f3] (by simp)]
  simp only [Option.bind_some]
  cases b <;> rfl
theorem fits_j1 (s0 : Int) (fs : List S44) (rs : List S46) (x : S46) (hx : x.f8.length ≤ 140737488355328) (k : Nat) :
    solve_fits.j1 (k + 3) (isM x.f6) x.f0 x.f1 x.f2 x.f3 x.f4 x.f5 x.f6 x.f7 x.f8 s0 fs rs = some (kindB s0 fs.length x) := by
  rw [solve_fits.j1]
  unfold kindB
  by_cases h1 : x.f0 = 1
  · rw [if_pos h1, if_pos h1]
  rw [if_neg h1, if_neg h1]
  by_cases h2 : x.f0 = 2
  · rw [if_pos h2, if_pos h2]
    split <;> rfl
  rw [if_neg h2, if_neg h2]
  by_cases h8 : x.f0 = 8
  · rw [if_pos h8, if_pos h8]
    by_cases hz : x.f4 = -1
    · rw [if_pos hz, if_pos hz, solve_fits.j3, if_neg (by decide)]
      exact fits_j4 s0 fs rs x hx k
    · rw [if_neg hz, if_neg hz, areSets_f s0 fs rs [x.f4] (by simp)]
      simp only [Option.bind_some]
      cases hs : setsB s0 [x.f4]
      · rw [solve_fits.j3, if_pos (show (!false) = true from rfl), if_neg (by decide)]
      · rw [solve_fits.j3, if_neg (by decide), if_pos rfl]
        exact fits_j4 s0 fs rs x hx k
  rw [if_neg h8, if_neg h8]
  by_cases h9 : x.f0 = 9
  · rw [if_pos h9, if_pos h9]
    exact fits_j4 s0 fs rs x hx (k + 1)
  rw [if_neg h9, if_neg h9]
  by_cases h3 : x.f0 = 3
  · rw [if_pos h3, fits_j2, if_pos (by simp [h3]), if_pos (by omega)]
  rw [if_neg h3]
  by_cases h4 : x.f0 = 4
  · rw [if_pos h4, fits_j2, if_pos (by simp [h4]), if_pos (by omega)]
  rw [if_neg h4]
  by_cases h5 : x.f0 = 5
  · rw [if_pos h5, fits_j2, if_pos (by simp [h5]), if_pos (by omega)]
  rw [if_neg h5]
  by_cases h6 : x.f0 = 6
  · rw [if_pos h6, fits_j2, if_pos (by simp [h6]), if_pos (by omega)]
  rw [if_neg h6, fits_j2]
  by_cases h7 : x.f0 = 7
  · rw [if_pos (by simp [h7]), if_pos (by omega)]
  · rw [if_neg (by simpa using h7), if_neg (by omega)]
theorem fits_tells (s0 : Int) (fs : List S44) (rs : List S46) (x : S46) (hx : x.f8.length ≤ 140737488355328) :
    solve_fits.f 4 x.f0 x.f1 x.f2 x.f3 x.f4 x.f5 x.f6 x.f7 x.f8 s0 fs rs = some (fitsB s0 fs.length x) := by
  unfold solve_fits.f fitsB
  by_cases h1 : x.f1 < 0
  · rw [if_pos h1, if_pos h1, solve_fits.j0, if_pos rfl]
  rw [if_neg h1, if_neg h1]
  by_cases h2 : x.f1 ≥ (fs.length : Int)
  · rw [if_pos h2, if_pos h2, solve_fits.j0, if_pos rfl]
  rw [if_neg h2, if_neg h2, areSets_f s0 fs rs [x.f2] (by simp)]
  simp only [Option.bind_some]
  cases hs : setsB s0 [x.f2]
  · rw [solve_fits.j0, if_pos (show (!false) = true from rfl), if_neg (by decide)]
  · rw [solve_fits.j0, if_neg (by decide), if_pos rfl, ← fits_j1 s0 fs rs x hx 0]
    unfold isM
    split <;> rfl
/-! ### Right -/
def funB (s0 : Int) (i : Nat) (f : S44) : Bool :=
  decide ((f.f1.length : Int) ≤ 200) && (setsB s0 f.f1 && (setsB s0 [f.f2, f.f3, f.f4] && (decide (i = 0) || (decide (4 ≤ f.f0) && decide (f.f0 < 1000000)))))
def funsB (s0 : Int) (fs : List S44) : Bool := (List.range fs.length).all (fun i => funB s0 i (rd_T44 fs (i : Int)))
def rightB (s0 : Int) (fs : List S44) (rs : List S46) : Bool :=
  decide (9 ≤ s0 ∧ s0 ≤ 100000 ∧ 0 < fs.length) && (funsB s0 fs && !(rs.any (fun x => !fitsB s0 fs.length x)))
theorem right1_calls (s0 : Int) (fs : List S44) (rs : List S46) {A1 A2 : Option Addr} {c1 c2 : Nat} (b : Nat) (x : S46) (A : Option Addr) (c : Nat) (w : World)
    (hf : Kd.C k44 w A1 fs.length fs) (hfc : fs.length ≤ c1) (hr : Kd.C k46 w A2 rs.length rs) (hrc : rs.length ≤ c2) (hx : Kd.C (Kd.int .i64) w A x.f8.length x.f8) (hxc : x.f8.length ≤ c) (hxl : x.f8.length ≤ 140737488355328)
    (h : w.heap[b]? = some (.cells #[.int .i64 s0, .slice A1 fs.length c1, .slice A2 rs.length c2] 25 (0, 0))) :
    Calls Try.prog 48 #[.agg #[.int .i64 x.f0, .int .i64 x.f1, .int .i64 x.f2, .int .i64 x.f3, .int .i64 x.f4, .int .i64 x.f5, .int .i64 x.f6, .string x.f7, .slice A x.f8.length c], .pointer (some ⟨b, 0, none⟩)] w fun e w' => e = .returned (.bool (!fitsB s0 fs.length x)) ∧ Below w.heap.size w w' := by
  obtain ⟨x0, x1, x2, x3, x4, x5, x6, x7, x8⟩ := x
  obtain ⟨Wb, hWb⟩ : ∃ Wb, Wb = w.alloc (.cells #[.int .i64 x0, .int .i64 x1, .int .i64 x2, .int .i64 x3, .int .i64 x4, .int .i64 x5, .int .i64 x6, .string x7, .slice A x8.length c] 46) := ⟨_, rfl⟩
  have hb : Below w.heap.size w Wb := by rw [hWb]; exact below_alloc (Below.refl _ w) _
  have hlt : b < w.heap.size := (Array.getElem?_eq_some_iff.1 h).1
  have hbk : Wb.heap[b]? = some (.cells #[.int .i64 s0, .slice A1 fs.length c1, .slice A2 rs.length c2] 25 (0, 0)) := (hb.block _ hlt).trans h
  have d0 : Wb.cell? ⟨b, 0, none⟩ = some (.int .i64 s0) := by simp [World.cell?, hbk]
  have d1 : Wb.cell? ⟨b, 1, none⟩ = some (.slice A1 fs.length c1) := by simp [World.cell?, hbk]
  have d2 : Wb.cell? ⟨b, 2, none⟩ = some (.slice A2 rs.length c2) := by simp [World.cell?, hbk]
  have HI := Aside0.mk (solve_fits.calls 4 x0 x1 x2 x3 x4 x5 x6 x7 A c x8 s0 A1 c1 fs A2 c2 rs _ Wb (Kd.C_below hx hb) hxc (Kd.C_below hf hb) hfc (Kd.C_below hr hb) hrc (fits_tells s0 fs rs ⟨x0, x1, x2, x3, x4, x5, x6, x7, x8⟩ hxl))
  have HB := Aside0.mk hb
  rw [hWb] at d0 d1 d2
  have HWB := Aside0.mk hWb
  clear hb hlt hbk hx hf hr h hWb
  go_enter Try.func48, Try.ntmps48
  go_wp2_with fail
  rw [← HWB.out]
  refine HI.out.mono ?_
  rintro e w1 ⟨rfl, hb1⟩
  have HB1 := Aside0.mk (below_step HB.out hb1)
  clear d0 d1 d2 hb1 HI
  go_wp2
  go_ret
  exact ⟨rfl, HB1.out⟩
end Go.Proofs.Ytngppcmdaanheaa.Ls

/- solve.Right: the walk. No condition. -/
namespace Go.Proofs.Ytngppcmdaanheaa.Ls
open Go.RowKit Go.Maps Go.Proofs.Ytngppcmdaanheaa.Iter Go.Proofs.Ytngppcmdaanheaa.ISet Go.Proofs.Ytngppcmdaanheaa.Pr Go.Proofs.Ytngppcmdaanheaa.Ext Go.Proofs.YtngppcmdaanheaaW.PrintWords Go.Proofs.YtngppcmdaanheaaW.PrintLast Go.Proofs.YtngppcmdaanheaaW.PrintMore
set_option linter.unusedVariables false
set_option linter.unusedSimpArgs false
def FunCells (W : World) (b : Nat) (f0 : Int) (A : Option Addr) (n c : Nat) (f2 f3 f4 : Int) : Prop :=
  W.cell? ⟨b, 0, none⟩ = some (.int .i64 f0) ∧ W.cell? ⟨b, 1, none⟩ = some (.slice A n c) ∧ W.cell? ⟨b, 2, none⟩ = some (.int .i64 f2) ∧ W.cell? ⟨b, 3, none⟩ = some (.int .i64 f3) ∧ W.cell? ⟨b, 4, none⟩ = some (.int .i64 f4)
theorem C_three {W : World} {g : Nat} {x y z : Int} (h : W.heap[g]? = some (.cells #[.int .i64 x, .int .i64 y, .int .i64 z] 3 (0, 0))) : Kd.C (Kd.int .i64) W (some ⟨g, 0, none⟩) [x, y, z].length [x, y, z] := by
  have c0 : W.cell? ⟨g, 0, none⟩ = some (.int .i64 x) := by simp [World.cell?, h]
  have c1 : W.cell? ⟨g, 1, none⟩ = some (.int .i64 y) := by simp [World.cell?, h]
  have c2 : W.cell? ⟨g, 2, none⟩ = some (.int .i64 z) := by simp [World.cell?, h]
  refine ⟨rfl, by simp, fun _ => ⟨⟨g, 0, none⟩, rfl, fun j p hp => ?_⟩⟩
  match j, hp with
  | 0, hp =>
    obtain rfl : x = p := by simpa using hp
    exact ⟨[.int .i64 x], rfl, rfl, fun i u hu => by
      match i, hu with
      | 0, hu => obtain rfl : Value.int .i64 x = u := by simpa using hu
                 simpa [Addr.add] using c0
      | i + 1, hu => simp at hu⟩
  | 1, hp =>
    obtain rfl : y = p := by simpa using hp
    exact ⟨[.int .i64 y], rfl, rfl, fun i u hu => by
      match i, hu with
      | 0, hu => obtain rfl : Value.int .i64 y = u := by simpa using hu
                 exact c1
      | i + 1, hu => simp at hu⟩
  | 2, hp =>
    obtain rfl : z = p := by simpa using hp
    exact ⟨[.int .i64 z], rfl, rfl, fun i u hu => by
      match i, hu with
      | 0, hu => obtain rfl : Value.int .i64 z = u := by simpa using hu
                 exact c2
      | i + 1, hu => simp at hu⟩
  | j + 3, hp => simp at hp
theorem funsB_false {s0 : Int} {fs : List S44} {k : Nat} (hk : k < fs.length) (h : funB s0 k (rd_T44 fs (k : Int)) = false) : funsB s0 fs = false := by
  unfold funsB
  rw [List.all_eq_false]
  exact ⟨k, List.mem_range.2 hk, by simp [h]⟩
theorem funsB_true {s0 : Int} {fs : List S44} (h : ∀ k, k < fs.length → funB s0 k (rd_T44 fs (k : Int)) = true) : funsB s0 fs = true := by
  unfold funsB
  rw [List.all_eq_true]
  intro k hk
  exact h k (List.mem_range.1 hk)
theorem rightB_no {s0 : Int} {fs : List S44} {rs : List S46} (h : ¬ (9 ≤ s0 ∧ s0 ≤ 100000 ∧ 0 < fs.length)) : rightB s0 fs rs = false := by
  unfold rightB
  rw [decide_eq_false h]
  rfl
theorem rightB_funs {s0 : Int} {fs : List S44} {rs : List S46} (h : funsB s0 fs = false) : rightB s0 fs rs = false := by
  unfold rightB
  rw [h]
  simp
set_option maxHeartbeats 8000000 in
set_option maxRecDepth 100000 in
theorem right_calls {s0 : Int} {fs : List S44} {rs : List S46} {A1 A2 : Option Addr} {c1 c2 : Nat} (w : World)
    (hf : Kd.C k44 w A1 fs.length fs) (hfc : fs.length ≤ c1) (hr : Kd.C k46 w A2 rs.length rs) (hrc : rs.length ≤ c2) (hfl : ∀ f ∈ fs, f.f1.length ≤ 1000000) (hrl : ∀ x ∈ rs, x.f8.length ≤ 1000000) (hrn : rs.length ≤ 1000000) :
    Calls Try.prog 32 #[.agg #[.int .i64 s0, .slice A1 fs.length c1, .slice A2 rs.length c2]] w fun e w' => e = .returned (.bool (rightB s0 fs rs)) ∧ Below w.heap.size w w' := by
  obtain ⟨Wb, hWb⟩ : ∃ Wb, Wb = w.alloc (.cells #[.int .i64 s0, .slice A1 fs.length c1, .slice A2 rs.length c2] 25) := ⟨_, rfl⟩
  have hb : Below w.heap.size w Wb := by rw [hWb]; exact below_alloc (Below.refl _ w) _
  have hbk : Wb.heap[w.heap.size]? = some (.cells #[.int .i64 s0, .slice A1 fs.length c1, .slice A2 rs.length c2] 25 (0, 0)) := by rw [hWb]; exact heap_alloc_new _ _
  have hbl : w.heap.size < Wb.heap.size := by rw [hWb]; simp
  have HSY := Aside0.mk (show ∀ W', Below Wb.heap.size Wb W' → W'.heap[w.heap.size]? = some (.cells #[.int .i64 s0, .slice A1 fs.length c1, .slice A2 rs.length c2] 25 (0, 0)) from fun W' h => (h.block _ hbl).trans hbk)
  have HSC := Aside0.mk (show ∀ W', Below Wb.heap.size Wb W' → W'.cell? ⟨w.heap.size, 0, none⟩ = some (.int .i64 s0) ∧ W'.cell? ⟨w.heap.size, 1, none⟩ = some (.slice A1 fs.length c1) ∧ W'.cell? ⟨w.heap.size, 2, none⟩ = some (.slice A2 rs.length c2) from fun W' h => by
    have h1 := (h.block _ hbl).trans hbk
    simp [World.cell?, h1])
  have HF := Aside0.mk (show ∀ W', Below Wb.heap.size Wb W' → Kd.C k44 W' A1 fs.length fs from fun W' h => Kd.C_below hf (below_step hb h))
  have HR := Aside0.mk (show ∀ W', Below Wb.heap.size Wb W' → Kd.C k46 W' A2 rs.length rs from fun W' h => Kd.C_below hr (below_step hb h))
  have hfm : fs.length ≤ 9223372036854775807 := hf.2.1
  have HFL := Aside0.mk hfl
  have HRL := Aside0.mk hrl
  have HBB := Aside0.mk hb
  obtain ⟨d0, d1, d2⟩ := HSC.out Wb (Below.refl _ _)
  rw [hWb] at d0 d1 d2
  have HWB := Aside0.mk hWb
  clear hf hr hb hbk hbl hfl hrl hWb
  by_cases hA : s0 < 9
  · have HN := Aside0.mk (rightB_no (rs := rs) (fun h : 9 ≤ s0 ∧ s0 ≤ 100000 ∧ 0 < fs.length => absurd h.1 (by omega)))
    have g1 : decide (s0 < 9) = true := decide_eq_true hA
    go_enter Try.func32, Try.ntmps32
    go_wp2
    go_ret
    rw [HN.out]
    exact ⟨rfl, below_alloc (Below.refl _ w) _⟩
  have g1 : decide (s0 < 9) = false := decide_eq_false hA
  by_cases hB : s0 > 100000
  · have HN := Aside0.mk (rightB_no (rs := rs) (fun h : 9 ≤ s0 ∧ s0 ≤ 100000 ∧ 0 < fs.length => absurd h.2.1 (by omega)))
    have g2 : decide (s0 > 100000) = true := decide_eq_true hB
    go_enter Try.func32, Try.ntmps32
    go_wp2
    go_ret
    rw [HN.out]
    exact ⟨rfl, below_alloc (Below.refl _ w) _⟩
  have g2 : decide (s0 > 100000) = false := decide_eq_false hB
  by_cases hC : fs.length = 0
  · have HN := Aside0.mk (rightB_no (rs := rs) (fun h : 9 ≤ s0 ∧ s0 ≤ 100000 ∧ 0 < fs.length => absurd h.2.2 (by omega)))
    have g3 : ((fs.length : Int) == 0) = true := by simp [hC]
    go_enter Try.func32, Try.ntmps32
    go_wp2
    go_ret
    rw [HN.out]
    exact ⟨rfl, below_alloc (Below.refl _ w) _⟩
  have g3 : ((fs.length : Int) == 0) = false := by simp; intro h; rw [h] at hC; exact hC rfl
  have hok : 9 ≤ s0 ∧ s0 ≤ 100000 ∧ 0 < fs.length := ⟨by omega, by omega, by omega⟩
  have HOK := Aside0.mk hok
  clear hA hB hC hok
  go_enter Try.func32, Try.ntmps32
  go_wp2
  rw [← HWB.out]
  clear d0 d1 d2 g1 g2 g3
  go_loopg [22] fs.length (fun kq v22 W_ => ∃ k : Nat, v22 = .int .i64 k ∧ k + kq = fs.length ∧ (∀ i, i < k → funB s0 i (rd_T44 fs (i : Int)) = true) ∧ Below Wb.heap.size Wb W_)
  case atStart => exact ⟨0, rfl, by omega, fun i h => absurd h (Nat.not_lt_zero _), Below.refl _ _⟩
  case round =>
    obtain ⟨k, rfl, hk, hall, hb⟩ := hrel
    have HALL := Aside0.mk hall
    have HB := Aside0.mk hb
    clear hall hb
    by_cases hlt : k < fs.length
    · obtain ⟨ad, A1_, c1_, rfl, hd0, hd1, hd2, hd3, hd4, hpl, hpc⟩ := at_T44 (HF.out _ HB.out) (k : Int) (by omega) (by omega)
      rw [Int.toNat_natCast] at hd0 hd1 hd2 hd3 hd4
      have HFU := Aside0.mk (show funB s0 k (rd_T44 fs (k : Int)) = funB s0 k (rd_T44 fs (k : Int)) from rfl)
      have HNO := Aside0.mk (fun h => rightB_funs (rs := rs) (funsB_false (s0 := s0) hlt h))
      have HST := Aside0.mk (show funB s0 k (rd_T44 fs (k : Int)) = true → ∀ i, i < k + 1 → funB s0 i (rd_T44 fs (i : Int)) = true from fun h i hi => by
        rcases Nat.lt_or_eq_of_le (Nat.le_of_lt_succ hi) with h1 | h1
        · exact HALL.out i h1
        · rw [h1]; exact h)
      have hm : (rd_T44 fs (k : Int)).f1.length ≤ 1000000 := HFL.out _ (by
        unfold rd_T44
        rw [Int.toNat_natCast, List.getD_eq_getElem?_getD, List.getElem?_eq_getElem hlt]
        exact List.getElem_mem hlt)
      clear HFU
      generalize rd_T44 fs (k : Int) = f at *
      obtain ⟨f0, f1, f2, f3, f4⟩ := f
      dsimp only at hd0 hd1 hd2 hd3 hd4 hpl hpc hm
      obtain ⟨Wf, hWf⟩ : ∃ Wf, Wf = wr.alloc (.cells #[.int .i64 f0, .slice A1_ f1.length c1_, .int .i64 f2, .int .i64 f3, .int .i64 f4] 44) := ⟨_, rfl⟩
      have hbf : Below wr.heap.size wr Wf := by rw [hWf]; exact below_alloc (Below.refl _ wr) _
      have hnf : Wf.heap[wr.heap.size]? = some (.cells #[.int .i64 f0, .slice A1_ f1.length c1_, .int .i64 f2, .int .i64 f3, .int .i64 f4] 44 (0, 0)) := by rw [hWf]; exact heap_alloc_new _ _
      have hfl : wr.heap.size < Wf.heap.size := by rw [hWf]; simp
      have HFC := Aside0.mk (show ∀ W', Below Wf.heap.size Wf W' → FunCells W' wr.heap.size f0 A1_ f1.length c1_ f2 f3 f4 from fun W' h => by
        have h1 := (h.block _ hfl).trans hnf
        simp [FunCells, World.cell?, h1])
      have HBF := Aside0.mk (below_step HB.out hbf)
      have HPC := Aside0.mk (Kd.C_below hpc hbf)
      have HPL := Aside0.mk hpl
      have HWF := Aside0.mk hWf
      obtain ⟨y0, y1, y2, y3, y4⟩ := HFC.out Wf (Below.refl _ _)
      obtain ⟨d0, d1, d2⟩ := HSC.out Wf HBF.out
      rw [hWf] at y0 y1 y2 y3 y4 d0 d1 d2
      clear hWf hbf hnf hfl hpl hpc
      by_cases h1 : (f1.length : Int) > 200
      · have g1 : decide ((f1.length : Int) > 200) = true := decide_eq_true h1
        have HN := Aside0.mk (HNO.out (by unfold funB; rw [decide_eq_false (by dsimp only; omega)]; rfl))
        go_wp2
        go_ret
        rw [HN.out]
        exact ⟨rfl, by rw [← HWF.out]; exact below_step HBB.out HBF.out⟩
      have g1 : decide ((f1.length : Int) > 200) = false := decide_eq_false h1
      have l1 : decide ((f1.length : Int) ≤ 200) = true := decide_eq_true (by omega)
      have HI := Aside0.mk (solve_areSets.calls s0 (some ad) c1 fs A2 c2 rs A1_ c1_ f1 _ Wf (HF.out _ HBF.out) hfc (HR.out _ HBF.out) hrc HPC.out HPL.out (areSets_f s0 fs rs f1 (by omega)))
      go_wp2_with fail
      rw [← HWF.out]
      clear y0 y1 y2 y3 y4 d0 d1 d2 hd0 hd1 hd2 hd3 hd4
      refine HI.out.mono ?_
      rintro e W2 ⟨rfl, hb2⟩
      have HB2 := Aside0.mk (below_step (Below.refl _ Wf) hb2)
      have HB2' := Aside0.mk (below_step HBF.out hb2)
      clear hb2 HI
      cases hs1 : setsB s0 f1
      · have HN := Aside0.mk (HNO.out (by unfold funB; dsimp only; rw [l1, hs1]; rfl))
        go_wp2
        go_ret
        rw [HN.out]
        exact ⟨rfl, below_step HBB.out HB2'.out⟩
      have hC3 := C_three (W := W2.alloc (.cells #[.int .i64 f2, .int .i64 f3, .int .i64 f4] 3)) (heap_alloc_new _ _)
      have HBA := Aside0.mk (below_alloc HB2'.out (.cells #[.int .i64 f2, .int .i64 f3, .int .i64 f4] 3))
      have HI := Aside0.mk (solve_areSets.calls s0 (some ad) c1 fs A2 c2 rs (some ⟨W2.heap.size, 0, none⟩) 3 [f2, f3, f4] _ _ (HF.out _ HBA.out) hfc (HR.out _ HBA.out) hrc hC3 (by simp) (areSets_f s0 fs rs [f2, f3, f4] (by simp)))
      clear hC3
      obtain ⟨y0, y1, y2, y3, y4⟩ := HFC.out W2 HB2.out
      obtain ⟨d0, d1, d2⟩ := HSC.out W2 HB2'.out
      go_wp2_with fail
      clear y0 y1 y2 y3 y4 d0 d1 d2
      refine HI.out.mono ?_
      rintro e W3 ⟨rfl, hb3⟩
      have HB3 := Aside0.mk (below_step (below_alloc HB2.out _) hb3)
      have HB3' := Aside0.mk (below_step HBA.out hb3)
      clear hb3 HI
      cases hs2 : setsB s0 [f2, f3, f4]
      · have HN := Aside0.mk (HNO.out (by unfold funB; dsimp only; rw [l1, hs1, hs2]; rfl))
        go_wp2
        go_ret
        rw [HN.out]
        exact ⟨rfl, below_step HBB.out HB3'.out⟩
      obtain ⟨y0, y1, y2, y3, y4⟩ := HFC.out W3 HB3.out
      by_cases hk0 : k = 0
      · have g4 : decide ((k : Int) > 0) = false := decide_eq_false (by omega)
        have HY := Aside0.mk (HST.out (by unfold funB; dsimp only; rw [l1, hs1, hs2, decide_eq_true hk0]; rfl))
        go_wp2
        go_roundg (gk - 1)
        case measure => omega
        case rel => exact ⟨k + 1, by go_num, by omega, HY.out, HB3'.out⟩
      have g4 : decide ((k : Int) > 0) = true := decide_eq_true (by omega)
      by_cases hm4 : f0 < 4
      · have g5 : decide (f0 < 4) = true := decide_eq_true hm4
        have HN := Aside0.mk (HNO.out (by unfold funB; dsimp only; rw [l1, hs1, hs2, decide_eq_false hk0, decide_eq_false (show ¬ 4 ≤ f0 by omega)]; rfl))
        go_wp2
        go_ret
        rw [HN.out]
        exact ⟨rfl, below_step HBB.out HB3'.out⟩
      have g5 : decide (f0 < 4) = false := decide_eq_false hm4
      by_cases hm5 : f0 ≥ 1000000
      · have g6 : decide (f0 ≥ 1000000) = true := decide_eq_true hm5
        have HN := Aside0.mk (HNO.out (by unfold funB; dsimp only; rw [l1, hs1, hs2, decide_eq_false hk0, decide_eq_true (show 4 ≤ f0 by omega), decide_eq_false (show ¬ f0 < 1000000 by omega)]; rfl))
        go_wp2
        go_ret
        rw [HN.out]
        exact ⟨rfl, below_step HBB.out HB3'.out⟩
      have g6 : decide (f0 ≥ 1000000) = false := decide_eq_false hm5
      have HY := Aside0.mk (HST.out (by unfold funB; dsimp only; rw [l1, hs1, hs2, decide_eq_false hk0, decide_eq_true (show 4 ≤ f0 by omega), decide_eq_true (show f0 < 1000000 by omega)]; rfl))
      go_wp2
      go_roundg (gk - 1)
      case measure => omega
      case rel => exact ⟨k + 1, by go_num, by omega, HY.out, HB3'.out⟩
    · obtain rfl : k = fs.length := by omega
      have HFB := Aside0.mk (funsB_true HALL.out)
      obtain ⟨d0, d1, d2⟩ := HSC.out wr HB.out
      have HI := Aside0.mk (containsU (.func (.func 48) #[] #[.pointer (some ⟨w.heap.size, 0, none⟩)]) (fun x => !fitsB s0 fs.length x) A2 c2 rs wr
        ⟨_, _, rfl, (enters_of Try.func48 (by kernel_rfl) rfl), fun W' hb' x A c hx hA hc => right1_calls s0 fs rs _ x A c W' (HF.out _ (below_step HB.out hb')) hfc (HR.out _ (below_step HB.out hb')) hrc hA hc (Nat.le_trans (HRL.out x hx) (by decide)) (HSY.out _ (below_step HB.out hb'))⟩
        (HR.out _ HB.out) hrc (by omega))
      go_wp2_with fail
      clear d0 d1 d2
      refine HI.out.mono ?_
      rintro e W2 ⟨rfl, hb2⟩
      have HB2 := Aside0.mk (below_step HB.out hb2)
      clear hb2 HI
      have HRT := Aside0.mk (show rightB s0 fs rs = !(rs.any (fun x => !fitsB s0 fs.length x)) by unfold rightB; rw [decide_eq_true HOK.out, HFB.out]; rfl)
      generalize rs.any (fun x => !fitsB s0 fs.length x) = q at *
      go_wp2
      go_ret
      rw [HRT.out]
      exact ⟨rfl, below_step HBB.out HB2.out⟩
end Go.Proofs.Ytngppcmdaanheaa.Ls

/- least.Within. No condition. -/
namespace Go.Proofs.Ytngppcmdaanheaa.Ls
open Go.RowKit Go.Maps Go.Proofs.Ytngppcmdaanheaa.Iter Go.Proofs.Ytngppcmdaanheaa.ISet Go.Proofs.Ytngppcmdaanheaa.Pr Go.Proofs.Ytngppcmdaanheaa.Ext Go.Proofs.YtngppcmdaanheaaW.PrintWords Go.Proofs.YtngppcmdaanheaaW.PrintLast Go.Proofs.YtngppcmdaanheaaW.PrintMore
set_option linter.unusedVariables false
set_option linter.unusedSimpArgs false
def withinB (a b : List Fa) : Bool := !(a.any (fun f => !decide (f ∈ b)))
theorem within1_calls (b : List Fa) {g m n : Nat} (f : Fa) (hf : wfF f) (w : World) (hg : w.cell? ⟨g, 0, none⟩ = some (.map (some m))) (hm : FSet w m n (fun f => decide (f ∈ b))) :
    Calls Try.prog 35 #[.agg #[.int .i64 f.f0, .int .i64 f.f1, .string f.f2, .int .i64 f.f3], .pointer (some ⟨g, 0, none⟩)] w fun e w' => e = .returned (.bool (!decide (f ∈ b))) ∧ Below w.heap.size w w' := by
  obtain ⟨f0, f1, f2, f3⟩ := f
  obtain ⟨Wb, hWb⟩ : ∃ Wb, Wb = w.alloc (.cells #[.int .i64 f0, .int .i64 f1, .string f2, .int .i64 f3] 41) := ⟨_, rfl⟩
  have hb : Below w.heap.size w Wb := by rw [hWb]; exact below_alloc (Below.refl _ w) _
  have hg1 : Wb.cell? ⟨g, 0, none⟩ = some (.map (some m)) := by
    rw [hb.cell (by have := World.block_lt_of_cell? w _ hg; simpa using this)]
    exact hg
  have hlook := (hm.chg (Chg.of_below hb (fun _ => False)) (fun e => e)).look ⟨f0, f1, f2, f3⟩ hf
  dsimp only [aggF] at hlook
  rw [hWb] at hg1 hlook
  have HB := Aside0.mk hb
  have HWB := Aside0.mk hWb
  clear hm hg hb hWb
  go_enter Try.func35, Try.ntmps35
  go_wp2
  go_ret
  exact ⟨rfl, by rw [← HWB.out]; exact HB.out⟩
set_option maxHeartbeats 4000000 in
set_option maxRecDepth 100000 in
theorem within_calls {A1 A2 : Option Addr} {c1 c2 : Nat} {a b : List Fa} (w : World) (ha : Kd.C k41 w A1 a.length a) (hac : a.length ≤ c1) (hb : Kd.C k41 w A2 b.length b) (hbc : b.length ≤ c2)
    (hwa : ∀ f ∈ a, wfF f) (hwb : ∀ f ∈ b, wfF f) (hal : a.length ≤ 1000000000000) (hbl : b.length ≤ 1000000000000) :
    Calls Try.prog 18 #[.slice A1 a.length c1, .slice A2 b.length c2] w fun e w' => e = .returned (.bool (withinB a b)) ∧ Below w.heap.size w w' := by
  have hmk : ∀ W : World, (Instr.makeMap 61 none).run Try.prog W = .ok (.map (some W.heap.size)) (W.alloc (.map #[] 0)) := fun _ => rfl
  obtain ⟨m, hm⟩ : ∃ m, m = w.heap.size := ⟨_, rfl⟩
  have HM := Aside0.mk hm
  obtain ⟨Wb, hWb⟩ : ∃ Wb, Wb = (w.alloc (.map #[] 0)).alloc (.cells #[.map (some w.heap.size)] 61) := ⟨_, rfl⟩
  have hbb : Below w.heap.size w Wb := by rw [hWb]; exact below_alloc (below_alloc (Below.refl _ w) _) _
  have hM0 : FSet Wb m 0 (fun _ => false) := by
    have h1 := FSet.made w
    have h2 := h1.chg ((Chg.refl (fun _ => False) _).alloc (.cells #[.map (some w.heap.size)] 61)) (fun e => e)
    rw [hm, hWb]
    exact h2
  have hn1 : Wb.heap[w.heap.size + 1]? = some (.cells #[.map (some w.heap.size)] 61 (0, 0)) := by rw [hWb]; simp only [alloc_at, World.size_alloc]; simp (disch := omega) [if_pos, if_neg]
  have hc1 : Wb.cell? ⟨w.heap.size + 1, 0, none⟩ = some (.map (some m)) := by rw [hm]; exact (cell_of_blk hn1).1
  have HBX := Aside0.mk (show ∀ W', Chg (fun i => i = m) Wb W' → W'.cell? ⟨w.heap.size + 1, 0, none⟩ = some (.map (some m)) from fun W' hc => cell_map hM0 hc hc1)
  have HCB := Aside0.mk (show ∀ W', Chg (fun i => i = m) Wb W' → Below w.heap.size w W' from fun W' hc => hbb.trans (hc.below hbb.size (fun i hi => by subst hi; rw [hm]; exact Nat.le_refl _)))
  have HB2 := Aside0.mk (show ∀ W', Below w.heap.size w W' → Kd.C k41 W' A2 b.length b from fun W' h => Kd.C_below hb h)
  have HA := Aside0.mk (show ∀ W', Below w.heap.size w W' → Kd.C k41 W' A1 a.length a from fun W' h => Kd.C_below ha h)
  have HM0 := Aside0.mk hM0
  have HWA := Aside0.mk hwa
  have HWBF := Aside0.mk hwb
  have hb9 : b.length ≤ 9223372036854775807 := hb.2.1
  have HWB := Aside0.mk hWb
  clear ha hb hwa hwb hbb hM0 hn1 hc1 hWb hm
  go_enter Try.func18, Try.ntmps18
  go_wp2
  rw [← HWB.out]
  clear hmk
  go_loopg [11] b.length (fun kq v11 W_ => ∃ k : Nat, v11 = .int .i64 k ∧ k + kq = b.length ∧ FSet W_ m k (fun f => decide (f ∈ b.take k)) ∧ Chg (fun i => i = m) Wb W_)
  case atStart => exact ⟨0, rfl, by omega, HM0.out.same (fun f _ => by simp), Chg.refl _ _⟩
  case round =>
    obtain ⟨k, rfl, hk, hst, hch⟩ := hrel
    have HST := Aside0.mk hst
    have HCH := Aside0.mk hch
    clear hst hch
    by_cases hlt : k < b.length
    · obtain ⟨ad, rfl, hd0, hd1, hd2, hd3⟩ := at_T41 (HB2.out _ (HCB.out _ HCH.out)) (k : Int) (by omega) (by omega)
      rw [Int.toNat_natCast] at hd0 hd1 hd2 hd3
      have hx' : rd_T41 b (k : Int) = b[k] := by unfold rd_T41; rw [Int.toNat_natCast, List.getD_eq_getElem?_getD, List.getElem?_eq_getElem hlt]; rfl
      have HTK := Aside0.mk (show b.take (k + 1) = b.take k ++ [rd_T41 b (k : Int)] by rw [hx', List.take_succ_eq_append_getElem hlt])
      have hwx : wfF (rd_T41 b (k : Int)) := HWBF.out _ (by rw [hx']; exact List.getElem_mem _)
      clear hx'
      generalize rd_T41 b (k : Int) = f at *
      obtain ⟨f0, f1, f2, f3⟩ := f
      dsimp only at hd0 hd1 hd2 hd3
      obtain ⟨Wf, hWf⟩ : ∃ Wf, Wf = wr.alloc (.cells #[.int .i64 f0, .int .i64 f1, .string f2, .int .i64 f3] 41) := ⟨_, rfl⟩
      have hbf : Below wr.heap.size wr Wf := by rw [hWf]; exact below_alloc (Below.refl _ wr) _
      have hstf := HST.out.chg (Chg.of_below hbf (fun _ => False)) (fun e => e)
      have hchf := HCH.out.then_below hbf
      have hbx := HBX.out Wf hchf
      have hnf : Wf.heap[wr.heap.size]? = some (.cells #[.int .i64 f0, .int .i64 f1, .string f2, .int .i64 f3] 41 (0, 0)) := by rw [hWf]; exact heap_alloc_new _ _
      obtain ⟨W2, hput, hst2, hch2⟩ := hstf.put (by simp only [maxLen]; omega) ⟨f0, f1, f2, f3⟩ hwx
      have HG := Aside0.mk (show FSet W2 m (k + 1) (fun g => decide (g ∈ b.take (k + 1))) ∧ Chg (fun i => i = m) Wb W2 from ⟨hst2.same (fun g _ => by
        rw [HTK.out]
        simp only [List.mem_append, List.mem_singleton, Bool.decide_or]
        cases decide (g = ⟨f0, f1, f2, f3⟩) <;> simp), hchf.then_ hch2⟩)
      dsimp only [aggF] at hput
      rw [hWf] at hput hbx
      clear hst2 hch2 hwx hstf hchf hnf hbf hWf
      go_wp2
      go_roundg (gk - 1)
      case measure => omega
      case rel => exact ⟨k + 1, by go_num, by omega, HG.out.1, HG.out.2⟩
    · obtain rfl : k = b.length := by omega
      have hst := HST.out
      rw [List.take_length] at hst
      have HC := Aside0.mk (containsK (.func (.func 35) #[] #[.pointer (some ⟨w.heap.size + 1, 0, none⟩)]) (fun f => !decide (f ∈ b)) A1 c1 a wr
        ⟨_, _, rfl, (enters_of Try.func35 (by kernel_rfl) rfl), fun W' hb' f hf => within1_calls b f (HWA.out f hf) W' (HBX.out _ (HCH.out.then_below hb')) (hst.chg (Chg.of_below hb' (fun _ => False)) (fun e => e))⟩
        (HA.out _ (HCB.out _ HCH.out)) hac (by omega))
      clear hst
      go_wp2_with fail
      refine HC.out.mono ?_
      rintro e W2 ⟨rfl, hb2⟩
      have HBE := Aside0.mk (below_step (HCB.out _ HCH.out) hb2)
      clear hb2 HC
      have HE := Aside0.mk (show withinB a b = !(a.any (fun f => !decide (f ∈ b))) from rfl)
      generalize a.any (fun f => !decide (f ∈ b)) = q at *
      go_wp2
      go_ret
      rw [HE.out]
      exact ⟨rfl, HBE.out⟩
end Go.Proofs.Ytngppcmdaanheaa.Ls

/- least.round, least.Within, solve.Right as contracts that the print takes. No condition. -/
namespace Go.Proofs.Ytngppcmdaanheaa.Ls
open Go.RowKit Go.Maps Go.Proofs.Ytngppcmdaanheaa.Iter Go.Proofs.Ytngppcmdaanheaa.ISet Go.Proofs.Ytngppcmdaanheaa.Pr Go.Proofs.Ytngppcmdaanheaa.Ext Go.Proofs.YtngppcmdaanheaaW.PrintWords Go.Proofs.YtngppcmdaanheaaW.PrintLast Go.Proofs.YtngppcmdaanheaaW.PrintMore
set_option linter.unusedVariables false
set_option linter.unusedSimpArgs false
def roC (s0 : Int) (fs : List S44) (rs : List S46) (l : List Fa) : Ro := ⟨0, s0, none, 0, fs, none, 0, rs, none, 0, l, 0⟩
def SmallS (s0 : Int) (fs : List S44) (rs : List S46) : Prop := (∀ f ∈ fs, f.f1.length ≤ 1000000) ∧ (∀ x ∈ rs, x.f8.length ≤ 1000000) ∧ rs.length ≤ 1000000
structure RoundOk (r : Ro) : Prop where
  good : Good 0 (roundL r)
  srt : r.l.Pairwise LF
  len : r.l.length ≤ 900000
  fun1 : 1 ≤ r.fs.length ∧ r.fs.length ≤ 1000000
  sets : 0 ≤ r.s0 ∧ r.s0 ≤ 1000000000
  mark : ∀ x ∈ r.rs, x.f0 = 2 → 0 ≤ x.f5 ∧ x.f5 < r.fs.length ∧ 0 ≤ markOf r x ∧ markOf r x ≤ 1000000
theorem roundL_roC (r : Ro) : roundL r = roundL (roC r.s0 r.fs r.rs r.l) := rfl
theorem RoundOk.of {r : Ro} (h : RoundOk (roC r.s0 r.fs r.rs r.l)) : RoundOk r := ⟨by rw [roundL_roC]; exact h.good, h.srt, h.len, h.fun1, h.sets, h.mark⟩
instance decWf (f : Fa) : Decidable (wfF f) := by unfold wfF; infer_instance
instance decLF (x y : Fa) : Decidable (LF x y) := by unfold LF SL; infer_instance
instance decSmall (s0 : Int) (fs : List S44) (rs : List S46) : Decidable (SmallS s0 fs rs) := by unfold SmallS; infer_instance
instance decGood (n : Nat) (L : List Fa) : Decidable (Ls.Good n L) := by unfold Ls.Good; infer_instance
def RoundP (r : Ro) : Prop := Good 0 (roundL r) ∧ r.l.Pairwise LF ∧ r.l.length ≤ 900000 ∧ (1 ≤ r.fs.length ∧ r.fs.length ≤ 1000000) ∧ (0 ≤ r.s0 ∧ r.s0 ≤ 1000000000) ∧ ∀ x ∈ r.rs, x.f0 = 2 → 0 ≤ x.f5 ∧ x.f5 < r.fs.length ∧ 0 ≤ markOf r x ∧ markOf r x ≤ 1000000
instance decRoundP (r : Ro) : Decidable (RoundP r) := by unfold RoundP; infer_instance
instance decRound (r : Ro) : Decidable (RoundOk r) := decidable_of_iff (RoundP r) ⟨fun ⟨a, b, c, d, e, f⟩ => ⟨a, b, c, d, e, f⟩, fun ⟨a, b, c, d, e, f⟩ => ⟨a, b, c, d, e, f⟩⟩
section
def solve_Right.f (a0_0 : Int) (l0_1 : List S44) (l0_2 : List S46) : Option Bool := if SmallS a0_0 l0_1 l0_2 then some (rightB a0_0 l0_1 l0_2) else none
def least_Within.f (l0 l1 : List Fa) : Option Bool := if (∀ f ∈ l0, wfF f) ∧ (∀ f ∈ l1, wfF f) ∧ l0.length ≤ 1000000000000 ∧ l1.length ≤ 1000000000000 then some (withinB l0 l1) else none
def least_round.f (a0_0 : Int) (l0_1 : List S44) (l0_2 : List S46) (l1 : List Fa) : Option (List Fa) := if RoundOk (roC a0_0 l0_1 l0_2 l1) then some (factSet (roundL (roC a0_0 l0_1 l0_2 l1))) else none
theorem solve_Right.calls (a0_0 : Int) (A0_1 : Option Addr) (c0_1 : Nat) (l0_1 : List S44) (A0_2 : Option Addr) (c0_2 : Nat) (l0_2 : List S46) (r : Bool) (w : World)
    (hr0_1 : Kd.C k44 w A0_1 l0_1.length l0_1) (hc0_1 : l0_1.length ≤ c0_1) (hr0_2 : Kd.C k46 w A0_2 l0_2.length l0_2) (hc0_2 : l0_2.length ≤ c0_2) (h : solve_Right.f a0_0 l0_1 l0_2 = some r) :
    Calls Try.prog 32 #[.agg #[.int .i64 a0_0, .slice A0_1 l0_1.length c0_1, .slice A0_2 l0_2.length c0_2]] w fun e w' => e = .returned (.bool r) ∧ Below w.heap.size w w' := by
  unfold solve_Right.f at h
  by_cases hs : SmallS a0_0 l0_1 l0_2
  · rw [if_pos hs] at h
    obtain rfl : rightB a0_0 l0_1 l0_2 = r := by injection h
    exact right_calls w hr0_1 hc0_1 hr0_2 hc0_2 hs.1 hs.2.1 hs.2.2
  · rw [if_neg hs] at h
    cases h
theorem least_Within.calls (A0 : Option Addr) (c0 : Nat) (l0 : List Fa) (A1 : Option Addr) (c1 : Nat) (l1 : List Fa) (r : Bool) (w : World) (hr0 : Kd.C k41 w A0 l0.length l0) (hc0 : l0.length ≤ c0) (hr1 : Kd.C k41 w A1 l1.length l1) (hc1 : l1.length ≤ c1) (h : least_Within.f l0 l1 = some r) :
    Calls Try.prog 18 #[.slice A0 l0.length c0, .slice A1 l1.length c1] w fun e w' => e = .returned (.bool r) ∧ Below w.heap.size w w' := by
  unfold least_Within.f at h
  by_cases hs : (∀ f ∈ l0, wfF f) ∧ (∀ f ∈ l1, wfF f) ∧ l0.length ≤ 1000000000000 ∧ l1.length ≤ 1000000000000
  · rw [if_pos hs] at h
    obtain rfl : withinB l0 l1 = r := by injection h
    exact within_calls w hr0 hc0 hr1 hc1 hs.1 hs.2.1 hs.2.2.1 hs.2.2.2
  · rw [if_neg hs] at h
    cases h
theorem least_round.calls (a0_0 : Int) (A0_1 : Option Addr) (c0_1 : Nat) (l0_1 : List S44) (A0_2 : Option Addr) (c0_2 : Nat) (l0_2 : List S46) (A1 : Option Addr) (c1 : Nat) (l1 : List Fa) (r : List Fa) (w : World)
    (hr0_1 : Kd.C k44 w A0_1 l0_1.length l0_1) (hc0_1 : l0_1.length ≤ c0_1) (hr0_2 : Kd.C k46 w A0_2 l0_2.length l0_2) (hc0_2 : l0_2.length ≤ c0_2) (hr1 : Kd.C k41 w A1 l1.length l1) (hc1 : l1.length ≤ c1) (h : least_round.f a0_0 l0_1 l0_2 l1 = some r) :
    Calls Try.prog 21 #[.agg #[.int .i64 a0_0, .slice A0_1 l0_1.length c0_1, .slice A0_2 l0_2.length c0_2], .slice A1 l1.length c1] w fun e w' => ∃ v0_ : Value, e = .returned v0_ ∧ Kd.V k41 41 w' w.heap.size (fun k_ => w.heap.size ≤ k_) v0_ r ∧ Below w.heap.size w w' := by
  unfold least_round.f at h
  by_cases hs : RoundOk (roC a0_0 l0_1 l0_2 l1)
  · rw [if_pos hs] at h
    obtain rfl : factSet (roundL (roC a0_0 l0_1 l0_2 l1)) = r := by injection h
    have hk : RoundOk (⟨w.heap.size + 2, a0_0, A0_1, c0_1, l0_1, A0_2, c0_2, l0_2, A1, c1, l1, w.heap.size + 1⟩ : Ro) := RoundOk.of hs
    refine (round_calls (r := ⟨w.heap.size + 2, a0_0, A0_1, c0_1, l0_1, A0_2, c0_2, l0_2, A1, c1, l1, w.heap.size + 1⟩) rfl rfl hr0_1 hr0_2 hr1 hk.good hk.srt hk.len hk.fun1 hc0_1 hk.sets hk.mark).mono ?_
    rintro e w' ⟨v, rfl, hv, hb⟩
    refine ⟨v, rfl, hv.view ?_, hb⟩
    have h1 := factSet_rises (roundL (roC a0_0 l0_1 l0_2 l1))
    have hn : (factSet (roundL (roC a0_0 l0_1 l0_2 l1))).Nodup := h1.1.imp (fun {a b} hab e => by subst e; exact LF.irrefl _ hab)
    have h2 := hn.length_le_of_subset (fun x hx => (h1.2 x).1 hx)
    have h3 := hs.good.2
    rw [Nat.zero_add] at h3
    exact Nat.le_trans h2 h3
  · rw [if_neg hs] at h
    cases h
end
end Go.Proofs.Ytngppcmdaanheaa.Ls

-- WRITTEN BY hprint.py (a patched scratch copy of print.py, see NOTES.md): out of the translation and of contracts proved by hand.
namespace Go.Proofs.Ytngppcmdaanheaa.Pr
open Go.RowKit Go.Proofs.YtngppcmdaanheaaW.PrintWords Go.Proofs.YtngppcmdaanheaaW.PrintLast Go.Proofs.YtngppcmdaanheaaW.PrintMore
attribute [local go_sem] max2_int min2_int max_two min_two
set_option linter.unusedVariables false
set_option linter.unusedSimpArgs false
/-! ### cmp_Or_int: function 61 -/
def cmp_Or_int.l0 : Nat → Int → List Int → Int → Int → Option (Int)
  | 0, _, _, _, _ => none
  | k + 1, x3, x6, x7, x8 => if x8 < x7 then (if 0 ≤ x8 then (if x8 < (x6.length : Int) then (if (rd x6 x8) = x3 then (cmp_Or_int.l0 k x3 x6 x7 (wrap64 (x8 + 1))) else (some (rd x6 x8))) else (none)) else (none)) else (some x3)
def cmp_Or_int.f (k : Nat) (l0 : List Int) : Option (Int) := cmp_Or_int.l0 k 0 l0 (l0.length : Int) 0
theorem cmp_Or_int.mono_l : ∀ k, (∀ y0 y1 y2 y3, LeO (cmp_Or_int.l0 k y0 y1 y2 y3) (cmp_Or_int.l0 (k + 1) y0 y1 y2 y3))
  | 0 => fun _ _ _ _ r h => by simp [cmp_Or_int.l0] at h
  | k + 1 => by
    have ih0 := cmp_Or_int.mono_l k
    · intro y0 y1 y2 y3
      unfold cmp_Or_int.l0
      repeat' first
      | (with_reducible exact ih0 _ _ _ _)
      | (with_reducible exact LeO.refl _)
      | (with_reducible exact LeO.none _)
      | (with_reducible refine LeO.ite ?_ ?_)
      | (with_reducible refine LeO.bind ?_ (fun _ => ?_))
      | exact ih0 _ _ _ _
      | exact LeO.none _
      | refine LeO.ite ?_ ?_
      | refine LeO.bind ?_ (fun _ => ?_)
theorem cmp_Or_int.mono : ∀ a0 k, LeO (cmp_Or_int.f k a0) (cmp_Or_int.f (k + 1) a0) := by
  intro a0 k
  have ih0 := cmp_Or_int.mono_l k
  unfold cmp_Or_int.f
  repeat' first
      | (with_reducible exact ih0 _ _ _ _)
      | (with_reducible exact LeO.refl _)
      | (with_reducible exact LeO.none _)
      | (with_reducible refine LeO.ite ?_ ?_)
      | (with_reducible refine LeO.bind ?_ (fun _ => ?_))
      | exact ih0 _ _ _ _
      | exact LeO.none _
      | refine LeO.ite ?_ ?_
      | refine LeO.bind ?_ (fun _ => ?_)
set_option maxHeartbeats 8000000 in
set_option maxRecDepth 100000 in
theorem cmp_Or_int.calls (k : Nat) (A0 : Option Addr) (c0 : Nat) (l0 : List Int) (r : Int) (w : World) (hr0 : Kd.C (Kd.int .i64) w A0 l0.length l0) (hc0 : l0.length ≤ c0) (h : cmp_Or_int.f k l0 = some r) :
    Calls Try.prog 61 #[.slice A0 l0.length c0] w fun e w' => e = .returned (.int .i64 r) ∧ Drawn0 w w' := by
  have HR0 := Aside0.mk hr0
  have HC0 := Aside0.mk hc0
  clear hr0 hc0
  have H : (cmp_Or_int.l0 k 0 l0 (l0.length : Int) 0) = some r := h
  clear h
  have H' := Aside0.mk H
  clear H
  go_enter Try.func61, Try.ntmps61
  go_wp2
  go_loopg [8] k (fun kq v8 w' => ∃ (x8_1 : Int), v8 = .int .i64 x8_1 ∧ Aside0 (cmp_Or_int.l0 kq 0 l0 (l0.length : Int) x8_1 = some r) ∧ Aside0 (kq ≤ k) ∧ Drawn0 w w')
  case atStart => exact ⟨(0), (by first | rfl | (simp; done) | (simp [*]; done) | (simp [*]; exact (fun (l_ : List UInt8) => (by cases l_ <;> rfl : l_.isEmpty = !(l_ != []))) _)), H', ⟨Nat.le_refl _⟩, by repeat (first | exact Drawn0.refl _ | apply Drawn0.step)⟩
  case round =>
    clear H'
    obtain ⟨x8_1, rfl, HA, HK1, ⟨m1, rfl⟩⟩ := hrel
    cases gk with
    | zero => exact absurd HA.out (by simp [cmp_Or_int.l0])
    | succ k1 =>
      have H := HA.out
      clear HA
      simp only [cmp_Or_int.l0] at H
      by_cases c2 : x8_1 < (l0.length : Int)
      · rw [if_pos c2] at H
        have c2b0 : decide (x8_1 < (l0.length : Int)) = true := decide_eq_true c2
        clear c2
        by_cases c3 : 0 ≤ x8_1
        · rw [if_pos c3] at H
          have c3b0 : decide (0 ≤ x8_1) = true := decide_eq_true c3
          clear c3
          by_cases c4 : x8_1 < (l0.length : Int)
          · rw [if_pos c4] at H
            have c4b0 : decide (x8_1 < (l0.length : Int)) = true := decide_eq_true c4
            clear c4
            by_cases c5 : (rd l0 x8_1) = 0
            · rw [if_pos c5] at H
              have c5b0 : ((rd l0 x8_1) == 0) = true := beq_iff_eq.mpr c5
              have c5b1 : ((rd l0 x8_1) != 0) = false := bne_eq_false_iff_eq.mpr c5
              clear c5
              have H' := Aside0.mk H
              clear H
              have p101 : 0 ≤ (x8_1 : Int) := of_decide_eq_true (by first | (with_reducible assumption) | assumption)
              have q101 : x8_1 < (l0.length : Int) := of_decide_eq_true (by first | (with_reducible assumption) | assumption)
              obtain ⟨ad101, e101, hx101_0⟩ := Kd.at_int HR0.out x8_1 p101 q101
              cases e101
              replace p101 := eq_true p101
              replace q101 := eq_true q101
              go_wp2
              go_roundg k1
              case measure => have := HK1.out; omega
              case rel => exact ⟨(wrap64 (x8_1 + 1)), (by first | rfl | (simp; done) | (simp [*]; done) | (simp [*]; exact (fun (l_ : List UInt8) => (by cases l_ <;> rfl : l_.isEmpty = !(l_ != []))) _)), H', ⟨by have := HK1.out; omega⟩, by repeat (first | exact Drawn0.refl _ | apply Drawn0.step)⟩
            · rw [if_neg c5] at H
              have c5b0 : ((rd l0 x8_1) == 0) = false := beq_eq_false_iff_ne.mpr c5
              have c5b1 : ((rd l0 x8_1) != 0) = true := bne_iff_ne.mpr c5
              obtain rfl := Option.some.inj H
              have p101 : 0 ≤ (x8_1 : Int) := of_decide_eq_true (by first | (with_reducible assumption) | assumption)
              have q101 : x8_1 < (l0.length : Int) := of_decide_eq_true (by first | (with_reducible assumption) | assumption)
              obtain ⟨ad101, e101, hx101_0⟩ := Kd.at_int HR0.out x8_1 p101 q101
              cases e101
              replace p101 := eq_true p101
              replace q101 := eq_true q101
              go_wp2
              go_ret
              exact ⟨by first | rfl | (simp; done) | (simp [*]; done) | (simp [*]; exact (fun (l_ : List UInt8) => (by cases l_ <;> rfl : l_.isEmpty = !(l_ != []))) _), by repeat (first | exact Drawn0.refl _ | apply Drawn0.step)⟩
          · rw [if_neg c4] at H
            exact absurd H (by simp)
        · rw [if_neg c3] at H
          exact absurd H (by simp)
      · rw [if_neg c2] at H
        have c2b0 : decide (x8_1 < (l0.length : Int)) = false := decide_eq_false c2
        clear c2
        obtain rfl := Option.some.inj H
        go_wp2
        go_ret
        exact ⟨by first | rfl | (simp; done) | (simp [*]; done) | (simp [*]; exact (fun (l_ : List UInt8) => (by cases l_ <;> rfl : l_.isEmpty = !(l_ != []))) _), by repeat (first | exact Drawn0.refl _ | apply Drawn0.step)⟩
end Go.Proofs.Ytngppcmdaanheaa.Pr

-- WRITTEN BY hprint.py (a patched scratch copy of print.py, see NOTES.md): out of the translation and of contracts proved by hand.
namespace Go.Proofs.Ytngppcmdaanheaa.Pr
open Go.RowKit Go.Proofs.YtngppcmdaanheaaW.PrintWords Go.Proofs.YtngppcmdaanheaaW.PrintLast Go.Proofs.YtngppcmdaanheaaW.PrintMore
attribute [local go_sem] max2_int min2_int max_two min_two
set_option linter.unusedVariables false
set_option linter.unusedSimpArgs false
/-! ### cmp_isNaN_int: function 79 -/
def cmp_isNaN_int.f (a0 : Int) : Option (Bool) := some (a0 != a0)
set_option maxHeartbeats 8000000 in
set_option maxRecDepth 100000 in
theorem cmp_isNaN_int.calls (a0 : Int) (r : Bool) (w : World) (h : cmp_isNaN_int.f a0 = some r) :
    Calls Try.prog 79 #[.int .i64 a0] w fun e w' => e = .returned (.bool r) ∧ Drawn0 w w' := by
  have H : (some (a0 != a0)) = some r := h
  clear h
  obtain rfl := Option.some.inj H
  go_enter Try.func79, Try.ntmps79
  go_wp2
  go_ret
  exact ⟨by first | rfl | (simp; done) | (simp [*]; done) | (simp [*]; exact (fun (l_ : List UInt8) => (by cases l_ <;> rfl : l_.isEmpty = !(l_ != []))) _), by repeat (first | exact Drawn0.refl _ | apply Drawn0.step)⟩
end Go.Proofs.Ytngppcmdaanheaa.Pr

-- WRITTEN BY hprint.py (a patched scratch copy of print.py, see NOTES.md): out of the translation and of contracts proved by hand.
namespace Go.Proofs.Ytngppcmdaanheaa.Pr
open Go.RowKit Go.Proofs.YtngppcmdaanheaaW.PrintWords Go.Proofs.YtngppcmdaanheaaW.PrintLast Go.Proofs.YtngppcmdaanheaaW.PrintMore
attribute [local go_sem] max2_int min2_int max_two min_two
set_option linter.unusedVariables false
set_option linter.unusedSimpArgs false
/-! ### cmp_Compare_int: function 62 -/
def cmp_Compare_int.f (a0 : Int) (a1 : Int) : Option (Int) := (cmp_isNaN_int.f a0).bind fun t102 => ((cmp_isNaN_int.f a1).bind fun t103 => (if t102 = true then (if t103 = true then (some 0) else (some (-1))) else (if t103 = true then (some 1) else (if a0 < a1 then (some (-1)) else (if a0 > a1 then (some 1) else (some 0))))))
set_option maxHeartbeats 8000000 in
set_option maxRecDepth 100000 in
theorem cmp_Compare_int.calls (a0 : Int) (a1 : Int) (r : Int) (w : World) (h : cmp_Compare_int.f a0 a1 = some r) :
    Calls Try.prog 62 #[.int .i64 a0, .int .i64 a1] w fun e w' => e = .returned (.int .i64 r) ∧ Drawn0 w w' := by
  have H : ((cmp_isNaN_int.f a0).bind fun t102 => ((cmp_isNaN_int.f a1).bind fun t103 => (if t102 = true then (if t103 = true then (some 0) else (some (-1))) else (if t103 = true then (some 1) else (if a0 < a1 then (some (-1)) else (if a0 > a1 then (some 1) else (some 0))))))) = some r := h
  clear h
  replace H := Option.bind_eq_some_iff.mp H
  obtain ⟨t102, A30, H⟩ := H
  replace H : ((cmp_isNaN_int.f a1).bind fun t103 => (if t102 = true then (if t103 = true then (some 0) else (some (-1))) else (if t103 = true then (some 1) else (if a0 < a1 then (some (-1)) else (if a0 > a1 then (some 1) else (some 0)))))) = some r := H
  have A3 := Aside0.mk A30
  clear A30
  replace H := Option.bind_eq_some_iff.mp H
  obtain ⟨t103, A40, H⟩ := H
  replace H : (if t102 = true then (if t103 = true then (some 0) else (some (-1))) else (if t103 = true then (some 1) else (if a0 < a1 then (some (-1)) else (if a0 > a1 then (some 1) else (some 0))))) = some r := H
  have A4 := Aside0.mk A40
  clear A40
  by_cases c5 : t102 = true
  · subst c5
    have H1 : (if t103 = true then (some 0) else (some (-1))) = some r := by rw [if_pos rfl] at H; exact H
    clear H
    have H := H1
    clear H1
    by_cases c6 : t103 = true
    · subst c6
      have H1 : (some 0) = some r := by rw [if_pos rfl] at H; exact H
      clear H
      have H := H1
      clear H1
      obtain rfl := Option.some.inj H
      go_enter Try.func62, Try.ntmps62
      go_wp2_with (first | ((with_reducible refine gate_callee (f := 79) rfl ?_); refine goesL_ (some 10) rfl rfl Try.func79 (by kernel_rfl) rfl #[.int .i64 a1] rfl (by (try simp only [List.map_toArray, List.map_cons, List.map_nil]); first | done | rfl | (simp only [List.length_drop, List.length_take]; rfl)) ?_; (with_reducible refine (cmp_isNaN_int.calls a1 true _ A4.out).mono ?_); rintro e w' ⟨rfl, ⟨nd, rfl⟩⟩; refine ⟨_, rfl, ?_⟩) | ((with_reducible refine gate_callee (f := 79) rfl ?_); refine goesL_ (some 8) rfl rfl Try.func79 (by kernel_rfl) rfl #[.int .i64 a0] rfl (by (try simp only [List.map_toArray, List.map_cons, List.map_nil]); first | done | rfl | (simp only [List.length_drop, List.length_take]; rfl)) ?_; (with_reducible refine (cmp_isNaN_int.calls a0 true _ A3.out).mono ?_); rintro e w' ⟨rfl, ⟨nd, rfl⟩⟩; refine ⟨_, rfl, ?_⟩))
      go_ret
      exact ⟨by first | rfl | (simp; done) | (simp [*]; done) | (simp [*]; exact (fun (l_ : List UInt8) => (by cases l_ <;> rfl : l_.isEmpty = !(l_ != []))) _), by repeat (first | exact Drawn0.refl _ | apply Drawn0.step)⟩
    · replace c6 := Bool.eq_false_iff.mpr c6
      subst c6
      have H1 : (some (-1)) = some r := by rw [if_neg (show ¬ (false = true) by decide)] at H; exact H
      clear H
      have H := H1
      clear H1
      obtain rfl := Option.some.inj H
      go_enter Try.func62, Try.ntmps62
      go_wp2_with (first | ((with_reducible refine gate_callee (f := 79) rfl ?_); refine goesL_ (some 10) rfl rfl Try.func79 (by kernel_rfl) rfl #[.int .i64 a1] rfl (by (try simp only [List.map_toArray, List.map_cons, List.map_nil]); first | done | rfl | (simp only [List.length_drop, List.length_take]; rfl)) ?_; (with_reducible refine (cmp_isNaN_int.calls a1 false _ A4.out).mono ?_); rintro e w' ⟨rfl, ⟨nd, rfl⟩⟩; refine ⟨_, rfl, ?_⟩) | ((with_reducible refine gate_callee (f := 79) rfl ?_); refine goesL_ (some 8) rfl rfl Try.func79 (by kernel_rfl) rfl #[.int .i64 a0] rfl (by (try simp only [List.map_toArray, List.map_cons, List.map_nil]); first | done | rfl | (simp only [List.length_drop, List.length_take]; rfl)) ?_; (with_reducible refine (cmp_isNaN_int.calls a0 true _ A3.out).mono ?_); rintro e w' ⟨rfl, ⟨nd, rfl⟩⟩; refine ⟨_, rfl, ?_⟩))
      go_ret
      exact ⟨by first | rfl | (simp; done) | (simp [*]; done) | (simp [*]; exact (fun (l_ : List UInt8) => (by cases l_ <;> rfl : l_.isEmpty = !(l_ != []))) _), by repeat (first | exact Drawn0.refl _ | apply Drawn0.step)⟩
  · replace c5 := Bool.eq_false_iff.mpr c5
    subst c5
    have H1 : (if t103 = true then (some 1) else (if a0 < a1 then (some (-1)) else (if a0 > a1 then (some 1) else (some 0)))) = some r := by rw [if_neg (show ¬ (false = true) by decide)] at H; exact H
    clear H
    have H := H1
    clear H1
    by_cases c7 : t103 = true
    · subst c7
      have H1 : (some 1) = some r := by rw [if_pos rfl] at H; exact H
      clear H
      have H := H1
      clear H1
      obtain rfl := Option.some.inj H
      go_enter Try.func62, Try.ntmps62
      go_wp2_with (first | ((with_reducible refine gate_callee (f := 79) rfl ?_); refine goesL_ (some 10) rfl rfl Try.func79 (by kernel_rfl) rfl #[.int .i64 a1] rfl (by (try simp only [List.map_toArray, List.map_cons, List.map_nil]); first | done | rfl | (simp only [List.length_drop, List.length_take]; rfl)) ?_; (with_reducible refine (cmp_isNaN_int.calls a1 true _ A4.out).mono ?_); rintro e w' ⟨rfl, ⟨nd, rfl⟩⟩; refine ⟨_, rfl, ?_⟩) | ((with_reducible refine gate_callee (f := 79) rfl ?_); refine goesL_ (some 8) rfl rfl Try.func79 (by kernel_rfl) rfl #[.int .i64 a0] rfl (by (try simp only [List.map_toArray, List.map_cons, List.map_nil]); first | done | rfl | (simp only [List.length_drop, List.length_take]; rfl)) ?_; (with_reducible refine (cmp_isNaN_int.calls a0 false _ A3.out).mono ?_); rintro e w' ⟨rfl, ⟨nd, rfl⟩⟩; refine ⟨_, rfl, ?_⟩))
      go_ret
      exact ⟨by first | rfl | (simp; done) | (simp [*]; done) | (simp [*]; exact (fun (l_ : List UInt8) => (by cases l_ <;> rfl : l_.isEmpty = !(l_ != []))) _), by repeat (first | exact Drawn0.refl _ | apply Drawn0.step)⟩
    · replace c7 := Bool.eq_false_iff.mpr c7
      subst c7
      have H1 : (if a0 < a1 then (some (-1)) else (if a0 > a1 then (some 1) else (some 0))) = some r := by rw [if_neg (show ¬ (false = true) by decide)] at H; exact H
      clear H
      have H := H1
      clear H1
      by_cases c8 : a0 < a1
      · rw [if_pos c8] at H
        have c8b0 : decide (a0 < a1) = true := decide_eq_true c8
        clear c8
        obtain rfl := Option.some.inj H
        go_enter Try.func62, Try.ntmps62
        go_wp2_with (first | ((with_reducible refine gate_callee (f := 79) rfl ?_); refine goesL_ (some 10) rfl rfl Try.func79 (by kernel_rfl) rfl #[.int .i64 a1] rfl (by (try simp only [List.map_toArray, List.map_cons, List.map_nil]); first | done | rfl | (simp only [List.length_drop, List.length_take]; rfl)) ?_; (with_reducible refine (cmp_isNaN_int.calls a1 false _ A4.out).mono ?_); rintro e w' ⟨rfl, ⟨nd, rfl⟩⟩; refine ⟨_, rfl, ?_⟩) | ((with_reducible refine gate_callee (f := 79) rfl ?_); refine goesL_ (some 8) rfl rfl Try.func79 (by kernel_rfl) rfl #[.int .i64 a0] rfl (by (try simp only [List.map_toArray, List.map_cons, List.map_nil]); first | done | rfl | (simp only [List.length_drop, List.length_take]; rfl)) ?_; (with_reducible refine (cmp_isNaN_int.calls a0 false _ A3.out).mono ?_); rintro e w' ⟨rfl, ⟨nd, rfl⟩⟩; refine ⟨_, rfl, ?_⟩))
        go_ret
        exact ⟨by first | rfl | (simp; done) | (simp [*]; done) | (simp [*]; exact (fun (l_ : List UInt8) => (by cases l_ <;> rfl : l_.isEmpty = !(l_ != []))) _), by repeat (first | exact Drawn0.refl _ | apply Drawn0.step)⟩
      · rw [if_neg c8] at H
        have c8b0 : decide (a0 < a1) = false := decide_eq_false c8
        clear c8
        by_cases c9 : a0 > a1
        · rw [if_pos c9] at H
          have c9b0 : decide (a1 < a0) = true := decide_eq_true c9
          clear c9
          obtain rfl := Option.some.inj H
          go_enter Try.func62, Try.ntmps62
          go_wp2_with (first | ((with_reducible refine gate_callee (f := 79) rfl ?_); refine goesL_ (some 10) rfl rfl Try.func79 (by kernel_rfl) rfl #[.int .i64 a1] rfl (by (try simp only [List.map_toArray, List.map_cons, List.map_nil]); first | done | rfl | (simp only [List.length_drop, List.length_take]; rfl)) ?_; (with_reducible refine (cmp_isNaN_int.calls a1 false _ A4.out).mono ?_); rintro e w' ⟨rfl, ⟨nd, rfl⟩⟩; refine ⟨_, rfl, ?_⟩) | ((with_reducible refine gate_callee (f := 79) rfl ?_); refine goesL_ (some 8) rfl rfl Try.func79 (by kernel_rfl) rfl #[.int .i64 a0] rfl (by (try simp only [List.map_toArray, List.map_cons, List.map_nil]); first | done | rfl | (simp only [List.length_drop, List.length_take]; rfl)) ?_; (with_reducible refine (cmp_isNaN_int.calls a0 false _ A3.out).mono ?_); rintro e w' ⟨rfl, ⟨nd, rfl⟩⟩; refine ⟨_, rfl, ?_⟩))
          go_ret
          exact ⟨by first | rfl | (simp; done) | (simp [*]; done) | (simp [*]; exact (fun (l_ : List UInt8) => (by cases l_ <;> rfl : l_.isEmpty = !(l_ != []))) _), by repeat (first | exact Drawn0.refl _ | apply Drawn0.step)⟩
        · rw [if_neg c9] at H
          have c9b0 : decide (a1 < a0) = false := decide_eq_false c9
          clear c9
          obtain rfl := Option.some.inj H
          go_enter Try.func62, Try.ntmps62
          go_wp2_with (first | ((with_reducible refine gate_callee (f := 79) rfl ?_); refine goesL_ (some 10) rfl rfl Try.func79 (by kernel_rfl) rfl #[.int .i64 a1] rfl (by (try simp only [List.map_toArray, List.map_cons, List.map_nil]); first | done | rfl | (simp only [List.length_drop, List.length_take]; rfl)) ?_; (with_reducible refine (cmp_isNaN_int.calls a1 false _ A4.out).mono ?_); rintro e w' ⟨rfl, ⟨nd, rfl⟩⟩; refine ⟨_, rfl, ?_⟩) | ((with_reducible refine gate_callee (f := 79) rfl ?_); refine goesL_ (some 8) rfl rfl Try.func79 (by kernel_rfl) rfl #[.int .i64 a0] rfl (by (try simp only [List.map_toArray, List.map_cons, List.map_nil]); first | done | rfl | (simp only [List.length_drop, List.length_take]; rfl)) ?_; (with_reducible refine (cmp_isNaN_int.calls a0 false _ A3.out).mono ?_); rintro e w' ⟨rfl, ⟨nd, rfl⟩⟩; refine ⟨_, rfl, ?_⟩))
          go_ret
          exact ⟨by first | rfl | (simp; done) | (simp [*]; done) | (simp [*]; exact (fun (l_ : List UInt8) => (by cases l_ <;> rfl : l_.isEmpty = !(l_ != []))) _), by repeat (first | exact Drawn0.refl _ | apply Drawn0.step)⟩
end Go.Proofs.Ytngppcmdaanheaa.Pr

-- WRITTEN BY hprint.py (a patched scratch copy of print.py, see NOTES.md): out of the translation and of contracts proved by hand.
namespace Go.Proofs.Ytngppcmdaanheaa.Pr
open Go.RowKit Go.Proofs.Ytngppcmdaanheaa.Ls Go.Proofs.Ytngppcmdaanheaa.Va Go.Proofs.YtngppcmdaanheaaW.PrintWords Go.Proofs.YtngppcmdaanheaaW.PrintLast Go.Proofs.YtngppcmdaanheaaW.PrintMore
attribute [local go_sem] max2_int min2_int max_two min_two
set_option linter.unusedVariables false
set_option linter.unusedSimpArgs false
/-! ### least_order: function 42 -/
def least_order.f (k : Nat) (a0_0 : Int) (a0_1 : Int) (a0_2 : ByteArray) (a0_3 : Int) (a1_0 : Int) (a1_1 : Int) (a1_2 : ByteArray) (a1_3 : Int) : Option (Int) := (cmp_Compare_int.f a0_0 a1_0).bind fun t106 => ((cmp_Compare_int.f a0_1 a1_1).bind fun t107 => ((cmp_Compare_string.f a0_2 a1_2).bind fun t108 => ((cmp_Compare_int.f a0_3 a1_3).bind fun t109 => ((cmp_Or_int.f k (([t106, t107, t108, t109] : List Int))).bind fun t113 => (some t113)))))
theorem least_order.mono : ∀ a0 a1 a2 a3 a4 a5 a6 a7 k, LeO (least_order.f k a0 a1 a2 a3 a4 a5 a6 a7) (least_order.f (k + 1) a0 a1 a2 a3 a4 a5 a6 a7) := by
  intro a0 a1 a2 a3 a4 a5 a6 a7 k
  unfold least_order.f
  repeat' first
      | (with_reducible exact cmp_Or_int.mono _ _)
      | (with_reducible exact LeO.refl _)
      | (with_reducible exact LeO.none _)
      | (with_reducible refine LeO.ite ?_ ?_)
      | (with_reducible refine LeO.bind ?_ (fun _ => ?_))
      | exact cmp_Or_int.mono _ _
      | exact LeO.none _
      | refine LeO.ite ?_ ?_
      | refine LeO.bind ?_ (fun _ => ?_)
def least_order.T1 : Bool × List (List Nat × List Nat) := (true, [([], []), ([0], [0]), ([], []), ([2], [2]), ([1, 3], [1, 3]), ([], []), ([5], [5]), ([], []), ([7], [7]), ([6, 8, 4], [6, 8]), ([], []), ([10], [10]), ([], []), ([12], [12]), ([11, 13, 9], [11, 13]), ([], []), ([15], [15]), ([], []), ([17], [17]), ([16, 18, 14], [16, 18]), ([4, 9, 14, 19], [4, 9, 14, 19]), ([20, 19], [20]), ([21, 21, 0, 1, 2, 3, 4, 5, 6, 7, 8, 9, 10, 11, 12, 13, 14, 15, 16, 17, 18, 19, 20, 21], [21])])
def least_order.B1 : List Nat := [0, 1, 0, 4, 15, 0, 32, 0, 128, 511, 0, 1024, 0, 4096, 16383, 0, 32768, 0, 131072, 524287, 1048575, 2097151, 4194303]
theorem least_order.tab1 : rtab .any (opsOf Try.f42 1) = least_order.T1 := by kernel_rfl
theorem least_order.bits1 : waitsOk least_order.T1.2 least_order.B1 = true := by kernel_rfl
set_option maxHeartbeats 8000000 in
set_option maxRecDepth 100000 in
theorem least_order.calls (k : Nat) (a0_0 : Int) (a0_1 : Int) (a0_2 : ByteArray) (a0_3 : Int) (a1_0 : Int) (a1_1 : Int) (a1_2 : ByteArray) (a1_3 : Int) (r : Int) (w : World) (h : least_order.f k a0_0 a0_1 a0_2 a0_3 a1_0 a1_1 a1_2 a1_3 = some r) :
    Calls Try.prog 42 #[.agg #[.int .i64 a0_0, .int .i64 a0_1, .string a0_2, .int .i64 a0_3], .agg #[.int .i64 a1_0, .int .i64 a1_1, .string a1_2, .int .i64 a1_3]] w fun e w' => e = .returned (.int .i64 r) ∧ Below w.heap.size w w' := by
  have hu41 := Try.underlying41
  have HB := Aside0.mk (Below.refl w.heap.size w)
  have H : ((cmp_Compare_int.f a0_0 a1_0).bind fun t106 => ((cmp_Compare_int.f a0_1 a1_1).bind fun t107 => ((cmp_Compare_string.f a0_2 a1_2).bind fun t108 => ((cmp_Compare_int.f a0_3 a1_3).bind fun t109 => ((cmp_Or_int.f k (([t106, t107, t108, t109] : List Int))).bind fun t113 => (some t113)))))) = some r := h
  clear h
  replace H := Option.bind_eq_some_iff.mp H
  obtain ⟨t106, A30, H⟩ := H
  replace H : ((cmp_Compare_int.f a0_1 a1_1).bind fun t107 => ((cmp_Compare_string.f a0_2 a1_2).bind fun t108 => ((cmp_Compare_int.f a0_3 a1_3).bind fun t109 => ((cmp_Or_int.f k (([t106, t107, t108, t109] : List Int))).bind fun t113 => (some t113))))) = some r := H
  have A3 := Aside0.mk A30
  clear A30
  replace H := Option.bind_eq_some_iff.mp H
  obtain ⟨t107, A40, H⟩ := H
  replace H : ((cmp_Compare_string.f a0_2 a1_2).bind fun t108 => ((cmp_Compare_int.f a0_3 a1_3).bind fun t109 => ((cmp_Or_int.f k (([t106, t107, t108, t109] : List Int))).bind fun t113 => (some t113)))) = some r := H
  have A4 := Aside0.mk A40
  clear A40
  replace H := Option.bind_eq_some_iff.mp H
  obtain ⟨t108, A50, H⟩ := H
  replace H : ((cmp_Compare_int.f a0_3 a1_3).bind fun t109 => ((cmp_Or_int.f k (([t106, t107, t108, t109] : List Int))).bind fun t113 => (some t113))) = some r := H
  have A5 := Aside0.mk A50
  clear A50
  replace H := Option.bind_eq_some_iff.mp H
  obtain ⟨t109, A60, H⟩ := H
  replace H : ((cmp_Or_int.f k (([t106, t107, t108, t109] : List Int))).bind fun t113 => (some t113)) = some r := H
  have A6 := Aside0.mk A60
  clear A60
  obtain ⟨y110, hy110⟩ : ∃ y_ : List Int, y_ = (([t106, t107, t108, t109] : List Int)) := ⟨_, rfl⟩
  replace H : ((cmp_Or_int.f k y110).bind fun t113 => (some t113)) = some r := by first | (rw [hy110]; with_reducible exact H) | (have H2_ := (Option.bind_some _ _).symm.trans H; rw [hy110]; with_reducible exact H2_) | (have H2_ := (Option.bind_some _ _).symm.trans H; with_reducible exact H2_) | with_reducible exact H | (rw [hy110]; exact H) | exact H
  have Ny110 := Aside0.mk hy110
  clear hy110
  replace H := Option.bind_eq_some_iff.mp H
  obtain ⟨t113, A70, H⟩ := H
  replace H : (some t113) = some r := H
  have A7 := Aside0.mk A70
  clear A70
  obtain rfl := Option.some.inj H
  go_enter Try.func42, Try.ntmps42
  try go_wp2_with (first | ((with_reducible refine gate_dst (N := 2) rfl ?_); refine box_event ?hg (N := 2) ?hd (cs := #[.int .i64 a0_0, .int .i64 a0_1, .string a0_2, .int .i64 a0_3]) (t := 41) ?hr ?_; (case hd => rfl); (case hg => rfl); (case hr => first | (go_simp; done) | (go_simp; rfl)); intro gb104 hg w8 hbox hb; have n0_ := Aside0.mk (below_step (by repeat (first | (with_reducible first | exact HB.out | apply below_alloc | apply pw_below_drewN | apply below_drew1) | exact HB.out)) hb); have n1_ := Aside0.mk (hbox); have n2_ := Aside0.mk ((by rw [hg]; exact (below_size (by repeat (first | (with_reducible first | exact HB.out | apply below_alloc | apply pw_below_drewN | apply below_drew1) | exact HB.out))) : w.heap.size ≤ gb104)); have n3_ := Aside0.mk ((by rw [hg]; exact (below_size (by repeat (first | (with_reducible first | exact HB.out | apply below_alloc | apply pw_below_drewN | apply below_drew1) | exact HB.out))) : w.heap.size ≤ gb104)); clear HB; have HB := n0_; have BK104 := n1_; have GW104 := n2_; have GE104 := n3_; clear n0_ n1_ n2_ n3_; clear hb hbox hg) | ((with_reducible refine gate_dst (N := 3) rfl ?_); refine box_event ?hg (N := 3) ?hd (cs := #[.int .i64 a1_0, .int .i64 a1_1, .string a1_2, .int .i64 a1_3]) (t := 41) ?hr ?_; (case hd => rfl); (case hg => rfl); (case hr => first | (go_simp; done) | (go_simp; rfl)); intro gb105 hg w9 hbox hb; have n0_ := Aside0.mk (blk_below (g := gb104) (o := .cells #[.int .i64 a0_0, .int .i64 a0_1, .string a0_2, .int .i64 a0_3] 41 (0, 0)) (by (with_reducible repeat (first | refine blk_drewN ?_ _ | refine blk_drew ?_ | refine blk_alloc ?_ _)); exact BK104.out) hb); have n1_ := Aside0.mk (below_step (by repeat (first | (with_reducible first | exact HB.out | apply below_alloc | apply pw_below_drewN | apply below_drew1 | refine below_set ?_ GE104.out) | exact HB.out)) hb); have n2_ := Aside0.mk (hbox); have n3_ := Aside0.mk ((by rw [hg]; exact (below_size (by repeat (first | (with_reducible first | exact HB.out | apply below_alloc | apply pw_below_drewN | apply below_drew1 | refine below_set ?_ GE104.out) | exact HB.out))) : w.heap.size ≤ gb105)); have n4_ := Aside0.mk ((by rw [hg]; exact (below_size (by repeat (first | (with_reducible first | exact HB.out | apply below_alloc | apply pw_below_drewN | apply below_drew1 | refine below_set ?_ GE104.out) | exact HB.out))) : w.heap.size ≤ gb105)); have n5_ := Aside0.mk ((by rw [hg]; exact Nat.ne_of_lt (blk_lt (g := gb104) (o := .cells #[.int .i64 a0_0, .int .i64 a0_1, .string a0_2, .int .i64 a0_3] 41 (0, 0)) (by (with_reducible repeat (first | refine blk_drewN ?_ _ | refine blk_drew ?_ | refine blk_alloc ?_ _)); exact BK104.out)) : gb104 ≠ gb105)); have n6_ := Aside0.mk ((by rw [hg]; exact Nat.ne_of_gt (blk_lt (g := gb104) (o := .cells #[.int .i64 a0_0, .int .i64 a0_1, .string a0_2, .int .i64 a0_3] 41 (0, 0)) (by (with_reducible repeat (first | refine blk_drewN ?_ _ | refine blk_drew ?_ | refine blk_alloc ?_ _)); exact BK104.out)) : gb105 ≠ gb104)); clear BK104; clear HB; have BK104 := n0_; have HB := n1_; have BK105 := n2_; have GW105 := n3_; have GE105 := n4_; have NB104_105 := n5_; have NB105_104 := n6_; clear n0_ n1_ n2_ n3_ n4_ n5_ n6_; clear hb hbox hg))
  have n0_ := Aside0.mk (blk_drew BK104.out)
  have n1_ := Aside0.mk (blk_drew BK105.out)
  have n2_ := Aside0.mk (below_drew1 HB.out)
  clear BK104
  clear BK105
  clear HB
  have BK104 := n0_
  have BK105 := n1_
  have HB := n2_
  clear n0_ n1_ n2_
  refine start_ (n := 23) (S := fun w' => w'.cell? ⟨gb104, 0, none⟩ = some (.int .i64 a0_0) ∧ w'.cell? ⟨gb104, 1, none⟩ = some (.int .i64 a0_1) ∧ w'.cell? ⟨gb104, 2, none⟩ = some (.string a0_2) ∧ w'.cell? ⟨gb104, 3, none⟩ = some (.int .i64 a0_3) ∧ w'.cell? ⟨gb105, 0, none⟩ = some (.int .i64 a1_0) ∧ w'.cell? ⟨gb105, 1, none⟩ = some (.int .i64 a1_1) ∧ w'.cell? ⟨gb105, 2, none⟩ = some (.string a1_2) ∧ w'.cell? ⟨gb105, 3, none⟩ = some (.int .i64 a1_3)) (ds := []) #[false, false, false, false, false, false, false, false, false, false, false, false, false, false, false, false, false, false, false, false, false, false, false] (by kernel_rfl) rfl rfl ⟨(blk_cell BK104.out 0).trans rfl, (blk_cell BK104.out 1).trans rfl, (blk_cell BK104.out 2).trans rfl, (blk_cell BK104.out 3).trans rfl, (blk_cell BK105.out 0).trans rfl, (blk_cell BK105.out 1).trans rfl, (blk_cell BK105.out 2).trans rfl, (blk_cell BK105.out 3).trans rfl⟩ (fun hHeld => ?_); refine with_tabW least_order.tab1 least_order.bits1 (fun HT_ HW_ => ?_)
  generalize w9.drew = w10 at BK104 BK105 HB hHeld ⊢
  refine pure_ (i := 0) (N := some 5) (v := ?_) (a' := ?_) #[true, false, false, false, false, false, false, false, false, false, false, false, false, false, false, false, false, false, false, false, false, false, false] rfl rfl (any_of HT_.out (by kernel_rfl)) (fun _ _ _ h => h) (Or.inl ⟨by rfl, ?_⟩) ?_ ?_
  rotate_left
  · intro w'
    go_simp
    with_reducible rfl
  rotate_left
  · simp only [Act.put, List.setIfInBounds_toArray, List.set_cons_zero, List.set_cons_succ, i64_w, i32_w]
    rfl
  refine pure_ (i := 2) (N := some 7) (v := ?_) (a' := ?_) #[true, false, true, false, false, false, false, false, false, false, false, false, false, false, false, false, false, false, false, false, false, false, false] rfl rfl (any_of HT_.out (by kernel_rfl)) (fun _ _ _ h => h) (Or.inl ⟨by rfl, ?_⟩) ?_ ?_
  rotate_left
  · intro w'
    go_simp
    with_reducible rfl
  rotate_left
  · simp only [Act.put, List.setIfInBounds_toArray, List.set_cons_zero, List.set_cons_succ, i64_w, i32_w]
    rfl
  refine pure_ (i := 5) (N := some 10) (v := ?_) (a' := ?_) #[true, false, true, false, false, true, false, false, false, false, false, false, false, false, false, false, false, false, false, false, false, false, false] rfl rfl (any_of HT_.out (by kernel_rfl)) (fun _ _ _ h => h) (Or.inl ⟨by rfl, ?_⟩) ?_ ?_
  rotate_left
  · intro w'
    go_simp
    with_reducible rfl
  rotate_left
  · simp only [Act.put, List.setIfInBounds_toArray, List.set_cons_zero, List.set_cons_succ, i64_w, i32_w]
    rfl
  refine pure_ (i := 7) (N := some 12) (v := ?_) (a' := ?_) #[true, false, true, false, false, true, false, true, false, false, false, false, false, false, false, false, false, false, false, false, false, false, false] rfl rfl (any_of HT_.out (by kernel_rfl)) (fun _ _ _ h => h) (Or.inl ⟨by rfl, ?_⟩) ?_ ?_
  rotate_left
  · intro w'
    go_simp
    with_reducible rfl
  rotate_left
  · simp only [Act.put, List.setIfInBounds_toArray, List.set_cons_zero, List.set_cons_succ, i64_w, i32_w]
    rfl
  refine pure_ (i := 10) (N := some 15) (v := ?_) (a' := ?_) #[true, false, true, false, false, true, false, true, false, false, true, false, false, false, false, false, false, false, false, false, false, false, false] rfl rfl (any_of HT_.out (by kernel_rfl)) (fun _ _ _ h => h) (Or.inl ⟨by rfl, ?_⟩) ?_ ?_
  rotate_left
  · intro w'
    go_simp
    with_reducible rfl
  rotate_left
  · simp only [Act.put, List.setIfInBounds_toArray, List.set_cons_zero, List.set_cons_succ, i64_w, i32_w]
    rfl
  refine pure_ (i := 12) (N := some 17) (v := ?_) (a' := ?_) #[true, false, true, false, false, true, false, true, false, false, true, false, true, false, false, false, false, false, false, false, false, false, false] rfl rfl (any_of HT_.out (by kernel_rfl)) (fun _ _ _ h => h) (Or.inl ⟨by rfl, ?_⟩) ?_ ?_
  rotate_left
  · intro w'
    go_simp
    with_reducible rfl
  rotate_left
  · simp only [Act.put, List.setIfInBounds_toArray, List.set_cons_zero, List.set_cons_succ, i64_w, i32_w]
    rfl
  refine pure_ (i := 15) (N := some 20) (v := ?_) (a' := ?_) #[true, false, true, false, false, true, false, true, false, false, true, false, true, false, false, true, false, false, false, false, false, false, false] rfl rfl (any_of HT_.out (by kernel_rfl)) (fun _ _ _ h => h) (Or.inl ⟨by rfl, ?_⟩) ?_ ?_
  rotate_left
  · intro w'
    go_simp
    with_reducible rfl
  rotate_left
  · simp only [Act.put, List.setIfInBounds_toArray, List.set_cons_zero, List.set_cons_succ, i64_w, i32_w]
    rfl
  refine pure_ (i := 17) (N := some 22) (v := ?_) (a' := ?_) #[true, false, true, false, false, true, false, true, false, false, true, false, true, false, false, true, false, true, false, false, false, false, false] rfl rfl (any_of HT_.out (by kernel_rfl)) (fun _ _ _ h => h) (Or.inl ⟨by rfl, ?_⟩) ?_ ?_
  rotate_left
  · intro w'
    go_simp
    with_reducible rfl
  rotate_left
  · simp only [Act.put, List.setIfInBounds_toArray, List.set_cons_zero, List.set_cons_succ, i64_w, i32_w]
    rfl
  refine take_ (i := 1) (N := some 6) (v := ?_) (a' := ?_) #[true, true, true, false, false, true, false, true, false, false, true, false, true, false, false, true, false, true, false, false, false, false, false] rfl rfl (take_ofW HT_.out HW_.out (by kernel_rfl)) (fun _ _ _ h => h) (Or.inl ⟨by rfl, ?_⟩) hHeld ?_ ?_
  rotate_left
  · rintro w' ⟨s0, s1, s2, s3, s4, s5, s6, s7⟩
    go_simp
    with_reducible rfl
  rotate_left
  · simp only [Act.put, List.setIfInBounds_toArray, List.set_cons_zero, List.set_cons_succ, i64_w, i32_w]
    rfl
  refine take_ (i := 3) (N := some 8) (v := ?_) (a' := ?_) #[true, true, true, true, false, true, false, true, false, false, true, false, true, false, false, true, false, true, false, false, false, false, false] rfl rfl (take_ofW HT_.out HW_.out (by kernel_rfl)) (fun _ _ _ h => h) (Or.inl ⟨by rfl, ?_⟩) hHeld ?_ ?_
  rotate_left
  · rintro w' ⟨s0, s1, s2, s3, s4, s5, s6, s7⟩
    go_simp
    with_reducible rfl
  rotate_left
  · simp only [Act.put, List.setIfInBounds_toArray, List.set_cons_zero, List.set_cons_succ, i64_w, i32_w]
    rfl
  refine take_ (i := 6) (N := some 11) (v := ?_) (a' := ?_) #[true, true, true, true, false, true, true, true, false, false, true, false, true, false, false, true, false, true, false, false, false, false, false] rfl rfl (take_ofW HT_.out HW_.out (by kernel_rfl)) (fun _ _ _ h => h) (Or.inl ⟨by rfl, ?_⟩) hHeld ?_ ?_
  rotate_left
  · rintro w' ⟨s0, s1, s2, s3, s4, s5, s6, s7⟩
    go_simp
    with_reducible rfl
  rotate_left
  · simp only [Act.put, List.setIfInBounds_toArray, List.set_cons_zero, List.set_cons_succ, i64_w, i32_w]
    rfl
  refine take_ (i := 8) (N := some 13) (v := ?_) (a' := ?_) #[true, true, true, true, false, true, true, true, true, false, true, false, true, false, false, true, false, true, false, false, false, false, false] rfl rfl (take_ofW HT_.out HW_.out (by kernel_rfl)) (fun _ _ _ h => h) (Or.inl ⟨by rfl, ?_⟩) hHeld ?_ ?_
  rotate_left
  · rintro w' ⟨s0, s1, s2, s3, s4, s5, s6, s7⟩
    go_simp
    with_reducible rfl
  rotate_left
  · simp only [Act.put, List.setIfInBounds_toArray, List.set_cons_zero, List.set_cons_succ, i64_w, i32_w]
    rfl
  refine take_ (i := 11) (N := some 16) (v := ?_) (a' := ?_) #[true, true, true, true, false, true, true, true, true, false, true, true, true, false, false, true, false, true, false, false, false, false, false] rfl rfl (take_ofW HT_.out HW_.out (by kernel_rfl)) (fun _ _ _ h => h) (Or.inl ⟨by rfl, ?_⟩) hHeld ?_ ?_
  rotate_left
  · rintro w' ⟨s0, s1, s2, s3, s4, s5, s6, s7⟩
    go_simp
    with_reducible rfl
  rotate_left
  · simp only [Act.put, List.setIfInBounds_toArray, List.set_cons_zero, List.set_cons_succ, i64_w, i32_w]
    rfl
  refine take_ (i := 13) (N := some 18) (v := ?_) (a' := ?_) #[true, true, true, true, false, true, true, true, true, false, true, true, true, true, false, true, false, true, false, false, false, false, false] rfl rfl (take_ofW HT_.out HW_.out (by kernel_rfl)) (fun _ _ _ h => h) (Or.inl ⟨by rfl, ?_⟩) hHeld ?_ ?_
  rotate_left
  · rintro w' ⟨s0, s1, s2, s3, s4, s5, s6, s7⟩
    go_simp
    with_reducible rfl
  rotate_left
  · simp only [Act.put, List.setIfInBounds_toArray, List.set_cons_zero, List.set_cons_succ, i64_w, i32_w]
    rfl
  refine take_ (i := 16) (N := some 21) (v := ?_) (a' := ?_) #[true, true, true, true, false, true, true, true, true, false, true, true, true, true, false, true, true, true, false, false, false, false, false] rfl rfl (take_ofW HT_.out HW_.out (by kernel_rfl)) (fun _ _ _ h => h) (Or.inl ⟨by rfl, ?_⟩) hHeld ?_ ?_
  rotate_left
  · rintro w' ⟨s0, s1, s2, s3, s4, s5, s6, s7⟩
    go_simp
    with_reducible rfl
  rotate_left
  · simp only [Act.put, List.setIfInBounds_toArray, List.set_cons_zero, List.set_cons_succ, i64_w, i32_w]
    rfl
  refine take_ (i := 18) (N := some 23) (v := ?_) (a' := ?_) #[true, true, true, true, false, true, true, true, true, false, true, true, true, true, false, true, true, true, true, false, false, false, false] rfl rfl (take_ofW HT_.out HW_.out (by kernel_rfl)) (fun _ _ _ h => h) (Or.inl ⟨by rfl, ?_⟩) hHeld ?_ ?_
  rotate_left
  · rintro w' ⟨s0, s1, s2, s3, s4, s5, s6, s7⟩
    go_simp
    with_reducible rfl
  rotate_left
  · simp only [Act.put, List.setIfInBounds_toArray, List.set_cons_zero, List.set_cons_succ, i64_w, i32_w]
    rfl
  refine one_ (i := 4) (N := some 9) #[true, true, true, true, true, true, true, true, true, false, true, true, true, true, false, true, true, true, true, false, false, false, false] rfl rfl (one_of HT_.out (by kernel_rfl)) (by decide) (fun K hK => ?_)
  refine goes_ Try.func62 (by kernel_rfl) rfl #[.int .i64 a0_0, .int .i64 a1_0] (by rfl) rfl rfl (by (try simp only [List.map_toArray, List.map_cons, List.map_nil]); first | done | rfl | (simp only [List.length_drop, List.length_take]; rfl)) ?_
  with_reducible refine (cmp_Compare_int.calls a0_0 a1_0 t106 _ A3.out).mono ?_
  rintro e w' ⟨rfl, ⟨nd, rfl⟩⟩
  refine ⟨_, rfl, ?_⟩
  refine hK.out _ _ ⟨(blk_cell BK104.out 0).trans rfl, (blk_cell BK104.out 1).trans rfl, (blk_cell BK104.out 2).trans rfl, (blk_cell BK104.out 3).trans rfl, (blk_cell BK105.out 0).trans rfl, (blk_cell BK105.out 1).trans rfl, (blk_cell BK105.out 2).trans rfl, (blk_cell BK105.out 3).trans rfl⟩ (fun hHeld => ?_)
  clear hK K
  refine norm_ (a' := ?_) ?_ ?_
  rotate_left
  · show Act.put _ (some 9) _ = _
    simp only [Act.put, List.setIfInBounds_toArray, List.set_cons_zero, List.set_cons_succ, i64_w, i32_w]
    rfl
  refine one_ (i := 9) (N := some 14) #[true, true, true, true, true, true, true, true, true, true, true, true, true, true, false, true, true, true, true, false, false, false, false] rfl rfl (one_of HT_.out (by kernel_rfl)) (by decide) (fun K hK => ?_)
  refine goes_ Try.func62 (by kernel_rfl) rfl #[.int .i64 a0_1, .int .i64 a1_1] (by rfl) rfl rfl (by (try simp only [List.map_toArray, List.map_cons, List.map_nil]); first | done | rfl | (simp only [List.length_drop, List.length_take]; rfl)) ?_
  with_reducible refine (cmp_Compare_int.calls a0_1 a1_1 t107 _ A4.out).mono ?_
  rintro e w' ⟨rfl, ⟨nd, rfl⟩⟩
  refine ⟨_, rfl, ?_⟩
  refine hK.out _ _ ⟨(blk_cell BK104.out 0).trans rfl, (blk_cell BK104.out 1).trans rfl, (blk_cell BK104.out 2).trans rfl, (blk_cell BK104.out 3).trans rfl, (blk_cell BK105.out 0).trans rfl, (blk_cell BK105.out 1).trans rfl, (blk_cell BK105.out 2).trans rfl, (blk_cell BK105.out 3).trans rfl⟩ (fun hHeld => ?_)
  clear hK K
  refine norm_ (a' := ?_) ?_ ?_
  rotate_left
  · show Act.put _ (some 14) _ = _
    simp only [Act.put, List.setIfInBounds_toArray, List.set_cons_zero, List.set_cons_succ, i64_w, i32_w]
    rfl
  refine one_ (i := 14) (N := some 19) #[true, true, true, true, true, true, true, true, true, true, true, true, true, true, true, true, true, true, true, false, false, false, false] rfl rfl (one_of HT_.out (by kernel_rfl)) (by decide) (fun K hK => ?_)
  refine goes_ Try.func63 (by kernel_rfl) rfl #[.string a0_2, .string a1_2] (by rfl) rfl rfl (by (try simp only [List.map_toArray, List.map_cons, List.map_nil]); first | done | rfl | (simp only [List.length_drop, List.length_take]; rfl)) ?_
  with_reducible refine (cmp_Compare_string.calls a0_2 a1_2 t108 _ A5.out).mono ?_
  rintro e w' ⟨rfl, ⟨nd, rfl⟩⟩
  refine ⟨_, rfl, ?_⟩
  refine hK.out _ _ ⟨(blk_cell BK104.out 0).trans rfl, (blk_cell BK104.out 1).trans rfl, (blk_cell BK104.out 2).trans rfl, (blk_cell BK104.out 3).trans rfl, (blk_cell BK105.out 0).trans rfl, (blk_cell BK105.out 1).trans rfl, (blk_cell BK105.out 2).trans rfl, (blk_cell BK105.out 3).trans rfl⟩ (fun hHeld => ?_)
  clear hK K
  refine norm_ (a' := ?_) ?_ ?_
  rotate_left
  · show Act.put _ (some 19) _ = _
    simp only [Act.put, List.setIfInBounds_toArray, List.set_cons_zero, List.set_cons_succ, i64_w, i32_w]
    rfl
  refine one_ (i := 19) (N := some 24) #[true, true, true, true, true, true, true, true, true, true, true, true, true, true, true, true, true, true, true, true, false, false, false] rfl rfl (one_of HT_.out (by kernel_rfl)) (by decide) (fun K hK => ?_)
  refine goes_ Try.func62 (by kernel_rfl) rfl #[.int .i64 a0_3, .int .i64 a1_3] (by rfl) rfl rfl (by (try simp only [List.map_toArray, List.map_cons, List.map_nil]); first | done | rfl | (simp only [List.length_drop, List.length_take]; rfl)) ?_
  with_reducible refine (cmp_Compare_int.calls a0_3 a1_3 t109 _ A6.out).mono ?_
  rintro e w' ⟨rfl, ⟨nd, rfl⟩⟩
  refine ⟨_, rfl, ?_⟩
  refine hK.out _ _ ⟨(blk_cell BK104.out 0).trans rfl, (blk_cell BK104.out 1).trans rfl, (blk_cell BK104.out 2).trans rfl, (blk_cell BK104.out 3).trans rfl, (blk_cell BK105.out 0).trans rfl, (blk_cell BK105.out 1).trans rfl, (blk_cell BK105.out 2).trans rfl, (blk_cell BK105.out 3).trans rfl⟩ (fun hHeld => ?_)
  clear hK K
  refine norm_ (a' := ?_) ?_ ?_
  rotate_left
  · show Act.put _ (some 24) _ = _
    simp only [Act.put, List.setIfInBounds_toArray, List.set_cons_zero, List.set_cons_succ, i64_w, i32_w]
    rfl
  refine one_ (i := 20) (N := some 25) #[true, true, true, true, true, true, true, true, true, true, true, true, true, true, true, true, true, true, true, true, true, false, false] rfl rfl (one_of HT_.out (by kernel_rfl)) (by decide) (fun K hK => ?_)
  refine Kd.R_lit_step (Kd.int .i64) _ 3 ?hg (N := 25) ?hd (xs := ([t106, t107, t108, t109] : List Int)) (inner := [.int .i64 t106, .int .i64 t107, .int .i64 t108, .int .i64 t109]) (ok := fun _ => True) (okp := fun _ => True) ?hr ?hp (fun _ hk => hk) trivial (Below.refl _ _) (Nat.le_refl _) (by simp) ?_; (case hd => rfl); (case hg => rfl); (case hr => first | (go_simp; done) | (go_simp; rfl)); (case hp => exact (Reps.one (show Kd.M (Kd.int .i64) _ _ _ t106 [.int .i64 t106] from rfl) (Reps.one (show Kd.M (Kd.int .i64) _ _ _ t107 [.int .i64 t107] from rfl) (Reps.one (show Kd.M (Kd.int .i64) _ _ _ t108 [.int .i64 t108] from rfl) (Reps.one (show Kd.M (Kd.int .i64) _ _ _ t109 [.int .i64 t109] from rfl) (Reps.none _ _))))))
  intro v111 w11 ho12 hb hg_ hnew_
  clear hg_ hnew_
  (first | rw [← Ny110.out] at ho12 | (simp only [Int.reduceToNat] at ho12; rw [← Ny110.out] at ho12))
  have n0_ := Aside0.mk (Kd.R_lower ho12 (below_size (by repeat (first | (with_reducible first | exact HB.out | apply below_alloc | apply pw_below_drewN | apply below_drew1 | refine below_set ?_ GE104.out | refine below_set ?_ GE105.out) | exact HB.out))))
  have n1_ := Aside0.mk (blk_below (g := gb104) (o := .cells #[.int .i64 a0_0, .int .i64 a0_1, .string a0_2, .int .i64 a0_3] 41 (0, 0)) (by (with_reducible repeat (first | refine blk_drewN ?_ _ | refine blk_drew ?_ | refine blk_alloc ?_ _)); exact BK104.out) hb)
  have n2_ := Aside0.mk (blk_below (g := gb105) (o := .cells #[.int .i64 a1_0, .int .i64 a1_1, .string a1_2, .int .i64 a1_3] 41 (0, 0)) (by (with_reducible repeat (first | refine blk_drewN ?_ _ | refine blk_drew ?_ | refine blk_alloc ?_ _)); exact BK105.out) hb)
  have n3_ := Aside0.mk (below_step (by repeat (first | (with_reducible first | exact HB.out | apply below_alloc | apply pw_below_drewN | apply below_drew1 | refine below_set ?_ GE104.out | refine below_set ?_ GE105.out) | exact HB.out)) hb)
  clear BK104
  clear BK105
  clear HB
  have HO112 := n0_
  have BK104 := n1_
  have BK105 := n2_
  have HB := n3_
  clear n0_ n1_ n2_ n3_
  clear hb ho12
  obtain ⟨Ao13, co13, eo13⟩ := Kd.R_slice HO112.out
  (first | subst eo13 | (injection eo13 with f1_ f2_ f3_; have f4_ := f1_.symm; have f5_ := f3_.symm; clear f1_ f2_ f3_; subst f4_; subst f5_))
  refine hK.out _ _ ⟨(blk_cell BK104.out 0).trans rfl, (blk_cell BK104.out 1).trans rfl, (blk_cell BK104.out 2).trans rfl, (blk_cell BK104.out 3).trans rfl, (blk_cell BK105.out 0).trans rfl, (blk_cell BK105.out 1).trans rfl, (blk_cell BK105.out 2).trans rfl, (blk_cell BK105.out 3).trans rfl⟩ (fun hHeld => ?_)
  clear hK K
  refine norm_ (a' := ?_) ?_ ?_
  rotate_left
  · show Act.put _ (some 25) _ = _
    simp only [Act.put, List.setIfInBounds_toArray, List.set_cons_zero, List.set_cons_succ, i64_w, i32_w]
    rfl
  refine one_ (i := 21) (N := some 26) #[true, true, true, true, true, true, true, true, true, true, true, true, true, true, true, true, true, true, true, true, true, true, false] rfl rfl (one_of HT_.out (by kernel_rfl)) (by decide) (fun K hK => ?_)
  refine goes_ Try.func61 (by kernel_rfl) rfl #[.slice Ao13 y110.length co13] (by rfl) rfl rfl (by (try simp only [List.map_toArray, List.map_cons, List.map_nil]); first | done | rfl | (simp only [List.length_drop, List.length_take]; rfl)) ?_
  with_reducible refine (cmp_Or_int.calls k _ _ y110 t113 _ ?side1 ?side2 A7.out).mono ?_
  (case side1 => repeat (first | exact (Kd.R_reads' HO112.out).2.2 | (with_reducible refine Kd.C_alloc ?_ _) | (with_reducible refine Kd.C_drewN ?_ _) | (with_reducible refine Kd.C_drew ?_)))
  (case side2 => exact (Kd.R_reads' HO112.out).2.1)
  rintro e w' ⟨rfl, ⟨nd, rfl⟩⟩
  refine ⟨_, rfl, ?_⟩
  refine hK.out _ _ ⟨(blk_cell BK104.out 0).trans rfl, (blk_cell BK104.out 1).trans rfl, (blk_cell BK104.out 2).trans rfl, (blk_cell BK104.out 3).trans rfl, (blk_cell BK105.out 0).trans rfl, (blk_cell BK105.out 1).trans rfl, (blk_cell BK105.out 2).trans rfl, (blk_cell BK105.out 3).trans rfl⟩ (fun hHeld => ?_)
  clear hK K
  refine norm_ (a' := ?_) ?_ ?_
  rotate_left
  · show Act.put _ (some 26) _ = _
    simp only [Act.put, List.setIfInBounds_toArray, List.set_cons_zero, List.set_cons_succ, i64_w, i32_w]
    rfl
  refine pure_ (i := 22) (N := some 4) (v := ?_) (a' := ?_) #[true, true, true, true, true, true, true, true, true, true, true, true, true, true, true, true, true, true, true, true, true, true, true] rfl rfl (any_of HT_.out (by kernel_rfl)) (fun _ _ _ h => h) (Or.inl ⟨by rfl, ?_⟩) ?_ ?_
  rotate_left
  · intro w'
    go_simp
    with_reducible rfl
  rotate_left
  · simp only [Act.put, List.setIfInBounds_toArray, List.set_cons_zero, List.set_cons_succ, i64_w, i32_w]
    rfl
  refine done_ (done_of HT_.out (by kernel_rfl)) ?_
  try go_wp2
  go_ret
  exact ⟨by first | rfl | (simp [errW_none, errW_some] <;> rfl) | (simp [*, errW_none, errW_some] <;> rfl) | (simp [*, errW_none, errW_some]; exact (fun (l_ : List UInt8) => (by cases l_ <;> rfl : l_.isEmpty = !(l_ != []))) _), by repeat (first | (with_reducible first | exact HB.out | apply below_alloc | apply pw_below_drewN | apply below_drew1 | refine below_set ?_ GE104.out | refine below_set ?_ GE105.out) | exact HB.out)⟩
end Go.Proofs.Ytngppcmdaanheaa.Pr

