/- Lemmas for the claims of this seat (own texts, packed; what the claims do not use is left out). No condition. -/
import Derived.Deep.Slices
import Derived.ChangeSlices
import Derived.DataReads
import Derived.Test.YtondngpmhlemkaaMh0
import Derived.Test.YtondngpmhlemkaaMh1
import Derived.Test.YtondngpmhlemkaaMh2
import Derived.Test.YtondngpmhlemkaaMh3
-- WRITTEN BY hprint.py (a patched scratch copy of print.py, see NOTES.md): out of the translation and of contracts proved by hand.
namespace Go.Proofs.Ytondngpmhlemkaa.Pr
open Go.RowKit Go.Proofs.YtondngpmhlemkaaW.PrintWords Go.Proofs.YtondngpmhlemkaaW.PrintLast Go.Proofs.YtondngpmhlemkaaW.PrintMore
attribute [local go_sem] min2_int min_two
set_option linter.unusedVariables false
set_option linter.unusedSimpArgs false
/-! ### gumshoeref15_Edges: function 24 -/
mutual
def gumshoeref15_Edges.l0 : Nat → List (S49) → List (S24) → List Int → Int → Int → List (S66) → List (S68) → Option ((List (S24)))
  | 0, _, _, _, _, _, _, _ => none
  | k + 1, x1, x5, x6, x7, x299000, x299001, x299002 => if x7 < (x299002.length : Int) then (if 0 ≤ x7 then ((gumshoeref01_Has.f k x6 ((rd_T68 x299002 x7).f1)).bind fun t304 => (if ((rd_T68 x299002 x7).f0) = 8 then (if t304 = true then (if ((rd_T68 x299002 x7).f1) < 0 then (gumshoeref15_Edges.j1 k x1 x5 x6 x7 true x299000 x299001 x299002 ((rd_T68 x299002 x7).f0) ((rd_T68 x299002 x7).f1) ((rd_T68 x299002 x7).f2) ((rd_T68 x299002 x7).f3) ((rd_T68 x299002 x7).f4) ((rd_T68 x299002 x7).f5) ((rd_T68 x299002 x7).f6) ((rd_T68 x299002 x7).f7) ((rd_T68 x299002 x7).f8)) else (gumshoeref15_Edges.j1 k x1 x5 x6 x7 (decide (((rd_T68 x299002 x7).f1) ≥ (x299001.length : Int))) x299000 x299001 x299002 ((rd_T68 x299002 x7).f0) ((rd_T68 x299002 x7).f1) ((rd_T68 x299002 x7).f2) ((rd_T68 x299002 x7).f3) ((rd_T68 x299002 x7).f4) ((rd_T68 x299002 x7).f5) ((rd_T68 x299002 x7).f6) ((rd_T68 x299002 x7).f7) ((rd_T68 x299002 x7).f8))) else (gumshoeref15_Edges.j1 k x1 x5 x6 x7 true x299000 x299001 x299002 ((rd_T68 x299002 x7).f0) ((rd_T68 x299002 x7).f1) ((rd_T68 x299002 x7).f2) ((rd_T68 x299002 x7).f3) ((rd_T68 x299002 x7).f4) ((rd_T68 x299002 x7).f5) ((rd_T68 x299002 x7).f6) ((rd_T68 x299002 x7).f7) ((rd_T68 x299002 x7).f8))) else (if ((rd_T68 x299002 x7).f0) = 9 then (if t304 = true then (if ((rd_T68 x299002 x7).f1) < 0 then (gumshoeref15_Edges.j1 k x1 x5 x6 x7 true x299000 x299001 x299002 ((rd_T68 x299002 x7).f0) ((rd_T68 x299002 x7).f1) ((rd_T68 x299002 x7).f2) ((rd_T68 x299002 x7).f3) ((rd_T68 x299002 x7).f4) ((rd_T68 x299002 x7).f5) ((rd_T68 x299002 x7).f6) ((rd_T68 x299002 x7).f7) ((rd_T68 x299002 x7).f8)) else (gumshoeref15_Edges.j1 k x1 x5 x6 x7 (decide (((rd_T68 x299002 x7).f1) ≥ (x299001.length : Int))) x299000 x299001 x299002 ((rd_T68 x299002 x7).f0) ((rd_T68 x299002 x7).f1) ((rd_T68 x299002 x7).f2) ((rd_T68 x299002 x7).f3) ((rd_T68 x299002 x7).f4) ((rd_T68 x299002 x7).f5) ((rd_T68 x299002 x7).f6) ((rd_T68 x299002 x7).f7) ((rd_T68 x299002 x7).f8))) else (gumshoeref15_Edges.j1 k x1 x5 x6 x7 true x299000 x299001 x299002 ((rd_T68 x299002 x7).f0) ((rd_T68 x299002 x7).f1) ((rd_T68 x299002 x7).f2) ((rd_T68 x299002 x7).f3) ((rd_T68 x299002 x7).f4) ((rd_T68 x299002 x7).f5) ((rd_T68 x299002 x7).f6) ((rd_T68 x299002 x7).f7) ((rd_T68 x299002 x7).f8))) else (gumshoeref15_Edges.j1 k x1 x5 x6 x7 true x299000 x299001 x299002 ((rd_T68 x299002 x7).f0) ((rd_T68 x299002 x7).f1) ((rd_T68 x299002 x7).f2) ((rd_T68 x299002 x7).f3) ((rd_T68 x299002 x7).f4) ((rd_T68 x299002 x7).f5) ((rd_T68 x299002 x7).f6) ((rd_T68 x299002 x7).f7) ((rd_T68 x299002 x7).f8))))) else (none)) else (some x5)
def gumshoeref15_Edges.j1 : Nat → List (S49) → List (S24) → List Int → Int → Bool → Int → List (S66) → List (S68) → Int → Int → Int → Int → Int → Int → Int → ByteArray → List Int → Option ((List (S24)))
  | 0, _, _, _, _, _, _, _, _, _, _, _, _, _, _, _, _, _ => none
  | k + 1, x1, x5, x6, x7, x55, x299000, x299001, x299002, x304000, x304001, x304002, x304003, x304004, x304005, x304006, x304007, x304008 => if x55 = true then (gumshoeref15_Edges.l0 k x1 x5 x6 (wrap64 (x7 + 1)) x299000 x299001 x299002) else ((gumshoeref15_Callees.f k x1 x304006).bind fun t305 => (gumshoeref15_Edges.l1 k x1 x5 x6 x7 t305 1 x299000 x299001 x299002 x304000 x304001 x304002 x304003 x304004 x304005 x304006 x304007 x304008))
def gumshoeref15_Edges.l1 : Nat → List (S49) → List (S24) → List Int → Int → List Int → Int → Int → List (S66) → List (S68) → Int → Int → Int → Int → Int → Int → Int → ByteArray → List Int → Option ((List (S24)))
  | 0, _, _, _, _, _, _, _, _, _, _, _, _, _, _, _, _, _, _ => none
  | k + 1, x1, x5, x6, x7, x10, x11, x299000, x299001, x299002, x304000, x304001, x304002, x304003, x304004, x304005, x304006, x304007, x304008 => if x11 < (x299001.length : Int) then (if 0 ≤ x11 then ((gumshoeref01_Has.f k x10 ((rd_T66 x299001 x11).f0)).bind fun t309 => (if t309 = true then ((gumshoeref15_with.f k x5 x304001 x304006 x11).bind fun t310 => (gumshoeref15_Edges.l1 k x1 t310 x6 x7 x10 (wrap64 (x11 + 1)) x299000 x299001 x299002 x304000 x304001 x304002 x304003 x304004 x304005 x304006 x304007 x304008)) else (gumshoeref15_Edges.l1 k x1 x5 x6 x7 x10 (wrap64 (x11 + 1)) x299000 x299001 x299002 x304000 x304001 x304002 x304003 x304004 x304005 x304006 x304007 x304008))) else (none)) else (gumshoeref15_Edges.l0 k x1 x5 x6 (wrap64 (x7 + 1)) x299000 x299001 x299002)
end
def gumshoeref15_Edges.f (k : Nat) (a0_0 : Int) (l0_1 : List (S66)) (l0_2 : List (S68)) (l1 : List (S49)) : Option ((List (S24))) := (gumshoeref15_Entered.f k l1).bind fun t299 => (gumshoeref15_Edges.l0 k l1 ([] : List (S24)) t299 0 a0_0 l0_1 l0_2)
set_option maxHeartbeats 8000000 in
set_option maxRecDepth 100000 in
theorem gumshoeref15_Edges.calls (k : Nat) (a0_0 : Int) (A0_1 : Option Addr) (c0_1 : Nat) (l0_1 : List (S66)) (A0_2 : Option Addr) (c0_2 : Nat) (l0_2 : List (S68)) (A1 : Option Addr) (c1 : Nat) (l1 : List (S49)) (r : List (S24)) (w : World) (hr0_1 : Kd.C k66 w A0_1 l0_1.length l0_1) (hc0_1 : l0_1.length ≤ c0_1) (hr0_2 : Kd.C k68 w A0_2 l0_2.length l0_2) (hc0_2 : l0_2.length ≤ c0_2) (hr1 : Kd.C k49 w A1 l1.length l1) (hc1 : l1.length ≤ c1) (h : gumshoeref15_Edges.f k a0_0 l0_1 l0_2 l1 = some r) :
    Calls Try.prog 24 #[.agg #[.int .i64 a0_0, .slice A0_1 l0_1.length c0_1, .slice A0_2 l0_2.length c0_2], .slice A1 l1.length c1] w fun e w' => ∃ v0_ : Value, e = .returned (v0_) ∧ Kd.V k24 24 w' w.heap.size (fun k_ => (w.heap.size ≤ k_)) v0_ r ∧ Below w.heap.size w w' := by
  have hu43 := Try.underlying43
  have hu68 := Try.underlying68
  have hu24 := Try.underlying24
  have HR0_1 := Aside0.mk hr0_1
  have HC0_1 := Aside0.mk hc0_1
  clear hr0_1 hc0_1
  have HR0_2 := Aside0.mk hr0_2
  have HC0_2 := Aside0.mk hc0_2
  clear hr0_2 hc0_2
  have HR1 := Aside0.mk hr1
  have HC1 := Aside0.mk hc1
  clear hr1 hc1
  have HB := Aside0.mk (Below.refl w.heap.size w)
  have H : ((gumshoeref15_Entered.f k l1).bind fun t299 => (gumshoeref15_Edges.l0 k l1 ([] : List (S24)) t299 0 a0_0 l0_1 l0_2)) = some r := h
  clear h
  replace H := Option.bind_eq_some_iff.mp H
  obtain ⟨t299, A30, H⟩ := H
  replace H : (gumshoeref15_Edges.l0 k l1 ([] : List (S24)) t299 0 a0_0 l0_1 l0_2) = some r := H
  have A3 := Aside0.mk A30
  clear A30
  have H' := Aside0.mk H
  clear H
  go_enter Try.func24, Try.ntmps24
  go_wp2_with (first | ((with_reducible refine gate_dst (N := 2) rfl ?_); (try (refine gate_guard (by rfl) ?_; dsimp only)); refine box_event ?hg (N := 2) ?hd (cs := #[.int .i64 a0_0, .slice A0_1 l0_1.length c0_1, .slice A0_2 l0_2.length c0_2]) (t := 43) ?hr ?_; (case hd => rfl); (case hg => rfl); (case hr => first | (go_simp; done) | (go_simp; rfl)); intro gb298 hg w4 hbox hb; have n0_ := Aside0.mk (below_step (by repeat (first | (with_reducible first | exact HB.out | apply below_alloc | apply pw_below_drewN | apply below_drew1) | exact HB.out)) hb); have n1_ := Aside0.mk (hbox); have n2_ := Aside0.mk ((by rw [hg]; exact (below_size (by repeat (first | (with_reducible first | exact HB.out | apply below_alloc | apply pw_below_drewN | apply below_drew1) | exact HB.out))) : w.heap.size ≤ gb298)); have n3_ := Aside0.mk ((by rw [hg]; exact (below_size (by repeat (first | (with_reducible first | exact HB.out | apply below_alloc | apply pw_below_drewN | apply below_drew1) | exact HB.out))) : w.heap.size ≤ gb298)); clear HB; have HB := n0_; have BK298 := n1_; have GW298 := n2_; have GE298 := n3_; clear n0_ n1_ n2_ n3_; clear hb hbox hg) | ((with_reducible refine gate_callee (f := 20) rfl ?_); refine goesL_ (some 14) rfl rfl Try.func20 (by kernel_rfl) rfl #[.slice A1 l1.length c1] rfl (by (try simp only [List.map_toArray, List.map_cons, List.map_nil]); first | done | rfl | (simp only [List.length_drop, List.length_take]; rfl)) ?_; (with_reducible refine (gumshoeref15_Entered.calls k _ _ l1 t299 _ ?side1 ?side2 A3.out).mono ?_); (case side1 => repeat (first | exact (Kd.C_below HR1.out HB.out) | (with_reducible refine Kd.C_alloc ?_ _) | (with_reducible refine Kd.C_drewN ?_ _) | (with_reducible refine Kd.C_drew ?_))); (case side2 => exact HC1.out); rintro e w5 ⟨v300, rfl, ho0, hb⟩; refine ⟨_, rfl, ?_⟩; have n0_ := Aside0.mk (Kd.R_lower (Kd.R_newM (M := fun k_ => (w.heap.size ≤ k_)) ho0 (below_size (by repeat (first | (with_reducible first | exact HB.out | apply below_alloc | apply pw_below_drewN | apply below_drew1 | refine below_set ?_ GE298.out) | exact HB.out))) (fun k_ h_ => h_)) (below_size (by repeat (first | (with_reducible first | exact HB.out | apply below_alloc | apply pw_below_drewN | apply below_drew1 | refine below_set ?_ GE298.out) | exact HB.out)))); have n1_ := Aside0.mk (blk_below (g := gb298) (o := .cells #[.int .i64 a0_0, .slice A0_1 l0_1.length c0_1, .slice A0_2 l0_2.length c0_2] 43 (0, 0)) (by (with_reducible repeat (first | refine blk_drewN ?_ _ | refine blk_drew ?_ | refine blk_alloc ?_ _)); exact BK298.out) hb); have n2_ := Aside0.mk (below_step (by repeat (first | (with_reducible first | exact HB.out | apply below_alloc | apply pw_below_drewN | apply below_drew1 | refine below_set ?_ GE298.out) | exact HB.out)) hb); clear BK298; clear HB; have HO301 := n0_; have BK298 := n1_; have HB := n2_; clear n0_ n1_ n2_; (try clear hb); (try clear hb2); (try clear hk); (try clear hi); (try clear ho0)))
  go_loopg [5, 7] k (fun kq v5 v7 w' => ∃ (x5_1 : List (S24)) (x7_1 : Int), v7 = .int .i64 x7_1 ∧ Aside0 (gumshoeref15_Edges.l0 kq l1 x5_1 t299 x7_1 a0_0 l0_1 l0_2 = some r) ∧ Aside0 (kq ≤ k) ∧ Aside0 (Kd.V k24 24 w' w.heap.size (fun k_ => (w.heap.size ≤ k_) ∧ some k_ ≠ (v300 : Value).ownBlock ∧ k_ ≠ gb298) v5 x5_1) ∧ Aside0 (Kd.R (Kd.int .i64) 3 w' w.heap.size (fun k_ => (w.heap.size ≤ k_)) v300 t299) ∧ Aside0 (w'.heap[gb298]? = some (.cells #[.int .i64 a0_0, (.slice A0_1 l0_1.length c0_1), (.slice A0_2 l0_2.length c0_2)] 43 (0, 0))) ∧ Aside0 (Below w.heap.size w w'))
  case atStart => exact ⟨(([] : List (S24))), (0), (by first | rfl | (simp; done) | (simp [*]; done) | (simp [*]; exact (fun (l_ : List UInt8) => (by cases l_ <;> rfl : l_.isEmpty = !(l_ != []))) _)), H', ⟨Nat.le_refl _⟩, ⟨Kd.R_V (base := w.heap.size) (by first | exact Kd.R_nil _ _ _ _ _ | exact Kd.N_nil _ _ _ _ _ | exact Kd.V_nil _ _ _ _ _ | exact Kd.Q_nil _ _ _ _ _ | exact Kd.S_nil _ _ _ _ _)⟩, ⟨by (with_reducible repeat (first | apply Kd.R_alloc | apply Kd.R_drewN | apply Kd.R_drew)); exact Kd.R_mono HO301.out (fun _ hk => hk.1)⟩, ⟨by (with_reducible repeat (first | refine blk_drewN ?_ _ | refine blk_drew ?_ | refine blk_alloc ?_ _)); exact BK298.out⟩, ⟨by repeat (first | (with_reducible first | exact HB.out | apply below_alloc | apply pw_below_drewN | apply below_drew1 | refine below_set ?_ GE298.out) | exact HB.out)⟩⟩
  case round =>
    clear H'
    try clear c1
    try clear c2
    try clear p2
    obtain ⟨x5_1, x7_1, rfl, HA, HK1, HO_5, HO_6, BK298, HB⟩ := hrel
    cases gk with
    | zero => exact absurd HA.out (by simp [gumshoeref15_Edges.l0])
    | succ k1 =>
      have H := HA.out
      clear HA
      simp only [gumshoeref15_Edges.l0] at H
      by_cases c6 : x7_1 < (l0_2.length : Int)
      · rw [if_pos c6] at H
        have c6b0 : decide (x7_1 < (l0_2.length : Int)) = true := decide_eq_true c6
        clear c6
        by_cases c7 : 0 ≤ x7_1
        · rw [if_pos c7] at H
          have c7b0 : decide (0 ≤ x7_1) = true := decide_eq_true c7
          clear c7
          replace H := Option.bind_eq_some_iff.mp H
          obtain ⟨t304, A80, H⟩ := H
          replace H : (if ((rd_T68 l0_2 x7_1).f0) = 8 then (if t304 = true then (if ((rd_T68 l0_2 x7_1).f1) < 0 then (gumshoeref15_Edges.j1 k1 l1 x5_1 t299 x7_1 true a0_0 l0_1 l0_2 ((rd_T68 l0_2 x7_1).f0) ((rd_T68 l0_2 x7_1).f1) ((rd_T68 l0_2 x7_1).f2) ((rd_T68 l0_2 x7_1).f3) ((rd_T68 l0_2 x7_1).f4) ((rd_T68 l0_2 x7_1).f5) ((rd_T68 l0_2 x7_1).f6) ((rd_T68 l0_2 x7_1).f7) ((rd_T68 l0_2 x7_1).f8)) else (gumshoeref15_Edges.j1 k1 l1 x5_1 t299 x7_1 (decide (((rd_T68 l0_2 x7_1).f1) ≥ (l0_1.length : Int))) a0_0 l0_1 l0_2 ((rd_T68 l0_2 x7_1).f0) ((rd_T68 l0_2 x7_1).f1) ((rd_T68 l0_2 x7_1).f2) ((rd_T68 l0_2 x7_1).f3) ((rd_T68 l0_2 x7_1).f4) ((rd_T68 l0_2 x7_1).f5) ((rd_T68 l0_2 x7_1).f6) ((rd_T68 l0_2 x7_1).f7) ((rd_T68 l0_2 x7_1).f8))) else (gumshoeref15_Edges.j1 k1 l1 x5_1 t299 x7_1 true a0_0 l0_1 l0_2 ((rd_T68 l0_2 x7_1).f0) ((rd_T68 l0_2 x7_1).f1) ((rd_T68 l0_2 x7_1).f2) ((rd_T68 l0_2 x7_1).f3) ((rd_T68 l0_2 x7_1).f4) ((rd_T68 l0_2 x7_1).f5) ((rd_T68 l0_2 x7_1).f6) ((rd_T68 l0_2 x7_1).f7) ((rd_T68 l0_2 x7_1).f8))) else (if ((rd_T68 l0_2 x7_1).f0) = 9 then (if t304 = true then (if ((rd_T68 l0_2 x7_1).f1) < 0 then (gumshoeref15_Edges.j1 k1 l1 x5_1 t299 x7_1 true a0_0 l0_1 l0_2 ((rd_T68 l0_2 x7_1).f0) ((rd_T68 l0_2 x7_1).f1) ((rd_T68 l0_2 x7_1).f2) ((rd_T68 l0_2 x7_1).f3) ((rd_T68 l0_2 x7_1).f4) ((rd_T68 l0_2 x7_1).f5) ((rd_T68 l0_2 x7_1).f6) ((rd_T68 l0_2 x7_1).f7) ((rd_T68 l0_2 x7_1).f8)) else (gumshoeref15_Edges.j1 k1 l1 x5_1 t299 x7_1 (decide (((rd_T68 l0_2 x7_1).f1) ≥ (l0_1.length : Int))) a0_0 l0_1 l0_2 ((rd_T68 l0_2 x7_1).f0) ((rd_T68 l0_2 x7_1).f1) ((rd_T68 l0_2 x7_1).f2) ((rd_T68 l0_2 x7_1).f3) ((rd_T68 l0_2 x7_1).f4) ((rd_T68 l0_2 x7_1).f5) ((rd_T68 l0_2 x7_1).f6) ((rd_T68 l0_2 x7_1).f7) ((rd_T68 l0_2 x7_1).f8))) else (gumshoeref15_Edges.j1 k1 l1 x5_1 t299 x7_1 true a0_0 l0_1 l0_2 ((rd_T68 l0_2 x7_1).f0) ((rd_T68 l0_2 x7_1).f1) ((rd_T68 l0_2 x7_1).f2) ((rd_T68 l0_2 x7_1).f3) ((rd_T68 l0_2 x7_1).f4) ((rd_T68 l0_2 x7_1).f5) ((rd_T68 l0_2 x7_1).f6) ((rd_T68 l0_2 x7_1).f7) ((rd_T68 l0_2 x7_1).f8))) else (gumshoeref15_Edges.j1 k1 l1 x5_1 t299 x7_1 true a0_0 l0_1 l0_2 ((rd_T68 l0_2 x7_1).f0) ((rd_T68 l0_2 x7_1).f1) ((rd_T68 l0_2 x7_1).f2) ((rd_T68 l0_2 x7_1).f3) ((rd_T68 l0_2 x7_1).f4) ((rd_T68 l0_2 x7_1).f5) ((rd_T68 l0_2 x7_1).f6) ((rd_T68 l0_2 x7_1).f7) ((rd_T68 l0_2 x7_1).f8)))) = some r := H
          have A8 := Aside0.mk A80
          clear A80
          have HC9 := Aside0.mk H
          clear H
          have hcz10_0 : wr.cell? ⟨gb298, 0, none⟩ = some (.int .i64 a0_0) := (blk_cell BK298.out 0).trans rfl
          have hcz10_1 : wr.cell? ⟨gb298, 1, none⟩ = some (.slice A0_1 l0_1.length c0_1) := (blk_cell BK298.out 1).trans rfl
          have hcz10_2 : wr.cell? ⟨gb298, 2, none⟩ = some (.slice A0_2 l0_2.length c0_2) := (blk_cell BK298.out 2).trans rfl
          have hfz10_0 := blk_frozen BK298.out 0
          have hfz10_1 := blk_frozen BK298.out 1
          have hfz10_2 := blk_frozen BK298.out 2
          have p302 : 0 ≤ (x7_1 : Int) := of_decide_eq_true (by first | (with_reducible assumption) | assumption)
          have q302 : x7_1 < (l0_2.length : Int) := of_decide_eq_true (by first | (with_reducible assumption) | assumption)
          obtain ⟨ad302, A302_8, c302_8, e302, hx302_0, hx302_1, hx302_2, hx302_3, hx302_4, hx302_5, hx302_6, hx302_7, hx302_8, hl302_8, hi302_8⟩ := at_T68 HR0_2.out x7_1 p302 q302
          cases e302
          replace hx302_0 := (HB.out.cell (World.block_lt_of_cell? w _ hx302_0)).trans hx302_0
          replace hx302_1 := (HB.out.cell (World.block_lt_of_cell? w _ hx302_1)).trans hx302_1
          replace hx302_2 := (HB.out.cell (World.block_lt_of_cell? w _ hx302_2)).trans hx302_2
          replace hx302_3 := (HB.out.cell (World.block_lt_of_cell? w _ hx302_3)).trans hx302_3
          replace hx302_4 := (HB.out.cell (World.block_lt_of_cell? w _ hx302_4)).trans hx302_4
          replace hx302_5 := (HB.out.cell (World.block_lt_of_cell? w _ hx302_5)).trans hx302_5
          replace hx302_6 := (HB.out.cell (World.block_lt_of_cell? w _ hx302_6)).trans hx302_6
          replace hx302_7 := (HB.out.cell (World.block_lt_of_cell? w _ hx302_7)).trans hx302_7
          replace hx302_8 := (HB.out.cell (World.block_lt_of_cell? w _ hx302_8)).trans hx302_8
          have HR302_8 := Aside0.mk hi302_8
          have HC302_8 := Aside0.mk hl302_8
          clear hi302_8 hl302_8
          replace p302 := eq_true p302
          replace q302 := eq_true q302
          go_upto_region 8 with (first | ((with_reducible refine gate_dst (N := 8) rfl ?_); (try (refine gate_guard (by rfl) ?_; dsimp only)); refine box_event ?hg (N := 8) ?hd (cs := #[.int .i64 0, .int .i64 0, .int .i64 0, .int .i64 0, .int .i64 0, .int .i64 0, .int .i64 0, .string (⟨#[]⟩ : ByteArray), .slice none 0 0]) (t := 68) ?hr ?_; (case hd => rfl); (case hg => rfl); (case hr => first | (go_simp; done) | (go_simp; rfl)); intro gb303 hg w11 hbox hb; have n0_ := Aside0.mk (Kd.V_below (Kd.V_elderB (by (with_reducible repeat (first | apply Kd.V_alloc | apply Kd.V_drewN | apply Kd.V_drew)); exact HO_5.out) gb303 (Nat.le_of_eq hg.symm)) hb); have n1_ := Aside0.mk (Kd.R_below (by (with_reducible repeat (first | apply Kd.R_alloc | apply Kd.R_drewN | apply Kd.R_drew)); exact HO_6.out) hb); have n2_ := Aside0.mk (blk_below (g := gb298) (o := .cells #[.int .i64 a0_0, .slice A0_1 l0_1.length c0_1, .slice (some ad302) l0_2.length c0_2] 43 (0, 0)) (by (with_reducible repeat (first | refine blk_drewN ?_ _ | refine blk_drew ?_ | refine blk_alloc ?_ _)); exact BK298.out) hb); have n3_ := Aside0.mk (below_step (by repeat (first | (with_reducible first | exact HB.out | apply below_alloc | apply pw_below_drewN | apply below_drew1 | refine below_set ?_ GE298.out) | exact HB.out)) hb); have n4_ := Aside0.mk (hbox); have n5_ := Aside0.mk ((by rw [hg]; exact (below_size (by repeat (first | (with_reducible first | exact HB.out | apply below_alloc | apply pw_below_drewN | apply below_drew1 | refine below_set ?_ GE298.out) | exact HB.out))) : w.heap.size ≤ gb303)); have n6_ := Aside0.mk ((by rw [hg]; exact (below_size (by repeat (first | (with_reducible first | exact HB.out | apply below_alloc | apply pw_below_drewN | apply below_drew1 | refine below_set ?_ GE298.out) | exact HB.out))) : w.heap.size ≤ gb303)); have n7_ := Aside0.mk ((by rw [hg]; exact Nat.ne_of_lt (blk_lt (g := gb298) (o := .cells #[.int .i64 a0_0, .slice A0_1 l0_1.length c0_1, .slice (some ad302) l0_2.length c0_2] 43 (0, 0)) (by (with_reducible repeat (first | refine blk_drewN ?_ _ | refine blk_drew ?_ | refine blk_alloc ?_ _)); exact BK298.out)) : gb298 ≠ gb303)); have n8_ := Aside0.mk ((by rw [hg]; exact Nat.ne_of_gt (blk_lt (g := gb298) (o := .cells #[.int .i64 a0_0, .slice A0_1 l0_1.length c0_1, .slice (some ad302) l0_2.length c0_2] 43 (0, 0)) (by (with_reducible repeat (first | refine blk_drewN ?_ _ | refine blk_drew ?_ | refine blk_alloc ?_ _)); exact BK298.out)) : gb303 ≠ gb298)); clear HO_5; clear HO_6; clear BK298; clear HB; have HO_5 := n0_; have HO_6 := n1_; have BK298 := n2_; have HB := n3_; have BK303 := n4_; have GW303 := n5_; have GE303 := n6_; have NB298_303 := n7_; have NB303_298 := n8_; clear n0_ n1_ n2_ n3_ n4_ n5_ n6_ n7_ n8_; clear hb hbox hg; have hnb12 := NB303_298.out; have hnc12 := NB298_303.out; have hcz13_0 : w11.cell? ⟨gb303, 0, none⟩ = some (.int .i64 0) := (blk_cell BK303.out 0).trans rfl; have hcz13_1 : w11.cell? ⟨gb303, 1, none⟩ = some (.int .i64 0) := (blk_cell BK303.out 1).trans rfl; have hcz13_2 : w11.cell? ⟨gb303, 2, none⟩ = some (.int .i64 0) := (blk_cell BK303.out 2).trans rfl; have hcz13_3 : w11.cell? ⟨gb303, 3, none⟩ = some (.int .i64 0) := (blk_cell BK303.out 3).trans rfl; have hcz13_4 : w11.cell? ⟨gb303, 4, none⟩ = some (.int .i64 0) := (blk_cell BK303.out 4).trans rfl; have hcz13_5 : w11.cell? ⟨gb303, 5, none⟩ = some (.int .i64 0) := (blk_cell BK303.out 5).trans rfl; have hcz13_6 : w11.cell? ⟨gb303, 6, none⟩ = some (.int .i64 0) := (blk_cell BK303.out 6).trans rfl; have hcz13_7 : w11.cell? ⟨gb303, 7, none⟩ = some (.string (⟨#[]⟩ : ByteArray)) := (blk_cell BK303.out 7).trans rfl; have hcz13_8 : w11.cell? ⟨gb303, 8, none⟩ = some (.slice none 0 0) := (blk_cell BK303.out 8).trans rfl; have hfz13_0 := blk_frozen BK303.out 0; have hfz13_1 := blk_frozen BK303.out 1; have hfz13_2 := blk_frozen BK303.out 2; have hfz13_3 := blk_frozen BK303.out 3; have hfz13_4 := blk_frozen BK303.out 4; have hfz13_5 := blk_frozen BK303.out 5; have hfz13_6 := blk_frozen BK303.out 6; have hfz13_7 := blk_frozen BK303.out 7; have hfz13_8 := blk_frozen BK303.out 8; obtain ⟨Ao14, co14, eo14⟩ := Kd.R_slice HO_6.out; subst eo14) | ((with_reducible refine gate_callee (f := 10) rfl ?_); refine goesL_ (some 30) rfl rfl Try.func10 (by kernel_rfl) rfl #[.slice Ao14 t299.length co14, .int .i64 ((rd_T68 l0_2 x7_1).f1)] rfl (by (try simp only [List.map_toArray, List.map_cons, List.map_nil]); first | done | rfl | (simp only [List.length_drop, List.length_take]; rfl)) ?_; (with_reducible refine (gumshoeref01_Has.calls k1 _ _ t299 ((rd_T68 l0_2 x7_1).f1) t304 _ ?side1 ?side2 A8.out).mono ?_); (case side1 => refine (Kd.R_reads' (e := 3) (base := w.heap.size) (ok := fun k_ => (w.heap.size ≤ k_)) (n := t299.length) (c := co14) ?_).2.2; exact (by (with_reducible repeat (first | apply Kd.R_alloc | apply Kd.R_drewN | apply Kd.R_drew)); exact (Kd.R_mono (Kd.R_far (p := ⟨gb303, 8, none⟩) (Kd.R_far (p := ⟨gb303, 7, none⟩) (Kd.R_far (p := ⟨gb303, 6, none⟩) (Kd.R_far (p := ⟨gb303, 5, none⟩) (Kd.R_far (p := ⟨gb303, 4, none⟩) (Kd.R_far (p := ⟨gb303, 3, none⟩) (Kd.R_far (p := ⟨gb303, 2, none⟩) (Kd.R_far (p := ⟨gb303, 1, none⟩) (Kd.R_far (p := ⟨gb303, 0, none⟩) (Kd.R_types HO_6.out BK303.out (by decide)) (fun _ hk => hk.2) (.int .i64 ((rd_T68 l0_2 x7_1).f0))) (fun _ hk => hk.2) (.int .i64 ((rd_T68 l0_2 x7_1).f1))) (fun _ hk => hk.2) (.int .i64 ((rd_T68 l0_2 x7_1).f2))) (fun _ hk => hk.2) (.int .i64 ((rd_T68 l0_2 x7_1).f3))) (fun _ hk => hk.2) (.int .i64 ((rd_T68 l0_2 x7_1).f4))) (fun _ hk => hk.2) (.int .i64 ((rd_T68 l0_2 x7_1).f5))) (fun _ hk => hk.2) (.int .i64 ((rd_T68 l0_2 x7_1).f6))) (fun _ hk => hk.2) (.string ((rd_T68 l0_2 x7_1).f7))) (fun _ hk => hk.2) (.slice A302_8 ((rd_T68 l0_2 x7_1).f8).length c302_8)) (fun _ h_ => h_.1)))); (case side2 => exact (Kd.R_reads' HO_6.out).2.1); rintro e w' ⟨rfl, ⟨nd, rfl⟩⟩; refine ⟨_, rfl, ?_⟩))
          (try simp only [Act.put, List.setIfInBounds_toArray, List.set_cons_zero, List.set_cons_succ])
          go_cut [55] (fun v55 wc => ∃ (kq : Nat) (x55_8 : Bool), v55 = .bool x55_8 ∧ Aside0 (gumshoeref15_Edges.j1 kq l1 x5_1 t299 x7_1 x55_8 a0_0 l0_1 l0_2 ((rd_T68 l0_2 x7_1).f0) ((rd_T68 l0_2 x7_1).f1) ((rd_T68 l0_2 x7_1).f2) ((rd_T68 l0_2 x7_1).f3) ((rd_T68 l0_2 x7_1).f4) ((rd_T68 l0_2 x7_1).f5) ((rd_T68 l0_2 x7_1).f6) ((rd_T68 l0_2 x7_1).f7) ((rd_T68 l0_2 x7_1).f8) = some r) ∧ Aside0 (kq ≤ k1) ∧ Aside0 (Kd.V k24 24 wc w.heap.size (fun k_ => (w.heap.size ≤ k_) ∧ some k_ ≠ ((.slice Ao14 t299.length co14) : Value).ownBlock ∧ k_ ≠ gb298 ∧ k_ ≠ gb303) u5 x5_1) ∧ Aside0 (Kd.R (Kd.int .i64) 3 wc w.heap.size (fun k_ => (w.heap.size ≤ k_)) (.slice Ao14 t299.length co14) t299) ∧ Aside0 (wc.heap[gb298]? = some (.cells #[.int .i64 a0_0, (.slice A0_1 l0_1.length c0_1), (.slice (some ad302) l0_2.length c0_2)] 43 (0, 0))) ∧ Aside0 (wc.heap[gb303]? = some (.cells #[.int .i64 ((rd_T68 l0_2 x7_1).f0), .int .i64 ((rd_T68 l0_2 x7_1).f1), .int .i64 ((rd_T68 l0_2 x7_1).f2), .int .i64 ((rd_T68 l0_2 x7_1).f3), .int .i64 ((rd_T68 l0_2 x7_1).f4), .int .i64 ((rd_T68 l0_2 x7_1).f5), .int .i64 ((rd_T68 l0_2 x7_1).f6), .string ((rd_T68 l0_2 x7_1).f7), (.slice A302_8 ((rd_T68 l0_2 x7_1).f8).length c302_8)] 68 (0, 0))) ∧ Aside0 (Below w.heap.size w wc))
          case first =>
            have H := HC9.out
            clear HC9
            by_cases c15 : ((rd_T68 l0_2 x7_1).f0) = 8
            · rw [if_pos c15] at H
              have c15b0 : (((rd_T68 l0_2 x7_1).f0) == 8) = true := beq_iff_eq.mpr c15
              have c15b1 : (((rd_T68 l0_2 x7_1).f0) != 8) = false := bne_eq_false_iff_eq.mpr c15
              clear c15
              (first | rw [c15b0] | (simp only [i64_w, i32_w]; rw [c15b0]) | skip)
              by_cases c16 : t304 = true
              · subst c16
                have H1 : (if ((rd_T68 l0_2 x7_1).f1) < 0 then (gumshoeref15_Edges.j1 k1 l1 x5_1 t299 x7_1 true a0_0 l0_1 l0_2 ((rd_T68 l0_2 x7_1).f0) ((rd_T68 l0_2 x7_1).f1) ((rd_T68 l0_2 x7_1).f2) ((rd_T68 l0_2 x7_1).f3) ((rd_T68 l0_2 x7_1).f4) ((rd_T68 l0_2 x7_1).f5) ((rd_T68 l0_2 x7_1).f6) ((rd_T68 l0_2 x7_1).f7) ((rd_T68 l0_2 x7_1).f8)) else (gumshoeref15_Edges.j1 k1 l1 x5_1 t299 x7_1 (decide (((rd_T68 l0_2 x7_1).f1) ≥ (l0_1.length : Int))) a0_0 l0_1 l0_2 ((rd_T68 l0_2 x7_1).f0) ((rd_T68 l0_2 x7_1).f1) ((rd_T68 l0_2 x7_1).f2) ((rd_T68 l0_2 x7_1).f3) ((rd_T68 l0_2 x7_1).f4) ((rd_T68 l0_2 x7_1).f5) ((rd_T68 l0_2 x7_1).f6) ((rd_T68 l0_2 x7_1).f7) ((rd_T68 l0_2 x7_1).f8))) = some r := by rw [if_pos rfl] at H; exact H
                clear H
                have H := H1
                clear H1
                by_cases c17 : ((rd_T68 l0_2 x7_1).f1) < 0
                · rw [if_pos c17] at H
                  have c17b0 : decide (((rd_T68 l0_2 x7_1).f1) < 0) = true := decide_eq_true c17
                  clear c17
                  have H' := Aside0.mk H
                  clear H
                  have hnb18 := NB303_298.out
                  have hnc18 := NB298_303.out
                  have hcz19_0 : w11.cell? ⟨gb303, 0, none⟩ = some (.int .i64 0) := (blk_cell BK303.out 0).trans rfl
                  have hcz19_1 : w11.cell? ⟨gb303, 1, none⟩ = some (.int .i64 0) := (blk_cell BK303.out 1).trans rfl
                  have hcz19_2 : w11.cell? ⟨gb303, 2, none⟩ = some (.int .i64 0) := (blk_cell BK303.out 2).trans rfl
                  have hcz19_3 : w11.cell? ⟨gb303, 3, none⟩ = some (.int .i64 0) := (blk_cell BK303.out 3).trans rfl
                  have hcz19_4 : w11.cell? ⟨gb303, 4, none⟩ = some (.int .i64 0) := (blk_cell BK303.out 4).trans rfl
                  have hcz19_5 : w11.cell? ⟨gb303, 5, none⟩ = some (.int .i64 0) := (blk_cell BK303.out 5).trans rfl
                  have hcz19_6 : w11.cell? ⟨gb303, 6, none⟩ = some (.int .i64 0) := (blk_cell BK303.out 6).trans rfl
                  have hcz19_7 : w11.cell? ⟨gb303, 7, none⟩ = some (.string (⟨#[]⟩ : ByteArray)) := (blk_cell BK303.out 7).trans rfl
                  have hcz19_8 : w11.cell? ⟨gb303, 8, none⟩ = some (.slice none 0 0) := (blk_cell BK303.out 8).trans rfl
                  have hfz19_0 := blk_frozen BK303.out 0
                  have hfz19_1 := blk_frozen BK303.out 1
                  have hfz19_2 := blk_frozen BK303.out 2
                  have hfz19_3 := blk_frozen BK303.out 3
                  have hfz19_4 := blk_frozen BK303.out 4
                  have hfz19_5 := blk_frozen BK303.out 5
                  have hfz19_6 := blk_frozen BK303.out 6
                  have hfz19_7 := blk_frozen BK303.out 7
                  have hfz19_8 := blk_frozen BK303.out 8
                  go_wp2
                  go_meet
                  case rel => exact ⟨_, (true), (by first | rfl | (simp; done) | (simp [*]; done) | (simp [*]; exact (fun (l_ : List UInt8) => (by cases l_ <;> rfl : l_.isEmpty = !(l_ != []))) _)), H', ⟨by have := HK1.out; first | omega | exact Nat.le_refl _⟩, ⟨by (with_reducible repeat (first | apply Kd.V_alloc | apply Kd.V_drewN | apply Kd.V_drew)); exact Kd.V_mono (Kd.V_far (p := ⟨gb303, 8, none⟩) (Kd.V_far (p := ⟨gb303, 7, none⟩) (Kd.V_far (p := ⟨gb303, 6, none⟩) (Kd.V_far (p := ⟨gb303, 5, none⟩) (Kd.V_far (p := ⟨gb303, 4, none⟩) (Kd.V_far (p := ⟨gb303, 3, none⟩) (Kd.V_far (p := ⟨gb303, 2, none⟩) (Kd.V_far (p := ⟨gb303, 1, none⟩) (Kd.V_far (p := ⟨gb303, 0, none⟩) (Kd.V_mono HO_5.out (fun k_ hk => (⟨hk, hk.2⟩ : _ ∧ k_ ≠ gb303))) (fun _ hk => hk.2) (.int .i64 ((rd_T68 l0_2 x7_1).f0))) (fun _ hk => hk.2) (.int .i64 ((rd_T68 l0_2 x7_1).f1))) (fun _ hk => hk.2) (.int .i64 ((rd_T68 l0_2 x7_1).f2))) (fun _ hk => hk.2) (.int .i64 ((rd_T68 l0_2 x7_1).f3))) (fun _ hk => hk.2) (.int .i64 ((rd_T68 l0_2 x7_1).f4))) (fun _ hk => hk.2) (.int .i64 ((rd_T68 l0_2 x7_1).f5))) (fun _ hk => hk.2) (.int .i64 ((rd_T68 l0_2 x7_1).f6))) (fun _ hk => hk.2) (.string ((rd_T68 l0_2 x7_1).f7))) (fun _ hk => hk.2) (.slice A302_8 ((rd_T68 l0_2 x7_1).f8).length c302_8)) (fun _ hk => ⟨hk.1.1.1, ⟨hk.1.1.2.1, ⟨hk.1.1.2.2, hk.1.2⟩⟩⟩)⟩, ⟨by (with_reducible repeat (first | apply Kd.R_alloc | apply Kd.R_drewN | apply Kd.R_drew)); exact Kd.R_mono (Kd.R_far (p := ⟨gb303, 8, none⟩) (Kd.R_far (p := ⟨gb303, 7, none⟩) (Kd.R_far (p := ⟨gb303, 6, none⟩) (Kd.R_far (p := ⟨gb303, 5, none⟩) (Kd.R_far (p := ⟨gb303, 4, none⟩) (Kd.R_far (p := ⟨gb303, 3, none⟩) (Kd.R_far (p := ⟨gb303, 2, none⟩) (Kd.R_far (p := ⟨gb303, 1, none⟩) (Kd.R_far (p := ⟨gb303, 0, none⟩) (Kd.R_types HO_6.out BK303.out (by decide)) (fun _ hk => hk.2) (.int .i64 ((rd_T68 l0_2 x7_1).f0))) (fun _ hk => hk.2) (.int .i64 ((rd_T68 l0_2 x7_1).f1))) (fun _ hk => hk.2) (.int .i64 ((rd_T68 l0_2 x7_1).f2))) (fun _ hk => hk.2) (.int .i64 ((rd_T68 l0_2 x7_1).f3))) (fun _ hk => hk.2) (.int .i64 ((rd_T68 l0_2 x7_1).f4))) (fun _ hk => hk.2) (.int .i64 ((rd_T68 l0_2 x7_1).f5))) (fun _ hk => hk.2) (.int .i64 ((rd_T68 l0_2 x7_1).f6))) (fun _ hk => hk.2) (.string ((rd_T68 l0_2 x7_1).f7))) (fun _ hk => hk.2) (.slice A302_8 ((rd_T68 l0_2 x7_1).f8).length c302_8)) (fun _ hk => hk.1)⟩, ⟨by (with_reducible repeat (first | refine blk_drewN ?_ _ | refine blk_drew ?_ | refine blk_alloc ?_ _)); refine blk_far ?_ NB298_303.out _; (with_reducible repeat (first | refine blk_drewN ?_ _ | refine blk_drew ?_ | refine blk_alloc ?_ _)); refine blk_far ?_ NB298_303.out _; (with_reducible repeat (first | refine blk_drewN ?_ _ | refine blk_drew ?_ | refine blk_alloc ?_ _)); refine blk_far ?_ NB298_303.out _; (with_reducible repeat (first | refine blk_drewN ?_ _ | refine blk_drew ?_ | refine blk_alloc ?_ _)); refine blk_far ?_ NB298_303.out _; (with_reducible repeat (first | refine blk_drewN ?_ _ | refine blk_drew ?_ | refine blk_alloc ?_ _)); refine blk_far ?_ NB298_303.out _; (with_reducible repeat (first | refine blk_drewN ?_ _ | refine blk_drew ?_ | refine blk_alloc ?_ _)); refine blk_far ?_ NB298_303.out _; (with_reducible repeat (first | refine blk_drewN ?_ _ | refine blk_drew ?_ | refine blk_alloc ?_ _)); refine blk_far ?_ NB298_303.out _; (with_reducible repeat (first | refine blk_drewN ?_ _ | refine blk_drew ?_ | refine blk_alloc ?_ _)); refine blk_far ?_ NB298_303.out _; (with_reducible repeat (first | refine blk_drewN ?_ _ | refine blk_drew ?_ | refine blk_alloc ?_ _)); refine blk_far ?_ NB298_303.out _; (with_reducible repeat (first | refine blk_drewN ?_ _ | refine blk_drew ?_ | refine blk_alloc ?_ _)); exact BK298.out⟩, ⟨by (with_reducible repeat (first | refine blk_drewN ?_ _ | refine blk_drew ?_ | refine blk_alloc ?_ _)); refine blk_put (cs := #[.int .i64 ((rd_T68 l0_2 x7_1).f0), .int .i64 ((rd_T68 l0_2 x7_1).f1), .int .i64 ((rd_T68 l0_2 x7_1).f2), .int .i64 ((rd_T68 l0_2 x7_1).f3), .int .i64 ((rd_T68 l0_2 x7_1).f4), .int .i64 ((rd_T68 l0_2 x7_1).f5), .int .i64 ((rd_T68 l0_2 x7_1).f6), .string ((rd_T68 l0_2 x7_1).f7), .slice none 0 0]) ?_ 8 _ rfl; (with_reducible repeat (first | refine blk_drewN ?_ _ | refine blk_drew ?_ | refine blk_alloc ?_ _)); refine blk_put (cs := #[.int .i64 ((rd_T68 l0_2 x7_1).f0), .int .i64 ((rd_T68 l0_2 x7_1).f1), .int .i64 ((rd_T68 l0_2 x7_1).f2), .int .i64 ((rd_T68 l0_2 x7_1).f3), .int .i64 ((rd_T68 l0_2 x7_1).f4), .int .i64 ((rd_T68 l0_2 x7_1).f5), .int .i64 ((rd_T68 l0_2 x7_1).f6), .string (⟨#[]⟩ : ByteArray), .slice none 0 0]) ?_ 7 _ rfl; (with_reducible repeat (first | refine blk_drewN ?_ _ | refine blk_drew ?_ | refine blk_alloc ?_ _)); refine blk_put (cs := #[.int .i64 ((rd_T68 l0_2 x7_1).f0), .int .i64 ((rd_T68 l0_2 x7_1).f1), .int .i64 ((rd_T68 l0_2 x7_1).f2), .int .i64 ((rd_T68 l0_2 x7_1).f3), .int .i64 ((rd_T68 l0_2 x7_1).f4), .int .i64 ((rd_T68 l0_2 x7_1).f5), .int .i64 0, .string (⟨#[]⟩ : ByteArray), .slice none 0 0]) ?_ 6 _ rfl; (with_reducible repeat (first | refine blk_drewN ?_ _ | refine blk_drew ?_ | refine blk_alloc ?_ _)); refine blk_put (cs := #[.int .i64 ((rd_T68 l0_2 x7_1).f0), .int .i64 ((rd_T68 l0_2 x7_1).f1), .int .i64 ((rd_T68 l0_2 x7_1).f2), .int .i64 ((rd_T68 l0_2 x7_1).f3), .int .i64 ((rd_T68 l0_2 x7_1).f4), .int .i64 0, .int .i64 0, .string (⟨#[]⟩ : ByteArray), .slice none 0 0]) ?_ 5 _ rfl; (with_reducible repeat (first | refine blk_drewN ?_ _ | refine blk_drew ?_ | refine blk_alloc ?_ _)); refine blk_put (cs := #[.int .i64 ((rd_T68 l0_2 x7_1).f0), .int .i64 ((rd_T68 l0_2 x7_1).f1), .int .i64 ((rd_T68 l0_2 x7_1).f2), .int .i64 ((rd_T68 l0_2 x7_1).f3), .int .i64 0, .int .i64 0, .int .i64 0, .string (⟨#[]⟩ : ByteArray), .slice none 0 0]) ?_ 4 _ rfl; (with_reducible repeat (first | refine blk_drewN ?_ _ | refine blk_drew ?_ | refine blk_alloc ?_ _)); refine blk_put (cs := #[.int .i64 ((rd_T68 l0_2 x7_1).f0), .int .i64 ((rd_T68 l0_2 x7_1).f1), .int .i64 ((rd_T68 l0_2 x7_1).f2), .int .i64 0, .int .i64 0, .int .i64 0, .int .i64 0, .string (⟨#[]⟩ : ByteArray), .slice none 0 0]) ?_ 3 _ rfl; (with_reducible repeat (first | refine blk_drewN ?_ _ | refine blk_drew ?_ | refine blk_alloc ?_ _)); refine blk_put (cs := #[.int .i64 ((rd_T68 l0_2 x7_1).f0), .int .i64 ((rd_T68 l0_2 x7_1).f1), .int .i64 0, .int .i64 0, .int .i64 0, .int .i64 0, .int .i64 0, .string (⟨#[]⟩ : ByteArray), .slice none 0 0]) ?_ 2 _ rfl; (with_reducible repeat (first | refine blk_drewN ?_ _ | refine blk_drew ?_ | refine blk_alloc ?_ _)); refine blk_put (cs := #[.int .i64 ((rd_T68 l0_2 x7_1).f0), .int .i64 0, .int .i64 0, .int .i64 0, .int .i64 0, .int .i64 0, .int .i64 0, .string (⟨#[]⟩ : ByteArray), .slice none 0 0]) ?_ 1 _ rfl; (with_reducible repeat (first | refine blk_drewN ?_ _ | refine blk_drew ?_ | refine blk_alloc ?_ _)); refine blk_put (cs := #[.int .i64 0, .int .i64 0, .int .i64 0, .int .i64 0, .int .i64 0, .int .i64 0, .int .i64 0, .string (⟨#[]⟩ : ByteArray), .slice none 0 0]) ?_ 0 _ rfl; (with_reducible repeat (first | refine blk_drewN ?_ _ | refine blk_drew ?_ | refine blk_alloc ?_ _)); exact BK303.out⟩, ⟨by repeat (first | (with_reducible first | exact HB.out | apply below_alloc | apply pw_below_drewN | apply below_drew1 | refine below_set ?_ GE298.out | refine below_set ?_ GE303.out) | exact HB.out)⟩⟩
                · rw [if_neg c17] at H
                  have c17b0 : decide (((rd_T68 l0_2 x7_1).f1) < 0) = false := decide_eq_false c17
                  clear c17
                  have H' := Aside0.mk H
                  clear H
                  have hnb20 := NB303_298.out
                  have hnc20 := NB298_303.out
                  have hcz21_0 : w11.cell? ⟨gb303, 0, none⟩ = some (.int .i64 0) := (blk_cell BK303.out 0).trans rfl
                  have hcz21_1 : w11.cell? ⟨gb303, 1, none⟩ = some (.int .i64 0) := (blk_cell BK303.out 1).trans rfl
                  have hcz21_2 : w11.cell? ⟨gb303, 2, none⟩ = some (.int .i64 0) := (blk_cell BK303.out 2).trans rfl
                  have hcz21_3 : w11.cell? ⟨gb303, 3, none⟩ = some (.int .i64 0) := (blk_cell BK303.out 3).trans rfl
                  have hcz21_4 : w11.cell? ⟨gb303, 4, none⟩ = some (.int .i64 0) := (blk_cell BK303.out 4).trans rfl
                  have hcz21_5 : w11.cell? ⟨gb303, 5, none⟩ = some (.int .i64 0) := (blk_cell BK303.out 5).trans rfl
                  have hcz21_6 : w11.cell? ⟨gb303, 6, none⟩ = some (.int .i64 0) := (blk_cell BK303.out 6).trans rfl
                  have hcz21_7 : w11.cell? ⟨gb303, 7, none⟩ = some (.string (⟨#[]⟩ : ByteArray)) := (blk_cell BK303.out 7).trans rfl
                  have hcz21_8 : w11.cell? ⟨gb303, 8, none⟩ = some (.slice none 0 0) := (blk_cell BK303.out 8).trans rfl
                  have hfz21_0 := blk_frozen BK303.out 0
                  have hfz21_1 := blk_frozen BK303.out 1
                  have hfz21_2 := blk_frozen BK303.out 2
                  have hfz21_3 := blk_frozen BK303.out 3
                  have hfz21_4 := blk_frozen BK303.out 4
                  have hfz21_5 := blk_frozen BK303.out 5
                  have hfz21_6 := blk_frozen BK303.out 6
                  have hfz21_7 := blk_frozen BK303.out 7
                  have hfz21_8 := blk_frozen BK303.out 8
                  have hcz22_0 : w11.cell? ⟨gb298, 0, none⟩ = some (.int .i64 a0_0) := (blk_cell BK298.out 0).trans rfl
                  have hcz22_1 : w11.cell? ⟨gb298, 1, none⟩ = some (.slice A0_1 l0_1.length c0_1) := (blk_cell BK298.out 1).trans rfl
                  have hcz22_2 : w11.cell? ⟨gb298, 2, none⟩ = some (.slice (some ad302) l0_2.length c0_2) := (blk_cell BK298.out 2).trans rfl
                  have hfz22_0 := blk_frozen BK298.out 0
                  have hfz22_1 := blk_frozen BK298.out 1
                  have hfz22_2 := blk_frozen BK298.out 2
                  go_wp2
                  go_meet
                  case rel => exact ⟨_, (decide (((rd_T68 l0_2 x7_1).f1) ≥ (l0_1.length : Int))), (by first | rfl | (simp; done) | (simp [*]; done) | (simp [*]; exact (fun (l_ : List UInt8) => (by cases l_ <;> rfl : l_.isEmpty = !(l_ != []))) _)), H', ⟨by have := HK1.out; first | omega | exact Nat.le_refl _⟩, ⟨by (with_reducible repeat (first | apply Kd.V_alloc | apply Kd.V_drewN | apply Kd.V_drew)); exact Kd.V_mono (Kd.V_far (p := ⟨gb303, 8, none⟩) (Kd.V_far (p := ⟨gb303, 7, none⟩) (Kd.V_far (p := ⟨gb303, 6, none⟩) (Kd.V_far (p := ⟨gb303, 5, none⟩) (Kd.V_far (p := ⟨gb303, 4, none⟩) (Kd.V_far (p := ⟨gb303, 3, none⟩) (Kd.V_far (p := ⟨gb303, 2, none⟩) (Kd.V_far (p := ⟨gb303, 1, none⟩) (Kd.V_far (p := ⟨gb303, 0, none⟩) (Kd.V_mono HO_5.out (fun k_ hk => (⟨hk, hk.2⟩ : _ ∧ k_ ≠ gb303))) (fun _ hk => hk.2) (.int .i64 ((rd_T68 l0_2 x7_1).f0))) (fun _ hk => hk.2) (.int .i64 ((rd_T68 l0_2 x7_1).f1))) (fun _ hk => hk.2) (.int .i64 ((rd_T68 l0_2 x7_1).f2))) (fun _ hk => hk.2) (.int .i64 ((rd_T68 l0_2 x7_1).f3))) (fun _ hk => hk.2) (.int .i64 ((rd_T68 l0_2 x7_1).f4))) (fun _ hk => hk.2) (.int .i64 ((rd_T68 l0_2 x7_1).f5))) (fun _ hk => hk.2) (.int .i64 ((rd_T68 l0_2 x7_1).f6))) (fun _ hk => hk.2) (.string ((rd_T68 l0_2 x7_1).f7))) (fun _ hk => hk.2) (.slice A302_8 ((rd_T68 l0_2 x7_1).f8).length c302_8)) (fun _ hk => ⟨hk.1.1.1, ⟨hk.1.1.2.1, ⟨hk.1.1.2.2, hk.1.2⟩⟩⟩)⟩, ⟨by (with_reducible repeat (first | apply Kd.R_alloc | apply Kd.R_drewN | apply Kd.R_drew)); exact Kd.R_mono (Kd.R_far (p := ⟨gb303, 8, none⟩) (Kd.R_far (p := ⟨gb303, 7, none⟩) (Kd.R_far (p := ⟨gb303, 6, none⟩) (Kd.R_far (p := ⟨gb303, 5, none⟩) (Kd.R_far (p := ⟨gb303, 4, none⟩) (Kd.R_far (p := ⟨gb303, 3, none⟩) (Kd.R_far (p := ⟨gb303, 2, none⟩) (Kd.R_far (p := ⟨gb303, 1, none⟩) (Kd.R_far (p := ⟨gb303, 0, none⟩) (Kd.R_types HO_6.out BK303.out (by decide)) (fun _ hk => hk.2) (.int .i64 ((rd_T68 l0_2 x7_1).f0))) (fun _ hk => hk.2) (.int .i64 ((rd_T68 l0_2 x7_1).f1))) (fun _ hk => hk.2) (.int .i64 ((rd_T68 l0_2 x7_1).f2))) (fun _ hk => hk.2) (.int .i64 ((rd_T68 l0_2 x7_1).f3))) (fun _ hk => hk.2) (.int .i64 ((rd_T68 l0_2 x7_1).f4))) (fun _ hk => hk.2) (.int .i64 ((rd_T68 l0_2 x7_1).f5))) (fun _ hk => hk.2) (.int .i64 ((rd_T68 l0_2 x7_1).f6))) (fun _ hk => hk.2) (.string ((rd_T68 l0_2 x7_1).f7))) (fun _ hk => hk.2) (.slice A302_8 ((rd_T68 l0_2 x7_1).f8).length c302_8)) (fun _ hk => hk.1)⟩, ⟨by (with_reducible repeat (first | refine blk_drewN ?_ _ | refine blk_drew ?_ | refine blk_alloc ?_ _)); refine blk_far ?_ NB298_303.out _; (with_reducible repeat (first | refine blk_drewN ?_ _ | refine blk_drew ?_ | refine blk_alloc ?_ _)); refine blk_far ?_ NB298_303.out _; (with_reducible repeat (first | refine blk_drewN ?_ _ | refine blk_drew ?_ | refine blk_alloc ?_ _)); refine blk_far ?_ NB298_303.out _; (with_reducible repeat (first | refine blk_drewN ?_ _ | refine blk_drew ?_ | refine blk_alloc ?_ _)); refine blk_far ?_ NB298_303.out _; (with_reducible repeat (first | refine blk_drewN ?_ _ | refine blk_drew ?_ | refine blk_alloc ?_ _)); refine blk_far ?_ NB298_303.out _; (with_reducible repeat (first | refine blk_drewN ?_ _ | refine blk_drew ?_ | refine blk_alloc ?_ _)); refine blk_far ?_ NB298_303.out _; (with_reducible repeat (first | refine blk_drewN ?_ _ | refine blk_drew ?_ | refine blk_alloc ?_ _)); refine blk_far ?_ NB298_303.out _; (with_reducible repeat (first | refine blk_drewN ?_ _ | refine blk_drew ?_ | refine blk_alloc ?_ _)); refine blk_far ?_ NB298_303.out _; (with_reducible repeat (first | refine blk_drewN ?_ _ | refine blk_drew ?_ | refine blk_alloc ?_ _)); refine blk_far ?_ NB298_303.out _; (with_reducible repeat (first | refine blk_drewN ?_ _ | refine blk_drew ?_ | refine blk_alloc ?_ _)); exact BK298.out⟩, ⟨by (with_reducible repeat (first | refine blk_drewN ?_ _ | refine blk_drew ?_ | refine blk_alloc ?_ _)); refine blk_put (cs := #[.int .i64 ((rd_T68 l0_2 x7_1).f0), .int .i64 ((rd_T68 l0_2 x7_1).f1), .int .i64 ((rd_T68 l0_2 x7_1).f2), .int .i64 ((rd_T68 l0_2 x7_1).f3), .int .i64 ((rd_T68 l0_2 x7_1).f4), .int .i64 ((rd_T68 l0_2 x7_1).f5), .int .i64 ((rd_T68 l0_2 x7_1).f6), .string ((rd_T68 l0_2 x7_1).f7), .slice none 0 0]) ?_ 8 _ rfl; (with_reducible repeat (first | refine blk_drewN ?_ _ | refine blk_drew ?_ | refine blk_alloc ?_ _)); refine blk_put (cs := #[.int .i64 ((rd_T68 l0_2 x7_1).f0), .int .i64 ((rd_T68 l0_2 x7_1).f1), .int .i64 ((rd_T68 l0_2 x7_1).f2), .int .i64 ((rd_T68 l0_2 x7_1).f3), .int .i64 ((rd_T68 l0_2 x7_1).f4), .int .i64 ((rd_T68 l0_2 x7_1).f5), .int .i64 ((rd_T68 l0_2 x7_1).f6), .string (⟨#[]⟩ : ByteArray), .slice none 0 0]) ?_ 7 _ rfl; (with_reducible repeat (first | refine blk_drewN ?_ _ | refine blk_drew ?_ | refine blk_alloc ?_ _)); refine blk_put (cs := #[.int .i64 ((rd_T68 l0_2 x7_1).f0), .int .i64 ((rd_T68 l0_2 x7_1).f1), .int .i64 ((rd_T68 l0_2 x7_1).f2), .int .i64 ((rd_T68 l0_2 x7_1).f3), .int .i64 ((rd_T68 l0_2 x7_1).f4), .int .i64 ((rd_T68 l0_2 x7_1).f5), .int .i64 0, .string (⟨#[]⟩ : ByteArray), .slice none 0 0]) ?_ 6 _ rfl; (with_reducible repeat (first | refine blk_drewN ?_ _ | refine blk_drew ?_ | refine blk_alloc ?_ _)); refine blk_put (cs := #[.int .i64 ((rd_T68 l0_2 x7_1).f0), .int .i64 ((rd_T68 l0_2 x7_1).f1), .int .i64 ((rd_T68 l0_2 x7_1).f2), .int .i64 ((rd_T68 l0_2 x7_1).f3), .int .i64 ((rd_T68 l0_2 x7_1).f4), .int .i64 0, .int .i64 0, .string (⟨#[]⟩ : ByteArray), .slice none 0 0]) ?_ 5 _ rfl; (with_reducible repeat (first | refine blk_drewN ?_ _ | refine blk_drew ?_ | refine blk_alloc ?_ _)); refine blk_put (cs := #[.int .i64 ((rd_T68 l0_2 x7_1).f0), .int .i64 ((rd_T68 l0_2 x7_1).f1), .int .i64 ((rd_T68 l0_2 x7_1).f2), .int .i64 ((rd_T68 l0_2 x7_1).f3), .int .i64 0, .int .i64 0, .int .i64 0, .string (⟨#[]⟩ : ByteArray), .slice none 0 0]) ?_ 4 _ rfl; (with_reducible repeat (first | refine blk_drewN ?_ _ | refine blk_drew ?_ | refine blk_alloc ?_ _)); refine blk_put (cs := #[.int .i64 ((rd_T68 l0_2 x7_1).f0), .int .i64 ((rd_T68 l0_2 x7_1).f1), .int .i64 ((rd_T68 l0_2 x7_1).f2), .int .i64 0, .int .i64 0, .int .i64 0, .int .i64 0, .string (⟨#[]⟩ : ByteArray), .slice none 0 0]) ?_ 3 _ rfl; (with_reducible repeat (first | refine blk_drewN ?_ _ | refine blk_drew ?_ | refine blk_alloc ?_ _)); refine blk_put (cs := #[.int .i64 ((rd_T68 l0_2 x7_1).f0), .int .i64 ((rd_T68 l0_2 x7_1).f1), .int .i64 0, .int .i64 0, .int .i64 0, .int .i64 0, .int .i64 0, .string (⟨#[]⟩ : ByteArray), .slice none 0 0]) ?_ 2 _ rfl; (with_reducible repeat (first | refine blk_drewN ?_ _ | refine blk_drew ?_ | refine blk_alloc ?_ _)); refine blk_put (cs := #[.int .i64 ((rd_T68 l0_2 x7_1).f0), .int .i64 0, .int .i64 0, .int .i64 0, .int .i64 0, .int .i64 0, .int .i64 0, .string (⟨#[]⟩ : ByteArray), .slice none 0 0]) ?_ 1 _ rfl; (with_reducible repeat (first | refine blk_drewN ?_ _ | refine blk_drew ?_ | refine blk_alloc ?_ _)); refine blk_put (cs := #[.int .i64 0, .int .i64 0, .int .i64 0, .int .i64 0, .int .i64 0, .int .i64 0, .int .i64 0, .string (⟨#[]⟩ : ByteArray), .slice none 0 0]) ?_ 0 _ rfl; (with_reducible repeat (first | refine blk_drewN ?_ _ | refine blk_drew ?_ | refine blk_alloc ?_ _)); exact BK303.out⟩, ⟨by repeat (first | (with_reducible first | exact HB.out | apply below_alloc | apply pw_below_drewN | apply below_drew1 | refine below_set ?_ GE298.out | refine below_set ?_ GE303.out) | exact HB.out)⟩⟩
              · replace c16 := Bool.eq_false_iff.mpr c16
                subst c16
                have H1 : (gumshoeref15_Edges.j1 k1 l1 x5_1 t299 x7_1 true a0_0 l0_1 l0_2 ((rd_T68 l0_2 x7_1).f0) ((rd_T68 l0_2 x7_1).f1) ((rd_T68 l0_2 x7_1).f2) ((rd_T68 l0_2 x7_1).f3) ((rd_T68 l0_2 x7_1).f4) ((rd_T68 l0_2 x7_1).f5) ((rd_T68 l0_2 x7_1).f6) ((rd_T68 l0_2 x7_1).f7) ((rd_T68 l0_2 x7_1).f8)) = some r := by rw [if_neg (show ¬ (false = true) by decide)] at H; exact H
                clear H
                have H := H1
                clear H1
                have H' := Aside0.mk H
                clear H
                have hnb23 := NB303_298.out
                have hnc23 := NB298_303.out
                have hcz24_0 : w11.cell? ⟨gb303, 0, none⟩ = some (.int .i64 0) := (blk_cell BK303.out 0).trans rfl
                have hcz24_1 : w11.cell? ⟨gb303, 1, none⟩ = some (.int .i64 0) := (blk_cell BK303.out 1).trans rfl
                have hcz24_2 : w11.cell? ⟨gb303, 2, none⟩ = some (.int .i64 0) := (blk_cell BK303.out 2).trans rfl
                have hcz24_3 : w11.cell? ⟨gb303, 3, none⟩ = some (.int .i64 0) := (blk_cell BK303.out 3).trans rfl
                have hcz24_4 : w11.cell? ⟨gb303, 4, none⟩ = some (.int .i64 0) := (blk_cell BK303.out 4).trans rfl
                have hcz24_5 : w11.cell? ⟨gb303, 5, none⟩ = some (.int .i64 0) := (blk_cell BK303.out 5).trans rfl
                have hcz24_6 : w11.cell? ⟨gb303, 6, none⟩ = some (.int .i64 0) := (blk_cell BK303.out 6).trans rfl
                have hcz24_7 : w11.cell? ⟨gb303, 7, none⟩ = some (.string (⟨#[]⟩ : ByteArray)) := (blk_cell BK303.out 7).trans rfl
                have hcz24_8 : w11.cell? ⟨gb303, 8, none⟩ = some (.slice none 0 0) := (blk_cell BK303.out 8).trans rfl
                have hfz24_0 := blk_frozen BK303.out 0
                have hfz24_1 := blk_frozen BK303.out 1
                have hfz24_2 := blk_frozen BK303.out 2
                have hfz24_3 := blk_frozen BK303.out 3
                have hfz24_4 := blk_frozen BK303.out 4
                have hfz24_5 := blk_frozen BK303.out 5
                have hfz24_6 := blk_frozen BK303.out 6
                have hfz24_7 := blk_frozen BK303.out 7
                have hfz24_8 := blk_frozen BK303.out 8
                go_wp2
                go_meet
                case rel => exact ⟨_, (true), (by first | rfl | (simp; done) | (simp [*]; done) | (simp [*]; exact (fun (l_ : List UInt8) => (by cases l_ <;> rfl : l_.isEmpty = !(l_ != []))) _)), H', ⟨by have := HK1.out; first | omega | exact Nat.le_refl _⟩, ⟨by (with_reducible repeat (first | apply Kd.V_alloc | apply Kd.V_drewN | apply Kd.V_drew)); exact Kd.V_mono (Kd.V_far (p := ⟨gb303, 8, none⟩) (Kd.V_far (p := ⟨gb303, 7, none⟩) (Kd.V_far (p := ⟨gb303, 6, none⟩) (Kd.V_far (p := ⟨gb303, 5, none⟩) (Kd.V_far (p := ⟨gb303, 4, none⟩) (Kd.V_far (p := ⟨gb303, 3, none⟩) (Kd.V_far (p := ⟨gb303, 2, none⟩) (Kd.V_far (p := ⟨gb303, 1, none⟩) (Kd.V_far (p := ⟨gb303, 0, none⟩) (Kd.V_mono HO_5.out (fun k_ hk => (⟨hk, hk.2⟩ : _ ∧ k_ ≠ gb303))) (fun _ hk => hk.2) (.int .i64 ((rd_T68 l0_2 x7_1).f0))) (fun _ hk => hk.2) (.int .i64 ((rd_T68 l0_2 x7_1).f1))) (fun _ hk => hk.2) (.int .i64 ((rd_T68 l0_2 x7_1).f2))) (fun _ hk => hk.2) (.int .i64 ((rd_T68 l0_2 x7_1).f3))) (fun _ hk => hk.2) (.int .i64 ((rd_T68 l0_2 x7_1).f4))) (fun _ hk => hk.2) (.int .i64 ((rd_T68 l0_2 x7_1).f5))) (fun _ hk => hk.2) (.int .i64 ((rd_T68 l0_2 x7_1).f6))) (fun _ hk => hk.2) (.string ((rd_T68 l0_2 x7_1).f7))) (fun _ hk => hk.2) (.slice A302_8 ((rd_T68 l0_2 x7_1).f8).length c302_8)) (fun _ hk => ⟨hk.1.1.1, ⟨hk.1.1.2.1, ⟨hk.1.1.2.2, hk.1.2⟩⟩⟩)⟩, ⟨by (with_reducible repeat (first | apply Kd.R_alloc | apply Kd.R_drewN | apply Kd.R_drew)); exact Kd.R_mono (Kd.R_far (p := ⟨gb303, 8, none⟩) (Kd.R_far (p := ⟨gb303, 7, none⟩) (Kd.R_far (p := ⟨gb303, 6, none⟩) (Kd.R_far (p := ⟨gb303, 5, none⟩) (Kd.R_far (p := ⟨gb303, 4, none⟩) (Kd.R_far (p := ⟨gb303, 3, none⟩) (Kd.R_far (p := ⟨gb303, 2, none⟩) (Kd.R_far (p := ⟨gb303, 1, none⟩) (Kd.R_far (p := ⟨gb303, 0, none⟩) (Kd.R_types HO_6.out BK303.out (by decide)) (fun _ hk => hk.2) (.int .i64 ((rd_T68 l0_2 x7_1).f0))) (fun _ hk => hk.2) (.int .i64 ((rd_T68 l0_2 x7_1).f1))) (fun _ hk => hk.2) (.int .i64 ((rd_T68 l0_2 x7_1).f2))) (fun _ hk => hk.2) (.int .i64 ((rd_T68 l0_2 x7_1).f3))) (fun _ hk => hk.2) (.int .i64 ((rd_T68 l0_2 x7_1).f4))) (fun _ hk => hk.2) (.int .i64 ((rd_T68 l0_2 x7_1).f5))) (fun _ hk => hk.2) (.int .i64 ((rd_T68 l0_2 x7_1).f6))) (fun _ hk => hk.2) (.string ((rd_T68 l0_2 x7_1).f7))) (fun _ hk => hk.2) (.slice A302_8 ((rd_T68 l0_2 x7_1).f8).length c302_8)) (fun _ hk => hk.1)⟩, ⟨by (with_reducible repeat (first | refine blk_drewN ?_ _ | refine blk_drew ?_ | refine blk_alloc ?_ _)); refine blk_far ?_ NB298_303.out _; (with_reducible repeat (first | refine blk_drewN ?_ _ | refine blk_drew ?_ | refine blk_alloc ?_ _)); refine blk_far ?_ NB298_303.out _; (with_reducible repeat (first | refine blk_drewN ?_ _ | refine blk_drew ?_ | refine blk_alloc ?_ _)); refine blk_far ?_ NB298_303.out _; (with_reducible repeat (first | refine blk_drewN ?_ _ | refine blk_drew ?_ | refine blk_alloc ?_ _)); refine blk_far ?_ NB298_303.out _; (with_reducible repeat (first | refine blk_drewN ?_ _ | refine blk_drew ?_ | refine blk_alloc ?_ _)); refine blk_far ?_ NB298_303.out _; (with_reducible repeat (first | refine blk_drewN ?_ _ | refine blk_drew ?_ | refine blk_alloc ?_ _)); refine blk_far ?_ NB298_303.out _; (with_reducible repeat (first | refine blk_drewN ?_ _ | refine blk_drew ?_ | refine blk_alloc ?_ _)); refine blk_far ?_ NB298_303.out _; (with_reducible repeat (first | refine blk_drewN ?_ _ | refine blk_drew ?_ | refine blk_alloc ?_ _)); refine blk_far ?_ NB298_303.out _; (with_reducible repeat (first | refine blk_drewN ?_ _ | refine blk_drew ?_ | refine blk_alloc ?_ _)); refine blk_far ?_ NB298_303.out _; (with_reducible repeat (first | refine blk_drewN ?_ _ | refine blk_drew ?_ | refine blk_alloc ?_ _)); exact BK298.out⟩, ⟨by (with_reducible repeat (first | refine blk_drewN ?_ _ | refine blk_drew ?_ | refine blk_alloc ?_ _)); refine blk_put (cs := #[.int .i64 ((rd_T68 l0_2 x7_1).f0), .int .i64 ((rd_T68 l0_2 x7_1).f1), .int .i64 ((rd_T68 l0_2 x7_1).f2), .int .i64 ((rd_T68 l0_2 x7_1).f3), .int .i64 ((rd_T68 l0_2 x7_1).f4), .int .i64 ((rd_T68 l0_2 x7_1).f5), .int .i64 ((rd_T68 l0_2 x7_1).f6), .string ((rd_T68 l0_2 x7_1).f7), .slice none 0 0]) ?_ 8 _ rfl; (with_reducible repeat (first | refine blk_drewN ?_ _ | refine blk_drew ?_ | refine blk_alloc ?_ _)); refine blk_put (cs := #[.int .i64 ((rd_T68 l0_2 x7_1).f0), .int .i64 ((rd_T68 l0_2 x7_1).f1), .int .i64 ((rd_T68 l0_2 x7_1).f2), .int .i64 ((rd_T68 l0_2 x7_1).f3), .int .i64 ((rd_T68 l0_2 x7_1).f4), .int .i64 ((rd_T68 l0_2 x7_1).f5), .int .i64 ((rd_T68 l0_2 x7_1).f6), .string (⟨#[]⟩ : ByteArray), .slice none 0 0]) ?_ 7 _ rfl; (with_reducible repeat (first | refine blk_drewN ?_ _ | refine blk_drew ?_ | refine blk_alloc ?_ _)); refine blk_put (cs := #[.int .i64 ((rd_T68 l0_2 x7_1).f0), .int .i64 ((rd_T68 l0_2 x7_1).f1), .int .i64 ((rd_T68 l0_2 x7_1).f2), .int .i64 ((rd_T68 l0_2 x7_1).f3), .int .i64 ((rd_T68 l0_2 x7_1).f4), .int .i64 ((rd_T68 l0_2 x7_1).f5), .int .i64 0, .string (⟨#[]⟩ : ByteArray), .slice none 0 0]) ?_ 6 _ rfl; (with_reducible repeat (first | refine blk_drewN ?_ _ | refine blk_drew ?_ | refine blk_alloc ?_ _)); refine blk_put (cs := #[.int .i64 ((rd_T68 l0_2 x7_1).f0), .int .i64 ((rd_T68 l0_2 x7_1).f1), .int .i64 ((rd_T68 l0_2 x7_1).f2), .int .i64 ((rd_T68 l0_2 x7_1).f3), .int .i64 ((rd_T68 l0_2 x7_1).f4), .int .i64 0, .int .i64 0, .string (⟨#[]⟩ : ByteArray), .slice none 0 0]) ?_ 5 _ rfl; (with_reducible repeat (first | refine blk_drewN ?_ _ | refine blk_drew ?_ | refine blk_alloc ?_ _)); refine blk_put (cs := #[.int .i64 ((rd_T68 l0_2 x7_1).f0), .int .i64 ((rd_T68 l0_2 x7_1).f1), .int .i64 ((rd_T68 l0_2 x7_1).f2), .int .i64 ((rd_T68 l0_2 x7_1).f3), .int .i64 0, .int .i64 0, .int .i64 0, .string (⟨#[]⟩ : ByteArray), .slice none 0 0]) ?_ 4 _ rfl; (with_reducible repeat (first | refine blk_drewN ?_ _ | refine blk_drew ?_ | refine blk_alloc ?_ _)); refine blk_put (cs := #[.int .i64 ((rd_T68 l0_2 x7_1).f0), .int .i64 ((rd_T68 l0_2 x7_1).f1), .int .i64 ((rd_T68 l0_2 x7_1).f2), .int .i64 0, .int .i64 0, .int .i64 0, .int .i64 0, .string (⟨#[]⟩ : ByteArray), .slice none 0 0]) ?_ 3 _ rfl; (with_reducible repeat (first | refine blk_drewN ?_ _ | refine blk_drew ?_ | refine blk_alloc ?_ _)); refine blk_put (cs := #[.int .i64 ((rd_T68 l0_2 x7_1).f0), .int .i64 ((rd_T68 l0_2 x7_1).f1), .int .i64 0, .int .i64 0, .int .i64 0, .int .i64 0, .int .i64 0, .string (⟨#[]⟩ : ByteArray), .slice none 0 0]) ?_ 2 _ rfl; (with_reducible repeat (first | refine blk_drewN ?_ _ | refine blk_drew ?_ | refine blk_alloc ?_ _)); refine blk_put (cs := #[.int .i64 ((rd_T68 l0_2 x7_1).f0), .int .i64 0, .int .i64 0, .int .i64 0, .int .i64 0, .int .i64 0, .int .i64 0, .string (⟨#[]⟩ : ByteArray), .slice none 0 0]) ?_ 1 _ rfl; (with_reducible repeat (first | refine blk_drewN ?_ _ | refine blk_drew ?_ | refine blk_alloc ?_ _)); refine blk_put (cs := #[.int .i64 0, .int .i64 0, .int .i64 0, .int .i64 0, .int .i64 0, .int .i64 0, .int .i64 0, .string (⟨#[]⟩ : ByteArray), .slice none 0 0]) ?_ 0 _ rfl; (with_reducible repeat (first | refine blk_drewN ?_ _ | refine blk_drew ?_ | refine blk_alloc ?_ _)); exact BK303.out⟩, ⟨by repeat (first | (with_reducible first | exact HB.out | apply below_alloc | apply pw_below_drewN | apply below_drew1 | refine below_set ?_ GE298.out | refine below_set ?_ GE303.out) | exact HB.out)⟩⟩
            · rw [if_neg c15] at H
              have c15b0 : (((rd_T68 l0_2 x7_1).f0) == 8) = false := beq_eq_false_iff_ne.mpr c15
              have c15b1 : (((rd_T68 l0_2 x7_1).f0) != 8) = true := bne_iff_ne.mpr c15
              (first | rw [c15b0] | (simp only [i64_w, i32_w]; rw [c15b0]) | skip)
              by_cases c25 : ((rd_T68 l0_2 x7_1).f0) = 9
              · rw [if_pos c25] at H
                have c25b0 : (((rd_T68 l0_2 x7_1).f0) == 9) = true := beq_iff_eq.mpr c25
                have c25b1 : (((rd_T68 l0_2 x7_1).f0) != 9) = false := bne_eq_false_iff_eq.mpr c25
                clear c25
                by_cases c26 : t304 = true
                · subst c26
                  have H1 : (if ((rd_T68 l0_2 x7_1).f1) < 0 then (gumshoeref15_Edges.j1 k1 l1 x5_1 t299 x7_1 true a0_0 l0_1 l0_2 ((rd_T68 l0_2 x7_1).f0) ((rd_T68 l0_2 x7_1).f1) ((rd_T68 l0_2 x7_1).f2) ((rd_T68 l0_2 x7_1).f3) ((rd_T68 l0_2 x7_1).f4) ((rd_T68 l0_2 x7_1).f5) ((rd_T68 l0_2 x7_1).f6) ((rd_T68 l0_2 x7_1).f7) ((rd_T68 l0_2 x7_1).f8)) else (gumshoeref15_Edges.j1 k1 l1 x5_1 t299 x7_1 (decide (((rd_T68 l0_2 x7_1).f1) ≥ (l0_1.length : Int))) a0_0 l0_1 l0_2 ((rd_T68 l0_2 x7_1).f0) ((rd_T68 l0_2 x7_1).f1) ((rd_T68 l0_2 x7_1).f2) ((rd_T68 l0_2 x7_1).f3) ((rd_T68 l0_2 x7_1).f4) ((rd_T68 l0_2 x7_1).f5) ((rd_T68 l0_2 x7_1).f6) ((rd_T68 l0_2 x7_1).f7) ((rd_T68 l0_2 x7_1).f8))) = some r := by rw [if_pos rfl] at H; exact H
                  clear H
                  have H := H1
                  clear H1
                  by_cases c27 : ((rd_T68 l0_2 x7_1).f1) < 0
                  · rw [if_pos c27] at H
                    have c27b0 : decide (((rd_T68 l0_2 x7_1).f1) < 0) = true := decide_eq_true c27
                    clear c27
                    have H' := Aside0.mk H
                    clear H
                    have hnb28 := NB303_298.out
                    have hnc28 := NB298_303.out
                    have hcz29_0 : w11.cell? ⟨gb303, 0, none⟩ = some (.int .i64 0) := (blk_cell BK303.out 0).trans rfl
                    have hcz29_1 : w11.cell? ⟨gb303, 1, none⟩ = some (.int .i64 0) := (blk_cell BK303.out 1).trans rfl
                    have hcz29_2 : w11.cell? ⟨gb303, 2, none⟩ = some (.int .i64 0) := (blk_cell BK303.out 2).trans rfl
                    have hcz29_3 : w11.cell? ⟨gb303, 3, none⟩ = some (.int .i64 0) := (blk_cell BK303.out 3).trans rfl
                    have hcz29_4 : w11.cell? ⟨gb303, 4, none⟩ = some (.int .i64 0) := (blk_cell BK303.out 4).trans rfl
                    have hcz29_5 : w11.cell? ⟨gb303, 5, none⟩ = some (.int .i64 0) := (blk_cell BK303.out 5).trans rfl
                    have hcz29_6 : w11.cell? ⟨gb303, 6, none⟩ = some (.int .i64 0) := (blk_cell BK303.out 6).trans rfl
                    have hcz29_7 : w11.cell? ⟨gb303, 7, none⟩ = some (.string (⟨#[]⟩ : ByteArray)) := (blk_cell BK303.out 7).trans rfl
                    have hcz29_8 : w11.cell? ⟨gb303, 8, none⟩ = some (.slice none 0 0) := (blk_cell BK303.out 8).trans rfl
                    have hfz29_0 := blk_frozen BK303.out 0
                    have hfz29_1 := blk_frozen BK303.out 1
                    have hfz29_2 := blk_frozen BK303.out 2
                    have hfz29_3 := blk_frozen BK303.out 3
                    have hfz29_4 := blk_frozen BK303.out 4
                    have hfz29_5 := blk_frozen BK303.out 5
                    have hfz29_6 := blk_frozen BK303.out 6
                    have hfz29_7 := blk_frozen BK303.out 7
                    have hfz29_8 := blk_frozen BK303.out 8
                    go_wp2
                    go_meet
                    case rel => exact ⟨_, (true), (by first | rfl | (simp; done) | (simp [*]; done) | (simp [*]; exact (fun (l_ : List UInt8) => (by cases l_ <;> rfl : l_.isEmpty = !(l_ != []))) _)), H', ⟨by have := HK1.out; first | omega | exact Nat.le_refl _⟩, ⟨by (with_reducible repeat (first | apply Kd.V_alloc | apply Kd.V_drewN | apply Kd.V_drew)); exact Kd.V_mono (Kd.V_far (p := ⟨gb303, 8, none⟩) (Kd.V_far (p := ⟨gb303, 7, none⟩) (Kd.V_far (p := ⟨gb303, 6, none⟩) (Kd.V_far (p := ⟨gb303, 5, none⟩) (Kd.V_far (p := ⟨gb303, 4, none⟩) (Kd.V_far (p := ⟨gb303, 3, none⟩) (Kd.V_far (p := ⟨gb303, 2, none⟩) (Kd.V_far (p := ⟨gb303, 1, none⟩) (Kd.V_far (p := ⟨gb303, 0, none⟩) (Kd.V_mono HO_5.out (fun k_ hk => (⟨hk, hk.2⟩ : _ ∧ k_ ≠ gb303))) (fun _ hk => hk.2) (.int .i64 ((rd_T68 l0_2 x7_1).f0))) (fun _ hk => hk.2) (.int .i64 ((rd_T68 l0_2 x7_1).f1))) (fun _ hk => hk.2) (.int .i64 ((rd_T68 l0_2 x7_1).f2))) (fun _ hk => hk.2) (.int .i64 ((rd_T68 l0_2 x7_1).f3))) (fun _ hk => hk.2) (.int .i64 ((rd_T68 l0_2 x7_1).f4))) (fun _ hk => hk.2) (.int .i64 ((rd_T68 l0_2 x7_1).f5))) (fun _ hk => hk.2) (.int .i64 ((rd_T68 l0_2 x7_1).f6))) (fun _ hk => hk.2) (.string ((rd_T68 l0_2 x7_1).f7))) (fun _ hk => hk.2) (.slice A302_8 ((rd_T68 l0_2 x7_1).f8).length c302_8)) (fun _ hk => ⟨hk.1.1.1, ⟨hk.1.1.2.1, ⟨hk.1.1.2.2, hk.1.2⟩⟩⟩)⟩, ⟨by (with_reducible repeat (first | apply Kd.R_alloc | apply Kd.R_drewN | apply Kd.R_drew)); exact Kd.R_mono (Kd.R_far (p := ⟨gb303, 8, none⟩) (Kd.R_far (p := ⟨gb303, 7, none⟩) (Kd.R_far (p := ⟨gb303, 6, none⟩) (Kd.R_far (p := ⟨gb303, 5, none⟩) (Kd.R_far (p := ⟨gb303, 4, none⟩) (Kd.R_far (p := ⟨gb303, 3, none⟩) (Kd.R_far (p := ⟨gb303, 2, none⟩) (Kd.R_far (p := ⟨gb303, 1, none⟩) (Kd.R_far (p := ⟨gb303, 0, none⟩) (Kd.R_types HO_6.out BK303.out (by decide)) (fun _ hk => hk.2) (.int .i64 ((rd_T68 l0_2 x7_1).f0))) (fun _ hk => hk.2) (.int .i64 ((rd_T68 l0_2 x7_1).f1))) (fun _ hk => hk.2) (.int .i64 ((rd_T68 l0_2 x7_1).f2))) (fun _ hk => hk.2) (.int .i64 ((rd_T68 l0_2 x7_1).f3))) (fun _ hk => hk.2) (.int .i64 ((rd_T68 l0_2 x7_1).f4))) (fun _ hk => hk.2) (.int .i64 ((rd_T68 l0_2 x7_1).f5))) (fun _ hk => hk.2) (.int .i64 ((rd_T68 l0_2 x7_1).f6))) (fun _ hk => hk.2) (.string ((rd_T68 l0_2 x7_1).f7))) (fun _ hk => hk.2) (.slice A302_8 ((rd_T68 l0_2 x7_1).f8).length c302_8)) (fun _ hk => hk.1)⟩, ⟨by (with_reducible repeat (first | refine blk_drewN ?_ _ | refine blk_drew ?_ | refine blk_alloc ?_ _)); refine blk_far ?_ NB298_303.out _; (with_reducible repeat (first | refine blk_drewN ?_ _ | refine blk_drew ?_ | refine blk_alloc ?_ _)); refine blk_far ?_ NB298_303.out _; (with_reducible repeat (first | refine blk_drewN ?_ _ | refine blk_drew ?_ | refine blk_alloc ?_ _)); refine blk_far ?_ NB298_303.out _; (with_reducible repeat (first | refine blk_drewN ?_ _ | refine blk_drew ?_ | refine blk_alloc ?_ _)); refine blk_far ?_ NB298_303.out _; (with_reducible repeat (first | refine blk_drewN ?_ _ | refine blk_drew ?_ | refine blk_alloc ?_ _)); refine blk_far ?_ NB298_303.out _; (with_reducible repeat (first | refine blk_drewN ?_ _ | refine blk_drew ?_ | refine blk_alloc ?_ _)); refine blk_far ?_ NB298_303.out _; (with_reducible repeat (first | refine blk_drewN ?_ _ | refine blk_drew ?_ | refine blk_alloc ?_ _)); refine blk_far ?_ NB298_303.out _; (with_reducible repeat (first | refine blk_drewN ?_ _ | refine blk_drew ?_ | refine blk_alloc ?_ _)); refine blk_far ?_ NB298_303.out _; (with_reducible repeat (first | refine blk_drewN ?_ _ | refine blk_drew ?_ | refine blk_alloc ?_ _)); refine blk_far ?_ NB298_303.out _; (with_reducible repeat (first | refine blk_drewN ?_ _ | refine blk_drew ?_ | refine blk_alloc ?_ _)); exact BK298.out⟩, ⟨by (with_reducible repeat (first | refine blk_drewN ?_ _ | refine blk_drew ?_ | refine blk_alloc ?_ _)); refine blk_put (cs := #[.int .i64 ((rd_T68 l0_2 x7_1).f0), .int .i64 ((rd_T68 l0_2 x7_1).f1), .int .i64 ((rd_T68 l0_2 x7_1).f2), .int .i64 ((rd_T68 l0_2 x7_1).f3), .int .i64 ((rd_T68 l0_2 x7_1).f4), .int .i64 ((rd_T68 l0_2 x7_1).f5), .int .i64 ((rd_T68 l0_2 x7_1).f6), .string ((rd_T68 l0_2 x7_1).f7), .slice none 0 0]) ?_ 8 _ rfl; (with_reducible repeat (first | refine blk_drewN ?_ _ | refine blk_drew ?_ | refine blk_alloc ?_ _)); refine blk_put (cs := #[.int .i64 ((rd_T68 l0_2 x7_1).f0), .int .i64 ((rd_T68 l0_2 x7_1).f1), .int .i64 ((rd_T68 l0_2 x7_1).f2), .int .i64 ((rd_T68 l0_2 x7_1).f3), .int .i64 ((rd_T68 l0_2 x7_1).f4), .int .i64 ((rd_T68 l0_2 x7_1).f5), .int .i64 ((rd_T68 l0_2 x7_1).f6), .string (⟨#[]⟩ : ByteArray), .slice none 0 0]) ?_ 7 _ rfl; (with_reducible repeat (first | refine blk_drewN ?_ _ | refine blk_drew ?_ | refine blk_alloc ?_ _)); refine blk_put (cs := #[.int .i64 ((rd_T68 l0_2 x7_1).f0), .int .i64 ((rd_T68 l0_2 x7_1).f1), .int .i64 ((rd_T68 l0_2 x7_1).f2), .int .i64 ((rd_T68 l0_2 x7_1).f3), .int .i64 ((rd_T68 l0_2 x7_1).f4), .int .i64 ((rd_T68 l0_2 x7_1).f5), .int .i64 0, .string (⟨#[]⟩ : ByteArray), .slice none 0 0]) ?_ 6 _ rfl; (with_reducible repeat (first | refine blk_drewN ?_ _ | refine blk_drew ?_ | refine blk_alloc ?_ _)); refine blk_put (cs := #[.int .i64 ((rd_T68 l0_2 x7_1).f0), .int .i64 ((rd_T68 l0_2 x7_1).f1), .int .i64 ((rd_T68 l0_2 x7_1).f2), .int .i64 ((rd_T68 l0_2 x7_1).f3), .int .i64 ((rd_T68 l0_2 x7_1).f4), .int .i64 0, .int .i64 0, .string (⟨#[]⟩ : ByteArray), .slice none 0 0]) ?_ 5 _ rfl; (with_reducible repeat (first | refine blk_drewN ?_ _ | refine blk_drew ?_ | refine blk_alloc ?_ _)); refine blk_put (cs := #[.int .i64 ((rd_T68 l0_2 x7_1).f0), .int .i64 ((rd_T68 l0_2 x7_1).f1), .int .i64 ((rd_T68 l0_2 x7_1).f2), .int .i64 ((rd_T68 l0_2 x7_1).f3), .int .i64 0, .int .i64 0, .int .i64 0, .string (⟨#[]⟩ : ByteArray), .slice none 0 0]) ?_ 4 _ rfl; (with_reducible repeat (first | refine blk_drewN ?_ _ | refine blk_drew ?_ | refine blk_alloc ?_ _)); refine blk_put (cs := #[.int .i64 ((rd_T68 l0_2 x7_1).f0), .int .i64 ((rd_T68 l0_2 x7_1).f1), .int .i64 ((rd_T68 l0_2 x7_1).f2), .int .i64 0, .int .i64 0, .int .i64 0, .int .i64 0, .string (⟨#[]⟩ : ByteArray), .slice none 0 0]) ?_ 3 _ rfl; (with_reducible repeat (first | refine blk_drewN ?_ _ | refine blk_drew ?_ | refine blk_alloc ?_ _)); refine blk_put (cs := #[.int .i64 ((rd_T68 l0_2 x7_1).f0), .int .i64 ((rd_T68 l0_2 x7_1).f1), .int .i64 0, .int .i64 0, .int .i64 0, .int .i64 0, .int .i64 0, .string (⟨#[]⟩ : ByteArray), .slice none 0 0]) ?_ 2 _ rfl; (with_reducible repeat (first | refine blk_drewN ?_ _ | refine blk_drew ?_ | refine blk_alloc ?_ _)); refine blk_put (cs := #[.int .i64 ((rd_T68 l0_2 x7_1).f0), .int .i64 0, .int .i64 0, .int .i64 0, .int .i64 0, .int .i64 0, .int .i64 0, .string (⟨#[]⟩ : ByteArray), .slice none 0 0]) ?_ 1 _ rfl; (with_reducible repeat (first | refine blk_drewN ?_ _ | refine blk_drew ?_ | refine blk_alloc ?_ _)); refine blk_put (cs := #[.int .i64 0, .int .i64 0, .int .i64 0, .int .i64 0, .int .i64 0, .int .i64 0, .int .i64 0, .string (⟨#[]⟩ : ByteArray), .slice none 0 0]) ?_ 0 _ rfl; (with_reducible repeat (first | refine blk_drewN ?_ _ | refine blk_drew ?_ | refine blk_alloc ?_ _)); exact BK303.out⟩, ⟨by repeat (first | (with_reducible first | exact HB.out | apply below_alloc | apply pw_below_drewN | apply below_drew1 | refine below_set ?_ GE298.out | refine below_set ?_ GE303.out) | exact HB.out)⟩⟩
                  · rw [if_neg c27] at H
                    have c27b0 : decide (((rd_T68 l0_2 x7_1).f1) < 0) = false := decide_eq_false c27
                    clear c27
                    have H' := Aside0.mk H
                    clear H
                    have hnb30 := NB303_298.out
                    have hnc30 := NB298_303.out
                    have hcz31_0 : w11.cell? ⟨gb303, 0, none⟩ = some (.int .i64 0) := (blk_cell BK303.out 0).trans rfl
                    have hcz31_1 : w11.cell? ⟨gb303, 1, none⟩ = some (.int .i64 0) := (blk_cell BK303.out 1).trans rfl
                    have hcz31_2 : w11.cell? ⟨gb303, 2, none⟩ = some (.int .i64 0) := (blk_cell BK303.out 2).trans rfl
                    have hcz31_3 : w11.cell? ⟨gb303, 3, none⟩ = some (.int .i64 0) := (blk_cell BK303.out 3).trans rfl
                    have hcz31_4 : w11.cell? ⟨gb303, 4, none⟩ = some (.int .i64 0) := (blk_cell BK303.out 4).trans rfl
                    have hcz31_5 : w11.cell? ⟨gb303, 5, none⟩ = some (.int .i64 0) := (blk_cell BK303.out 5).trans rfl
                    have hcz31_6 : w11.cell? ⟨gb303, 6, none⟩ = some (.int .i64 0) := (blk_cell BK303.out 6).trans rfl
                    have hcz31_7 : w11.cell? ⟨gb303, 7, none⟩ = some (.string (⟨#[]⟩ : ByteArray)) := (blk_cell BK303.out 7).trans rfl
                    have hcz31_8 : w11.cell? ⟨gb303, 8, none⟩ = some (.slice none 0 0) := (blk_cell BK303.out 8).trans rfl
                    have hfz31_0 := blk_frozen BK303.out 0
                    have hfz31_1 := blk_frozen BK303.out 1
                    have hfz31_2 := blk_frozen BK303.out 2
                    have hfz31_3 := blk_frozen BK303.out 3
                    have hfz31_4 := blk_frozen BK303.out 4
                    have hfz31_5 := blk_frozen BK303.out 5
                    have hfz31_6 := blk_frozen BK303.out 6
                    have hfz31_7 := blk_frozen BK303.out 7
                    have hfz31_8 := blk_frozen BK303.out 8
                    have hcz32_0 : w11.cell? ⟨gb298, 0, none⟩ = some (.int .i64 a0_0) := (blk_cell BK298.out 0).trans rfl
                    have hcz32_1 : w11.cell? ⟨gb298, 1, none⟩ = some (.slice A0_1 l0_1.length c0_1) := (blk_cell BK298.out 1).trans rfl
                    have hcz32_2 : w11.cell? ⟨gb298, 2, none⟩ = some (.slice (some ad302) l0_2.length c0_2) := (blk_cell BK298.out 2).trans rfl
                    have hfz32_0 := blk_frozen BK298.out 0
                    have hfz32_1 := blk_frozen BK298.out 1
                    have hfz32_2 := blk_frozen BK298.out 2
                    go_wp2
                    go_meet
                    case rel => exact ⟨_, (decide (((rd_T68 l0_2 x7_1).f1) ≥ (l0_1.length : Int))), (by first | rfl | (simp; done) | (simp [*]; done) | (simp [*]; exact (fun (l_ : List UInt8) => (by cases l_ <;> rfl : l_.isEmpty = !(l_ != []))) _)), H', ⟨by have := HK1.out; first | omega | exact Nat.le_refl _⟩, ⟨by (with_reducible repeat (first | apply Kd.V_alloc | apply Kd.V_drewN | apply Kd.V_drew)); exact Kd.V_mono (Kd.V_far (p := ⟨gb303, 8, none⟩) (Kd.V_far (p := ⟨gb303, 7, none⟩) (Kd.V_far (p := ⟨gb303, 6, none⟩) (Kd.V_far (p := ⟨gb303, 5, none⟩) (Kd.V_far (p := ⟨gb303, 4, none⟩) (Kd.V_far (p := ⟨gb303, 3, none⟩) (Kd.V_far (p := ⟨gb303, 2, none⟩) (Kd.V_far (p := ⟨gb303, 1, none⟩) (Kd.V_far (p := ⟨gb303, 0, none⟩) (Kd.V_mono HO_5.out (fun k_ hk => (⟨hk, hk.2⟩ : _ ∧ k_ ≠ gb303))) (fun _ hk => hk.2) (.int .i64 ((rd_T68 l0_2 x7_1).f0))) (fun _ hk => hk.2) (.int .i64 ((rd_T68 l0_2 x7_1).f1))) (fun _ hk => hk.2) (.int .i64 ((rd_T68 l0_2 x7_1).f2))) (fun _ hk => hk.2) (.int .i64 ((rd_T68 l0_2 x7_1).f3))) (fun _ hk => hk.2) (.int .i64 ((rd_T68 l0_2 x7_1).f4))) (fun _ hk => hk.2) (.int .i64 ((rd_T68 l0_2 x7_1).f5))) (fun _ hk => hk.2) (.int .i64 ((rd_T68 l0_2 x7_1).f6))) (fun _ hk => hk.2) (.string ((rd_T68 l0_2 x7_1).f7))) (fun _ hk => hk.2) (.slice A302_8 ((rd_T68 l0_2 x7_1).f8).length c302_8)) (fun _ hk => ⟨hk.1.1.1, ⟨hk.1.1.2.1, ⟨hk.1.1.2.2, hk.1.2⟩⟩⟩)⟩, ⟨by (with_reducible repeat (first | apply Kd.R_alloc | apply Kd.R_drewN | apply Kd.R_drew)); exact Kd.R_mono (Kd.R_far (p := ⟨gb303, 8, none⟩) (Kd.R_far (p := ⟨gb303, 7, none⟩) (Kd.R_far (p := ⟨gb303, 6, none⟩) (Kd.R_far (p := ⟨gb303, 5, none⟩) (Kd.R_far (p := ⟨gb303, 4, none⟩) (Kd.R_far (p := ⟨gb303, 3, none⟩) (Kd.R_far (p := ⟨gb303, 2, none⟩) (Kd.R_far (p := ⟨gb303, 1, none⟩) (Kd.R_far (p := ⟨gb303, 0, none⟩) (Kd.R_types HO_6.out BK303.out (by decide)) (fun _ hk => hk.2) (.int .i64 ((rd_T68 l0_2 x7_1).f0))) (fun _ hk => hk.2) (.int .i64 ((rd_T68 l0_2 x7_1).f1))) (fun _ hk => hk.2) (.int .i64 ((rd_T68 l0_2 x7_1).f2))) (fun _ hk => hk.2) (.int .i64 ((rd_T68 l0_2 x7_1).f3))) (fun _ hk => hk.2) (.int .i64 ((rd_T68 l0_2 x7_1).f4))) (fun _ hk => hk.2) (.int .i64 ((rd_T68 l0_2 x7_1).f5))) (fun _ hk => hk.2) (.int .i64 ((rd_T68 l0_2 x7_1).f6))) (fun _ hk => hk.2) (.string ((rd_T68 l0_2 x7_1).f7))) (fun _ hk => hk.2) (.slice A302_8 ((rd_T68 l0_2 x7_1).f8).length c302_8)) (fun _ hk => hk.1)⟩, ⟨by (with_reducible repeat (first | refine blk_drewN ?_ _ | refine blk_drew ?_ | refine blk_alloc ?_ _)); refine blk_far ?_ NB298_303.out _; (with_reducible repeat (first | refine blk_drewN ?_ _ | refine blk_drew ?_ | refine blk_alloc ?_ _)); refine blk_far ?_ NB298_303.out _; (with_reducible repeat (first | refine blk_drewN ?_ _ | refine blk_drew ?_ | refine blk_alloc ?_ _)); refine blk_far ?_ NB298_303.out _; (with_reducible repeat (first | refine blk_drewN ?_ _ | refine blk_drew ?_ | refine blk_alloc ?_ _)); refine blk_far ?_ NB298_303.out _; (with_reducible repeat (first | refine blk_drewN ?_ _ | refine blk_drew ?_ | refine blk_alloc ?_ _)); refine blk_far ?_ NB298_303.out _; (with_reducible repeat (first | refine blk_drewN ?_ _ | refine blk_drew ?_ | refine blk_alloc ?_ _)); refine blk_far ?_ NB298_303.out _; (with_reducible repeat (first | refine blk_drewN ?_ _ | refine blk_drew ?_ | refine blk_alloc ?_ _)); refine blk_far ?_ NB298_303.out _; (with_reducible repeat (first | refine blk_drewN ?_ _ | refine blk_drew ?_ | refine blk_alloc ?_ _)); refine blk_far ?_ NB298_303.out _; (with_reducible repeat (first | refine blk_drewN ?_ _ | refine blk_drew ?_ | refine blk_alloc ?_ _)); refine blk_far ?_ NB298_303.out _; (with_reducible repeat (first | refine blk_drewN ?_ _ | refine blk_drew ?_ | refine blk_alloc ?_ _)); exact BK298.out⟩, ⟨by (with_reducible repeat (first | refine blk_drewN ?_ _ | refine blk_drew ?_ | refine blk_alloc ?_ _)); refine blk_put (cs := #[.int .i64 ((rd_T68 l0_2 x7_1).f0), .int .i64 ((rd_T68 l0_2 x7_1).f1), .int .i64 ((rd_T68 l0_2 x7_1).f2), .int .i64 ((rd_T68 l0_2 x7_1).f3), .int .i64 ((rd_T68 l0_2 x7_1).f4), .int .i64 ((rd_T68 l0_2 x7_1).f5), .int .i64 ((rd_T68 l0_2 x7_1).f6), .string ((rd_T68 l0_2 x7_1).f7), .slice none 0 0]) ?_ 8 _ rfl; (with_reducible repeat (first | refine blk_drewN ?_ _ | refine blk_drew ?_ | refine blk_alloc ?_ _)); refine blk_put (cs := #[.int .i64 ((rd_T68 l0_2 x7_1).f0), .int .i64 ((rd_T68 l0_2 x7_1).f1), .int .i64 ((rd_T68 l0_2 x7_1).f2), .int .i64 ((rd_T68 l0_2 x7_1).f3), .int .i64 ((rd_T68 l0_2 x7_1).f4), .int .i64 ((rd_T68 l0_2 x7_1).f5), .int .i64 ((rd_T68 l0_2 x7_1).f6), .string (⟨#[]⟩ : ByteArray), .slice none 0 0]) ?_ 7 _ rfl; (with_reducible repeat (first | refine blk_drewN ?_ _ | refine blk_drew ?_ | refine blk_alloc ?_ _)); refine blk_put (cs := #[.int .i64 ((rd_T68 l0_2 x7_1).f0), .int .i64 ((rd_T68 l0_2 x7_1).f1), .int .i64 ((rd_T68 l0_2 x7_1).f2), .int .i64 ((rd_T68 l0_2 x7_1).f3), .int .i64 ((rd_T68 l0_2 x7_1).f4), .int .i64 ((rd_T68 l0_2 x7_1).f5), .int .i64 0, .string (⟨#[]⟩ : ByteArray), .slice none 0 0]) ?_ 6 _ rfl; (with_reducible repeat (first | refine blk_drewN ?_ _ | refine blk_drew ?_ | refine blk_alloc ?_ _)); refine blk_put (cs := #[.int .i64 ((rd_T68 l0_2 x7_1).f0), .int .i64 ((rd_T68 l0_2 x7_1).f1), .int .i64 ((rd_T68 l0_2 x7_1).f2), .int .i64 ((rd_T68 l0_2 x7_1).f3), .int .i64 ((rd_T68 l0_2 x7_1).f4), .int .i64 0, .int .i64 0, .string (⟨#[]⟩ : ByteArray), .slice none 0 0]) ?_ 5 _ rfl; (with_reducible repeat (first | refine blk_drewN ?_ _ | refine blk_drew ?_ | refine blk_alloc ?_ _)); refine blk_put (cs := #[.int .i64 ((rd_T68 l0_2 x7_1).f0), .int .i64 ((rd_T68 l0_2 x7_1).f1), .int .i64 ((rd_T68 l0_2 x7_1).f2), .int .i64 ((rd_T68 l0_2 x7_1).f3), .int .i64 0, .int .i64 0, .int .i64 0, .string (⟨#[]⟩ : ByteArray), .slice none 0 0]) ?_ 4 _ rfl; (with_reducible repeat (first | refine blk_drewN ?_ _ | refine blk_drew ?_ | refine blk_alloc ?_ _)); refine blk_put (cs := #[.int .i64 ((rd_T68 l0_2 x7_1).f0), .int .i64 ((rd_T68 l0_2 x7_1).f1), .int .i64 ((rd_T68 l0_2 x7_1).f2), .int .i64 0, .int .i64 0, .int .i64 0, .int .i64 0, .string (⟨#[]⟩ : ByteArray), .slice none 0 0]) ?_ 3 _ rfl; (with_reducible repeat (first | refine blk_drewN ?_ _ | refine blk_drew ?_ | refine blk_alloc ?_ _)); refine blk_put (cs := #[.int .i64 ((rd_T68 l0_2 x7_1).f0), .int .i64 ((rd_T68 l0_2 x7_1).f1), .int .i64 0, .int .i64 0, .int .i64 0, .int .i64 0, .int .i64 0, .string (⟨#[]⟩ : ByteArray), .slice none 0 0]) ?_ 2 _ rfl; (with_reducible repeat (first | refine blk_drewN ?_ _ | refine blk_drew ?_ | refine blk_alloc ?_ _)); refine blk_put (cs := #[.int .i64 ((rd_T68 l0_2 x7_1).f0), .int .i64 0, .int .i64 0, .int .i64 0, .int .i64 0, .int .i64 0, .int .i64 0, .string (⟨#[]⟩ : ByteArray), .slice none 0 0]) ?_ 1 _ rfl; (with_reducible repeat (first | refine blk_drewN ?_ _ | refine blk_drew ?_ | refine blk_alloc ?_ _)); refine blk_put (cs := #[.int .i64 0, .int .i64 0, .int .i64 0, .int .i64 0, .int .i64 0, .int .i64 0, .int .i64 0, .string (⟨#[]⟩ : ByteArray), .slice none 0 0]) ?_ 0 _ rfl; (with_reducible repeat (first | refine blk_drewN ?_ _ | refine blk_drew ?_ | refine blk_alloc ?_ _)); exact BK303.out⟩, ⟨by repeat (first | (with_reducible first | exact HB.out | apply below_alloc | apply pw_below_drewN | apply below_drew1 | refine below_set ?_ GE298.out | refine below_set ?_ GE303.out) | exact HB.out)⟩⟩
                · replace c26 := Bool.eq_false_iff.mpr c26
                  subst c26
                  have H1 : (gumshoeref15_Edges.j1 k1 l1 x5_1 t299 x7_1 true a0_0 l0_1 l0_2 ((rd_T68 l0_2 x7_1).f0) ((rd_T68 l0_2 x7_1).f1) ((rd_T68 l0_2 x7_1).f2) ((rd_T68 l0_2 x7_1).f3) ((rd_T68 l0_2 x7_1).f4) ((rd_T68 l0_2 x7_1).f5) ((rd_T68 l0_2 x7_1).f6) ((rd_T68 l0_2 x7_1).f7) ((rd_T68 l0_2 x7_1).f8)) = some r := by rw [if_neg (show ¬ (false = true) by decide)] at H; exact H
                  clear H
                  have H := H1
                  clear H1
                  have H' := Aside0.mk H
                  clear H
                  have hnb33 := NB303_298.out
                  have hnc33 := NB298_303.out
                  have hcz34_0 : w11.cell? ⟨gb303, 0, none⟩ = some (.int .i64 0) := (blk_cell BK303.out 0).trans rfl
                  have hcz34_1 : w11.cell? ⟨gb303, 1, none⟩ = some (.int .i64 0) := (blk_cell BK303.out 1).trans rfl
                  have hcz34_2 : w11.cell? ⟨gb303, 2, none⟩ = some (.int .i64 0) := (blk_cell BK303.out 2).trans rfl
                  have hcz34_3 : w11.cell? ⟨gb303, 3, none⟩ = some (.int .i64 0) := (blk_cell BK303.out 3).trans rfl
                  have hcz34_4 : w11.cell? ⟨gb303, 4, none⟩ = some (.int .i64 0) := (blk_cell BK303.out 4).trans rfl
                  have hcz34_5 : w11.cell? ⟨gb303, 5, none⟩ = some (.int .i64 0) := (blk_cell BK303.out 5).trans rfl
                  have hcz34_6 : w11.cell? ⟨gb303, 6, none⟩ = some (.int .i64 0) := (blk_cell BK303.out 6).trans rfl
                  have hcz34_7 : w11.cell? ⟨gb303, 7, none⟩ = some (.string (⟨#[]⟩ : ByteArray)) := (blk_cell BK303.out 7).trans rfl
                  have hcz34_8 : w11.cell? ⟨gb303, 8, none⟩ = some (.slice none 0 0) := (blk_cell BK303.out 8).trans rfl
                  have hfz34_0 := blk_frozen BK303.out 0
                  have hfz34_1 := blk_frozen BK303.out 1
                  have hfz34_2 := blk_frozen BK303.out 2
                  have hfz34_3 := blk_frozen BK303.out 3
                  have hfz34_4 := blk_frozen BK303.out 4
                  have hfz34_5 := blk_frozen BK303.out 5
                  have hfz34_6 := blk_frozen BK303.out 6
                  have hfz34_7 := blk_frozen BK303.out 7
                  have hfz34_8 := blk_frozen BK303.out 8
                  go_wp2
                  go_meet
                  case rel => exact ⟨_, (true), (by first | rfl | (simp; done) | (simp [*]; done) | (simp [*]; exact (fun (l_ : List UInt8) => (by cases l_ <;> rfl : l_.isEmpty = !(l_ != []))) _)), H', ⟨by have := HK1.out; first | omega | exact Nat.le_refl _⟩, ⟨by (with_reducible repeat (first | apply Kd.V_alloc | apply Kd.V_drewN | apply Kd.V_drew)); exact Kd.V_mono (Kd.V_far (p := ⟨gb303, 8, none⟩) (Kd.V_far (p := ⟨gb303, 7, none⟩) (Kd.V_far (p := ⟨gb303, 6, none⟩) (Kd.V_far (p := ⟨gb303, 5, none⟩) (Kd.V_far (p := ⟨gb303, 4, none⟩) (Kd.V_far (p := ⟨gb303, 3, none⟩) (Kd.V_far (p := ⟨gb303, 2, none⟩) (Kd.V_far (p := ⟨gb303, 1, none⟩) (Kd.V_far (p := ⟨gb303, 0, none⟩) (Kd.V_mono HO_5.out (fun k_ hk => (⟨hk, hk.2⟩ : _ ∧ k_ ≠ gb303))) (fun _ hk => hk.2) (.int .i64 ((rd_T68 l0_2 x7_1).f0))) (fun _ hk => hk.2) (.int .i64 ((rd_T68 l0_2 x7_1).f1))) (fun _ hk => hk.2) (.int .i64 ((rd_T68 l0_2 x7_1).f2))) (fun _ hk => hk.2) (.int .i64 ((rd_T68 l0_2 x7_1).f3))) (fun _ hk => hk.2) (.int .i64 ((rd_T68 l0_2 x7_1).f4))) (fun _ hk => hk.2) (.int .i64 ((rd_T68 l0_2 x7_1).f5))) (fun _ hk => hk.2) (.int .i64 ((rd_T68 l0_2 x7_1).f6))) (fun _ hk => hk.2) (.string ((rd_T68 l0_2 x7_1).f7))) (fun _ hk => hk.2) (.slice A302_8 ((rd_T68 l0_2 x7_1).f8).length c302_8)) (fun _ hk => ⟨hk.1.1.1, ⟨hk.1.1.2.1, ⟨hk.1.1.2.2, hk.1.2⟩⟩⟩)⟩, ⟨by (with_reducible repeat (first | apply Kd.R_alloc | apply Kd.R_drewN | apply Kd.R_drew)); exact Kd.R_mono (Kd.R_far (p := ⟨gb303, 8, none⟩) (Kd.R_far (p := ⟨gb303, 7, none⟩) (Kd.R_far (p := ⟨gb303, 6, none⟩) (Kd.R_far (p := ⟨gb303, 5, none⟩) (Kd.R_far (p := ⟨gb303, 4, none⟩) (Kd.R_far (p := ⟨gb303, 3, none⟩) (Kd.R_far (p := ⟨gb303, 2, none⟩) (Kd.R_far (p := ⟨gb303, 1, none⟩) (Kd.R_far (p := ⟨gb303, 0, none⟩) (Kd.R_types HO_6.out BK303.out (by decide)) (fun _ hk => hk.2) (.int .i64 ((rd_T68 l0_2 x7_1).f0))) (fun _ hk => hk.2) (.int .i64 ((rd_T68 l0_2 x7_1).f1))) (fun _ hk => hk.2) (.int .i64 ((rd_T68 l0_2 x7_1).f2))) (fun _ hk => hk.2) (.int .i64 ((rd_T68 l0_2 x7_1).f3))) (fun _ hk => hk.2) (.int .i64 ((rd_T68 l0_2 x7_1).f4))) (fun _ hk => hk.2) (.int .i64 ((rd_T68 l0_2 x7_1).f5))) (fun _ hk => hk.2) (.int .i64 ((rd_T68 l0_2 x7_1).f6))) (fun _ hk => hk.2) (.string ((rd_T68 l0_2 x7_1).f7))) (fun _ hk => hk.2) (.slice A302_8 ((rd_T68 l0_2 x7_1).f8).length c302_8)) (fun _ hk => hk.1)⟩, ⟨by (with_reducible repeat (first | refine blk_drewN ?_ _ | refine blk_drew ?_ | refine blk_alloc ?_ _)); refine blk_far ?_ NB298_303.out _; (with_reducible repeat (first | refine blk_drewN ?_ _ | refine blk_drew ?_ | refine blk_alloc ?_ _)); refine blk_far ?_ NB298_303.out _; (with_reducible repeat (first | refine blk_drewN ?_ _ | refine blk_drew ?_ | refine blk_alloc ?_ _)); refine blk_far ?_ NB298_303.out _; (with_reducible repeat (first | refine blk_drewN ?_ _ | refine blk_drew ?_ | refine blk_alloc ?_ _)); refine blk_far ?_ NB298_303.out _; (with_reducible repeat (first | refine blk_drewN ?_ _ | refine blk_drew ?_ | refine blk_alloc ?_ _)); refine blk_far ?_ NB298_303.out _; (with_reducible repeat (first | refine blk_drewN ?_ _ | refine blk_drew ?_ | refine blk_alloc ?_ _)); refine blk_far ?_ NB298_303.out _; (with_reducible repeat (first | refine blk_drewN ?_ _ | refine blk_drew ?_ | refine blk_alloc ?_ _)); refine blk_far ?_ NB298_303.out _; (with_reducible repeat (first | refine blk_drewN ?_ _ | refine blk_drew ?_ | refine blk_alloc ?_ _)); refine blk_far ?_ NB298_303.out _; (with_reducible repeat (first | refine blk_drewN ?_ _ | refine blk_drew ?_ | refine blk_alloc ?_ _)); refine blk_far ?_ NB298_303.out _; (with_reducible repeat (first | refine blk_drewN ?_ _ | refine blk_drew ?_ | refine blk_alloc ?_ _)); exact BK298.out⟩, ⟨by (with_reducible repeat (first | refine blk_drewN ?_ _ | refine blk_drew ?_ | refine blk_alloc ?_ _)); refine blk_put (cs := #[.int .i64 ((rd_T68 l0_2 x7_1).f0), .int .i64 ((rd_T68 l0_2 x7_1).f1), .int .i64 ((rd_T68 l0_2 x7_1).f2), .int .i64 ((rd_T68 l0_2 x7_1).f3), .int .i64 ((rd_T68 l0_2 x7_1).f4), .int .i64 ((rd_T68 l0_2 x7_1).f5), .int .i64 ((rd_T68 l0_2 x7_1).f6), .string ((rd_T68 l0_2 x7_1).f7), .slice none 0 0]) ?_ 8 _ rfl; (with_reducible repeat (first | refine blk_drewN ?_ _ | refine blk_drew ?_ | refine blk_alloc ?_ _)); refine blk_put (cs := #[.int .i64 ((rd_T68 l0_2 x7_1).f0), .int .i64 ((rd_T68 l0_2 x7_1).f1), .int .i64 ((rd_T68 l0_2 x7_1).f2), .int .i64 ((rd_T68 l0_2 x7_1).f3), .int .i64 ((rd_T68 l0_2 x7_1).f4), .int .i64 ((rd_T68 l0_2 x7_1).f5), .int .i64 ((rd_T68 l0_2 x7_1).f6), .string (⟨#[]⟩ : ByteArray), .slice none 0 0]) ?_ 7 _ rfl; (with_reducible repeat (first | refine blk_drewN ?_ _ | refine blk_drew ?_ | refine blk_alloc ?_ _)); refine blk_put (cs := #[.int .i64 ((rd_T68 l0_2 x7_1).f0), .int .i64 ((rd_T68 l0_2 x7_1).f1), .int .i64 ((rd_T68 l0_2 x7_1).f2), .int .i64 ((rd_T68 l0_2 x7_1).f3), .int .i64 ((rd_T68 l0_2 x7_1).f4), .int .i64 ((rd_T68 l0_2 x7_1).f5), .int .i64 0, .string (⟨#[]⟩ : ByteArray), .slice none 0 0]) ?_ 6 _ rfl; (with_reducible repeat (first | refine blk_drewN ?_ _ | refine blk_drew ?_ | refine blk_alloc ?_ _)); refine blk_put (cs := #[.int .i64 ((rd_T68 l0_2 x7_1).f0), .int .i64 ((rd_T68 l0_2 x7_1).f1), .int .i64 ((rd_T68 l0_2 x7_1).f2), .int .i64 ((rd_T68 l0_2 x7_1).f3), .int .i64 ((rd_T68 l0_2 x7_1).f4), .int .i64 0, .int .i64 0, .string (⟨#[]⟩ : ByteArray), .slice none 0 0]) ?_ 5 _ rfl; (with_reducible repeat (first | refine blk_drewN ?_ _ | refine blk_drew ?_ | refine blk_alloc ?_ _)); refine blk_put (cs := #[.int .i64 ((rd_T68 l0_2 x7_1).f0), .int .i64 ((rd_T68 l0_2 x7_1).f1), .int .i64 ((rd_T68 l0_2 x7_1).f2), .int .i64 ((rd_T68 l0_2 x7_1).f3), .int .i64 0, .int .i64 0, .int .i64 0, .string (⟨#[]⟩ : ByteArray), .slice none 0 0]) ?_ 4 _ rfl; (with_reducible repeat (first | refine blk_drewN ?_ _ | refine blk_drew ?_ | refine blk_alloc ?_ _)); refine blk_put (cs := #[.int .i64 ((rd_T68 l0_2 x7_1).f0), .int .i64 ((rd_T68 l0_2 x7_1).f1), .int .i64 ((rd_T68 l0_2 x7_1).f2), .int .i64 0, .int .i64 0, .int .i64 0, .int .i64 0, .string (⟨#[]⟩ : ByteArray), .slice none 0 0]) ?_ 3 _ rfl; (with_reducible repeat (first | refine blk_drewN ?_ _ | refine blk_drew ?_ | refine blk_alloc ?_ _)); refine blk_put (cs := #[.int .i64 ((rd_T68 l0_2 x7_1).f0), .int .i64 ((rd_T68 l0_2 x7_1).f1), .int .i64 0, .int .i64 0, .int .i64 0, .int .i64 0, .int .i64 0, .string (⟨#[]⟩ : ByteArray), .slice none 0 0]) ?_ 2 _ rfl; (with_reducible repeat (first | refine blk_drewN ?_ _ | refine blk_drew ?_ | refine blk_alloc ?_ _)); refine blk_put (cs := #[.int .i64 ((rd_T68 l0_2 x7_1).f0), .int .i64 0, .int .i64 0, .int .i64 0, .int .i64 0, .int .i64 0, .int .i64 0, .string (⟨#[]⟩ : ByteArray), .slice none 0 0]) ?_ 1 _ rfl; (with_reducible repeat (first | refine blk_drewN ?_ _ | refine blk_drew ?_ | refine blk_alloc ?_ _)); refine blk_put (cs := #[.int .i64 0, .int .i64 0, .int .i64 0, .int .i64 0, .int .i64 0, .int .i64 0, .int .i64 0, .string (⟨#[]⟩ : ByteArray), .slice none 0 0]) ?_ 0 _ rfl; (with_reducible repeat (first | refine blk_drewN ?_ _ | refine blk_drew ?_ | refine blk_alloc ?_ _)); exact BK303.out⟩, ⟨by repeat (first | (with_reducible first | exact HB.out | apply below_alloc | apply pw_below_drewN | apply below_drew1 | refine below_set ?_ GE298.out | refine below_set ?_ GE303.out) | exact HB.out)⟩⟩
              · rw [if_neg c25] at H
                have c25b0 : (((rd_T68 l0_2 x7_1).f0) == 9) = false := beq_eq_false_iff_ne.mpr c25
                have c25b1 : (((rd_T68 l0_2 x7_1).f0) != 9) = true := bne_iff_ne.mpr c25
                have H' := Aside0.mk H
                clear H
                have hnb35 := NB303_298.out
                have hnc35 := NB298_303.out
                have hcz36_0 : w11.cell? ⟨gb303, 0, none⟩ = some (.int .i64 0) := (blk_cell BK303.out 0).trans rfl
                have hcz36_1 : w11.cell? ⟨gb303, 1, none⟩ = some (.int .i64 0) := (blk_cell BK303.out 1).trans rfl
                have hcz36_2 : w11.cell? ⟨gb303, 2, none⟩ = some (.int .i64 0) := (blk_cell BK303.out 2).trans rfl
                have hcz36_3 : w11.cell? ⟨gb303, 3, none⟩ = some (.int .i64 0) := (blk_cell BK303.out 3).trans rfl
                have hcz36_4 : w11.cell? ⟨gb303, 4, none⟩ = some (.int .i64 0) := (blk_cell BK303.out 4).trans rfl
                have hcz36_5 : w11.cell? ⟨gb303, 5, none⟩ = some (.int .i64 0) := (blk_cell BK303.out 5).trans rfl
                have hcz36_6 : w11.cell? ⟨gb303, 6, none⟩ = some (.int .i64 0) := (blk_cell BK303.out 6).trans rfl
                have hcz36_7 : w11.cell? ⟨gb303, 7, none⟩ = some (.string (⟨#[]⟩ : ByteArray)) := (blk_cell BK303.out 7).trans rfl
                have hcz36_8 : w11.cell? ⟨gb303, 8, none⟩ = some (.slice none 0 0) := (blk_cell BK303.out 8).trans rfl
                have hfz36_0 := blk_frozen BK303.out 0
                have hfz36_1 := blk_frozen BK303.out 1
                have hfz36_2 := blk_frozen BK303.out 2
                have hfz36_3 := blk_frozen BK303.out 3
                have hfz36_4 := blk_frozen BK303.out 4
                have hfz36_5 := blk_frozen BK303.out 5
                have hfz36_6 := blk_frozen BK303.out 6
                have hfz36_7 := blk_frozen BK303.out 7
                have hfz36_8 := blk_frozen BK303.out 8
                go_wp2
                go_meet
                case rel => exact ⟨_, (true), (by first | rfl | (simp; done) | (simp [*]; done) | (simp [*]; exact (fun (l_ : List UInt8) => (by cases l_ <;> rfl : l_.isEmpty = !(l_ != []))) _)), H', ⟨by have := HK1.out; first | omega | exact Nat.le_refl _⟩, ⟨by (with_reducible repeat (first | apply Kd.V_alloc | apply Kd.V_drewN | apply Kd.V_drew)); exact Kd.V_mono (Kd.V_far (p := ⟨gb303, 8, none⟩) (Kd.V_far (p := ⟨gb303, 7, none⟩) (Kd.V_far (p := ⟨gb303, 6, none⟩) (Kd.V_far (p := ⟨gb303, 5, none⟩) (Kd.V_far (p := ⟨gb303, 4, none⟩) (Kd.V_far (p := ⟨gb303, 3, none⟩) (Kd.V_far (p := ⟨gb303, 2, none⟩) (Kd.V_far (p := ⟨gb303, 1, none⟩) (Kd.V_far (p := ⟨gb303, 0, none⟩) (Kd.V_mono HO_5.out (fun k_ hk => (⟨hk, hk.2⟩ : _ ∧ k_ ≠ gb303))) (fun _ hk => hk.2) (.int .i64 ((rd_T68 l0_2 x7_1).f0))) (fun _ hk => hk.2) (.int .i64 ((rd_T68 l0_2 x7_1).f1))) (fun _ hk => hk.2) (.int .i64 ((rd_T68 l0_2 x7_1).f2))) (fun _ hk => hk.2) (.int .i64 ((rd_T68 l0_2 x7_1).f3))) (fun _ hk => hk.2) (.int .i64 ((rd_T68 l0_2 x7_1).f4))) (fun _ hk => hk.2) (.int .i64 ((rd_T68 l0_2 x7_1).f5))) (fun _ hk => hk.2) (.int .i64 ((rd_T68 l0_2 x7_1).f6))) (fun _ hk => hk.2) (.string ((rd_T68 l0_2 x7_1).f7))) (fun _ hk => hk.2) (.slice A302_8 ((rd_T68 l0_2 x7_1).f8).length c302_8)) (fun _ hk => ⟨hk.1.1.1, ⟨hk.1.1.2.1, ⟨hk.1.1.2.2, hk.1.2⟩⟩⟩)⟩, ⟨by (with_reducible repeat (first | apply Kd.R_alloc | apply Kd.R_drewN | apply Kd.R_drew)); exact Kd.R_mono (Kd.R_far (p := ⟨gb303, 8, none⟩) (Kd.R_far (p := ⟨gb303, 7, none⟩) (Kd.R_far (p := ⟨gb303, 6, none⟩) (Kd.R_far (p := ⟨gb303, 5, none⟩) (Kd.R_far (p := ⟨gb303, 4, none⟩) (Kd.R_far (p := ⟨gb303, 3, none⟩) (Kd.R_far (p := ⟨gb303, 2, none⟩) (Kd.R_far (p := ⟨gb303, 1, none⟩) (Kd.R_far (p := ⟨gb303, 0, none⟩) (Kd.R_types HO_6.out BK303.out (by decide)) (fun _ hk => hk.2) (.int .i64 ((rd_T68 l0_2 x7_1).f0))) (fun _ hk => hk.2) (.int .i64 ((rd_T68 l0_2 x7_1).f1))) (fun _ hk => hk.2) (.int .i64 ((rd_T68 l0_2 x7_1).f2))) (fun _ hk => hk.2) (.int .i64 ((rd_T68 l0_2 x7_1).f3))) (fun _ hk => hk.2) (.int .i64 ((rd_T68 l0_2 x7_1).f4))) (fun _ hk => hk.2) (.int .i64 ((rd_T68 l0_2 x7_1).f5))) (fun _ hk => hk.2) (.int .i64 ((rd_T68 l0_2 x7_1).f6))) (fun _ hk => hk.2) (.string ((rd_T68 l0_2 x7_1).f7))) (fun _ hk => hk.2) (.slice A302_8 ((rd_T68 l0_2 x7_1).f8).length c302_8)) (fun _ hk => hk.1)⟩, ⟨by (with_reducible repeat (first | refine blk_drewN ?_ _ | refine blk_drew ?_ | refine blk_alloc ?_ _)); refine blk_far ?_ NB298_303.out _; (with_reducible repeat (first | refine blk_drewN ?_ _ | refine blk_drew ?_ | refine blk_alloc ?_ _)); refine blk_far ?_ NB298_303.out _; (with_reducible repeat (first | refine blk_drewN ?_ _ | refine blk_drew ?_ | refine blk_alloc ?_ _)); refine blk_far ?_ NB298_303.out _; (with_reducible repeat (first | refine blk_drewN ?_ _ | refine blk_drew ?_ | refine blk_alloc ?_ _)); refine blk_far ?_ NB298_303.out _; (with_reducible repeat (first | refine blk_drewN ?_ _ | refine blk_drew ?_ | refine blk_alloc ?_ _)); refine blk_far ?_ NB298_303.out _; (with_reducible repeat (first | refine blk_drewN ?_ _ | refine blk_drew ?_ | refine blk_alloc ?_ _)); refine blk_far ?_ NB298_303.out _; (with_reducible repeat (first | refine blk_drewN ?_ _ | refine blk_drew ?_ | refine blk_alloc ?_ _)); refine blk_far ?_ NB298_303.out _; (with_reducible repeat (first | refine blk_drewN ?_ _ | refine blk_drew ?_ | refine blk_alloc ?_ _)); refine blk_far ?_ NB298_303.out _; (with_reducible repeat (first | refine blk_drewN ?_ _ | refine blk_drew ?_ | refine blk_alloc ?_ _)); refine blk_far ?_ NB298_303.out _; (with_reducible repeat (first | refine blk_drewN ?_ _ | refine blk_drew ?_ | refine blk_alloc ?_ _)); exact BK298.out⟩, ⟨by (with_reducible repeat (first | refine blk_drewN ?_ _ | refine blk_drew ?_ | refine blk_alloc ?_ _)); refine blk_put (cs := #[.int .i64 ((rd_T68 l0_2 x7_1).f0), .int .i64 ((rd_T68 l0_2 x7_1).f1), .int .i64 ((rd_T68 l0_2 x7_1).f2), .int .i64 ((rd_T68 l0_2 x7_1).f3), .int .i64 ((rd_T68 l0_2 x7_1).f4), .int .i64 ((rd_T68 l0_2 x7_1).f5), .int .i64 ((rd_T68 l0_2 x7_1).f6), .string ((rd_T68 l0_2 x7_1).f7), .slice none 0 0]) ?_ 8 _ rfl; (with_reducible repeat (first | refine blk_drewN ?_ _ | refine blk_drew ?_ | refine blk_alloc ?_ _)); refine blk_put (cs := #[.int .i64 ((rd_T68 l0_2 x7_1).f0), .int .i64 ((rd_T68 l0_2 x7_1).f1), .int .i64 ((rd_T68 l0_2 x7_1).f2), .int .i64 ((rd_T68 l0_2 x7_1).f3), .int .i64 ((rd_T68 l0_2 x7_1).f4), .int .i64 ((rd_T68 l0_2 x7_1).f5), .int .i64 ((rd_T68 l0_2 x7_1).f6), .string (⟨#[]⟩ : ByteArray), .slice none 0 0]) ?_ 7 _ rfl; (with_reducible repeat (first | refine blk_drewN ?_ _ | refine blk_drew ?_ | refine blk_alloc ?_ _)); refine blk_put (cs := #[.int .i64 ((rd_T68 l0_2 x7_1).f0), .int .i64 ((rd_T68 l0_2 x7_1).f1), .int .i64 ((rd_T68 l0_2 x7_1).f2), .int .i64 ((rd_T68 l0_2 x7_1).f3), .int .i64 ((rd_T68 l0_2 x7_1).f4), .int .i64 ((rd_T68 l0_2 x7_1).f5), .int .i64 0, .string (⟨#[]⟩ : ByteArray), .slice none 0 0]) ?_ 6 _ rfl; (with_reducible repeat (first | refine blk_drewN ?_ _ | refine blk_drew ?_ | refine blk_alloc ?_ _)); refine blk_put (cs := #[.int .i64 ((rd_T68 l0_2 x7_1).f0), .int .i64 ((rd_T68 l0_2 x7_1).f1), .int .i64 ((rd_T68 l0_2 x7_1).f2), .int .i64 ((rd_T68 l0_2 x7_1).f3), .int .i64 ((rd_T68 l0_2 x7_1).f4), .int .i64 0, .int .i64 0, .string (⟨#[]⟩ : ByteArray), .slice none 0 0]) ?_ 5 _ rfl; (with_reducible repeat (first | refine blk_drewN ?_ _ | refine blk_drew ?_ | refine blk_alloc ?_ _)); refine blk_put (cs := #[.int .i64 ((rd_T68 l0_2 x7_1).f0), .int .i64 ((rd_T68 l0_2 x7_1).f1), .int .i64 ((rd_T68 l0_2 x7_1).f2), .int .i64 ((rd_T68 l0_2 x7_1).f3), .int .i64 0, .int .i64 0, .int .i64 0, .string (⟨#[]⟩ : ByteArray), .slice none 0 0]) ?_ 4 _ rfl; (with_reducible repeat (first | refine blk_drewN ?_ _ | refine blk_drew ?_ | refine blk_alloc ?_ _)); refine blk_put (cs := #[.int .i64 ((rd_T68 l0_2 x7_1).f0), .int .i64 ((rd_T68 l0_2 x7_1).f1), .int .i64 ((rd_T68 l0_2 x7_1).f2), .int .i64 0, .int .i64 0, .int .i64 0, .int .i64 0, .string (⟨#[]⟩ : ByteArray), .slice none 0 0]) ?_ 3 _ rfl; (with_reducible repeat (first | refine blk_drewN ?_ _ | refine blk_drew ?_ | refine blk_alloc ?_ _)); refine blk_put (cs := #[.int .i64 ((rd_T68 l0_2 x7_1).f0), .int .i64 ((rd_T68 l0_2 x7_1).f1), .int .i64 0, .int .i64 0, .int .i64 0, .int .i64 0, .int .i64 0, .string (⟨#[]⟩ : ByteArray), .slice none 0 0]) ?_ 2 _ rfl; (with_reducible repeat (first | refine blk_drewN ?_ _ | refine blk_drew ?_ | refine blk_alloc ?_ _)); refine blk_put (cs := #[.int .i64 ((rd_T68 l0_2 x7_1).f0), .int .i64 0, .int .i64 0, .int .i64 0, .int .i64 0, .int .i64 0, .int .i64 0, .string (⟨#[]⟩ : ByteArray), .slice none 0 0]) ?_ 1 _ rfl; (with_reducible repeat (first | refine blk_drewN ?_ _ | refine blk_drew ?_ | refine blk_alloc ?_ _)); refine blk_put (cs := #[.int .i64 0, .int .i64 0, .int .i64 0, .int .i64 0, .int .i64 0, .int .i64 0, .int .i64 0, .string (⟨#[]⟩ : ByteArray), .slice none 0 0]) ?_ 0 _ rfl; (with_reducible repeat (first | refine blk_drewN ?_ _ | refine blk_drew ?_ | refine blk_alloc ?_ _)); exact BK303.out⟩, ⟨by repeat (first | (with_reducible first | exact HB.out | apply below_alloc | apply pw_below_drewN | apply below_drew1 | refine below_set ?_ GE298.out | refine below_set ?_ GE303.out) | exact HB.out)⟩⟩
          case rest =>
            clear HC9
            try clear c1
            try clear c2
            try clear p2
            try clear c3
            try clear p3
            try clear q3
            try clear hx3
            try clear c6
            try clear c6b0
            try clear c7
            try clear c7b0
            try clear c10
            try clear c12
            try clear c15
            try clear c15b0
            try clear c15b1
            try clear c16
            try clear c17
            try clear c17b0
            try clear c18
            try clear c20
            try clear c23
            try clear c24
            try clear c25
            try clear c25b0
            try clear c25b1
            try clear c26
            try clear c27
            try clear c27b0
            try clear c28
            try clear c30
            try clear p30
            try clear q30
            try clear hx30
            try clear c33
            try clear c35
            try clear hcz10_0
            try clear hcz10_1
            try clear hcz10_2
            try clear hcz13_0
            try clear hcz13_1
            try clear hcz13_2
            try clear hcz13_3
            try clear hcz13_4
            try clear hcz13_5
            try clear hcz13_6
            try clear hcz13_7
            try clear hcz13_8
            try clear hcz19_0
            try clear hcz19_1
            try clear hcz19_2
            try clear hcz19_3
            try clear hcz19_4
            try clear hcz19_5
            try clear hcz19_6
            try clear hcz19_7
            try clear hcz19_8
            try clear hcz21_0
            try clear hcz21_1
            try clear hcz21_2
            try clear hcz21_3
            try clear hcz21_4
            try clear hcz21_5
            try clear hcz21_6
            try clear hcz21_7
            try clear hcz21_8
            try clear hcz22_0
            try clear hcz22_1
            try clear hcz22_2
            try clear hcz24_0
            try clear hcz24_1
            try clear hcz24_2
            try clear hcz24_3
            try clear hcz24_4
            try clear hcz24_5
            try clear hcz24_6
            try clear hcz24_7
            try clear hcz24_8
            try clear hcz29_0
            try clear hcz29_1
            try clear hcz29_2
            try clear hcz29_3
            try clear hcz29_4
            try clear hcz29_5
            try clear hcz29_6
            try clear hcz29_7
            try clear hcz29_8
            try clear hcz31_0
            try clear hcz31_1
            try clear hcz31_2
            try clear hcz31_3
            try clear hcz31_4
            try clear hcz31_5
            try clear hcz31_6
            try clear hcz31_7
            try clear hcz31_8
            try clear hcz32_0
            try clear hcz32_1
            try clear hcz32_2
            try clear hcz34_0
            try clear hcz34_1
            try clear hcz34_2
            try clear hcz34_3
            try clear hcz34_4
            try clear hcz34_5
            try clear hcz34_6
            try clear hcz34_7
            try clear hcz34_8
            try clear hcz36_0
            try clear hcz36_1
            try clear hcz36_2
            try clear hcz36_3
            try clear hcz36_4
            try clear hcz36_5
            try clear hcz36_6
            try clear hcz36_7
            try clear hcz36_8
            try clear hfz10_0
            try clear hfz10_1
            try clear hfz10_2
            try clear hfz13_0
            try clear hfz13_1
            try clear hfz13_2
            try clear hfz13_3
            try clear hfz13_4
            try clear hfz13_5
            try clear hfz13_6
            try clear hfz13_7
            try clear hfz13_8
            try clear hfz19_0
            try clear hfz19_1
            try clear hfz19_2
            try clear hfz19_3
            try clear hfz19_4
            try clear hfz19_5
            try clear hfz19_6
            try clear hfz19_7
            try clear hfz19_8
            try clear hfz21_0
            try clear hfz21_1
            try clear hfz21_2
            try clear hfz21_3
            try clear hfz21_4
            try clear hfz21_5
            try clear hfz21_6
            try clear hfz21_7
            try clear hfz21_8
            try clear hfz22_0
            try clear hfz22_1
            try clear hfz22_2
            try clear hfz24_0
            try clear hfz24_1
            try clear hfz24_2
            try clear hfz24_3
            try clear hfz24_4
            try clear hfz24_5
            try clear hfz24_6
            try clear hfz24_7
            try clear hfz24_8
            try clear hfz29_0
            try clear hfz29_1
            try clear hfz29_2
            try clear hfz29_3
            try clear hfz29_4
            try clear hfz29_5
            try clear hfz29_6
            try clear hfz29_7
            try clear hfz29_8
            try clear hfz31_0
            try clear hfz31_1
            try clear hfz31_2
            try clear hfz31_3
            try clear hfz31_4
            try clear hfz31_5
            try clear hfz31_6
            try clear hfz31_7
            try clear hfz31_8
            try clear hfz32_0
            try clear hfz32_1
            try clear hfz32_2
            try clear hfz34_0
            try clear hfz34_1
            try clear hfz34_2
            try clear hfz34_3
            try clear hfz34_4
            try clear hfz34_5
            try clear hfz34_6
            try clear hfz34_7
            try clear hfz34_8
            try clear hfz36_0
            try clear hfz36_1
            try clear hfz36_2
            try clear hfz36_3
            try clear hfz36_4
            try clear hfz36_5
            try clear hfz36_6
            try clear hfz36_7
            try clear hfz36_8
            try clear hx302_0
            try clear hx302_1
            try clear hx302_2
            try clear hx302_3
            try clear hx302_4
            try clear hx302_5
            try clear hx302_6
            try clear hx302_7
            try clear hx302_8
            try clear p2
            try clear p302
            try clear q302
            obtain ⟨kq, x55_8, rfl, HA, HJ8, HO_5, HO_6, BK298, BK303, HB⟩ := hcut
            cases kq with
            | zero => exact absurd HA.out (by simp [gumshoeref15_Edges.j1])
            | succ kj8 =>
              have H := HA.out
              clear HA
              simp only [gumshoeref15_Edges.j1] at H
              by_cases c37 : x55_8 = true
              · subst c37
                have H1 : (gumshoeref15_Edges.l0 kj8 l1 x5_1 t299 (wrap64 (x7_1 + 1)) a0_0 l0_1 l0_2) = some r := by rw [if_pos rfl] at H; exact H
                clear H
                have H := H1
                clear H1
                have H' := Aside0.mk H
                clear H
                go_wp2
                go_roundg kj8
                case measure => have := HK1.out; have := HJ8.out; omega
                case rel => exact ⟨(x5_1), (wrap64 (x7_1 + 1)), (by first | rfl | (simp; done) | (simp [*]; done) | (simp [*]; exact (fun (l_ : List UInt8) => (by cases l_ <;> rfl : l_.isEmpty = !(l_ != []))) _)), H', ⟨by have := HK1.out; have := HJ8.out; omega⟩, ⟨by (with_reducible repeat (first | apply Kd.V_alloc | apply Kd.V_drewN | apply Kd.V_drew)); exact Kd.V_mono HO_5.out (fun _ hk => ⟨hk.1, ⟨hk.2.1, hk.2.2.1⟩⟩)⟩, ⟨by (with_reducible repeat (first | apply Kd.R_alloc | apply Kd.R_drewN | apply Kd.R_drew)); exact HO_6.out⟩, ⟨by (with_reducible repeat (first | refine blk_drewN ?_ _ | refine blk_drew ?_ | refine blk_alloc ?_ _)); exact BK298.out⟩, ⟨by repeat (first | (with_reducible first | exact HB.out | apply below_alloc | apply pw_below_drewN | apply below_drew1 | refine below_set ?_ GE298.out | refine below_set ?_ GE303.out) | exact HB.out)⟩⟩
              · replace c37 := Bool.eq_false_iff.mpr c37
                subst c37
                have H1 : ((gumshoeref15_Callees.f kj8 l1 ((rd_T68 l0_2 x7_1).f6)).bind fun t305 => (gumshoeref15_Edges.l1 kj8 l1 x5_1 t299 x7_1 t305 1 a0_0 l0_1 l0_2 ((rd_T68 l0_2 x7_1).f0) ((rd_T68 l0_2 x7_1).f1) ((rd_T68 l0_2 x7_1).f2) ((rd_T68 l0_2 x7_1).f3) ((rd_T68 l0_2 x7_1).f4) ((rd_T68 l0_2 x7_1).f5) ((rd_T68 l0_2 x7_1).f6) ((rd_T68 l0_2 x7_1).f7) ((rd_T68 l0_2 x7_1).f8))) = some r := by rw [if_neg (show ¬ (false = true) by decide)] at H; exact H
                clear H
                have H := H1
                clear H1
                replace H := Option.bind_eq_some_iff.mp H
                obtain ⟨t305, A380, H⟩ := H
                replace H : (gumshoeref15_Edges.l1 kj8 l1 x5_1 t299 x7_1 t305 1 a0_0 l0_1 l0_2 ((rd_T68 l0_2 x7_1).f0) ((rd_T68 l0_2 x7_1).f1) ((rd_T68 l0_2 x7_1).f2) ((rd_T68 l0_2 x7_1).f3) ((rd_T68 l0_2 x7_1).f4) ((rd_T68 l0_2 x7_1).f5) ((rd_T68 l0_2 x7_1).f6) ((rd_T68 l0_2 x7_1).f7) ((rd_T68 l0_2 x7_1).f8)) = some r := H
                have A38 := Aside0.mk A380
                clear A380
                have H' := Aside0.mk H
                clear H
                have hnb39 := NB303_298.out
                have hnc39 := NB298_303.out
                have hcz40_0 : wc.cell? ⟨gb303, 0, none⟩ = some (.int .i64 ((rd_T68 l0_2 x7_1).f0)) := (blk_cell BK303.out 0).trans rfl
                have hcz40_1 : wc.cell? ⟨gb303, 1, none⟩ = some (.int .i64 ((rd_T68 l0_2 x7_1).f1)) := (blk_cell BK303.out 1).trans rfl
                have hcz40_2 : wc.cell? ⟨gb303, 2, none⟩ = some (.int .i64 ((rd_T68 l0_2 x7_1).f2)) := (blk_cell BK303.out 2).trans rfl
                have hcz40_3 : wc.cell? ⟨gb303, 3, none⟩ = some (.int .i64 ((rd_T68 l0_2 x7_1).f3)) := (blk_cell BK303.out 3).trans rfl
                have hcz40_4 : wc.cell? ⟨gb303, 4, none⟩ = some (.int .i64 ((rd_T68 l0_2 x7_1).f4)) := (blk_cell BK303.out 4).trans rfl
                have hcz40_5 : wc.cell? ⟨gb303, 5, none⟩ = some (.int .i64 ((rd_T68 l0_2 x7_1).f5)) := (blk_cell BK303.out 5).trans rfl
                have hcz40_6 : wc.cell? ⟨gb303, 6, none⟩ = some (.int .i64 ((rd_T68 l0_2 x7_1).f6)) := (blk_cell BK303.out 6).trans rfl
                have hcz40_7 : wc.cell? ⟨gb303, 7, none⟩ = some (.string ((rd_T68 l0_2 x7_1).f7)) := (blk_cell BK303.out 7).trans rfl
                have hcz40_8 : wc.cell? ⟨gb303, 8, none⟩ = some (.slice A302_8 ((rd_T68 l0_2 x7_1).f8).length c302_8) := (blk_cell BK303.out 8).trans rfl
                have hfz40_0 := blk_frozen BK303.out 0
                have hfz40_1 := blk_frozen BK303.out 1
                have hfz40_2 := blk_frozen BK303.out 2
                have hfz40_3 := blk_frozen BK303.out 3
                have hfz40_4 := blk_frozen BK303.out 4
                have hfz40_5 := blk_frozen BK303.out 5
                have hfz40_6 := blk_frozen BK303.out 6
                have hfz40_7 := blk_frozen BK303.out 7
                have hfz40_8 := blk_frozen BK303.out 8
                go_wp2_with (first | ((with_reducible refine gate_callee (f := 18) rfl ?_); refine goesL_ (some 59) rfl rfl Try.func18 (by kernel_rfl) rfl #[.slice A1 l1.length c1, .int .i64 ((rd_T68 l0_2 x7_1).f6)] rfl (by (try simp only [List.map_toArray, List.map_cons, List.map_nil]); first | done | rfl | (simp only [List.length_drop, List.length_take]; rfl)) ?_; (with_reducible refine (gumshoeref15_Callees.calls kj8 _ _ l1 ((rd_T68 l0_2 x7_1).f6) t305 _ ?side1 ?side2 A38.out).mono ?_); (case side1 => repeat (first | exact (Kd.C_below HR1.out HB.out) | (with_reducible refine Kd.C_alloc ?_ _) | (with_reducible refine Kd.C_drewN ?_ _) | (with_reducible refine Kd.C_drew ?_))); (case side2 => exact HC1.out); rintro e w41 ⟨v306, rfl, ho0, hb⟩; refine ⟨_, rfl, ?_⟩; have n0_ := Aside0.mk (Kd.V_elder' (by (with_reducible repeat (first | apply Kd.V_alloc | apply Kd.V_drewN | apply Kd.V_drew)); exact HO_5.out) (Kd.R_base ho0) hb); have n1_ := Aside0.mk (Kd.R_elder' (by (with_reducible repeat (first | apply Kd.R_alloc | apply Kd.R_drewN | apply Kd.R_drew)); exact HO_6.out) (Kd.R_base ho0) hb); have n2_ := Aside0.mk (Kd.R_lower (Kd.R_new' (Kd.R_newM (M := fun k_ => (w.heap.size ≤ k_)) ho0 (below_size (by repeat (first | (with_reducible first | exact HB.out | apply below_alloc | apply pw_below_drewN | apply below_drew1 | refine below_set ?_ GE298.out | refine below_set ?_ GE303.out) | exact HB.out))) (fun k_ h_ => h_)) (Kd.R_lt (by (with_reducible repeat (first | apply Kd.R_alloc | apply Kd.R_drewN | apply Kd.R_drew)); exact HO_6.out))) (below_size (by repeat (first | (with_reducible first | exact HB.out | apply below_alloc | apply pw_below_drewN | apply below_drew1 | refine below_set ?_ GE298.out | refine below_set ?_ GE303.out) | exact HB.out)))); have n3_ := Aside0.mk (blk_below (g := gb298) (o := .cells #[.int .i64 a0_0, .slice A0_1 l0_1.length c0_1, .slice (some ad302) l0_2.length c0_2] 43 (0, 0)) (by (with_reducible repeat (first | refine blk_drewN ?_ _ | refine blk_drew ?_ | refine blk_alloc ?_ _)); exact BK298.out) hb); have n4_ := Aside0.mk (blk_below (g := gb303) (o := .cells #[.int .i64 ((rd_T68 l0_2 x7_1).f0), .int .i64 ((rd_T68 l0_2 x7_1).f1), .int .i64 ((rd_T68 l0_2 x7_1).f2), .int .i64 ((rd_T68 l0_2 x7_1).f3), .int .i64 ((rd_T68 l0_2 x7_1).f4), .int .i64 ((rd_T68 l0_2 x7_1).f5), .int .i64 ((rd_T68 l0_2 x7_1).f6), .string ((rd_T68 l0_2 x7_1).f7), .slice A302_8 ((rd_T68 l0_2 x7_1).f8).length c302_8] 68 (0, 0)) (by (with_reducible repeat (first | refine blk_drewN ?_ _ | refine blk_drew ?_ | refine blk_alloc ?_ _)); exact BK303.out) hb); have n5_ := Aside0.mk (below_step (by repeat (first | (with_reducible first | exact HB.out | apply below_alloc | apply pw_below_drewN | apply below_drew1 | refine below_set ?_ GE298.out | refine below_set ?_ GE303.out) | exact HB.out)) hb); clear HO_5; clear HO_6; clear BK298; clear BK303; clear HB; have HO_5 := n0_; have HO_6 := n1_; have HO307 := n2_; have BK298 := n3_; have BK303 := n4_; have HB := n5_; clear n0_ n1_ n2_ n3_ n4_ n5_; (try clear hb); (try clear hb2); (try clear hk); (try clear hi); (try clear ho0)))
                go_loopg [5, 11] kj8 (fun kq v5 v11 w' => ∃ (x5_3 : List (S24)) (x11_3 : Int), v11 = .int .i64 x11_3 ∧ Aside0 (gumshoeref15_Edges.l1 kq l1 x5_3 t299 x7_1 t305 x11_3 a0_0 l0_1 l0_2 ((rd_T68 l0_2 x7_1).f0) ((rd_T68 l0_2 x7_1).f1) ((rd_T68 l0_2 x7_1).f2) ((rd_T68 l0_2 x7_1).f3) ((rd_T68 l0_2 x7_1).f4) ((rd_T68 l0_2 x7_1).f5) ((rd_T68 l0_2 x7_1).f6) ((rd_T68 l0_2 x7_1).f7) ((rd_T68 l0_2 x7_1).f8) = some r) ∧ Aside0 (kq ≤ kj8) ∧ Aside0 (Kd.V k24 24 w' w.heap.size (fun k_ => (w.heap.size ≤ k_) ∧ some k_ ≠ ((.slice Ao14 t299.length co14) : Value).ownBlock ∧ some k_ ≠ (v306 : Value).ownBlock ∧ k_ ≠ gb298 ∧ k_ ≠ gb303) v5 x5_3) ∧ Aside0 (Kd.R (Kd.int .i64) 3 w' w.heap.size (fun k_ => (w.heap.size ≤ k_) ∧ some k_ ≠ (v306 : Value).ownBlock) (.slice Ao14 t299.length co14) t299) ∧ Aside0 (Kd.R (Kd.int .i64) 3 w' w.heap.size (fun k_ => (w.heap.size ≤ k_) ∧ some k_ ≠ ((.slice Ao14 t299.length co14) : Value).ownBlock) v306 t305) ∧ Aside0 (w'.heap[gb298]? = some (.cells #[.int .i64 a0_0, (.slice A0_1 l0_1.length c0_1), (.slice (some ad302) l0_2.length c0_2)] 43 (0, 0))) ∧ Aside0 (w'.heap[gb303]? = some (.cells #[.int .i64 ((rd_T68 l0_2 x7_1).f0), .int .i64 ((rd_T68 l0_2 x7_1).f1), .int .i64 ((rd_T68 l0_2 x7_1).f2), .int .i64 ((rd_T68 l0_2 x7_1).f3), .int .i64 ((rd_T68 l0_2 x7_1).f4), .int .i64 ((rd_T68 l0_2 x7_1).f5), .int .i64 ((rd_T68 l0_2 x7_1).f6), .string ((rd_T68 l0_2 x7_1).f7), (.slice A302_8 ((rd_T68 l0_2 x7_1).f8).length c302_8)] 68 (0, 0))) ∧ Aside0 (Below w.heap.size w w'))
                case atStart => exact ⟨(x5_1), (1), (by first | rfl | (simp; done) | (simp [*]; done) | (simp [*]; exact (fun (l_ : List UInt8) => (by cases l_ <;> rfl : l_.isEmpty = !(l_ != []))) _)), H', ⟨Nat.le_refl _⟩, ⟨by (with_reducible repeat (first | apply Kd.V_alloc | apply Kd.V_drewN | apply Kd.V_drew)); exact Kd.V_mono HO_5.out (fun _ hk => ⟨hk.1.1, ⟨hk.1.2.1, ⟨hk.2, ⟨hk.1.2.2.1, hk.1.2.2.2⟩⟩⟩⟩)⟩, ⟨by (with_reducible repeat (first | apply Kd.R_alloc | apply Kd.R_drewN | apply Kd.R_drew)); exact HO_6.out⟩, ⟨by (with_reducible repeat (first | apply Kd.R_alloc | apply Kd.R_drewN | apply Kd.R_drew)); exact Kd.R_mono HO307.out (fun _ hk => ⟨hk.1.1, hk.2⟩)⟩, ⟨by (with_reducible repeat (first | refine blk_drewN ?_ _ | refine blk_drew ?_ | refine blk_alloc ?_ _)); exact BK298.out⟩, ⟨by (with_reducible repeat (first | refine blk_drewN ?_ _ | refine blk_drew ?_ | refine blk_alloc ?_ _)); exact BK303.out⟩, ⟨by repeat (first | (with_reducible first | exact HB.out | apply below_alloc | apply pw_below_drewN | apply below_drew1 | refine below_set ?_ GE298.out | refine below_set ?_ GE303.out) | exact HB.out)⟩⟩
                case round =>
                  clear H'
                  try clear c1
                  try clear c2
                  try clear p2
                  try clear c3
                  try clear p3
                  try clear q3
                  try clear hx3
                  try clear c6
                  try clear c6b0
                  try clear p6
                  try clear c7
                  try clear c7b0
                  try clear c10
                  try clear c12
                  try clear c15
                  try clear c15b0
                  try clear c15b1
                  try clear c16
                  try clear c17
                  try clear c17b0
                  try clear c18
                  try clear c20
                  try clear c23
                  try clear c24
                  try clear c25
                  try clear c25b0
                  try clear c25b1
                  try clear c26
                  try clear c27
                  try clear c27b0
                  try clear c28
                  try clear c30
                  try clear p30
                  try clear q30
                  try clear hx30
                  try clear c33
                  try clear c35
                  try clear c37
                  try clear c39
                  try clear hcz10_0
                  try clear hcz10_1
                  try clear hcz10_2
                  try clear hcz13_0
                  try clear hcz13_1
                  try clear hcz13_2
                  try clear hcz13_3
                  try clear hcz13_4
                  try clear hcz13_5
                  try clear hcz13_6
                  try clear hcz13_7
                  try clear hcz13_8
                  try clear hcz19_0
                  try clear hcz19_1
                  try clear hcz19_2
                  try clear hcz19_3
                  try clear hcz19_4
                  try clear hcz19_5
                  try clear hcz19_6
                  try clear hcz19_7
                  try clear hcz19_8
                  try clear hcz21_0
                  try clear hcz21_1
                  try clear hcz21_2
                  try clear hcz21_3
                  try clear hcz21_4
                  try clear hcz21_5
                  try clear hcz21_6
                  try clear hcz21_7
                  try clear hcz21_8
                  try clear hcz22_0
                  try clear hcz22_1
                  try clear hcz22_2
                  try clear hcz24_0
                  try clear hcz24_1
                  try clear hcz24_2
                  try clear hcz24_3
                  try clear hcz24_4
                  try clear hcz24_5
                  try clear hcz24_6
                  try clear hcz24_7
                  try clear hcz24_8
                  try clear hcz29_0
                  try clear hcz29_1
                  try clear hcz29_2
                  try clear hcz29_3
                  try clear hcz29_4
                  try clear hcz29_5
                  try clear hcz29_6
                  try clear hcz29_7
                  try clear hcz29_8
                  try clear hcz31_0
                  try clear hcz31_1
                  try clear hcz31_2
                  try clear hcz31_3
                  try clear hcz31_4
                  try clear hcz31_5
                  try clear hcz31_6
                  try clear hcz31_7
                  try clear hcz31_8
                  try clear hcz32_0
                  try clear hcz32_1
                  try clear hcz32_2
                  try clear hcz34_0
                  try clear hcz34_1
                  try clear hcz34_2
                  try clear hcz34_3
                  try clear hcz34_4
                  try clear hcz34_5
                  try clear hcz34_6
                  try clear hcz34_7
                  try clear hcz34_8
                  try clear hcz36_0
                  try clear hcz36_1
                  try clear hcz36_2
                  try clear hcz36_3
                  try clear hcz36_4
                  try clear hcz36_5
                  try clear hcz36_6
                  try clear hcz36_7
                  try clear hcz36_8
                  try clear hcz40_0
                  try clear hcz40_1
                  try clear hcz40_2
                  try clear hcz40_3
                  try clear hcz40_4
                  try clear hcz40_5
                  try clear hcz40_6
                  try clear hcz40_7
                  try clear hcz40_8
                  try clear hfz10_0
                  try clear hfz10_1
                  try clear hfz10_2
                  try clear hfz13_0
                  try clear hfz13_1
                  try clear hfz13_2
                  try clear hfz13_3
                  try clear hfz13_4
                  try clear hfz13_5
                  try clear hfz13_6
                  try clear hfz13_7
                  try clear hfz13_8
                  try clear hfz19_0
                  try clear hfz19_1
                  try clear hfz19_2
                  try clear hfz19_3
                  try clear hfz19_4
                  try clear hfz19_5
                  try clear hfz19_6
                  try clear hfz19_7
                  try clear hfz19_8
                  try clear hfz21_0
                  try clear hfz21_1
                  try clear hfz21_2
                  try clear hfz21_3
                  try clear hfz21_4
                  try clear hfz21_5
                  try clear hfz21_6
                  try clear hfz21_7
                  try clear hfz21_8
                  try clear hfz22_0
                  try clear hfz22_1
                  try clear hfz22_2
                  try clear hfz24_0
                  try clear hfz24_1
                  try clear hfz24_2
                  try clear hfz24_3
                  try clear hfz24_4
                  try clear hfz24_5
                  try clear hfz24_6
                  try clear hfz24_7
                  try clear hfz24_8
                  try clear hfz29_0
                  try clear hfz29_1
                  try clear hfz29_2
                  try clear hfz29_3
                  try clear hfz29_4
                  try clear hfz29_5
                  try clear hfz29_6
                  try clear hfz29_7
                  try clear hfz29_8
                  try clear hfz31_0
                  try clear hfz31_1
                  try clear hfz31_2
                  try clear hfz31_3
                  try clear hfz31_4
                  try clear hfz31_5
                  try clear hfz31_6
                  try clear hfz31_7
                  try clear hfz31_8
                  try clear hfz32_0
                  try clear hfz32_1
                  try clear hfz32_2
                  try clear hfz34_0
                  try clear hfz34_1
                  try clear hfz34_2
                  try clear hfz34_3
                  try clear hfz34_4
                  try clear hfz34_5
                  try clear hfz34_6
                  try clear hfz34_7
                  try clear hfz34_8
                  try clear hfz36_0
                  try clear hfz36_1
                  try clear hfz36_2
                  try clear hfz36_3
                  try clear hfz36_4
                  try clear hfz36_5
                  try clear hfz36_6
                  try clear hfz36_7
                  try clear hfz36_8
                  try clear hfz40_0
                  try clear hfz40_1
                  try clear hfz40_2
                  try clear hfz40_3
                  try clear hfz40_4
                  try clear hfz40_5
                  try clear hfz40_6
                  try clear hfz40_7
                  try clear hfz40_8
                  try clear hx302_0
                  try clear hx302_1
                  try clear hx302_2
                  try clear hx302_3
                  try clear hx302_4
                  try clear hx302_5
                  try clear hx302_6
                  try clear hx302_7
                  try clear hx302_8
                  try clear p2
                  try clear p3
                  try clear p30
                  try clear p302
                  try clear q3
                  try clear q30
                  try clear q302
                  obtain ⟨x5_3, x11_3, rfl, HA, HK3, HO_5, HO_6, HO_10, BK298, BK303, HB⟩ := hrel
                  cases gk with
                  | zero => exact absurd HA.out (by simp [gumshoeref15_Edges.l1])
                  | succ k3 =>
                    have H := HA.out
                    clear HA
                    simp only [gumshoeref15_Edges.l1] at H
                    by_cases c42 : x11_3 < (l0_1.length : Int)
                    · rw [if_pos c42] at H
                      have c42b0 : decide (x11_3 < (l0_1.length : Int)) = true := decide_eq_true c42
                      clear c42
                      by_cases c43 : 0 ≤ x11_3
                      · rw [if_pos c43] at H
                        have c43b0 : decide (0 ≤ x11_3) = true := decide_eq_true c43
                        clear c43
                        replace H := Option.bind_eq_some_iff.mp H
                        obtain ⟨t309, A440, H⟩ := H
                        replace H : (if t309 = true then ((gumshoeref15_with.f k3 x5_3 ((rd_T68 l0_2 x7_1).f1) ((rd_T68 l0_2 x7_1).f6) x11_3).bind fun t310 => (gumshoeref15_Edges.l1 k3 l1 t310 t299 x7_1 t305 (wrap64 (x11_3 + 1)) a0_0 l0_1 l0_2 ((rd_T68 l0_2 x7_1).f0) ((rd_T68 l0_2 x7_1).f1) ((rd_T68 l0_2 x7_1).f2) ((rd_T68 l0_2 x7_1).f3) ((rd_T68 l0_2 x7_1).f4) ((rd_T68 l0_2 x7_1).f5) ((rd_T68 l0_2 x7_1).f6) ((rd_T68 l0_2 x7_1).f7) ((rd_T68 l0_2 x7_1).f8))) else (gumshoeref15_Edges.l1 k3 l1 x5_3 t299 x7_1 t305 (wrap64 (x11_3 + 1)) a0_0 l0_1 l0_2 ((rd_T68 l0_2 x7_1).f0) ((rd_T68 l0_2 x7_1).f1) ((rd_T68 l0_2 x7_1).f2) ((rd_T68 l0_2 x7_1).f3) ((rd_T68 l0_2 x7_1).f4) ((rd_T68 l0_2 x7_1).f5) ((rd_T68 l0_2 x7_1).f6) ((rd_T68 l0_2 x7_1).f7) ((rd_T68 l0_2 x7_1).f8))) = some r := H
                        have A44 := Aside0.mk A440
                        clear A440
                        by_cases c45 : t309 = true
                        · subst c45
                          have H1 : ((gumshoeref15_with.f k3 x5_3 ((rd_T68 l0_2 x7_1).f1) ((rd_T68 l0_2 x7_1).f6) x11_3).bind fun t310 => (gumshoeref15_Edges.l1 k3 l1 t310 t299 x7_1 t305 (wrap64 (x11_3 + 1)) a0_0 l0_1 l0_2 ((rd_T68 l0_2 x7_1).f0) ((rd_T68 l0_2 x7_1).f1) ((rd_T68 l0_2 x7_1).f2) ((rd_T68 l0_2 x7_1).f3) ((rd_T68 l0_2 x7_1).f4) ((rd_T68 l0_2 x7_1).f5) ((rd_T68 l0_2 x7_1).f6) ((rd_T68 l0_2 x7_1).f7) ((rd_T68 l0_2 x7_1).f8))) = some r := by rw [if_pos rfl] at H; exact H
                          clear H
                          have H := H1
                          clear H1
                          replace H := Option.bind_eq_some_iff.mp H
                          obtain ⟨t310, A460, H⟩ := H
                          replace H : (gumshoeref15_Edges.l1 k3 l1 t310 t299 x7_1 t305 (wrap64 (x11_3 + 1)) a0_0 l0_1 l0_2 ((rd_T68 l0_2 x7_1).f0) ((rd_T68 l0_2 x7_1).f1) ((rd_T68 l0_2 x7_1).f2) ((rd_T68 l0_2 x7_1).f3) ((rd_T68 l0_2 x7_1).f4) ((rd_T68 l0_2 x7_1).f5) ((rd_T68 l0_2 x7_1).f6) ((rd_T68 l0_2 x7_1).f7) ((rd_T68 l0_2 x7_1).f8)) = some r := H
                          have A46 := Aside0.mk A460
                          clear A460
                          have H' := Aside0.mk H
                          clear H
                          have hnb47 := NB298_303.out
                          have hnc47 := NB303_298.out
                          have hcz48_0 : wr.cell? ⟨gb298, 0, none⟩ = some (.int .i64 a0_0) := (blk_cell BK298.out 0).trans rfl
                          have hcz48_1 : wr.cell? ⟨gb298, 1, none⟩ = some (.slice A0_1 l0_1.length c0_1) := (blk_cell BK298.out 1).trans rfl
                          have hcz48_2 : wr.cell? ⟨gb298, 2, none⟩ = some (.slice (some ad302) l0_2.length c0_2) := (blk_cell BK298.out 2).trans rfl
                          have hfz48_0 := blk_frozen BK298.out 0
                          have hfz48_1 := blk_frozen BK298.out 1
                          have hfz48_2 := blk_frozen BK298.out 2
                          have p308 : 0 ≤ (x11_3 : Int) := of_decide_eq_true (by first | (with_reducible assumption) | assumption)
                          have q308 : x11_3 < (l0_1.length : Int) := of_decide_eq_true (by first | (with_reducible assumption) | assumption)
                          obtain ⟨ad308, A308_1, c308_1, e308, hx308_0, hx308_1, hx308_2, hx308_3, hx308_4, hl308_1, hi308_1⟩ := at_T66 HR0_1.out x11_3 p308 q308
                          cases e308
                          replace hx308_0 := (HB.out.cell (World.block_lt_of_cell? w _ hx308_0)).trans hx308_0
                          replace hx308_1 := (HB.out.cell (World.block_lt_of_cell? w _ hx308_1)).trans hx308_1
                          replace hx308_2 := (HB.out.cell (World.block_lt_of_cell? w _ hx308_2)).trans hx308_2
                          replace hx308_3 := (HB.out.cell (World.block_lt_of_cell? w _ hx308_3)).trans hx308_3
                          replace hx308_4 := (HB.out.cell (World.block_lt_of_cell? w _ hx308_4)).trans hx308_4
                          have HR308_1 := Aside0.mk hi308_1
                          have HC308_1 := Aside0.mk hl308_1
                          clear hi308_1 hl308_1
                          replace p308 := eq_true p308
                          replace q308 := eq_true q308
                          obtain ⟨Ao49, co49, eo49⟩ := Kd.R_slice HO_10.out
                          subst eo49
                          go_wp2_with (first | ((with_reducible refine gate_callee (f := 10) rfl ?_); refine goesL_ (some 74) rfl rfl Try.func10 (by kernel_rfl) rfl #[.slice Ao49 t305.length co49, .int .i64 ((rd_T66 l0_1 x11_3).f0)] rfl (by (try simp only [List.map_toArray, List.map_cons, List.map_nil]); first | done | rfl | (simp only [List.length_drop, List.length_take]; rfl)) ?_; (with_reducible refine (gumshoeref01_Has.calls k3 _ _ t305 ((rd_T66 l0_1 x11_3).f0) true _ ?side1 ?side2 A44.out).mono ?_); (case side1 => repeat (first | exact (Kd.R_reads' HO_10.out).2.2 | (with_reducible refine Kd.C_alloc ?_ _) | (with_reducible refine Kd.C_drewN ?_ _) | (with_reducible refine Kd.C_drew ?_))); (case side2 => exact (Kd.R_reads' HO_10.out).2.1); rintro e w' ⟨rfl, ⟨nd, rfl⟩⟩; refine ⟨_, rfl, ?_⟩; have hcz50_0 : wr.cell? ⟨gb303, 0, none⟩ = some (.int .i64 ((rd_T68 l0_2 x7_1).f0)) := (blk_cell BK303.out 0).trans rfl; have hcz50_1 : wr.cell? ⟨gb303, 1, none⟩ = some (.int .i64 ((rd_T68 l0_2 x7_1).f1)) := (blk_cell BK303.out 1).trans rfl; have hcz50_2 : wr.cell? ⟨gb303, 2, none⟩ = some (.int .i64 ((rd_T68 l0_2 x7_1).f2)) := (blk_cell BK303.out 2).trans rfl; have hcz50_3 : wr.cell? ⟨gb303, 3, none⟩ = some (.int .i64 ((rd_T68 l0_2 x7_1).f3)) := (blk_cell BK303.out 3).trans rfl; have hcz50_4 : wr.cell? ⟨gb303, 4, none⟩ = some (.int .i64 ((rd_T68 l0_2 x7_1).f4)) := (blk_cell BK303.out 4).trans rfl; have hcz50_5 : wr.cell? ⟨gb303, 5, none⟩ = some (.int .i64 ((rd_T68 l0_2 x7_1).f5)) := (blk_cell BK303.out 5).trans rfl; have hcz50_6 : wr.cell? ⟨gb303, 6, none⟩ = some (.int .i64 ((rd_T68 l0_2 x7_1).f6)) := (blk_cell BK303.out 6).trans rfl; have hcz50_7 : wr.cell? ⟨gb303, 7, none⟩ = some (.string ((rd_T68 l0_2 x7_1).f7)) := (blk_cell BK303.out 7).trans rfl; have hcz50_8 : wr.cell? ⟨gb303, 8, none⟩ = some (.slice A302_8 ((rd_T68 l0_2 x7_1).f8).length c302_8) := (blk_cell BK303.out 8).trans rfl; have hfz50_0 := blk_frozen BK303.out 0; have hfz50_1 := blk_frozen BK303.out 1; have hfz50_2 := blk_frozen BK303.out 2; have hfz50_3 := blk_frozen BK303.out 3; have hfz50_4 := blk_frozen BK303.out 4; have hfz50_5 := blk_frozen BK303.out 5; have hfz50_6 := blk_frozen BK303.out 6; have hfz50_7 := blk_frozen BK303.out 7; have hfz50_8 := blk_frozen BK303.out 8; obtain ⟨Ao51, co51, eo51⟩ := Kd.V_slice HO_5.out; subst eo51) | ((with_reducible refine gate_callee (f := 42) rfl ?_); refine goesL_ (some 83) rfl rfl Try.func42 (by kernel_rfl) rfl #[.slice Ao51 x5_3.length co51, .agg #[.int .i64 ((rd_T68 l0_2 x7_1).f1), .int .i64 ((rd_T68 l0_2 x7_1).f6), .int .i64 x11_3]] rfl (by (try simp only [List.map_toArray, List.map_cons, List.map_nil]); first | done | rfl | (simp only [List.length_drop, List.length_take]; rfl)) ?_; (with_reducible refine (gumshoeref15_with.calls k3 (fun k_ => ((w.heap.size ≤ k_) ∧ (some k_ ≠ (.slice Ao14 t299.length co14 : Value).ownBlock ∧ (some k_ ≠ (.slice Ao49 t305.length co49 : Value).ownBlock ∧ (k_ ≠ gb298 ∧ k_ ≠ gb303))))) _ _ x5_3 ((rd_T68 l0_2 x7_1).f1) ((rd_T68 l0_2 x7_1).f6) x11_3 t310 _ ?side1 A46.out).mono ?_); (case side1 => exact HO_5.out); rintro e w52 ⟨v311, rfl, ho0, hb⟩; refine ⟨_, rfl, ?_⟩; have n0_ := Aside0.mk (Kd.V_below (by (with_reducible repeat (first | apply Kd.V_alloc | apply Kd.V_drewN | apply Kd.V_drew)); exact HO_5.out) hb); have n1_ := Aside0.mk (Kd.R_below (by (with_reducible repeat (first | apply Kd.R_alloc | apply Kd.R_drewN | apply Kd.R_drew)); exact HO_6.out) hb); have n2_ := Aside0.mk (Kd.R_below (by (with_reducible repeat (first | apply Kd.R_alloc | apply Kd.R_drewN | apply Kd.R_drew)); exact HO_10.out) hb); have n3_ := Aside0.mk (Kd.V_lower (Kd.V_mono (ok' := fun k_ => (w.heap.size ≤ k_) ∧ some k_ ≠ (.slice Ao14 t299.length co14 : Value).ownBlock ∧ some k_ ≠ (.slice Ao49 t305.length co49 : Value).ownBlock ∧ k_ ≠ gb298 ∧ k_ ≠ gb303) ho0 (fun k_ hk_ => ⟨Or.elim hk_ (fun hs_ => hs_.1) (fun hn_ => (Nat.le_trans (below_size (by repeat (first | (with_reducible first | exact HB.out | apply below_alloc | apply pw_below_drewN | apply below_drew1 | refine below_set ?_ GE298.out | refine below_set ?_ GE303.out) | exact HB.out))) hn_)), Or.elim hk_ (fun hs_ => hs_.2.1) (fun hn_ => (Kd.fresh' (Kd.R_lt (by (with_reducible repeat (first | apply Kd.R_alloc | apply Kd.R_drewN | apply Kd.R_drew)); exact HO_6.out)) k_ hn_)), Or.elim hk_ (fun hs_ => hs_.2.2.1) (fun hn_ => (Kd.fresh' (Kd.R_lt (by (with_reducible repeat (first | apply Kd.R_alloc | apply Kd.R_drewN | apply Kd.R_drew)); exact HO_10.out)) k_ hn_)), Or.elim hk_ (fun hs_ => hs_.2.2.2.1) (fun hn_ => (Kd.freshB (g := gb298) (o := .cells #[.int .i64 a0_0, .slice (some ad308) l0_1.length c0_1, .slice (some ad302) l0_2.length c0_2] 43 (0, 0)) (by (with_reducible repeat (first | refine blk_drewN ?_ _ | refine blk_drew ?_ | refine blk_alloc ?_ _)); exact BK298.out) k_ hn_)), Or.elim hk_ (fun hs_ => hs_.2.2.2.2) (fun hn_ => (Kd.freshB (g := gb303) (o := .cells #[.int .i64 ((rd_T68 l0_2 x7_1).f0), .int .i64 ((rd_T68 l0_2 x7_1).f1), .int .i64 ((rd_T68 l0_2 x7_1).f2), .int .i64 ((rd_T68 l0_2 x7_1).f3), .int .i64 ((rd_T68 l0_2 x7_1).f4), .int .i64 ((rd_T68 l0_2 x7_1).f5), .int .i64 ((rd_T68 l0_2 x7_1).f6), .string ((rd_T68 l0_2 x7_1).f7), .slice A302_8 ((rd_T68 l0_2 x7_1).f8).length c302_8] 68 (0, 0)) (by (with_reducible repeat (first | refine blk_drewN ?_ _ | refine blk_drew ?_ | refine blk_alloc ?_ _)); exact BK303.out) k_ hn_))⟩)) (below_size (by repeat (first | (with_reducible first | exact HB.out | apply below_alloc | apply pw_below_drewN | apply below_drew1 | refine below_set ?_ GE298.out | refine below_set ?_ GE303.out) | exact HB.out)))); have n4_ := Aside0.mk (blk_below (g := gb298) (o := .cells #[.int .i64 a0_0, .slice (some ad308) l0_1.length c0_1, .slice (some ad302) l0_2.length c0_2] 43 (0, 0)) (by (with_reducible repeat (first | refine blk_drewN ?_ _ | refine blk_drew ?_ | refine blk_alloc ?_ _)); exact BK298.out) hb); have n5_ := Aside0.mk (blk_below (g := gb303) (o := .cells #[.int .i64 ((rd_T68 l0_2 x7_1).f0), .int .i64 ((rd_T68 l0_2 x7_1).f1), .int .i64 ((rd_T68 l0_2 x7_1).f2), .int .i64 ((rd_T68 l0_2 x7_1).f3), .int .i64 ((rd_T68 l0_2 x7_1).f4), .int .i64 ((rd_T68 l0_2 x7_1).f5), .int .i64 ((rd_T68 l0_2 x7_1).f6), .string ((rd_T68 l0_2 x7_1).f7), .slice A302_8 ((rd_T68 l0_2 x7_1).f8).length c302_8] 68 (0, 0)) (by (with_reducible repeat (first | refine blk_drewN ?_ _ | refine blk_drew ?_ | refine blk_alloc ?_ _)); exact BK303.out) hb); have n6_ := Aside0.mk (below_step (by repeat (first | (with_reducible first | exact HB.out | apply below_alloc | apply pw_below_drewN | apply below_drew1 | refine below_set ?_ GE298.out | refine below_set ?_ GE303.out) | exact HB.out)) hb); clear HO_5; clear HO_6; clear HO_10; clear BK298; clear BK303; clear HB; have HO_5 := n0_; have HO_6 := n1_; have HO_10 := n2_; have HO312 := n3_; have BK298 := n4_; have BK303 := n5_; have HB := n6_; clear n0_ n1_ n2_ n3_ n4_ n5_ n6_; (try clear hb); (try clear hb2); (try clear hk); (try clear hi); (try clear ho0)))
                          go_roundg k3
                          case measure => have := HK1.out; have := HJ8.out; have := HK3.out; omega
                          case rel => exact ⟨(t310), (wrap64 (x11_3 + 1)), (by first | rfl | (simp; done) | (simp [*]; done) | (simp [*]; exact (fun (l_ : List UInt8) => (by cases l_ <;> rfl : l_.isEmpty = !(l_ != []))) _)), H', ⟨by have := HK1.out; have := HJ8.out; have := HK3.out; omega⟩, ⟨by (with_reducible repeat (first | apply Kd.V_alloc | apply Kd.V_drewN | apply Kd.V_drew)); exact HO312.out⟩, ⟨by (with_reducible repeat (first | apply Kd.R_alloc | apply Kd.R_drewN | apply Kd.R_drew)); exact HO_6.out⟩, ⟨by (with_reducible repeat (first | apply Kd.R_alloc | apply Kd.R_drewN | apply Kd.R_drew)); exact HO_10.out⟩, ⟨by (with_reducible repeat (first | refine blk_drewN ?_ _ | refine blk_drew ?_ | refine blk_alloc ?_ _)); exact BK298.out⟩, ⟨by (with_reducible repeat (first | refine blk_drewN ?_ _ | refine blk_drew ?_ | refine blk_alloc ?_ _)); exact BK303.out⟩, ⟨by repeat (first | (with_reducible first | exact HB.out | apply below_alloc | apply pw_below_drewN | apply below_drew1 | refine below_set ?_ GE298.out | refine below_set ?_ GE303.out) | exact HB.out)⟩⟩
                        · replace c45 := Bool.eq_false_iff.mpr c45
                          subst c45
                          have H1 : (gumshoeref15_Edges.l1 k3 l1 x5_3 t299 x7_1 t305 (wrap64 (x11_3 + 1)) a0_0 l0_1 l0_2 ((rd_T68 l0_2 x7_1).f0) ((rd_T68 l0_2 x7_1).f1) ((rd_T68 l0_2 x7_1).f2) ((rd_T68 l0_2 x7_1).f3) ((rd_T68 l0_2 x7_1).f4) ((rd_T68 l0_2 x7_1).f5) ((rd_T68 l0_2 x7_1).f6) ((rd_T68 l0_2 x7_1).f7) ((rd_T68 l0_2 x7_1).f8)) = some r := by rw [if_neg (show ¬ (false = true) by decide)] at H; exact H
                          clear H
                          have H := H1
                          clear H1
                          have H' := Aside0.mk H
                          clear H
                          have hnb53 := NB298_303.out
                          have hnc53 := NB303_298.out
                          have hcz54_0 : wr.cell? ⟨gb298, 0, none⟩ = some (.int .i64 a0_0) := (blk_cell BK298.out 0).trans rfl
                          have hcz54_1 : wr.cell? ⟨gb298, 1, none⟩ = some (.slice A0_1 l0_1.length c0_1) := (blk_cell BK298.out 1).trans rfl
                          have hcz54_2 : wr.cell? ⟨gb298, 2, none⟩ = some (.slice (some ad302) l0_2.length c0_2) := (blk_cell BK298.out 2).trans rfl
                          have hfz54_0 := blk_frozen BK298.out 0
                          have hfz54_1 := blk_frozen BK298.out 1
                          have hfz54_2 := blk_frozen BK298.out 2
                          have p308 : 0 ≤ (x11_3 : Int) := of_decide_eq_true (by first | (with_reducible assumption) | assumption)
                          have q308 : x11_3 < (l0_1.length : Int) := of_decide_eq_true (by first | (with_reducible assumption) | assumption)
                          obtain ⟨ad308, A308_1, c308_1, e308, hx308_0, hx308_1, hx308_2, hx308_3, hx308_4, hl308_1, hi308_1⟩ := at_T66 HR0_1.out x11_3 p308 q308
                          cases e308
                          replace hx308_0 := (HB.out.cell (World.block_lt_of_cell? w _ hx308_0)).trans hx308_0
                          replace hx308_1 := (HB.out.cell (World.block_lt_of_cell? w _ hx308_1)).trans hx308_1
                          replace hx308_2 := (HB.out.cell (World.block_lt_of_cell? w _ hx308_2)).trans hx308_2
                          replace hx308_3 := (HB.out.cell (World.block_lt_of_cell? w _ hx308_3)).trans hx308_3
                          replace hx308_4 := (HB.out.cell (World.block_lt_of_cell? w _ hx308_4)).trans hx308_4
                          have HR308_1 := Aside0.mk hi308_1
                          have HC308_1 := Aside0.mk hl308_1
                          clear hi308_1 hl308_1
                          replace p308 := eq_true p308
                          replace q308 := eq_true q308
                          obtain ⟨Ao55, co55, eo55⟩ := Kd.R_slice HO_10.out
                          subst eo55
                          go_wp2_with (first | ((with_reducible refine gate_callee (f := 10) rfl ?_); refine goesL_ (some 74) rfl rfl Try.func10 (by kernel_rfl) rfl #[.slice Ao55 t305.length co55, .int .i64 ((rd_T66 l0_1 x11_3).f0)] rfl (by (try simp only [List.map_toArray, List.map_cons, List.map_nil]); first | done | rfl | (simp only [List.length_drop, List.length_take]; rfl)) ?_; (with_reducible refine (gumshoeref01_Has.calls k3 _ _ t305 ((rd_T66 l0_1 x11_3).f0) false _ ?side1 ?side2 A44.out).mono ?_); (case side1 => repeat (first | exact (Kd.R_reads' HO_10.out).2.2 | (with_reducible refine Kd.C_alloc ?_ _) | (with_reducible refine Kd.C_drewN ?_ _) | (with_reducible refine Kd.C_drew ?_))); (case side2 => exact (Kd.R_reads' HO_10.out).2.1); rintro e w' ⟨rfl, ⟨nd, rfl⟩⟩; refine ⟨_, rfl, ?_⟩))
                          go_roundg k3
                          case measure => have := HK1.out; have := HJ8.out; have := HK3.out; omega
                          case rel => exact ⟨(x5_3), (wrap64 (x11_3 + 1)), (by first | rfl | (simp; done) | (simp [*]; done) | (simp [*]; exact (fun (l_ : List UInt8) => (by cases l_ <;> rfl : l_.isEmpty = !(l_ != []))) _)), H', ⟨by have := HK1.out; have := HJ8.out; have := HK3.out; omega⟩, ⟨by (with_reducible repeat (first | apply Kd.V_alloc | apply Kd.V_drewN | apply Kd.V_drew)); exact HO_5.out⟩, ⟨by (with_reducible repeat (first | apply Kd.R_alloc | apply Kd.R_drewN | apply Kd.R_drew)); exact HO_6.out⟩, ⟨by (with_reducible repeat (first | apply Kd.R_alloc | apply Kd.R_drewN | apply Kd.R_drew)); exact HO_10.out⟩, ⟨by (with_reducible repeat (first | refine blk_drewN ?_ _ | refine blk_drew ?_ | refine blk_alloc ?_ _)); exact BK298.out⟩, ⟨by (with_reducible repeat (first | refine blk_drewN ?_ _ | refine blk_drew ?_ | refine blk_alloc ?_ _)); exact BK303.out⟩, ⟨by repeat (first | (with_reducible first | exact HB.out | apply below_alloc | apply pw_below_drewN | apply below_drew1 | refine below_set ?_ GE298.out | refine below_set ?_ GE303.out) | exact HB.out)⟩⟩
                      · rw [if_neg c43] at H
                        exact absurd H (by simp)
                    · rw [if_neg c42] at H
                      have c42b0 : decide (x11_3 < (l0_1.length : Int)) = false := decide_eq_false c42
                      clear c42
                      have H' := Aside0.mk H
                      clear H
                      have hnb56 := NB298_303.out
                      have hnc56 := NB303_298.out
                      have hcz57_0 : wr.cell? ⟨gb298, 0, none⟩ = some (.int .i64 a0_0) := (blk_cell BK298.out 0).trans rfl
                      have hcz57_1 : wr.cell? ⟨gb298, 1, none⟩ = some (.slice A0_1 l0_1.length c0_1) := (blk_cell BK298.out 1).trans rfl
                      have hcz57_2 : wr.cell? ⟨gb298, 2, none⟩ = some (.slice (some ad302) l0_2.length c0_2) := (blk_cell BK298.out 2).trans rfl
                      have hfz57_0 := blk_frozen BK298.out 0
                      have hfz57_1 := blk_frozen BK298.out 1
                      have hfz57_2 := blk_frozen BK298.out 2
                      go_wp2
                      go_roundg k3
                      case measure => have := HK1.out; have := HJ8.out; have := HK3.out; omega
                      case rel => exact ⟨(x5_3), (wrap64 (x7_1 + 1)), (by first | rfl | (simp; done) | (simp [*]; done) | (simp [*]; exact (fun (l_ : List UInt8) => (by cases l_ <;> rfl : l_.isEmpty = !(l_ != []))) _)), H', ⟨by have := HK1.out; have := HJ8.out; have := HK3.out; omega⟩, ⟨by (with_reducible repeat (first | apply Kd.V_alloc | apply Kd.V_drewN | apply Kd.V_drew)); exact Kd.V_mono HO_5.out (fun _ hk => ⟨hk.1, ⟨hk.2.1, hk.2.2.2.1⟩⟩)⟩, ⟨by (with_reducible repeat (first | apply Kd.R_alloc | apply Kd.R_drewN | apply Kd.R_drew)); exact Kd.R_mono HO_6.out (fun _ hk => hk.1)⟩, ⟨by (with_reducible repeat (first | refine blk_drewN ?_ _ | refine blk_drew ?_ | refine blk_alloc ?_ _)); exact BK298.out⟩, ⟨by repeat (first | (with_reducible first | exact HB.out | apply below_alloc | apply pw_below_drewN | apply below_drew1 | refine below_set ?_ GE298.out | refine below_set ?_ GE303.out) | exact HB.out)⟩⟩
        · rw [if_neg c7] at H
          exact absurd H (by simp)
      · rw [if_neg c6] at H
        have c6b0 : decide (x7_1 < (l0_2.length : Int)) = false := decide_eq_false c6
        clear c6
        obtain rfl := Option.some.inj H
        have hcz58_0 : wr.cell? ⟨gb298, 0, none⟩ = some (.int .i64 a0_0) := (blk_cell BK298.out 0).trans rfl
        have hcz58_1 : wr.cell? ⟨gb298, 1, none⟩ = some (.slice A0_1 l0_1.length c0_1) := (blk_cell BK298.out 1).trans rfl
        have hcz58_2 : wr.cell? ⟨gb298, 2, none⟩ = some (.slice A0_2 l0_2.length c0_2) := (blk_cell BK298.out 2).trans rfl
        have hfz58_0 := blk_frozen BK298.out 0
        have hfz58_1 := blk_frozen BK298.out 1
        have hfz58_2 := blk_frozen BK298.out 2
        go_wp2
        go_ret
        exact ⟨_, by first | rfl | (simp [errW_none, errW_some] <;> rfl) | (simp [*, errW_none, errW_some] <;> rfl) | (simp [*, errW_none, errW_some]; exact (fun (l_ : List UInt8) => (by cases l_ <;> rfl : l_.isEmpty = !(l_ != []))) _), by (with_reducible repeat (first | apply Kd.V_alloc | apply Kd.V_drewN | apply Kd.V_drew)); exact Kd.V_mono HO_5.out (fun _ hk => hk.1), by repeat (first | (with_reducible first | exact HB.out | apply below_alloc | apply pw_below_drewN | apply below_drew1 | refine below_set ?_ GE298.out) | exact HB.out)⟩
end Go.Proofs.Ytondngpmhlemkaa.Pr

-- WRITTEN BY hprint.py (a patched scratch copy of print.py, see NOTES.md): out of the translation and of contracts proved by hand.
namespace Go.Proofs.Ytondngpmhlemkaa.Pr
open Go.RowKit Go.Proofs.Ytondngpmhlemkaa.Gr Go.Proofs.YtondngpmhlemkaaW.PrintWords Go.Proofs.YtondngpmhlemkaaW.PrintLast Go.Proofs.YtondngpmhlemkaaW.PrintMore
attribute [local go_sem] min2_int min_two
set_option linter.unusedVariables false
set_option linter.unusedSimpArgs false
/-! ### gumshoelaw15_GraphEdges: function 6 -/
def gumshoelaw15_GraphEdges.f (k : Nat) (a0_0 : Int) (l0_1 : List (S66)) (l0_2 : List (S68)) (l1 : List (S49)) : Option (Bool) := (gumshoelaw15_shown.f k).bind fun t314 => ((gumshoelaw13_Small.f k a0_0 l0_1 l0_2).bind fun t315 => (if t315 = 0 then (some t314) else (if t314 = true then ((gumshoelaw15_few.f l1).bind fun t316 => ((graph_Edges.f a0_0 l0_1 l0_2 t316).bind fun t319 => ((gumshoelaw15_few.f l1).bind fun t322 => ((gumshoeref15_Edges.f k a0_0 l0_1 l0_2 t322).bind fun t325 => ((gumshoeref15_Same.f k t319 t325).bind fun t328 => (some t328)))))) else (some false))))
def gumshoelaw15_GraphEdges.T4 : Bool × List (List Nat × List Nat) := (true, [([], []), ([0], [0]), ([1], [1]), ([1], [1]), ([3, 1, 1], [1, 3]), ([2, 4, 4, 1], [1, 2, 4]), ([1], [1]), ([1], [1]), ([7, 5, 1], [1, 7]), ([6, 8, 8, 1], [1, 6, 8]), ([5, 9, 9, 1], [1, 5, 9]), ([1, 10], [1, 10]), ([11, 10, 0, 1, 2, 3, 4, 5, 6, 7, 8, 9, 10, 11], [11])])
def gumshoelaw15_GraphEdges.B4 : List Nat := [0, 1, 3, 3, 11, 31, 3, 3, 191, 511, 1023, 2047, 4095]
theorem gumshoelaw15_GraphEdges.tab4 : rtab .any (opsOf Try.f6 4) = gumshoelaw15_GraphEdges.T4 := by kernel_rfl
theorem gumshoelaw15_GraphEdges.bits4 : waitsOk gumshoelaw15_GraphEdges.T4.2 gumshoelaw15_GraphEdges.B4 = true := by kernel_rfl
set_option maxHeartbeats 8000000 in
set_option maxRecDepth 100000 in
theorem gumshoelaw15_GraphEdges.calls (k : Nat) (a0_0 : Int) (A0_1 : Option Addr) (c0_1 : Nat) (l0_1 : List (S66)) (A0_2 : Option Addr) (c0_2 : Nat) (l0_2 : List (S68)) (A1 : Option Addr) (c1 : Nat) (l1 : List (S49)) (r : Bool) (w : World) (hr0_1 : Kd.C k66 w A0_1 l0_1.length l0_1) (hc0_1 : l0_1.length ≤ c0_1) (hr0_2 : Kd.C k68 w A0_2 l0_2.length l0_2) (hc0_2 : l0_2.length ≤ c0_2) (hr1 : Kd.C k49 w A1 l1.length l1) (hc1 : l1.length ≤ c1) (h : gumshoelaw15_GraphEdges.f k a0_0 l0_1 l0_2 l1 = some r) :
    Calls Try.prog 6 #[.agg #[.int .i64 a0_0, .slice A0_1 l0_1.length c0_1, .slice A0_2 l0_2.length c0_2], .slice A1 l1.length c1] w fun e w' => e = .returned (.bool r) ∧ Below w.heap.size w w' := by
  have hu43 := Try.underlying43
  have HR0_1 := Aside0.mk hr0_1
  have HC0_1 := Aside0.mk hc0_1
  clear hr0_1 hc0_1
  have HR0_2 := Aside0.mk hr0_2
  have HC0_2 := Aside0.mk hc0_2
  clear hr0_2 hc0_2
  have HR1 := Aside0.mk hr1
  have HC1 := Aside0.mk hc1
  clear hr1 hc1
  have HB := Aside0.mk (Below.refl w.heap.size w)
  have H : ((gumshoelaw15_shown.f k).bind fun t314 => ((gumshoelaw13_Small.f k a0_0 l0_1 l0_2).bind fun t315 => (if t315 = 0 then (some t314) else (if t314 = true then ((gumshoelaw15_few.f l1).bind fun t316 => ((graph_Edges.f a0_0 l0_1 l0_2 t316).bind fun t319 => ((gumshoelaw15_few.f l1).bind fun t322 => ((gumshoeref15_Edges.f k a0_0 l0_1 l0_2 t322).bind fun t325 => ((gumshoeref15_Same.f k t319 t325).bind fun t328 => (some t328)))))) else (some false))))) = some r := h
  clear h
  replace H := Option.bind_eq_some_iff.mp H
  obtain ⟨t314, A30, H⟩ := H
  replace H : ((gumshoelaw13_Small.f k a0_0 l0_1 l0_2).bind fun t315 => (if t315 = 0 then (some t314) else (if t314 = true then ((gumshoelaw15_few.f l1).bind fun t316 => ((graph_Edges.f a0_0 l0_1 l0_2 t316).bind fun t319 => ((gumshoelaw15_few.f l1).bind fun t322 => ((gumshoeref15_Edges.f k a0_0 l0_1 l0_2 t322).bind fun t325 => ((gumshoeref15_Same.f k t319 t325).bind fun t328 => (some t328)))))) else (some false)))) = some r := H
  have A3 := Aside0.mk A30
  clear A30
  replace H := Option.bind_eq_some_iff.mp H
  obtain ⟨t315, A40, H⟩ := H
  replace H : (if t315 = 0 then (some t314) else (if t314 = true then ((gumshoelaw15_few.f l1).bind fun t316 => ((graph_Edges.f a0_0 l0_1 l0_2 t316).bind fun t319 => ((gumshoelaw15_few.f l1).bind fun t322 => ((gumshoeref15_Edges.f k a0_0 l0_1 l0_2 t322).bind fun t325 => ((gumshoeref15_Same.f k t319 t325).bind fun t328 => (some t328)))))) else (some false))) = some r := H
  have A4 := Aside0.mk A40
  clear A40
  by_cases c5 : t315 = 0
  · rw [if_pos c5] at H
    have c5b0 : (t315 == 0) = true := beq_iff_eq.mpr c5
    have c5b1 : (t315 != 0) = false := bne_eq_false_iff_eq.mpr c5
    clear c5
    obtain rfl := Option.some.inj H
    go_enter Try.func6, Try.ntmps6
    go_wp2_with (first | ((with_reducible refine gate_dst (N := 2) rfl ?_); refine box_event ?hg (N := 2) ?hd (cs := #[.int .i64 a0_0, .slice A0_1 l0_1.length c0_1, .slice A0_2 l0_2.length c0_2]) (t := 43) ?hr ?_; (case hd => rfl); (case hg => rfl); (case hr => first | (go_simp; done) | (go_simp; rfl)); intro gb313 hg w6 hbox hb; have n0_ := Aside0.mk (below_step (by repeat (first | (with_reducible first | exact HB.out | apply below_alloc | apply pw_below_drewN | apply below_drew1) | exact HB.out)) hb); have n1_ := Aside0.mk (hbox); have n2_ := Aside0.mk ((by rw [hg]; exact (below_size (by repeat (first | (with_reducible first | exact HB.out | apply below_alloc | apply pw_below_drewN | apply below_drew1) | exact HB.out))) : w.heap.size ≤ gb313)); have n3_ := Aside0.mk ((by rw [hg]; exact (below_size (by repeat (first | (with_reducible first | exact HB.out | apply below_alloc | apply pw_below_drewN | apply below_drew1) | exact HB.out))) : w.heap.size ≤ gb313)); clear HB; have HB := n0_; have BK313 := n1_; have GW313 := n2_; have GE313 := n3_; clear n0_ n1_ n2_ n3_; clear hb hbox hg) | ((with_reducible refine gate_callee (f := 7) rfl ?_); refine goesL_ (some 6) rfl rfl Try.func7 (by kernel_rfl) rfl #[] rfl (by (try simp only [List.map_toArray, List.map_cons, List.map_nil]); first | done | rfl | (simp only [List.length_drop, List.length_take]; rfl)) ?_; (with_reducible refine (gumshoelaw15_shown.calls k  t314 _ A3.out).mono ?_); rintro e w7 ⟨rfl, hb⟩; refine ⟨_, rfl, ?_⟩; have n0_ := Aside0.mk (blk_below (g := gb313) (o := .cells #[.int .i64 a0_0, .slice A0_1 l0_1.length c0_1, .slice A0_2 l0_2.length c0_2] 43 (0, 0)) (by (with_reducible repeat (first | refine blk_drewN ?_ _ | refine blk_drew ?_ | refine blk_alloc ?_ _)); exact BK313.out) hb); have n1_ := Aside0.mk (below_step (by repeat (first | (with_reducible first | exact HB.out | apply below_alloc | apply pw_below_drewN | apply below_drew1 | refine below_set ?_ GE313.out) | exact HB.out)) hb); clear BK313; clear HB; have BK313 := n0_; have HB := n1_; clear n0_ n1_; (try clear hb); (try clear hb2); (try clear hk); (try clear hi); have hcz8_0 : w7.cell? ⟨gb313, 0, none⟩ = some (.int .i64 a0_0) := (blk_cell BK313.out 0).trans rfl; have hcz8_1 : w7.cell? ⟨gb313, 1, none⟩ = some (.slice A0_1 l0_1.length c0_1) := (blk_cell BK313.out 1).trans rfl; have hcz8_2 : w7.cell? ⟨gb313, 2, none⟩ = some (.slice A0_2 l0_2.length c0_2) := (blk_cell BK313.out 2).trans rfl; have hfz8_0 := blk_frozen BK313.out 0; have hfz8_1 := blk_frozen BK313.out 1; have hfz8_2 := blk_frozen BK313.out 2) | ((with_reducible refine gate_callee (f := 21) rfl ?_); refine goesL_ (some 8) rfl rfl Try.func21 (by kernel_rfl) rfl #[.agg #[.int .i64 a0_0, .slice A0_1 l0_1.length c0_1, .slice A0_2 l0_2.length c0_2]] rfl (by (try simp only [List.map_toArray, List.map_cons, List.map_nil]); first | done | rfl | (simp only [List.length_drop, List.length_take]; rfl)) ?_; (with_reducible refine (gumshoelaw13_Small.calls k a0_0 _ _ l0_1 _ _ l0_2 t315 _ ?side1 ?side2 ?side3 ?side4 A4.out).mono ?_); (case side1 => repeat (first | exact (Kd.C_below HR0_1.out HB.out) | (with_reducible refine Kd.C_alloc ?_ _) | (with_reducible refine Kd.C_drewN ?_ _) | (with_reducible refine Kd.C_drew ?_))); (case side2 => exact HC0_1.out); (case side3 => repeat (first | exact (Kd.C_below HR0_2.out HB.out) | (with_reducible refine Kd.C_alloc ?_ _) | (with_reducible refine Kd.C_drewN ?_ _) | (with_reducible refine Kd.C_drew ?_))); (case side4 => exact HC0_2.out); rintro e w9 ⟨rfl, hb⟩; refine ⟨_, rfl, ?_⟩; have n0_ := Aside0.mk (blk_below (g := gb313) (o := .cells #[.int .i64 a0_0, .slice A0_1 l0_1.length c0_1, .slice A0_2 l0_2.length c0_2] 43 (0, 0)) (by (with_reducible repeat (first | refine blk_drewN ?_ _ | refine blk_drew ?_ | refine blk_alloc ?_ _)); exact BK313.out) hb); have n1_ := Aside0.mk (below_step (by repeat (first | (with_reducible first | exact HB.out | apply below_alloc | apply pw_below_drewN | apply below_drew1 | refine below_set ?_ GE313.out) | exact HB.out)) hb); clear BK313; clear HB; have BK313 := n0_; have HB := n1_; clear n0_ n1_; (try clear hb); (try clear hb2); (try clear hk); (try clear hi)))
    go_ret
    exact ⟨by first | rfl | (simp [errW_none, errW_some] <;> rfl) | (simp [*, errW_none, errW_some] <;> rfl) | (simp [*, errW_none, errW_some]; exact (fun (l_ : List UInt8) => (by cases l_ <;> rfl : l_.isEmpty = !(l_ != []))) _), by repeat (first | (with_reducible first | exact HB.out | apply below_alloc | apply pw_below_drewN | apply below_drew1 | refine below_set ?_ GE313.out) | exact HB.out)⟩
  · rw [if_neg c5] at H
    have c5b0 : (t315 == 0) = false := beq_eq_false_iff_ne.mpr c5
    have c5b1 : (t315 != 0) = true := bne_iff_ne.mpr c5
    by_cases c10 : t314 = true
    · subst c10
      have H1 : ((gumshoelaw15_few.f l1).bind fun t316 => ((graph_Edges.f a0_0 l0_1 l0_2 t316).bind fun t319 => ((gumshoelaw15_few.f l1).bind fun t322 => ((gumshoeref15_Edges.f k a0_0 l0_1 l0_2 t322).bind fun t325 => ((gumshoeref15_Same.f k t319 t325).bind fun t328 => (some t328)))))) = some r := by rw [if_pos rfl] at H; exact H
      clear H
      have H := H1
      clear H1
      replace H := Option.bind_eq_some_iff.mp H
      obtain ⟨t316, A110, H⟩ := H
      replace H : ((graph_Edges.f a0_0 l0_1 l0_2 t316).bind fun t319 => ((gumshoelaw15_few.f l1).bind fun t322 => ((gumshoeref15_Edges.f k a0_0 l0_1 l0_2 t322).bind fun t325 => ((gumshoeref15_Same.f k t319 t325).bind fun t328 => (some t328))))) = some r := H
      have A11 := Aside0.mk A110
      clear A110
      replace H := Option.bind_eq_some_iff.mp H
      obtain ⟨t319, A120, H⟩ := H
      replace H : ((gumshoelaw15_few.f l1).bind fun t322 => ((gumshoeref15_Edges.f k a0_0 l0_1 l0_2 t322).bind fun t325 => ((gumshoeref15_Same.f k t319 t325).bind fun t328 => (some t328)))) = some r := H
      have A12 := Aside0.mk A120
      clear A120
      replace H := Option.bind_eq_some_iff.mp H
      obtain ⟨t322, A130, H⟩ := H
      replace H : ((gumshoeref15_Edges.f k a0_0 l0_1 l0_2 t322).bind fun t325 => ((gumshoeref15_Same.f k t319 t325).bind fun t328 => (some t328))) = some r := H
      have A13 := Aside0.mk A130
      clear A130
      replace H := Option.bind_eq_some_iff.mp H
      obtain ⟨t325, A140, H⟩ := H
      replace H : ((gumshoeref15_Same.f k t319 t325).bind fun t328 => (some t328)) = some r := H
      have A14 := Aside0.mk A140
      clear A140
      replace H := Option.bind_eq_some_iff.mp H
      obtain ⟨t328, A150, H⟩ := H
      replace H : (some t328) = some r := H
      have A15 := Aside0.mk A150
      clear A150
      obtain rfl := Option.some.inj H
      go_enter Try.func6, Try.ntmps6
      try go_wp2_with (first | ((with_reducible refine gate_dst (N := 2) rfl ?_); refine box_event ?hg (N := 2) ?hd (cs := #[.int .i64 a0_0, .slice A0_1 l0_1.length c0_1, .slice A0_2 l0_2.length c0_2]) (t := 43) ?hr ?_; (case hd => rfl); (case hg => rfl); (case hr => first | (go_simp; done) | (go_simp; rfl)); intro gb313 hg w16 hbox hb; have n0_ := Aside0.mk (below_step (by repeat (first | (with_reducible first | exact HB.out | apply below_alloc | apply pw_below_drewN | apply below_drew1) | exact HB.out)) hb); have n1_ := Aside0.mk (hbox); have n2_ := Aside0.mk ((by rw [hg]; exact (below_size (by repeat (first | (with_reducible first | exact HB.out | apply below_alloc | apply pw_below_drewN | apply below_drew1) | exact HB.out))) : w.heap.size ≤ gb313)); have n3_ := Aside0.mk ((by rw [hg]; exact (below_size (by repeat (first | (with_reducible first | exact HB.out | apply below_alloc | apply pw_below_drewN | apply below_drew1) | exact HB.out))) : w.heap.size ≤ gb313)); clear HB; have HB := n0_; have BK313 := n1_; have GW313 := n2_; have GE313 := n3_; clear n0_ n1_ n2_ n3_; clear hb hbox hg) | ((with_reducible refine gate_callee (f := 7) rfl ?_); refine goesL_ (some 6) rfl rfl Try.func7 (by kernel_rfl) rfl #[] rfl (by (try simp only [List.map_toArray, List.map_cons, List.map_nil]); first | done | rfl | (simp only [List.length_drop, List.length_take]; rfl)) ?_; (with_reducible refine (gumshoelaw15_shown.calls k  true _ A3.out).mono ?_); rintro e w17 ⟨rfl, hb⟩; refine ⟨_, rfl, ?_⟩; have n0_ := Aside0.mk (blk_below (g := gb313) (o := .cells #[.int .i64 a0_0, .slice A0_1 l0_1.length c0_1, .slice A0_2 l0_2.length c0_2] 43 (0, 0)) (by (with_reducible repeat (first | refine blk_drewN ?_ _ | refine blk_drew ?_ | refine blk_alloc ?_ _)); exact BK313.out) hb); have n1_ := Aside0.mk (below_step (by repeat (first | (with_reducible first | exact HB.out | apply below_alloc | apply pw_below_drewN | apply below_drew1 | refine below_set ?_ GE313.out) | exact HB.out)) hb); clear BK313; clear HB; have BK313 := n0_; have HB := n1_; clear n0_ n1_; (try clear hb); (try clear hb2); (try clear hk); (try clear hi); have hcz18_0 : w17.cell? ⟨gb313, 0, none⟩ = some (.int .i64 a0_0) := (blk_cell BK313.out 0).trans rfl; have hcz18_1 : w17.cell? ⟨gb313, 1, none⟩ = some (.slice A0_1 l0_1.length c0_1) := (blk_cell BK313.out 1).trans rfl; have hcz18_2 : w17.cell? ⟨gb313, 2, none⟩ = some (.slice A0_2 l0_2.length c0_2) := (blk_cell BK313.out 2).trans rfl; have hfz18_0 := blk_frozen BK313.out 0; have hfz18_1 := blk_frozen BK313.out 1; have hfz18_2 := blk_frozen BK313.out 2) | ((with_reducible refine gate_callee (f := 21) rfl ?_); refine goesL_ (some 8) rfl rfl Try.func21 (by kernel_rfl) rfl #[.agg #[.int .i64 a0_0, .slice A0_1 l0_1.length c0_1, .slice A0_2 l0_2.length c0_2]] rfl (by (try simp only [List.map_toArray, List.map_cons, List.map_nil]); first | done | rfl | (simp only [List.length_drop, List.length_take]; rfl)) ?_; (with_reducible refine (gumshoelaw13_Small.calls k a0_0 _ _ l0_1 _ _ l0_2 t315 _ ?side1 ?side2 ?side3 ?side4 A4.out).mono ?_); (case side1 => repeat (first | exact (Kd.C_below HR0_1.out HB.out) | (with_reducible refine Kd.C_alloc ?_ _) | (with_reducible refine Kd.C_drewN ?_ _) | (with_reducible refine Kd.C_drew ?_))); (case side2 => exact HC0_1.out); (case side3 => repeat (first | exact (Kd.C_below HR0_2.out HB.out) | (with_reducible refine Kd.C_alloc ?_ _) | (with_reducible refine Kd.C_drewN ?_ _) | (with_reducible refine Kd.C_drew ?_))); (case side4 => exact HC0_2.out); rintro e w19 ⟨rfl, hb⟩; refine ⟨_, rfl, ?_⟩; have n0_ := Aside0.mk (blk_below (g := gb313) (o := .cells #[.int .i64 a0_0, .slice A0_1 l0_1.length c0_1, .slice A0_2 l0_2.length c0_2] 43 (0, 0)) (by (with_reducible repeat (first | refine blk_drewN ?_ _ | refine blk_drew ?_ | refine blk_alloc ?_ _)); exact BK313.out) hb); have n1_ := Aside0.mk (below_step (by repeat (first | (with_reducible first | exact HB.out | apply below_alloc | apply pw_below_drewN | apply below_drew1 | refine below_set ?_ GE313.out) | exact HB.out)) hb); clear BK313; clear HB; have BK313 := n0_; have HB := n1_; clear n0_ n1_; (try clear hb); (try clear hb2); (try clear hk); (try clear hi)))
      have n0_ := Aside0.mk (blk_drew BK313.out)
      have n1_ := Aside0.mk (below_drew1 HB.out)
      clear BK313
      clear HB
      have BK313 := n0_
      have HB := n1_
      clear n0_ n1_
      refine start_ (n := 13) (S := fun w' => w'.cell? ⟨gb313, 0, none⟩ = some (.int .i64 a0_0) ∧ w'.cell? ⟨gb313, 1, none⟩ = some (.slice A0_1 l0_1.length c0_1) ∧ w'.cell? ⟨gb313, 2, none⟩ = some (.slice A0_2 l0_2.length c0_2)) (ds := []) #[false, false, false, false, false, false, false, false, false, false, false, false, false] (by kernel_rfl) rfl rfl ⟨(blk_cell BK313.out 0).trans rfl, (blk_cell BK313.out 1).trans rfl, (blk_cell BK313.out 2).trans rfl⟩ (fun hHeld => ?_); refine with_tabW gumshoelaw15_GraphEdges.tab4 gumshoelaw15_GraphEdges.bits4 (fun HT_ HW_ => ?_)
      generalize w19.drew = w20 at BK313 HB hHeld ⊢
      refine pure_ (i := 0) (N := some 11) (v := ?_) (a' := ?_) #[true, false, false, false, false, false, false, false, false, false, false, false, false] rfl rfl (any_of HT_.out (by kernel_rfl)) (fun _ _ _ h => h) (Or.inl ⟨by rfl, ?_⟩) ?_ ?_
      rotate_left
      · intro w'
        go_simp
        with_reducible rfl
      rotate_left
      · simp only [Act.put, List.setIfInBounds_toArray, List.set_cons_zero, List.set_cons_succ, i64_w, i32_w]
        rfl
      refine pure_ (i := 1) (N := some 12) (v := ?_) (a' := ?_) #[true, true, false, false, false, false, false, false, false, false, false, false, false] rfl rfl (any_of HT_.out (by kernel_rfl)) (fun _ _ _ h => h) (Or.inl ⟨by rfl, ?_⟩) ?_ ?_
      rotate_left
      · intro w'
        go_simp
        with_reducible rfl
      rotate_left
      · simp only [Act.put, List.setIfInBounds_toArray, List.set_cons_zero, List.set_cons_succ, i64_w, i32_w]
        rfl
      refine pure_ (i := 3) (N := some 14) (v := ?_) (a' := ?_) #[true, true, false, true, false, false, false, false, false, false, false, false, false] rfl rfl (any_of HT_.out (by kernel_rfl)) (fun _ _ _ h => h) (Or.inl ⟨by rfl, ?_⟩) ?_ ?_
      rotate_left
      · intro w'
        go_simp
        with_reducible rfl
      rotate_left
      · simp only [Act.put, List.setIfInBounds_toArray, List.set_cons_zero, List.set_cons_succ, i64_w, i32_w]
        rfl
      refine pure_ (i := 7) (N := some 18) (v := ?_) (a' := ?_) #[true, true, false, true, false, false, false, true, false, false, false, false, false] rfl rfl (any_of HT_.out (by kernel_rfl)) (fun _ _ _ h => h) (Or.inl ⟨by rfl, ?_⟩) ?_ ?_
      rotate_left
      · intro w'
        go_simp
        with_reducible rfl
      rotate_left
      · simp only [Act.put, List.setIfInBounds_toArray, List.set_cons_zero, List.set_cons_succ, i64_w, i32_w]
        rfl
      refine take_ (i := 2) (N := some 13) (v := ?_) (a' := ?_) #[true, true, true, true, false, false, false, true, false, false, false, false, false] rfl rfl (take_ofW HT_.out HW_.out (by kernel_rfl)) (fun _ _ _ h => h) (Or.inl ⟨by rfl, ?_⟩) hHeld ?_ ?_
      rotate_left
      · rintro w' ⟨s0, s1, s2⟩
        go_simp
        with_reducible rfl
      rotate_left
      · simp only [Act.put, List.setIfInBounds_toArray, List.set_cons_zero, List.set_cons_succ, i64_w, i32_w]
        rfl
      refine take_ (i := 6) (N := some 17) (v := ?_) (a' := ?_) #[true, true, true, true, false, false, true, true, false, false, false, false, false] rfl rfl (take_ofW HT_.out HW_.out (by kernel_rfl)) (fun _ _ _ h => h) (Or.inl ⟨by rfl, ?_⟩) hHeld ?_ ?_
      rotate_left
      · rintro w' ⟨s0, s1, s2⟩
        go_simp
        with_reducible rfl
      rotate_left
      · simp only [Act.put, List.setIfInBounds_toArray, List.set_cons_zero, List.set_cons_succ, i64_w, i32_w]
        rfl
      refine one_ (i := 4) (N := some 15) #[true, true, true, true, true, false, true, true, false, false, false, false, false] rfl rfl (one_of HT_.out (by kernel_rfl)) (by decide) (fun K hK => ?_)
      refine goes_ Try.func17 (by kernel_rfl) rfl #[.slice A1 l1.length c1] (by rfl) rfl rfl (by (try simp only [List.map_toArray, List.map_cons, List.map_nil]); first | done | rfl | (simp only [List.length_drop, List.length_take]; rfl)) ?_
      with_reducible refine (gumshoelaw15_few.calls (fun k_ => k_ < w.heap.size) _ _ l1 t316 _ ?side1 A11.out).mono ?_
      (case side1 => exact Kd.V_mk HC1.out (Kd.F_below (Kd.C_F k49_heap HR1.out) (by repeat (first | (with_reducible first | exact HB.out | apply below_alloc | apply pw_below_drewN | apply below_drew1 | refine below_set ?_ GE313.out) | exact HB.out))))
      rintro e w21 ⟨v317, rfl, ho0, hb⟩
      refine ⟨_, rfl, ?_⟩
      have n0_ := Aside0.mk (Kd.V_lower (Kd.V_mono (ok' := fun k_ => k_ ≠ gb313) ho0 (fun k_ hk_ => Or.elim hk_ (fun hs_ => fun e_ => Nat.not_le.2 hs_ (by rw [e_]; exact GW313.out)) (fun hn_ => (Kd.freshB (g := gb313) (o := .cells #[.int .i64 a0_0, .slice A0_1 l0_1.length c0_1, .slice A0_2 l0_2.length c0_2] 43 (0, 0)) (by (with_reducible repeat (first | refine blk_drewN ?_ _ | refine blk_drew ?_ | refine blk_alloc ?_ _)); exact BK313.out) k_ hn_)))) (below_size (by repeat (first | (with_reducible first | exact HB.out | apply below_alloc | apply pw_below_drewN | apply below_drew1 | refine below_set ?_ GE313.out) | exact HB.out))))
      have n1_ := Aside0.mk (blk_below (g := gb313) (o := .cells #[.int .i64 a0_0, .slice A0_1 l0_1.length c0_1, .slice A0_2 l0_2.length c0_2] 43 (0, 0)) (by (with_reducible repeat (first | refine blk_drewN ?_ _ | refine blk_drew ?_ | refine blk_alloc ?_ _)); exact BK313.out) hb)
      have n2_ := Aside0.mk (below_step (by repeat (first | (with_reducible first | exact HB.out | apply below_alloc | apply pw_below_drewN | apply below_drew1 | refine below_set ?_ GE313.out) | exact HB.out)) hb)
      clear BK313
      clear HB
      have HO318 := n0_
      have BK313 := n1_
      have HB := n2_
      clear n0_ n1_ n2_
      (try clear hb)
      (try clear hb2)
      (try clear hk)
      (try clear hi)
      (try clear ho0)
      obtain ⟨Ao22, co22, eo22⟩ := Kd.V_slice HO318.out
      (first | subst eo22 | (injection eo22 with f1_ f2_ f3_; have f4_ := f1_.symm; have f5_ := f3_.symm; clear f1_ f2_ f3_; subst f4_; subst f5_))
      refine hK.out _ _ ⟨(blk_cell BK313.out 0).trans rfl, (blk_cell BK313.out 1).trans rfl, (blk_cell BK313.out 2).trans rfl⟩ (fun hHeld => ?_)
      clear hK K
      refine norm_ (a' := ?_) ?_ ?_
      rotate_left
      · show Act.put _ (some 15) _ = _
        simp only [Act.put, List.setIfInBounds_toArray, List.set_cons_zero, List.set_cons_succ, i64_w, i32_w]
        rfl
      refine one_ (i := 5) (N := some 16) #[true, true, true, true, true, true, true, true, false, false, false, false, false] rfl rfl (one_of HT_.out (by kernel_rfl)) (by decide) (fun K hK => ?_)
      refine goes_ Try.func23 (by kernel_rfl) rfl #[.agg #[.int .i64 a0_0, .slice A0_1 l0_1.length c0_1, .slice A0_2 l0_2.length c0_2], .slice Ao22 t316.length co22] (by rfl) rfl rfl (by (try simp only [List.map_toArray, List.map_cons, List.map_nil]); first | done | rfl | (simp only [List.length_drop, List.length_take]; rfl)) ?_
      with_reducible refine (graph_Edges.calls a0_0 _ _ l0_1 _ _ l0_2 _ _ t316 t319 _ ?side1 ?side2 ?side3 ?side4 ?side5 ?side6 A12.out).mono ?_
      (case side1 => repeat (first | exact (Kd.C_below HR0_1.out HB.out) | (with_reducible refine Kd.C_alloc ?_ _) | (with_reducible refine Kd.C_drewN ?_ _) | (with_reducible refine Kd.C_drew ?_)))
      (case side2 => exact HC0_1.out)
      (case side3 => repeat (first | exact (Kd.C_below HR0_2.out HB.out) | (with_reducible refine Kd.C_alloc ?_ _) | (with_reducible refine Kd.C_drewN ?_ _) | (with_reducible refine Kd.C_drew ?_)))
      (case side4 => exact HC0_2.out)
      (case side5 => repeat (first | exact (Kd.V_reads' HO318.out).2.2 | (with_reducible refine Kd.C_alloc ?_ _) | (with_reducible refine Kd.C_drewN ?_ _) | (with_reducible refine Kd.C_drew ?_)))
      (case side6 => exact (Kd.V_reads' HO318.out).2.1)
      rintro e w23 ⟨v320, rfl, ho0, hb⟩
      refine ⟨_, rfl, ?_⟩
      have n0_ := Aside0.mk (Kd.V_below (by (with_reducible repeat (first | apply Kd.V_alloc | apply Kd.V_drewN | apply Kd.V_drew)); exact HO318.out) hb)
      have n1_ := Aside0.mk (Kd.V_lower (Kd.V_mono (ok' := fun k_ => k_ ≠ gb313) ho0 (fun k_ hk_ => (Kd.freshB (g := gb313) (o := .cells #[.int .i64 a0_0, .slice A0_1 l0_1.length c0_1, .slice A0_2 l0_2.length c0_2] 43 (0, 0)) (by (with_reducible repeat (first | refine blk_drewN ?_ _ | refine blk_drew ?_ | refine blk_alloc ?_ _)); exact BK313.out) k_ hk_))) (below_size (by repeat (first | (with_reducible first | exact HB.out | apply below_alloc | apply pw_below_drewN | apply below_drew1 | refine below_set ?_ GE313.out) | exact HB.out))))
      have n2_ := Aside0.mk (blk_below (g := gb313) (o := .cells #[.int .i64 a0_0, .slice A0_1 l0_1.length c0_1, .slice A0_2 l0_2.length c0_2] 43 (0, 0)) (by (with_reducible repeat (first | refine blk_drewN ?_ _ | refine blk_drew ?_ | refine blk_alloc ?_ _)); exact BK313.out) hb)
      have n3_ := Aside0.mk (below_step (by repeat (first | (with_reducible first | exact HB.out | apply below_alloc | apply pw_below_drewN | apply below_drew1 | refine below_set ?_ GE313.out) | exact HB.out)) hb)
      clear HO318
      clear BK313
      clear HB
      have HO318 := n0_
      have HO321 := n1_
      have BK313 := n2_
      have HB := n3_
      clear n0_ n1_ n2_ n3_
      (try clear hb)
      (try clear hb2)
      (try clear hk)
      (try clear hi)
      (try clear ho0)
      refine hK.out _ _ ⟨(blk_cell BK313.out 0).trans rfl, (blk_cell BK313.out 1).trans rfl, (blk_cell BK313.out 2).trans rfl⟩ (fun hHeld => ?_)
      clear hK K
      refine norm_ (a' := ?_) ?_ ?_
      rotate_left
      · show Act.put _ (some 16) _ = _
        simp only [Act.put, List.setIfInBounds_toArray, List.set_cons_zero, List.set_cons_succ, i64_w, i32_w]
        rfl
      refine one_ (i := 8) (N := some 19) #[true, true, true, true, true, true, true, true, true, false, false, false, false] rfl rfl (one_of HT_.out (by kernel_rfl)) (by decide) (fun K hK => ?_)
      refine goes_ Try.func17 (by kernel_rfl) rfl #[.slice A1 l1.length c1] (by rfl) rfl rfl (by (try simp only [List.map_toArray, List.map_cons, List.map_nil]); first | done | rfl | (simp only [List.length_drop, List.length_take]; rfl)) ?_
      with_reducible refine (gumshoelaw15_few.calls (fun k_ => k_ < w.heap.size) _ _ l1 t322 _ ?side1 A13.out).mono ?_
      (case side1 => exact Kd.V_mk HC1.out (Kd.F_below (Kd.C_F k49_heap HR1.out) (by repeat (first | (with_reducible first | exact HB.out | apply below_alloc | apply pw_below_drewN | apply below_drew1 | refine below_set ?_ GE313.out) | exact HB.out))))
      rintro e w24 ⟨v323, rfl, ho0, hb⟩
      refine ⟨_, rfl, ?_⟩
      have n0_ := Aside0.mk (Kd.V_below (by (with_reducible repeat (first | apply Kd.V_alloc | apply Kd.V_drewN | apply Kd.V_drew)); exact HO318.out) hb)
      have n1_ := Aside0.mk (Kd.V_below (by (with_reducible repeat (first | apply Kd.V_alloc | apply Kd.V_drewN | apply Kd.V_drew)); exact HO321.out) hb)
      have n2_ := Aside0.mk (Kd.V_lower (Kd.V_mono (ok' := fun k_ => k_ ≠ gb313) ho0 (fun k_ hk_ => Or.elim hk_ (fun hs_ => fun e_ => Nat.not_le.2 hs_ (by rw [e_]; exact GW313.out)) (fun hn_ => (Kd.freshB (g := gb313) (o := .cells #[.int .i64 a0_0, .slice A0_1 l0_1.length c0_1, .slice A0_2 l0_2.length c0_2] 43 (0, 0)) (by (with_reducible repeat (first | refine blk_drewN ?_ _ | refine blk_drew ?_ | refine blk_alloc ?_ _)); exact BK313.out) k_ hn_)))) (below_size (by repeat (first | (with_reducible first | exact HB.out | apply below_alloc | apply pw_below_drewN | apply below_drew1 | refine below_set ?_ GE313.out) | exact HB.out))))
      have n3_ := Aside0.mk (blk_below (g := gb313) (o := .cells #[.int .i64 a0_0, .slice A0_1 l0_1.length c0_1, .slice A0_2 l0_2.length c0_2] 43 (0, 0)) (by (with_reducible repeat (first | refine blk_drewN ?_ _ | refine blk_drew ?_ | refine blk_alloc ?_ _)); exact BK313.out) hb)
      have n4_ := Aside0.mk (below_step (by repeat (first | (with_reducible first | exact HB.out | apply below_alloc | apply pw_below_drewN | apply below_drew1 | refine below_set ?_ GE313.out) | exact HB.out)) hb)
      clear HO318
      clear HO321
      clear BK313
      clear HB
      have HO318 := n0_
      have HO321 := n1_
      have HO324 := n2_
      have BK313 := n3_
      have HB := n4_
      clear n0_ n1_ n2_ n3_ n4_
      (try clear hb)
      (try clear hb2)
      (try clear hk)
      (try clear hi)
      (try clear ho0)
      obtain ⟨Ao25, co25, eo25⟩ := Kd.V_slice HO324.out
      (first | subst eo25 | (injection eo25 with f1_ f2_ f3_; have f4_ := f1_.symm; have f5_ := f3_.symm; clear f1_ f2_ f3_; subst f4_; subst f5_))
      refine hK.out _ _ ⟨(blk_cell BK313.out 0).trans rfl, (blk_cell BK313.out 1).trans rfl, (blk_cell BK313.out 2).trans rfl⟩ (fun hHeld => ?_)
      clear hK K
      refine norm_ (a' := ?_) ?_ ?_
      rotate_left
      · show Act.put _ (some 19) _ = _
        simp only [Act.put, List.setIfInBounds_toArray, List.set_cons_zero, List.set_cons_succ, i64_w, i32_w]
        rfl
      refine one_ (i := 9) (N := some 20) #[true, true, true, true, true, true, true, true, true, true, false, false, false] rfl rfl (one_of HT_.out (by kernel_rfl)) (by decide) (fun K hK => ?_)
      refine goes_ Try.func24 (by kernel_rfl) rfl #[.agg #[.int .i64 a0_0, .slice A0_1 l0_1.length c0_1, .slice A0_2 l0_2.length c0_2], .slice Ao25 t322.length co25] (by rfl) rfl rfl (by (try simp only [List.map_toArray, List.map_cons, List.map_nil]); first | done | rfl | (simp only [List.length_drop, List.length_take]; rfl)) ?_
      with_reducible refine (gumshoeref15_Edges.calls k a0_0 _ _ l0_1 _ _ l0_2 _ _ t322 t325 _ ?side1 ?side2 ?side3 ?side4 ?side5 ?side6 A14.out).mono ?_
      (case side1 => repeat (first | exact (Kd.C_below HR0_1.out HB.out) | (with_reducible refine Kd.C_alloc ?_ _) | (with_reducible refine Kd.C_drewN ?_ _) | (with_reducible refine Kd.C_drew ?_)))
      (case side2 => exact HC0_1.out)
      (case side3 => repeat (first | exact (Kd.C_below HR0_2.out HB.out) | (with_reducible refine Kd.C_alloc ?_ _) | (with_reducible refine Kd.C_drewN ?_ _) | (with_reducible refine Kd.C_drew ?_)))
      (case side4 => exact HC0_2.out)
      (case side5 => repeat (first | exact (Kd.V_reads' HO324.out).2.2 | (with_reducible refine Kd.C_alloc ?_ _) | (with_reducible refine Kd.C_drewN ?_ _) | (with_reducible refine Kd.C_drew ?_)))
      (case side6 => exact (Kd.V_reads' HO324.out).2.1)
      rintro e w26 ⟨v326, rfl, ho0, hb⟩
      refine ⟨_, rfl, ?_⟩
      have n0_ := Aside0.mk (Kd.V_below (by (with_reducible repeat (first | apply Kd.V_alloc | apply Kd.V_drewN | apply Kd.V_drew)); exact HO318.out) hb)
      have n1_ := Aside0.mk (Kd.V_below (by (with_reducible repeat (first | apply Kd.V_alloc | apply Kd.V_drewN | apply Kd.V_drew)); exact HO321.out) hb)
      have n2_ := Aside0.mk (Kd.V_below (by (with_reducible repeat (first | apply Kd.V_alloc | apply Kd.V_drewN | apply Kd.V_drew)); exact HO324.out) hb)
      have n3_ := Aside0.mk (Kd.V_lower (Kd.V_mono (ok' := fun k_ => k_ ≠ gb313) ho0 (fun k_ hk_ => (Kd.freshB (g := gb313) (o := .cells #[.int .i64 a0_0, .slice A0_1 l0_1.length c0_1, .slice A0_2 l0_2.length c0_2] 43 (0, 0)) (by (with_reducible repeat (first | refine blk_drewN ?_ _ | refine blk_drew ?_ | refine blk_alloc ?_ _)); exact BK313.out) k_ hk_))) (below_size (by repeat (first | (with_reducible first | exact HB.out | apply below_alloc | apply pw_below_drewN | apply below_drew1 | refine below_set ?_ GE313.out) | exact HB.out))))
      have n4_ := Aside0.mk (blk_below (g := gb313) (o := .cells #[.int .i64 a0_0, .slice A0_1 l0_1.length c0_1, .slice A0_2 l0_2.length c0_2] 43 (0, 0)) (by (with_reducible repeat (first | refine blk_drewN ?_ _ | refine blk_drew ?_ | refine blk_alloc ?_ _)); exact BK313.out) hb)
      have n5_ := Aside0.mk (below_step (by repeat (first | (with_reducible first | exact HB.out | apply below_alloc | apply pw_below_drewN | apply below_drew1 | refine below_set ?_ GE313.out) | exact HB.out)) hb)
      clear HO318
      clear HO321
      clear HO324
      clear BK313
      clear HB
      have HO318 := n0_
      have HO321 := n1_
      have HO324 := n2_
      have HO327 := n3_
      have BK313 := n4_
      have HB := n5_
      clear n0_ n1_ n2_ n3_ n4_ n5_
      (try clear hb)
      (try clear hb2)
      (try clear hk)
      (try clear hi)
      (try clear ho0)
      obtain ⟨Ao27, co27, eo27⟩ := Kd.V_slice HO321.out
      (first | subst eo27 | (injection eo27 with f1_ f2_ f3_; have f4_ := f1_.symm; have f5_ := f3_.symm; clear f1_ f2_ f3_; subst f4_; subst f5_))
      obtain ⟨Ao28, co28, eo28⟩ := Kd.V_slice HO327.out
      (first | subst eo28 | (injection eo28 with f1_ f2_ f3_; have f4_ := f1_.symm; have f5_ := f3_.symm; clear f1_ f2_ f3_; subst f4_; subst f5_))
      refine hK.out _ _ ⟨(blk_cell BK313.out 0).trans rfl, (blk_cell BK313.out 1).trans rfl, (blk_cell BK313.out 2).trans rfl⟩ (fun hHeld => ?_)
      clear hK K
      refine norm_ (a' := ?_) ?_ ?_
      rotate_left
      · show Act.put _ (some 20) _ = _
        simp only [Act.put, List.setIfInBounds_toArray, List.set_cons_zero, List.set_cons_succ, i64_w, i32_w]
        rfl
      refine one_ (i := 10) (N := some 21) #[true, true, true, true, true, true, true, true, true, true, true, false, false] rfl rfl (one_of HT_.out (by kernel_rfl)) (by decide) (fun K hK => ?_)
      refine goes_ Try.func22 (by kernel_rfl) rfl #[.slice Ao27 t319.length co27, .slice Ao28 t325.length co28] (by rfl) rfl rfl (by (try simp only [List.map_toArray, List.map_cons, List.map_nil]); first | done | rfl | (simp only [List.length_drop, List.length_take]; rfl)) ?_
      with_reducible refine (gumshoeref15_Same.calls k _ _ t319 _ _ t325 t328 _ ?side1 ?side2 ?side3 ?side4 A15.out).mono ?_
      (case side1 => repeat (first | exact (Kd.V_reads' HO321.out).2.2 | (with_reducible refine Kd.C_alloc ?_ _) | (with_reducible refine Kd.C_drewN ?_ _) | (with_reducible refine Kd.C_drew ?_)))
      (case side2 => exact (Kd.V_reads' HO321.out).2.1)
      (case side3 => repeat (first | exact (Kd.V_reads' HO327.out).2.2 | (with_reducible refine Kd.C_alloc ?_ _) | (with_reducible refine Kd.C_drewN ?_ _) | (with_reducible refine Kd.C_drew ?_)))
      (case side4 => exact (Kd.V_reads' HO327.out).2.1)
      rintro e w' ⟨rfl, ⟨nd, rfl⟩⟩
      refine ⟨_, rfl, ?_⟩
      refine hK.out _ _ ⟨(blk_cell BK313.out 0).trans rfl, (blk_cell BK313.out 1).trans rfl, (blk_cell BK313.out 2).trans rfl⟩ (fun hHeld => ?_)
      clear hK K
      refine norm_ (a' := ?_) ?_ ?_
      rotate_left
      · show Act.put _ (some 21) _ = _
        simp only [Act.put, List.setIfInBounds_toArray, List.set_cons_zero, List.set_cons_succ, i64_w, i32_w]
        rfl
      refine pure_ (i := 11) (N := some 22) (v := ?_) (a' := ?_) #[true, true, true, true, true, true, true, true, true, true, true, true, false] rfl rfl (any_of HT_.out (by kernel_rfl)) (fun _ _ _ h => h) (Or.inl ⟨by rfl, ?_⟩) ?_ ?_
      rotate_left
      · intro w'
        go_simp
        with_reducible rfl
      rotate_left
      · simp only [Act.put, List.setIfInBounds_toArray, List.set_cons_zero, List.set_cons_succ, i64_w, i32_w]
        rfl
      refine pure_ (i := 12) (N := some 4) (v := ?_) (a' := ?_) #[true, true, true, true, true, true, true, true, true, true, true, true, true] rfl rfl (any_of HT_.out (by kernel_rfl)) (fun _ _ _ h => h) (Or.inl ⟨by rfl, ?_⟩) ?_ ?_
      rotate_left
      · intro w'
        go_simp
        with_reducible rfl
      rotate_left
      · simp only [Act.put, List.setIfInBounds_toArray, List.set_cons_zero, List.set_cons_succ, i64_w, i32_w]
        rfl
      refine done_ (done_of HT_.out (by kernel_rfl)) ?_
      try go_wp2
      go_ret
      exact ⟨by first | rfl | (simp [errW_none, errW_some] <;> rfl) | (simp [*, errW_none, errW_some] <;> rfl) | (simp [*, errW_none, errW_some]; exact (fun (l_ : List UInt8) => (by cases l_ <;> rfl : l_.isEmpty = !(l_ != []))) _), by repeat (first | (with_reducible first | exact HB.out | apply below_alloc | apply pw_below_drewN | apply below_drew1 | refine below_set ?_ GE313.out) | exact HB.out)⟩
    · replace c10 := Bool.eq_false_iff.mpr c10
      subst c10
      have H1 : (some false) = some r := by rw [if_neg (show ¬ (false = true) by decide)] at H; exact H
      clear H
      have H := H1
      clear H1
      obtain rfl := Option.some.inj H
      go_enter Try.func6, Try.ntmps6
      try go_wp2_with (first | ((with_reducible refine gate_dst (N := 2) rfl ?_); refine box_event ?hg (N := 2) ?hd (cs := #[.int .i64 a0_0, .slice A0_1 l0_1.length c0_1, .slice A0_2 l0_2.length c0_2]) (t := 43) ?hr ?_; (case hd => rfl); (case hg => rfl); (case hr => first | (go_simp; done) | (go_simp; rfl)); intro gb313 hg w29 hbox hb; have n0_ := Aside0.mk (below_step (by repeat (first | (with_reducible first | exact HB.out | apply below_alloc | apply pw_below_drewN | apply below_drew1) | exact HB.out)) hb); have n1_ := Aside0.mk (hbox); have n2_ := Aside0.mk ((by rw [hg]; exact (below_size (by repeat (first | (with_reducible first | exact HB.out | apply below_alloc | apply pw_below_drewN | apply below_drew1) | exact HB.out))) : w.heap.size ≤ gb313)); have n3_ := Aside0.mk ((by rw [hg]; exact (below_size (by repeat (first | (with_reducible first | exact HB.out | apply below_alloc | apply pw_below_drewN | apply below_drew1) | exact HB.out))) : w.heap.size ≤ gb313)); clear HB; have HB := n0_; have BK313 := n1_; have GW313 := n2_; have GE313 := n3_; clear n0_ n1_ n2_ n3_; clear hb hbox hg) | ((with_reducible refine gate_callee (f := 7) rfl ?_); refine goesL_ (some 6) rfl rfl Try.func7 (by kernel_rfl) rfl #[] rfl (by (try simp only [List.map_toArray, List.map_cons, List.map_nil]); first | done | rfl | (simp only [List.length_drop, List.length_take]; rfl)) ?_; (with_reducible refine (gumshoelaw15_shown.calls k  false _ A3.out).mono ?_); rintro e w30 ⟨rfl, hb⟩; refine ⟨_, rfl, ?_⟩; have n0_ := Aside0.mk (blk_below (g := gb313) (o := .cells #[.int .i64 a0_0, .slice A0_1 l0_1.length c0_1, .slice A0_2 l0_2.length c0_2] 43 (0, 0)) (by (with_reducible repeat (first | refine blk_drewN ?_ _ | refine blk_drew ?_ | refine blk_alloc ?_ _)); exact BK313.out) hb); have n1_ := Aside0.mk (below_step (by repeat (first | (with_reducible first | exact HB.out | apply below_alloc | apply pw_below_drewN | apply below_drew1 | refine below_set ?_ GE313.out) | exact HB.out)) hb); clear BK313; clear HB; have BK313 := n0_; have HB := n1_; clear n0_ n1_; (try clear hb); (try clear hb2); (try clear hk); (try clear hi); have hcz31_0 : w30.cell? ⟨gb313, 0, none⟩ = some (.int .i64 a0_0) := (blk_cell BK313.out 0).trans rfl; have hcz31_1 : w30.cell? ⟨gb313, 1, none⟩ = some (.slice A0_1 l0_1.length c0_1) := (blk_cell BK313.out 1).trans rfl; have hcz31_2 : w30.cell? ⟨gb313, 2, none⟩ = some (.slice A0_2 l0_2.length c0_2) := (blk_cell BK313.out 2).trans rfl; have hfz31_0 := blk_frozen BK313.out 0; have hfz31_1 := blk_frozen BK313.out 1; have hfz31_2 := blk_frozen BK313.out 2) | ((with_reducible refine gate_callee (f := 21) rfl ?_); refine goesL_ (some 8) rfl rfl Try.func21 (by kernel_rfl) rfl #[.agg #[.int .i64 a0_0, .slice A0_1 l0_1.length c0_1, .slice A0_2 l0_2.length c0_2]] rfl (by (try simp only [List.map_toArray, List.map_cons, List.map_nil]); first | done | rfl | (simp only [List.length_drop, List.length_take]; rfl)) ?_; (with_reducible refine (gumshoelaw13_Small.calls k a0_0 _ _ l0_1 _ _ l0_2 t315 _ ?side1 ?side2 ?side3 ?side4 A4.out).mono ?_); (case side1 => repeat (first | exact (Kd.C_below HR0_1.out HB.out) | (with_reducible refine Kd.C_alloc ?_ _) | (with_reducible refine Kd.C_drewN ?_ _) | (with_reducible refine Kd.C_drew ?_))); (case side2 => exact HC0_1.out); (case side3 => repeat (first | exact (Kd.C_below HR0_2.out HB.out) | (with_reducible refine Kd.C_alloc ?_ _) | (with_reducible refine Kd.C_drewN ?_ _) | (with_reducible refine Kd.C_drew ?_))); (case side4 => exact HC0_2.out); rintro e w32 ⟨rfl, hb⟩; refine ⟨_, rfl, ?_⟩; have n0_ := Aside0.mk (blk_below (g := gb313) (o := .cells #[.int .i64 a0_0, .slice A0_1 l0_1.length c0_1, .slice A0_2 l0_2.length c0_2] 43 (0, 0)) (by (with_reducible repeat (first | refine blk_drewN ?_ _ | refine blk_drew ?_ | refine blk_alloc ?_ _)); exact BK313.out) hb); have n1_ := Aside0.mk (below_step (by repeat (first | (with_reducible first | exact HB.out | apply below_alloc | apply pw_below_drewN | apply below_drew1 | refine below_set ?_ GE313.out) | exact HB.out)) hb); clear BK313; clear HB; have BK313 := n0_; have HB := n1_; clear n0_ n1_; (try clear hb); (try clear hb2); (try clear hk); (try clear hi)))
      have n0_ := Aside0.mk (blk_drew BK313.out)
      have n1_ := Aside0.mk (below_drew1 HB.out)
      clear BK313
      clear HB
      have BK313 := n0_
      have HB := n1_
      clear n0_ n1_
      refine start_ (n := 13) (S := fun w' => True) (ds := []) #[false, false, false, false, false, false, false, false, false, false, false, false, false] (by kernel_rfl) rfl rfl trivial (fun hHeld => ?_); refine with_tabW gumshoelaw15_GraphEdges.tab4 gumshoelaw15_GraphEdges.bits4 (fun HT_ HW_ => ?_)
      generalize w32.drew = w33 at BK313 HB hHeld ⊢
      refine pure_ (i := 0) (N := some 11) (v := ?_) (a' := ?_) #[true, false, false, false, false, false, false, false, false, false, false, false, false] rfl rfl (any_of HT_.out (by kernel_rfl)) (fun _ _ _ h => h) (Or.inl ⟨by rfl, ?_⟩) ?_ ?_
      rotate_left
      · intro w'
        go_simp
        with_reducible rfl
      rotate_left
      · simp only [Act.put, List.setIfInBounds_toArray, List.set_cons_zero, List.set_cons_succ, i64_w, i32_w]
        rfl
      refine pure_ (i := 1) (N := some 12) (v := ?_) (a' := ?_) #[true, true, false, false, false, false, false, false, false, false, false, false, false] rfl rfl (any_of HT_.out (by kernel_rfl)) (fun _ _ _ h => h) (Or.inl ⟨by rfl, ?_⟩) ?_ ?_
      rotate_left
      · intro w'
        go_simp
        with_reducible rfl
      rotate_left
      · simp only [Act.put, List.setIfInBounds_toArray, List.set_cons_zero, List.set_cons_succ, i64_w, i32_w]
        rfl
      refine pure_ (i := 2) (N := some 13) (v := undef) (a' := ?_) #[true, true, true, false, false, false, false, false, false, false, false, false, false] rfl rfl (any_of HT_.out (by kernel_rfl)) (fun _ _ _ h => h) (Or.inr ⟨by rfl, rfl⟩) ?_ ?_
      rotate_left
      · simp only [Act.put, List.setIfInBounds_toArray, List.set_cons_zero, List.set_cons_succ, i64_w, i32_w]
        rfl
      refine pure_ (i := 3) (N := some 14) (v := undef) (a' := ?_) #[true, true, true, true, false, false, false, false, false, false, false, false, false] rfl rfl (any_of HT_.out (by kernel_rfl)) (fun _ _ _ h => h) (Or.inr ⟨by rfl, rfl⟩) ?_ ?_
      rotate_left
      · simp only [Act.put, List.setIfInBounds_toArray, List.set_cons_zero, List.set_cons_succ, i64_w, i32_w]
        rfl
      refine pure_ (i := 4) (N := some 15) (v := undef) (a' := ?_) #[true, true, true, true, true, false, false, false, false, false, false, false, false] rfl rfl (any_of HT_.out (by kernel_rfl)) (fun _ _ _ h => h) (Or.inr ⟨by rfl, rfl⟩) ?_ ?_
      rotate_left
      · simp only [Act.put, List.setIfInBounds_toArray, List.set_cons_zero, List.set_cons_succ, i64_w, i32_w]
        rfl
      refine pure_ (i := 5) (N := some 16) (v := undef) (a' := ?_) #[true, true, true, true, true, true, false, false, false, false, false, false, false] rfl rfl (any_of HT_.out (by kernel_rfl)) (fun _ _ _ h => h) (Or.inr ⟨by rfl, rfl⟩) ?_ ?_
      rotate_left
      · simp only [Act.put, List.setIfInBounds_toArray, List.set_cons_zero, List.set_cons_succ, i64_w, i32_w]
        rfl
      refine pure_ (i := 6) (N := some 17) (v := undef) (a' := ?_) #[true, true, true, true, true, true, true, false, false, false, false, false, false] rfl rfl (any_of HT_.out (by kernel_rfl)) (fun _ _ _ h => h) (Or.inr ⟨by rfl, rfl⟩) ?_ ?_
      rotate_left
      · simp only [Act.put, List.setIfInBounds_toArray, List.set_cons_zero, List.set_cons_succ, i64_w, i32_w]
        rfl
      refine pure_ (i := 7) (N := some 18) (v := undef) (a' := ?_) #[true, true, true, true, true, true, true, true, false, false, false, false, false] rfl rfl (any_of HT_.out (by kernel_rfl)) (fun _ _ _ h => h) (Or.inr ⟨by rfl, rfl⟩) ?_ ?_
      rotate_left
      · simp only [Act.put, List.setIfInBounds_toArray, List.set_cons_zero, List.set_cons_succ, i64_w, i32_w]
        rfl
      refine pure_ (i := 8) (N := some 19) (v := undef) (a' := ?_) #[true, true, true, true, true, true, true, true, true, false, false, false, false] rfl rfl (any_of HT_.out (by kernel_rfl)) (fun _ _ _ h => h) (Or.inr ⟨by rfl, rfl⟩) ?_ ?_
      rotate_left
      · simp only [Act.put, List.setIfInBounds_toArray, List.set_cons_zero, List.set_cons_succ, i64_w, i32_w]
        rfl
      refine pure_ (i := 9) (N := some 20) (v := undef) (a' := ?_) #[true, true, true, true, true, true, true, true, true, true, false, false, false] rfl rfl (any_of HT_.out (by kernel_rfl)) (fun _ _ _ h => h) (Or.inr ⟨by rfl, rfl⟩) ?_ ?_
      rotate_left
      · simp only [Act.put, List.setIfInBounds_toArray, List.set_cons_zero, List.set_cons_succ, i64_w, i32_w]
        rfl
      refine pure_ (i := 10) (N := some 21) (v := undef) (a' := ?_) #[true, true, true, true, true, true, true, true, true, true, true, false, false] rfl rfl (any_of HT_.out (by kernel_rfl)) (fun _ _ _ h => h) (Or.inr ⟨by rfl, rfl⟩) ?_ ?_
      rotate_left
      · simp only [Act.put, List.setIfInBounds_toArray, List.set_cons_zero, List.set_cons_succ, i64_w, i32_w]
        rfl
      refine pure_ (i := 11) (N := some 22) (v := ?_) (a' := ?_) #[true, true, true, true, true, true, true, true, true, true, true, true, false] rfl rfl (any_of HT_.out (by kernel_rfl)) (fun _ _ _ h => h) (Or.inl ⟨by rfl, ?_⟩) ?_ ?_
      rotate_left
      · intro w'
        go_simp
        with_reducible rfl
      rotate_left
      · simp only [Act.put, List.setIfInBounds_toArray, List.set_cons_zero, List.set_cons_succ, i64_w, i32_w]
        rfl
      refine pure_ (i := 12) (N := some 4) (v := ?_) (a' := ?_) #[true, true, true, true, true, true, true, true, true, true, true, true, true] rfl rfl (any_of HT_.out (by kernel_rfl)) (fun _ _ _ h => h) (Or.inl ⟨by rfl, ?_⟩) ?_ ?_
      rotate_left
      · intro w'
        go_simp
        with_reducible rfl
      rotate_left
      · simp only [Act.put, List.setIfInBounds_toArray, List.set_cons_zero, List.set_cons_succ, i64_w, i32_w]
        rfl
      refine done_ (done_of HT_.out (by kernel_rfl)) ?_
      try go_wp2
      go_ret
      exact ⟨by first | rfl | (simp [errW_none, errW_some] <;> rfl) | (simp [*, errW_none, errW_some] <;> rfl) | (simp [*, errW_none, errW_some]; exact (fun (l_ : List UInt8) => (by cases l_ <;> rfl : l_.isEmpty = !(l_ != []))) _), by repeat (first | (with_reducible first | exact HB.out | apply below_alloc | apply pw_below_drewN | apply below_drew1 | refine below_set ?_ GE313.out) | exact HB.out)⟩
end Go.Proofs.Ytondngpmhlemkaa.Pr

/- What holds for all large numbers of rounds; small facts on lists and whole numbers. No condition. -/
namespace Go.Proofs.Ytondngpmhlemkaa.Ev
open Go.RowKit Go.Proofs.YtondngpmhlemkaaW.PrintWords
def Ev (p : Nat → Prop) : Prop := ∃ K, ∀ k, K ≤ k → p k
theorem Ev.all {p : Nat → Prop} (h : ∀ k, p k) : Ev p := ⟨0, fun k _ => h k⟩
theorem Ev.ex {p : Nat → Prop} (h : Ev p) : ∃ k, p k := by obtain ⟨K, h⟩ := h; exact ⟨K, h K (Nat.le_refl _)⟩
theorem Ev.and {p q : Nat → Prop} (h : Ev p) (g : Ev q) : Ev fun k => p k ∧ q k := by
  obtain ⟨K, h⟩ := h
  obtain ⟨M, g⟩ := g
  exact ⟨K + M, fun k hk => ⟨h k (by omega), g k (by omega)⟩⟩
theorem Ev.mono {p q : Nat → Prop} (h : Ev p) (f : ∀ k, p k → q k) : Ev q := by
  obtain ⟨K, h⟩ := h
  exact ⟨K, fun k hk => f k (h k hk)⟩
theorem Ev.succ {p q : Nat → Prop} (h : Ev p) (f : ∀ k, p k → q (k + 1)) : Ev q := by
  obtain ⟨K, h⟩ := h
  refine ⟨K + 1, fun k hk => ?_⟩
  obtain ⟨k, rfl⟩ : ∃ j, k = j + 1 := ⟨k - 1, by omega⟩
  exact f k (h k (by omega))
theorem Ev.step {q : Nat → Prop} (f : ∀ k, q (k + 1)) : Ev q := (Ev.all (p := fun _ => True) fun _ => trivial).succ fun k _ => f k
theorem rd_nat (l : List Int) (i : Nat) : rd l (i : Int) = l.getD i 0 := by unfold rd; rw [Int.toNat_natCast]
theorem drop_at {α : Type} (l : List α) (i : Nat) (d : α) (h : i < l.length) : l.drop i = l.getD i d :: l.drop (i + 1) := by
  rw [List.drop_eq_getElem_cons h, List.getD_eq_getElem?_getD, List.getElem?_eq_getElem h]
  rfl
theorem wrap_nat (i : Nat) (h : i + 1 ≤ 9223372036854775807) : wrap64 ((i : Int) + 1) = ((i + 1 : Nat) : Int) := by
  unfold wrap64
  omega
theorem drop_len {α : Type} (l : List α) (i : Nat) (h : l.length ≤ i) : l.drop i = [] := List.drop_eq_nil_of_le h
end Go.Proofs.Ytondngpmhlemkaa.Ev

/- What gumshoeref01's printed Same, Has, With compute, in closed form. No condition. -/
namespace Go.Proofs.Ytondngpmhlemkaa.Ref
open Go.RowKit Go.Proofs.Ytondngpmhlemkaa.Ev Go.Proofs.Ytondngpmhlemkaa.Pr Go.Proofs.YtondngpmhlemkaaW.PrintWords Go.Proofs.YtondngpmhlemkaaW.PrintMore Go.Proofs.Ytondngpmhlemkaa.Sets
theorem same_loop (a b : List Int) (hl : a.length = b.length) (hm : a.length ≤ 9223372036854775807) (d : Nat) : ∀ i, i + d = a.length → Ev fun k => gumshoeref01_Same.l0 k a b (i : Int) = some (decide (a.drop i = b.drop i)) := by
  induction d with
  | zero =>
    intro i h
    refine Ev.step fun k => ?_
    rw [gumshoeref01_Same.l0, if_neg (by omega), drop_len a i (by omega), drop_len b i (by omega)]
    simp
  | succ d ih =>
    intro i h
    refine (ih (i + 1) (by omega)).succ fun k hk => ?_
    rw [gumshoeref01_Same.l0, if_pos (by omega), if_pos (by omega), if_pos (by omega), rd_nat, rd_nat, drop_at a i 0 (by omega), drop_at b i 0 (by omega), wrap_nat i (by omega), hk]
    by_cases e : a.getD i 0 = b.getD i 0
    · rw [if_pos e, e]; simp
    · rw [if_neg e]; simp only [List.cons.injEq, e, false_and, decide_false]
theorem same_tells (a b : List Int) (hm : a.length ≤ 9223372036854775807) : Ev fun k => gumshoeref01_Same.f k a b = some (decide (a = b)) := by
  by_cases hl : a.length = b.length
  · refine (same_loop a b hl hm a.length 0 (by omega)).mono fun k hk => ?_
    rw [gumshoeref01_Same.f, if_pos (by omega)]
    simpa using hk
  · refine Ev.all fun k => ?_
    rw [gumshoeref01_Same.f, if_neg (by omega)]
    have : a ≠ b := fun h => hl (by rw [h])
    simp [this]
theorem has_loop (a : List Int) (n : Int) (hm : a.length ≤ 9223372036854775807) (d : Nat) : ∀ i, i + d = a.length → Ev fun k => gumshoeref01_Has.l0 k a n (i : Int) = some ((a.drop i).contains n) := by
  induction d with
  | zero =>
    intro i h
    refine Ev.step fun k => ?_
    rw [gumshoeref01_Has.l0, if_neg (by omega), drop_len a i (by omega)]
    rfl
  | succ d ih =>
    intro i h
    refine (ih (i + 1) (by omega)).succ fun k hk => ?_
    rw [gumshoeref01_Has.l0, if_pos (by omega), if_pos (by omega), rd_nat, drop_at a i 0 (by omega), wrap_nat i (by omega), hk, List.contains_cons]
    by_cases e : a.getD i 0 = n
    · rw [if_pos e, e]; simp
    · rw [if_neg e, beq_false_of_ne (Ne.symm e)]; simp
theorem has_tells (a : List Int) (n : Int) (hm : a.length ≤ 9223372036854775807) : Ev fun k => gumshoeref01_Has.f k a n = some (a.contains n) := by
  refine (has_loop a n hm a.length 0 (by omega)).mono fun k hk => ?_
  simpa [gumshoeref01_Has.f] using hk
def insL (n : Int) : List Int → List Int
  | [] => [n]
  | x :: r => if x > n then n :: x :: r else x :: insL n r
def withL (l : List Int) (n : Int) : List Int := if l.contains n = true then l else insL n l
theorem with_loop (a : List Int) (n : Int) (hm : a.length ≤ 8796093022208) (d : Nat) : ∀ i out (b : Bool), i + d = a.length → out.length ≤ i + (if b then 1 else 0) → Ev fun k => gumshoeref01_With.l0 k a n out b (i : Int) = some (out ++ if b = true then a.drop i else insL n (a.drop i)) := by
  induction d with
  | zero =>
    intro i out b h ho
    refine Ev.step fun k => ?_
    rw [gumshoeref01_With.l0, if_neg (by omega), drop_len a i (by omega)]
    cases b with
    | true => simp
    | false => rw [if_neg (by decide), if_pos (by simp at ho; omega)]; simp [insL]
  | succ d ih =>
    intro i out b h ho
    have hi : i < a.length := by omega
    cases b with
    | true =>
      refine ((ih (i + 1) (out ++ [a.getD i 0]) true (by omega) (by simp at ho ⊢; omega)).succ (q := fun k => gumshoeref01_With.j1 k a n out true (i : Int) false = some (out ++ a.drop i)) fun k hk => ?_).succ fun k hk => ?_
      · rw [gumshoeref01_With.j1, if_neg (by decide), if_pos (by omega), if_pos (by omega), if_pos (by simp at ho; omega), rd_nat, wrap_nat i (by omega), hk, drop_at a i 0 hi]
        simp
      · rw [gumshoeref01_With.l0, if_pos (by omega), if_pos rfl, hk]; simp
    | false =>
      by_cases e : a.getD i 0 > n
      · refine ((ih (i + 1) (out ++ [n] ++ [a.getD i 0]) true (by omega) (by simp at ho ⊢; omega)).succ (q := fun k => gumshoeref01_With.j1 k a n out false (i : Int) true = some (out ++ insL n (a.drop i))) fun k hk => ?_).succ fun k hk => ?_
        · rw [gumshoeref01_With.j1, if_pos rfl, if_pos (by simp at ho; omega), Option.bind_some, if_pos (by omega), if_pos (by omega), if_pos (by simp at ho ⊢; omega), rd_nat, wrap_nat i (by omega), hk, drop_at a i 0 hi, insL, if_pos e]
          simp
        · rw [gumshoeref01_With.l0, if_pos (by omega), if_neg (by decide), if_pos (by omega), rd_nat, decide_eq_true e, hk]; simp
      · refine ((ih (i + 1) (out ++ [a.getD i 0]) false (by omega) (by simp at ho ⊢; omega)).succ (q := fun k => gumshoeref01_With.j1 k a n out false (i : Int) false = some (out ++ insL n (a.drop i))) fun k hk => ?_).succ fun k hk => ?_
        · rw [gumshoeref01_With.j1, if_neg (by decide), if_pos (by omega), if_pos (by omega), if_pos (by simp at ho; omega), rd_nat, wrap_nat i (by omega), hk, drop_at a i 0 hi, insL, if_neg e]
          simp
        · rw [gumshoeref01_With.l0, if_pos (by omega), if_neg (by decide), if_pos (by omega), rd_nat, decide_eq_false e, hk]; simp
theorem with_tells (a : List Int) (n : Int) (hm : a.length ≤ 8796093022208) : Ev fun k => gumshoeref01_With.f k a n = some (withL a n) := by
  refine ((has_tells a n (by omega)).and (with_loop a n hm a.length 0 [] (a.contains n) (by omega) (by simp))).mono fun k hk => ?_
  obtain ⟨h1, h2⟩ := hk
  rw [gumshoeref01_With.f, h1, Option.bind_some]
  have h2' : gumshoeref01_With.l0 k a n [] (a.contains n) 0 = _ := h2
  rw [h2', withL]
  simp
theorem insL_length (n : Int) (l : List Int) : (insL n l).length = l.length + 1 := by
  induction l with
  | nil => rfl
  | cons x r ih => unfold insL; split <;> simp [ih]
theorem withL_length (n : Int) (l : List Int) : (withL l n).length ≤ l.length + 1 := by
  unfold withL
  split
  · omega
  · rw [insL_length]; omega
theorem insL_mem (n : Int) (l : List Int) (x : Int) : x ∈ insL n l ↔ x = n ∨ x ∈ l := by
  induction l with
  | nil => simp [insL]
  | cons y r ih =>
    unfold insL
    split
    · simp
    · simp only [List.mem_cons, ih]
      constructor
      · rintro (h | h | h) <;> simp [h]
      · rintro (h | h | h) <;> simp [h]
theorem insL_rising (n : Int) (l : List Int) (h : l.Pairwise (· < ·)) (hn : n ∉ l) : (insL n l).Pairwise (· < ·) := by
  induction l with
  | nil => simp [insL]
  | cons y r ih =>
    have hp := List.pairwise_cons.1 h
    simp only [List.mem_cons, not_or] at hn
    unfold insL
    split
    · rename_i hy
      rw [List.pairwise_cons]
      refine ⟨fun z hz => ?_, h⟩
      rcases List.mem_cons.1 hz with rfl | hz
      · omega
      · have := hp.1 z hz; omega
    · rename_i hy
      rw [List.pairwise_cons]
      refine ⟨fun z hz => ?_, ih hp.2 hn.2⟩
      rcases (insL_mem n r z).1 hz with rfl | hz
      · have := hn.1; omega
      · exact hp.1 z hz
theorem withL_mem (n : Int) (l : List Int) (x : Int) : x ∈ withL l n ↔ x = n ∨ x ∈ l := by
  unfold withL
  split
  · rename_i h
    rw [List.contains_iff_mem] at h
    constructor
    · exact fun h => .inr h
    · rintro (rfl | h') <;> assumption
  · exact insL_mem n l x
theorem withL_rising (n : Int) (l : List Int) (h : l.Pairwise (· < ·)) : (withL l n).Pairwise (· < ·) := by
  unfold withL
  split
  · exact h
  · rename_i hn
    exact insL_rising n l h (fun hm => hn (List.contains_iff_mem.2 hm))
def allL (a b : List Int) : List Int := b.foldl withL a
theorem allL_mem (a b : List Int) (x : Int) : x ∈ allL a b ↔ x ∈ a ∨ x ∈ b := by
  unfold allL
  induction b generalizing a with
  | nil => simp
  | cons y r ih =>
    rw [List.foldl_cons, ih, withL_mem, List.mem_cons]
    constructor
    · rintro ((h | h) | h) <;> simp [h]
    · rintro (h | h | h) <;> simp [h]
theorem allL_rising (a b : List Int) (h : a.Pairwise (· < ·)) : (allL a b).Pairwise (· < ·) := by
  unfold allL
  induction b generalizing a with
  | nil => exact h
  | cons y r ih => rw [List.foldl_cons]; exact ih _ (withL_rising y a h)
theorem allL_sset (xs : List Int) : allL [] xs = sset xs := rising_eq (allL_rising _ _ (by simp)) (sset_facts _).1 (fun x => by rw [allL_mem, (sset_facts _).2]; simp)
theorem allL_cons (a : List Int) (x : Int) (xs : List Int) : allL a (x :: xs) = allL (withL a x) xs := rfl
theorem sset_rising {xs : List Int} (h : xs.Pairwise (· < ·)) : sset xs = xs := rising_eq (sset_facts xs).1 h (fun x => (sset_facts xs).2 x)
end Go.Proofs.Ytondngpmhlemkaa.Ref

/- What gumshoeref15's printed functions compute, in closed form. No condition. -/
namespace Go.Proofs.Ytondngpmhlemkaa.Ref
open Go.RowKit Go.Proofs.Ytondngpmhlemkaa.Ev Go.Proofs.Ytondngpmhlemkaa.Pr Go.Proofs.Ytondngpmhlemkaa.Gr Go.Proofs.Ytondngpmhlemkaa.Ext Go.Proofs.Ytondngpmhlemkaa.Reach Go.Proofs.YtondngpmhlemkaaW.PrintWords Go.Proofs.YtondngpmhlemkaaW.PrintMore Go.Proofs.Ytondngpmhlemkaa.Sets
set_option linter.unusedVariables false
theorem rdF_nat (l : List S49) (i : Nat) : rd_T49 l (i : Int) = l.getD i z49 := by unfold rd_T49; rw [Int.toNat_natCast]
theorem rdE_nat (l : List S24) (i : Nat) : rd_T24 l (i : Int) = l.getD i z24 := by unfold rd_T24; rw [Int.toNat_natCast]
theorem callees_loop (l : List S49) (m : Int) (hm : l.length ≤ 1000000) (d : Nat) : ∀ i (out : List Int), i + d = l.length → out.length ≤ i → Ev fun k => gumshoeref15_Callees.l0 k l m out (i : Int) = some (allL out (calleesL (l.drop i) m)) := by
  induction d with
  | zero =>
    intro i out h ho
    refine Ev.step fun k => ?_
    rw [gumshoeref15_Callees.l0, if_neg (by omega), drop_len l i (by omega)]
    rfl
  | succ d ih =>
    intro i out h ho
    have hi : i < l.length := by omega
    have hd := drop_at l i z49 hi
    have hw := withL_length (l.getD i z49).f3 out
    by_cases c1 : (l.getD i z49).f0 = 5
    · by_cases c2 : (l.getD i z49).f1 = m
      · refine (((with_tells out (l.getD i z49).f3 (by omega)).and (ih (i + 1) (withL out (l.getD i z49).f3) (by omega) (by omega))).succ (q := fun k => gumshoeref15_Callees.j1 k l m out (i : Int) true = some (allL out (calleesL (l.drop i) m))) fun k hk => ?_).succ fun k hk => ?_
        · rw [gumshoeref15_Callees.j1, if_pos rfl, if_pos (by omega), if_pos (by omega), rdF_nat, hk.1, Option.bind_some, wrap_nat i (by omega), hk.2, hd]
          unfold calleesL toldL
          rw [List.filterMap_cons_some (b := l.getD i z49) (by unfold ofKind; rw [if_pos c1]), List.filterMap_cons_some (b := (l.getD i z49).f3) (by unfold calleeOf; rw [if_pos c2]), allL_cons]
        · rw [gumshoeref15_Callees.l0, if_pos (by omega), if_pos (by omega), rdF_nat, if_pos c1, show ((l.getD i z49).f1 == m) = true by simpa using c2, hk]
      · refine ((ih (i + 1) out (by omega) (by omega)).succ (q := fun k => gumshoeref15_Callees.j1 k l m out (i : Int) false = some (allL out (calleesL (l.drop i) m))) fun k hk => ?_).succ fun k hk => ?_
        · rw [gumshoeref15_Callees.j1, if_neg (by decide), wrap_nat i (by omega), hk, hd]
          unfold calleesL toldL
          rw [List.filterMap_cons_some (b := l.getD i z49) (by unfold ofKind; rw [if_pos c1]), List.filterMap_cons_none (by unfold calleeOf; rw [if_neg c2])]
        · rw [gumshoeref15_Callees.l0, if_pos (by omega), if_pos (by omega), rdF_nat, if_pos c1, show ((l.getD i z49).f1 == m) = false by simpa using c2, hk]
    · refine ((ih (i + 1) out (by omega) (by omega)).succ (q := fun k => gumshoeref15_Callees.j1 k l m out (i : Int) false = some (allL out (calleesL (l.drop i) m))) fun k hk => ?_).succ fun k hk => ?_
      · rw [gumshoeref15_Callees.j1, if_neg (by decide), wrap_nat i (by omega), hk, hd]
        unfold calleesL toldL
        rw [List.filterMap_cons_none (by unfold ofKind; rw [if_neg c1])]
      · rw [gumshoeref15_Callees.l0, if_pos (by omega), if_pos (by omega), rdF_nat, if_neg c1, hk]
theorem callees_tells (l : List S49) (m : Int) (hm : l.length ≤ 1000000) : Ev fun k => gumshoeref15_Callees.f k l m = some (sset (calleesL l m)) := by
  refine (callees_loop l m hm l.length 0 [] (by omega) (by simp)).mono fun k hk => ?_
  rw [gumshoeref15_Callees.f, show (0 : Int) = ((0 : Nat) : Int) from rfl, hk, allL_sset]
  rfl
theorem entered_loop (l : List S49) (hm : l.length ≤ 1000000) (d : Nat) : ∀ i (out : List Int), i + d = l.length → out.length ≤ i → Ev fun k => gumshoeref15_Entered.l0 k l out (i : Int) = some (allL out (enteredL (l.drop i))) := by
  induction d with
  | zero =>
    intro i out h ho
    refine Ev.step fun k => ?_
    rw [gumshoeref15_Entered.l0, if_neg (by omega), drop_len l i (by omega)]
    rfl
  | succ d ih =>
    intro i out h ho
    have hi : i < l.length := by omega
    have hd := drop_at l i z49 hi
    have hw := withL_length (l.getD i z49).f1 out
    by_cases c1 : (l.getD i z49).f0 = 6
    · refine ((with_tells out (l.getD i z49).f1 (by omega)).and (ih (i + 1) (withL out (l.getD i z49).f1) (by omega) (by omega))).succ fun k hk => ?_
      rw [gumshoeref15_Entered.l0, if_pos (by omega), if_pos (by omega), rdF_nat, if_pos c1, hk.1, Option.bind_some, wrap_nat i (by omega), hk.2, hd]
      unfold enteredL toldL
      rw [List.filterMap_cons_some (b := l.getD i z49) (by unfold ofKind; rw [if_pos c1]), List.map_cons, allL_cons]
    · refine (ih (i + 1) out (by omega) (by omega)).succ fun k hk => ?_
      rw [gumshoeref15_Entered.l0, if_pos (by omega), if_pos (by omega), rdF_nat, if_neg c1, wrap_nat i (by omega), hk, hd]
      unfold enteredL toldL
      rw [List.filterMap_cons_none (by unfold ofKind; rw [if_neg c1])]
theorem entered_tells (l : List S49) (hm : l.length ≤ 1000000) : Ev fun k => gumshoeref15_Entered.f k l = some (sset (enteredL l)) := by
  refine (entered_loop l hm l.length 0 [] (by omega) (by simp)).mono fun k hk => ?_
  rw [gumshoeref15_Entered.f, show (0 : Int) = ((0 : Nat) : Int) from rfl, hk, allL_sset]
  rfl
theorem few_tells (l : List S49) : gumshoelaw15_few.f l = some (l.take 100) := by
  unfold gumshoelaw15_few.f mn
  by_cases h : (100 : Int) < (l.length : Int)
  · rw [if_pos h, if_pos (by omega), if_pos (by omega)]; rfl
  · rw [if_neg h, if_pos (by omega), if_pos (by omega), Int.toNat_natCast, List.take_of_length_le (Nat.le_refl _), List.take_of_length_le (by omega)]
theorem shown_tells : Ev fun k => gumshoelaw15_shown.f k = some true := by
  have h1 : graph_Reached.f [⟨0, 9, 2⟩, ⟨2, 11, 3⟩, ⟨1, 12, 4⟩] = some [0, 2, 3] := by
    unfold graph_Reached.f
    rw [if_pos (by decide)]
    congr 1
    unfold reachL
    rw [show grow (edgesL [⟨0, 9, 2⟩, ⟨2, 11, 3⟩, ⟨1, 12, 4⟩]) (edgesL [⟨0, 9, 2⟩, ⟨2, 11, 3⟩, ⟨1, 12, 4⟩]).length [0] = [0, 2, 3] by decide +kernel]
    exact sset_rising (by decide)
  have h2 : graph_Callees.f [⟨5, 9, ⟨#[]⟩, 5⟩, ⟨5, 9, ⟨#[]⟩, 4⟩] 9 = some [4, 5] := by
    unfold graph_Callees.f
    rw [if_pos (by decide)]
    congr 1
    rw [show calleesL [⟨5, 9, ⟨#[]⟩, 5⟩, ⟨5, 9, ⟨#[]⟩, 4⟩] 9 = [5, 4] from rfl]
    exact rising_eq (sset_facts _).1 (by decide) (fun x => by rw [(sset_facts _).2]; simp; omega)
  refine ((same_tells [0, 2, 3] [0, 2, 3] (by decide)).and (same_tells [4, 5] [4, 5] (by decide))).mono fun k hk => ?_
  rw [gumshoelaw15_shown.f, h1, Option.bind_some, h2, Option.bind_some, hk.1, Option.bind_some]
  simp only [decide_true, if_pos]
  rw [hk.2]
  rfl
end Go.Proofs.Ytondngpmhlemkaa.Ref

/- What gumshoeref15's Edges, with, Same and gumshoelaw13.Small compute. No condition. -/
namespace Go.Proofs.Ytondngpmhlemkaa.Ref
open Go.RowKit Go.Proofs.Ytondngpmhlemkaa.Ev Go.Proofs.Ytondngpmhlemkaa.Pr Go.Proofs.Ytondngpmhlemkaa.Gr Go.Proofs.Ytondngpmhlemkaa.Ext Go.Proofs.Ytondngpmhlemkaa.Reach Go.Proofs.YtondngpmhlemkaaW.PrintWords Go.Proofs.YtondngpmhlemkaaW.PrintMore Go.Proofs.Ytondngpmhlemkaa.Sets Go.Proofs.Ytondngpmhlemkaa.Ge
set_option linter.unusedVariables false
theorem rdS_nat (l : List S66) (i : Nat) : rd_T66 l (i : Int) = l.getD i z66 := by unfold rd_T66; rw [Int.toNat_natCast]
theorem rdR_nat (l : List S68) (i : Nat) : rd_T68 l (i : Int) = l.getD i z68 := by unfold rd_T68; rw [Int.toNat_natCast]
/-! ### Small -/
theorem small_rules (s : Int) (fs : List S66) (rs : List S68) (hr : rs.length ≤ 40) (d : Nat) : ∀ i, i + d = rs.length → (Ev fun k => gumshoelaw13_Small.l1 k (i : Int) s fs rs = some 0) ∨ Ev fun k => gumshoelaw13_Small.l1 k (i : Int) s fs rs = some 1 := by
  induction d with
  | zero =>
    intro i h
    refine .inr (Ev.step fun k => ?_)
    rw [gumshoelaw13_Small.l1, if_neg (by omega)]
  | succ d ih =>
    intro i h
    by_cases c1 : (((rd_T68 rs (i : Int)).f8).length : Int) > 205
    · refine .inl ((Ev.step (q := fun k => gumshoelaw13_Small.j3 k (i : Int) true s fs rs = some 0) fun k => ?_).succ fun k hk => ?_)
      · rw [gumshoelaw13_Small.j3, if_pos rfl]
      · rw [gumshoelaw13_Small.l1, if_pos (by omega), if_pos (by omega), if_pos c1, hk]
    · by_cases c2 : (((rd_T68 rs (i : Int)).f7).size : Int) > 100
      · refine .inl ((Ev.step (q := fun k => gumshoelaw13_Small.j3 k (i : Int) true s fs rs = some 0) fun k => ?_).succ fun k hk => ?_)
        · rw [gumshoelaw13_Small.j3, if_pos rfl]
        · rw [gumshoelaw13_Small.l1, if_pos (by omega), if_pos (by omega), if_neg c1, decide_eq_true c2, hk]
      · have key : ∀ v, (Ev fun k => gumshoelaw13_Small.l1 k ((i + 1 : Nat) : Int) s fs rs = some v) → Ev fun k => gumshoelaw13_Small.l1 k (i : Int) s fs rs = some v := fun v hv => by
          refine (hv.succ (q := fun k => gumshoelaw13_Small.j3 k (i : Int) false s fs rs = some v) fun k hk => ?_).succ fun k hk => ?_
          · rw [gumshoelaw13_Small.j3, if_neg (by decide), wrap_nat i (by omega), hk]
          · rw [gumshoelaw13_Small.l1, if_pos (by omega), if_pos (by omega), if_neg c1, decide_eq_false c2, hk]
        exact (ih (i + 1) (by omega)).imp (key 0) (key 1)
theorem small_funs (s : Int) (fs : List S66) (rs : List S68) (hf : fs.length ≤ 15) (hr : rs.length ≤ 40) (d : Nat) : ∀ i, i + d = fs.length → (Ev fun k => gumshoelaw13_Small.l0 k (i : Int) s fs rs = some 0) ∨ Ev fun k => gumshoelaw13_Small.l0 k (i : Int) s fs rs = some 1 := by
  induction d with
  | zero =>
    intro i h
    have key : ∀ v, (Ev fun k => gumshoelaw13_Small.l1 k ((0 : Nat) : Int) s fs rs = some v) → Ev fun k => gumshoelaw13_Small.l0 k (i : Int) s fs rs = some v := fun v hv => by
      refine hv.succ fun k hk => ?_
      rw [gumshoelaw13_Small.l0, if_neg (by omega)]
      exact hk
    exact (small_rules s fs rs hr rs.length 0 (by omega)).imp (key 0) (key 1)
  | succ d ih =>
    intro i h
    by_cases c1 : (((rd_T66 fs (i : Int)).f1).length : Int) > 205
    · refine .inl (Ev.step fun k => ?_)
      rw [gumshoelaw13_Small.l0, if_pos (by omega), if_pos (by omega), if_pos c1]
    · have key : ∀ v, (Ev fun k => gumshoelaw13_Small.l0 k ((i + 1 : Nat) : Int) s fs rs = some v) → Ev fun k => gumshoelaw13_Small.l0 k (i : Int) s fs rs = some v := fun v hv => by
        refine hv.succ fun k hk => ?_
        rw [gumshoelaw13_Small.l0, if_pos (by omega), if_pos (by omega), if_neg c1, wrap_nat i (by omega), hk]
      exact (ih (i + 1) (by omega)).imp (key 0) (key 1)
theorem small_tells (s : Int) (fs : List S66) (rs : List S68) : (Ev fun k => gumshoelaw13_Small.f k s fs rs = some 0) ∨ (fs.length ≤ 15 ∧ rs.length ≤ 40 ∧ Ev fun k => gumshoelaw13_Small.f k s fs rs = some 1) := by
  have jt : Ev fun k => gumshoelaw13_Small.j0 k true s fs rs = some 0 := Ev.step fun k => by rw [gumshoelaw13_Small.j0, if_pos rfl]
  by_cases c1 : (fs.length : Int) > 15
  · exact .inl (jt.mono fun k hk => by rw [gumshoelaw13_Small.f, if_pos c1, hk])
  · by_cases c2 : (rs.length : Int) > 40
    · exact .inl (jt.mono fun k hk => by rw [gumshoelaw13_Small.f, if_neg c1, if_pos c2, hk])
    · by_cases c3 : s > 300
      · exact .inl (jt.mono fun k hk => by rw [gumshoelaw13_Small.f, if_neg c1, if_neg c2, decide_eq_true c3, hk])
      · have key : ∀ v, (Ev fun k => gumshoelaw13_Small.l0 k ((0 : Nat) : Int) s fs rs = some v) → Ev fun k => gumshoelaw13_Small.f k s fs rs = some v := fun v hv => by
          refine (hv.succ (q := fun k => gumshoelaw13_Small.j0 k false s fs rs = some v) fun k hk => ?_).mono fun k hk => ?_
          · rw [gumshoelaw13_Small.j0, if_neg (by decide)]; exact hk
          · rw [gumshoelaw13_Small.f, if_neg c1, if_neg c2, decide_eq_false c3, hk]
        rcases small_funs s fs rs (by omega) (by omega) fs.length 0 (by omega) with h | h
        · exact .inl (key 0 h)
        · exact .inr ⟨by omega, by omega, key 1 h⟩
/-! ### Same -/
theorem sameE_loop (a : List S24) (hm : a.length ≤ 9223372036854775806) (d : Nat) : ∀ i, i + d = a.length → Ev fun k => gumshoeref15_Same.l0 k a a (i : Int) = some true := by
  induction d with
  | zero =>
    intro i h
    refine Ev.step fun k => ?_
    rw [gumshoeref15_Same.l0, if_neg (by omega)]
  | succ d ih =>
    intro i h
    refine (ih (i + 1) (by omega)).succ fun k hk => ?_
    rw [gumshoeref15_Same.l0, if_pos (by omega), if_pos (by omega), if_pos (by omega), if_neg (by simp), wrap_nat i (by omega), hk]
theorem sameE_self (a : List S24) (hm : a.length ≤ 9223372036854775806) : Ev fun k => gumshoeref15_Same.f k a a = some true := by
  refine (sameE_loop a hm a.length 0 (by omega)).mono fun k hk => ?_
  rw [gumshoeref15_Same.f, if_pos rfl]
  exact hk
/-! ### with -/
theorem before_tells (x y : Ed) : gumshoeref15_before.f x.f0 x.f1 x.f2 y.f0 y.f1 y.f2 = some (ltOf cmpE x y) := by
  rw [ltE]
  unfold gumshoeref15_before.f
  by_cases c0 : x.f0 = y.f0
  · rw [if_pos c0]
    by_cases c1 : x.f1 = y.f1
    · rw [if_pos c1]
      congr 1
      exact decide_eq_decide.2 (by omega)
    · rw [if_neg c1]
      congr 1
      exact decide_eq_decide.2 (by omega)
  · rw [if_neg c0]
    congr 1
    exact decide_eq_decide.2 (by omega)
theorem with_loopE (l : List Ed) (e : Ed) (hm : l.length ≤ 1000000) (hs : l.Pairwise LT) : ∀ n, n ≤ l.length → (∀ i (h : i < l.length), n ≤ i → LT e l[i]) →
    ∃ r, (Ev fun k => gumshoeref15_with.l0 k l (n : Int) e.f0 e.f1 e.f2 = some r) ∧ r.Pairwise LT ∧ (∀ x, x ∈ r ↔ x ∈ l ∨ x = e) ∧ r.length ≤ l.length + 1 := by
  intro n
  -- where the search ends
  have stop : ∀ n, n ≤ l.length → (∀ i (h : i < l.length), n ≤ i → LT e l[i]) → (∀ i (h : i < l.length), i < n → LT l[i] e) →
      (Ev fun k => gumshoeref15_with.j1 k l (n : Int) false e.f0 e.f1 e.f2 = some (l.take n ++ [e] ++ l.drop n)) ∧ (l.take n ++ [e] ++ l.drop n).Pairwise LT ∧ (∀ x, x ∈ l.take n ++ [e] ++ l.drop n ↔ x ∈ l ∨ x = e) ∧ (l.take n ++ [e] ++ l.drop n).length ≤ l.length + 1 := by
    intro n hn h1 h2
    refine ⟨Ev.step fun k => ?_, ?_, fun x => ?_, ?_⟩
    · rw [gumshoeref15_with.j1, if_neg (by decide), if_pos (by omega), if_pos (by omega)]
      simp only [Int.toNat_natCast, Option.bind_some, List.nil_append]
      have ht : (l.take n).length = n := by rw [List.length_take]; omega
      rw [if_pos (by simp [ht]; omega), if_pos (by rw [ht]; omega), if_pos (by simp [ht]; omega)]
    · have hp : (l.take n ++ l.drop n).Pairwise LT := by rw [List.take_append_drop]; exact hs
      rw [List.pairwise_append] at hp
      rw [List.append_assoc, List.pairwise_append]
      refine ⟨hp.1, ?_, fun a ha b hb => ?_⟩
      · rw [List.singleton_append, List.pairwise_cons]
        refine ⟨fun b hb => ?_, hp.2.1⟩
        obtain ⟨i, hi, rfl⟩ := List.mem_iff_getElem.1 hb
        rw [List.length_drop] at hi
        rw [List.getElem_drop]
        exact h1 (n + i) (by omega) (by omega)
      · rcases List.mem_append.1 hb with hb | hb
        · simp at hb
          subst hb
          obtain ⟨i, hi, rfl⟩ := List.mem_iff_getElem.1 ha
          rw [List.length_take] at hi
          rw [List.getElem_take]
          exact h2 i (by omega) (by omega)
        · exact hp.2.2 a ha b hb
    · constructor
      · intro h
        simp only [List.mem_append, List.mem_singleton] at h
        rcases h with (h | h) | h
        · exact .inl (List.mem_of_mem_take h)
        · exact .inr h
        · exact .inl (List.mem_of_mem_drop h)
      · intro h
        rcases h with h | h
        · rw [← List.take_append_drop n l, List.mem_append] at h
          simp only [List.mem_append, List.mem_singleton]
          rcases h with h | h
          · exact .inl (.inl h)
          · exact .inr h
        · simp [h]
    · simp only [List.length_append, List.length_take, List.length_drop, List.length_singleton]
      omega
  induction n with
  | zero =>
    intro hn h1
    obtain ⟨s1, s2, s3, s4⟩ := stop 0 (by omega) (fun i h _ => h1 i h (by omega)) (fun i h hi => by omega)
    refine ⟨_, s1.succ fun k hk => ?_, s2, s3, s4⟩
    rw [gumshoeref15_with.l0, if_neg (by omega)]
    exact hk
  | succ n ih =>
    intro hn h1
    have hw : wrap64 (((n + 1 : Nat) : Int) - 1) = (n : Int) := by unfold wrap64; omega
    have hlt : n < l.length := by omega
    have hrd : rd_T24 l (n : Int) = l[n] := by rw [rdE_nat, List.getD_eq_getElem?_getD, List.getElem?_eq_getElem hlt]; rfl
    have unf : ∀ k, gumshoeref15_with.l0 (k + 1) l ((n + 1 : Nat) : Int) e.f0 e.f1 e.f2 = gumshoeref15_with.j1 k l ((n + 1 : Nat) : Int) (!ltOf cmpE l[n] e) e.f0 e.f1 e.f2 := fun k => by
      rw [gumshoeref15_with.l0, if_pos (by omega), hw, if_pos (by omega), if_pos (by omega), hrd, before_tells]
      rfl
    by_cases c1 : LT l[n] e
    · obtain ⟨s1, s2, s3, s4⟩ := stop (n + 1) hn h1 (fun i h hi => by
        rcases Nat.lt_or_ge i n with h' | h'
        · exact LT.trans ((List.pairwise_iff_getElem.1 hs) i n h hlt h') c1
        · obtain rfl : i = n := by omega
          exact c1)
      refine ⟨_, s1.succ fun k hk => ?_, s2, s3, s4⟩
      rw [unf, (lt_iff _ _).2 c1]
      exact hk
    · by_cases c2 : l[n] = e
      · refine ⟨l, (Ev.step (q := fun k => gumshoeref15_with.j1 k l ((n + 1 : Nat) : Int) true e.f0 e.f1 e.f2 = some l) fun k => ?_).succ fun k hk => ?_, hs, fun x => ⟨.inl, fun h => h.elim id (fun h => by rw [h, ← c2]; exact List.getElem_mem _)⟩, by omega⟩
        · rw [gumshoeref15_with.j1, if_pos rfl, hw, if_pos (by omega), if_pos (by omega), hrd, if_pos (by simp [c2])]
        · rw [unf, (lt_iff' _ _).2 c1]
          exact hk
      · obtain ⟨r, r1, r2, r3, r4⟩ := ih (by omega) (fun i h hi => by
          rcases Nat.lt_or_ge n i with h' | h'
          · exact h1 i h h'
          · obtain rfl : i = n := by omega
            exact lt_of c1 (fun h => c2 h.symm))
        refine ⟨r, (r1.succ (q := fun k => gumshoeref15_with.j1 k l ((n + 1 : Nat) : Int) true e.f0 e.f1 e.f2 = some r) fun k hk => ?_).succ fun k hk => ?_, r2, r3, r4⟩
        · have hne : ((l[n].f0 == e.f0) && ((l[n].f1 == e.f1) && (l[n].f2 == e.f2))) = false := by
            rw [eq_dec]
            exact decide_eq_false c2
          rw [gumshoeref15_with.j1, if_pos rfl, hw, if_pos (by omega), if_pos (by omega), hrd, hne, if_neg (by decide)]
          exact hk
        · rw [unf, (lt_iff' _ _).2 c1]
          exact hk
theorem withE_tells (l : List Ed) (e : Ed) (hm : l.length ≤ 1000000) (hs : l.Pairwise LT) :
    ∃ r, (Ev fun k => gumshoeref15_with.f k l e.f0 e.f1 e.f2 = some r) ∧ r.Pairwise LT ∧ (∀ x, x ∈ r ↔ x ∈ l ∨ x = e) ∧ r.length ≤ l.length + 1 :=
  with_loopE l e hm hs l.length (Nat.le_refl _) (fun i h hi => by omega)
end Go.Proofs.Ytondngpmhlemkaa.Ref

/- The edges that gumshoeref15.Edges tells, and those that graph.Edges tells, are the same. No condition. -/
namespace Go.Proofs.Ytondngpmhlemkaa.Ref
open Go.RowKit Go.Proofs.Ytondngpmhlemkaa.Ev Go.Proofs.Ytondngpmhlemkaa.Pr Go.Proofs.Ytondngpmhlemkaa.Gr Go.Proofs.Ytondngpmhlemkaa.Ext Go.Proofs.Ytondngpmhlemkaa.Reach Go.Proofs.YtondngpmhlemkaaW.PrintWords Go.Proofs.YtondngpmhlemkaaW.PrintMore Go.Proofs.Ytondngpmhlemkaa.Sets Go.Proofs.Ytondngpmhlemkaa.Ge
set_option linter.unusedVariables false
def edgeOf (r : S68) (g : Nat) : Ed := ⟨r.f1, r.f6, (g : Int)⟩
def Con (en : List Int) (cl : Int → Int → Bool) (fs : List S66) (r : S68) (x : Ed) : Prop := okR en fs.length r = true ∧ ∃ g, 0 < g ∧ g < fs.length ∧ cl r.f6 (fs.getD g z66).f0 = true ∧ x = edgeOf r g
theorem refE_inner (ls : List S49) (en c : List Int) (s : Int) (fs : List S66) (rs : List S68) (r : S68) (j : Nat) (hj : j < 1000) (hf : fs.length ≤ 1000) (hc : c.length ≤ 1000000) (e : Nat) : ∀ g (out : List Ed), g + e = fs.length → 1 ≤ g → out.Pairwise LT → out.length + e ≤ 1000000 →
    ∃ out2 : List Ed, out2.Pairwise LT ∧ out2.length ≤ out.length + e ∧ (∀ x, x ∈ out2 ↔ x ∈ out ∨ ∃ g', g ≤ g' ∧ g' < fs.length ∧ c.contains (fs.getD g' z66).f0 = true ∧ x = edgeOf r g') ∧
      ∀ res, (Ev fun k => gumshoeref15_Edges.l0 k ls out2 en ((j + 1 : Nat) : Int) s fs rs = some res) → Ev fun k => gumshoeref15_Edges.l1 k ls out en (j : Int) c (g : Int) s fs rs r.f0 r.f1 r.f2 r.f3 r.f4 r.f5 r.f6 r.f7 r.f8 = some res := by
  induction e with
  | zero =>
    intro g out h h1 hs hl
    refine ⟨out, hs, by omega, fun x => ⟨.inl, fun h => h.elim id (fun ⟨g', h2, h3, _⟩ => by omega)⟩, fun res hres => hres.succ fun k hk => ?_⟩
    rw [gumshoeref15_Edges.l1, if_neg (by omega), wrap_nat j (by omega), hk]
  | succ e ih =>
    intro g out h h1 hs hl
    have hg : g < fs.length := by omega
    cases hh : c.contains (fs.getD g z66).f0
    · obtain ⟨out2, h2, h3, h4, h5⟩ := ih (g + 1) out (by omega) (by omega) hs (by omega)
      refine ⟨out2, h2, by omega, fun x => ?_, fun res hres => ?_⟩
      · rw [h4]
        refine or_congr Iff.rfl ⟨fun ⟨g', a, b, d, e⟩ => ⟨g', by omega, b, d, e⟩, fun ⟨g', a, b, d, e⟩ => ?_⟩
        rcases Nat.eq_or_lt_of_le a with rfl | a
        · rw [hh] at d; cases d
        · exact ⟨g', a, b, d, e⟩
      · refine ((has_tells c (fs.getD g z66).f0 (by omega)).and (h5 res hres)).succ fun k hk => ?_
        rw [gumshoeref15_Edges.l1, if_pos (by omega), if_pos (by omega), rdS_nat, hk.1, Option.bind_some, hh, if_neg (by decide), wrap_nat g (by omega), hk.2]
    · obtain ⟨o1, w1, w2, w3, w4⟩ := withE_tells out (edgeOf r g) (by omega) hs
      obtain ⟨out2, h2, h3, h4, h5⟩ := ih (g + 1) o1 (by omega) (by omega) w2 (by omega)
      refine ⟨out2, h2, by omega, fun x => ?_, fun res hres => ?_⟩
      · rw [h4, w3]
        constructor
        · rintro ((h | h) | ⟨g', a, b, d, e⟩)
          · exact .inl h
          · exact .inr ⟨g, Nat.le_refl _, hg, hh, h⟩
          · exact .inr ⟨g', by omega, b, d, e⟩
        · rintro (h | ⟨g', a, b, d, e⟩)
          · exact .inl (.inl h)
          · rcases Nat.eq_or_lt_of_le a with rfl | a
            · exact .inl (.inr e)
            · exact .inr ⟨g', a, b, d, e⟩
      · refine (((has_tells c (fs.getD g z66).f0 (by omega)).and w1).and (h5 res hres)).succ fun k hk => ?_
        have hw : gumshoeref15_with.f k out r.f1 r.f6 (g : Int) = some o1 := hk.1.2
        rw [gumshoeref15_Edges.l1, if_pos (by omega), if_pos (by omega), rdS_nat, hk.1.1, Option.bind_some, hh, if_pos rfl, hw, Option.bind_some, wrap_nat g (by omega), hk.2]
theorem l0_step (ls : List S49) (out : List Ed) (en : List Int) (s : Int) (fs : List S66) (rs : List S68) (j : Nat) (hj : j < rs.length) (k : Nat) (r : S68) (hr : rs.getD j z68 = r) (hh : gumshoeref01_Has.f k en r.f1 = some (en.contains r.f1)) :
    gumshoeref15_Edges.l0 (k + 1) ls out en (j : Int) s fs rs = gumshoeref15_Edges.j1 k ls out en (j : Int) (!okR en fs.length r) s fs rs r.f0 r.f1 r.f2 r.f3 r.f4 r.f5 r.f6 r.f7 r.f8 := by
  rw [gumshoeref15_Edges.l0, if_pos (by omega), if_pos (by omega), rdR_nat, hr, hh, Option.bind_some]
  unfold okR
  cases hc : en.contains r.f1
  · rw [Bool.and_false, Bool.not_false]
    by_cases h8 : r.f0 = 8
    · rw [if_pos h8, if_neg (by decide)]
    · rw [if_neg h8]
      by_cases h9 : r.f0 = 9
      · rw [if_pos h9, if_neg (by decide)]
      · rw [if_neg h9]
  · rw [Bool.and_true]
    by_cases h8 : r.f0 = 8
    · rw [if_pos h8, if_pos rfl]
      by_cases h0 : r.f1 < 0
      · rw [if_pos h0, decide_eq_false (by omega)]; rfl
      · rw [if_neg h0]
        by_cases hn : r.f1 ≥ (fs.length : Int)
        · rw [decide_eq_true hn, decide_eq_false (by omega)]; rfl
        · rw [decide_eq_false hn, decide_eq_true (by omega)]; rfl
    · rw [if_neg h8]
      by_cases h9 : r.f0 = 9
      · rw [if_pos h9, if_pos rfl]
        by_cases h0 : r.f1 < 0
        · rw [if_pos h0, decide_eq_false (by omega)]; rfl
        · rw [if_neg h0]
          by_cases hn : r.f1 ≥ (fs.length : Int)
          · rw [decide_eq_true hn, decide_eq_false (by omega)]; rfl
          · rw [decide_eq_false hn, decide_eq_true (by omega)]; rfl
      · rw [if_neg h9, decide_eq_false (by omega)]; rfl
theorem sset_le (xs : List Int) : (sset xs).length ≤ xs.length := nodup_le ((sset_facts _).1.imp (fun h => by omega)) (fun x hx => ((sset_facts _).2 x).1 hx)
theorem refE_outer (ls : List S49) (hls : ls.length ≤ 1000) (en : List Int) (hen : en.length ≤ 1000) (s : Int) (fs : List S66) (rs : List S68) (hf : fs.length ≤ 15) (hrs : rs.length ≤ 40) (d : Nat) : ∀ j (out : List Ed), j + d = rs.length → out.Pairwise LT → out.length + d * 15 ≤ 1000000 →
    ∃ res, (Ev fun k => gumshoeref15_Edges.l0 k ls out en (j : Int) s fs rs = some res) ∧ res.Pairwise LT ∧ res.length ≤ 1000000 ∧ ∀ x, x ∈ res ↔ x ∈ out ∨ ∃ i, j ≤ i ∧ i < rs.length ∧ Con en (fun m y => (sset (calleesL ls m)).contains y) fs (rs.getD i z68) x := by
  induction d with
  | zero =>
    intro j out h hs hl
    refine ⟨out, Ev.step fun k => ?_, hs, by omega, fun x => ⟨.inl, fun h => h.elim id (fun ⟨i, h1, h2, _⟩ => by omega)⟩⟩
    rw [gumshoeref15_Edges.l0, if_neg (by omega)]
  | succ d ih =>
    intro j out h hs hl
    have hj : j < rs.length := by omega
    obtain ⟨r, hr⟩ : ∃ r, rs.getD j z68 = r := ⟨_, rfl⟩
    have hH := has_tells en r.f1 (by omega)
    cases hok : okR en fs.length r
    · obtain ⟨res, h1, h2, h3, h4⟩ := ih (j + 1) out (by omega) hs (by omega)
      refine ⟨res, (hH.and (h1.succ (q := fun k => gumshoeref15_Edges.j1 k ls out en (j : Int) true s fs rs r.f0 r.f1 r.f2 r.f3 r.f4 r.f5 r.f6 r.f7 r.f8 = some res) fun k hk => ?_)).succ fun k hk => ?_, h2, h3, fun x => ?_⟩
      · rw [gumshoeref15_Edges.j1, if_pos rfl, wrap_nat j (by omega), hk]
      · rw [l0_step ls out en s fs rs j hj k r hr hk.1, hok]
        exact hk.2
      · rw [h4]
        refine or_congr Iff.rfl ⟨fun ⟨i, a, b, c⟩ => ⟨i, by omega, b, c⟩, fun ⟨i, a, b, c⟩ => ?_⟩
        rcases Nat.eq_or_lt_of_le a with rfl | a
        · have := c.1; rw [hr, hok] at this; cases this
        · exact ⟨i, a, b, c⟩
    · have hn : 1 ≤ fs.length := by
        unfold okR at hok
        rw [Bool.and_eq_true, decide_eq_true_iff] at hok
        omega
      have hcl : (sset (calleesL ls r.f6)).length ≤ 1000000 := by
        have h1 := sset_le (calleesL ls r.f6)
        have h2 : (calleesL ls r.f6).length ≤ (toldL ls 5).length := List.length_filterMap_le _ _
        have h3 := toldL_length ls 5
        omega
      obtain ⟨out2, i1, i2, i3, i4⟩ := refE_inner ls en (sset (calleesL ls r.f6)) s fs rs r j (by omega) (by omega) hcl (fs.length - 1) 1 out (by omega) (by omega) hs (by omega)
      obtain ⟨res, h1, h2, h3, h4⟩ := ih (j + 1) out2 (by omega) i1 (by omega)
      have hl1 := i4 res h1
      refine ⟨res, (hH.and (((callees_tells ls r.f6 (by omega)).and hl1).succ (q := fun k => gumshoeref15_Edges.j1 k ls out en (j : Int) false s fs rs r.f0 r.f1 r.f2 r.f3 r.f4 r.f5 r.f6 r.f7 r.f8 = some res) fun k hk => ?_)).succ fun k hk => ?_, h2, h3, fun x => ?_⟩
      · rw [gumshoeref15_Edges.j1, if_neg (by decide), hk.1, Option.bind_some]
        exact hk.2
      · rw [l0_step ls out en s fs rs j hj k r hr hk.1, hok]
        exact hk.2
      · rw [h4, i3]
        constructor
        · rintro ((h | ⟨g, a, b, c, e⟩) | ⟨i, a, b, c⟩)
          · exact .inl h
          · exact .inr ⟨j, Nat.le_refl _, hj, by rw [hr]; exact ⟨hok, g, by omega, b, c, e⟩⟩
          · exact .inr ⟨i, by omega, b, c⟩
        · rintro (h | ⟨i, a, b, c⟩)
          · exact .inl (.inl h)
          · rcases Nat.eq_or_lt_of_le a with rfl | a
            · rw [hr] at c
              obtain ⟨_, g, p, q, u, v⟩ := c
              exact .inl (.inr ⟨g, by omega, q, u, v⟩)
            · exact .inr ⟨i, a, b, c⟩
/-! ### the program's -/
theorem step_mem (G : Int → List Int) (r : S68) (g : Nat) (f : S66) (o : List Ed) (x : Ed) : x ∈ stepE G r g f o ↔ x ∈ o ∨ (0 < g ∧ (G r.f6).contains f.f0 = true ∧ x = edgeOf r g) := by
  unfold stepE
  by_cases h : 0 < g ∧ (G r.f6).contains f.f0 = true
  · by_cases hl : o.getLast? = some ⟨r.f1, r.f6, (g : Int)⟩
    · rw [if_neg (fun k => k.2.2 hl)]
      refine ⟨.inl, fun k => k.elim id (fun k => ?_)⟩
      rw [k.2.2]
      exact List.mem_of_getLast? hl
    · rw [if_pos ⟨h.1, h.2, hl⟩, List.mem_append, List.mem_singleton]
      exact or_congr Iff.rfl ⟨fun e => ⟨h.1, h.2, e⟩, fun e => e.2.2⟩
  · rw [if_neg (fun k => h ⟨k.1, k.2.1⟩)]
    exact ⟨.inl, fun k => k.elim id (fun k => absurd ⟨k.1, k.2.1⟩ h)⟩
theorem inner_mem (G : Int → List Int) (r : S68) (fs : List S66) (o : List Ed) (x : Ed) : ∀ k, x ∈ innerE G r fs k o ↔ x ∈ o ∨ ∃ g, 0 < g ∧ g < k ∧ (G r.f6).contains (fs.getD g z66).f0 = true ∧ x = edgeOf r g
  | 0 => by simp [innerE]
  | k + 1 => by
    rw [inner_succ, step_mem, inner_mem G r fs o x k, rdS_nat]
    constructor
    · rintro ((h | ⟨g, a, b, c, e⟩) | ⟨a, c, e⟩)
      · exact .inl h
      · exact .inr ⟨g, a, by omega, c, e⟩
      · exact .inr ⟨k, a, by omega, c, e⟩
    · rintro (h | ⟨g, a, b, c, e⟩)
      · exact .inl (.inl h)
      · rcases Nat.eq_or_lt_of_le (Nat.le_of_lt_succ b) with rfl | b
        · exact .inr ⟨a, c, e⟩
        · exact .inl (.inr ⟨g, a, b, c, e⟩)
theorem outer_mem (en : List Int) (G : Int → List Int) (fs : List S66) (rs : List S68) (x : Ed) : ∀ j, x ∈ outerE en G fs rs j ↔ ∃ i, i < j ∧ Con en (fun m y => (G m).contains y) fs (rs.getD i z68) x
  | 0 => by simp [outerE]
  | j + 1 => by
    rw [outer_succ, rdR_nat]
    have ih := outer_mem en G fs rs x j
    have key : x ∈ ruleE en G fs (rs.getD j z68) (outerE en G fs rs j) ↔ x ∈ outerE en G fs rs j ∨ Con en (fun m y => (G m).contains y) fs (rs.getD j z68) x := by
      unfold ruleE Con
      cases hok : okR en fs.length (rs.getD j z68)
      · rw [if_neg (by decide)]
        exact ⟨.inl, fun k => k.elim id (fun k => by cases k.1)⟩
      · rw [if_pos rfl, inner_mem]
        exact or_congr Iff.rfl ⟨fun h => ⟨rfl, h⟩, fun h => h.2⟩
    rw [key, ih]
    constructor
    · rintro (⟨i, a, b⟩ | b)
      · exact ⟨i, by omega, b⟩
      · exact ⟨j, by omega, b⟩
    · rintro ⟨i, a, b⟩
      rcases Nat.eq_or_lt_of_le (Nat.le_of_lt_succ a) with rfl | a
      · exact .inr b
      · exact .inl ⟨i, a, b⟩
theorem grp_callees (ls : List S49) (m y : Int) : (grp (toldL ls 5) m).contains y = (sset (calleesL ls m)).contains y := by
  have h : y ∈ grp (toldL ls 5) m ↔ y ∈ sset (calleesL ls m) := by
    rw [(sset_facts _).2]
    unfold grp calleesL
    simp only [List.mem_map, List.mem_filter, List.mem_filterMap, calleeOf]
    constructor
    · rintro ⟨f, ⟨h1, h2⟩, rfl⟩
      exact ⟨f, h1, by rw [if_pos (of_decide_eq_true h2)]⟩
    · rintro ⟨f, h1, h2⟩
      split at h2
      · rename_i h3
        cases h2
        exact ⟨f, ⟨h1, decide_eq_true h3⟩, rfl⟩
      · cases h2
  exact Bool.eq_iff_iff.2 (by simpa using h)
theorem edges_same (ls : List S49) (hls : ls.length ≤ 1000) (s : Int) (fs : List S66) (rs : List S68) (hf : fs.length ≤ 15) (hrs : rs.length ≤ 40) :
    (Ev fun k => gumshoeref15_Edges.f k s fs rs ls = some (edgeSet (outerE (sset (enteredL ls)) (grp (toldL ls 5)) fs rs rs.length))) ∧ (edgeSet (outerE (sset (enteredL ls)) (grp (toldL ls 5)) fs rs rs.length)).length ≤ 1000000 := by
  have hen : (sset (enteredL ls)).length ≤ 1000 := by
    have h1 := sset_le (enteredL ls)
    have h2 : (enteredL ls).length = (toldL ls 6).length := by simp [enteredL]
    have h3 := toldL_length ls 6
    omega
  obtain ⟨res, h1, h2, h3, h4⟩ := refE_outer ls hls (sset (enteredL ls)) hen s fs rs hf hrs rs.length 0 [] (by omega) List.Pairwise.nil (by simp; omega)
  have e : edgeSet (outerE (sset (enteredL ls)) (grp (toldL ls 5)) fs rs rs.length) = res := by
    refine rise_unique (edgeSet_rises _).1 h2 (fun x => ?_)
    rw [(edgeSet_rises _).2, outer_mem, h4]
    constructor
    · rintro ⟨i, a, b, g, c, d, e, f⟩
      exact .inr ⟨i, by omega, a, b, g, c, d, (grp_callees ls _ _).symm.trans e, f⟩
    · rintro (h | ⟨i, _, a, b, g, c, d, e, f⟩)
      · cases h
      · exact ⟨i, a, b, g, c, d, (grp_callees ls _ _).trans e, f⟩
  rw [e]
  refine ⟨((entered_tells ls (by omega)).and h1).mono fun k hk => ?_, h3⟩
  rw [gumshoeref15_Edges.f, hk.1, Option.bind_some]
  exact hk.2
end Go.Proofs.Ytondngpmhlemkaa.Ref

/- The plain law of GraphEdges. No condition. -/
namespace Go.Proofs.Ytondngpmhlemkaa.Pure
open Go.RowKit Go.Proofs.Ytondngpmhlemkaa.Ev Go.Proofs.Ytondngpmhlemkaa.Pr Go.Proofs.Ytondngpmhlemkaa.Gr Go.Proofs.Ytondngpmhlemkaa.Ext Go.Proofs.Ytondngpmhlemkaa.Reach Go.Proofs.Ytondngpmhlemkaa.Ref Go.Proofs.Ytondngpmhlemkaa.Sets Go.Proofs.Ytondngpmhlemkaa.Ge
set_option linter.unusedVariables false
theorem GraphEdges (s : Int) (fs : List S66) (rs : List S68)
    (h0 : (Lit.int .i64 s).wf = true ∧ (∀ a ∈ fs, (Lit.int .i64 a.f0).wf = true ∧ (∀ y ∈ a.f1, (Lit.int .i64 y).wf = true) ∧ (Lit.int .i64 a.f2).wf = true ∧ (Lit.int .i64 a.f3).wf = true ∧ (Lit.int .i64 a.f4).wf = true) ∧
      ∀ a ∈ rs, (Lit.int .i64 a.f0).wf = true ∧ (Lit.int .i64 a.f1).wf = true ∧ (Lit.int .i64 a.f2).wf = true ∧ (Lit.int .i64 a.f3).wf = true ∧ (Lit.int .i64 a.f4).wf = true ∧ (Lit.int .i64 a.f5).wf = true ∧ (Lit.int .i64 a.f6).wf = true ∧ a.f7.size ≤ maxLen ∧ ∀ y ∈ a.f8, (Lit.int .i64 y).wf = true)
    (l1 : List S49) (h1 : ∀ a ∈ l1, (Lit.int .i64 a.f0).wf = true ∧ (Lit.int .i64 a.f1).wf = true ∧ a.f2.size ≤ maxLen ∧ (Lit.int .i64 a.f3).wf = true) :
    ∃ k, gumshoelaw15_GraphEdges.f k s fs rs l1 = some true := by
  rcases small_tells s fs rs with hz | ⟨hf, hr, hs⟩
  · refine (shown_tells.and hz).mono (fun k hk => ?_) |>.ex
    rw [gumshoelaw15_GraphEdges.f, hk.1, Option.bind_some, hk.2, Option.bind_some, if_pos rfl]
  · have hl : (l1.take 100).length ≤ 100 := by rw [List.length_take]; omega
    obtain ⟨he, hb⟩ := edges_same (l1.take 100) (by omega) s fs rs hf hr
    have hE : graph_Edges.f s fs rs (l1.take 100) = some (edgeSet (outerE (sset (enteredL (l1.take 100))) (grp (toldL (l1.take 100) 5)) fs rs rs.length)) := by
      unfold graph_Edges.f
      rw [if_pos]
      refine ⟨⟨by omega, by omega, by omega⟩, ?_, ?_⟩
      · rw [List.all_eq_true]
        intro f hf
        have := h1 f (List.mem_of_mem_take hf)
        rw [Bool.and_eq_true]
        exact ⟨this.2.1, this.2.2.2⟩
      · rw [List.all_eq_true]
        intro r hr
        exact (h0.2.2 r hr).2.2.2.2.2.2.1
    refine ((shown_tells.and hs).and (he.and (sameE_self (edgeSet (outerE (sset (enteredL (l1.take 100))) (grp (toldL (l1.take 100) 5)) fs rs rs.length)) (by omega)))).mono (fun k hk => ?_) |>.ex
    obtain ⟨⟨k1, k2⟩, k3, k4⟩ := hk
    rw [gumshoelaw15_GraphEdges.f, k1, Option.bind_some, k2, Option.bind_some, if_neg (by decide), if_pos rfl, few_tells, Option.bind_some, hE, Option.bind_some, Option.bind_some, k3, Option.bind_some, k4]
    rfl
end Go.Proofs.Ytondngpmhlemkaa.Pure

/- What a row reads of an argument, as a value of a kind: over whatever program. -/
namespace Go.Proofs.Ytondngpmhlemkaa.Opens
open Go.RowKit Go.Deep Go.ChangeShapes Go.WideShapes Go.Proofs.YtondngpmhlemkaaW.PrintWords
set_option linter.unusedVariables false
def OpensTo {α : Type} (P : Program) (t : TypeId) (K : World → α → List Value → Prop) (Wf : α → Prop) : Prop :=
  ∀ (H : Type) (enc : TypeId × Value → H) (w : World) (base : Nat) (sp : Nat → Bool) (held : Bool) (fuel : Nat) (cs : List Value) (x : DataW H × List MemPlace), DataW.trod enc P w base sp held fuel t cs = some x → ∃ a, K w a cs ∧ Wf a
variable {P : Program} {t e : TypeId}
theorem opens_int {k : IntKind} (ht : P.underlying t = some (.int k)) : OpensTo P t (Kd.int k).K (fun n => (Lit.int k n).wf = true) := by
  intro H enc w base sp held fuel cs x h
  cases fuel with
  | zero => simp [DataW.trod] at h
  | succ fuel =>
    unfold DataW.trod at h
    rw [ht] at h
    split at h <;> first | (rename_i heq; cases heq; done) | (cases h; done) | skip
    rename_i heq
    injection heq with heq
    injection heq with heq
    subst heq
    split at h
    · rename_i hk
      obtain ⟨rfl, hk⟩ := hk
      exact ⟨_, rfl, hk⟩
    · exact absurd h (by simp)
theorem opens_string (ht : P.underlying t = some .string) : OpensTo P t Kd.string.K (fun s => s.size ≤ maxLen) := by
  intro H enc w base sp held fuel cs x h
  cases fuel with
  | zero => simp [DataW.trod] at h
  | succ fuel =>
    unfold DataW.trod at h
    rw [ht] at h
    split at h <;> first | (rename_i heq; cases heq; done) | (cases h; done) | skip
    split at h
    · rename_i hk
      exact ⟨_, rfl, hk⟩
    · exact absurd h (by simp)
theorem opens_slice {α : Type} [Inhabited α] {d : Kd α} {Wf : α → Prop} (ht : P.underlying t = some (.slice e)) (hc : P.cellsOf e = d.sz) (he : OpensTo P e d.K Wf) : OpensTo P t (Kd.slice e d).K (fun l => ∀ a ∈ l, Wf a) := by
  intro H enc w base sp held fuel cs x h
  rcases open_slice ht h with ⟨rfl, _⟩ | ⟨a, len, cap, m, n, D, Pl, rfl, hb, hl, hcap, hm, _, hel⟩
  · exact ⟨[], ⟨none, 0, rfl, Nat.le_refl _, rfl, by simp, fun h => by simp at h⟩, by simp⟩
  · have hmm : len ≤ m := by rw [hm]; split <;> omega
    have hx : ∀ i, i < len → ∃ (y : α) (cs' : List Value), w.cells? base (a.add (i * d.sz)) d.sz = some cs' ∧ d.K w y cs' ∧ Wf y := by
      intro i hi
      obtain ⟨cs', h1, h2⟩ := hel i (by omega)
      rw [hc] at h1
      obtain ⟨y, h3, h4⟩ := he H enc w base sp held n cs' _ h2
      exact ⟨y, cs', h1, h3, h4⟩
    let f : Nat → α := fun i => if h : i < len then Classical.choose (hx i h) else default
    have hf : ∀ i, i < len → ∃ cs', w.cells? base (a.add (i * d.sz)) d.sz = some cs' ∧ d.K w (f i) cs' ∧ Wf (f i) := by
      intro i hi
      have : f i = Classical.choose (hx i hi) := dif_pos hi
      rw [this]
      exact Classical.choose_spec (hx i hi)
    have hlen : ((List.range len).map f).length = len := by simp
    refine ⟨(List.range len).map f, ⟨some a, cap, by rw [hlen], by rw [hlen]; exact hl, ?_⟩, ?_⟩
    · refine ⟨rfl, by rw [hlen]; simp only [maxLen] at hcap; omega, fun _ => ⟨a, rfl, fun j p hj => ?_⟩⟩
      have hj' : j < len := by
        have := (List.getElem?_eq_some_iff.1 hj).1
        omega
      have hp : p = f j := by simp [hj'] at hj; exact hj.symm
      subst hp
      obtain ⟨cs', h1, h2, _⟩ := hf j hj'
      refine ⟨cs', d.K_len h2, h2, fun i u hu => ?_⟩
      obtain ⟨_, h3, h4⟩ := World.cells?_some h1
      have hi : i < d.sz := by have := (List.getElem?_eq_some_iff.1 hu).1; have := d.K_len h2; omega
      have h5 := h4 i hi
      rw [show (a.add (j * d.sz + i)) = (a.add (j * d.sz)).add i from ?_, h5, hu]
      unfold Addr.add
      by_cases e1 : j * d.sz = 0 <;> by_cases e2 : i = 0 <;> simp [e1, e2, Nat.add_assoc]
    · intro y hy
      rw [List.mem_map] at hy
      obtain ⟨i, hi, rfl⟩ := hy
      obtain ⟨_, _, _, h⟩ := hf i (List.mem_range.1 hi)
      exact h
theorem slice_of_K {α : Type} {d : Kd α} {w : World} {l : List α} {v : Value} {A : Option Addr} {n c : Nat} (hv : v = .slice A n c) (h : (Kd.slice e d).K w l v.cells.toList) : n = l.length ∧ l.length ≤ c ∧ d.C w A l.length l := by
  subst hv
  obtain ⟨A', c', h1, h2, h3⟩ := h
  simp [Value.cells] at h1
  obtain ⟨rfl, rfl, rfl⟩ := h1
  exact ⟨rfl, h2, h3⟩
/-! ### structs -/
def OpensFs {β : Type} (P : Program) (fs : List Field) (o sz : Nat) (K : World → β → List Value → Prop) (Wf : β → Prop) : Prop :=
  ∀ (H : Type) (enc : TypeId × Value → H) (w : World) (base : Nat) (sp : Nat → Bool) (held : Bool) (fuel : Nat) (cs : List Value) (xs : List (DataW H × List MemPlace)), cs.length = o + sz →
    (fs.mapM fun f => DataW.trod enc P w base sp held fuel f.type ((cs.drop f.offset).take (P.cellsOf f.type))) = some xs → ∃ b, K w b (cs.drop o) ∧ Wf b
theorem opensFs_last {β : Type} {K : World → β → List Value → Prop} {Wf : β → Prop} {f : Field} {o sz : Nat} (ho : f.offset = o) (hc : P.cellsOf f.type = sz) (h : OpensTo P f.type K Wf) : OpensFs P [f] o sz K Wf := by
  intro H enc w base sp held fuel cs xs hl hx
  rw [List.mapM_cons] at hx
  cases hq : DataW.trod enc P w base sp held fuel f.type ((cs.drop f.offset).take (P.cellsOf f.type)) with
  | none => rw [hq] at hx; cases hx
  | some y =>
    obtain ⟨b, h1, h2⟩ := h H enc w base sp held fuel _ _ hq
    rw [ho, hc, List.take_of_length_le (by rw [List.length_drop]; omega)] at h1
    exact ⟨b, h1, h2⟩
theorem opensFs_cons {α β : Type} {da : Kd α} {db : Kd β} {Wa : α → Prop} {Wb : β → Prop} {f : Field} {fs : List Field} {o sz : Nat} (ho : f.offset = o) (hc : P.cellsOf f.type = da.sz) (h : OpensTo P f.type da.K Wa) (hs : OpensFs P fs (o + da.sz) sz db.K Wb) :
    OpensFs P (f :: fs) o (da.sz + sz) (Kd.pair da db).K (fun x => Wa x.1 ∧ Wb x.2) := by
  intro H enc w base sp held fuel cs xs hl hx
  rw [List.mapM_cons] at hx
  cases hq : DataW.trod enc P w base sp held fuel f.type ((cs.drop f.offset).take (P.cellsOf f.type)) with
  | none => rw [hq] at hx; cases hx
  | some y =>
    rw [hq] at hx
    cases hr : (fs.mapM fun f => DataW.trod enc P w base sp held fuel f.type ((cs.drop f.offset).take (P.cellsOf f.type))) with
    | none => rw [hr] at hx; cases hx
    | some ys =>
      obtain ⟨a, h1, h2⟩ := h H enc w base sp held fuel _ _ hq
      obtain ⟨b, h3, h4⟩ := hs H enc w base sp held fuel cs ys (by omega) hr
      rw [ho, hc] at h1
      refine ⟨(a, b), ⟨_, _, ?_, h1, h3⟩, h2, h4⟩
      rw [← List.drop_drop, List.take_append_drop]
theorem opens_struct {α : Type} {d : Kd α} {Wf : α → Prop} {fs : Array Field} (ht : P.underlying t = some (.struct fs)) (hc : P.cellsOf t = d.sz) (h : OpensFs P fs.toList 0 d.sz d.K Wf) : OpensTo P t d.K Wf := by
  intro H enc w base sp held fuel cs x hx
  cases fuel with
  | zero => simp [DataW.trod] at hx
  | succ fuel =>
    unfold DataW.trod at hx
    rw [ht] at hx
    dsimp only at hx
    split at hx
    · rename_i hl
      rw [Option.map_eq_some_iff] at hx
      obtain ⟨xs, hxs, _⟩ := hx
      have := h H enc w base sp held fuel _ _ (by rw [hl, hc, Nat.zero_add]) hxs
      simpa using this
    · cases hx
theorem opens_iso {α β : Type} {d : Kd α} (f : β → α) (g : α → β) (hfg : ∀ x, f (g x) = x) {Wf : α → Prop} (h : OpensTo P t d.K Wf) : OpensTo P t (Kd.iso d f).K (fun x => Wf (f x)) := by
  intro H enc w base sp held fuel cs x hx
  obtain ⟨a, h1, h2⟩ := h H enc w base sp held fuel cs x hx
  refine ⟨g a, ?_, ?_⟩
  · show d.K w (f (g a)) cs
    rw [hfg]; exact h1
  · show Wf (f (g a))
    rw [hfg]; exact h2
end Go.Proofs.Ytondngpmhlemkaa.Opens

