/- The law ValueBig: for every input it returns true, and each argument reads as it did. No condition but those of the given card or row. -/
import Derived.Test.YtmdchbenalhpjaaDoorRows
import Derived.Test.YtmdchbenalhpjaaDoorCards
import Derived.Test.YtmdchbenalhpjaaDoorTie
import Derived.WalkKit
import Derived.ProofKit
import Derived.OpenShut
import Derived.ShutString
import Derived.ChangeOld
import Derived.Below
import Derived.SizedLaws
import Derived.Stop.Joined
import Derived.SevenTiedAt
import Derived.Test.YtmdchbenalhpjaaDoorMo4
-- WRITTEN BY hprint.py (a patched scratch copy of print.py, see NOTES.md): out of the translation and of contracts proved by hand.
namespace Go.Proofs.YtmdchbenalhpjaaDoor.Pv
open Go.RowKit Go.Proofs.YtmdchbenalhpjaaDoor.Vb Go.Proofs.YtmdchbenalhpjaaDoorW.PrintWords Go.Proofs.YtmdchbenalhpjaaDoorW.PrintLast Go.Proofs.YtmdchbenalhpjaaDoorW.PrintMore
set_option linter.unusedVariables false
set_option linter.unusedSimpArgs false
attribute [local go_sem high] eqA23
/-! ### gumshoelaw06_ValueBig: function 5 -/
mutual
def gumshoelaw06_ValueBig.j0 : Nat → Int → Bool → Bool → Option (Bool)
  | 0, _, _, _ => none
  | k + 1, x0, x3, x14 => if x14 = true then (some x3) else (if 70000 ≤ 281474976710656 then (gumshoelaw06_ValueBig.l0 k x0 x3 (List.replicate 0 0) 0) else (none))
def gumshoelaw06_ValueBig.l0 : Nat → Int → Bool → List Int → Int → Option (Bool)
  | 0, _, _, _, _ => none
  | k + 1, x0, x3, x4, x5 => if x5 < x0 then (if x4.length < 140737488355328 then (gumshoelaw06_ValueBig.l0 k x0 x3 (x4 ++ [97]) (wrap64 (x5 + 1))) else (none)) else ((gumshoelaw06_text.f (strOfNums x4)).bind fun bt339 => ((gumshoelaw06_text.f (⟨#[98, 99]⟩ : ByteArray)).bind fun bt342 => ((value_Two.f (⟨#[43]⟩ : ByteArray) bt339.1 bt339.2.1 bt339.2.2 bt342.1 bt342.2.1 bt342.2.2).bind fun bt345 => (if (wrap64 (x0 + 2)) > 65536 then (if x3 = true then (if bt345.2.2.2 = 61 then (some (bt345.1 == 0 && (bt345.2.1 == 0 && (bt345.2.2.1.toList == ([] : List UInt8))))) else (none)) else (none)) else (if x3 = true then (if bt345.2.2.2 = 0 then (some ((bt345.2.2.1.size : Int) == (wrap64 (x0 + 2)))) else (none)) else (none))))))
end
def gumshoelaw06_ValueBig.f (k : Nat) (a0 : Int) : Option (Bool) := (gumshoelaw06_shown.f).bind fun t332 => (if a0 < 65000 then (gumshoelaw06_ValueBig.j0 k a0 t332 true) else (gumshoelaw06_ValueBig.j0 k a0 t332 (decide (a0 > 70000))))
set_option maxHeartbeats 8000000 in
set_option maxRecDepth 100000 in
theorem gumshoelaw06_ValueBig.calls (k : Nat) (a0 : Int) (r : Bool) (w : World) (hL : Laid w) (h : gumshoelaw06_ValueBig.f k a0 = some r) :
    Calls Tryd.prog 5 #[.int .i64 a0] w fun e w' => e = .returned (.bool r) ∧ Below w.heap.size w w' := by
  have HL := Aside0.mk hL
  clear hL
  have hu23 := Tryd.underlying23
  have HB := Aside0.mk (Below.refl w.heap.size w)
  have H : ((gumshoelaw06_shown.f).bind fun t332 => (if a0 < 65000 then (gumshoelaw06_ValueBig.j0 k a0 t332 true) else (gumshoelaw06_ValueBig.j0 k a0 t332 (decide (a0 > 70000))))) = some r := h
  clear h
  replace H := Option.bind_eq_some_iff.mp H
  obtain ⟨t332, A20, H⟩ := H
  replace H : (if a0 < 65000 then (gumshoelaw06_ValueBig.j0 k a0 t332 true) else (gumshoelaw06_ValueBig.j0 k a0 t332 (decide (a0 > 70000)))) = some r := H
  have A2 := Aside0.mk A20
  clear A20
  have HC3 := Aside0.mk H
  clear H
  go_enter Tryd.func5, Tryd.ntmps5
  go_upto_region 2 with (first | ((with_reducible refine gate_callee (f := 11) rfl ?_); refine goesL_ (some 8) rfl rfl Tryd.func11 (by kernel_rfl) rfl #[] rfl (by (try simp only [List.map_toArray, List.map_cons, List.map_nil]); first | done | rfl | (simp only [List.length_drop, List.length_take]; rfl)) ?_; (with_reducible refine (gumshoelaw06_shown.calls (hL := ?sideL)  t332 _ A2.out).mono ?_); (case sideL => exact Laid.below HL.out (by repeat (first | (with_reducible first | exact HB.out | apply below_alloc | apply pw_below_drewN | apply below_drew1) | exact HB.out))); rintro e w4 ⟨rfl, hb⟩; refine ⟨_, rfl, ?_⟩; have n0_ := Aside0.mk (below_step (by repeat (first | (with_reducible first | exact HB.out | apply below_alloc | apply pw_below_drewN | apply below_drew1) | exact HB.out)) hb); clear HB; have HB := n0_; clear n0_; (try clear hb); (try clear hb2); (try clear hk); (try clear hi)))
  (try simp only [Act.put, List.setIfInBounds_toArray, List.set_cons_zero, List.set_cons_succ])
  go_cut [14] (fun v14 wc => ∃ (kq : Nat) (x14_2 : Bool), v14 = .bool x14_2 ∧ Aside0 (gumshoelaw06_ValueBig.j0 kq a0 t332 x14_2 = some r) ∧ Aside0 (kq ≤ k) ∧ Aside0 (Below w.heap.size w wc))
  case first =>
    have H := HC3.out
    clear HC3
    by_cases c5 : a0 < 65000
    · rw [if_pos c5] at H
      have c5b0 : decide (a0 < 65000) = true := decide_eq_true c5
      clear c5
      (first | rw [c5b0] | (simp only [i64_w, i32_w]; rw [c5b0]) | skip)
      have H' := Aside0.mk H
      clear H
      go_wp2
      go_meet
      case rel => exact ⟨_, (true), (by first | rfl | (simp; done) | (simp [*]; done) | (simp [*]; exact (fun (l_ : List UInt8) => (by cases l_ <;> rfl : l_.isEmpty = !(l_ != []))) _)), H', ⟨by first | omega | exact Nat.le_refl _⟩, ⟨by repeat (first | (with_reducible first | exact HB.out | apply below_alloc | apply pw_below_drewN | apply below_drew1) | exact HB.out)⟩⟩
    · rw [if_neg c5] at H
      have c5b0 : decide (a0 < 65000) = false := decide_eq_false c5
      clear c5
      (first | rw [c5b0] | (simp only [i64_w, i32_w]; rw [c5b0]) | skip)
      have H' := Aside0.mk H
      clear H
      go_wp2
      go_meet
      case rel => exact ⟨_, (decide (a0 > 70000)), (by first | rfl | (simp; done) | (simp [*]; done) | (simp [*]; exact (fun (l_ : List UInt8) => (by cases l_ <;> rfl : l_.isEmpty = !(l_ != []))) _)), H', ⟨by first | omega | exact Nat.le_refl _⟩, ⟨by repeat (first | (with_reducible first | exact HB.out | apply below_alloc | apply pw_below_drewN | apply below_drew1) | exact HB.out)⟩⟩
  case rest =>
    clear HC3
    try clear c1
    try clear p2
    try clear c5
    try clear c5b0
    obtain ⟨kq, x14_2, rfl, HA, HJ2, HB⟩ := hcut
    cases kq with
    | zero => exact absurd HA.out (by simp [gumshoelaw06_ValueBig.j0])
    | succ kj2 =>
      have H := HA.out
      clear HA
      simp only [gumshoelaw06_ValueBig.j0] at H
      by_cases c6 : x14_2 = true
      · subst c6
        have H1 : (some t332) = some r := by rw [if_pos rfl] at H; exact H
        clear H
        have H := H1
        clear H1
        obtain rfl := Option.some.inj H
        go_wp2
        go_ret
        exact ⟨by first | rfl | (simp [errW_none, errW_some] <;> rfl) | (simp [*, errW_none, errW_some] <;> rfl) | (simp [*, errW_none, errW_some]; exact (fun (l_ : List UInt8) => (by cases l_ <;> rfl : l_.isEmpty = !(l_ != []))) _), by repeat (first | (with_reducible first | exact HB.out | apply below_alloc | apply pw_below_drewN | apply below_drew1) | exact HB.out)⟩
      · replace c6 := Bool.eq_false_iff.mpr c6
        subst c6
        have H1 : (if 70000 ≤ 281474976710656 then (gumshoelaw06_ValueBig.l0 kj2 a0 t332 (List.replicate 0 0) 0) else (none)) = some r := by rw [if_neg (show ¬ (false = true) by decide)] at H; exact H
        clear H
        have H := H1
        clear H1
        by_cases c7 : 70000 ≤ 281474976710656
        · rw [if_pos c7] at H
          have c7b0 := eq_true c7
          have c7b1 : decide (70000 ≤ 281474976710656) = true := decide_eq_true c7
          clear c7
          obtain ⟨y333, hy333⟩ : ∃ y_ : List Int, y_ = (List.replicate 0 0) := ⟨_, rfl⟩
          replace H : (gumshoelaw06_ValueBig.l0 kj2 a0 t332 y333 0) = some r := by first | (rw [hy333]; with_reducible exact H) | (have H2_ := (Option.bind_some _ _).symm.trans H; rw [hy333]; with_reducible exact H2_) | (have H2_ := (Option.bind_some _ _).symm.trans H; with_reducible exact H2_) | with_reducible exact H | (rw [hy333]; exact H) | exact H
          have Ny333 := Aside0.mk hy333
          clear hy333
          have H' := Aside0.mk H
          clear H
          go_wp2_with (first | ((with_reducible refine gate_dst (N := 16) rfl ?_); (try (refine gate_guard (by rfl) ?_; dsimp only)); refine Kd.R_make0 (Kd.int .u8) _ 5 rfl (N := 16) rfl 35 _ _ rfl 70000 rfl rfl Tryd.underlying35 (.int .u8 0) 1 info5 rfl (by decide) (by omega) 0 (ok := fun _ => True) (okp := fun _ => True) rfl (fun _ hk => hk) trivial (by omega) (by omega) (Below.refl _ _) (Nat.le_refl _) ?_; intro v334 w8 ho9 hb hg_ hnew_; clear hg_ hnew_; (first | rw [← Ny333.out] at ho9 | (simp only [Int.reduceToNat] at ho9; rw [← Ny333.out] at ho9)); have n0_ := Aside0.mk (Kd.R_lower ho9 (below_size (by repeat (first | (with_reducible first | exact HB.out | apply below_alloc | apply pw_below_drewN | apply below_drew1) | exact HB.out)))); have n1_ := Aside0.mk (below_step (by repeat (first | (with_reducible first | exact HB.out | apply below_alloc | apply pw_below_drewN | apply below_drew1) | exact HB.out)) hb); clear HB; have HO335 := n0_; have HB := n1_; clear n0_ n1_; clear hb ho9))
          go_loopg [4, 5] kj2 (fun kq v4 v5 w' => ∃ (x4_2 : List Int) (x5_2 : Int), v5 = .int .i64 x5_2 ∧ Aside0 (gumshoelaw06_ValueBig.l0 kq a0 t332 x4_2 x5_2 = some r) ∧ Aside0 (kq ≤ kj2) ∧ Aside0 (Kd.R (Kd.int .u8) 5 w' w.heap.size (fun _ => True) v4 x4_2) ∧ Aside0 (Below w.heap.size w w'))
          case atStart => exact ⟨(y333), (0), (by first | rfl | (simp; done) | (simp [*]; done) | (simp [*]; exact (fun (l_ : List UInt8) => (by cases l_ <;> rfl : l_.isEmpty = !(l_ != []))) _)), H', ⟨Nat.le_refl _⟩, ⟨by (with_reducible repeat (first | apply Kd.R_alloc | apply Kd.R_drewN | apply Kd.R_drew)); exact HO335.out⟩, ⟨by repeat (first | (with_reducible first | exact HB.out | apply below_alloc | apply pw_below_drewN | apply below_drew1) | exact HB.out)⟩⟩
          case round =>
            clear H'
            try clear c1
            try clear p2
            try clear c5
            try clear c5b0
            try clear c6
            try clear c7
            try clear c7b0
            try clear c7b1
            try clear p2
            obtain ⟨x4_2, x5_2, rfl, HA, HK2, HO_4, HB⟩ := hrel
            cases gk with
            | zero => exact absurd HA.out (by simp [gumshoelaw06_ValueBig.l0])
            | succ k2 =>
              have H := HA.out
              clear HA
              simp only [gumshoelaw06_ValueBig.l0] at H
              by_cases c10 : x5_2 < a0
              · rw [if_pos c10] at H
                have c10b0 : decide (x5_2 < a0) = true := decide_eq_true c10
                clear c10
                by_cases c11 : x4_2.length < 140737488355328
                · rw [if_pos c11] at H
                  have LMc11 := Aside0.mk c11
                  clear c11
                  obtain ⟨y336, hy336⟩ : ∃ y_ : List Int, y_ = (x4_2 ++ [97]) := ⟨_, rfl⟩
                  replace H : (gumshoelaw06_ValueBig.l0 k2 a0 t332 y336 (wrap64 (x5_2 + 1))) = some r := by first | (rw [hy336]; with_reducible exact H) | (have H2_ := (Option.bind_some _ _).symm.trans H; rw [hy336]; with_reducible exact H2_) | (have H2_ := (Option.bind_some _ _).symm.trans H; with_reducible exact H2_) | with_reducible exact H | (rw [hy336]; exact H) | exact H
                  have Ny336 := Aside0.mk hy336
                  clear hy336
                  have H' := Aside0.mk H
                  clear H
                  go_wp2_with (first | ((with_reducible refine gate_builtin (b := .append) (xs := #[.tmp 22, .tmp 23]) rfl ?_); (try (refine gate_guard (by rfl) ?_; dsimp only)); at_builtin; refine Kd.R_append (Kd.int .u8) (w0 := w) w.heap.size rfl (.tmp 22) (.tmp 23) 35 5 (.int .u8 0) 1 rfl Tryd.underlying35 info5 rfl (by decide) (by omega) u4 x4_2 97 [.int .u8 97] (fun _ => True) (fun _ => False) rfl rfl ?aP (fun _ hk => hk.elim) ?aF ?aO ?aB ?aS ?aL ?_; (case aP => exact rfl); (case aB => exact (by repeat (first | (with_reducible first | exact HB.out | apply below_alloc | apply pw_below_drewN | apply below_drew1) | exact HB.out))); (case aF => exact (fun _ _ => trivial)); (case aO => exact (by (with_reducible repeat (first | apply Kd.R_alloc | apply Kd.R_drewN | apply Kd.R_drew)); exact HO_4.out)); (case aS => exact (below_size (by repeat (first | (with_reducible first | exact HB.out | apply below_alloc | apply pw_below_drewN | apply below_drew1) | exact HB.out)))); (case aL => have := LMc11.out; omega); intro v337 w12 ho hb hg hat; rw [← Ny336.out] at ho; have n0_ := Aside0.mk (hb); have n1_ := Aside0.mk (ho); clear HB; clear HO_4; have HB := n0_; have HO338 := n1_; clear n0_ n1_; clear ho hb hg hat))
                  go_roundg k2
                  case measure => have := HJ2.out; have := HK2.out; omega
                  case rel => exact ⟨(y336), (wrap64 (x5_2 + 1)), (by first | rfl | (simp; done) | (simp [*]; done) | (simp [*]; exact (fun (l_ : List UInt8) => (by cases l_ <;> rfl : l_.isEmpty = !(l_ != []))) _)), H', ⟨by have := HJ2.out; have := HK2.out; omega⟩, ⟨by (with_reducible repeat (first | apply Kd.R_alloc | apply Kd.R_drewN | apply Kd.R_drew)); exact HO338.out⟩, ⟨by repeat (first | (with_reducible first | exact HB.out | apply below_alloc | apply pw_below_drewN | apply below_drew1) | exact HB.out)⟩⟩
                · rw [if_neg c11] at H
                  exact absurd H (by simp)
              · rw [if_neg c10] at H
                have c10b0 : decide (x5_2 < a0) = false := decide_eq_false c10
                clear c10
                replace H := Option.bind_eq_some_iff.mp H
                obtain ⟨⟨t339, t340, t341⟩, A130, H⟩ := H
                replace H : ((gumshoelaw06_text.f (⟨#[98, 99]⟩ : ByteArray)).bind fun bt342 => ((value_Two.f (⟨#[43]⟩ : ByteArray) t339 t340 t341 bt342.1 bt342.2.1 bt342.2.2).bind fun bt345 => (if (wrap64 (a0 + 2)) > 65536 then (if t332 = true then (if bt345.2.2.2 = 61 then (some (bt345.1 == 0 && (bt345.2.1 == 0 && (bt345.2.2.1.toList == ([] : List UInt8))))) else (none)) else (none)) else (if t332 = true then (if bt345.2.2.2 = 0 then (some ((bt345.2.2.1.size : Int) == (wrap64 (a0 + 2)))) else (none)) else (none))))) = some r := H
                have A13 := Aside0.mk A130
                clear A130
                replace H := Option.bind_eq_some_iff.mp H
                obtain ⟨⟨t342, t343, t344⟩, A140, H⟩ := H
                replace H : ((value_Two.f (⟨#[43]⟩ : ByteArray) t339 t340 t341 t342 t343 t344).bind fun bt345 => (if (wrap64 (a0 + 2)) > 65536 then (if t332 = true then (if bt345.2.2.2 = 61 then (some (bt345.1 == 0 && (bt345.2.1 == 0 && (bt345.2.2.1.toList == ([] : List UInt8))))) else (none)) else (none)) else (if t332 = true then (if bt345.2.2.2 = 0 then (some ((bt345.2.2.1.size : Int) == (wrap64 (a0 + 2)))) else (none)) else (none)))) = some r := H
                have A14 := Aside0.mk A140
                clear A140
                replace H := Option.bind_eq_some_iff.mp H
                obtain ⟨⟨t345, t346, t347, t348⟩, A150, H⟩ := H
                replace H : (if (wrap64 (a0 + 2)) > 65536 then (if t332 = true then (if t348 = 61 then (some (t345 == 0 && (t346 == 0 && (t347.toList == ([] : List UInt8))))) else (none)) else (none)) else (if t332 = true then (if t348 = 0 then (some ((t347.size : Int) == (wrap64 (a0 + 2)))) else (none)) else (none))) = some r := H
                have A15 := Aside0.mk A150
                clear A150
                by_cases c16 : (wrap64 (a0 + 2)) > 65536
                · rw [if_pos c16] at H
                  have c16b0 : decide (65536 < (wrap64 (a0 + 2))) = true := decide_eq_true c16
                  clear c16
                  by_cases c17 : t332 = true
                  · subst c17
                    have H1 : (if t348 = 61 then (some (t345 == 0 && (t346 == 0 && (t347.toList == ([] : List UInt8))))) else (none)) = some r := by rw [if_pos rfl] at H; exact H
                    clear H
                    have H := H1
                    clear H1
                    by_cases c18 : t348 = 61
                    · rw [if_pos c18] at H
                      have c18b0 : (t348 == 61) = true := beq_iff_eq.mpr c18
                      have c18b1 : (t348 != 61) = false := bne_eq_false_iff_eq.mpr c18
                      clear c18
                      obtain rfl := Option.some.inj H
                      have hcv19 := own_string (P := Tryd.prog) Tryd.underlying35 Tryd.underlying5 Tryd.underlying9 (Kd.own_of_R HO_4.out)
                      go_wp2_with (first | ((with_reducible refine gate_dst (N := 6) rfl ?_); (try (refine gate_guard (by rfl) ?_; dsimp only)); refine box_event ?hg (N := 6) ?hd (cs := #[.int .i64 0, .int .i64 0, .string (⟨#[]⟩ : ByteArray)]) (t := 23) ?hr ?_; (case hd => rfl); (case hg => rfl); (case hr => first | (go_simp; done) | (go_simp; rfl)); intro gb349 hg w23 hbox hb; have n0_ := Aside0.mk (Kd.R_below (by (with_reducible repeat (first | apply Kd.R_alloc | apply Kd.R_drewN | apply Kd.R_drew)); exact HO_4.out) hb); have n1_ := Aside0.mk (below_step (by repeat (first | (with_reducible first | exact HB.out | apply below_alloc | apply pw_below_drewN | apply below_drew1) | exact HB.out)) hb); have n2_ := Aside0.mk (hbox); have n3_ := Aside0.mk ((by rw [hg]; exact (below_size (by repeat (first | (with_reducible first | exact HB.out | apply below_alloc | apply pw_below_drewN | apply below_drew1) | exact HB.out))) : w.heap.size ≤ gb349)); have n4_ := Aside0.mk ((by rw [hg]; exact (below_size (by repeat (first | (with_reducible first | exact HB.out | apply below_alloc | apply pw_below_drewN | apply below_drew1) | exact HB.out))) : w.heap.size ≤ gb349)); clear HO_4; clear HB; have HO_4 := n0_; have HB := n1_; have BK349 := n2_; have GW349 := n3_; have GE349 := n4_; clear n0_ n1_ n2_ n3_ n4_; clear hb hbox hg; have hcz24_0 : w23.cell? ⟨gb349, 0, none⟩ = some (.int .i64 0) := (blk_cell BK349.out 0).trans rfl; have hcz24_1 : w23.cell? ⟨gb349, 1, none⟩ = some (.int .i64 0) := (blk_cell BK349.out 1).trans rfl; have hcz24_2 : w23.cell? ⟨gb349, 2, none⟩ = some (.string (⟨#[]⟩ : ByteArray)) := (blk_cell BK349.out 2).trans rfl; have hfz24_0 := blk_frozen BK349.out 0; have hfz24_1 := blk_frozen BK349.out 1; have hfz24_2 := blk_frozen BK349.out 2) | ((with_reducible refine gate_callee (f := 13) rfl ?_); refine goesL_ (some 30) rfl rfl Tryd.func13 (by kernel_rfl) rfl #[.string (⟨#[43]⟩ : ByteArray), .agg #[.int .i64 t339, .int .i64 t340, .string t341], .agg #[.int .i64 t342, .int .i64 t343, .string t344]] rfl (by (try simp only [List.map_toArray, List.map_cons, List.map_nil]); first | done | rfl | (simp only [List.length_drop, List.length_take]; rfl)) ?_; (with_reducible refine (value_Two.calls (hL := ?sideL) (⟨#[43]⟩ : ByteArray) t339 t340 t341 t342 t343 t344 t345 t346 t347 t348 _ A15.out).mono ?_); (case sideL => exact Laid.below HL.out (by repeat (first | (with_reducible first | exact HB.out | apply below_alloc | apply pw_below_drewN | apply below_drew1) | exact HB.out))); rintro e w22 ⟨rfl, hb⟩; refine ⟨_, rfl, ?_⟩; have n0_ := Aside0.mk (Kd.R_below (by (with_reducible repeat (first | apply Kd.R_alloc | apply Kd.R_drewN | apply Kd.R_drew)); exact HO_4.out) hb); have n1_ := Aside0.mk (below_step (by repeat (first | (with_reducible first | exact HB.out | apply below_alloc | apply pw_below_drewN | apply below_drew1) | exact HB.out)) hb); clear HO_4; clear HB; have HO_4 := n0_; have HB := n1_; clear n0_ n1_; (try clear hb); (try clear hb2); (try clear hk); (try clear hi)) | ((with_reducible refine gate_callee (f := 18) rfl ?_); refine goesL_ (some 29) rfl rfl Tryd.func18 (by kernel_rfl) rfl #[.string (⟨#[98, 99]⟩ : ByteArray)] rfl (by (try simp only [List.map_toArray, List.map_cons, List.map_nil]); first | done | rfl | (simp only [List.length_drop, List.length_take]; rfl)) ?_; (with_reducible refine (gumshoelaw06_text.calls (⟨#[98, 99]⟩ : ByteArray) t342 t343 t344 _ A14.out).mono ?_); rintro e w21 ⟨rfl, hb⟩; refine ⟨_, rfl, ?_⟩; have n0_ := Aside0.mk (Kd.R_below (by (with_reducible repeat (first | apply Kd.R_alloc | apply Kd.R_drewN | apply Kd.R_drew)); exact HO_4.out) hb); have n1_ := Aside0.mk (below_step (by repeat (first | (with_reducible first | exact HB.out | apply below_alloc | apply pw_below_drewN | apply below_drew1) | exact HB.out)) hb); clear HO_4; clear HB; have HO_4 := n0_; have HB := n1_; clear n0_ n1_; (try clear hb); (try clear hb2); (try clear hk); (try clear hi)) | ((with_reducible refine gate_callee (f := 18) rfl ?_); refine goesL_ (some 28) rfl rfl Tryd.func18 (by kernel_rfl) rfl #[.string (strOfNums x4_2)] rfl (by (try simp only [List.map_toArray, List.map_cons, List.map_nil]); first | done | rfl | (simp only [List.length_drop, List.length_take]; rfl)) ?_; (with_reducible refine (gumshoelaw06_text.calls (strOfNums x4_2) t339 t340 t341 _ A13.out).mono ?_); rintro e w20 ⟨rfl, hb⟩; refine ⟨_, rfl, ?_⟩; have n0_ := Aside0.mk (Kd.R_below (by (with_reducible repeat (first | apply Kd.R_alloc | apply Kd.R_drewN | apply Kd.R_drew)); exact HO_4.out) hb); have n1_ := Aside0.mk (below_step (by repeat (first | (with_reducible first | exact HB.out | apply below_alloc | apply pw_below_drewN | apply below_drew1) | exact HB.out)) hb); clear HO_4; clear HB; have HO_4 := n0_; have HB := n1_; clear n0_ n1_; (try clear hb); (try clear hb2); (try clear hk); (try clear hi)))
                      go_ret
                      exact ⟨by first | rfl | (simp [errW_none, errW_some] <;> rfl) | (simp [*, errW_none, errW_some] <;> rfl) | (simp [*, errW_none, errW_some]; exact (fun (l_ : List UInt8) => (by cases l_ <;> rfl : l_.isEmpty = !(l_ != []))) _), by repeat (first | (with_reducible first | exact HB.out | apply below_alloc | apply pw_below_drewN | apply below_drew1 | refine below_set ?_ GE349.out) | exact HB.out)⟩
                    · rw [if_neg c18] at H
                      exact absurd H (by simp)
                  · replace c17 := Bool.eq_false_iff.mpr c17
                    subst c17
                    have H1 : (none) = some r := by rw [if_neg (show ¬ (false = true) by decide)] at H; exact H
                    clear H
                    have H := H1
                    clear H1
                    exact absurd H (by simp)
                · rw [if_neg c16] at H
                  have c16b0 : decide (65536 < (wrap64 (a0 + 2))) = false := decide_eq_false c16
                  clear c16
                  by_cases c25 : t332 = true
                  · subst c25
                    have H1 : (if t348 = 0 then (some ((t347.size : Int) == (wrap64 (a0 + 2)))) else (none)) = some r := by rw [if_pos rfl] at H; exact H
                    clear H
                    have H := H1
                    clear H1
                    by_cases c26 : t348 = 0
                    · rw [if_pos c26] at H
                      have c26b0 : (t348 == 0) = true := beq_iff_eq.mpr c26
                      have c26b1 : (t348 != 0) = false := bne_eq_false_iff_eq.mpr c26
                      clear c26
                      obtain rfl := Option.some.inj H
                      have hcv27 := own_string (P := Tryd.prog) Tryd.underlying35 Tryd.underlying5 Tryd.underlying9 (Kd.own_of_R HO_4.out)
                      go_wp2_with (first | ((with_reducible refine gate_dst (N := 6) rfl ?_); (try (refine gate_guard (by rfl) ?_; dsimp only)); refine box_event ?hg (N := 6) ?hd (cs := #[.int .i64 0, .int .i64 0, .string (⟨#[]⟩ : ByteArray)]) (t := 23) ?hr ?_; (case hd => rfl); (case hg => rfl); (case hr => first | (go_simp; done) | (go_simp; rfl)); intro gb349 hg w31 hbox hb; have n0_ := Aside0.mk (Kd.R_below (by (with_reducible repeat (first | apply Kd.R_alloc | apply Kd.R_drewN | apply Kd.R_drew)); exact HO_4.out) hb); have n1_ := Aside0.mk (below_step (by repeat (first | (with_reducible first | exact HB.out | apply below_alloc | apply pw_below_drewN | apply below_drew1) | exact HB.out)) hb); have n2_ := Aside0.mk (hbox); have n3_ := Aside0.mk ((by rw [hg]; exact (below_size (by repeat (first | (with_reducible first | exact HB.out | apply below_alloc | apply pw_below_drewN | apply below_drew1) | exact HB.out))) : w.heap.size ≤ gb349)); have n4_ := Aside0.mk ((by rw [hg]; exact (below_size (by repeat (first | (with_reducible first | exact HB.out | apply below_alloc | apply pw_below_drewN | apply below_drew1) | exact HB.out))) : w.heap.size ≤ gb349)); clear HO_4; clear HB; have HO_4 := n0_; have HB := n1_; have BK349 := n2_; have GW349 := n3_; have GE349 := n4_; clear n0_ n1_ n2_ n3_ n4_; clear hb hbox hg; have hcz32_0 : w31.cell? ⟨gb349, 0, none⟩ = some (.int .i64 0) := (blk_cell BK349.out 0).trans rfl; have hcz32_1 : w31.cell? ⟨gb349, 1, none⟩ = some (.int .i64 0) := (blk_cell BK349.out 1).trans rfl; have hcz32_2 : w31.cell? ⟨gb349, 2, none⟩ = some (.string (⟨#[]⟩ : ByteArray)) := (blk_cell BK349.out 2).trans rfl; have hfz32_0 := blk_frozen BK349.out 0; have hfz32_1 := blk_frozen BK349.out 1; have hfz32_2 := blk_frozen BK349.out 2) | ((with_reducible refine gate_callee (f := 13) rfl ?_); refine goesL_ (some 30) rfl rfl Tryd.func13 (by kernel_rfl) rfl #[.string (⟨#[43]⟩ : ByteArray), .agg #[.int .i64 t339, .int .i64 t340, .string t341], .agg #[.int .i64 t342, .int .i64 t343, .string t344]] rfl (by (try simp only [List.map_toArray, List.map_cons, List.map_nil]); first | done | rfl | (simp only [List.length_drop, List.length_take]; rfl)) ?_; (with_reducible refine (value_Two.calls (hL := ?sideL) (⟨#[43]⟩ : ByteArray) t339 t340 t341 t342 t343 t344 t345 t346 t347 t348 _ A15.out).mono ?_); (case sideL => exact Laid.below HL.out (by repeat (first | (with_reducible first | exact HB.out | apply below_alloc | apply pw_below_drewN | apply below_drew1) | exact HB.out))); rintro e w30 ⟨rfl, hb⟩; refine ⟨_, rfl, ?_⟩; have n0_ := Aside0.mk (Kd.R_below (by (with_reducible repeat (first | apply Kd.R_alloc | apply Kd.R_drewN | apply Kd.R_drew)); exact HO_4.out) hb); have n1_ := Aside0.mk (below_step (by repeat (first | (with_reducible first | exact HB.out | apply below_alloc | apply pw_below_drewN | apply below_drew1) | exact HB.out)) hb); clear HO_4; clear HB; have HO_4 := n0_; have HB := n1_; clear n0_ n1_; (try clear hb); (try clear hb2); (try clear hk); (try clear hi)) | ((with_reducible refine gate_callee (f := 18) rfl ?_); refine goesL_ (some 29) rfl rfl Tryd.func18 (by kernel_rfl) rfl #[.string (⟨#[98, 99]⟩ : ByteArray)] rfl (by (try simp only [List.map_toArray, List.map_cons, List.map_nil]); first | done | rfl | (simp only [List.length_drop, List.length_take]; rfl)) ?_; (with_reducible refine (gumshoelaw06_text.calls (⟨#[98, 99]⟩ : ByteArray) t342 t343 t344 _ A14.out).mono ?_); rintro e w29 ⟨rfl, hb⟩; refine ⟨_, rfl, ?_⟩; have n0_ := Aside0.mk (Kd.R_below (by (with_reducible repeat (first | apply Kd.R_alloc | apply Kd.R_drewN | apply Kd.R_drew)); exact HO_4.out) hb); have n1_ := Aside0.mk (below_step (by repeat (first | (with_reducible first | exact HB.out | apply below_alloc | apply pw_below_drewN | apply below_drew1) | exact HB.out)) hb); clear HO_4; clear HB; have HO_4 := n0_; have HB := n1_; clear n0_ n1_; (try clear hb); (try clear hb2); (try clear hk); (try clear hi)) | ((with_reducible refine gate_callee (f := 18) rfl ?_); refine goesL_ (some 28) rfl rfl Tryd.func18 (by kernel_rfl) rfl #[.string (strOfNums x4_2)] rfl (by (try simp only [List.map_toArray, List.map_cons, List.map_nil]); first | done | rfl | (simp only [List.length_drop, List.length_take]; rfl)) ?_; (with_reducible refine (gumshoelaw06_text.calls (strOfNums x4_2) t339 t340 t341 _ A13.out).mono ?_); rintro e w28 ⟨rfl, hb⟩; refine ⟨_, rfl, ?_⟩; have n0_ := Aside0.mk (Kd.R_below (by (with_reducible repeat (first | apply Kd.R_alloc | apply Kd.R_drewN | apply Kd.R_drew)); exact HO_4.out) hb); have n1_ := Aside0.mk (below_step (by repeat (first | (with_reducible first | exact HB.out | apply below_alloc | apply pw_below_drewN | apply below_drew1) | exact HB.out)) hb); clear HO_4; clear HB; have HO_4 := n0_; have HB := n1_; clear n0_ n1_; (try clear hb); (try clear hb2); (try clear hk); (try clear hi)))
                      go_ret
                      exact ⟨by first | rfl | (simp [errW_none, errW_some] <;> rfl) | (simp [*, errW_none, errW_some] <;> rfl) | (simp [*, errW_none, errW_some]; exact (fun (l_ : List UInt8) => (by cases l_ <;> rfl : l_.isEmpty = !(l_ != []))) _), by repeat (first | (with_reducible first | exact HB.out | apply below_alloc | apply pw_below_drewN | apply below_drew1 | refine below_set ?_ GE349.out) | exact HB.out)⟩
                    · rw [if_neg c26] at H
                      exact absurd H (by simp)
                  · replace c25 := Bool.eq_false_iff.mpr c25
                    subst c25
                    have H1 : (none) = some r := by rw [if_neg (show ¬ (false = true) by decide)] at H; exact H
                    clear H
                    have H := H1
                    clear H1
                    exact absurd H (by simp)
        · rw [if_neg c7] at H
          exact absurd H (by simp)
end Go.Proofs.YtmdchbenalhpjaaDoor.Pv

/- The plain law of ValueBig. No condition. -/
namespace Go.Proofs.YtmdchbenalhpjaaDoor.Pure
open Go.RowKit Go.Proofs.YtmdchbenalhpjaaDoorW.PrintWords Go.Proofs.YtmdchbenalhpjaaDoorW.PrintLast Go.Proofs.YtmdchbenalhpjaaDoor.Va Go.Proofs.YtmdchbenalhpjaaDoor.Vb Go.Proofs.YtmdchbenalhpjaaDoor.Vc Go.Proofs.YtmdchbenalhpjaaDoor.Pv
set_option linter.unusedVariables false
set_option linter.unusedSimpArgs false
theorem nums_size (l : List Int) : (strOfNums l).size = l.length := by simp [strOfNums, ByteArray.size]
theorem big_end (n : Nat) (h1 : 65000 ≤ n) (h2 : n ≤ 70000) (l : List Int) (hl : l.length = n) (k : Nat) : gumshoelaw06_ValueBig.l0 (k + 1) (n : Int) true l (n : Int) = some true := by
  have hz := nums_size l
  rw [hl] at hz
  have hw : wrap64 ((n : Int) + 2) = (n : Int) + 2 := by unfold wrap64; omega
  rw [gumshoelaw06_ValueBig.l0, if_neg (by omega), hw]
  generalize strOfNums l = t at *
  have f1 : FB 0 t := fb i64_0 (by omega)
  have f2 : FB 0 (⟨#[98, 99]⟩ : ByteArray) := fb i64_0 (by decide)
  have hc : (t ++ (⟨#[98, 99]⟩ : ByteArray)).size = n + 2 := by rw [ByteArray.size_append, hz]; rfl
  have hm : mkS 38 (4, 0, t) (4, 0, ⟨#[98, 99]⟩) = (4, 0, t ++ ⟨#[98, 99]⟩) := by
    unfold mkS
    rw [if_pos rfl, if_pos (.inl rfl)]
    simp only
    rw [key_text, key_text]
  simp only [Vb.gumshoelaw06_text.f, Option.bind_some]
  by_cases hb : 65536 < n + 2
  · have ht : twoS [43] (4, 0, t) (4, 0, ⟨#[98, 99]⟩) = ((0, 0, ⟨#[]⟩), 61) := by
      unfold twoS
      rw [sg_add]
      simp only [hm]
      exact if_pos (by omega)
    have := val_two ⟨#[43]⟩ 4 0 t 4 0 ⟨#[98, 99]⟩ f1 f2 (by decide) _ _ ht
    rw [this]
    simp only [Option.bind_some]
    rw [if_pos (by omega)]
    simp [empty_list]
  · have ht : twoS [43] (4, 0, t) (4, 0, ⟨#[98, 99]⟩) = ((4, 0, t ++ ⟨#[98, 99]⟩), 0) := by
      unfold twoS
      rw [sg_add]
      simp only [hm]
      exact if_neg (by omega)
    have := val_two ⟨#[43]⟩ 4 0 t 4 0 ⟨#[98, 99]⟩ f1 f2 (by decide) _ _ ht
    rw [this]
    simp only [Option.bind_some]
    rw [if_neg (by omega), hc]
    simp
theorem big_loop (n : Nat) (h1 : 65000 ≤ n) (h2 : n ≤ 70000) : ∀ (d : Nat) (l : List Int) (i : Nat), i + d = n → l.length = i → gumshoelaw06_ValueBig.l0 (d + 1) (n : Int) true l (i : Int) = some true := by
  intro d
  induction d with
  | zero =>
    intro l i hi hl
    obtain rfl : i = n := by omega
    exact big_end i h1 h2 l hl 0
  | succ d ih =>
    intro l i hi hl
    have hw : wrap64 ((i : Int) + 1) = ((i + 1 : Nat) : Int) := by unfold wrap64; omega
    rw [gumshoelaw06_ValueBig.l0, if_pos (by omega), if_pos (by omega), hw]
    exact ih (l ++ [97]) (i + 1) (by omega) (by simp [hl])
theorem big_small (n : Int) (hn : n < 65000 ∨ 70000 < n) : gumshoelaw06_ValueBig.f 1 n = some true := by
  unfold gumshoelaw06_ValueBig.f
  rw [shown_tells]
  simp only [Option.bind_some]
  have hj : gumshoelaw06_ValueBig.j0 1 n true true = some true := by rw [gumshoelaw06_ValueBig.j0, if_pos rfl]
  by_cases h1 : n < 65000
  · rw [if_pos h1, hj]
  · rw [if_neg h1, show decide (n > 70000) = true from decide_eq_true (by omega), hj]
theorem big_start (m : Nat) (h1 : 65000 ≤ m) (h2 : m ≤ 70000) (k : Nat) (x : Option Bool) (h : gumshoelaw06_ValueBig.l0 k (m : Int) true [] 0 = x) : gumshoelaw06_ValueBig.j0 (k + 1) (m : Int) true false = x := by
  rw [gumshoelaw06_ValueBig.j0, if_neg (by decide), if_pos (by omega), List.replicate_zero]
  exact h
theorem big_zero (m : Nat) (h1 : 65000 ≤ m) (h2 : m ≤ 70000) : gumshoelaw06_ValueBig.l0 (m + 1) (m : Int) true [] 0 = some true := by
  have hl := big_loop m h1 h2 m [] 0 (Nat.zero_add m) rfl
  rw [show ((0 : Nat) : Int) = 0 from rfl] at hl
  exact hl
theorem big_into (n : Int) (h1 : ¬ n < 65000) (h2 : decide (n > 70000) = false) (k : Nat) (x : Option Bool) (hs : gumshoelaw06_ValueBig.j0 k n true false = x) : gumshoelaw06_ValueBig.f k n = x := by
  unfold gumshoelaw06_ValueBig.f
  rw [shown_tells]
  simp only [Option.bind_some]
  rw [if_neg h1, h2, hs]
theorem big_large (m : Nat) (h1 : 65000 ≤ m) (h2 : m ≤ 70000) : gumshoelaw06_ValueBig.f (m + 1 + 1) (m : Int) = some true := by
  have hs := big_start m h1 h2 (m + 1) (some true) (big_zero m h1 h2)
  have c1 : ¬ ((m : Int) < 65000) := by omega
  have c2 : decide ((m : Int) > 70000) = false := decide_eq_false (by omega)
  exact big_into (m : Int) c1 c2 (m + 1 + 1) (some true) hs
theorem ValueBig (n : Int) (h : I64 n) : ∃ k, gumshoelaw06_ValueBig.f k n = some true := by
  by_cases hn : n < 65000 ∨ 70000 < n
  · exact ⟨1, big_small n hn⟩
  · refine ⟨n.toNat + 1 + 1, ?_⟩
    have := big_large n.toNat (by omega) (by omega)
    rw [Int.toNat_of_nonneg (by omega)] at this
    exact this
end Go.Proofs.YtmdchbenalhpjaaDoor.Pure

/- ValueBig: for every input the law returns true, and each argument reads as it did; its row, and its tied card. No condition but those of the card. -/
namespace Go.Proofs.YtmdchbenalhpjaaDoor.valueBig
open Go.ChangeShapes Go.WideShapes Go.ChangeAt Go.RowKit
open Go.ChangeMaps (open_string shut_string)
open Go.Proofs.YtmdchbenalhpjaaDoor Go.Proofs.YtmdchbenalhpjaaDoor.Vc Go.Proofs.YtmdchbenalhpjaaDoorW.PrintWords
set_option linter.unusedVariables false
set_option maxRecDepth 100000 in
theorem lifted (os : Os) (started : os.Started) (H : Type) (enc : TypeId × Value → H) :
    ReturnsInHanded {} Tryd.checked os 5 .any (fun w args => (Rows.valueBigSpec.pre enc Tryd.prog Tryd.f5 [] false w args ∧ laidMetH Tryd.prog five w) ∧ sizedMet enc Tryd.prog Tryd.f5 (OpenSpec.ofChange Rows.valueBigSpec) false w args) (Rows.valueBigSpec.post enc Tryd.prog Tryd.f5 false true false false) := by
  refine returnsInHanded_of_change_and (C := Tryd.checked) (X := fun w _ => laidMetH Tryd.prog five w) (fun _ _ _ hh h => h.of_heap hh) own started (by kernel_rfl) Tryd.func5
    (ChangeSpec.witness_shaped (enc := enc) (C := Tryd.checked) (os := os) (X := fun w _ => laidMetH Tryd.prog five w) false (World.doorLaid Tryd.prog 400 os) #[.int .i64 0] 8 rfl (World.shaped_of_RefB (by kernel_rfl) (by kernel_rfl)) (by kernel_rfl) (by kernel_rfl) (by kernel_rfl) (door_met os _)) ?_
  intro W base args ds gs before hval0 hW _ hsz0 hL0 _
  have hL := laid_of hL0
  have hsz : (DataW.weightsEach Tryd.prog (Tryd.f5.params.toList ++ Rows.valueBigSpec.plain.varTypes Tryd.prog) (ds ++ gs)).all (· ≤ reachBytes) = true := hsz0
  have hval : ∀ (j : Nat) t v, Tryd.f5.params[j]? = some t → args[j]? = some v → Value.okWide Tryd.prog W .any base t v := hval0
  have hW' := hW
  obtain ⟨p, q, hA0, hV, rfl, hfz, hnd⟩ := hW
  have hA : DataW.TrodAll enc Tryd.prog W 0 (fun _ => true) true Tryd.f5.params.toList args.toList ds p := hA0
  rw [Tryd.params5] at hA hval hsz
  obtain ⟨v0, vs0, d0, ds0, p0, q0, hargs, rfl, rfl, h0, r0⟩ := trodAll_cons hA
  obtain ⟨rfl, rfl, rfl⟩ := trodAll_nil r0
  obtain rfl : args = #[v0] := by cases args; simp_all
  obtain ⟨rfl, rfl⟩ := trodVars_none hV
  obtain ⟨a0, rfl, rfl, rfl, w0⟩ := open_int Tryd.underlying3 (hval 0 3 v0 rfl rfl) h0
  clear hA0 hval0 hsz0 hsz hL0
  have hP := Pure.ValueBig a0 (Va.i64_of_wf w0)
  obtain ⟨k, hP⟩ := hP
  refine (Pv.gumshoelaw06_ValueBig.calls k a0 true W hL hP).mono fun e W' ⟨he, bel⟩ => ?_
  subst he
  exact ⟨_, rfl, _, _, _, [], _, [], hW', trodAll_mk1 (shut_bool Tryd.underlying4 _), (trodAll_cons_mk (shut_int Tryd.underlying3 w0) trodAll_mk0), rfl, bel.frame _, fun h => by cases h⟩
theorem over : Rows.valueBigRow.holds Tryd.pinned (OpenSpec.ofChange Rows.valueBigSpec) :=
  OpenClaim.holds_of_wide 5 Tryd.f5 rfl rfl rfl rfl rfl rfl rfl ⟨rfl, rfl, rfl, rfl, rfl⟩ rfl rfl rfl rfl rfl (by kernel_rfl) Tryd.func5 (by kernel_rfl)
    (of_decide_eq_true (by kernel_rfl)) (by unfold Func.isWrapper; first | (rw [if_pos (by decide +kernel)]; kernel_rfl) | (rw [if_neg (by decide +kernel)]; exact ⟨rfl, rfl⟩))
    (fun os started H enc _ => lifted os started H enc)
set_option maxRecDepth 100000 in
theorem card : Rows.ValueBigCardSaid :=
  Claim7.holds_tied_plain_at .later [] [.data, .data, .data, .sentinel, .sentinel] true (true, "d82c5c0de405e83e82bf696796706ff586f4c8c76fc44cb8e04d5bc6808d8ed8") true
    over (fun _ h => by cases h) (by kernel_rfl) (fun _ h => by cases h) valueBig_row_tie rfl ⟨rfl, rfl⟩ (by kernel_rfl) rfl
    (fun f fn hf hfn => by
      obtain rfl : f = 5 := Option.some.inj ((show Tryd.prog.funcNamed "gumshoe/gumshoelaw06.ValueBig" = some 5 by kernel_rfl).symm.trans hf) |>.symm
      obtain rfl : fn = Tryd.f5 := (Option.some.inj (Tryd.func5.symm.trans hfn)).symm
      exact ⟨by kernel_rfl, fun j t ht => by
        rw [Tryd.params5] at ht
        have hm : t ∈ [3] := by simpa using Array.mem_of_getElem? ht
        have hall : ([3].all fun u => !Tryd.prog.wantsStandIn u) = true := by kernel_rfl
        exact (show Tryd.prog.wantsStandIn t = false by simpa using List.all_eq_true.1 hall t hm)⟩)
    (by kernel_rfl)
end Go.Proofs.YtmdchbenalhpjaaDoor.valueBig
namespace Go.Proofs.YtmdchbenalhpjaaDoor
theorem valueBig_holds : Rows.ValueBigCardSaid := valueBig.card
end Go.Proofs.YtmdchbenalhpjaaDoor

