/- The law CodeParts: for every input it returns true, and each argument reads as it did. No condition but those of the given card or row. -/
import Derived.Test.YtjlhhjfmekjbhaaGreatDoorRows
import Derived.Test.YtjlhhjfmekjbhaaGreatDoorCards
import Derived.Test.YtjlhhjfmekjbhaaGreatDoorTie
import Derived.WalkKit
import Derived.ProofKit
import Derived.OpenShut
import Derived.ShutString
import Derived.ChangeOld
import Derived.Below
import Derived.SizedLaws
import Derived.Stop.Joined
import Derived.SevenTiedAt
import Derived.Test.YtjlhhjfmekjbhaaGreatDoorMe0
import Derived.Test.YtjlhhjfmekjbhaaGreatDoorMe2
import Derived.Test.YtjlhhjfmekjbhaaGreatDoorMe8
namespace Go.Proofs.YtjlhhjfmekjbhaaGreatDoor.Pv
open Go.Proofs.YtjlhhjfmekjbhaaGreatDoor.Pq (errW errW_none errW_some info3 S31 z31 k31 k31_open k31_mk rd_T31 at_T31 S28 z28 k28 k28_open k28_mk rd_T28 at_T28)
open Go.RowKit Go.Proofs.YtjlhhjfmekjbhaaGreatDoor.Vg Go.Proofs.YtjlhhjfmekjbhaaGreatDoorW.PrintWords Go.Proofs.YtjlhhjfmekjbhaaGreatDoorW.PrintLast Go.Proofs.YtjlhhjfmekjbhaaGreatDoorW.PrintMore
set_option linter.unusedVariables false
set_option linter.unusedSimpArgs false
/-! ### gumshoelaw09_CodeParts: function 7 -/
mutual
def gumshoelaw09_CodeParts.j0 : Nat → List (S28) → List (S28) → Bool → Bool → Option (Bool)
 | 0, _, _, _, _ => none
 | k + 1, x0, x1, x5, x22 => if x22 = true then (some x5) else (if 0 ≤ (wrap64 ((x0.length : Int) + (x1.length : Int))) then (if (wrap64 ((x0.length : Int) + (x1.length : Int)) : Int).toNat ≤ 8796093022208 then ((some (List.replicate 0 z28 : List (S28))).bind fun y145 => (if y145.length + x0.length < 4398046511104 then ((some (y145 ++ x0 : List (S28))).bind fun y148 => (if y148.length + x1.length < 4398046511104 then ((some (y148 ++ x1 : List (S28))).bind fun y151 => (if 100 ≤ 35184372088832 then ((some (List.replicate 0 0 : List Int)).bind fun y154 => ((code_Marks.f x0).bind fun t157 => (if y154.length + t157.length < 17592186044416 then ((some (y154 ++ t157 : List Int)).bind fun y160 => ((code_Marks.f x1).bind fun t163 => (if y160.length + t163.length < 17592186044416 then ((code_Marks.f y151).bind fun t169 => ((gumshoeref01_Same.f t169 (y160 ++ t163)).bind fun t172 => (if t172 = true then ((code_Right.f x0).bind fun t173 => (if t173 = true then ((code_Right.f x1).bind fun t174 => (gumshoelaw09_CodeParts.j1 k x0 x1 x5 y151 (!t174))) else (gumshoelaw09_CodeParts.j1 k x0 x1 x5 y151 true))) else (some false)))) else (none)))) else (none)))) else (none))) else (none))) else (none))) else (none)) else (none))
def gumshoelaw09_CodeParts.j1 : Nat → List (S28) → List (S28) → Bool → List (S28) → Bool → Option (Bool)
 | 0, _, _, _, _, _ => none
 | k + 1, x0, x1, x5, x6, x53 => if x53 = true then (some x5) else ((code_Show.f x0).bind fun bt175 => ((code_Show.f x1).bind fun bt177 => ((code_Show.f x6).bind fun bt179 => (if x5 = true then (if bt175.2 = 0 then (if bt177.2 = 0 then (if bt179.2 = 0 then (if bt175.1.size + bt177.1.size ≤ 9223372036854775807 then (some (bt179.1.toList == (bt175.1 ++ bt177.1).toList)) else (none)) else (none)) else (none)) else (none)) else (none)))))
end
def gumshoelaw09_CodeParts.f (k : Nat) (l0 : List (S28)) (l1 : List (S28)) : Option (Bool) := (gumshoelaw09_shown.f).bind fun t142 => ((gumshoelaw09_Small.f l0).bind fun t143 => (if t143 = 0 then (gumshoelaw09_CodeParts.j0 k l0 l1 t142 true) else ((gumshoelaw09_Small.f l1).bind fun t144 => (gumshoelaw09_CodeParts.j0 k l0 l1 t142 (t144 == 0)))))
def gumshoelaw09_CodeParts.T5 : Bool × List (List Nat × List Nat) := (true, [([], []), ([], []), ([1], [1]), ([0, 2, 2], [0, 2]), ([], []), ([4, 3], [4]), ([3, 5, 5], [3, 5]), ([6, 6, 0, 1, 2, 3, 4, 5, 6], [6])])
def gumshoelaw09_CodeParts.B5 : List Nat := [0, 0, 2, 7, 0, 31, 63, 127]
theorem gumshoelaw09_CodeParts.tab5 : rtab .any (opsOf Tryz.f7 5) = gumshoelaw09_CodeParts.T5 := by kernel_rfl
theorem gumshoelaw09_CodeParts.bits5 : waitsOk gumshoelaw09_CodeParts.T5.2 gumshoelaw09_CodeParts.B5 = true := by kernel_rfl
set_option maxHeartbeats 8000000 in
set_option maxRecDepth 100000 in
theorem gumshoelaw09_CodeParts.calls (k : Nat) (P0_ : Nat → Prop) (A0 : Option Addr) (c0 : Nat) (l0 : List (S28)) (P1_ : Nat → Prop) (A1 : Option Addr) (c1 : Nat) (l1 : List (S28)) (r : Bool) (w : World) (hL : Laid w) (hs0 : Kd.V k28 28 w w.heap.size (fun k_ => P0_ k_) (.slice A0 l0.length c0) l0) (hs1 : Kd.V k28 28 w w.heap.size (fun k_ => P1_ k_) (.slice A1 l1.length c1) l1) (h : gumshoelaw09_CodeParts.f k l0 l1 = some r) :
  Calls Tryz.prog 7 #[.slice A0 l0.length c0, .slice A1 l1.length c1] w fun e w' => e = .returned (.bool r) ∧ Below w.heap.size w w' := by
 have HL := Aside0.mk hL
 clear hL
 have HO0 := Aside0.mk (show Kd.V k28 28 w w.heap.size (fun k_ => ((P0_ k_ ∨ P1_ k_) ∨ w.heap.size ≤ k_)) (.slice A0 l0.length c0) l0 from Kd.V_mono hs0 (fun k_ hk => .inl (.inl hk)))
 have HO1 := Aside0.mk (show Kd.V k28 28 w w.heap.size (fun k_ => ((P0_ k_ ∨ P1_ k_) ∨ w.heap.size ≤ k_)) (.slice A1 l1.length c1) l1 from Kd.V_mono hs1 (fun k_ hk => .inl (.inr hk)))
 have HB := Aside0.mk (Below.refl w.heap.size w)
 have H : ((gumshoelaw09_shown.f).bind fun t142 => ((gumshoelaw09_Small.f l0).bind fun t143 => (if t143 = 0 then (gumshoelaw09_CodeParts.j0 k l0 l1 t142 true) else ((gumshoelaw09_Small.f l1).bind fun t144 => (gumshoelaw09_CodeParts.j0 k l0 l1 t142 (t144 == 0)))))) = some r := h
 clear h
 obtain ⟨t142, A3, H⟩ := zO H
 have HC4 := Aside0.mk H
 clear H
 go_enter Tryz.func7, Tryz.ntmps7
 go_upto_region 2 with (first | ((with_reducible refine gate_callee (f := 10) rfl ?_); refine goesL_ (some 14) rfl rfl Tryz.func10 (by kernel_rfl) rfl #[] rfl zP ?_; (with_reducible refine (gumshoelaw09_shown.calls (hL := ?sideL)  t142 _ A3.out).mono ?_); (case sideL => exact Laid.below HL.out zB); rintro e w5 ⟨rfl, hb⟩; refine ⟨_, rfl, ?_⟩; replace HO0 := Aside0.mk (Kd.V_below (by (with_reducible repeat (first | apply Kd.V_alloc | apply Kd.V_drewN | apply Kd.V_drew)); exact HO0.out) hb); replace HO1 := Aside0.mk (Kd.V_below (by (with_reducible repeat (first | apply Kd.V_alloc | apply Kd.V_drewN | apply Kd.V_drew)); exact HO1.out) hb); replace HB := Aside0.mk (below_step zB hb); (try clear hb)))
 (try simp only [Act.put, List.setIfInBounds_toArray, List.set_cons_zero, List.set_cons_succ])
 go_cut [22] (fun v22 wc => ∃ (kq : Nat) (x22_3 : Bool), v22 = .bool x22_3 ∧ Aside0 (gumshoelaw09_CodeParts.j0 kq l0 l1 t142 x22_3 = some r) ∧ Aside0 (kq ≤ k) ∧ Aside0 (Kd.V k28 28 wc w.heap.size (fun k_ => ((P0_ k_ ∨ P1_ k_) ∨ w.heap.size ≤ k_)) (.slice A0 l0.length c0) l0) ∧ Aside0 (Kd.V k28 28 wc w.heap.size (fun k_ => ((P0_ k_ ∨ P1_ k_) ∨ w.heap.size ≤ k_)) (.slice A1 l1.length c1) l1) ∧ Aside0 (Below w.heap.size w wc))
 case first =>
  have H := HC4.out
  clear HC4
  obtain ⟨t143, A6, H⟩ := zO H
  by_cases c7 : t143 = 0
  ·rw [if_pos c7] at H
   have c7b0 : (t143 == 0) = true := beq_iff_eq.mpr c7
   have c7b1 : (t143 != 0) = false := bne_eq_false_iff_eq.mpr c7
   clear c7
   (first | rw [c7b0] | (simp only [i64_w, i32_w]; rw [c7b0]) | skip)
   have H' := Aside0.mk H
   clear H
   go_wp2_with (first | ((with_reducible refine gate_callee (f := 11) rfl ?_); refine goesL_ (some 16) rfl rfl Tryz.func11 (by kernel_rfl) rfl #[.slice A0 l0.length c0] rfl zP ?_; (with_reducible refine (gumshoelaw09_Small.calls _ _ l0 t143 _ ?side1 ?side2 A6.out).mono ?_); (case side1 => repeat (first | exact (Kd.V_reads' HO0.out).2.2 | (with_reducible refine Kd.C_alloc ?_ _) | (with_reducible refine Kd.C_drewN ?_ _) | (with_reducible refine Kd.C_drew ?_))); (case side2 => exact (Kd.V_reads' HO0.out).2.1); rintro e w' ⟨rfl, ⟨nd, rfl⟩⟩; refine ⟨_, rfl, ?_⟩))
   go_meet
   case rel => exact ⟨_, (true), zR, H', ⟨by first | omega | exact Nat.le_refl _⟩, ⟨by (with_reducible repeat (first | apply Kd.V_alloc | apply Kd.V_drewN | apply Kd.V_drew)); exact HO0.out⟩, ⟨by (with_reducible repeat (first | apply Kd.V_alloc | apply Kd.V_drewN | apply Kd.V_drew)); exact HO1.out⟩, ⟨zB⟩⟩
  ·rw [if_neg c7] at H
   have c7b0 : (t143 == 0) = false := beq_eq_false_iff_ne.mpr c7
   have c7b1 : (t143 != 0) = true := bne_iff_ne.mpr c7
   (first | rw [c7b0] | (simp only [i64_w, i32_w]; rw [c7b0]) | skip)
   obtain ⟨t144, A8, H⟩ := zO H
   have H' := Aside0.mk H
   clear H
   go_wp2_with (first | ((with_reducible refine gate_callee (f := 11) rfl ?_); refine goesL_ (some 16) rfl rfl Tryz.func11 (by kernel_rfl) rfl #[.slice A0 l0.length c0] rfl zP ?_; (with_reducible refine (gumshoelaw09_Small.calls _ _ l0 t143 _ ?side1 ?side2 A6.out).mono ?_); (case side1 => repeat (first | exact (Kd.V_reads' HO0.out).2.2 | (with_reducible refine Kd.C_alloc ?_ _) | (with_reducible refine Kd.C_drewN ?_ _) | (with_reducible refine Kd.C_drew ?_))); (case side2 => exact (Kd.V_reads' HO0.out).2.1); rintro e w' ⟨rfl, ⟨nd, rfl⟩⟩; refine ⟨_, rfl, ?_⟩) | (go_at_call 11; (with_reducible refine (gumshoelaw09_Small.calls _ _ l1 t144 _ ?side1 ?side2 A8.out).mono ?_); (case side1 => repeat (first | exact (Kd.V_reads' HO1.out).2.2 | (with_reducible refine Kd.C_alloc ?_ _) | (with_reducible refine Kd.C_drewN ?_ _) | (with_reducible refine Kd.C_drew ?_))); (case side2 => exact (Kd.V_reads' HO1.out).2.1); rintro e w' ⟨rfl, ⟨nd, rfl⟩⟩))
   go_meet
   case rel => exact ⟨_, ((t144 == 0)), zR, H', ⟨by first | omega | exact Nat.le_refl _⟩, ⟨by (with_reducible repeat (first | apply Kd.V_alloc | apply Kd.V_drewN | apply Kd.V_drew)); exact HO0.out⟩, ⟨by (with_reducible repeat (first | apply Kd.V_alloc | apply Kd.V_drewN | apply Kd.V_drew)); exact HO1.out⟩, ⟨zB⟩⟩
 case rest =>
  clear HC4
  obtain ⟨kq, x22_3, rfl, HA, HJ3, HO_0, HO_1, HB⟩ := hcut
  cases kq with
  | zero => exact absurd HA.out (by simp [gumshoelaw09_CodeParts.j0])
  | succ kj3 =>
   have H := HA.out
   clear HA
   simp only [gumshoelaw09_CodeParts.j0] at H
   by_cases c9 : x22_3 = true
   ·subst c9
    rw [if_pos rfl] at H
    obtain rfl := Option.some.inj H
    go_wp2
    go_ret
    exact ⟨zE, zB⟩
   ·replace c9 := Bool.eq_false_iff.mpr c9
    subst c9
    rw [if_neg (show ¬ (false = true) by decide)] at H
    obtain ⟨ji10, hji10⟩ : ∃ j_ : Int, (wrap64 ((l0.length : Int) + (l1.length : Int))) = j_ := ⟨_, rfl⟩
    replace H : (if 0 ≤ (ji10) then (if (ji10 : Int).toNat ≤ 8796093022208 then ((some (List.replicate 0 z28 : List (S28))).bind fun y145 => (if y145.length + l0.length < 4398046511104 then ((some (y145 ++ l0 : List (S28))).bind fun y148 => (if y148.length + l1.length < 4398046511104 then ((some (y148 ++ l1 : List (S28))).bind fun y151 => (if 100 ≤ 35184372088832 then ((some (List.replicate 0 0 : List Int)).bind fun y154 => ((code_Marks.f l0).bind fun t157 => (if y154.length + t157.length < 17592186044416 then ((some (y154 ++ t157 : List Int)).bind fun y160 => ((code_Marks.f l1).bind fun t163 => (if y160.length + t163.length < 17592186044416 then ((code_Marks.f y151).bind fun t169 => ((gumshoeref01_Same.f t169 (y160 ++ t163)).bind fun t172 => (if t172 = true then ((code_Right.f l0).bind fun t173 => (if t173 = true then ((code_Right.f l1).bind fun t174 => (gumshoelaw09_CodeParts.j1 kj3 l0 l1 t142 y151 (!t174))) else (gumshoelaw09_CodeParts.j1 kj3 l0 l1 t142 y151 true))) else (some false)))) else (none)))) else (none)))) else (none))) else (none))) else (none))) else (none)) else (none)) = some r := by first | (rw [hji10] at H; exact H) | (simp only [hji10] at H ⊢; exact H)
    have hji10w : (IntKind.i64.wrap ((l0.length : Int) + (l1.length : Int))) = ji10 := (i64_w _).trans hji10
    by_cases c11 : 0 ≤ (ji10)
    ·rw [if_pos c11] at H
     have c11b0 := eq_true c11
     have c11b1 : decide (0 ≤ (ji10)) = true := decide_eq_true c11
     clear c11
     by_cases c12 : (ji10 : Int).toNat ≤ 8796093022208
     ·rw [if_pos c12] at H
      have c12b0 := eq_true c12
      have c12b1 : decide ((ji10 : Int).toNat ≤ 8796093022208) = true := decide_eq_true c12
      clear c12
      obtain ⟨y145, hy145⟩ : ∃ y_ : List (S28), y_ = (List.replicate 0 z28) := ⟨_, rfl⟩
      replace H : (if y145.length + l0.length < 4398046511104 then ((some (y145 ++ l0 : List (S28))).bind fun y148 => (if y148.length + l1.length < 4398046511104 then ((some (y148 ++ l1 : List (S28))).bind fun y151 => (if 100 ≤ 35184372088832 then ((some (List.replicate 0 0 : List Int)).bind fun y154 => ((code_Marks.f l0).bind fun t157 => (if y154.length + t157.length < 17592186044416 then ((some (y154 ++ t157 : List Int)).bind fun y160 => ((code_Marks.f l1).bind fun t163 => (if y160.length + t163.length < 17592186044416 then ((code_Marks.f y151).bind fun t169 => ((gumshoeref01_Same.f t169 (y160 ++ t163)).bind fun t172 => (if t172 = true then ((code_Right.f l0).bind fun t173 => (if t173 = true then ((code_Right.f l1).bind fun t174 => (gumshoelaw09_CodeParts.j1 kj3 l0 l1 t142 y151 (!t174))) else (gumshoelaw09_CodeParts.j1 kj3 l0 l1 t142 y151 true))) else (some false)))) else (none)))) else (none)))) else (none))) else (none))) else (none)) = some r := by first | (rw [hy145]; with_reducible exact H) | (have H2_ := (Option.bind_some _ _).symm.trans H; rw [hy145]; with_reducible exact H2_) | (have H2_ := (Option.bind_some _ _).symm.trans H; with_reducible exact H2_) | with_reducible exact H | (rw [hy145]; exact H) | exact H
      have Ny145 := Aside0.mk hy145
      clear hy145
      by_cases c13 : y145.length + l0.length < 4398046511104
      ·rw [if_pos c13] at H
       have LMc13 := Aside0.mk c13
       clear c13
       obtain ⟨y148, hy148⟩ : ∃ y_ : List (S28), y_ = (y145 ++ l0) := ⟨_, rfl⟩
       replace H : (if y148.length + l1.length < 4398046511104 then ((some (y148 ++ l1 : List (S28))).bind fun y151 => (if 100 ≤ 35184372088832 then ((some (List.replicate 0 0 : List Int)).bind fun y154 => ((code_Marks.f l0).bind fun t157 => (if y154.length + t157.length < 17592186044416 then ((some (y154 ++ t157 : List Int)).bind fun y160 => ((code_Marks.f l1).bind fun t163 => (if y160.length + t163.length < 17592186044416 then ((code_Marks.f y151).bind fun t169 => ((gumshoeref01_Same.f t169 (y160 ++ t163)).bind fun t172 => (if t172 = true then ((code_Right.f l0).bind fun t173 => (if t173 = true then ((code_Right.f l1).bind fun t174 => (gumshoelaw09_CodeParts.j1 kj3 l0 l1 t142 y151 (!t174))) else (gumshoelaw09_CodeParts.j1 kj3 l0 l1 t142 y151 true))) else (some false)))) else (none)))) else (none)))) else (none))) else (none)) = some r := by first | (rw [hy148]; with_reducible exact H) | (have H2_ := (Option.bind_some _ _).symm.trans H; rw [hy148]; with_reducible exact H2_) | (have H2_ := (Option.bind_some _ _).symm.trans H; with_reducible exact H2_) | with_reducible exact H | (rw [hy148]; exact H) | exact H
       have Ny148 := Aside0.mk hy148
       clear hy148
       by_cases c14 : y148.length + l1.length < 4398046511104
       ·rw [if_pos c14] at H
        have LMc14 := Aside0.mk c14
        clear c14
        obtain ⟨y151, hy151⟩ : ∃ y_ : List (S28), y_ = (y148 ++ l1) := ⟨_, rfl⟩
        replace H : (if 100 ≤ 35184372088832 then ((some (List.replicate 0 0 : List Int)).bind fun y154 => ((code_Marks.f l0).bind fun t157 => (if y154.length + t157.length < 17592186044416 then ((some (y154 ++ t157 : List Int)).bind fun y160 => ((code_Marks.f l1).bind fun t163 => (if y160.length + t163.length < 17592186044416 then ((code_Marks.f y151).bind fun t169 => ((gumshoeref01_Same.f t169 (y160 ++ t163)).bind fun t172 => (if t172 = true then ((code_Right.f l0).bind fun t173 => (if t173 = true then ((code_Right.f l1).bind fun t174 => (gumshoelaw09_CodeParts.j1 kj3 l0 l1 t142 y151 (!t174))) else (gumshoelaw09_CodeParts.j1 kj3 l0 l1 t142 y151 true))) else (some false)))) else (none)))) else (none)))) else (none)) = some r := by first | (rw [hy151]; with_reducible exact H) | (have H2_ := (Option.bind_some _ _).symm.trans H; rw [hy151]; with_reducible exact H2_) | (have H2_ := (Option.bind_some _ _).symm.trans H; with_reducible exact H2_) | with_reducible exact H | (rw [hy151]; exact H) | exact H
        have Ny151 := Aside0.mk hy151
        clear hy151
        by_cases c15 : 100 ≤ 35184372088832
        ·rw [if_pos c15] at H
         have c15b0 := eq_true c15
         have c15b1 : decide (100 ≤ 35184372088832) = true := decide_eq_true c15
         clear c15
         obtain ⟨y154, hy154⟩ : ∃ y_ : List Int, y_ = (List.replicate 0 0) := ⟨_, rfl⟩
         replace H : ((code_Marks.f l0).bind fun t157 => (if y154.length + t157.length < 17592186044416 then ((some (y154 ++ t157 : List Int)).bind fun y160 => ((code_Marks.f l1).bind fun t163 => (if y160.length + t163.length < 17592186044416 then ((code_Marks.f y151).bind fun t169 => ((gumshoeref01_Same.f t169 (y160 ++ t163)).bind fun t172 => (if t172 = true then ((code_Right.f l0).bind fun t173 => (if t173 = true then ((code_Right.f l1).bind fun t174 => (gumshoelaw09_CodeParts.j1 kj3 l0 l1 t142 y151 (!t174))) else (gumshoelaw09_CodeParts.j1 kj3 l0 l1 t142 y151 true))) else (some false)))) else (none)))) else (none))) = some r := by first | (rw [hy154]; with_reducible exact H) | (have H2_ := (Option.bind_some _ _).symm.trans H; rw [hy154]; with_reducible exact H2_) | (have H2_ := (Option.bind_some _ _).symm.trans H; with_reducible exact H2_) | with_reducible exact H | (rw [hy154]; exact H) | exact H
         have Ny154 := Aside0.mk hy154
         clear hy154
         obtain ⟨t157, A16, H⟩ := zO H
         by_cases c17 : y154.length + t157.length < 17592186044416
         ·rw [if_pos c17] at H
          have LMc17 := Aside0.mk c17
          clear c17
          obtain ⟨y160, hy160⟩ : ∃ y_ : List Int, y_ = (y154 ++ t157) := ⟨_, rfl⟩
          replace H : ((code_Marks.f l1).bind fun t163 => (if y160.length + t163.length < 17592186044416 then ((code_Marks.f y151).bind fun t169 => ((gumshoeref01_Same.f t169 (y160 ++ t163)).bind fun t172 => (if t172 = true then ((code_Right.f l0).bind fun t173 => (if t173 = true then ((code_Right.f l1).bind fun t174 => (gumshoelaw09_CodeParts.j1 kj3 l0 l1 t142 y151 (!t174))) else (gumshoelaw09_CodeParts.j1 kj3 l0 l1 t142 y151 true))) else (some false)))) else (none))) = some r := by first | (rw [hy160]; with_reducible exact H) | (have H2_ := (Option.bind_some _ _).symm.trans H; rw [hy160]; with_reducible exact H2_) | (have H2_ := (Option.bind_some _ _).symm.trans H; with_reducible exact H2_) | with_reducible exact H | (rw [hy160]; exact H) | exact H
          have Ny160 := Aside0.mk hy160
          clear hy160
          obtain ⟨t163, A18, H⟩ := zO H
          by_cases c19 : y160.length + t163.length < 17592186044416
          ·rw [if_pos c19] at H
           have LMc19 := Aside0.mk c19
           clear c19
           obtain ⟨y166, hy166⟩ : ∃ y_ : List Int, y_ = (y160 ++ t163) := ⟨_, rfl⟩
           replace H : ((code_Marks.f y151).bind fun t169 => ((gumshoeref01_Same.f t169 y166).bind fun t172 => (if t172 = true then ((code_Right.f l0).bind fun t173 => (if t173 = true then ((code_Right.f l1).bind fun t174 => (gumshoelaw09_CodeParts.j1 kj3 l0 l1 t142 y151 (!t174))) else (gumshoelaw09_CodeParts.j1 kj3 l0 l1 t142 y151 true))) else (some false)))) = some r := by first | (rw [hy166]; with_reducible exact H) | (have H2_ := (Option.bind_some _ _).symm.trans H; rw [hy166]; with_reducible exact H2_) | (have H2_ := (Option.bind_some _ _).symm.trans H; with_reducible exact H2_) | with_reducible exact H | (rw [hy166]; exact H) | exact H
           have Ny166 := Aside0.mk hy166
           clear hy166
           obtain ⟨t169, A20, H⟩ := zO H
           obtain ⟨t172, A21, H⟩ := zO H
           by_cases c22 : t172 = true
           ·subst c22
            rw [if_pos rfl] at H
            have HC23 := Aside0.mk H
            clear H
            try go_wp2_with (first | ((with_reducible refine gate_dst (N := 29) rfl ?_); refine Kd.N_make0 k28 _ 28 rfl (N' := 29) rfl 22 _ _ rfl ji10 rfl rfl Tryz.underlying22 (.agg #[(.int .i64 0), (.slice none 0 0)]) 32 info28 rfl (by decide) (by omega) z28 (ok := fun k_ => wc.heap.size ≤ k_) (okp := fun _ => False) (k28_mkF _ _ z28 (Nat.le_refl _) (Kd.F_nil _ _ _)) (fun _ hk => hk.elim) (Nat.le_refl _) (of_decide_eq_true zA) (Nat.le_trans (Nat.mul_le_mul_right _ (of_decide_eq_true zA : ji10.toNat ≤ 8796093022208)) (by omega)) (Below.refl _ _) (Nat.le_refl _) ?_; intro v146 w24 ho25 hb hg_ hnew_; clear hg_ hnew_; (first | rw [← Ny145.out] at ho25 | (simp only [Int.reduceToNat] at ho25; rw [← Ny145.out] at ho25)); have HO147 := Aside0.mk (Kd.N_lower (Kd.N_mono (ok' := fun k_ => ((P0_ k_ ∨ P1_ k_) ∨ w.heap.size ≤ k_)) ho25 (fun k_ hk_ => (.inr (Nat.le_trans (below_size zB) hk_)))) (below_size zB)); replace HO_0 := Aside0.mk (Kd.V_elder' (by (with_reducible repeat (first | apply Kd.V_alloc | apply Kd.V_drewN | apply Kd.V_drew)); exact HO_0.out) (Kd.N_base ho25) hb); replace HO_1 := Aside0.mk (Kd.V_elder' (by (with_reducible repeat (first | apply Kd.V_alloc | apply Kd.V_drewN | apply Kd.V_drew)); exact HO_1.out) (Kd.N_base ho25) hb); replace HB := Aside0.mk (below_step zB hb); clear hb ho25) | ((with_reducible refine gate_builtin (b := .append) (xs := #[.tmp 29, .tmp 30]) rfl ?_); at_builtin; refine Kd.N_append_rows k28 (w0 := w) w.heap.size rfl (.tmp 29) (.tmp 30) 22 28 (.agg #[(.int .i64 0), (.slice none 0 0)]) 32 rfl Tryz.underlying22 info28 rfl (by decide) (by omega) v146 y145 l0 _ _ _ (fun k_ => ((P0_ k_ ∨ P1_ k_) ∨ w.heap.size ≤ k_)) (fun k_ => ((fun k_ => ((P0_ k_ ∨ P1_ k_) ∨ w.heap.size ≤ k_))) k_ ∧ some k_ ≠ (v146 : Value).ownBlock) rfl rfl ?aO ?aR (fun _ hk => hk) ?aF ?aB ?aS ?aL ?_; (case aR => exact (by skip; exact Kd.V_F (Kd.V_mono (ok' := (fun k_ => ((fun k_ => ((P0_ k_ ∨ P1_ k_) ∨ w.heap.size ≤ k_))) k_ ∧ some k_ ≠ (v146 : Value).ownBlock)) (HO_0.out) (fun k_ hk => ⟨hk.1, hk.2⟩)))); (case aB => exact zB); (case aF => exact (fun k_ hk => (.inr (Nat.le_trans (below_size zB) hk)))); (case aO => exact (by (with_reducible repeat (first | apply Kd.N_alloc | apply Kd.N_drewN | apply Kd.N_drew)); exact HO147.out)); (case aS => exact (below_size zB)); (case aL => have := LMc13.out; omega); intro v149 w26 ho hb hg hat; rw [← Ny148.out] at ho; have n0_ := Aside0.mk (Kd.V_afterv (ok := (fun k_ => ((P0_ k_ ∨ P1_ k_) ∨ w.heap.size ≤ k_))) (by (with_reducible repeat (first | apply Kd.V_alloc | apply Kd.V_drewN | apply Kd.V_drew)); exact HO_0.out) hg hat); have n1_ := Aside0.mk (Kd.V_afterv (ok := (fun k_ => ((P0_ k_ ∨ P1_ k_) ∨ w.heap.size ≤ k_))) (by (with_reducible repeat (first | apply Kd.V_alloc | apply Kd.V_drewN | apply Kd.V_drew)); exact HO_1.out) hg hat); have n2_ := Aside0.mk (hb); have n3_ := Aside0.mk (ho); clear HO_0; clear HO_1; clear HB; clear HO147; have HO_0 := n0_; have HO_1 := n1_; have HB := n2_; have HO150 := n3_; clear n0_ n1_ n2_ n3_; clear ho hb hg hat) | ((with_reducible refine gate_builtin (b := .append) (xs := #[.tmp 31, .tmp 32]) rfl ?_); at_builtin; refine Kd.N_append_rows k28 (w0 := w) w.heap.size rfl (.tmp 31) (.tmp 32) 22 28 (.agg #[(.int .i64 0), (.slice none 0 0)]) 32 rfl Tryz.underlying22 info28 rfl (by decide) (by omega) v149 y148 l1 _ _ _ (fun k_ => ((P0_ k_ ∨ P1_ k_) ∨ w.heap.size ≤ k_)) (fun k_ => ((fun k_ => ((P0_ k_ ∨ P1_ k_) ∨ w.heap.size ≤ k_))) k_ ∧ some k_ ≠ (v149 : Value).ownBlock) rfl rfl ?aO ?aR (fun _ hk => hk) ?aF ?aB ?aS ?aL ?_; (case aR => exact (by skip; exact Kd.V_F (Kd.V_mono (ok' := (fun k_ => ((fun k_ => ((P0_ k_ ∨ P1_ k_) ∨ w.heap.size ≤ k_))) k_ ∧ some k_ ≠ (v149 : Value).ownBlock)) (HO_1.out) (fun k_ hk => ⟨hk.1, hk.2⟩)))); (case aB => exact zB); (case aF => exact (fun k_ hk => (.inr (Nat.le_trans (below_size zB) hk)))); (case aO => exact (by (with_reducible repeat (first | apply Kd.N_alloc | apply Kd.N_drewN | apply Kd.N_drew)); exact HO150.out)); (case aS => exact (below_size zB)); (case aL => have := LMc14.out; omega); intro v152 w27 ho hb hg hat; rw [← Ny151.out] at ho; have n0_ := Aside0.mk (Kd.V_afterv (ok := (fun k_ => ((P0_ k_ ∨ P1_ k_) ∨ w.heap.size ≤ k_))) (by (with_reducible repeat (first | apply Kd.V_alloc | apply Kd.V_drewN | apply Kd.V_drew)); exact HO_0.out) hg hat); have n1_ := Aside0.mk (Kd.V_afterv (ok := (fun k_ => ((P0_ k_ ∨ P1_ k_) ∨ w.heap.size ≤ k_))) (by (with_reducible repeat (first | apply Kd.V_alloc | apply Kd.V_drewN | apply Kd.V_drew)); exact HO_1.out) hg hat); have n2_ := Aside0.mk (hb); have n3_ := Aside0.mk (ho); clear HO_0; clear HO_1; clear HB; clear HO150; have HO_0 := n0_; have HO_1 := n1_; have HB := n2_; have HO153 := n3_; clear n0_ n1_ n2_ n3_; clear ho hb hg hat))
            have n0_ := Aside0.mk (Kd.V_drew HO_0.out)
            have n1_ := Aside0.mk (Kd.V_drew HO_1.out)
            have n2_ := Aside0.mk (Kd.N_drew HO153.out)
            have n3_ := Aside0.mk (below_drew1 HB.out)
            clear HO_0
            clear HO_1
            clear HO153
            clear HB
            have HO_0 := n0_
            have HO_1 := n1_
            have HO153 := n2_
            have HB := n3_
            clear n0_ n1_ n2_ n3_
            refine start_ (n := 8) (S := fun w' => True) (ds := []) #[false, false, false, false, false, false, false, false] (by kernel_rfl) rfl rfl trivial (fun hHeld => ?_); refine with_tabW gumshoelaw09_CodeParts.tab5 gumshoelaw09_CodeParts.bits5 (fun HT_ HW_ => ?_)
            generalize w27.drew = w28 at HO_0 HO_1 HO153 HB hHeld ⊢
            refine pure_ (i := 1) (N := some 35) (v := ?_) (a' := ?_) #[false, true, false, false, false, false, false, false] rfl rfl (any_of HT_.out (by kernel_rfl)) (fun _ _ _ h => h) (Or.inl ⟨by rfl, ?_⟩) ?_ ?_
            rotate_left
            ·intro w'
             go_simp
             with_reducible rfl
            rotate_left
            ·simp only [Act.put, List.setIfInBounds_toArray, List.set_cons_zero, List.set_cons_succ, i64_w, i32_w]
             rfl
            refine pure_ (i := 4) (N := some 38) (v := ?_) (a' := ?_) #[false, true, false, false, true, false, false, false] rfl rfl (any_of HT_.out (by kernel_rfl)) (fun _ _ _ h => h) (Or.inl ⟨by rfl, ?_⟩) ?_ ?_
            rotate_left
            ·intro w'
             go_simp
             with_reducible rfl
            rotate_left
            ·simp only [Act.put, List.setIfInBounds_toArray, List.set_cons_zero, List.set_cons_succ, i64_w, i32_w]
             rfl
            refine join_ (σ := Value × Value) 4 #[true, true, true, false, true, false, false, false] (fun s_ => [(34, s_.1), (36, s_.2)]) (fun s_ w' => (Kd.N k28 28 w' w.heap.size (fun k_ => ((P0_ k_ ∨ P1_ k_) ∨ w.heap.size ≤ k_) ∧ some k_ ≠ (s_.1 : Value).ownBlock ∧ some k_ ≠ (s_.2 : Value).ownBlock) v152 y151) ∧ (Kd.R (Kd.int .i64) 3 w' w.heap.size (fun k_ => (w.heap.size ≤ k_) ∧ some k_ ≠ (s_.2 : Value).ownBlock) s_.1 y154) ∧ (Kd.R (Kd.int .i64) 3 w' w.heap.size (fun k_ => (w.heap.size ≤ k_) ∧ some k_ ≠ (s_.1 : Value).ownBlock) s_.2 t157) ∧ (Kd.V k28 28 w' w.heap.size (fun k_ => ((P0_ k_ ∨ P1_ k_) ∨ w.heap.size ≤ k_) ∧ some k_ ≠ (v152 : Value).ownBlock ∧ some k_ ≠ (s_.1 : Value).ownBlock ∧ some k_ ≠ (s_.2 : Value).ownBlock) (.slice A0 l0.length c0) l0) ∧ (Kd.V k28 28 w' w.heap.size (fun k_ => ((P0_ k_ ∨ P1_ k_) ∨ w.heap.size ≤ k_) ∧ some k_ ≠ (v152 : Value).ownBlock ∧ some k_ ≠ (s_.1 : Value).ownBlock ∧ some k_ ≠ (s_.2 : Value).ownBlock) (.slice A1 l1.length c1) l1) ∧ (Below w.heap.size w w')) ?_ ?_
            rotate_left
            ·intro hCont
             refine two_ (i := 0) (j := 2) (Ni := some 34) (Nj := some 36) #[true, true, false, false, true, false, false, false] #[false, true, true, false, true, false, false, false] rfl rfl rfl rfl (two_of HT_.out (by kernel_rfl)) (by decide) (by decide) (fun K hK => ?_) (fun K hK => ?_)
             ·skip
              refine Kd.R_make0_step (Kd.int .i64) _ 3 (by rfl) (N := 34) rfl 29 _ _ rfl 100 rfl rfl Tryz.underlying29 (.int .i64 0) 8 info3 rfl (by decide) (by omega) 0 (ok := fun _ => True) (okp := fun _ => True) rfl (fun _ hk => hk) trivial (by omega) (by omega) (Below.refl _ _) (Nat.le_refl _) ?_
              intro v155 w29 ho30 hb hg_ hnew_
              clear hg_ hnew_
              (first | rw [← Ny154.out] at ho30 | (simp only [Int.reduceToNat] at ho30; rw [← Ny154.out] at ho30))
              have n0_ := Aside0.mk (Kd.V_elder' (by (with_reducible repeat (first | apply Kd.V_alloc | apply Kd.V_drewN | apply Kd.V_drew)); exact HO_0.out) (Kd.R_base ho30) hb)
              have n1_ := Aside0.mk (Kd.V_elder' (by (with_reducible repeat (first | apply Kd.V_alloc | apply Kd.V_drewN | apply Kd.V_drew)); exact HO_1.out) (Kd.R_base ho30) hb)
              have n2_ := Aside0.mk (Kd.N_elder' (by (with_reducible repeat (first | apply Kd.N_alloc | apply Kd.N_drewN | apply Kd.N_drew)); exact HO153.out) (Kd.R_base ho30) hb)
              have n3_ := Aside0.mk (Kd.R_lower (Kd.R_newM (M := fun k_ => (w.heap.size ≤ k_)) ho30 (below_size zB) (fun k_ h_ => h_)) (below_size zB))
              have n4_ := Aside0.mk (below_step zB hb)
              clear HO_0
              clear HO_1
              clear HO153
              clear HB
              have HO_0 := n0_
              have HO_1 := n1_
              have HO153 := n2_
              have HO156 := n3_
              have HB := n4_
              clear n0_ n1_ n2_ n3_ n4_
              clear hb ho30
              refine hK.out _ _ trivial (fun hHeld => ?_)
              clear hK K
              refine norm_ (a' := ?_) ?_ ?_
              rotate_left
              ·show Act.put _ (some 34) _ = _
               simp only [Act.put, List.setIfInBounds_toArray, List.set_cons_zero, List.set_cons_succ, i64_w, i32_w]
               rfl
              refine one_ (i := 2) (N := some 36) #[true, true, true, false, true, false, false, false] rfl rfl (one_of HT_.out (by kernel_rfl)) (by decide) (fun K hK => ?_)
              refine goes_ Tryz.func17 (by kernel_rfl) rfl #[.slice A0 l0.length c0] (by rfl) rfl rfl zP ?_
              with_reducible refine (code_Marks.calls _ _ l0 t157 _ ?side1 ?side2 A16.out).mono ?_
              (case side1 => repeat (first | exact (Kd.V_reads' HO_0.out).2.2 | (with_reducible refine Kd.C_alloc ?_ _) | (with_reducible refine Kd.C_drewN ?_ _) | (with_reducible refine Kd.C_drew ?_)))
              (case side2 => exact (Kd.V_reads' HO_0.out).2.1)
              rintro e w31 ⟨v158, rfl, ho0, hb⟩
              refine ⟨_, rfl, ?_⟩
              have n0_ := Aside0.mk (Kd.V_elder' (by (with_reducible repeat (first | apply Kd.V_alloc | apply Kd.V_drewN | apply Kd.V_drew)); exact HO_0.out) (Kd.R_base ho0) hb)
              have n1_ := Aside0.mk (Kd.V_elder' (by (with_reducible repeat (first | apply Kd.V_alloc | apply Kd.V_drewN | apply Kd.V_drew)); exact HO_1.out) (Kd.R_base ho0) hb)
              have n2_ := Aside0.mk (Kd.N_elder' (by (with_reducible repeat (first | apply Kd.N_alloc | apply Kd.N_drewN | apply Kd.N_drew)); exact HO153.out) (Kd.R_base ho0) hb)
              have n3_ := Aside0.mk (Kd.R_elder' (by (with_reducible repeat (first | apply Kd.R_alloc | apply Kd.R_drewN | apply Kd.R_drew)); exact HO156.out) (Kd.R_base ho0) hb)
              have n4_ := Aside0.mk (Kd.R_lower (Kd.R_new' (Kd.R_newM (M := fun k_ => (w.heap.size ≤ k_)) ho0 (below_size zB) (fun k_ h_ => h_)) (Kd.R_lt (by (with_reducible repeat (first | apply Kd.R_alloc | apply Kd.R_drewN | apply Kd.R_drew)); exact HO156.out))) (below_size zB))
              have n5_ := Aside0.mk (below_step zB hb)
              clear HO_0
              clear HO_1
              clear HO153
              clear HO156
              clear HB
              have HO_0 := n0_
              have HO_1 := n1_
              have HO153 := n2_
              have HO156 := n3_
              have HO159 := n4_
              have HB := n5_
              clear n0_ n1_ n2_ n3_ n4_ n5_
              (try clear hb)
              (try clear hb2)
              (try clear hk)
              (try clear hi)
              (try clear ho0)
              refine hK.out _ _ trivial (fun hHeld => ?_)
              clear hK K
              refine norm_ (a' := ?_) ?_ ?_
              rotate_left
              ·show Act.put _ (some 36) _ = _
               simp only [Act.put, List.setIfInBounds_toArray, List.set_cons_zero, List.set_cons_succ, i64_w, i32_w]
               rfl
              exact norm_ (by simp only [putAll, Act.put, List.setIfInBounds_toArray, List.set_cons_zero, List.set_cons_succ]) (hCont (v155, v158) _ ⟨(by (with_reducible repeat (first | apply Kd.N_alloc | apply Kd.N_drewN | apply Kd.N_drew)); exact Kd.N_mono HO153.out (fun _ hk => ⟨hk.1.1, ⟨hk.1.2, hk.2⟩⟩)), (by (with_reducible repeat (first | apply Kd.R_alloc | apply Kd.R_drewN | apply Kd.R_drew)); exact Kd.R_mono HO156.out (fun _ hk => ⟨hk.1.1, hk.2⟩)), (by (with_reducible repeat (first | apply Kd.R_alloc | apply Kd.R_drewN | apply Kd.R_drew)); exact Kd.R_mono HO159.out (fun _ hk => ⟨hk.1.1, hk.2⟩)), (by (with_reducible repeat (first | apply Kd.V_alloc | apply Kd.V_drewN | apply Kd.V_drew)); exact Kd.V_mono HO_0.out (fun _ hk => ⟨hk.1.1.1, ⟨hk.1.1.2, ⟨hk.1.2, hk.2⟩⟩⟩)), (by (with_reducible repeat (first | apply Kd.V_alloc | apply Kd.V_drewN | apply Kd.V_drew)); exact Kd.V_mono HO_1.out (fun _ hk => ⟨hk.1.1.1, ⟨hk.1.1.2, ⟨hk.1.2, hk.2⟩⟩⟩)), zB⟩)
             ·skip
              refine goes_ Tryz.func17 (by kernel_rfl) rfl #[.slice A0 l0.length c0] (by rfl) rfl rfl zP ?_
              with_reducible refine (code_Marks.calls _ _ l0 t157 _ ?side1 ?side2 A16.out).mono ?_
              (case side1 => repeat (first | exact (Kd.V_reads' HO_0.out).2.2 | (with_reducible refine Kd.C_alloc ?_ _) | (with_reducible refine Kd.C_drewN ?_ _) | (with_reducible refine Kd.C_drew ?_)))
              (case side2 => exact (Kd.V_reads' HO_0.out).2.1)
              rintro e w29 ⟨v158, rfl, ho0, hb⟩
              refine ⟨_, rfl, ?_⟩
              have n0_ := Aside0.mk (Kd.V_elder' (by (with_reducible repeat (first | apply Kd.V_alloc | apply Kd.V_drewN | apply Kd.V_drew)); exact HO_0.out) (Kd.R_base ho0) hb)
              have n1_ := Aside0.mk (Kd.V_elder' (by (with_reducible repeat (first | apply Kd.V_alloc | apply Kd.V_drewN | apply Kd.V_drew)); exact HO_1.out) (Kd.R_base ho0) hb)
              have n2_ := Aside0.mk (Kd.N_elder' (by (with_reducible repeat (first | apply Kd.N_alloc | apply Kd.N_drewN | apply Kd.N_drew)); exact HO153.out) (Kd.R_base ho0) hb)
              have n3_ := Aside0.mk (Kd.R_lower (Kd.R_newM (M := fun k_ => (w.heap.size ≤ k_)) ho0 (below_size zB) (fun k_ h_ => h_)) (below_size zB))
              have n4_ := Aside0.mk (below_step zB hb)
              clear HO_0
              clear HO_1
              clear HO153
              clear HB
              have HO_0 := n0_
              have HO_1 := n1_
              have HO153 := n2_
              have HO159 := n3_
              have HB := n4_
              clear n0_ n1_ n2_ n3_ n4_
              (try clear hb)
              (try clear hb2)
              (try clear hk)
              (try clear hi)
              (try clear ho0)
              refine hK.out _ _ trivial (fun hHeld => ?_)
              clear hK K
              refine norm_ (a' := ?_) ?_ ?_
              rotate_left
              ·show Act.put _ (some 36) _ = _
               simp only [Act.put, List.setIfInBounds_toArray, List.set_cons_zero, List.set_cons_succ, i64_w, i32_w]
               rfl
              refine one_ (i := 0) (N := some 34) #[true, true, true, false, true, false, false, false] rfl rfl (one_of HT_.out (by kernel_rfl)) (by decide) (fun K hK => ?_)
              refine Kd.R_make0_step (Kd.int .i64) _ 3 (by rfl) (N := 34) rfl 29 _ _ rfl 100 rfl rfl Tryz.underlying29 (.int .i64 0) 8 info3 rfl (by decide) (by omega) 0 (ok := fun _ => True) (okp := fun _ => True) rfl (fun _ hk => hk) trivial (by omega) (by omega) (Below.refl _ _) (Nat.le_refl _) ?_
              intro v155 w30 ho31 hb hg_ hnew_
              clear hg_ hnew_
              (first | rw [← Ny154.out] at ho31 | (simp only [Int.reduceToNat] at ho31; rw [← Ny154.out] at ho31))
              have n0_ := Aside0.mk (Kd.V_elder' (by (with_reducible repeat (first | apply Kd.V_alloc | apply Kd.V_drewN | apply Kd.V_drew)); exact HO_0.out) (Kd.R_base ho31) hb)
              have n1_ := Aside0.mk (Kd.V_elder' (by (with_reducible repeat (first | apply Kd.V_alloc | apply Kd.V_drewN | apply Kd.V_drew)); exact HO_1.out) (Kd.R_base ho31) hb)
              have n2_ := Aside0.mk (Kd.N_elder' (by (with_reducible repeat (first | apply Kd.N_alloc | apply Kd.N_drewN | apply Kd.N_drew)); exact HO153.out) (Kd.R_base ho31) hb)
              have n3_ := Aside0.mk (Kd.R_elder' (by (with_reducible repeat (first | apply Kd.R_alloc | apply Kd.R_drewN | apply Kd.R_drew)); exact HO159.out) (Kd.R_base ho31) hb)
              have n4_ := Aside0.mk (Kd.R_lower (Kd.R_new' (Kd.R_newM (M := fun k_ => (w.heap.size ≤ k_)) ho31 (below_size zB) (fun k_ h_ => h_)) (Kd.R_lt (by (with_reducible repeat (first | apply Kd.R_alloc | apply Kd.R_drewN | apply Kd.R_drew)); exact HO159.out))) (below_size zB))
              have n5_ := Aside0.mk (below_step zB hb)
              clear HO_0
              clear HO_1
              clear HO153
              clear HO159
              clear HB
              have HO_0 := n0_
              have HO_1 := n1_
              have HO153 := n2_
              have HO159 := n3_
              have HO156 := n4_
              have HB := n5_
              clear n0_ n1_ n2_ n3_ n4_ n5_
              clear hb ho31
              refine hK.out _ _ trivial (fun hHeld => ?_)
              clear hK K
              refine norm_ (a' := ?_) ?_ ?_
              rotate_left
              ·show Act.put _ (some 34) _ = _
               simp only [Act.put, List.setIfInBounds_toArray, List.set_cons_zero, List.set_cons_succ, i64_w, i32_w]
               rfl
              exact norm_ (by simp only [putAll, Act.put, List.setIfInBounds_toArray, List.set_cons_zero, List.set_cons_succ]) (hCont (v155, v158) _ ⟨(by (with_reducible repeat (first | apply Kd.N_alloc | apply Kd.N_drewN | apply Kd.N_drew)); exact Kd.N_mono HO153.out (fun _ hk => ⟨hk.1.1, ⟨hk.2, hk.1.2⟩⟩)), (by (with_reducible repeat (first | apply Kd.R_alloc | apply Kd.R_drewN | apply Kd.R_drew)); exact Kd.R_mono HO156.out (fun _ hk => ⟨hk.1.1, hk.2⟩)), (by (with_reducible repeat (first | apply Kd.R_alloc | apply Kd.R_drewN | apply Kd.R_drew)); exact Kd.R_mono HO159.out (fun _ hk => ⟨hk.1.1, hk.2⟩)), (by (with_reducible repeat (first | apply Kd.V_alloc | apply Kd.V_drewN | apply Kd.V_drew)); exact Kd.V_mono HO_0.out (fun _ hk => ⟨hk.1.1.1, ⟨hk.1.1.2, ⟨hk.2, hk.1.2⟩⟩⟩)), (by (with_reducible repeat (first | apply Kd.V_alloc | apply Kd.V_drewN | apply Kd.V_drew)); exact Kd.V_mono HO_1.out (fun _ hk => ⟨hk.1.1.1, ⟨hk.1.1.2, ⟨hk.2, hk.1.2⟩⟩⟩)), zB⟩)
            rintro ⟨v155, v158⟩ w32 ⟨h0_, h1_, h2_, h3_, h4_, h5_⟩
            have n0_ : Aside0 (Kd.N k28 28 w32 w.heap.size (fun k_ => ((P0_ k_ ∨ P1_ k_) ∨ w.heap.size ≤ k_) ∧ some k_ ≠ (v155 : Value).ownBlock ∧ some k_ ≠ (v158 : Value).ownBlock) v152 y151) := ⟨h0_⟩
            have n1_ : Aside0 (Kd.R (Kd.int .i64) 3 w32 w.heap.size (fun k_ => (w.heap.size ≤ k_) ∧ some k_ ≠ (v158 : Value).ownBlock) v155 y154) := ⟨h1_⟩
            have n2_ : Aside0 (Kd.R (Kd.int .i64) 3 w32 w.heap.size (fun k_ => (w.heap.size ≤ k_) ∧ some k_ ≠ (v155 : Value).ownBlock) v158 t157) := ⟨h2_⟩
            have n3_ : Aside0 (Kd.V k28 28 w32 w.heap.size (fun k_ => ((P0_ k_ ∨ P1_ k_) ∨ w.heap.size ≤ k_) ∧ some k_ ≠ (v152 : Value).ownBlock ∧ some k_ ≠ (v155 : Value).ownBlock ∧ some k_ ≠ (v158 : Value).ownBlock) (.slice A0 l0.length c0) l0) := ⟨h3_⟩
            have n4_ : Aside0 (Kd.V k28 28 w32 w.heap.size (fun k_ => ((P0_ k_ ∨ P1_ k_) ∨ w.heap.size ≤ k_) ∧ some k_ ≠ (v152 : Value).ownBlock ∧ some k_ ≠ (v155 : Value).ownBlock ∧ some k_ ≠ (v158 : Value).ownBlock) (.slice A1 l1.length c1) l1) := ⟨h4_⟩
            have n5_ : Aside0 (Below w.heap.size w w32) := ⟨h5_⟩
            clear HO_0
            clear HO_1
            clear HO153
            clear HB
            clear h0_ h1_ h2_ h3_ h4_ h5_
            have HO153 := n0_
            have HO156 := n1_
            have HO159 := n2_
            have HO_0 := n3_
            have HO_1 := n4_
            have HB := n5_
            clear n0_ n1_ n2_ n3_ n4_ n5_
            have hHeld := trivial
            obtain ⟨Ao34, co34, eo34⟩ := Kd.R_slice HO159.out
            (first | subst eo34 | (injection eo34 with f1_ f2_ f3_; have f4_ := f1_.symm; have f5_ := f3_.symm; clear f1_ f2_ f3_; subst f4_; subst f5_))
            refine norm_ (a' := ?_) ?_ ?_
            rotate_left
            ·simp only [putAll, Act.put, List.setIfInBounds_toArray, List.set_cons_zero, List.set_cons_succ]
             rfl
            refine one_ (i := 3) (N := some 37) #[true, true, true, true, true, false, false, false] rfl rfl (one_of HT_.out (by kernel_rfl)) (by decide) (fun K hK => ?_)
            refine Kd.R_append_rows_step (Kd.int .i64) (w0 := w) w.heap.size (by rfl) (.tmp 34) (.tmp 36) 29 3 (.int .i64 0) 8 rfl Tryz.underlying29 info3 rfl (by decide) (by omega) v155 y154 t157 _ _ _ (fun k_ => (w.heap.size ≤ k_) ∧ some k_ ≠ (.slice Ao34 t157.length co34 : Value).ownBlock) (fun _ => False) rfl rfl ?aO ?aR (fun _ _ h => h) (fun _ h => h.elim) ?aF ?aB ?aS ?aL ?_
            (case aR => repeat (first | exact (Kd.R_reads' HO159.out).2.2 | (with_reducible refine Kd.C_alloc ?_ _) | (with_reducible refine Kd.C_drewN ?_ _) | (with_reducible refine Kd.C_drew ?_)))
            (case aB => exact zB)
            (case aF => exact (fun k_ hk => ⟨(Nat.le_trans (below_size zB) hk), Kd.fresh' (Kd.R_lt (by (with_reducible repeat (first | apply Kd.R_alloc | apply Kd.R_drewN | apply Kd.R_drew)); exact HO159.out)) k_ hk⟩))
            (case aO => exact (by (with_reducible repeat (first | apply Kd.R_alloc | apply Kd.R_drewN | apply Kd.R_drew)); exact HO156.out))
            (case aS => exact (below_size zB))
            (case aL => have := LMc17.out; omega)
            intro v161 w33 ho hb hg hat
            rw [← Ny160.out] at ho
            have n0_ := Aside0.mk (Kd.V_afterv (ok := (fun k_ => ((P0_ k_ ∨ P1_ k_) ∨ w.heap.size ≤ k_) ∧ some k_ ≠ (v152 : Value).ownBlock ∧ some k_ ≠ (.slice Ao34 t157.length co34 : Value).ownBlock)) (by (with_reducible repeat (first | apply Kd.V_alloc | apply Kd.V_drewN | apply Kd.V_drew)); exact Kd.V_mono HO_0.out (fun _ hk => ⟨⟨hk.1, ⟨hk.2.1, hk.2.2.2⟩⟩, hk.2.2.1⟩)) hg hat)
            have n1_ := Aside0.mk (Kd.V_afterv (ok := (fun k_ => ((P0_ k_ ∨ P1_ k_) ∨ w.heap.size ≤ k_) ∧ some k_ ≠ (v152 : Value).ownBlock ∧ some k_ ≠ (.slice Ao34 t157.length co34 : Value).ownBlock)) (by (with_reducible repeat (first | apply Kd.V_alloc | apply Kd.V_drewN | apply Kd.V_drew)); exact Kd.V_mono HO_1.out (fun _ hk => ⟨⟨hk.1, ⟨hk.2.1, hk.2.2.2⟩⟩, hk.2.2.1⟩)) hg hat)
            have n2_ := Aside0.mk (Kd.N_afterv (ok := (fun k_ => ((P0_ k_ ∨ P1_ k_) ∨ w.heap.size ≤ k_) ∧ some k_ ≠ (.slice Ao34 t157.length co34 : Value).ownBlock)) (by (with_reducible repeat (first | apply Kd.N_alloc | apply Kd.N_drewN | apply Kd.N_drew)); exact Kd.N_mono HO153.out (fun _ hk => ⟨⟨hk.1, hk.2.2⟩, hk.2.1⟩)) hg hat)
            have n3_ := Aside0.mk (Kd.R_after (ok := (fun k_ => (w.heap.size ≤ k_))) (by (with_reducible repeat (first | apply Kd.R_alloc | apply Kd.R_drewN | apply Kd.R_drew)); exact HO159.out) hg hat)
            have n4_ := Aside0.mk (hb)
            have n5_ := Aside0.mk (ho)
            clear HO_0
            clear HO_1
            clear HO153
            clear HO159
            clear HB
            clear HO156
            have HO_0 := n0_
            have HO_1 := n1_
            have HO153 := n2_
            have HO159 := n3_
            have HB := n4_
            have HO162 := n5_
            clear n0_ n1_ n2_ n3_ n4_ n5_
            clear ho hb hg hat
            refine hK.out _ _ trivial (fun hHeld => ?_)
            clear hK K
            refine norm_ (a' := ?_) ?_ ?_
            rotate_left
            ·show Act.put _ (some 37) _ = _
             simp only [Act.put, List.setIfInBounds_toArray, List.set_cons_zero, List.set_cons_succ, i64_w, i32_w]
             rfl
            refine one_ (i := 5) (N := some 39) #[true, true, true, true, true, true, false, false] rfl rfl (one_of HT_.out (by kernel_rfl)) (by decide) (fun K hK => ?_)
            refine goes_ Tryz.func17 (by kernel_rfl) rfl #[.slice A1 l1.length c1] (by rfl) rfl rfl zP ?_
            with_reducible refine (code_Marks.calls _ _ l1 t163 _ ?side1 ?side2 A18.out).mono ?_
            (case side1 => repeat (first | exact (Kd.V_reads' HO_1.out).2.2 | (with_reducible refine Kd.C_alloc ?_ _) | (with_reducible refine Kd.C_drewN ?_ _) | (with_reducible refine Kd.C_drew ?_)))
            (case side2 => exact (Kd.V_reads' HO_1.out).2.1)
            rintro e w35 ⟨v164, rfl, ho0, hb⟩
            refine ⟨_, rfl, ?_⟩
            have n0_ := Aside0.mk (Kd.V_elder' (by (with_reducible repeat (first | apply Kd.V_alloc | apply Kd.V_drewN | apply Kd.V_drew)); exact HO_0.out) (Kd.R_base ho0) hb)
            have n1_ := Aside0.mk (Kd.V_elder' (by (with_reducible repeat (first | apply Kd.V_alloc | apply Kd.V_drewN | apply Kd.V_drew)); exact HO_1.out) (Kd.R_base ho0) hb)
            have n2_ := Aside0.mk (Kd.N_elder' (by (with_reducible repeat (first | apply Kd.N_alloc | apply Kd.N_drewN | apply Kd.N_drew)); exact HO153.out) (Kd.R_base ho0) hb)
            have n3_ := Aside0.mk (Kd.R_elder' (by (with_reducible repeat (first | apply Kd.R_alloc | apply Kd.R_drewN | apply Kd.R_drew)); exact HO159.out) (Kd.R_base ho0) hb)
            have n4_ := Aside0.mk (Kd.R_elder' (by (with_reducible repeat (first | apply Kd.R_alloc | apply Kd.R_drewN | apply Kd.R_drew)); exact HO162.out) (Kd.R_base ho0) hb)
            have n5_ := Aside0.mk (Kd.R_lower (Kd.R_new' (Kd.R_new' (Kd.R_newM (M := fun k_ => (w.heap.size ≤ k_)) ho0 (below_size zB) (fun k_ h_ => h_)) (Kd.R_lt (by (with_reducible repeat (first | apply Kd.R_alloc | apply Kd.R_drewN | apply Kd.R_drew)); exact HO159.out))) (Kd.R_lt (by (with_reducible repeat (first | apply Kd.R_alloc | apply Kd.R_drewN | apply Kd.R_drew)); exact HO162.out))) (below_size zB))
            have n6_ := Aside0.mk (below_step zB hb)
            clear HO_0
            clear HO_1
            clear HO153
            clear HO159
            clear HO162
            clear HB
            have HO_0 := n0_
            have HO_1 := n1_
            have HO153 := n2_
            have HO159 := n3_
            have HO162 := n4_
            have HO165 := n5_
            have HB := n6_
            clear n0_ n1_ n2_ n3_ n4_ n5_ n6_
            (try clear hb)
            (try clear hb2)
            (try clear hk)
            (try clear hi)
            (try clear ho0)
            obtain ⟨Ao37, co37, eo37⟩ := Kd.R_slice HO165.out
            (first | subst eo37 | (injection eo37 with f1_ f2_ f3_; have f4_ := f1_.symm; have f5_ := f3_.symm; clear f1_ f2_ f3_; subst f4_; subst f5_))
            refine hK.out _ _ trivial (fun hHeld => ?_)
            clear hK K
            refine norm_ (a' := ?_) ?_ ?_
            rotate_left
            ·show Act.put _ (some 39) _ = _
             simp only [Act.put, List.setIfInBounds_toArray, List.set_cons_zero, List.set_cons_succ, i64_w, i32_w]
             rfl
            refine one_ (i := 6) (N := some 40) #[true, true, true, true, true, true, true, false] rfl rfl (one_of HT_.out (by kernel_rfl)) (by decide) (fun K hK => ?_)
            refine Kd.R_append_rows_step (Kd.int .i64) (w0 := w) w.heap.size (by rfl) (.tmp 37) (.tmp 39) 29 3 (.int .i64 0) 8 rfl Tryz.underlying29 info3 rfl (by decide) (by omega) v161 y160 t163 _ _ _ (fun k_ => (w.heap.size ≤ k_) ∧ some k_ ≠ (.slice Ao34 t157.length co34 : Value).ownBlock ∧ some k_ ≠ (.slice Ao37 t163.length co37 : Value).ownBlock) (fun _ => False) rfl rfl ?aO ?aR (fun _ _ h => h) (fun _ h => h.elim) ?aF ?aB ?aS ?aL ?_
            (case aR => repeat (first | exact (Kd.R_reads' HO165.out).2.2 | (with_reducible refine Kd.C_alloc ?_ _) | (with_reducible refine Kd.C_drewN ?_ _) | (with_reducible refine Kd.C_drew ?_)))
            (case aB => exact zB)
            (case aF => exact (fun k_ hk => ⟨(Nat.le_trans (below_size zB) hk), Kd.fresh' (Kd.R_lt (by (with_reducible repeat (first | apply Kd.R_alloc | apply Kd.R_drewN | apply Kd.R_drew)); exact HO159.out)) k_ hk, Kd.fresh' (Kd.R_lt (by (with_reducible repeat (first | apply Kd.R_alloc | apply Kd.R_drewN | apply Kd.R_drew)); exact HO165.out)) k_ hk⟩))
            (case aO => exact (by (with_reducible repeat (first | apply Kd.R_alloc | apply Kd.R_drewN | apply Kd.R_drew)); exact Kd.R_mono HO162.out (fun _ hk => ⟨hk.1.1, ⟨hk.1.2, hk.2⟩⟩)))
            (case aS => exact (below_size zB))
            (case aL => have := LMc19.out; omega)
            intro v167 w36 ho hb hg hat
            rw [← Ny166.out] at ho
            have n0_ := Aside0.mk (Kd.V_afterv (ok := (fun k_ => ((P0_ k_ ∨ P1_ k_) ∨ w.heap.size ≤ k_) ∧ some k_ ≠ (v152 : Value).ownBlock ∧ some k_ ≠ (.slice Ao34 t157.length co34 : Value).ownBlock ∧ some k_ ≠ (.slice Ao37 t163.length co37 : Value).ownBlock)) (by (with_reducible repeat (first | apply Kd.V_alloc | apply Kd.V_drewN | apply Kd.V_drew)); exact Kd.V_mono HO_0.out (fun _ hk => ⟨⟨hk.1.1.1, ⟨hk.1.1.2.1, ⟨hk.1.1.2.2, hk.2⟩⟩⟩, hk.1.2⟩)) hg hat)
            have n1_ := Aside0.mk (Kd.V_afterv (ok := (fun k_ => ((P0_ k_ ∨ P1_ k_) ∨ w.heap.size ≤ k_) ∧ some k_ ≠ (v152 : Value).ownBlock ∧ some k_ ≠ (.slice Ao34 t157.length co34 : Value).ownBlock ∧ some k_ ≠ (.slice Ao37 t163.length co37 : Value).ownBlock)) (by (with_reducible repeat (first | apply Kd.V_alloc | apply Kd.V_drewN | apply Kd.V_drew)); exact Kd.V_mono HO_1.out (fun _ hk => ⟨⟨hk.1.1.1, ⟨hk.1.1.2.1, ⟨hk.1.1.2.2, hk.2⟩⟩⟩, hk.1.2⟩)) hg hat)
            have n2_ := Aside0.mk (Kd.N_afterv (ok := (fun k_ => ((P0_ k_ ∨ P1_ k_) ∨ w.heap.size ≤ k_) ∧ some k_ ≠ (.slice Ao34 t157.length co34 : Value).ownBlock ∧ some k_ ≠ (.slice Ao37 t163.length co37 : Value).ownBlock)) (by (with_reducible repeat (first | apply Kd.N_alloc | apply Kd.N_drewN | apply Kd.N_drew)); exact Kd.N_mono HO153.out (fun _ hk => ⟨⟨hk.1.1.1, ⟨hk.1.1.2, hk.2⟩⟩, hk.1.2⟩)) hg hat)
            have n3_ := Aside0.mk (Kd.R_after (ok := (fun k_ => (w.heap.size ≤ k_) ∧ some k_ ≠ (.slice Ao37 t163.length co37 : Value).ownBlock)) (by (with_reducible repeat (first | apply Kd.R_alloc | apply Kd.R_drewN | apply Kd.R_drew)); exact Kd.R_mono HO159.out (fun _ hk => ⟨⟨hk.1.1, hk.2⟩, hk.1.2⟩)) hg hat)
            have n4_ := Aside0.mk (Kd.R_after (ok := (fun k_ => (w.heap.size ≤ k_) ∧ some k_ ≠ (.slice Ao34 t157.length co34 : Value).ownBlock)) (by (with_reducible repeat (first | apply Kd.R_alloc | apply Kd.R_drewN | apply Kd.R_drew)); exact Kd.R_mono HO165.out (fun _ hk => ⟨⟨hk.1.1.1, hk.1.2⟩, hk.2⟩)) hg hat)
            have n5_ := Aside0.mk (hb)
            have n6_ := Aside0.mk (ho)
            clear HO_0
            clear HO_1
            clear HO153
            clear HO159
            clear HO165
            clear HB
            clear HO162
            have HO_0 := n0_
            have HO_1 := n1_
            have HO153 := n2_
            have HO159 := n3_
            have HO165 := n4_
            have HB := n5_
            have HO168 := n6_
            clear n0_ n1_ n2_ n3_ n4_ n5_ n6_
            clear ho hb hg hat
            refine hK.out _ _ trivial (fun hHeld => ?_)
            clear hK K
            refine norm_ (a' := ?_) ?_ ?_
            rotate_left
            ·show Act.put _ (some 40) _ = _
             simp only [Act.put, List.setIfInBounds_toArray, List.set_cons_zero, List.set_cons_succ, i64_w, i32_w]
             rfl
            refine pure_ (i := 7) (N := some 7) (v := ?_) (a' := ?_) #[true, true, true, true, true, true, true, true] rfl rfl (any_of HT_.out (by kernel_rfl)) (fun _ _ _ h => h) (Or.inl ⟨by rfl, ?_⟩) ?_ ?_
            rotate_left
            ·intro w'
             go_simp
             with_reducible rfl
            rotate_left
            ·simp only [Act.put, List.setIfInBounds_toArray, List.set_cons_zero, List.set_cons_succ, i64_w, i32_w]
             rfl
            refine done_ (done_of HT_.out (by kernel_rfl)) ?_
            obtain ⟨Ao38, co38, eo38⟩ := Kd.N_slice HO153.out
            subst eo38
            go_upto_region 8 with (first | ((with_reducible refine gate_callee (f := 17) rfl ?_); refine goesL_ (some 42) rfl rfl Tryz.func17 (by kernel_rfl) rfl #[.slice Ao38 y151.length co38] rfl zP ?_; (with_reducible refine (code_Marks.calls _ _ y151 t169 _ ?side1 ?side2 A20.out).mono ?_); (case side1 => repeat (first | exact (Kd.N_reads' HO153.out).2.2 | (with_reducible refine Kd.C_alloc ?_ _) | (with_reducible refine Kd.C_drewN ?_ _) | (with_reducible refine Kd.C_drew ?_))); (case side2 => exact (Kd.N_reads' HO153.out).2.1); rintro e w39 ⟨v170, rfl, ho0, hb⟩; refine ⟨_, rfl, ?_⟩; have HO171 := Aside0.mk (Kd.R_lower (Kd.R_new' (Kd.R_new' (Kd.R_new' (Kd.R_newM (M := fun k_ => (w.heap.size ≤ k_)) ho0 (below_size zB) (fun k_ h_ => h_)) (Kd.R_lt (by (with_reducible repeat (first | apply Kd.R_alloc | apply Kd.R_drewN | apply Kd.R_drew)); exact HO159.out))) (Kd.R_lt (by (with_reducible repeat (first | apply Kd.R_alloc | apply Kd.R_drewN | apply Kd.R_drew)); exact HO165.out))) (Kd.R_lt (by (with_reducible repeat (first | apply Kd.R_alloc | apply Kd.R_drewN | apply Kd.R_drew)); exact HO168.out))) (below_size zB)); replace HO_0 := Aside0.mk (Kd.V_elder' (by (with_reducible repeat (first | apply Kd.V_alloc | apply Kd.V_drewN | apply Kd.V_drew)); exact HO_0.out) (Kd.R_base ho0) hb); replace HO_1 := Aside0.mk (Kd.V_elder' (by (with_reducible repeat (first | apply Kd.V_alloc | apply Kd.V_drewN | apply Kd.V_drew)); exact HO_1.out) (Kd.R_base ho0) hb); replace HO153 := Aside0.mk (Kd.N_elder' (by (with_reducible repeat (first | apply Kd.N_alloc | apply Kd.N_drewN | apply Kd.N_drew)); exact HO153.out) (Kd.R_base ho0) hb); replace HO159 := Aside0.mk (Kd.R_elder' (by (with_reducible repeat (first | apply Kd.R_alloc | apply Kd.R_drewN | apply Kd.R_drew)); exact HO159.out) (Kd.R_base ho0) hb); replace HO165 := Aside0.mk (Kd.R_elder' (by (with_reducible repeat (first | apply Kd.R_alloc | apply Kd.R_drewN | apply Kd.R_drew)); exact HO165.out) (Kd.R_base ho0) hb); replace HO168 := Aside0.mk (Kd.R_elder' (by (with_reducible repeat (first | apply Kd.R_alloc | apply Kd.R_drewN | apply Kd.R_drew)); exact HO168.out) (Kd.R_base ho0) hb); replace HB := Aside0.mk (below_step zB hb); (try clear hb); (try clear ho0); obtain ⟨Ao40, co40, eo40⟩ := Kd.R_slice HO171.out; subst eo40; obtain ⟨Ao41, co41, eo41⟩ := Kd.R_slice HO168.out; subst eo41) | ((with_reducible refine gate_callee (f := 16) rfl ?_); refine goesL_ (some 44) rfl rfl Tryz.func16 (by kernel_rfl) rfl #[.slice Ao40 t169.length co40, .slice Ao41 y166.length co41] rfl zP ?_; (with_reducible refine (gumshoeref01_Same.calls _ _ t169 _ _ y166 true _ ?side1 ?side2 ?side3 ?side4 A21.out).mono ?_); (case side1 => repeat (first | exact (Kd.R_reads' HO171.out).2.2 | (with_reducible refine Kd.C_alloc ?_ _) | (with_reducible refine Kd.C_drewN ?_ _) | (with_reducible refine Kd.C_drew ?_))); (case side2 => exact (Kd.R_reads' HO171.out).2.1); (case side3 => repeat (first | exact (Kd.R_reads' HO168.out).2.2 | (with_reducible refine Kd.C_alloc ?_ _) | (with_reducible refine Kd.C_drewN ?_ _) | (with_reducible refine Kd.C_drew ?_))); (case side4 => exact (Kd.R_reads' HO168.out).2.1); rintro e w' ⟨rfl, ⟨nd, rfl⟩⟩; refine ⟨_, rfl, ?_⟩))
            (try simp only [Act.put, List.setIfInBounds_toArray, List.set_cons_zero, List.set_cons_succ])
            go_cut [53] (fun v53 wc => ∃ (kq : Nat) (x53_22 : Bool), v53 = .bool x53_22 ∧ Aside0 (gumshoelaw09_CodeParts.j1 kq l0 l1 t142 y151 x53_22 = some r) ∧ Aside0 (kq ≤ kj3) ∧ Aside0 (Kd.V k28 28 wc w.heap.size (fun k_ => ((P0_ k_ ∨ P1_ k_) ∨ w.heap.size ≤ k_) ∧ some k_ ≠ ((.slice Ao38 y151.length co38) : Value).ownBlock) (.slice A0 l0.length c0) l0) ∧ Aside0 (Kd.V k28 28 wc w.heap.size (fun k_ => ((P0_ k_ ∨ P1_ k_) ∨ w.heap.size ≤ k_) ∧ some k_ ≠ ((.slice Ao38 y151.length co38) : Value).ownBlock) (.slice A1 l1.length c1) l1) ∧ Aside0 (Kd.N k28 28 wc w.heap.size (fun k_ => ((P0_ k_ ∨ P1_ k_) ∨ w.heap.size ≤ k_)) (.slice Ao38 y151.length co38) y151) ∧ Aside0 (Below w.heap.size w wc))
            case first =>
             have H := HC23.out
             clear HC23
             obtain ⟨t173, A42, H⟩ := zO H
             by_cases c43 : t173 = true
             ·subst c43
              rw [if_pos rfl] at H
              obtain ⟨t174, A44, H⟩ := zO H
              have H' := Aside0.mk H
              clear H
              go_wp2_with (first | ((with_reducible refine gate_callee (f := 12) rfl ?_); refine goesL_ (some 47) rfl rfl Tryz.func12 (by kernel_rfl) rfl #[.slice A0 l0.length c0] rfl zP ?_; (with_reducible refine (code_Right.calls (hL := ?sideL) _ _ l0 true _ ?side1 ?side2 A42.out).mono ?_); (case sideL => exact Laid.below HL.out zB); (case side1 => repeat (first | exact (Kd.V_reads' HO_0.out).2.2 | (with_reducible refine Kd.C_alloc ?_ _) | (with_reducible refine Kd.C_drewN ?_ _) | (with_reducible refine Kd.C_drew ?_))); (case side2 => exact (Kd.V_reads' HO_0.out).2.1); rintro e w45 ⟨rfl, hb⟩; refine ⟨_, rfl, ?_⟩; replace HO_0 := Aside0.mk (Kd.V_below (by (with_reducible repeat (first | apply Kd.V_alloc | apply Kd.V_drewN | apply Kd.V_drew)); exact HO_0.out) hb); replace HO_1 := Aside0.mk (Kd.V_below (by (with_reducible repeat (first | apply Kd.V_alloc | apply Kd.V_drewN | apply Kd.V_drew)); exact HO_1.out) hb); replace HO153 := Aside0.mk (Kd.N_below (by (with_reducible repeat (first | apply Kd.N_alloc | apply Kd.N_drewN | apply Kd.N_drew)); exact HO153.out) hb); replace HO159 := Aside0.mk (Kd.R_below (by (with_reducible repeat (first | apply Kd.R_alloc | apply Kd.R_drewN | apply Kd.R_drew)); exact HO159.out) hb); replace HO165 := Aside0.mk (Kd.R_below (by (with_reducible repeat (first | apply Kd.R_alloc | apply Kd.R_drewN | apply Kd.R_drew)); exact HO165.out) hb); replace HO168 := Aside0.mk (Kd.R_below (by (with_reducible repeat (first | apply Kd.R_alloc | apply Kd.R_drewN | apply Kd.R_drew)); exact HO168.out) hb); replace HO171 := Aside0.mk (Kd.R_below (by (with_reducible repeat (first | apply Kd.R_alloc | apply Kd.R_drewN | apply Kd.R_drew)); exact HO171.out) hb); replace HB := Aside0.mk (below_step zB hb); (try clear hb)) | (go_at_call 12; (with_reducible refine (code_Right.calls (hL := ?sideL) _ _ l1 t174 _ ?side1 ?side2 A44.out).mono ?_); (case sideL => exact Laid.below HL.out zB); (case side1 => repeat (first | exact (Kd.V_reads' HO_1.out).2.2 | (with_reducible refine Kd.C_alloc ?_ _) | (with_reducible refine Kd.C_drewN ?_ _) | (with_reducible refine Kd.C_drew ?_))); (case side2 => exact (Kd.V_reads' HO_1.out).2.1); rintro e w46 ⟨rfl, hb⟩; replace HO_0 := Aside0.mk (Kd.V_below (by (with_reducible repeat (first | apply Kd.V_alloc | apply Kd.V_drewN | apply Kd.V_drew)); exact HO_0.out) hb); replace HO_1 := Aside0.mk (Kd.V_below (by (with_reducible repeat (first | apply Kd.V_alloc | apply Kd.V_drewN | apply Kd.V_drew)); exact HO_1.out) hb); replace HO153 := Aside0.mk (Kd.N_below (by (with_reducible repeat (first | apply Kd.N_alloc | apply Kd.N_drewN | apply Kd.N_drew)); exact HO153.out) hb); replace HO159 := Aside0.mk (Kd.R_below (by (with_reducible repeat (first | apply Kd.R_alloc | apply Kd.R_drewN | apply Kd.R_drew)); exact HO159.out) hb); replace HO165 := Aside0.mk (Kd.R_below (by (with_reducible repeat (first | apply Kd.R_alloc | apply Kd.R_drewN | apply Kd.R_drew)); exact HO165.out) hb); replace HO168 := Aside0.mk (Kd.R_below (by (with_reducible repeat (first | apply Kd.R_alloc | apply Kd.R_drewN | apply Kd.R_drew)); exact HO168.out) hb); replace HO171 := Aside0.mk (Kd.R_below (by (with_reducible repeat (first | apply Kd.R_alloc | apply Kd.R_drewN | apply Kd.R_drew)); exact HO171.out) hb); replace HB := Aside0.mk (below_step zB hb); (try clear hb)))
              go_meet
              case rel => exact ⟨_, (!t174), zR, H', ⟨by have := HJ3.out; first | omega | exact Nat.le_refl _⟩, ⟨by (with_reducible repeat (first | apply Kd.V_alloc | apply Kd.V_drewN | apply Kd.V_drew)); exact Kd.V_mono HO_0.out (fun _ hk => ⟨hk.1.1.1, hk.1.1.2.1⟩)⟩, ⟨by (with_reducible repeat (first | apply Kd.V_alloc | apply Kd.V_drewN | apply Kd.V_drew)); exact Kd.V_mono HO_1.out (fun _ hk => ⟨hk.1.1.1, hk.1.1.2.1⟩)⟩, ⟨by (with_reducible repeat (first | apply Kd.N_alloc | apply Kd.N_drewN | apply Kd.N_drew)); exact Kd.N_mono HO153.out (fun _ hk => hk.1.1.1)⟩, ⟨zB⟩⟩
             ·replace c43 := Bool.eq_false_iff.mpr c43
              subst c43
              rw [if_neg (show ¬ (false = true) by decide)] at H
              have H' := Aside0.mk H
              clear H
              go_wp2_with (first | ((with_reducible refine gate_callee (f := 12) rfl ?_); refine goesL_ (some 47) rfl rfl Tryz.func12 (by kernel_rfl) rfl #[.slice A0 l0.length c0] rfl zP ?_; (with_reducible refine (code_Right.calls (hL := ?sideL) _ _ l0 false _ ?side1 ?side2 A42.out).mono ?_); (case sideL => exact Laid.below HL.out zB); (case side1 => repeat (first | exact (Kd.V_reads' HO_0.out).2.2 | (with_reducible refine Kd.C_alloc ?_ _) | (with_reducible refine Kd.C_drewN ?_ _) | (with_reducible refine Kd.C_drew ?_))); (case side2 => exact (Kd.V_reads' HO_0.out).2.1); rintro e w47 ⟨rfl, hb⟩; refine ⟨_, rfl, ?_⟩; replace HO_0 := Aside0.mk (Kd.V_below (by (with_reducible repeat (first | apply Kd.V_alloc | apply Kd.V_drewN | apply Kd.V_drew)); exact HO_0.out) hb); replace HO_1 := Aside0.mk (Kd.V_below (by (with_reducible repeat (first | apply Kd.V_alloc | apply Kd.V_drewN | apply Kd.V_drew)); exact HO_1.out) hb); replace HO153 := Aside0.mk (Kd.N_below (by (with_reducible repeat (first | apply Kd.N_alloc | apply Kd.N_drewN | apply Kd.N_drew)); exact HO153.out) hb); replace HO159 := Aside0.mk (Kd.R_below (by (with_reducible repeat (first | apply Kd.R_alloc | apply Kd.R_drewN | apply Kd.R_drew)); exact HO159.out) hb); replace HO165 := Aside0.mk (Kd.R_below (by (with_reducible repeat (first | apply Kd.R_alloc | apply Kd.R_drewN | apply Kd.R_drew)); exact HO165.out) hb); replace HO168 := Aside0.mk (Kd.R_below (by (with_reducible repeat (first | apply Kd.R_alloc | apply Kd.R_drewN | apply Kd.R_drew)); exact HO168.out) hb); replace HO171 := Aside0.mk (Kd.R_below (by (with_reducible repeat (first | apply Kd.R_alloc | apply Kd.R_drewN | apply Kd.R_drew)); exact HO171.out) hb); replace HB := Aside0.mk (below_step zB hb); (try clear hb)))
              go_meet
              case rel => exact ⟨_, (true), zR, H', ⟨by have := HJ3.out; first | omega | exact Nat.le_refl _⟩, ⟨by (with_reducible repeat (first | apply Kd.V_alloc | apply Kd.V_drewN | apply Kd.V_drew)); exact Kd.V_mono HO_0.out (fun _ hk => ⟨hk.1.1.1, hk.1.1.2.1⟩)⟩, ⟨by (with_reducible repeat (first | apply Kd.V_alloc | apply Kd.V_drewN | apply Kd.V_drew)); exact Kd.V_mono HO_1.out (fun _ hk => ⟨hk.1.1.1, hk.1.1.2.1⟩)⟩, ⟨by (with_reducible repeat (first | apply Kd.N_alloc | apply Kd.N_drewN | apply Kd.N_drew)); exact Kd.N_mono HO153.out (fun _ hk => hk.1.1.1)⟩, ⟨zB⟩⟩
            case rest =>
             clear HC23
             clear c11b0 c11b1 c12b0 c12b1 c15b0 c15b1
             obtain ⟨kq, x53_22, rfl, HA, HJ22, HO_0, HO_1, HO_6, HB⟩ := hcut
             cases kq with
             | zero => exact absurd HA.out (by simp [gumshoelaw09_CodeParts.j1])
             | succ kj22 =>
              have H := HA.out
              clear HA
              simp only [gumshoelaw09_CodeParts.j1] at H
              by_cases c48 : x53_22 = true
              ·subst c48
               rw [if_pos rfl] at H
               obtain rfl := Option.some.inj H
               go_wp2
               go_ret
               exact ⟨by first | rfl | (simp [errW_none, errW_some] <;> rfl) | (simp only [← hji10]; first | rfl | (simp [errW_none, errW_some] <;> rfl)) | (simp [*, errW_none, errW_some] <;> rfl) | (simp [*, errW_none, errW_some]; exact (fun (l_ : List UInt8) => (by cases l_ <;> rfl : l_.isEmpty = !(l_ != []))) _), zB⟩
              ·replace c48 := Bool.eq_false_iff.mpr c48
               subst c48
               rw [if_neg (show ¬ (false = true) by decide)] at H
               replace H := Option.bind_eq_some_iff.mp H
               obtain ⟨⟨t175, t176⟩, A490, H⟩ := H
               replace H : ((code_Show.f l1).bind fun bt177 => ((code_Show.f y151).bind fun bt179 => (if t142 = true then (if t176 = 0 then (if bt177.2 = 0 then (if bt179.2 = 0 then (if t175.size + bt177.1.size ≤ 9223372036854775807 then (some (bt179.1.toList == (t175 ++ bt177.1).toList)) else (none)) else (none)) else (none)) else (none)) else (none)))) = some r := H
               have A49 := Aside0.mk A490
               clear A490
               replace H := Option.bind_eq_some_iff.mp H
               obtain ⟨⟨t177, t178⟩, A500, H⟩ := H
               replace H : ((code_Show.f y151).bind fun bt179 => (if t142 = true then (if t176 = 0 then (if t178 = 0 then (if bt179.2 = 0 then (if t175.size + t177.size ≤ 9223372036854775807 then (some (bt179.1.toList == (t175 ++ t177).toList)) else (none)) else (none)) else (none)) else (none)) else (none))) = some r := H
               have A50 := Aside0.mk A500
               clear A500
               replace H := Option.bind_eq_some_iff.mp H
               obtain ⟨⟨t179, t180⟩, A510, H⟩ := H
               replace H : (if t142 = true then (if t176 = 0 then (if t178 = 0 then (if t180 = 0 then (if t175.size + t177.size ≤ 9223372036854775807 then (some (t179.toList == (t175 ++ t177).toList)) else (none)) else (none)) else (none)) else (none)) else (none)) = some r := H
               have A51 := Aside0.mk A510
               clear A510
               by_cases c52 : t142 = true
               ·subst c52
                rw [if_pos rfl] at H
                by_cases c53 : t176 = 0
                ·rw [if_pos c53] at H
                 have c53b0 : (t176 == 0) = true := beq_iff_eq.mpr c53
                 have c53b1 : (t176 != 0) = false := bne_eq_false_iff_eq.mpr c53
                 clear c53
                 by_cases c54 : t178 = 0
                 ·rw [if_pos c54] at H
                  have c54b0 : (t178 == 0) = true := beq_iff_eq.mpr c54
                  have c54b1 : (t178 != 0) = false := bne_eq_false_iff_eq.mpr c54
                  clear c54
                  by_cases c55 : t180 = 0
                  ·rw [if_pos c55] at H
                   have c55b0 : (t180 == 0) = true := beq_iff_eq.mpr c55
                   have c55b1 : (t180 != 0) = false := bne_eq_false_iff_eq.mpr c55
                   clear c55
                   by_cases c56 : t175.size + t177.size ≤ 9223372036854775807
                   ·rw [if_pos c56] at H
                    have c56b0 := eq_true c56
                    have c56b1 : decide (t175.size + t177.size ≤ 9223372036854775807) = true := decide_eq_true c56
                    try have c56b2 : (9223372036854775807 < t175.size + t177.size) = False := eq_false (Nat.not_lt.2 c56)
                    obtain rfl := Option.some.inj H
                    go_wp2_with (first | ((with_reducible refine gate_callee (f := 14) rfl ?_); refine goesL_ (some 67) rfl rfl Tryz.func14 (by kernel_rfl) rfl #[.slice Ao38 y151.length co38] rfl zP ?_; (with_reducible refine (code_Show.calls (hL := ?sideL) _ _ y151 t179 t180 _ ?side1 ?side2 A51.out).mono ?_); (case sideL => exact Laid.below HL.out zB); (case side1 => repeat (first | exact (Kd.N_reads' HO_6.out).2.2 | (with_reducible refine Kd.C_alloc ?_ _) | (with_reducible refine Kd.C_drewN ?_ _) | (with_reducible refine Kd.C_drew ?_))); (case side2 => exact (Kd.N_reads' HO_6.out).2.1); rintro e w59 ⟨rfl, hb⟩; refine ⟨_, rfl, ?_⟩; replace HO_0 := Aside0.mk (Kd.V_below (by (with_reducible repeat (first | apply Kd.V_alloc | apply Kd.V_drewN | apply Kd.V_drew)); exact HO_0.out) hb); replace HO_1 := Aside0.mk (Kd.V_below (by (with_reducible repeat (first | apply Kd.V_alloc | apply Kd.V_drewN | apply Kd.V_drew)); exact HO_1.out) hb); replace HO_6 := Aside0.mk (Kd.N_below (by (with_reducible repeat (first | apply Kd.N_alloc | apply Kd.N_drewN | apply Kd.N_drew)); exact HO_6.out) hb); replace HB := Aside0.mk (below_step zB hb); (try clear hb)) | ((with_reducible refine gate_callee (f := 14) rfl ?_); refine goesL_ (some 62) rfl rfl Tryz.func14 (by kernel_rfl) rfl #[.slice A1 l1.length c1] rfl zP ?_; (with_reducible refine (code_Show.calls (hL := ?sideL) _ _ l1 t177 t178 _ ?side1 ?side2 A50.out).mono ?_); (case sideL => exact Laid.below HL.out zB); (case side1 => repeat (first | exact (Kd.V_reads' HO_1.out).2.2 | (with_reducible refine Kd.C_alloc ?_ _) | (with_reducible refine Kd.C_drewN ?_ _) | (with_reducible refine Kd.C_drew ?_))); (case side2 => exact (Kd.V_reads' HO_1.out).2.1); rintro e w58 ⟨rfl, hb⟩; refine ⟨_, rfl, ?_⟩; replace HO_0 := Aside0.mk (Kd.V_below (by (with_reducible repeat (first | apply Kd.V_alloc | apply Kd.V_drewN | apply Kd.V_drew)); exact HO_0.out) hb); replace HO_1 := Aside0.mk (Kd.V_below (by (with_reducible repeat (first | apply Kd.V_alloc | apply Kd.V_drewN | apply Kd.V_drew)); exact HO_1.out) hb); replace HO_6 := Aside0.mk (Kd.N_below (by (with_reducible repeat (first | apply Kd.N_alloc | apply Kd.N_drewN | apply Kd.N_drew)); exact HO_6.out) hb); replace HB := Aside0.mk (below_step zB hb); (try clear hb)) | ((with_reducible refine gate_callee (f := 14) rfl ?_); refine goesL_ (some 57) rfl rfl Tryz.func14 (by kernel_rfl) rfl #[.slice A0 l0.length c0] rfl zP ?_; (with_reducible refine (code_Show.calls (hL := ?sideL) _ _ l0 t175 t176 _ ?side1 ?side2 A49.out).mono ?_); (case sideL => exact Laid.below HL.out zB); (case side1 => repeat (first | exact (Kd.V_reads' HO_0.out).2.2 | (with_reducible refine Kd.C_alloc ?_ _) | (with_reducible refine Kd.C_drewN ?_ _) | (with_reducible refine Kd.C_drew ?_))); (case side2 => exact (Kd.V_reads' HO_0.out).2.1); rintro e w57 ⟨rfl, hb⟩; refine ⟨_, rfl, ?_⟩; replace HO_0 := Aside0.mk (Kd.V_below (by (with_reducible repeat (first | apply Kd.V_alloc | apply Kd.V_drewN | apply Kd.V_drew)); exact HO_0.out) hb); replace HO_1 := Aside0.mk (Kd.V_below (by (with_reducible repeat (first | apply Kd.V_alloc | apply Kd.V_drewN | apply Kd.V_drew)); exact HO_1.out) hb); replace HO_6 := Aside0.mk (Kd.N_below (by (with_reducible repeat (first | apply Kd.N_alloc | apply Kd.N_drewN | apply Kd.N_drew)); exact HO_6.out) hb); replace HB := Aside0.mk (below_step zB hb); (try clear hb)))
                    go_ret
                    exact ⟨by first | rfl | (simp [errW_none, errW_some] <;> rfl) | (simp only [← hji10]; first | rfl | (simp [errW_none, errW_some] <;> rfl)) | (simp [*, errW_none, errW_some] <;> rfl) | (simp [*, errW_none, errW_some]; exact (fun (l_ : List UInt8) => (by cases l_ <;> rfl : l_.isEmpty = !(l_ != []))) _), zB⟩
                   ·rw [if_neg c56] at H
                    exact absurd H (by simp)
                  ·rw [if_neg c55] at H
                   exact absurd H (by simp)
                 ·rw [if_neg c54] at H
                  exact absurd H (by simp)
                ·rw [if_neg c53] at H
                 exact absurd H (by simp)
               ·replace c52 := Bool.eq_false_iff.mpr c52
                subst c52
                rw [if_neg (show ¬ (false = true) by decide)] at H
                exact absurd H (by simp)
           ·replace c22 := Bool.eq_false_iff.mpr c22
            subst c22
            rw [if_neg (show ¬ (false = true) by decide)] at H
            obtain rfl := Option.some.inj H
            try go_wp2_with (first | ((with_reducible refine gate_dst (N := 29) rfl ?_); refine Kd.N_make0 k28 _ 28 rfl (N' := 29) rfl 22 _ _ rfl ji10 rfl rfl Tryz.underlying22 (.agg #[(.int .i64 0), (.slice none 0 0)]) 32 info28 rfl (by decide) (by omega) z28 (ok := fun k_ => wc.heap.size ≤ k_) (okp := fun _ => False) (k28_mkF _ _ z28 (Nat.le_refl _) (Kd.F_nil _ _ _)) (fun _ hk => hk.elim) (Nat.le_refl _) (of_decide_eq_true zA) (Nat.le_trans (Nat.mul_le_mul_right _ (of_decide_eq_true zA : ji10.toNat ≤ 8796093022208)) (by omega)) (Below.refl _ _) (Nat.le_refl _) ?_; intro v146 w60 ho61 hb hg_ hnew_; clear hg_ hnew_; (first | rw [← Ny145.out] at ho61 | (simp only [Int.reduceToNat] at ho61; rw [← Ny145.out] at ho61)); have HO147 := Aside0.mk (Kd.N_lower (Kd.N_mono (ok' := fun k_ => ((P0_ k_ ∨ P1_ k_) ∨ w.heap.size ≤ k_)) ho61 (fun k_ hk_ => (.inr (Nat.le_trans (below_size zB) hk_)))) (below_size zB)); replace HO_0 := Aside0.mk (Kd.V_elder' (by (with_reducible repeat (first | apply Kd.V_alloc | apply Kd.V_drewN | apply Kd.V_drew)); exact HO_0.out) (Kd.N_base ho61) hb); replace HO_1 := Aside0.mk (Kd.V_elder' (by (with_reducible repeat (first | apply Kd.V_alloc | apply Kd.V_drewN | apply Kd.V_drew)); exact HO_1.out) (Kd.N_base ho61) hb); replace HB := Aside0.mk (below_step zB hb); clear hb ho61) | ((with_reducible refine gate_builtin (b := .append) (xs := #[.tmp 29, .tmp 30]) rfl ?_); at_builtin; refine Kd.N_append_rows k28 (w0 := w) w.heap.size rfl (.tmp 29) (.tmp 30) 22 28 (.agg #[(.int .i64 0), (.slice none 0 0)]) 32 rfl Tryz.underlying22 info28 rfl (by decide) (by omega) v146 y145 l0 _ _ _ (fun k_ => ((P0_ k_ ∨ P1_ k_) ∨ w.heap.size ≤ k_)) (fun k_ => ((fun k_ => ((P0_ k_ ∨ P1_ k_) ∨ w.heap.size ≤ k_))) k_ ∧ some k_ ≠ (v146 : Value).ownBlock) rfl rfl ?aO ?aR (fun _ hk => hk) ?aF ?aB ?aS ?aL ?_; (case aR => exact (by skip; exact Kd.V_F (Kd.V_mono (ok' := (fun k_ => ((fun k_ => ((P0_ k_ ∨ P1_ k_) ∨ w.heap.size ≤ k_))) k_ ∧ some k_ ≠ (v146 : Value).ownBlock)) (HO_0.out) (fun k_ hk => ⟨hk.1, hk.2⟩)))); (case aB => exact zB); (case aF => exact (fun k_ hk => (.inr (Nat.le_trans (below_size zB) hk)))); (case aO => exact (by (with_reducible repeat (first | apply Kd.N_alloc | apply Kd.N_drewN | apply Kd.N_drew)); exact HO147.out)); (case aS => exact (below_size zB)); (case aL => have := LMc13.out; omega); intro v149 w62 ho hb hg hat; rw [← Ny148.out] at ho; have n0_ := Aside0.mk (Kd.V_afterv (ok := (fun k_ => ((P0_ k_ ∨ P1_ k_) ∨ w.heap.size ≤ k_))) (by (with_reducible repeat (first | apply Kd.V_alloc | apply Kd.V_drewN | apply Kd.V_drew)); exact HO_0.out) hg hat); have n1_ := Aside0.mk (Kd.V_afterv (ok := (fun k_ => ((P0_ k_ ∨ P1_ k_) ∨ w.heap.size ≤ k_))) (by (with_reducible repeat (first | apply Kd.V_alloc | apply Kd.V_drewN | apply Kd.V_drew)); exact HO_1.out) hg hat); have n2_ := Aside0.mk (hb); have n3_ := Aside0.mk (ho); clear HO_0; clear HO_1; clear HB; clear HO147; have HO_0 := n0_; have HO_1 := n1_; have HB := n2_; have HO150 := n3_; clear n0_ n1_ n2_ n3_; clear ho hb hg hat) | ((with_reducible refine gate_builtin (b := .append) (xs := #[.tmp 31, .tmp 32]) rfl ?_); at_builtin; refine Kd.N_append_rows k28 (w0 := w) w.heap.size rfl (.tmp 31) (.tmp 32) 22 28 (.agg #[(.int .i64 0), (.slice none 0 0)]) 32 rfl Tryz.underlying22 info28 rfl (by decide) (by omega) v149 y148 l1 _ _ _ (fun k_ => ((P0_ k_ ∨ P1_ k_) ∨ w.heap.size ≤ k_)) (fun k_ => ((fun k_ => ((P0_ k_ ∨ P1_ k_) ∨ w.heap.size ≤ k_))) k_ ∧ some k_ ≠ (v149 : Value).ownBlock) rfl rfl ?aO ?aR (fun _ hk => hk) ?aF ?aB ?aS ?aL ?_; (case aR => exact (by skip; exact Kd.V_F (Kd.V_mono (ok' := (fun k_ => ((fun k_ => ((P0_ k_ ∨ P1_ k_) ∨ w.heap.size ≤ k_))) k_ ∧ some k_ ≠ (v149 : Value).ownBlock)) (HO_1.out) (fun k_ hk => ⟨hk.1, hk.2⟩)))); (case aB => exact zB); (case aF => exact (fun k_ hk => (.inr (Nat.le_trans (below_size zB) hk)))); (case aO => exact (by (with_reducible repeat (first | apply Kd.N_alloc | apply Kd.N_drewN | apply Kd.N_drew)); exact HO150.out)); (case aS => exact (below_size zB)); (case aL => have := LMc14.out; omega); intro v152 w63 ho hb hg hat; rw [← Ny151.out] at ho; have n0_ := Aside0.mk (Kd.V_afterv (ok := (fun k_ => ((P0_ k_ ∨ P1_ k_) ∨ w.heap.size ≤ k_))) (by (with_reducible repeat (first | apply Kd.V_alloc | apply Kd.V_drewN | apply Kd.V_drew)); exact HO_0.out) hg hat); have n1_ := Aside0.mk (Kd.V_afterv (ok := (fun k_ => ((P0_ k_ ∨ P1_ k_) ∨ w.heap.size ≤ k_))) (by (with_reducible repeat (first | apply Kd.V_alloc | apply Kd.V_drewN | apply Kd.V_drew)); exact HO_1.out) hg hat); have n2_ := Aside0.mk (hb); have n3_ := Aside0.mk (ho); clear HO_0; clear HO_1; clear HB; clear HO150; have HO_0 := n0_; have HO_1 := n1_; have HB := n2_; have HO153 := n3_; clear n0_ n1_ n2_ n3_; clear ho hb hg hat))
            have n0_ := Aside0.mk (Kd.V_drew HO_0.out)
            have n1_ := Aside0.mk (Kd.V_drew HO_1.out)
            have n2_ := Aside0.mk (Kd.N_drew HO153.out)
            have n3_ := Aside0.mk (below_drew1 HB.out)
            clear HO_0
            clear HO_1
            clear HO153
            clear HB
            have HO_0 := n0_
            have HO_1 := n1_
            have HO153 := n2_
            have HB := n3_
            clear n0_ n1_ n2_ n3_
            refine start_ (n := 8) (S := fun w' => True) (ds := []) #[false, false, false, false, false, false, false, false] (by kernel_rfl) rfl rfl trivial (fun hHeld => ?_); refine with_tabW gumshoelaw09_CodeParts.tab5 gumshoelaw09_CodeParts.bits5 (fun HT_ HW_ => ?_)
            generalize w63.drew = w64 at HO_0 HO_1 HO153 HB hHeld ⊢
            refine pure_ (i := 1) (N := some 35) (v := ?_) (a' := ?_) #[false, true, false, false, false, false, false, false] rfl rfl (any_of HT_.out (by kernel_rfl)) (fun _ _ _ h => h) (Or.inl ⟨by rfl, ?_⟩) ?_ ?_
            rotate_left
            ·intro w'
             go_simp
             with_reducible rfl
            rotate_left
            ·simp only [Act.put, List.setIfInBounds_toArray, List.set_cons_zero, List.set_cons_succ, i64_w, i32_w]
             rfl
            refine pure_ (i := 4) (N := some 38) (v := ?_) (a' := ?_) #[false, true, false, false, true, false, false, false] rfl rfl (any_of HT_.out (by kernel_rfl)) (fun _ _ _ h => h) (Or.inl ⟨by rfl, ?_⟩) ?_ ?_
            rotate_left
            ·intro w'
             go_simp
             with_reducible rfl
            rotate_left
            ·simp only [Act.put, List.setIfInBounds_toArray, List.set_cons_zero, List.set_cons_succ, i64_w, i32_w]
             rfl
            refine join_ (σ := Value × Value) 4 #[true, true, true, false, true, false, false, false] (fun s_ => [(34, s_.1), (36, s_.2)]) (fun s_ w' => (Kd.N k28 28 w' w.heap.size (fun k_ => ((P0_ k_ ∨ P1_ k_) ∨ w.heap.size ≤ k_) ∧ some k_ ≠ (s_.1 : Value).ownBlock ∧ some k_ ≠ (s_.2 : Value).ownBlock) v152 y151) ∧ (Kd.R (Kd.int .i64) 3 w' w.heap.size (fun k_ => (w.heap.size ≤ k_) ∧ some k_ ≠ (s_.2 : Value).ownBlock) s_.1 y154) ∧ (Kd.R (Kd.int .i64) 3 w' w.heap.size (fun k_ => (w.heap.size ≤ k_) ∧ some k_ ≠ (s_.1 : Value).ownBlock) s_.2 t157) ∧ (Kd.V k28 28 w' w.heap.size (fun k_ => ((P0_ k_ ∨ P1_ k_) ∨ w.heap.size ≤ k_) ∧ some k_ ≠ (v152 : Value).ownBlock ∧ some k_ ≠ (s_.1 : Value).ownBlock ∧ some k_ ≠ (s_.2 : Value).ownBlock) (.slice A0 l0.length c0) l0) ∧ (Kd.V k28 28 w' w.heap.size (fun k_ => ((P0_ k_ ∨ P1_ k_) ∨ w.heap.size ≤ k_) ∧ some k_ ≠ (v152 : Value).ownBlock ∧ some k_ ≠ (s_.1 : Value).ownBlock ∧ some k_ ≠ (s_.2 : Value).ownBlock) (.slice A1 l1.length c1) l1) ∧ (Below w.heap.size w w')) ?_ ?_
            rotate_left
            ·intro hCont
             refine two_ (i := 0) (j := 2) (Ni := some 34) (Nj := some 36) #[true, true, false, false, true, false, false, false] #[false, true, true, false, true, false, false, false] rfl rfl rfl rfl (two_of HT_.out (by kernel_rfl)) (by decide) (by decide) (fun K hK => ?_) (fun K hK => ?_)
             ·skip
              refine Kd.R_make0_step (Kd.int .i64) _ 3 (by rfl) (N := 34) rfl 29 _ _ rfl 100 rfl rfl Tryz.underlying29 (.int .i64 0) 8 info3 rfl (by decide) (by omega) 0 (ok := fun _ => True) (okp := fun _ => True) rfl (fun _ hk => hk) trivial (by omega) (by omega) (Below.refl _ _) (Nat.le_refl _) ?_
              intro v155 w65 ho66 hb hg_ hnew_
              clear hg_ hnew_
              (first | rw [← Ny154.out] at ho66 | (simp only [Int.reduceToNat] at ho66; rw [← Ny154.out] at ho66))
              have n0_ := Aside0.mk (Kd.V_elder' (by (with_reducible repeat (first | apply Kd.V_alloc | apply Kd.V_drewN | apply Kd.V_drew)); exact HO_0.out) (Kd.R_base ho66) hb)
              have n1_ := Aside0.mk (Kd.V_elder' (by (with_reducible repeat (first | apply Kd.V_alloc | apply Kd.V_drewN | apply Kd.V_drew)); exact HO_1.out) (Kd.R_base ho66) hb)
              have n2_ := Aside0.mk (Kd.N_elder' (by (with_reducible repeat (first | apply Kd.N_alloc | apply Kd.N_drewN | apply Kd.N_drew)); exact HO153.out) (Kd.R_base ho66) hb)
              have n3_ := Aside0.mk (Kd.R_lower (Kd.R_newM (M := fun k_ => (w.heap.size ≤ k_)) ho66 (below_size zB) (fun k_ h_ => h_)) (below_size zB))
              have n4_ := Aside0.mk (below_step zB hb)
              clear HO_0
              clear HO_1
              clear HO153
              clear HB
              have HO_0 := n0_
              have HO_1 := n1_
              have HO153 := n2_
              have HO156 := n3_
              have HB := n4_
              clear n0_ n1_ n2_ n3_ n4_
              clear hb ho66
              refine hK.out _ _ trivial (fun hHeld => ?_)
              clear hK K
              refine norm_ (a' := ?_) ?_ ?_
              rotate_left
              ·show Act.put _ (some 34) _ = _
               simp only [Act.put, List.setIfInBounds_toArray, List.set_cons_zero, List.set_cons_succ, i64_w, i32_w]
               rfl
              refine one_ (i := 2) (N := some 36) #[true, true, true, false, true, false, false, false] rfl rfl (one_of HT_.out (by kernel_rfl)) (by decide) (fun K hK => ?_)
              refine goes_ Tryz.func17 (by kernel_rfl) rfl #[.slice A0 l0.length c0] (by rfl) rfl rfl zP ?_
              with_reducible refine (code_Marks.calls _ _ l0 t157 _ ?side1 ?side2 A16.out).mono ?_
              (case side1 => repeat (first | exact (Kd.V_reads' HO_0.out).2.2 | (with_reducible refine Kd.C_alloc ?_ _) | (with_reducible refine Kd.C_drewN ?_ _) | (with_reducible refine Kd.C_drew ?_)))
              (case side2 => exact (Kd.V_reads' HO_0.out).2.1)
              rintro e w67 ⟨v158, rfl, ho0, hb⟩
              refine ⟨_, rfl, ?_⟩
              have n0_ := Aside0.mk (Kd.V_elder' (by (with_reducible repeat (first | apply Kd.V_alloc | apply Kd.V_drewN | apply Kd.V_drew)); exact HO_0.out) (Kd.R_base ho0) hb)
              have n1_ := Aside0.mk (Kd.V_elder' (by (with_reducible repeat (first | apply Kd.V_alloc | apply Kd.V_drewN | apply Kd.V_drew)); exact HO_1.out) (Kd.R_base ho0) hb)
              have n2_ := Aside0.mk (Kd.N_elder' (by (with_reducible repeat (first | apply Kd.N_alloc | apply Kd.N_drewN | apply Kd.N_drew)); exact HO153.out) (Kd.R_base ho0) hb)
              have n3_ := Aside0.mk (Kd.R_elder' (by (with_reducible repeat (first | apply Kd.R_alloc | apply Kd.R_drewN | apply Kd.R_drew)); exact HO156.out) (Kd.R_base ho0) hb)
              have n4_ := Aside0.mk (Kd.R_lower (Kd.R_new' (Kd.R_newM (M := fun k_ => (w.heap.size ≤ k_)) ho0 (below_size zB) (fun k_ h_ => h_)) (Kd.R_lt (by (with_reducible repeat (first | apply Kd.R_alloc | apply Kd.R_drewN | apply Kd.R_drew)); exact HO156.out))) (below_size zB))
              have n5_ := Aside0.mk (below_step zB hb)
              clear HO_0
              clear HO_1
              clear HO153
              clear HO156
              clear HB
              have HO_0 := n0_
              have HO_1 := n1_
              have HO153 := n2_
              have HO156 := n3_
              have HO159 := n4_
              have HB := n5_
              clear n0_ n1_ n2_ n3_ n4_ n5_
              (try clear hb)
              (try clear hb2)
              (try clear hk)
              (try clear hi)
              (try clear ho0)
              refine hK.out _ _ trivial (fun hHeld => ?_)
              clear hK K
              refine norm_ (a' := ?_) ?_ ?_
              rotate_left
              ·show Act.put _ (some 36) _ = _
               simp only [Act.put, List.setIfInBounds_toArray, List.set_cons_zero, List.set_cons_succ, i64_w, i32_w]
               rfl
              exact norm_ (by simp only [putAll, Act.put, List.setIfInBounds_toArray, List.set_cons_zero, List.set_cons_succ]) (hCont (v155, v158) _ ⟨(by (with_reducible repeat (first | apply Kd.N_alloc | apply Kd.N_drewN | apply Kd.N_drew)); exact Kd.N_mono HO153.out (fun _ hk => ⟨hk.1.1, ⟨hk.1.2, hk.2⟩⟩)), (by (with_reducible repeat (first | apply Kd.R_alloc | apply Kd.R_drewN | apply Kd.R_drew)); exact Kd.R_mono HO156.out (fun _ hk => ⟨hk.1.1, hk.2⟩)), (by (with_reducible repeat (first | apply Kd.R_alloc | apply Kd.R_drewN | apply Kd.R_drew)); exact Kd.R_mono HO159.out (fun _ hk => ⟨hk.1.1, hk.2⟩)), (by (with_reducible repeat (first | apply Kd.V_alloc | apply Kd.V_drewN | apply Kd.V_drew)); exact Kd.V_mono HO_0.out (fun _ hk => ⟨hk.1.1.1, ⟨hk.1.1.2, ⟨hk.1.2, hk.2⟩⟩⟩)), (by (with_reducible repeat (first | apply Kd.V_alloc | apply Kd.V_drewN | apply Kd.V_drew)); exact Kd.V_mono HO_1.out (fun _ hk => ⟨hk.1.1.1, ⟨hk.1.1.2, ⟨hk.1.2, hk.2⟩⟩⟩)), zB⟩)
             ·skip
              refine goes_ Tryz.func17 (by kernel_rfl) rfl #[.slice A0 l0.length c0] (by rfl) rfl rfl zP ?_
              with_reducible refine (code_Marks.calls _ _ l0 t157 _ ?side1 ?side2 A16.out).mono ?_
              (case side1 => repeat (first | exact (Kd.V_reads' HO_0.out).2.2 | (with_reducible refine Kd.C_alloc ?_ _) | (with_reducible refine Kd.C_drewN ?_ _) | (with_reducible refine Kd.C_drew ?_)))
              (case side2 => exact (Kd.V_reads' HO_0.out).2.1)
              rintro e w65 ⟨v158, rfl, ho0, hb⟩
              refine ⟨_, rfl, ?_⟩
              have n0_ := Aside0.mk (Kd.V_elder' (by (with_reducible repeat (first | apply Kd.V_alloc | apply Kd.V_drewN | apply Kd.V_drew)); exact HO_0.out) (Kd.R_base ho0) hb)
              have n1_ := Aside0.mk (Kd.V_elder' (by (with_reducible repeat (first | apply Kd.V_alloc | apply Kd.V_drewN | apply Kd.V_drew)); exact HO_1.out) (Kd.R_base ho0) hb)
              have n2_ := Aside0.mk (Kd.N_elder' (by (with_reducible repeat (first | apply Kd.N_alloc | apply Kd.N_drewN | apply Kd.N_drew)); exact HO153.out) (Kd.R_base ho0) hb)
              have n3_ := Aside0.mk (Kd.R_lower (Kd.R_newM (M := fun k_ => (w.heap.size ≤ k_)) ho0 (below_size zB) (fun k_ h_ => h_)) (below_size zB))
              have n4_ := Aside0.mk (below_step zB hb)
              clear HO_0
              clear HO_1
              clear HO153
              clear HB
              have HO_0 := n0_
              have HO_1 := n1_
              have HO153 := n2_
              have HO159 := n3_
              have HB := n4_
              clear n0_ n1_ n2_ n3_ n4_
              (try clear hb)
              (try clear hb2)
              (try clear hk)
              (try clear hi)
              (try clear ho0)
              refine hK.out _ _ trivial (fun hHeld => ?_)
              clear hK K
              refine norm_ (a' := ?_) ?_ ?_
              rotate_left
              ·show Act.put _ (some 36) _ = _
               simp only [Act.put, List.setIfInBounds_toArray, List.set_cons_zero, List.set_cons_succ, i64_w, i32_w]
               rfl
              refine one_ (i := 0) (N := some 34) #[true, true, true, false, true, false, false, false] rfl rfl (one_of HT_.out (by kernel_rfl)) (by decide) (fun K hK => ?_)
              refine Kd.R_make0_step (Kd.int .i64) _ 3 (by rfl) (N := 34) rfl 29 _ _ rfl 100 rfl rfl Tryz.underlying29 (.int .i64 0) 8 info3 rfl (by decide) (by omega) 0 (ok := fun _ => True) (okp := fun _ => True) rfl (fun _ hk => hk) trivial (by omega) (by omega) (Below.refl _ _) (Nat.le_refl _) ?_
              intro v155 w66 ho67 hb hg_ hnew_
              clear hg_ hnew_
              (first | rw [← Ny154.out] at ho67 | (simp only [Int.reduceToNat] at ho67; rw [← Ny154.out] at ho67))
              have n0_ := Aside0.mk (Kd.V_elder' (by (with_reducible repeat (first | apply Kd.V_alloc | apply Kd.V_drewN | apply Kd.V_drew)); exact HO_0.out) (Kd.R_base ho67) hb)
              have n1_ := Aside0.mk (Kd.V_elder' (by (with_reducible repeat (first | apply Kd.V_alloc | apply Kd.V_drewN | apply Kd.V_drew)); exact HO_1.out) (Kd.R_base ho67) hb)
              have n2_ := Aside0.mk (Kd.N_elder' (by (with_reducible repeat (first | apply Kd.N_alloc | apply Kd.N_drewN | apply Kd.N_drew)); exact HO153.out) (Kd.R_base ho67) hb)
              have n3_ := Aside0.mk (Kd.R_elder' (by (with_reducible repeat (first | apply Kd.R_alloc | apply Kd.R_drewN | apply Kd.R_drew)); exact HO159.out) (Kd.R_base ho67) hb)
              have n4_ := Aside0.mk (Kd.R_lower (Kd.R_new' (Kd.R_newM (M := fun k_ => (w.heap.size ≤ k_)) ho67 (below_size zB) (fun k_ h_ => h_)) (Kd.R_lt (by (with_reducible repeat (first | apply Kd.R_alloc | apply Kd.R_drewN | apply Kd.R_drew)); exact HO159.out))) (below_size zB))
              have n5_ := Aside0.mk (below_step zB hb)
              clear HO_0
              clear HO_1
              clear HO153
              clear HO159
              clear HB
              have HO_0 := n0_
              have HO_1 := n1_
              have HO153 := n2_
              have HO159 := n3_
              have HO156 := n4_
              have HB := n5_
              clear n0_ n1_ n2_ n3_ n4_ n5_
              clear hb ho67
              refine hK.out _ _ trivial (fun hHeld => ?_)
              clear hK K
              refine norm_ (a' := ?_) ?_ ?_
              rotate_left
              ·show Act.put _ (some 34) _ = _
               simp only [Act.put, List.setIfInBounds_toArray, List.set_cons_zero, List.set_cons_succ, i64_w, i32_w]
               rfl
              exact norm_ (by simp only [putAll, Act.put, List.setIfInBounds_toArray, List.set_cons_zero, List.set_cons_succ]) (hCont (v155, v158) _ ⟨(by (with_reducible repeat (first | apply Kd.N_alloc | apply Kd.N_drewN | apply Kd.N_drew)); exact Kd.N_mono HO153.out (fun _ hk => ⟨hk.1.1, ⟨hk.2, hk.1.2⟩⟩)), (by (with_reducible repeat (first | apply Kd.R_alloc | apply Kd.R_drewN | apply Kd.R_drew)); exact Kd.R_mono HO156.out (fun _ hk => ⟨hk.1.1, hk.2⟩)), (by (with_reducible repeat (first | apply Kd.R_alloc | apply Kd.R_drewN | apply Kd.R_drew)); exact Kd.R_mono HO159.out (fun _ hk => ⟨hk.1.1, hk.2⟩)), (by (with_reducible repeat (first | apply Kd.V_alloc | apply Kd.V_drewN | apply Kd.V_drew)); exact Kd.V_mono HO_0.out (fun _ hk => ⟨hk.1.1.1, ⟨hk.1.1.2, ⟨hk.2, hk.1.2⟩⟩⟩)), (by (with_reducible repeat (first | apply Kd.V_alloc | apply Kd.V_drewN | apply Kd.V_drew)); exact Kd.V_mono HO_1.out (fun _ hk => ⟨hk.1.1.1, ⟨hk.1.1.2, ⟨hk.2, hk.1.2⟩⟩⟩)), zB⟩)
            rintro ⟨v155, v158⟩ w68 ⟨h0_, h1_, h2_, h3_, h4_, h5_⟩
            have n0_ : Aside0 (Kd.N k28 28 w68 w.heap.size (fun k_ => ((P0_ k_ ∨ P1_ k_) ∨ w.heap.size ≤ k_) ∧ some k_ ≠ (v155 : Value).ownBlock ∧ some k_ ≠ (v158 : Value).ownBlock) v152 y151) := ⟨h0_⟩
            have n1_ : Aside0 (Kd.R (Kd.int .i64) 3 w68 w.heap.size (fun k_ => (w.heap.size ≤ k_) ∧ some k_ ≠ (v158 : Value).ownBlock) v155 y154) := ⟨h1_⟩
            have n2_ : Aside0 (Kd.R (Kd.int .i64) 3 w68 w.heap.size (fun k_ => (w.heap.size ≤ k_) ∧ some k_ ≠ (v155 : Value).ownBlock) v158 t157) := ⟨h2_⟩
            have n3_ : Aside0 (Kd.V k28 28 w68 w.heap.size (fun k_ => ((P0_ k_ ∨ P1_ k_) ∨ w.heap.size ≤ k_) ∧ some k_ ≠ (v152 : Value).ownBlock ∧ some k_ ≠ (v155 : Value).ownBlock ∧ some k_ ≠ (v158 : Value).ownBlock) (.slice A0 l0.length c0) l0) := ⟨h3_⟩
            have n4_ : Aside0 (Kd.V k28 28 w68 w.heap.size (fun k_ => ((P0_ k_ ∨ P1_ k_) ∨ w.heap.size ≤ k_) ∧ some k_ ≠ (v152 : Value).ownBlock ∧ some k_ ≠ (v155 : Value).ownBlock ∧ some k_ ≠ (v158 : Value).ownBlock) (.slice A1 l1.length c1) l1) := ⟨h4_⟩
            have n5_ : Aside0 (Below w.heap.size w w68) := ⟨h5_⟩
            clear HO_0
            clear HO_1
            clear HO153
            clear HB
            clear h0_ h1_ h2_ h3_ h4_ h5_
            have HO153 := n0_
            have HO156 := n1_
            have HO159 := n2_
            have HO_0 := n3_
            have HO_1 := n4_
            have HB := n5_
            clear n0_ n1_ n2_ n3_ n4_ n5_
            have hHeld := trivial
            obtain ⟨Ao70, co70, eo70⟩ := Kd.R_slice HO159.out
            (first | subst eo70 | (injection eo70 with f1_ f2_ f3_; have f4_ := f1_.symm; have f5_ := f3_.symm; clear f1_ f2_ f3_; subst f4_; subst f5_))
            refine norm_ (a' := ?_) ?_ ?_
            rotate_left
            ·simp only [putAll, Act.put, List.setIfInBounds_toArray, List.set_cons_zero, List.set_cons_succ]
             rfl
            refine one_ (i := 3) (N := some 37) #[true, true, true, true, true, false, false, false] rfl rfl (one_of HT_.out (by kernel_rfl)) (by decide) (fun K hK => ?_)
            refine Kd.R_append_rows_step (Kd.int .i64) (w0 := w) w.heap.size (by rfl) (.tmp 34) (.tmp 36) 29 3 (.int .i64 0) 8 rfl Tryz.underlying29 info3 rfl (by decide) (by omega) v155 y154 t157 _ _ _ (fun k_ => (w.heap.size ≤ k_) ∧ some k_ ≠ (.slice Ao70 t157.length co70 : Value).ownBlock) (fun _ => False) rfl rfl ?aO ?aR (fun _ _ h => h) (fun _ h => h.elim) ?aF ?aB ?aS ?aL ?_
            (case aR => repeat (first | exact (Kd.R_reads' HO159.out).2.2 | (with_reducible refine Kd.C_alloc ?_ _) | (with_reducible refine Kd.C_drewN ?_ _) | (with_reducible refine Kd.C_drew ?_)))
            (case aB => exact zB)
            (case aF => exact (fun k_ hk => ⟨(Nat.le_trans (below_size zB) hk), Kd.fresh' (Kd.R_lt (by (with_reducible repeat (first | apply Kd.R_alloc | apply Kd.R_drewN | apply Kd.R_drew)); exact HO159.out)) k_ hk⟩))
            (case aO => exact (by (with_reducible repeat (first | apply Kd.R_alloc | apply Kd.R_drewN | apply Kd.R_drew)); exact HO156.out))
            (case aS => exact (below_size zB))
            (case aL => have := LMc17.out; omega)
            intro v161 w69 ho hb hg hat
            rw [← Ny160.out] at ho
            have n0_ := Aside0.mk (Kd.V_afterv (ok := (fun k_ => ((P0_ k_ ∨ P1_ k_) ∨ w.heap.size ≤ k_) ∧ some k_ ≠ (v152 : Value).ownBlock ∧ some k_ ≠ (.slice Ao70 t157.length co70 : Value).ownBlock)) (by (with_reducible repeat (first | apply Kd.V_alloc | apply Kd.V_drewN | apply Kd.V_drew)); exact Kd.V_mono HO_0.out (fun _ hk => ⟨⟨hk.1, ⟨hk.2.1, hk.2.2.2⟩⟩, hk.2.2.1⟩)) hg hat)
            have n1_ := Aside0.mk (Kd.V_afterv (ok := (fun k_ => ((P0_ k_ ∨ P1_ k_) ∨ w.heap.size ≤ k_) ∧ some k_ ≠ (v152 : Value).ownBlock ∧ some k_ ≠ (.slice Ao70 t157.length co70 : Value).ownBlock)) (by (with_reducible repeat (first | apply Kd.V_alloc | apply Kd.V_drewN | apply Kd.V_drew)); exact Kd.V_mono HO_1.out (fun _ hk => ⟨⟨hk.1, ⟨hk.2.1, hk.2.2.2⟩⟩, hk.2.2.1⟩)) hg hat)
            have n2_ := Aside0.mk (Kd.N_afterv (ok := (fun k_ => ((P0_ k_ ∨ P1_ k_) ∨ w.heap.size ≤ k_) ∧ some k_ ≠ (.slice Ao70 t157.length co70 : Value).ownBlock)) (by (with_reducible repeat (first | apply Kd.N_alloc | apply Kd.N_drewN | apply Kd.N_drew)); exact Kd.N_mono HO153.out (fun _ hk => ⟨⟨hk.1, hk.2.2⟩, hk.2.1⟩)) hg hat)
            have n3_ := Aside0.mk (Kd.R_after (ok := (fun k_ => (w.heap.size ≤ k_))) (by (with_reducible repeat (first | apply Kd.R_alloc | apply Kd.R_drewN | apply Kd.R_drew)); exact HO159.out) hg hat)
            have n4_ := Aside0.mk (hb)
            have n5_ := Aside0.mk (ho)
            clear HO_0
            clear HO_1
            clear HO153
            clear HO159
            clear HB
            clear HO156
            have HO_0 := n0_
            have HO_1 := n1_
            have HO153 := n2_
            have HO159 := n3_
            have HB := n4_
            have HO162 := n5_
            clear n0_ n1_ n2_ n3_ n4_ n5_
            clear ho hb hg hat
            refine hK.out _ _ trivial (fun hHeld => ?_)
            clear hK K
            refine norm_ (a' := ?_) ?_ ?_
            rotate_left
            ·show Act.put _ (some 37) _ = _
             simp only [Act.put, List.setIfInBounds_toArray, List.set_cons_zero, List.set_cons_succ, i64_w, i32_w]
             rfl
            refine one_ (i := 5) (N := some 39) #[true, true, true, true, true, true, false, false] rfl rfl (one_of HT_.out (by kernel_rfl)) (by decide) (fun K hK => ?_)
            refine goes_ Tryz.func17 (by kernel_rfl) rfl #[.slice A1 l1.length c1] (by rfl) rfl rfl zP ?_
            with_reducible refine (code_Marks.calls _ _ l1 t163 _ ?side1 ?side2 A18.out).mono ?_
            (case side1 => repeat (first | exact (Kd.V_reads' HO_1.out).2.2 | (with_reducible refine Kd.C_alloc ?_ _) | (with_reducible refine Kd.C_drewN ?_ _) | (with_reducible refine Kd.C_drew ?_)))
            (case side2 => exact (Kd.V_reads' HO_1.out).2.1)
            rintro e w71 ⟨v164, rfl, ho0, hb⟩
            refine ⟨_, rfl, ?_⟩
            have n0_ := Aside0.mk (Kd.V_elder' (by (with_reducible repeat (first | apply Kd.V_alloc | apply Kd.V_drewN | apply Kd.V_drew)); exact HO_0.out) (Kd.R_base ho0) hb)
            have n1_ := Aside0.mk (Kd.V_elder' (by (with_reducible repeat (first | apply Kd.V_alloc | apply Kd.V_drewN | apply Kd.V_drew)); exact HO_1.out) (Kd.R_base ho0) hb)
            have n2_ := Aside0.mk (Kd.N_elder' (by (with_reducible repeat (first | apply Kd.N_alloc | apply Kd.N_drewN | apply Kd.N_drew)); exact HO153.out) (Kd.R_base ho0) hb)
            have n3_ := Aside0.mk (Kd.R_elder' (by (with_reducible repeat (first | apply Kd.R_alloc | apply Kd.R_drewN | apply Kd.R_drew)); exact HO159.out) (Kd.R_base ho0) hb)
            have n4_ := Aside0.mk (Kd.R_elder' (by (with_reducible repeat (first | apply Kd.R_alloc | apply Kd.R_drewN | apply Kd.R_drew)); exact HO162.out) (Kd.R_base ho0) hb)
            have n5_ := Aside0.mk (Kd.R_lower (Kd.R_new' (Kd.R_new' (Kd.R_newM (M := fun k_ => (w.heap.size ≤ k_)) ho0 (below_size zB) (fun k_ h_ => h_)) (Kd.R_lt (by (with_reducible repeat (first | apply Kd.R_alloc | apply Kd.R_drewN | apply Kd.R_drew)); exact HO159.out))) (Kd.R_lt (by (with_reducible repeat (first | apply Kd.R_alloc | apply Kd.R_drewN | apply Kd.R_drew)); exact HO162.out))) (below_size zB))
            have n6_ := Aside0.mk (below_step zB hb)
            clear HO_0
            clear HO_1
            clear HO153
            clear HO159
            clear HO162
            clear HB
            have HO_0 := n0_
            have HO_1 := n1_
            have HO153 := n2_
            have HO159 := n3_
            have HO162 := n4_
            have HO165 := n5_
            have HB := n6_
            clear n0_ n1_ n2_ n3_ n4_ n5_ n6_
            (try clear hb)
            (try clear hb2)
            (try clear hk)
            (try clear hi)
            (try clear ho0)
            obtain ⟨Ao73, co73, eo73⟩ := Kd.R_slice HO165.out
            (first | subst eo73 | (injection eo73 with f1_ f2_ f3_; have f4_ := f1_.symm; have f5_ := f3_.symm; clear f1_ f2_ f3_; subst f4_; subst f5_))
            refine hK.out _ _ trivial (fun hHeld => ?_)
            clear hK K
            refine norm_ (a' := ?_) ?_ ?_
            rotate_left
            ·show Act.put _ (some 39) _ = _
             simp only [Act.put, List.setIfInBounds_toArray, List.set_cons_zero, List.set_cons_succ, i64_w, i32_w]
             rfl
            refine one_ (i := 6) (N := some 40) #[true, true, true, true, true, true, true, false] rfl rfl (one_of HT_.out (by kernel_rfl)) (by decide) (fun K hK => ?_)
            refine Kd.R_append_rows_step (Kd.int .i64) (w0 := w) w.heap.size (by rfl) (.tmp 37) (.tmp 39) 29 3 (.int .i64 0) 8 rfl Tryz.underlying29 info3 rfl (by decide) (by omega) v161 y160 t163 _ _ _ (fun k_ => (w.heap.size ≤ k_) ∧ some k_ ≠ (.slice Ao70 t157.length co70 : Value).ownBlock ∧ some k_ ≠ (.slice Ao73 t163.length co73 : Value).ownBlock) (fun _ => False) rfl rfl ?aO ?aR (fun _ _ h => h) (fun _ h => h.elim) ?aF ?aB ?aS ?aL ?_
            (case aR => repeat (first | exact (Kd.R_reads' HO165.out).2.2 | (with_reducible refine Kd.C_alloc ?_ _) | (with_reducible refine Kd.C_drewN ?_ _) | (with_reducible refine Kd.C_drew ?_)))
            (case aB => exact zB)
            (case aF => exact (fun k_ hk => ⟨(Nat.le_trans (below_size zB) hk), Kd.fresh' (Kd.R_lt (by (with_reducible repeat (first | apply Kd.R_alloc | apply Kd.R_drewN | apply Kd.R_drew)); exact HO159.out)) k_ hk, Kd.fresh' (Kd.R_lt (by (with_reducible repeat (first | apply Kd.R_alloc | apply Kd.R_drewN | apply Kd.R_drew)); exact HO165.out)) k_ hk⟩))
            (case aO => exact (by (with_reducible repeat (first | apply Kd.R_alloc | apply Kd.R_drewN | apply Kd.R_drew)); exact Kd.R_mono HO162.out (fun _ hk => ⟨hk.1.1, ⟨hk.1.2, hk.2⟩⟩)))
            (case aS => exact (below_size zB))
            (case aL => have := LMc19.out; omega)
            intro v167 w72 ho hb hg hat
            rw [← Ny166.out] at ho
            have n0_ := Aside0.mk (Kd.V_afterv (ok := (fun k_ => ((P0_ k_ ∨ P1_ k_) ∨ w.heap.size ≤ k_) ∧ some k_ ≠ (v152 : Value).ownBlock ∧ some k_ ≠ (.slice Ao70 t157.length co70 : Value).ownBlock ∧ some k_ ≠ (.slice Ao73 t163.length co73 : Value).ownBlock)) (by (with_reducible repeat (first | apply Kd.V_alloc | apply Kd.V_drewN | apply Kd.V_drew)); exact Kd.V_mono HO_0.out (fun _ hk => ⟨⟨hk.1.1.1, ⟨hk.1.1.2.1, ⟨hk.1.1.2.2, hk.2⟩⟩⟩, hk.1.2⟩)) hg hat)
            have n1_ := Aside0.mk (Kd.V_afterv (ok := (fun k_ => ((P0_ k_ ∨ P1_ k_) ∨ w.heap.size ≤ k_) ∧ some k_ ≠ (v152 : Value).ownBlock ∧ some k_ ≠ (.slice Ao70 t157.length co70 : Value).ownBlock ∧ some k_ ≠ (.slice Ao73 t163.length co73 : Value).ownBlock)) (by (with_reducible repeat (first | apply Kd.V_alloc | apply Kd.V_drewN | apply Kd.V_drew)); exact Kd.V_mono HO_1.out (fun _ hk => ⟨⟨hk.1.1.1, ⟨hk.1.1.2.1, ⟨hk.1.1.2.2, hk.2⟩⟩⟩, hk.1.2⟩)) hg hat)
            have n2_ := Aside0.mk (Kd.N_afterv (ok := (fun k_ => ((P0_ k_ ∨ P1_ k_) ∨ w.heap.size ≤ k_) ∧ some k_ ≠ (.slice Ao70 t157.length co70 : Value).ownBlock ∧ some k_ ≠ (.slice Ao73 t163.length co73 : Value).ownBlock)) (by (with_reducible repeat (first | apply Kd.N_alloc | apply Kd.N_drewN | apply Kd.N_drew)); exact Kd.N_mono HO153.out (fun _ hk => ⟨⟨hk.1.1.1, ⟨hk.1.1.2, hk.2⟩⟩, hk.1.2⟩)) hg hat)
            have n3_ := Aside0.mk (Kd.R_after (ok := (fun k_ => (w.heap.size ≤ k_) ∧ some k_ ≠ (.slice Ao73 t163.length co73 : Value).ownBlock)) (by (with_reducible repeat (first | apply Kd.R_alloc | apply Kd.R_drewN | apply Kd.R_drew)); exact Kd.R_mono HO159.out (fun _ hk => ⟨⟨hk.1.1, hk.2⟩, hk.1.2⟩)) hg hat)
            have n4_ := Aside0.mk (Kd.R_after (ok := (fun k_ => (w.heap.size ≤ k_) ∧ some k_ ≠ (.slice Ao70 t157.length co70 : Value).ownBlock)) (by (with_reducible repeat (first | apply Kd.R_alloc | apply Kd.R_drewN | apply Kd.R_drew)); exact Kd.R_mono HO165.out (fun _ hk => ⟨⟨hk.1.1.1, hk.1.2⟩, hk.2⟩)) hg hat)
            have n5_ := Aside0.mk (hb)
            have n6_ := Aside0.mk (ho)
            clear HO_0
            clear HO_1
            clear HO153
            clear HO159
            clear HO165
            clear HB
            clear HO162
            have HO_0 := n0_
            have HO_1 := n1_
            have HO153 := n2_
            have HO159 := n3_
            have HO165 := n4_
            have HB := n5_
            have HO168 := n6_
            clear n0_ n1_ n2_ n3_ n4_ n5_ n6_
            clear ho hb hg hat
            refine hK.out _ _ trivial (fun hHeld => ?_)
            clear hK K
            refine norm_ (a' := ?_) ?_ ?_
            rotate_left
            ·show Act.put _ (some 40) _ = _
             simp only [Act.put, List.setIfInBounds_toArray, List.set_cons_zero, List.set_cons_succ, i64_w, i32_w]
             rfl
            refine pure_ (i := 7) (N := some 7) (v := ?_) (a' := ?_) #[true, true, true, true, true, true, true, true] rfl rfl (any_of HT_.out (by kernel_rfl)) (fun _ _ _ h => h) (Or.inl ⟨by rfl, ?_⟩) ?_ ?_
            rotate_left
            ·intro w'
             go_simp
             with_reducible rfl
            rotate_left
            ·simp only [Act.put, List.setIfInBounds_toArray, List.set_cons_zero, List.set_cons_succ, i64_w, i32_w]
             rfl
            refine done_ (done_of HT_.out (by kernel_rfl)) ?_
            obtain ⟨Ao74, co74, eo74⟩ := Kd.N_slice HO153.out
            subst eo74
            try go_wp2_with (first | ((with_reducible refine gate_callee (f := 17) rfl ?_); refine goesL_ (some 42) rfl rfl Tryz.func17 (by kernel_rfl) rfl #[.slice Ao74 y151.length co74] rfl zP ?_; (with_reducible refine (code_Marks.calls _ _ y151 t169 _ ?side1 ?side2 A20.out).mono ?_); (case side1 => repeat (first | exact (Kd.N_reads' HO153.out).2.2 | (with_reducible refine Kd.C_alloc ?_ _) | (with_reducible refine Kd.C_drewN ?_ _) | (with_reducible refine Kd.C_drew ?_))); (case side2 => exact (Kd.N_reads' HO153.out).2.1); rintro e w75 ⟨v170, rfl, ho0, hb⟩; refine ⟨_, rfl, ?_⟩; have HO171 := Aside0.mk (Kd.R_lower (Kd.R_new' (Kd.R_new' (Kd.R_new' (Kd.R_newM (M := fun k_ => (w.heap.size ≤ k_)) ho0 (below_size zB) (fun k_ h_ => h_)) (Kd.R_lt (by (with_reducible repeat (first | apply Kd.R_alloc | apply Kd.R_drewN | apply Kd.R_drew)); exact HO159.out))) (Kd.R_lt (by (with_reducible repeat (first | apply Kd.R_alloc | apply Kd.R_drewN | apply Kd.R_drew)); exact HO165.out))) (Kd.R_lt (by (with_reducible repeat (first | apply Kd.R_alloc | apply Kd.R_drewN | apply Kd.R_drew)); exact HO168.out))) (below_size zB)); replace HO_0 := Aside0.mk (Kd.V_elder' (by (with_reducible repeat (first | apply Kd.V_alloc | apply Kd.V_drewN | apply Kd.V_drew)); exact HO_0.out) (Kd.R_base ho0) hb); replace HO_1 := Aside0.mk (Kd.V_elder' (by (with_reducible repeat (first | apply Kd.V_alloc | apply Kd.V_drewN | apply Kd.V_drew)); exact HO_1.out) (Kd.R_base ho0) hb); replace HO153 := Aside0.mk (Kd.N_elder' (by (with_reducible repeat (first | apply Kd.N_alloc | apply Kd.N_drewN | apply Kd.N_drew)); exact HO153.out) (Kd.R_base ho0) hb); replace HO159 := Aside0.mk (Kd.R_elder' (by (with_reducible repeat (first | apply Kd.R_alloc | apply Kd.R_drewN | apply Kd.R_drew)); exact HO159.out) (Kd.R_base ho0) hb); replace HO165 := Aside0.mk (Kd.R_elder' (by (with_reducible repeat (first | apply Kd.R_alloc | apply Kd.R_drewN | apply Kd.R_drew)); exact HO165.out) (Kd.R_base ho0) hb); replace HO168 := Aside0.mk (Kd.R_elder' (by (with_reducible repeat (first | apply Kd.R_alloc | apply Kd.R_drewN | apply Kd.R_drew)); exact HO168.out) (Kd.R_base ho0) hb); replace HB := Aside0.mk (below_step zB hb); (try clear hb); (try clear ho0); obtain ⟨Ao76, co76, eo76⟩ := Kd.R_slice HO171.out; subst eo76; obtain ⟨Ao77, co77, eo77⟩ := Kd.R_slice HO168.out; subst eo77) | ((with_reducible refine gate_callee (f := 16) rfl ?_); refine goesL_ (some 44) rfl rfl Tryz.func16 (by kernel_rfl) rfl #[.slice Ao76 t169.length co76, .slice Ao77 y166.length co77] rfl zP ?_; (with_reducible refine (gumshoeref01_Same.calls _ _ t169 _ _ y166 false _ ?side1 ?side2 ?side3 ?side4 A21.out).mono ?_); (case side1 => repeat (first | exact (Kd.R_reads' HO171.out).2.2 | (with_reducible refine Kd.C_alloc ?_ _) | (with_reducible refine Kd.C_drewN ?_ _) | (with_reducible refine Kd.C_drew ?_))); (case side2 => exact (Kd.R_reads' HO171.out).2.1); (case side3 => repeat (first | exact (Kd.R_reads' HO168.out).2.2 | (with_reducible refine Kd.C_alloc ?_ _) | (with_reducible refine Kd.C_drewN ?_ _) | (with_reducible refine Kd.C_drew ?_))); (case side4 => exact (Kd.R_reads' HO168.out).2.1); rintro e w' ⟨rfl, ⟨nd, rfl⟩⟩; refine ⟨_, rfl, ?_⟩))
            go_ret
            exact ⟨by first | rfl | (simp [errW_none, errW_some] <;> rfl) | (simp only [← hji10]; first | rfl | (simp [errW_none, errW_some] <;> rfl)) | (simp [*, errW_none, errW_some] <;> rfl) | (simp [*, errW_none, errW_some]; exact (fun (l_ : List UInt8) => (by cases l_ <;> rfl : l_.isEmpty = !(l_ != []))) _), zB⟩
          ·rw [if_neg c19] at H
           exact absurd H (by simp)
         ·rw [if_neg c17] at H
          exact absurd H (by simp)
        ·rw [if_neg c15] at H
         exact absurd H (by simp)
       ·rw [if_neg c14] at H
        exact absurd H (by simp)
      ·rw [if_neg c13] at H
       exact absurd H (by simp)
     ·rw [if_neg c12] at H
      exact absurd H (by simp)
    ·rw [if_neg c11] at H
     exact absurd H (by simp)
end Go.Proofs.YtjlhhjfmekjbhaaGreatDoor.Pv

/- The plain law of CodeParts. No condition. -/
namespace Go.Proofs.YtjlhhjfmekjbhaaGreatDoor.Pure
open Go.RowKit Go.Proofs.YtjlhhjfmekjbhaaGreatDoorW.PrintWords Go.Proofs.YtjlhhjfmekjbhaaGreatDoorW.PrintLast Go.Proofs.YtjlhhjfmekjbhaaGreatDoor.Cd Go.Proofs.YtjlhhjfmekjbhaaGreatDoor.Cf Go.Proofs.YtjlhhjfmekjbhaaGreatDoor.Bld Go.Proofs.YtjlhhjfmekjbhaaGreatDoor.Sh Go.Proofs.YtjlhhjfmekjbhaaGreatDoor.Vf Go.Proofs.YtjlhhjfmekjbhaaGreatDoor.Vg Go.Proofs.YtjlhhjfmekjbhaaGreatDoor.Pv
open Go.Proofs.YtjlhhjfmekjbhaaGreatDoor.Pq (S31 S28 k31 k28 z31 z28 rd_T28)
set_option linter.unusedVariables false
set_option linter.unusedSimpArgs false
theorem CodeParts (a : List P) (ha : RowL a) (b : List P) (hb : RowL b) : gumshoelaw09_CodeParts.f 2 a b = some true := by
  unfold gumshoelaw09_CodeParts.f
  rw [shown_tells, Option.bind_some]
  simp only [gumshoelaw09_Small.f, Option.bind_some]
  by_cases h : smallI a = 0
  · rw [if_pos h, gumshoelaw09_CodeParts.j0, if_pos rfl]
  rw [if_neg h]
  by_cases h' : smallI b = 0
  · rw [h', gumshoelaw09_CodeParts.j0, if_pos (by decide)]
  rw [beq_eq_false_iff_ne.mpr h', gumshoelaw09_CodeParts.j0, if_neg (by decide)]
  have hsa := small_ok a ha h
  have hsb := small_ok b hb h'
  have hoa := hsa.ok
  have hob := hsb.ok
  have hti := Tin.append hsa hsb
  have hoc := ok_of _ hti
  have la := hsa.len
  have lb := hsb.len
  have hw : wrap64 ((a.length : Int) + (b.length : Int)) = ((a.length + b.length : Nat) : Int) := by unfold wrap64; omega
  have ma := marksL_len a hsa.tin
  have mb := marksL_len b hsb.tin
  have mc := marksL_len _ hti
  have e1 : code_Marks.f a = some (marksL a) := by unfold code_Marks.f; rw [if_pos hoa]
  have e2 : code_Marks.f b = some (marksL b) := by unfold code_Marks.f; rw [if_pos hob]
  have e3 : code_Marks.f (a ++ b) = some (marksL a ++ marksL b) := by unfold code_Marks.f; rw [if_pos hoc, marksL_append]
  have e4 : gumshoeref01_Same.f (marksL a ++ marksL b) (marksL a ++ marksL b) = some true := by
    unfold gumshoeref01_Same.f
    rw [if_pos (by rw [List.length_append]; omega), beq_self_eq_true]
  rw [hw, if_pos (by omega), if_pos (by omega), Option.bind_some, List.replicate_zero, if_pos (by simp only [List.length_nil]; omega), Option.bind_some, List.nil_append, if_pos (by omega), Option.bind_some, if_pos (by omega), List.replicate_zero, Option.bind_some, e1, Option.bind_some,
    if_pos (by simp only [List.length_nil]; omega), Option.bind_some, List.nil_append, e2, Option.bind_some, if_pos (by omega), e3, Option.bind_some, e4, Option.bind_some, if_pos rfl, right_f hoa, Option.bind_some]
  cases hca : codeS a with
  | false => rw [if_neg (by decide), gumshoelaw09_CodeParts.j1, if_pos rfl]
  | true =>
    rw [if_pos rfl, right_f hob, Option.bind_some]
    cases hcb : codeS b with
    | false => rw [gumshoelaw09_CodeParts.j1, if_pos (by decide)]
    | true =>
      have f1 : code_Show.f a = some (mkB (showL a), 0) := by unfold code_Show.f showR; rw [if_pos hoa, if_pos hca]
      have f2 : code_Show.f b = some (mkB (showL b), 0) := by unfold code_Show.f showR; rw [if_pos hob, if_pos hcb]
      have f3 : code_Show.f (a ++ b) = some (mkB (showL a) ++ mkB (showL b), 0) := by unfold code_Show.f showR; rw [if_pos hoc, if_pos (codeS_append hca hcb), showL_append, mkB_cat]
      have sa := showL_len a hsa.tin
      have sb := showL_len b hsb.tin
      rw [gumshoelaw09_CodeParts.j1, if_neg (by decide), f1, f2, f3]
      rw [Option.bind_some, Option.bind_some, Option.bind_some, if_pos rfl, if_pos rfl, if_pos rfl, if_pos rfl, if_pos (by rw [mkB_size, mkB_size]; omega), beq_self_eq_true]
end Go.Proofs.YtjlhhjfmekjbhaaGreatDoor.Pure

/- CodeParts: for every input the law returns true, and each argument reads as it did; its row, and its tied card. No condition but those of the card. -/
namespace Go.Proofs.YtjlhhjfmekjbhaaGreatDoor.codeParts
open Go.ChangeShapes Go.WideShapes Go.ChangeAt Go.RowKit
open Go.ChangeMaps (open_string shut_string)
open Go.Proofs.YtjlhhjfmekjbhaaGreatDoor Go.Proofs.YtjlhhjfmekjbhaaGreatDoor.Vl Go.Proofs.YtjlhhjfmekjbhaaGreatDoorW.PrintWords
set_option linter.unusedVariables false
instance : Inhabited Pq.S31 := ⟨Pq.z31⟩
instance : Inhabited Pq.S28 := ⟨Pq.z28⟩
set_option maxRecDepth 100000 in
theorem lifted (os : Os) (started : os.Started) (H : Type) (enc : TypeId × Value → H) :
    ReturnsInHanded {} Tryz.checked os 7 .any (fun w args => (Rows.codePartsSpec.pre enc Tryz.prog Tryz.f7 [] false w args ∧ laidMetH Tryz.prog five w) ∧ sizedMet enc Tryz.prog Tryz.f7 (OpenSpec.ofChange Rows.codePartsSpec) false w args) (Rows.codePartsSpec.post enc Tryz.prog Tryz.f7 false true false false) := by
  refine returnsInHanded_of_change_and (C := Tryz.checked) (X := fun w _ => laidMetH Tryz.prog five w) (fun _ _ _ hh h => h.of_heap hh) own started (by kernel_rfl) Tryz.func7
    (ChangeSpec.witness_shaped (enc := enc) (C := Tryz.checked) (os := os) (X := fun w _ => laidMetH Tryz.prog five w) false (World.doorLaid Tryz.prog 400 os) #[.slice none 0 0, .slice none 0 0] 8 rfl (World.shaped_of_RefB (by kernel_rfl) (by kernel_rfl)) (by kernel_rfl) (by kernel_rfl) (by kernel_rfl) (door_met os _)) ?_
  intro W base args ds gs before hval0 hW _ hsz0 hL0 _
  have hL := laid_of hL0
  have hsz : (DataW.weightsEach Tryz.prog (Tryz.f7.params.toList ++ Rows.codePartsSpec.plain.varTypes Tryz.prog) (ds ++ gs)).all (· ≤ reachBytes) = true := hsz0
  have hval : ∀ (j : Nat) t v, Tryz.f7.params[j]? = some t → args[j]? = some v → Value.okWide Tryz.prog W .any base t v := hval0
  have hW' := hW
  obtain ⟨p, q, hA0, hV, rfl, hfz, hnd⟩ := hW
  have hA : DataW.TrodAll enc Tryz.prog W 0 (fun _ => true) true Tryz.f7.params.toList args.toList ds p := hA0
  rw [Tryz.params7] at hA hval hsz
  obtain ⟨v0, vs0, d0, ds0, p0, q0, hargs, rfl, rfl, h0, r0⟩ := trodAll_cons hA
  obtain ⟨v1, vs1, d1, ds1, p1, q1, rfl, rfl, rfl, h1, r1⟩ := trodAll_cons r0
  obtain ⟨rfl, rfl, rfl⟩ := trodAll_nil r1
  obtain rfl : args = #[v0, v1] := by cases args; simp_all
  obtain ⟨rfl, rfl⟩ := trodVars_none hV
  obtain ⟨a0, len0, cap0, rfl⟩ := okWide_slice Tryz.underlying22 (hval 0 22 v0 rfl rfl)
  have k0 := h0
  have lt0 : ∀ x ∈ p0, x.block < W.heap.size := by obtain ⟨m, hm⟩ := k0; exact DataW.trod_lt m _ _ _ hm
  obtain ⟨m0, hm0⟩ := h0
  obtain ⟨l0, hK0, hw0⟩ := (Opens.opens_slice (d := Pq.k28) Tryz.underlying22 (by kernel_rfl) (Opens.opens_iso (fun x : Pq.S28 => (x.f0, x.f1)) (fun y => (⟨y.1, y.2⟩ : Pq.S28)) (fun _ => rfl) (Opens.opens_struct Tryz.underlying28 (by kernel_rfl) (Opens.opensFs_cons (da := Kd.int .i64) rfl (by kernel_rfl) (Opens.opens_int Tryz.underlying3) (Opens.opensFs_last rfl (by kernel_rfl) (Opens.opens_slice (d := Pq.k31) Tryz.underlying26 (by kernel_rfl) (Opens.opens_iso (fun x : Pq.S31 => (x.f0, x.f1, x.f2, x.f3, x.f4, x.f5, x.f6, x.f7)) (fun y => (⟨y.1, y.2.1, y.2.2.1, y.2.2.2.1, y.2.2.2.2.1, y.2.2.2.2.2.1, y.2.2.2.2.2.2.1, y.2.2.2.2.2.2.2⟩ : Pq.S31)) (fun _ => rfl) (Opens.opens_struct Tryz.underlying31 (by kernel_rfl) (Opens.opensFs_cons (da := Kd.int .i64) rfl (by kernel_rfl) (Opens.opens_int Tryz.underlying3) (Opens.opensFs_cons (da := Kd.int .i64) rfl (by kernel_rfl) (Opens.opens_int Tryz.underlying3) (Opens.opensFs_cons (da := Kd.int .i64) rfl (by kernel_rfl) (Opens.opens_int Tryz.underlying3) (Opens.opensFs_cons (da := Kd.int .i64) rfl (by kernel_rfl) (Opens.opens_int Tryz.underlying3) (Opens.opensFs_cons (da := Kd.int .i64) rfl (by kernel_rfl) (Opens.opens_int Tryz.underlying3) (Opens.opensFs_cons (da := Kd.string) rfl (by kernel_rfl) (Opens.opens_string Tryz.underlying9) (Opens.opensFs_cons (da := Kd.int .i64) rfl (by kernel_rfl) (Opens.opens_int Tryz.underlying2) (Opens.opensFs_last rfl (by kernel_rfl) (Opens.opens_slice (d := Kd.int .i64) Tryz.underlying29 (by kernel_rfl) (Opens.opens_int Tryz.underlying3)))))))))))))))))) H enc W 0 _ true m0 _ _ hm0
  obtain ⟨hn0, hc0, hr0⟩ := Opens.slice_of_K rfl hK0
  subst hn0
  obtain ⟨a1, len1, cap1, rfl⟩ := okWide_slice Tryz.underlying22 (hval 1 22 v1 rfl rfl)
  have k1 := h1
  have lt1 : ∀ x ∈ p1, x.block < W.heap.size := by obtain ⟨m, hm⟩ := k1; exact DataW.trod_lt m _ _ _ hm
  obtain ⟨m1, hm1⟩ := h1
  obtain ⟨l1, hK1, hw1⟩ := (Opens.opens_slice (d := Pq.k28) Tryz.underlying22 (by kernel_rfl) (Opens.opens_iso (fun x : Pq.S28 => (x.f0, x.f1)) (fun y => (⟨y.1, y.2⟩ : Pq.S28)) (fun _ => rfl) (Opens.opens_struct Tryz.underlying28 (by kernel_rfl) (Opens.opensFs_cons (da := Kd.int .i64) rfl (by kernel_rfl) (Opens.opens_int Tryz.underlying3) (Opens.opensFs_last rfl (by kernel_rfl) (Opens.opens_slice (d := Pq.k31) Tryz.underlying26 (by kernel_rfl) (Opens.opens_iso (fun x : Pq.S31 => (x.f0, x.f1, x.f2, x.f3, x.f4, x.f5, x.f6, x.f7)) (fun y => (⟨y.1, y.2.1, y.2.2.1, y.2.2.2.1, y.2.2.2.2.1, y.2.2.2.2.2.1, y.2.2.2.2.2.2.1, y.2.2.2.2.2.2.2⟩ : Pq.S31)) (fun _ => rfl) (Opens.opens_struct Tryz.underlying31 (by kernel_rfl) (Opens.opensFs_cons (da := Kd.int .i64) rfl (by kernel_rfl) (Opens.opens_int Tryz.underlying3) (Opens.opensFs_cons (da := Kd.int .i64) rfl (by kernel_rfl) (Opens.opens_int Tryz.underlying3) (Opens.opensFs_cons (da := Kd.int .i64) rfl (by kernel_rfl) (Opens.opens_int Tryz.underlying3) (Opens.opensFs_cons (da := Kd.int .i64) rfl (by kernel_rfl) (Opens.opens_int Tryz.underlying3) (Opens.opensFs_cons (da := Kd.int .i64) rfl (by kernel_rfl) (Opens.opens_int Tryz.underlying3) (Opens.opensFs_cons (da := Kd.string) rfl (by kernel_rfl) (Opens.opens_string Tryz.underlying9) (Opens.opensFs_cons (da := Kd.int .i64) rfl (by kernel_rfl) (Opens.opens_int Tryz.underlying2) (Opens.opensFs_last rfl (by kernel_rfl) (Opens.opens_slice (d := Kd.int .i64) Tryz.underlying29 (by kernel_rfl) (Opens.opens_int Tryz.underlying3)))))))))))))))))) H enc W 0 _ true m1 _ _ hm1
  obtain ⟨hn1, hc1, hr1⟩ := Opens.slice_of_K rfl hK1
  subst hn1
  clear hA0 hval0 hsz0 hsz hL0
  have hP := Pure.CodeParts l0 (rowL_of hw0) l1 (rowL_of hw1)
  refine (Pv.gumshoelaw09_CodeParts.calls 2 _ _ _ l0 _ _ _ l1 true W hL (Opens.V_of_C hr0 hc0) (Opens.V_of_C hr1 hc1) hP).mono fun e W' ⟨he, bel⟩ => ?_
  subst he
  exact ⟨_, rfl, _, _, _, [], _, [], hW', trodAll_mk1 (shut_bool Tryz.underlying4 _), (trodAll_cons_mk (Below.trod laidOut (by kernel_rfl) (of_decide_eq_true (by kernel_rfl)) k0 bel lt0) (trodAll_cons_mk (Below.trod laidOut (by kernel_rfl) (of_decide_eq_true (by kernel_rfl)) k1 bel lt1) trodAll_mk0)), rfl, bel.frame _, fun h => by cases h⟩
theorem over : Rows.codePartsRow.holds Tryz.pinned (OpenSpec.ofChange Rows.codePartsSpec) :=
  OpenClaim.holds_of_wide 7 Tryz.f7 rfl rfl rfl rfl rfl rfl rfl ⟨rfl, rfl, rfl, rfl, rfl⟩ rfl rfl rfl rfl rfl (by kernel_rfl) Tryz.func7 (by kernel_rfl)
    (of_decide_eq_true (by kernel_rfl)) (by unfold Func.isWrapper; first | (rw [if_pos (by decide +kernel)]; kernel_rfl) | (rw [if_neg (by decide +kernel)]; exact ⟨rfl, rfl⟩))
    (fun os started H enc _ => lifted os started H enc)
set_option maxRecDepth 100000 in
theorem card : Rows.CodePartsCardSaid :=
  Claim7.holds_tied_plain_at .later [] [.data, .data, .data, .sentinel, .sentinel] true (true, "85c2d0c8c5b4204c20e433950d907f7fb04aa29ec539f0ae38069e55df88bd6d") true
    over (fun _ h => by cases h) (by kernel_rfl) (fun _ h => by cases h) codeParts_row_tie rfl ⟨rfl, rfl⟩ (by kernel_rfl) rfl
    (fun f fn hf hfn => by
      obtain rfl : f = 7 := Option.some.inj ((show Tryz.prog.funcNamed "gumshoe/gumshoelaw09.CodeParts" = some 7 by kernel_rfl).symm.trans hf) |>.symm
      obtain rfl : fn = Tryz.f7 := (Option.some.inj (Tryz.func7.symm.trans hfn)).symm
      exact ⟨by kernel_rfl, fun j t ht => by
        rw [Tryz.params7] at ht
        have hm : t ∈ [22, 22] := by simpa using Array.mem_of_getElem? ht
        have hall : ([22, 22].all fun u => !Tryz.prog.wantsStandIn u) = true := by kernel_rfl
        exact (show Tryz.prog.wantsStandIn t = false by simpa using List.all_eq_true.1 hall t hm)⟩)
    (by kernel_rfl)
end Go.Proofs.YtjlhhjfmekjbhaaGreatDoor.codeParts
namespace Go.Proofs.YtjlhhjfmekjbhaaGreatDoor
theorem codeParts_holds : Rows.CodePartsCardSaid := codeParts.card
end Go.Proofs.YtjlhhjfmekjbhaaGreatDoor

