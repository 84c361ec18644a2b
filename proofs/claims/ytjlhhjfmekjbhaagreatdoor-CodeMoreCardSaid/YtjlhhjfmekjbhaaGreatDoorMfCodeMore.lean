/- The law CodeMore: for every input it returns true, and each argument reads as it did. No condition but those of the given card or row. -/
import Derived.Test.YtjlhhjfmekjbhaaGreatDoorRows
import Derived.Test.YtjlhhjfmekjbhaaGreatDoorCards
import Derived.Test.YtjlhhjfmekjbhaaGreatDoorTie
import Derived.WalkKit
import Derived.ProofKit
import Derived.OpenShut
import Derived.ShutString
import Derived.ChangeOld
import Derived.Below
import Derived.SizedLaws
import Derived.Stop.Joined
import Derived.SevenTiedAt
import Derived.Test.YtjlhhjfmekjbhaaGreatDoorMf0
import Derived.Test.YtjlhhjfmekjbhaaGreatDoorMf2
import Derived.Test.YtjlhhjfmekjbhaaGreatDoorMf8
namespace Go.Proofs.YtjlhhjfmekjbhaaGreatDoor.Pv
open Go.Proofs.YtjlhhjfmekjbhaaGreatDoor.Pq (errW errW_none errW_some S31 z31 k31 k31_open k31_mk rd_T31 at_T31 S28 z28 k28 k28_open k28_mk rd_T28 at_T28)
open Go.RowKit Go.Proofs.YtjlhhjfmekjbhaaGreatDoor.Vg Go.Proofs.YtjlhhjfmekjbhaaGreatDoorW.PrintWords Go.Proofs.YtjlhhjfmekjbhaaGreatDoorW.PrintLast Go.Proofs.YtjlhhjfmekjbhaaGreatDoorW.PrintMore
set_option linter.unusedVariables false
set_option linter.unusedSimpArgs false
/-! ### gumshoelaw09_CodeMore: function 4 -/
def gumshoelaw09_CodeMore.j0 : Nat → List (S28) → Int → Bool → Bool → Option (Bool)
 | 0, _, _, _, _ => none
 | k + 1, x0, x1, x5, x33 => if x33 = true then (some x5) else (if 0 < (x0.length : Int) then ((some (([(⟨wrap64 (((rd_T28 x0 0).f0) + x1), (rd_T28 x0 0).f1⟩ : S28)] : List (S28)) : List (S28))).bind fun y187 => (if 1 ≤ (x0.length : Int) then ((some (x0.drop 1 : List (S28))).bind fun y190 => (if y187.length + y190.length < 4398046511104 then (if 0 ≤ (wrap64 ((((rd_T28 x0 0).f1).length : Int) + 1)) then (if (wrap64 ((((rd_T28 x0 0).f1).length : Int) + 1) : Int).toNat ≤ 3198579280802 then ((some (List.replicate 0 z31 : List (S31))).bind fun y200 => (if y200.length + ((rd_T28 x0 0).f1).length < 1599289640401 then ((some (y200 ++ ((rd_T28 x0 0).f1) : List (S31))).bind fun y203 => ((some (([(⟨23, 0, 0, 0, 0, (⟨#[]⟩ : ByteArray), 0, ([] : List Int)⟩ : S31)] : List (S31)) : List (S31))).bind fun y206 => (if y203.length + y206.length < 1599289640401 then ((some (([(⟨(rd_T28 x0 0).f0, (y203 ++ y206)⟩ : S28)] : List (S28)) : List (S28))).bind fun y212 => ((some (x0.drop 1 : List (S28))).bind fun y215 => (if y212.length + y215.length < 4398046511104 then (if x5 = true then ((code_Right.f (y187 ++ y190)).bind fun t223 => (if t223 = true then ((code_Right.f (y212 ++ y215)).bind fun t224 => (some (!t224))) else (none))) else (none)) else (none)))) else (none)))) else (none))) else (none)) else (none)) else (none))) else (none))) else (none))
def gumshoelaw09_CodeMore.f (k : Nat) (l0 : List (S28)) (a1 : Int) : Option (Bool) := (gumshoelaw09_shown.f).bind fun t181 => ((gumshoelaw09_Small.f l0).bind fun t182 => (if t182 = 0 then (gumshoelaw09_CodeMore.j0 k l0 a1 t181 true) else (if a1 < 0 then (gumshoelaw09_CodeMore.j0 k l0 a1 t181 true) else (if a1 > 100 then (gumshoelaw09_CodeMore.j0 k l0 a1 t181 true) else ((code_Right.f l0).bind fun t183 => (if t183 = true then (if 0 < (l0.length : Int) then (gumshoelaw09_CodeMore.j0 k l0 a1 t181 (decide (((rd_T28 l0 0).f0) > 50000))) else (none)) else (gumshoelaw09_CodeMore.j0 k l0 a1 t181 true)))))))
def gumshoelaw09_CodeMore.T8 : Bool × List (List Nat × List Nat) := (true, [([], []), ([0], [0]), ([1], [1]), ([2], [2]), ([3], [3]), ([], []), ([5], [5]), ([4, 6], [4, 6]), ([], []), ([8], [8]), ([7, 9, 7], [7, 9]), ([0, 1, 2, 3, 4, 5, 6, 7, 8, 9, 10], []), ([11, 10, 10, 0, 1, 2, 3, 4, 5, 6, 7, 8, 9, 10], [10, 11])])
def gumshoelaw09_CodeMore.B8 : List Nat := [0, 1, 3, 7, 15, 0, 32, 127, 0, 256, 1023, 2047, 4095]
theorem gumshoelaw09_CodeMore.tab8 : rtab .any (opsOf Tryz.f4 8) = gumshoelaw09_CodeMore.T8 := by kernel_rfl
theorem gumshoelaw09_CodeMore.bits8 : waitsOk gumshoelaw09_CodeMore.T8.2 gumshoelaw09_CodeMore.B8 = true := by kernel_rfl
set_option maxHeartbeats 8000000 in
set_option maxRecDepth 100000 in
theorem gumshoelaw09_CodeMore.calls (k : Nat) (P0_ : Nat → Prop) (A0 : Option Addr) (c0 : Nat) (l0 : List (S28)) (a1 : Int) (r : Bool) (w : World) (hL : Laid w) (hs0 : Kd.V k28 28 w w.heap.size (fun k_ => P0_ k_) (.slice A0 l0.length c0) l0) (h : gumshoelaw09_CodeMore.f k l0 a1 = some r) :
  Calls Tryz.prog 4 #[.slice A0 l0.length c0, .int .i64 a1] w fun e w' => e = .returned (.bool r) ∧ Below w.heap.size w w' := by
 have HL := Aside0.mk hL
 clear hL
 have hu28 := Tryz.underlying28
 have hu31 := Tryz.underlying31
 have HO0 := Aside0.mk (show Kd.V k28 28 w w.heap.size (fun k_ => (P0_ k_ ∨ w.heap.size ≤ k_)) (.slice A0 l0.length c0) l0 from Kd.V_mono hs0 (fun k_ hk => .inl hk))
 have HB := Aside0.mk (Below.refl w.heap.size w)
 have H : ((gumshoelaw09_shown.f).bind fun t181 => ((gumshoelaw09_Small.f l0).bind fun t182 => (if t182 = 0 then (gumshoelaw09_CodeMore.j0 k l0 a1 t181 true) else (if a1 < 0 then (gumshoelaw09_CodeMore.j0 k l0 a1 t181 true) else (if a1 > 100 then (gumshoelaw09_CodeMore.j0 k l0 a1 t181 true) else ((code_Right.f l0).bind fun t183 => (if t183 = true then (if 0 < (l0.length : Int) then (gumshoelaw09_CodeMore.j0 k l0 a1 t181 (decide (((rd_T28 l0 0).f0) > 50000))) else (none)) else (gumshoelaw09_CodeMore.j0 k l0 a1 t181 true)))))))) = some r := h
 clear h
 obtain ⟨t181, A3, H⟩ := zO H
 have HC4 := Aside0.mk H
 clear H
 go_enter Tryz.func4, Tryz.ntmps4
 go_upto_region 2 with (first | ((with_reducible refine gate_callee (f := 10) rfl ?_); refine goesL_ (some 10) rfl rfl Tryz.func10 (by kernel_rfl) rfl #[] rfl zP ?_; (with_reducible refine (gumshoelaw09_shown.calls (hL := ?sideL)  t181 _ A3.out).mono ?_); (case sideL => exact Laid.below HL.out zB); rintro e w5 ⟨rfl, hb⟩; refine ⟨_, rfl, ?_⟩; replace HO0 := Aside0.mk (Kd.V_below (by (with_reducible repeat (first | apply Kd.V_alloc | apply Kd.V_drewN | apply Kd.V_drew)); exact HO0.out) hb); replace HB := Aside0.mk (below_step zB hb); (try clear hb)))
 (try simp only [Act.put, List.setIfInBounds_toArray, List.set_cons_zero, List.set_cons_succ])
 go_cut [33] (fun v33 wc => ∃ (kq : Nat) (x33_3 : Bool), v33 = .bool x33_3 ∧ Aside0 (gumshoelaw09_CodeMore.j0 kq l0 a1 t181 x33_3 = some r) ∧ Aside0 (kq ≤ k) ∧ Aside0 (Kd.V k28 28 wc w.heap.size (fun k_ => (P0_ k_ ∨ w.heap.size ≤ k_)) (.slice A0 l0.length c0) l0) ∧ Aside0 (Below w.heap.size w wc))
 case first =>
  have H := HC4.out
  clear HC4
  obtain ⟨t182, A6, H⟩ := zO H
  by_cases c7 : t182 = 0
  ·rw [if_pos c7] at H
   have c7b0 : (t182 == 0) = true := beq_iff_eq.mpr c7
   have c7b1 : (t182 != 0) = false := bne_eq_false_iff_eq.mpr c7
   clear c7
   (first | rw [c7b0] | (simp only [i64_w, i32_w]; rw [c7b0]) | skip)
   have H' := Aside0.mk H
   clear H
   go_wp2_with (first | ((with_reducible refine gate_callee (f := 11) rfl ?_); refine goesL_ (some 12) rfl rfl Tryz.func11 (by kernel_rfl) rfl #[.slice A0 l0.length c0] rfl zP ?_; (with_reducible refine (gumshoelaw09_Small.calls _ _ l0 t182 _ ?side1 ?side2 A6.out).mono ?_); (case side1 => repeat (first | exact (Kd.V_reads' HO0.out).2.2 | (with_reducible refine Kd.C_alloc ?_ _) | (with_reducible refine Kd.C_drewN ?_ _) | (with_reducible refine Kd.C_drew ?_))); (case side2 => exact (Kd.V_reads' HO0.out).2.1); rintro e w' ⟨rfl, ⟨nd, rfl⟩⟩; refine ⟨_, rfl, ?_⟩))
   go_meet
   case rel => exact ⟨_, (true), zR, H', ⟨by first | omega | exact Nat.le_refl _⟩, ⟨by (with_reducible repeat (first | apply Kd.V_alloc | apply Kd.V_drewN | apply Kd.V_drew)); exact HO0.out⟩, ⟨zB⟩⟩
  ·rw [if_neg c7] at H
   have c7b0 : (t182 == 0) = false := beq_eq_false_iff_ne.mpr c7
   have c7b1 : (t182 != 0) = true := bne_iff_ne.mpr c7
   (first | rw [c7b0] | (simp only [i64_w, i32_w]; rw [c7b0]) | skip)
   by_cases c8 : a1 < 0
   ·rw [if_pos c8] at H
    have c8b0 : decide (a1 < 0) = true := decide_eq_true c8
    clear c8
    have H' := Aside0.mk H
    clear H
    go_wp2_with (first | ((with_reducible refine gate_callee (f := 11) rfl ?_); refine goesL_ (some 12) rfl rfl Tryz.func11 (by kernel_rfl) rfl #[.slice A0 l0.length c0] rfl zP ?_; (with_reducible refine (gumshoelaw09_Small.calls _ _ l0 t182 _ ?side1 ?side2 A6.out).mono ?_); (case side1 => repeat (first | exact (Kd.V_reads' HO0.out).2.2 | (with_reducible refine Kd.C_alloc ?_ _) | (with_reducible refine Kd.C_drewN ?_ _) | (with_reducible refine Kd.C_drew ?_))); (case side2 => exact (Kd.V_reads' HO0.out).2.1); rintro e w' ⟨rfl, ⟨nd, rfl⟩⟩; refine ⟨_, rfl, ?_⟩))
    go_meet
    case rel => exact ⟨_, (true), zR, H', ⟨by first | omega | exact Nat.le_refl _⟩, ⟨by (with_reducible repeat (first | apply Kd.V_alloc | apply Kd.V_drewN | apply Kd.V_drew)); exact HO0.out⟩, ⟨zB⟩⟩
   ·rw [if_neg c8] at H
    have c8b0 : decide (a1 < 0) = false := decide_eq_false c8
    clear c8
    by_cases c9 : a1 > 100
    ·rw [if_pos c9] at H
     have c9b0 : decide (100 < a1) = true := decide_eq_true c9
     clear c9
     have H' := Aside0.mk H
     clear H
     go_wp2_with (first | ((with_reducible refine gate_callee (f := 11) rfl ?_); refine goesL_ (some 12) rfl rfl Tryz.func11 (by kernel_rfl) rfl #[.slice A0 l0.length c0] rfl zP ?_; (with_reducible refine (gumshoelaw09_Small.calls _ _ l0 t182 _ ?side1 ?side2 A6.out).mono ?_); (case side1 => repeat (first | exact (Kd.V_reads' HO0.out).2.2 | (with_reducible refine Kd.C_alloc ?_ _) | (with_reducible refine Kd.C_drewN ?_ _) | (with_reducible refine Kd.C_drew ?_))); (case side2 => exact (Kd.V_reads' HO0.out).2.1); rintro e w' ⟨rfl, ⟨nd, rfl⟩⟩; refine ⟨_, rfl, ?_⟩))
     go_meet
     case rel => exact ⟨_, (true), zR, H', ⟨by first | omega | exact Nat.le_refl _⟩, ⟨by (with_reducible repeat (first | apply Kd.V_alloc | apply Kd.V_drewN | apply Kd.V_drew)); exact HO0.out⟩, ⟨zB⟩⟩
    ·rw [if_neg c9] at H
     have c9b0 : decide (100 < a1) = false := decide_eq_false c9
     clear c9
     obtain ⟨t183, A10, H⟩ := zO H
     by_cases c11 : t183 = true
     ·subst c11
      rw [if_pos rfl] at H
      by_cases c12 : 0 < (l0.length : Int)
      ·rw [if_pos c12] at H
       have c12b0 : decide (0 < (l0.length : Int)) = true := decide_eq_true c12
       have c12b1 : decide (0 < l0.length) = true := decide_eq_true (by omega)
       clear c12
       have H' := Aside0.mk H
       clear H
       go_wp2_with (first | ((with_reducible refine gate_callee (f := 11) rfl ?_); refine goesL_ (some 12) rfl rfl Tryz.func11 (by kernel_rfl) rfl #[.slice A0 l0.length c0] rfl zP ?_; (with_reducible refine (gumshoelaw09_Small.calls _ _ l0 t182 _ ?side1 ?side2 A6.out).mono ?_); (case side1 => repeat (first | exact (Kd.V_reads' HO0.out).2.2 | (with_reducible refine Kd.C_alloc ?_ _) | (with_reducible refine Kd.C_drewN ?_ _) | (with_reducible refine Kd.C_drew ?_))); (case side2 => exact (Kd.V_reads' HO0.out).2.1); rintro e w' ⟨rfl, ⟨nd, rfl⟩⟩; refine ⟨_, rfl, ?_⟩) | (go_at_call 12; (with_reducible refine (code_Right.calls (hL := ?sideL) _ _ l0 true _ ?side1 ?side2 A10.out).mono ?_); (case sideL => exact Laid.below HL.out zB); (case side1 => repeat (first | exact (Kd.V_reads' HO0.out).2.2 | (with_reducible refine Kd.C_alloc ?_ _) | (with_reducible refine Kd.C_drewN ?_ _) | (with_reducible refine Kd.C_drew ?_))); (case side2 => exact (Kd.V_reads' HO0.out).2.1); rintro e w13 ⟨rfl, hb⟩; replace HO0 := Aside0.mk (Kd.V_below (by (with_reducible repeat (first | apply Kd.V_alloc | apply Kd.V_drewN | apply Kd.V_drew)); exact HO0.out) hb); replace HB := Aside0.mk (below_step zB hb); (try clear hb); have p184 : 0 ≤ (0 : Int) := (by omega); have q184 : 0 < (l0.length : Int) := of_decide_eq_true zA; obtain ⟨ad184, A184_1, c184_1, e184, hx184_0, hx184_1, hl184_1, hi184_1⟩ := at_T28 (Kd.V_reads' HO0.out).2.2 0 p184 q184; cases e184; obtain ⟨ce184, hce184, hMe184, hcc184⟩ := Kd.V_get HO0.out z28 0 p184 (by first | exact q184 | exact of_decide_eq_true zA | (have e_ := (Kd.V_reads' HO0.out).1; omega)); obtain ⟨ua184_1, uc184_1, rfl, ul184_1, ge184_1⟩ := k28_openF hMe184; have hv184_1 := hcc184 1 _ rfl; rw [add_field _ _ 1 (by omega)] at hv184_1; replace hv184_1 := Option.some.inj (hv184_1.symm.trans hx184_1); injection hv184_1 with hva_ hvn_ hvc_; rw [hva_] at ge184_1; rw [hvc_] at ul184_1; have HL184_1 := Aside0.mk (show Kd.V k31 31 _ w.heap.size _ _ ((rd_T28 l0 0).f1) from Kd.V_mk ul184_1 ge184_1); clear hva_ hvn_ hvc_ ge184_1 ul184_1; clear hcc184 hce184; have qi184 : (0 < l0.length) = True := eq_true (by omega); (try rw [show ((0 : Int)).toNat = 0 from rfl] at hx184_0); (try rw [show 0 * 2 = 0 from rfl] at hx184_0); (try rw [Addr.add_zero'] at hx184_0); (try rw [show ((0 : Int)).toNat = 0 from rfl] at hx184_1); (try rw [show 0 * 2 = 0 from rfl] at hx184_1); (try rw [Addr.add_zero'] at hx184_1); have HR184_1 := Aside0.mk hi184_1; have HC184_1 := Aside0.mk hl184_1; clear hi184_1 hl184_1; replace p184 := eq_true p184; replace q184 := eq_true q184))
       go_meet
       case rel => exact ⟨_, (decide (((rd_T28 l0 0).f0) > 50000)), zR, H', ⟨by first | omega | exact Nat.le_refl _⟩, ⟨by (with_reducible repeat (first | apply Kd.V_alloc | apply Kd.V_drewN | apply Kd.V_drew)); exact HO0.out⟩, ⟨zB⟩⟩
      ·rw [if_neg c12] at H
       exact absurd H (by simp)
     ·replace c11 := Bool.eq_false_iff.mpr c11
      subst c11
      rw [if_neg (show ¬ (false = true) by decide)] at H
      have H' := Aside0.mk H
      clear H
      go_wp2_with (first | ((with_reducible refine gate_callee (f := 11) rfl ?_); refine goesL_ (some 12) rfl rfl Tryz.func11 (by kernel_rfl) rfl #[.slice A0 l0.length c0] rfl zP ?_; (with_reducible refine (gumshoelaw09_Small.calls _ _ l0 t182 _ ?side1 ?side2 A6.out).mono ?_); (case side1 => repeat (first | exact (Kd.V_reads' HO0.out).2.2 | (with_reducible refine Kd.C_alloc ?_ _) | (with_reducible refine Kd.C_drewN ?_ _) | (with_reducible refine Kd.C_drew ?_))); (case side2 => exact (Kd.V_reads' HO0.out).2.1); rintro e w' ⟨rfl, ⟨nd, rfl⟩⟩; refine ⟨_, rfl, ?_⟩) | (go_at_call 12; (with_reducible refine (code_Right.calls (hL := ?sideL) _ _ l0 false _ ?side1 ?side2 A10.out).mono ?_); (case sideL => exact Laid.below HL.out zB); (case side1 => repeat (first | exact (Kd.V_reads' HO0.out).2.2 | (with_reducible refine Kd.C_alloc ?_ _) | (with_reducible refine Kd.C_drewN ?_ _) | (with_reducible refine Kd.C_drew ?_))); (case side2 => exact (Kd.V_reads' HO0.out).2.1); rintro e w14 ⟨rfl, hb⟩; replace HO0 := Aside0.mk (Kd.V_below (by (with_reducible repeat (first | apply Kd.V_alloc | apply Kd.V_drewN | apply Kd.V_drew)); exact HO0.out) hb); replace HB := Aside0.mk (below_step zB hb); (try clear hb)))
      go_meet
      case rel => exact ⟨_, (true), zR, H', ⟨by first | omega | exact Nat.le_refl _⟩, ⟨by (with_reducible repeat (first | apply Kd.V_alloc | apply Kd.V_drewN | apply Kd.V_drew)); exact HO0.out⟩, ⟨zB⟩⟩
 case rest =>
  clear HC4
  obtain ⟨kq, x33_3, rfl, HA, HJ3, HO_0, HB⟩ := hcut
  cases kq with
  | zero => exact absurd HA.out (by simp [gumshoelaw09_CodeMore.j0])
  | succ kj3 =>
   have H := HA.out
   clear HA
   simp only [gumshoelaw09_CodeMore.j0] at H
   by_cases c15 : x33_3 = true
   ·subst c15
    rw [if_pos rfl] at H
    obtain rfl := Option.some.inj H
    go_wp2
    go_ret
    exact ⟨zE, zB⟩
   ·replace c15 := Bool.eq_false_iff.mpr c15
    subst c15
    rw [if_neg (show ¬ (false = true) by decide)] at H
    by_cases c16 : 0 < (l0.length : Int)
    ·rw [if_pos c16] at H
     have c16b0 : decide (0 < (l0.length : Int)) = true := decide_eq_true c16
     have c16b1 : decide (0 < l0.length) = true := decide_eq_true (by omega)
     clear c16
     obtain ⟨y187, hy187⟩ : ∃ y_ : List (S28), y_ = (([(⟨wrap64 (((rd_T28 l0 0).f0) + a1), (rd_T28 l0 0).f1⟩ : S28)] : List (S28))) := ⟨_, rfl⟩
     replace H : (if 1 ≤ (l0.length : Int) then ((some (l0.drop 1 : List (S28))).bind fun y190 => (if y187.length + y190.length < 4398046511104 then (if 0 ≤ (wrap64 ((((rd_T28 l0 0).f1).length : Int) + 1)) then (if (wrap64 ((((rd_T28 l0 0).f1).length : Int) + 1) : Int).toNat ≤ 3198579280802 then ((some (List.replicate 0 z31 : List (S31))).bind fun y200 => (if y200.length + ((rd_T28 l0 0).f1).length < 1599289640401 then ((some (y200 ++ ((rd_T28 l0 0).f1) : List (S31))).bind fun y203 => ((some (([(⟨23, 0, 0, 0, 0, (⟨#[]⟩ : ByteArray), 0, ([] : List Int)⟩ : S31)] : List (S31)) : List (S31))).bind fun y206 => (if y203.length + y206.length < 1599289640401 then ((some (([(⟨(rd_T28 l0 0).f0, (y203 ++ y206)⟩ : S28)] : List (S28)) : List (S28))).bind fun y212 => ((some (l0.drop 1 : List (S28))).bind fun y215 => (if y212.length + y215.length < 4398046511104 then (if t181 = true then ((code_Right.f (y187 ++ y190)).bind fun t223 => (if t223 = true then ((code_Right.f (y212 ++ y215)).bind fun t224 => (some (!t224))) else (none))) else (none)) else (none)))) else (none)))) else (none))) else (none)) else (none)) else (none))) else (none)) = some r := by first | (rw [hy187]; with_reducible exact H) | (have H2_ := (Option.bind_some _ _).symm.trans H; rw [hy187]; with_reducible exact H2_) | (have H2_ := (Option.bind_some _ _).symm.trans H; with_reducible exact H2_) | with_reducible exact H | (rw [hy187]; exact H) | exact H
     have Ny187 := Aside0.mk hy187
     clear hy187
     by_cases c17 : 1 ≤ (l0.length : Int)
     ·rw [if_pos c17] at H
      have c17b0 := eq_true c17
      have c17b1 : decide (1 ≤ (l0.length : Int)) = true := decide_eq_true c17
      clear c17
      obtain ⟨y190, hy190⟩ : ∃ y_ : List (S28), y_ = (l0.drop 1) := ⟨_, rfl⟩
      replace H : (if y187.length + y190.length < 4398046511104 then (if 0 ≤ (wrap64 ((((rd_T28 l0 0).f1).length : Int) + 1)) then (if (wrap64 ((((rd_T28 l0 0).f1).length : Int) + 1) : Int).toNat ≤ 3198579280802 then ((some (List.replicate 0 z31 : List (S31))).bind fun y200 => (if y200.length + ((rd_T28 l0 0).f1).length < 1599289640401 then ((some (y200 ++ ((rd_T28 l0 0).f1) : List (S31))).bind fun y203 => ((some (([(⟨23, 0, 0, 0, 0, (⟨#[]⟩ : ByteArray), 0, ([] : List Int)⟩ : S31)] : List (S31)) : List (S31))).bind fun y206 => (if y203.length + y206.length < 1599289640401 then ((some (([(⟨(rd_T28 l0 0).f0, (y203 ++ y206)⟩ : S28)] : List (S28)) : List (S28))).bind fun y212 => ((some (l0.drop 1 : List (S28))).bind fun y215 => (if y212.length + y215.length < 4398046511104 then (if t181 = true then ((code_Right.f (y187 ++ y190)).bind fun t223 => (if t223 = true then ((code_Right.f (y212 ++ y215)).bind fun t224 => (some (!t224))) else (none))) else (none)) else (none)))) else (none)))) else (none))) else (none)) else (none)) else (none)) = some r := by first | (rw [hy190]; with_reducible exact H) | (have H2_ := (Option.bind_some _ _).symm.trans H; rw [hy190]; with_reducible exact H2_) | (have H2_ := (Option.bind_some _ _).symm.trans H; with_reducible exact H2_) | with_reducible exact H | (rw [hy190]; exact H) | exact H
      have Ny190 := Aside0.mk hy190
      clear hy190
      by_cases c18 : y187.length + y190.length < 4398046511104
      ·rw [if_pos c18] at H
       have LMc18 := Aside0.mk c18
       clear c18
       obtain ⟨y195, hy195⟩ : ∃ y_ : List (S28), y_ = (y187 ++ y190) := ⟨_, rfl⟩
       replace H : (if 0 ≤ (wrap64 ((((rd_T28 l0 0).f1).length : Int) + 1)) then (if (wrap64 ((((rd_T28 l0 0).f1).length : Int) + 1) : Int).toNat ≤ 3198579280802 then ((some (List.replicate 0 z31 : List (S31))).bind fun y200 => (if y200.length + ((rd_T28 l0 0).f1).length < 1599289640401 then ((some (y200 ++ ((rd_T28 l0 0).f1) : List (S31))).bind fun y203 => ((some (([(⟨23, 0, 0, 0, 0, (⟨#[]⟩ : ByteArray), 0, ([] : List Int)⟩ : S31)] : List (S31)) : List (S31))).bind fun y206 => (if y203.length + y206.length < 1599289640401 then ((some (([(⟨(rd_T28 l0 0).f0, (y203 ++ y206)⟩ : S28)] : List (S28)) : List (S28))).bind fun y212 => ((some (l0.drop 1 : List (S28))).bind fun y215 => (if y212.length + y215.length < 4398046511104 then (if t181 = true then ((code_Right.f y195).bind fun t223 => (if t223 = true then ((code_Right.f (y212 ++ y215)).bind fun t224 => (some (!t224))) else (none))) else (none)) else (none)))) else (none)))) else (none))) else (none)) else (none)) = some r := by first | (rw [hy195]; with_reducible exact H) | (have H2_ := (Option.bind_some _ _).symm.trans H; rw [hy195]; with_reducible exact H2_) | (have H2_ := (Option.bind_some _ _).symm.trans H; with_reducible exact H2_) | with_reducible exact H | (rw [hy195]; exact H) | exact H
       have Ny195 := Aside0.mk hy195
       clear hy195
       obtain ⟨ji19, hji19⟩ : ∃ j_ : Int, (wrap64 ((((rd_T28 l0 0).f1).length : Int) + 1)) = j_ := ⟨_, rfl⟩
       replace H : (if 0 ≤ (ji19) then (if (ji19 : Int).toNat ≤ 3198579280802 then ((some (List.replicate 0 z31 : List (S31))).bind fun y200 => (if y200.length + ((rd_T28 l0 0).f1).length < 1599289640401 then ((some (y200 ++ ((rd_T28 l0 0).f1) : List (S31))).bind fun y203 => ((some (([(⟨23, 0, 0, 0, 0, (⟨#[]⟩ : ByteArray), 0, ([] : List Int)⟩ : S31)] : List (S31)) : List (S31))).bind fun y206 => (if y203.length + y206.length < 1599289640401 then ((some (([(⟨(rd_T28 l0 0).f0, (y203 ++ y206)⟩ : S28)] : List (S28)) : List (S28))).bind fun y212 => ((some (l0.drop 1 : List (S28))).bind fun y215 => (if y212.length + y215.length < 4398046511104 then (if t181 = true then ((code_Right.f y195).bind fun t223 => (if t223 = true then ((code_Right.f (y212 ++ y215)).bind fun t224 => (some (!t224))) else (none))) else (none)) else (none)))) else (none)))) else (none))) else (none)) else (none)) = some r := by first | (rw [hji19] at H; exact H) | (simp only [hji19] at H ⊢; exact H)
       have hji19w : (IntKind.i64.wrap ((((rd_T28 l0 0).f1).length : Int) + 1)) = ji19 := (i64_w _).trans hji19
       by_cases c20 : 0 ≤ (ji19)
       ·rw [if_pos c20] at H
        have c20b0 := eq_true c20
        have c20b1 : decide (0 ≤ (ji19)) = true := decide_eq_true c20
        clear c20
        by_cases c21 : (ji19 : Int).toNat ≤ 3198579280802
        ·rw [if_pos c21] at H
         have c21b0 := eq_true c21
         have c21b1 : decide ((ji19 : Int).toNat ≤ 3198579280802) = true := decide_eq_true c21
         clear c21
         obtain ⟨y200, hy200⟩ : ∃ y_ : List (S31), y_ = (List.replicate 0 z31) := ⟨_, rfl⟩
         replace H : (if y200.length + ((rd_T28 l0 0).f1).length < 1599289640401 then ((some (y200 ++ ((rd_T28 l0 0).f1) : List (S31))).bind fun y203 => ((some (([(⟨23, 0, 0, 0, 0, (⟨#[]⟩ : ByteArray), 0, ([] : List Int)⟩ : S31)] : List (S31)) : List (S31))).bind fun y206 => (if y203.length + y206.length < 1599289640401 then ((some (([(⟨(rd_T28 l0 0).f0, (y203 ++ y206)⟩ : S28)] : List (S28)) : List (S28))).bind fun y212 => ((some (l0.drop 1 : List (S28))).bind fun y215 => (if y212.length + y215.length < 4398046511104 then (if t181 = true then ((code_Right.f y195).bind fun t223 => (if t223 = true then ((code_Right.f (y212 ++ y215)).bind fun t224 => (some (!t224))) else (none))) else (none)) else (none)))) else (none)))) else (none)) = some r := by first | (rw [hy200]; with_reducible exact H) | (have H2_ := (Option.bind_some _ _).symm.trans H; rw [hy200]; with_reducible exact H2_) | (have H2_ := (Option.bind_some _ _).symm.trans H; with_reducible exact H2_) | with_reducible exact H | (rw [hy200]; exact H) | exact H
         have Ny200 := Aside0.mk hy200
         clear hy200
         by_cases c22 : y200.length + ((rd_T28 l0 0).f1).length < 1599289640401
         ·rw [if_pos c22] at H
          have LMc22 := Aside0.mk c22
          clear c22
          obtain ⟨y203, hy203⟩ : ∃ y_ : List (S31), y_ = (y200 ++ ((rd_T28 l0 0).f1)) := ⟨_, rfl⟩
          replace H : ((some (([(⟨23, 0, 0, 0, 0, (⟨#[]⟩ : ByteArray), 0, ([] : List Int)⟩ : S31)] : List (S31)) : List (S31))).bind fun y206 => (if y203.length + y206.length < 1599289640401 then ((some (([(⟨(rd_T28 l0 0).f0, (y203 ++ y206)⟩ : S28)] : List (S28)) : List (S28))).bind fun y212 => ((some (l0.drop 1 : List (S28))).bind fun y215 => (if y212.length + y215.length < 4398046511104 then (if t181 = true then ((code_Right.f y195).bind fun t223 => (if t223 = true then ((code_Right.f (y212 ++ y215)).bind fun t224 => (some (!t224))) else (none))) else (none)) else (none)))) else (none))) = some r := by first | (rw [hy203]; with_reducible exact H) | (have H2_ := (Option.bind_some _ _).symm.trans H; rw [hy203]; with_reducible exact H2_) | (have H2_ := (Option.bind_some _ _).symm.trans H; with_reducible exact H2_) | with_reducible exact H | (rw [hy203]; exact H) | exact H
          have Ny203 := Aside0.mk hy203
          clear hy203
          obtain ⟨y206, hy206⟩ : ∃ y_ : List (S31), y_ = (([(⟨23, 0, 0, 0, 0, (⟨#[]⟩ : ByteArray), 0, ([] : List Int)⟩ : S31)] : List (S31))) := ⟨_, rfl⟩
          replace H : (if y203.length + y206.length < 1599289640401 then ((some (([(⟨(rd_T28 l0 0).f0, (y203 ++ y206)⟩ : S28)] : List (S28)) : List (S28))).bind fun y212 => ((some (l0.drop 1 : List (S28))).bind fun y215 => (if y212.length + y215.length < 4398046511104 then (if t181 = true then ((code_Right.f y195).bind fun t223 => (if t223 = true then ((code_Right.f (y212 ++ y215)).bind fun t224 => (some (!t224))) else (none))) else (none)) else (none)))) else (none)) = some r := by first | (rw [hy206]; with_reducible exact H) | (have H2_ := (Option.bind_some _ _).symm.trans H; rw [hy206]; with_reducible exact H2_) | (have H2_ := (Option.bind_some _ _).symm.trans H; with_reducible exact H2_) | with_reducible exact H | (rw [hy206]; exact H) | exact H
          have Ny206 := Aside0.mk hy206
          clear hy206
          by_cases c23 : y203.length + y206.length < 1599289640401
          ·rw [if_pos c23] at H
           have LMc23 := Aside0.mk c23
           clear c23
           obtain ⟨y209, hy209⟩ : ∃ y_ : List (S31), y_ = (y203 ++ y206) := ⟨_, rfl⟩
           replace H : ((some (([(⟨(rd_T28 l0 0).f0, y209⟩ : S28)] : List (S28)) : List (S28))).bind fun y212 => ((some (l0.drop 1 : List (S28))).bind fun y215 => (if y212.length + y215.length < 4398046511104 then (if t181 = true then ((code_Right.f y195).bind fun t223 => (if t223 = true then ((code_Right.f (y212 ++ y215)).bind fun t224 => (some (!t224))) else (none))) else (none)) else (none)))) = some r := by first | (rw [hy209]; with_reducible exact H) | (have H2_ := (Option.bind_some _ _).symm.trans H; rw [hy209]; with_reducible exact H2_) | (have H2_ := (Option.bind_some _ _).symm.trans H; with_reducible exact H2_) | with_reducible exact H | (rw [hy209]; exact H) | exact H
           have Ny209 := Aside0.mk hy209
           clear hy209
           obtain ⟨y212, hy212⟩ : ∃ y_ : List (S28), y_ = (([(⟨(rd_T28 l0 0).f0, y209⟩ : S28)] : List (S28))) := ⟨_, rfl⟩
           replace H : ((some (l0.drop 1 : List (S28))).bind fun y215 => (if y212.length + y215.length < 4398046511104 then (if t181 = true then ((code_Right.f y195).bind fun t223 => (if t223 = true then ((code_Right.f (y212 ++ y215)).bind fun t224 => (some (!t224))) else (none))) else (none)) else (none))) = some r := by first | (rw [hy212]; with_reducible exact H) | (have H2_ := (Option.bind_some _ _).symm.trans H; rw [hy212]; with_reducible exact H2_) | (have H2_ := (Option.bind_some _ _).symm.trans H; with_reducible exact H2_) | with_reducible exact H | (rw [hy212]; exact H) | exact H
           have Ny212 := Aside0.mk hy212
           clear hy212
           have c24b0 := eq_true (of_decide_eq_true zA : 1 ≤ (l0.length : Int))
           obtain ⟨y215, hy215⟩ : ∃ y_ : List (S28), y_ = (l0.drop 1) := ⟨_, rfl⟩
           replace H : (if y212.length + y215.length < 4398046511104 then (if t181 = true then ((code_Right.f y195).bind fun t223 => (if t223 = true then ((code_Right.f (y212 ++ y215)).bind fun t224 => (some (!t224))) else (none))) else (none)) else (none)) = some r := by first | (rw [hy215]; with_reducible exact H) | (have H2_ := (Option.bind_some _ _).symm.trans H; rw [hy215]; with_reducible exact H2_) | (have H2_ := (Option.bind_some _ _).symm.trans H; with_reducible exact H2_) | with_reducible exact H | (rw [hy215]; exact H) | exact H
           have Ny215 := Aside0.mk hy215
           clear hy215
           by_cases c25 : y212.length + y215.length < 4398046511104
           ·rw [if_pos c25] at H
            have LMc25 := Aside0.mk c25
            clear c25
            obtain ⟨y220, hy220⟩ : ∃ y_ : List (S28), y_ = (y212 ++ y215) := ⟨_, rfl⟩
            replace H : (if t181 = true then ((code_Right.f y195).bind fun t223 => (if t223 = true then ((code_Right.f y220).bind fun t224 => (some (!t224))) else (none))) else (none)) = some r := by first | (rw [hy220]; with_reducible exact H) | (have H2_ := (Option.bind_some _ _).symm.trans H; rw [hy220]; with_reducible exact H2_) | (have H2_ := (Option.bind_some _ _).symm.trans H; with_reducible exact H2_) | with_reducible exact H | (rw [hy220]; exact H) | exact H
            have Ny220 := Aside0.mk hy220
            clear hy220
            by_cases c26 : t181 = true
            ·subst c26
             rw [if_pos rfl] at H
             obtain ⟨t223, A27, H⟩ := zO H
             by_cases c28 : t223 = true
             ·subst c28
              rw [if_pos rfl] at H
              obtain ⟨t224, A29, H⟩ := zO H
              obtain rfl := Option.some.inj H
              have p185 : 0 ≤ (0 : Int) := (by omega)
              have q185 : 0 < (l0.length : Int) := of_decide_eq_true zA
              obtain ⟨ad185, A185_1, c185_1, e185, hx185_0, hx185_1, hl185_1, hi185_1⟩ := at_T28 (Kd.V_reads' HO_0.out).2.2 0 p185 q185
              cases e185
              obtain ⟨ce185, hce185, hMe185, hcc185⟩ := Kd.V_get HO_0.out z28 0 p185 (by first | exact q185 | exact of_decide_eq_true zA | (have e_ := (Kd.V_reads' HO_0.out).1; omega))
              obtain ⟨ua185_1, uc185_1, rfl, ul185_1, ge185_1⟩ := k28_openF hMe185
              have hv185_1 := hcc185 1 _ rfl
              rw [add_field _ _ 1 (by omega)] at hv185_1
              replace hv185_1 := Option.some.inj (hv185_1.symm.trans hx185_1)
              injection hv185_1 with hva_ hvn_ hvc_
              rw [hva_] at ge185_1
              rw [hvc_] at ul185_1
              have HL185_1 := Aside0.mk (show Kd.V k31 31 _ w.heap.size _ _ ((rd_T28 l0 0).f1) from Kd.V_mk ul185_1 ge185_1)
              clear hva_ hvn_ hvc_ ge185_1 ul185_1
              clear hcc185 hce185
              have qi185 : (0 < l0.length) = True := eq_true (by omega)
              (try rw [show ((0 : Int)).toNat = 0 from rfl] at hx185_0)
              (try rw [show 0 * 2 = 0 from rfl] at hx185_0)
              (try rw [Addr.add_zero'] at hx185_0)
              (try rw [show ((0 : Int)).toNat = 0 from rfl] at hx185_1)
              (try rw [show 0 * 2 = 0 from rfl] at hx185_1)
              (try rw [Addr.add_zero'] at hx185_1)
              have HR185_1 := Aside0.mk hi185_1
              have HC185_1 := Aside0.mk hl185_1
              clear hi185_1 hl185_1
              replace p185 := eq_true p185
              replace q185 := eq_true q185
              try go_wp2_with (first | ((with_reducible refine gate_dst (N := 6) rfl ?_); refine zX (N := 6) (cs := #[.int .i64 0, .slice none 0 0]) (t := 28) (h := ?_); intro gb186 hg w30 hbox hb; have BK186 := Aside0.mk hbox; have GW186 := Aside0.mk ((zS : w.heap.size ≤ gb186)); have GE186 := Aside0.mk ((zS : w.heap.size ≤ gb186)); replace HO_0 := Aside0.mk (Kd.V_below (Kd.V_elderB (by (with_reducible repeat (first | apply Kd.V_alloc | apply Kd.V_drewN | apply Kd.V_drew)); exact HO_0.out) gb186 (Nat.le_of_eq hg.symm)) hb); replace HL185_1 := Aside0.mk (Kd.V_below (Kd.V_elderB (by (with_reducible repeat (first | apply Kd.V_alloc | apply Kd.V_drewN | apply Kd.V_drew)); exact HL185_1.out) gb186 (Nat.le_of_eq hg.symm)) hb); replace HR185_1 := Aside0.mk (Kd.C_below (by repeat (first | (with_reducible exact HR185_1.out) | (with_reducible refine Kd.C_alloc ?_ _) | (with_reducible refine Kd.C_drewN ?_ _) | (with_reducible refine Kd.C_drew ?_) | exact HR185_1.out)) hb); replace HB := Aside0.mk (below_step zB hb); clear hb hbox hg; obtain ⟨hcz31_0, hcz31_1, hfz31_0, hfz31_1⟩ := zd2 BK186.out (.int .i64 0) (.slice none 0 0)))
              have n0_ : Aside0 (Kd.V k28 28 (((w30.setCell ⟨gb186, 0, none⟩ (.int .i64 ((rd_T28 l0 0).f0))).setCell ⟨gb186, 1, none⟩ (.slice A185_1 ((rd_T28 l0 0).f1).length c185_1)).setCell ⟨gb186, 0, none⟩ (.int .i64 (wrap64 (((rd_T28 l0 0).f0) + a1)))) w.heap.size (fun k_ => (P0_ k_ ∨ w.heap.size ≤ k_) ∧ k_ ≠ gb186) (.slice (some ad185) l0.length c0) l0) := ⟨by (with_reducible repeat (first | apply Kd.V_alloc | apply Kd.V_drewN | apply Kd.V_drew)); exact Kd.V_mono (Kd.V_far (p := ⟨gb186, 0, none⟩) (Kd.V_far (p := ⟨gb186, 1, none⟩) (Kd.V_far (p := ⟨gb186, 0, none⟩) (Kd.V_mono HO_0.out (fun k_ hk => (⟨hk, hk.2⟩ : _ ∧ k_ ≠ gb186))) (fun _ hk => hk.2) (.int .i64 ((rd_T28 l0 0).f0))) (fun _ hk => hk.2) (.slice A185_1 ((rd_T28 l0 0).f1).length c185_1)) (fun _ hk => hk.2) (.int .i64 (wrap64 (((rd_T28 l0 0).f0) + a1)))) (fun _ hk => ⟨hk.1.1, hk.1.2⟩)⟩
              have n1_ : Aside0 (Kd.V k31 31 (((w30.setCell ⟨gb186, 0, none⟩ (.int .i64 ((rd_T28 l0 0).f0))).setCell ⟨gb186, 1, none⟩ (.slice A185_1 ((rd_T28 l0 0).f1).length c185_1)).setCell ⟨gb186, 0, none⟩ (.int .i64 (wrap64 (((rd_T28 l0 0).f0) + a1)))) w.heap.size (fun k_ => (P0_ k_ ∨ w.heap.size ≤ k_) ∧ k_ ≠ gb186) (.slice A185_1 ((rd_T28 l0 0).f1).length c185_1) ((rd_T28 l0 0).f1)) := ⟨by (with_reducible repeat (first | apply Kd.V_alloc | apply Kd.V_drewN | apply Kd.V_drew)); exact Kd.V_mono (Kd.V_far (p := ⟨gb186, 0, none⟩) (Kd.V_far (p := ⟨gb186, 1, none⟩) (Kd.V_far (p := ⟨gb186, 0, none⟩) (Kd.V_mono HL185_1.out (fun k_ hk => (⟨hk, hk.2⟩ : _ ∧ k_ ≠ gb186))) (fun _ hk => hk.2) (.int .i64 ((rd_T28 l0 0).f0))) (fun _ hk => hk.2) (.slice A185_1 ((rd_T28 l0 0).f1).length c185_1)) (fun _ hk => hk.2) (.int .i64 (wrap64 (((rd_T28 l0 0).f0) + a1)))) (fun _ hk => ⟨hk.1.1, hk.1.2⟩)⟩
              have n2_ : Aside0 ((((w30.setCell ⟨gb186, 0, none⟩ (.int .i64 ((rd_T28 l0 0).f0))).setCell ⟨gb186, 1, none⟩ (.slice A185_1 ((rd_T28 l0 0).f1).length c185_1)).setCell ⟨gb186, 0, none⟩ (.int .i64 (wrap64 (((rd_T28 l0 0).f0) + a1)))).heap[gb186]? = some (.cells #[.int .i64 (wrap64 (((rd_T28 l0 0).f0) + a1)), .slice A185_1 ((rd_T28 l0 0).f1).length c185_1] 28 (0, 0))) := ⟨by (with_reducible repeat (first | refine blk_drewN ?_ _ | refine blk_drew ?_ | refine blk_alloc ?_ _)); refine blk_put (cs := #[.int .i64 ((rd_T28 l0 0).f0), .slice A185_1 ((rd_T28 l0 0).f1).length c185_1]) ?_ 0 _ rfl; (with_reducible repeat (first | refine blk_drewN ?_ _ | refine blk_drew ?_ | refine blk_alloc ?_ _)); refine blk_put (cs := #[.int .i64 ((rd_T28 l0 0).f0), .slice none 0 0]) ?_ 1 _ rfl; (with_reducible repeat (first | refine blk_drewN ?_ _ | refine blk_drew ?_ | refine blk_alloc ?_ _)); refine blk_put (cs := #[.int .i64 0, .slice none 0 0]) ?_ 0 _ rfl; (with_reducible repeat (first | refine blk_drewN ?_ _ | refine blk_drew ?_ | refine blk_alloc ?_ _)); exact BK186.out⟩
              have n3_ : Aside0 (Below w.heap.size w (((w30.setCell ⟨gb186, 0, none⟩ (.int .i64 ((rd_T28 l0 0).f0))).setCell ⟨gb186, 1, none⟩ (.slice A185_1 ((rd_T28 l0 0).f1).length c185_1)).setCell ⟨gb186, 0, none⟩ (.int .i64 (wrap64 (((rd_T28 l0 0).f0) + a1))))) := ⟨zG⟩
              (try clear HO_0)
              (try clear HL185_1)
              (try clear BK186)
              (try clear HB)
              generalize (((w30.setCell ⟨gb186, 0, none⟩ (.int .i64 ((rd_T28 l0 0).f0))).setCell ⟨gb186, 1, none⟩ (.slice A185_1 ((rd_T28 l0 0).f1).length c185_1)).setCell ⟨gb186, 0, none⟩ (.int .i64 (wrap64 (((rd_T28 l0 0).f0) + a1)))) = w32 at n0_ n1_ n2_ n3_ ⊢
              have HO_0 := n0_
              have HL185_1 := n1_
              have BK186 := n2_
              have HB := n3_
              clear n0_ n1_ n2_ n3_
              have n0_ := Aside0.mk (Kd.V_drew HO_0.out)
              have n1_ := Aside0.mk (Kd.V_drew HL185_1.out)
              have n2_ := Aside0.mk (blk_drew BK186.out)
              have n3_ := Aside0.mk (below_drew1 HB.out)
              clear HO_0
              clear HL185_1
              clear BK186
              clear HB
              have HO_0 := n0_
              have HL185_1 := n1_
              have BK186 := n2_
              have HB := n3_
              clear n0_ n1_ n2_ n3_
              have q34 : (1 : Int) ≤ ((l0.length : Int) : Int) := of_decide_eq_true zA
              obtain ⟨i034, hi034, _, hsz34, _⟩ := info_parts info28
              have hroom34 : l0.length ≤ c0 := (Kd.V_reads' HO_0.out).2.1
              have hC34 : Kd.F k28 _ _ (some ad185) l0.length l0 := (Kd.V_at (base := w.heap.size) HO_0.out).2.2
              have hcut34 := cut_from (P := Tryz.prog) 22 28 .i64 Tryz.underlying22 hi034 2 hsz34 (some ad185) l0.length c0 1 (by omega) q34
              have hr34 := Kd.F_cut (m := (1 : Int).toNat) (c := c0) hC34 (by omega) hroom34
              obtain ⟨A34, hA34⟩ : ∃ A1, A1 = (if c0 = (1 : Int).toNat then (some ad185) else ((some ad185) : Option Addr).map (·.add ((1 : Int).toNat * 2))) := ⟨_, rfl⟩
              obtain ⟨c34, hc34⟩ : ∃ c1, c1 = c0 - (1 : Int).toNat := ⟨_, rfl⟩
              have hy34 : y190.length = l0.length - (1 : Int).toNat := (by rw [Ny190.out, List.length_drop] <;> omega)
              rw [show (l0).drop (1 : Int).toNat = y190 from Ny190.out.symm] at hr34
              replace hr34 : Kd.F k28 _ _ A34 y190.length y190 := (by rw [hA34]; exact hr34)
              rw [← hy34, ← hA34, ← hc34] at hcut34
              have HO194 := Aside0.mk (show Kd.V k28 28 _ w.heap.size _ (.slice A34 y190.length c34) y190 from Kd.V_mk (by rw [hy34, hc34]; exact Nat.sub_le_sub_right hroom34 _) hr34)
              have HC194 := Aside0.mk (show y190.length ≤ c34 from by rw [hy34, hc34]; exact Nat.sub_le_sub_right hroom34 _)
              clear hr34 hC34 hroom34 hi034 hsz34 hc34
              have KY34 := Aside0.mk hy34
              have KA34 := Aside0.mk hA34
              clear hy34 hA34
              replace q34 := eq_true q34
              refine start_ (n := 6) (S := fun w' => w'.cell? ⟨gb186, 0, none⟩ = some (.int .i64 (wrap64 (((rd_T28 l0 0).f0) + a1))) ∧ w'.cell? ⟨gb186, 1, none⟩ = some (.slice A185_1 ((rd_T28 l0 0).f1).length c185_1)) (ds := []) #[false, false, false, false, false, false] (by kernel_rfl) rfl rfl ⟨(blk_cell BK186.out 0).trans rfl, (blk_cell BK186.out 1).trans rfl⟩ (fun hHeld => ?_)
              generalize w32.drew = w33 at HO_0 HL185_1 BK186 HB HO194 hHeld ⊢
              refine pure_ (i := 2) (N := some 45) (v := ?_) (a' := ?_) #[false, false, true, false, false, false] rfl rfl (by kernel_rfl) (fun _ _ _ h => h) (Or.inl ⟨by rfl, ?_⟩) ?_ ?_
              rotate_left
              ·intro w'
               go_simp
               with_reducible rfl
              rotate_left
              ·simp only [Act.put, List.setIfInBounds_toArray, List.set_cons_zero, List.set_cons_succ, i64_w, i32_w]
               rfl
              refine pure_ (i := 3) (N := some 46) (v := ?_) (a' := ?_) #[false, false, true, true, false, false] rfl rfl (by kernel_rfl) (fun _ _ _ h => h) (Or.inl ⟨by rfl, ?_⟩) ?_ ?_
              rotate_left
              ·intro w'
               go_simp
               with_reducible rfl
              rotate_left
              ·simp only [Act.put, List.setIfInBounds_toArray, List.set_cons_zero, List.set_cons_succ, i64_w, i32_w]
               rfl
              refine take_ (i := 0) (N := some 43) (v := ?_) (a' := ?_) #[true, false, true, true, false, false] rfl rfl (by kernel_rfl) (fun _ _ _ h => h) (Or.inl ⟨by rfl, ?_⟩) hHeld ?_ ?_
              rotate_left
              ·rintro w' ⟨s0, s1⟩
               go_simp
               with_reducible rfl
              rotate_left
              ·simp only [Act.put, List.setIfInBounds_toArray, List.set_cons_zero, List.set_cons_succ, i64_w, i32_w]
               rfl
              refine one_ (i := 1) (N := some 44) #[true, true, true, true, false, false] rfl rfl (by kernel_rfl) (by decide) (fun K hK => ?_)
              refine Kd.N_lit_step k28 _ 28 ?hg (N' := 44) ?hd (xs := ([(⟨wrap64 (((rd_T28 l0 0).f0) + a1), (rd_T28 l0 0).f1⟩ : S28)] : List (S28))) (inner := [.int .i64 (wrap64 (((rd_T28 l0 0).f0) + a1)), .slice A185_1 ((rd_T28 l0 0).f1).length c185_1]) (ok := (fun k_ => (P0_ k_ ∨ w.heap.size ≤ k_) ∧ k_ ≠ gb186)) (okp := (fun k_ => (P0_ k_ ∨ w.heap.size ≤ k_) ∧ k_ ≠ gb186)) ?hr ?hp (fun _ hk => hk) ((show ∀ k_, w33.heap.size ≤ k_ → (fun k_ => (P0_ k_ ∨ w.heap.size ≤ k_) ∧ k_ ≠ gb186) k_ from fun k_ hk => ⟨(.inr (Nat.le_trans (below_size zG) hk)), Kd.freshB (g := gb186) (o := .cells #[.int .i64 (wrap64 (((rd_T28 l0 0).f0) + a1)), .slice A185_1 ((rd_T28 l0 0).f1).length c185_1] 28 (0, 0)) zK k_ hk⟩) _ (Nat.le_refl _)) (Below.refl _ _) (Nat.le_refl _) (by simp) ?_; (case hd => rfl); (case hg => rfl); (case hr => first | (go_simp; done) | (go_simp; rfl)); (case hp => exact (Reps.c2 (show Kd.FK k28 _ _ (⟨wrap64 (((rd_T28 l0 0).f0) + a1), (rd_T28 l0 0).f1⟩ : S28) [.int .i64 (wrap64 (((rd_T28 l0 0).f0) + a1)), .slice A185_1 ((rd_T28 l0 0).f1).length c185_1] from (k28_mkF _ _ (⟨wrap64 (((rd_T28 l0 0).f0) + a1), (rd_T28 l0 0).f1⟩ : S28) (Kd.V_reads' (Kd.V_mono (ok' := (fun k_ => (P0_ k_ ∨ w.heap.size ≤ k_) ∧ k_ ≠ gb186)) (HL185_1.out) (fun k_ hk => ⟨hk.1, hk.2⟩))).2.1 (Kd.V_F (Kd.V_mono (ok' := (fun k_ => (P0_ k_ ∨ w.heap.size ≤ k_) ∧ k_ ≠ gb186)) (HL185_1.out) (fun k_ hk => ⟨hk.1, hk.2⟩))))) (Reps.none _ _)))
              intro v188 w35 ho36 hb hg_ hnew_
              clear hg_ hnew_
              (first | rw [← Ny187.out] at ho36 | (simp only [Int.reduceToNat] at ho36; rw [← Ny187.out] at ho36))
              have n0_ := Aside0.mk (Kd.V_elder' (by (with_reducible repeat (first | apply Kd.V_alloc | apply Kd.V_drewN | apply Kd.V_drew)); exact HO_0.out) (Kd.N_base ho36) hb)
              have n1_ := Aside0.mk (Kd.V_elder' (by (with_reducible repeat (first | apply Kd.V_alloc | apply Kd.V_drewN | apply Kd.V_drew)); exact HL185_1.out) (Kd.N_base ho36) hb)
              have n2_ := Aside0.mk (Kd.V_elder' (by (with_reducible repeat (first | apply Kd.V_alloc | apply Kd.V_drewN | apply Kd.V_drew)); exact HO194.out) (Kd.N_base ho36) hb)
              have n3_ := Aside0.mk (Kd.N_lower ho36 (below_size zG))
              have n4_ := Aside0.mk (blk_below (g := gb186) zK hb)
              have n5_ := Aside0.mk (below_step zG hb)
              clear HO_0
              clear HL185_1
              clear HO194
              clear BK186
              clear HB
              have HO_0 := n0_
              have HL185_1 := n1_
              have HO194 := n2_
              have HO189 := n3_
              have BK186 := n4_
              have HB := n5_
              clear n0_ n1_ n2_ n3_ n4_ n5_
              clear hb ho36
              refine hK.out _ _ ⟨(blk_cell BK186.out 0).trans rfl, (blk_cell BK186.out 1).trans rfl⟩ (fun hHeld => ?_)
              clear hK K
              refine norm_ (a' := ?_) ?_ ?_
              rotate_left
              ·show Act.put _ (some 44) _ = _
               simp only [Act.put, List.setIfInBounds_toArray, List.set_cons_zero, List.set_cons_succ, i64_w, i32_w]
               rfl
              refine one_ (i := 4) (N := some 47) #[true, true, true, true, true, false] rfl rfl (by kernel_rfl) (by decide) (fun K hK => ?_)
              refine Kd.N_append_rows_step k28 (w0 := w) w.heap.size (by rfl) (.tmp 44) (.tmp 46) 22 28 (.agg #[(.int .i64 0), (.slice none 0 0)]) 32 rfl Tryz.underlying22 info28 rfl (by decide) (by omega) v188 y187 y190 _ _ _ (fun k_ => (P0_ k_ ∨ w.heap.size ≤ k_) ∧ k_ ≠ gb186) (fun k_ => ((fun k_ => (P0_ k_ ∨ w.heap.size ≤ k_) ∧ k_ ≠ gb186)) k_ ∧ some k_ ≠ (v188 : Value).ownBlock) rfl rfl ?aO ?aR (fun _ hk => hk) ?aF ?aB ?aS ?aL ?_
              (case aR => exact (by skip; exact Kd.V_F (Kd.V_mono (ok' := (fun k_ => ((fun k_ => (P0_ k_ ∨ w.heap.size ≤ k_) ∧ k_ ≠ gb186)) k_ ∧ some k_ ≠ (v188 : Value).ownBlock)) (HO194.out) (fun k_ hk => ⟨⟨hk.1.1, hk.1.2⟩, hk.2⟩))))
              (case aB => exact zG)
              (case aF => exact (fun k_ hk => ⟨(.inr (Nat.le_trans (below_size zG) hk)), Kd.freshB (g := gb186) (o := .cells #[.int .i64 (wrap64 (((rd_T28 l0 0).f0) + a1)), .slice A185_1 ((rd_T28 l0 0).f1).length c185_1] 28 (0, 0)) zK k_ hk⟩))
              (case aO => exact (by (with_reducible repeat (first | apply Kd.N_alloc | apply Kd.N_drewN | apply Kd.N_drew)); exact HO189.out))
              (case aS => exact (below_size zG))
              (case aL => have := LMc18.out; omega)
              intro v196 w37 ho hb hg hat
              rw [← Ny195.out] at ho
              have n0_ := Aside0.mk (Kd.V_afterv (ok := (fun k_ => (P0_ k_ ∨ w.heap.size ≤ k_) ∧ k_ ≠ gb186)) (by (with_reducible repeat (first | apply Kd.V_alloc | apply Kd.V_drewN | apply Kd.V_drew)); exact HO_0.out) hg hat)
              have n1_ := Aside0.mk (Kd.V_afterv (ok := (fun k_ => (P0_ k_ ∨ w.heap.size ≤ k_) ∧ k_ ≠ gb186)) (by (with_reducible repeat (first | apply Kd.V_alloc | apply Kd.V_drewN | apply Kd.V_drew)); exact HL185_1.out) hg hat)
              have n2_ := Aside0.mk (blk_grown (g := gb186) (o := .cells #[.int .i64 (wrap64 (((rd_T28 l0 0).f0) + a1)), .slice A185_1 ((rd_T28 l0 0).f1).length c185_1] 28 (0, 0)) zK hg (Kd.N_away HO189.out (fun _ hk => hk.2)))
              have n3_ := Aside0.mk (Kd.V_afterv (ok := (fun k_ => (P0_ k_ ∨ w.heap.size ≤ k_) ∧ k_ ≠ gb186)) (by (with_reducible repeat (first | apply Kd.V_alloc | apply Kd.V_drewN | apply Kd.V_drew)); exact HO194.out) hg hat)
              have n4_ := Aside0.mk (hb)
              have n5_ := Aside0.mk (ho)
              clear HO_0
              clear HL185_1
              clear BK186
              clear HO194
              clear HB
              clear HO189
              have HO_0 := n0_
              have HL185_1 := n1_
              have BK186 := n2_
              have HO194 := n3_
              have HB := n4_
              have HO197 := n5_
              clear n0_ n1_ n2_ n3_ n4_ n5_
              clear ho hb hg hat
              refine hK.out _ _ ⟨(blk_cell BK186.out 0).trans rfl, (blk_cell BK186.out 1).trans rfl⟩ (fun hHeld => ?_)
              clear hK K
              refine norm_ (a' := ?_) ?_ ?_
              rotate_left
              ·show Act.put _ (some 47) _ = _
               simp only [Act.put, List.setIfInBounds_toArray, List.set_cons_zero, List.set_cons_succ, i64_w, i32_w]
               rfl
              refine pure_ (i := 5) (N := some 7) (v := ?_) (a' := ?_) #[true, true, true, true, true, true] rfl rfl (by kernel_rfl) (fun _ _ _ h => h) (Or.inl ⟨by rfl, ?_⟩) ?_ ?_
              rotate_left
              ·intro w'
               go_simp
               with_reducible rfl
              rotate_left
              ·simp only [Act.put, List.setIfInBounds_toArray, List.set_cons_zero, List.set_cons_succ, i64_w, i32_w]
               rfl
              refine done_ (by kernel_rfl) ?_
              have p198 : 0 ≤ (0 : Int) := (by omega)
              have q198 : 0 < (l0.length : Int) := of_decide_eq_true zA
              obtain ⟨ad198, A198_1, c198_1, e198, hx198_0, hx198_1, hl198_1, hi198_1⟩ := at_T28 (Kd.V_reads' HO_0.out).2.2 0 p198 q198
              obtain rfl : ad185 = ad198 := (by injection e198)
              obtain ⟨ce198, hce198, hMe198, hcc198⟩ := Kd.V_get HO_0.out z28 0 p198 (by first | exact q198 | exact of_decide_eq_true zA | (have e_ := (Kd.V_reads' HO_0.out).1; omega))
              obtain ⟨ua198_1, uc198_1, rfl, ul198_1, ge198_1⟩ := k28_openF hMe198
              have hv198_1 := hcc198 1 _ rfl
              rw [add_field _ _ 1 (by omega)] at hv198_1
              replace hv198_1 := Option.some.inj (hv198_1.symm.trans hx198_1)
              injection hv198_1 with hva_ hvn_ hvc_
              rw [hva_] at ge198_1
              rw [hvc_] at ul198_1
              have HL198_1 := Aside0.mk (show Kd.V k31 31 _ w.heap.size _ _ ((rd_T28 l0 0).f1) from Kd.V_mk ul198_1 ge198_1)
              clear hva_ hvn_ hvc_ ge198_1 ul198_1
              clear hcc198 hce198
              have qi198 : (0 < l0.length) = True := eq_true (by omega)
              (try rw [show ((0 : Int)).toNat = 0 from rfl] at hx198_0)
              (try rw [show 0 * 2 = 0 from rfl] at hx198_0)
              (try rw [Addr.add_zero'] at hx198_0)
              (try rw [show ((0 : Int)).toNat = 0 from rfl] at hx198_1)
              (try rw [show 0 * 2 = 0 from rfl] at hx198_1)
              (try rw [Addr.add_zero'] at hx198_1)
              have HR198_1 := Aside0.mk hi198_1
              have HC198_1 := Aside0.mk hl198_1
              clear hi198_1 hl198_1
              replace p198 := eq_true p198
              replace q198 := eq_true q198
              try go_wp2_with (first | ((with_reducible refine gate_dst (N := 8) rfl ?_); refine zX (N := 8) (cs := #[.int .i64 0, .slice none 0 0]) (t := 28) (h := ?_); intro gb199 hg w38 hbox hb; have BK199 := Aside0.mk hbox; have GW199 := Aside0.mk ((zT : w.heap.size ≤ gb199)); have GE199 := Aside0.mk ((zT : w.heap.size ≤ gb199)); have NB186_199 := Aside0.mk ((zL : gb186 ≠ gb199)); have NB199_186 := Aside0.mk ((zM : gb199 ≠ gb186)); replace HO_0 := Aside0.mk (Kd.V_below (Kd.V_elderB (by (with_reducible repeat (first | apply Kd.V_alloc | apply Kd.V_drewN | apply Kd.V_drew)); exact HO_0.out) gb199 (Nat.le_of_eq hg.symm)) hb); replace HL185_1 := Aside0.mk (Kd.V_below (Kd.V_elderB (by (with_reducible repeat (first | apply Kd.V_alloc | apply Kd.V_drewN | apply Kd.V_drew)); exact HL185_1.out) gb199 (Nat.le_of_eq hg.symm)) hb); replace HO194 := Aside0.mk (Kd.V_below (Kd.V_elderB (by (with_reducible repeat (first | apply Kd.V_alloc | apply Kd.V_drewN | apply Kd.V_drew)); exact HO194.out) gb199 (Nat.le_of_eq hg.symm)) hb); replace HO197 := Aside0.mk (Kd.N_below (Kd.N_elderB (by (with_reducible repeat (first | apply Kd.N_alloc | apply Kd.N_drewN | apply Kd.N_drew)); exact HO197.out) gb199 (Nat.le_of_eq hg.symm)) hb); replace HL198_1 := Aside0.mk (Kd.V_below (Kd.V_elderB (by (with_reducible repeat (first | apply Kd.V_alloc | apply Kd.V_drewN | apply Kd.V_drew)); exact HL198_1.out) gb199 (Nat.le_of_eq hg.symm)) hb); replace BK186 := Aside0.mk (blk_below (g := gb186) zK hb); replace HR198_1 := Aside0.mk (Kd.C_below (by repeat (first | (with_reducible exact HR198_1.out) | (with_reducible refine Kd.C_alloc ?_ _) | (with_reducible refine Kd.C_drewN ?_ _) | (with_reducible refine Kd.C_drew ?_) | exact HR198_1.out)) hb); replace HB := Aside0.mk (below_step zG hb); clear hb hbox hg; have hnb39 := NB199_186.out; have hnc39 := NB186_199.out; obtain ⟨hcz40_0, hcz40_1, hfz40_0, hfz40_1⟩ := zd2 BK199.out (.int .i64 0) (.slice none 0 0)))
              have n0_ : Aside0 (Kd.V k28 28 ((w38.setCell ⟨gb199, 0, none⟩ (.int .i64 ((rd_T28 l0 0).f0))).setCell ⟨gb199, 1, none⟩ (.slice A198_1 ((rd_T28 l0 0).f1).length c198_1)) w.heap.size (fun k_ => (P0_ k_ ∨ w.heap.size ≤ k_) ∧ some k_ ≠ (v196 : Value).ownBlock ∧ k_ ≠ gb186 ∧ k_ ≠ gb199) (.slice (some ad185) l0.length c0) l0) := ⟨by (with_reducible repeat (first | apply Kd.V_alloc | apply Kd.V_drewN | apply Kd.V_drew)); exact Kd.V_mono (Kd.V_far (p := ⟨gb199, 1, none⟩) (Kd.V_far (p := ⟨gb199, 0, none⟩) (Kd.V_mono HO_0.out (fun k_ hk => (⟨hk, hk.2⟩ : _ ∧ k_ ≠ gb199))) (fun _ hk => hk.2) (.int .i64 ((rd_T28 l0 0).f0))) (fun _ hk => hk.2) (.slice A198_1 ((rd_T28 l0 0).f1).length c198_1)) (fun _ hk => ⟨hk.1.1.1.1, ⟨hk.1.1.2, ⟨hk.1.1.1.2, hk.1.2⟩⟩⟩)⟩
              have n1_ : Aside0 (Kd.V k31 31 ((w38.setCell ⟨gb199, 0, none⟩ (.int .i64 ((rd_T28 l0 0).f0))).setCell ⟨gb199, 1, none⟩ (.slice A198_1 ((rd_T28 l0 0).f1).length c198_1)) w.heap.size (fun k_ => (P0_ k_ ∨ w.heap.size ≤ k_) ∧ some k_ ≠ (v196 : Value).ownBlock ∧ k_ ≠ gb186 ∧ k_ ≠ gb199) (.slice A185_1 ((rd_T28 l0 0).f1).length c185_1) ((rd_T28 l0 0).f1)) := ⟨by (with_reducible repeat (first | apply Kd.V_alloc | apply Kd.V_drewN | apply Kd.V_drew)); exact Kd.V_mono (Kd.V_far (p := ⟨gb199, 1, none⟩) (Kd.V_far (p := ⟨gb199, 0, none⟩) (Kd.V_mono HL185_1.out (fun k_ hk => (⟨hk, hk.2⟩ : _ ∧ k_ ≠ gb199))) (fun _ hk => hk.2) (.int .i64 ((rd_T28 l0 0).f0))) (fun _ hk => hk.2) (.slice A198_1 ((rd_T28 l0 0).f1).length c198_1)) (fun _ hk => ⟨hk.1.1.1.1, ⟨hk.1.1.2, ⟨hk.1.1.1.2, hk.1.2⟩⟩⟩)⟩
              have n2_ : Aside0 (Kd.V k28 28 ((w38.setCell ⟨gb199, 0, none⟩ (.int .i64 ((rd_T28 l0 0).f0))).setCell ⟨gb199, 1, none⟩ (.slice A198_1 ((rd_T28 l0 0).f1).length c198_1)) w.heap.size (fun k_ => (P0_ k_ ∨ w.heap.size ≤ k_) ∧ some k_ ≠ (v196 : Value).ownBlock ∧ k_ ≠ gb186 ∧ k_ ≠ gb199) (.slice A34 y190.length c34) y190) := ⟨by (with_reducible repeat (first | apply Kd.V_alloc | apply Kd.V_drewN | apply Kd.V_drew)); exact Kd.V_mono (Kd.V_far (p := ⟨gb199, 1, none⟩) (Kd.V_far (p := ⟨gb199, 0, none⟩) (Kd.V_mono HO194.out (fun k_ hk => (⟨hk, hk.2⟩ : _ ∧ k_ ≠ gb199))) (fun _ hk => hk.2) (.int .i64 ((rd_T28 l0 0).f0))) (fun _ hk => hk.2) (.slice A198_1 ((rd_T28 l0 0).f1).length c198_1)) (fun _ hk => ⟨hk.1.1.1.1, ⟨hk.1.1.2, ⟨hk.1.1.1.2, hk.1.2⟩⟩⟩)⟩
              have n3_ : Aside0 (Kd.N k28 28 ((w38.setCell ⟨gb199, 0, none⟩ (.int .i64 ((rd_T28 l0 0).f0))).setCell ⟨gb199, 1, none⟩ (.slice A198_1 ((rd_T28 l0 0).f1).length c198_1)) w.heap.size (fun k_ => (P0_ k_ ∨ w.heap.size ≤ k_) ∧ k_ ≠ gb186 ∧ k_ ≠ gb199) v196 y195) := ⟨by (with_reducible repeat (first | apply Kd.N_alloc | apply Kd.N_drewN | apply Kd.N_drew)); exact Kd.N_mono (Kd.N_far (p := ⟨gb199, 1, none⟩) (Kd.N_far (p := ⟨gb199, 0, none⟩) (Kd.N_mono HO197.out (fun k_ hk => (⟨hk, hk.2⟩ : _ ∧ k_ ≠ gb199))) (fun _ hk => hk.2) (.int .i64 ((rd_T28 l0 0).f0))) (fun _ hk => hk.2) (.slice A198_1 ((rd_T28 l0 0).f1).length c198_1)) (fun _ hk => ⟨hk.1.1.1, ⟨hk.1.1.2, hk.1.2⟩⟩)⟩
              have n4_ : Aside0 (Kd.V k31 31 ((w38.setCell ⟨gb199, 0, none⟩ (.int .i64 ((rd_T28 l0 0).f0))).setCell ⟨gb199, 1, none⟩ (.slice A198_1 ((rd_T28 l0 0).f1).length c198_1)) w.heap.size (fun k_ => (P0_ k_ ∨ w.heap.size ≤ k_) ∧ some k_ ≠ (v196 : Value).ownBlock ∧ k_ ≠ gb186 ∧ k_ ≠ gb199) (.slice A198_1 ((rd_T28 l0 0).f1).length c198_1) ((rd_T28 l0 0).f1)) := ⟨by (with_reducible repeat (first | apply Kd.V_alloc | apply Kd.V_drewN | apply Kd.V_drew)); exact Kd.V_mono (Kd.V_far (p := ⟨gb199, 1, none⟩) (Kd.V_far (p := ⟨gb199, 0, none⟩) (Kd.V_mono HL198_1.out (fun k_ hk => (⟨hk, hk.2⟩ : _ ∧ k_ ≠ gb199))) (fun _ hk => hk.2) (.int .i64 ((rd_T28 l0 0).f0))) (fun _ hk => hk.2) (.slice A198_1 ((rd_T28 l0 0).f1).length c198_1)) (fun _ hk => ⟨hk.1.1.1.1, ⟨hk.1.1.2, ⟨hk.1.1.1.2, hk.1.2⟩⟩⟩)⟩
              have n5_ : Aside0 (((w38.setCell ⟨gb199, 0, none⟩ (.int .i64 ((rd_T28 l0 0).f0))).setCell ⟨gb199, 1, none⟩ (.slice A198_1 ((rd_T28 l0 0).f1).length c198_1)).heap[gb186]? = some (.cells #[.int .i64 (wrap64 (((rd_T28 l0 0).f0) + a1)), .slice A185_1 ((rd_T28 l0 0).f1).length c185_1] 28 (0, 0))) := ⟨by (with_reducible repeat (first | refine blk_drewN ?_ _ | refine blk_drew ?_ | refine blk_alloc ?_ _)); refine blk_far ?_ NB186_199.out _; (with_reducible repeat (first | refine blk_drewN ?_ _ | refine blk_drew ?_ | refine blk_alloc ?_ _)); refine blk_far ?_ NB186_199.out _; (with_reducible repeat (first | refine blk_drewN ?_ _ | refine blk_drew ?_ | refine blk_alloc ?_ _)); exact BK186.out⟩
              have n6_ : Aside0 (((w38.setCell ⟨gb199, 0, none⟩ (.int .i64 ((rd_T28 l0 0).f0))).setCell ⟨gb199, 1, none⟩ (.slice A198_1 ((rd_T28 l0 0).f1).length c198_1)).heap[gb199]? = some (.cells #[.int .i64 ((rd_T28 l0 0).f0), .slice A198_1 ((rd_T28 l0 0).f1).length c198_1] 28 (0, 0))) := ⟨by (with_reducible repeat (first | refine blk_drewN ?_ _ | refine blk_drew ?_ | refine blk_alloc ?_ _)); refine blk_put (cs := #[.int .i64 ((rd_T28 l0 0).f0), .slice none 0 0]) ?_ 1 _ rfl; (with_reducible repeat (first | refine blk_drewN ?_ _ | refine blk_drew ?_ | refine blk_alloc ?_ _)); refine blk_put (cs := #[.int .i64 0, .slice none 0 0]) ?_ 0 _ rfl; (with_reducible repeat (first | refine blk_drewN ?_ _ | refine blk_drew ?_ | refine blk_alloc ?_ _)); exact BK199.out⟩
              have n7_ : Aside0 (Below w.heap.size w ((w38.setCell ⟨gb199, 0, none⟩ (.int .i64 ((rd_T28 l0 0).f0))).setCell ⟨gb199, 1, none⟩ (.slice A198_1 ((rd_T28 l0 0).f1).length c198_1))) := ⟨zG⟩
              (try clear HO_0)
              (try clear HL185_1)
              (try clear HO194)
              (try clear HO197)
              (try clear HL198_1)
              (try clear BK186)
              (try clear BK199)
              (try clear HB)
              generalize ((w38.setCell ⟨gb199, 0, none⟩ (.int .i64 ((rd_T28 l0 0).f0))).setCell ⟨gb199, 1, none⟩ (.slice A198_1 ((rd_T28 l0 0).f1).length c198_1)) = w41 at n0_ n1_ n2_ n3_ n4_ n5_ n6_ n7_ ⊢
              have HO_0 := n0_
              have HL185_1 := n1_
              have HO194 := n2_
              have HO197 := n3_
              have HL198_1 := n4_
              have BK186 := n5_
              have BK199 := n6_
              have HB := n7_
              clear n0_ n1_ n2_ n3_ n4_ n5_ n6_ n7_
              have n0_ := Aside0.mk (Kd.V_drew HO_0.out)
              have n1_ := Aside0.mk (Kd.V_drew HL185_1.out)
              have n2_ := Aside0.mk (Kd.V_drew HO194.out)
              have n3_ := Aside0.mk (Kd.N_drew HO197.out)
              have n4_ := Aside0.mk (Kd.V_drew HL198_1.out)
              have n5_ := Aside0.mk (blk_drew BK186.out)
              have n6_ := Aside0.mk (blk_drew BK199.out)
              have n7_ := Aside0.mk (below_drew1 HB.out)
              clear HO_0
              clear HL185_1
              clear HO194
              clear HO197
              clear HL198_1
              clear BK186
              clear BK199
              clear HB
              have HO_0 := n0_
              have HL185_1 := n1_
              have HO194 := n2_
              have HO197 := n3_
              have HL198_1 := n4_
              have BK186 := n5_
              have BK199 := n6_
              have HB := n7_
              clear n0_ n1_ n2_ n3_ n4_ n5_ n6_ n7_
              refine start_ (n := 13) (S := fun w' => w'.cell? ⟨gb199, 0, none⟩ = some (.int .i64 ((rd_T28 l0 0).f0)) ∧ w'.cell? ⟨gb199, 1, none⟩ = some (.slice A198_1 ((rd_T28 l0 0).f1).length c198_1)) (ds := [12]) #[false, false, false, false, false, false, false, false, false, false, false, false, false] (by kernel_rfl) rfl rfl ⟨(blk_cell BK199.out 0).trans rfl, (blk_cell BK199.out 1).trans rfl⟩ (fun hHeld => ?_); refine with_tabW gumshoelaw09_CodeMore.tab8 gumshoelaw09_CodeMore.bits8 (fun HT_ HW_ => ?_)
              generalize w41.drew = w42 at HO_0 HL185_1 HO194 HO197 HL198_1 BK186 BK199 HB hHeld ⊢
              refine pure_ (i := 0) (N := some 51) (v := ?_) (a' := ?_) #[true, false, false, false, false, false, false, false, false, false, false, false, false] rfl rfl (any_of HT_.out (by kernel_rfl)) (fun _ _ _ h => h) (Or.inl ⟨by rfl, ?_⟩) ?_ ?_
              rotate_left
              ·intro w'
               go_simp
               with_reducible rfl
              rotate_left
              ·simp only [Act.put, List.setIfInBounds_toArray, List.set_cons_zero, List.set_cons_succ, i64_w, i32_w]
               rfl
              refine pure_ (i := 5) (N := some 56) (v := ?_) (a' := ?_) #[true, false, false, false, false, true, false, false, false, false, false, false, false] rfl rfl (any_of HT_.out (by kernel_rfl)) (fun _ _ _ h => h) (Or.inl ⟨by rfl, ?_⟩) ?_ ?_
              rotate_left
              ·intro w'
               go_simp
               with_reducible rfl
              rotate_left
              ·simp only [Act.put, List.setIfInBounds_toArray, List.set_cons_zero, List.set_cons_succ, i64_w, i32_w]
               rfl
              refine pure_ (i := 8) (N := some 59) (v := ?_) (a' := ?_) #[true, false, false, false, false, true, false, false, true, false, false, false, false] rfl rfl (any_of HT_.out (by kernel_rfl)) (fun _ _ _ h => h) (Or.inl ⟨by rfl, ?_⟩) ?_ ?_
              rotate_left
              ·intro w'
               go_simp
               with_reducible rfl
              rotate_left
              ·simp only [Act.put, List.setIfInBounds_toArray, List.set_cons_zero, List.set_cons_succ, i64_w, i32_w]
               rfl
              refine take_ (i := 1) (N := some 52) (v := ?_) (a' := ?_) #[true, true, false, false, false, true, false, false, true, false, false, false, false] rfl rfl (take_ofW HT_.out HW_.out (by kernel_rfl)) (fun _ _ _ h => h) (Or.inl ⟨by rfl, ?_⟩) hHeld ?_ ?_
              rotate_left
              ·rintro w' ⟨s0, s1⟩
               go_simp
               with_reducible rfl
              rotate_left
              ·simp only [Act.put, List.setIfInBounds_toArray, List.set_cons_zero, List.set_cons_succ, i64_w, i32_w]
               rfl
              refine pure_ (i := 2) (N := some 53) (v := ?_) (a' := ?_) #[true, true, true, false, false, true, false, false, true, false, false, false, false] rfl rfl (any_of HT_.out (by kernel_rfl)) (fun _ _ _ h => h) (Or.inl ⟨by rfl, ?_⟩) ?_ ?_
              rotate_left
              ·intro w'
               go_simp
               with_reducible rfl
              rotate_left
              ·simp only [Act.put, List.setIfInBounds_toArray, List.set_cons_zero, List.set_cons_succ, i64_w, i32_w]
               rfl
              refine pure_ (i := 3) (N := some 54) (v := ?_) (a' := ?_) #[true, true, true, true, false, true, false, false, true, false, false, false, false] rfl rfl (any_of HT_.out (by kernel_rfl)) (fun _ _ _ h => h) (Or.inl ⟨by rfl, ?_⟩) ?_ ?_
              rotate_left
              ·intro w'
               go_simp
               with_reducible rfl
              rotate_left
              ·simp only [Act.put, List.setIfInBounds_toArray, List.set_cons_zero, List.set_cons_succ, i64_w, i32_w]
               rfl
              refine take_ (i := 6) (N := some 57) (v := ?_) (a' := ?_) #[true, true, true, true, false, true, true, false, true, false, false, false, false] rfl rfl (take_ofW HT_.out HW_.out (by kernel_rfl)) (fun _ _ _ h => h) (Or.inl ⟨by rfl, ?_⟩) hHeld ?_ ?_
              rotate_left
              ·rintro w' ⟨s0, s1⟩
               go_simp
               with_reducible rfl
              rotate_left
              ·simp only [Act.put, List.setIfInBounds_toArray, List.set_cons_zero, List.set_cons_succ, i64_w, i32_w]
               rfl
              refine join_ (σ := Value × Value × Value) 3 #[true, true, true, true, true, true, true, true, true, true, false, false, false] (fun s_ => [(55, s_.1), (58, s_.2.1), (60, s_.2.2)]) (fun s_ w' => (w'.cell? ⟨gb199, 0, none⟩ = some (.int .i64 ((rd_T28 l0 0).f0)) ∧ w'.cell? ⟨gb199, 1, none⟩ = some (.slice A198_1 ((rd_T28 l0 0).f1).length c198_1)) ∧ (Kd.V k31 31 w' w.heap.size (fun k_ => (P0_ k_ ∨ w.heap.size ≤ k_) ∧ some k_ ≠ (v196 : Value).ownBlock ∧ some k_ ≠ (s_.2.1 : Value).ownBlock ∧ some k_ ≠ (s_.2.2 : Value).ownBlock ∧ k_ ≠ gb186 ∧ k_ ≠ gb199) (.slice A185_1 ((rd_T28 l0 0).f1).length c185_1) ((rd_T28 l0 0).f1)) ∧ (Kd.V k31 31 w' w.heap.size (fun k_ => (P0_ k_ ∨ w.heap.size ≤ k_) ∧ some k_ ≠ (v196 : Value).ownBlock ∧ some k_ ≠ (s_.2.1 : Value).ownBlock ∧ some k_ ≠ (s_.2.2 : Value).ownBlock ∧ k_ ≠ gb186 ∧ k_ ≠ gb199) (.slice A198_1 ((rd_T28 l0 0).f1).length c198_1) ((rd_T28 l0 0).f1)) ∧ (Kd.V k28 28 w' w.heap.size (fun k_ => (P0_ k_ ∨ w.heap.size ≤ k_) ∧ some k_ ≠ (v196 : Value).ownBlock ∧ some k_ ≠ (s_.2.1 : Value).ownBlock ∧ some k_ ≠ (s_.2.2 : Value).ownBlock ∧ k_ ≠ gb186 ∧ k_ ≠ gb199) (.slice A34 y190.length c34) y190) ∧ (Kd.N k28 28 w' w.heap.size (fun k_ => (P0_ k_ ∨ w.heap.size ≤ k_) ∧ some k_ ≠ (s_.2.1 : Value).ownBlock ∧ some k_ ≠ (s_.2.2 : Value).ownBlock ∧ k_ ≠ gb186 ∧ k_ ≠ gb199) v196 y195) ∧ (Kd.N k31 31 w' w.heap.size (fun k_ => (P0_ k_ ∨ w.heap.size ≤ k_) ∧ some k_ ≠ (v196 : Value).ownBlock ∧ some k_ ≠ (s_.2.2 : Value).ownBlock ∧ k_ ≠ gb186 ∧ k_ ≠ gb199) s_.2.1 y203) ∧ (Kd.N k31 31 w' w.heap.size (fun k_ => (P0_ k_ ∨ w.heap.size ≤ k_) ∧ some k_ ≠ (v196 : Value).ownBlock ∧ some k_ ≠ (s_.2.1 : Value).ownBlock ∧ k_ ≠ gb186 ∧ k_ ≠ gb199) s_.2.2 y206) ∧ (Kd.V k28 28 w' w.heap.size (fun k_ => (P0_ k_ ∨ w.heap.size ≤ k_) ∧ some k_ ≠ (v196 : Value).ownBlock ∧ some k_ ≠ (s_.2.1 : Value).ownBlock ∧ some k_ ≠ (s_.2.2 : Value).ownBlock ∧ k_ ≠ gb186 ∧ k_ ≠ gb199) (.slice (some ad185) l0.length c0) l0) ∧ (w'.heap[gb186]? = some (.cells #[.int .i64 (wrap64 (((rd_T28 l0 0).f0) + a1)), .slice A185_1 ((rd_T28 l0 0).f1).length c185_1] 28 (0, 0))) ∧ (w'.heap[gb199]? = some (.cells #[.int .i64 ((rd_T28 l0 0).f0), .slice A198_1 ((rd_T28 l0 0).f1).length c198_1] 28 (0, 0))) ∧ (Below w.heap.size w w')) ?_ ?_
              rotate_left
              ·intro hCont
               refine two_ (i := 4) (j := 9) (Ni := some 55) (Nj := some 60) #[true, true, true, true, true, true, true, false, true, false, false, false, false] #[true, true, true, true, false, true, true, false, true, true, false, false, false] rfl rfl rfl rfl (two_of HT_.out (by kernel_rfl)) (by decide) (by decide) (fun K hK => ?_) (fun K hK => ?_)
               ·skip
                refine Kd.N_make0_step k31 _ 31 (by rfl) (N' := 55) rfl 26 _ _ rfl ji19 rfl rfl Tryz.underlying26 (.agg #[(.int .i64 0), (.int .i64 0), (.int .i64 0), (.int .i64 0), (.int .i64 0), (.string ⟨#[]⟩), (.int .i64 0), (.slice none 0 0)]) 88 info31 rfl (by decide) (by omega) z31 (ok := fun k_ => w42.heap.size ≤ k_) (okp := fun _ => False) (k31_mkF _ _ z31 (Nat.le_refl _) (Kd.F_nil _ _ _)) (fun _ hk => hk.elim) (Nat.le_refl _) (of_decide_eq_true zA) (Nat.le_trans (Nat.mul_le_mul_right _ (of_decide_eq_true zA : ji19.toNat ≤ 3198579280802)) (by omega)) (Below.refl _ _) (Nat.le_refl _) ?_
                intro v201 w43 ho44 hb hg_ hnew_
                clear hg_ hnew_
                (first | rw [← Ny200.out] at ho44 | (simp only [Int.reduceToNat] at ho44; rw [← Ny200.out] at ho44))
                have n0_ := Aside0.mk (Kd.V_elder' (by (with_reducible repeat (first | apply Kd.V_alloc | apply Kd.V_drewN | apply Kd.V_drew)); exact HO_0.out) (Kd.N_base ho44) hb)
                have n1_ := Aside0.mk (Kd.V_elder' (by (with_reducible repeat (first | apply Kd.V_alloc | apply Kd.V_drewN | apply Kd.V_drew)); exact HL185_1.out) (Kd.N_base ho44) hb)
                have n2_ := Aside0.mk (Kd.V_elder' (by (with_reducible repeat (first | apply Kd.V_alloc | apply Kd.V_drewN | apply Kd.V_drew)); exact HO194.out) (Kd.N_base ho44) hb)
                have n3_ := Aside0.mk (Kd.N_elder' (by (with_reducible repeat (first | apply Kd.N_alloc | apply Kd.N_drewN | apply Kd.N_drew)); exact HO197.out) (Kd.N_base ho44) hb)
                have n4_ := Aside0.mk (Kd.V_elder' (by (with_reducible repeat (first | apply Kd.V_alloc | apply Kd.V_drewN | apply Kd.V_drew)); exact HL198_1.out) (Kd.N_base ho44) hb)
                have n5_ := Aside0.mk (Kd.N_lower (Kd.N_mono (ok' := fun k_ => (P0_ k_ ∨ w.heap.size ≤ k_) ∧ some k_ ≠ (v196 : Value).ownBlock ∧ k_ ≠ gb186 ∧ k_ ≠ gb199) ho44 (fun k_ hk_ => ⟨(.inr (Nat.le_trans (below_size zG) hk_)), (Kd.fresh' (Kd.N_lt (by (with_reducible repeat (first | apply Kd.N_alloc | apply Kd.N_drewN | apply Kd.N_drew)); exact HO197.out)) k_ hk_), (Kd.freshB (g := gb186) (o := .cells #[.int .i64 (wrap64 (((rd_T28 l0 0).f0) + a1)), .slice A185_1 ((rd_T28 l0 0).f1).length c185_1] 28 (0, 0)) zK k_ hk_), (Kd.freshB (g := gb199) (o := .cells #[.int .i64 ((rd_T28 l0 0).f0), .slice A198_1 ((rd_T28 l0 0).f1).length c198_1] 28 (0, 0)) zK k_ hk_)⟩)) (below_size zG))
                have n6_ := Aside0.mk (blk_below (g := gb186) zK hb)
                have n7_ := Aside0.mk (blk_below (g := gb199) zK hb)
                have n8_ := Aside0.mk (below_step zG hb)
                clear HO_0
                clear HL185_1
                clear HO194
                clear HO197
                clear HL198_1
                clear BK186
                clear BK199
                clear HB
                have HO_0 := n0_
                have HL185_1 := n1_
                have HO194 := n2_
                have HO197 := n3_
                have HL198_1 := n4_
                have HO202 := n5_
                have BK186 := n6_
                have BK199 := n7_
                have HB := n8_
                clear n0_ n1_ n2_ n3_ n4_ n5_ n6_ n7_ n8_
                clear hb ho44
                refine hK.out _ _ ⟨(blk_cell BK199.out 0).trans rfl, (blk_cell BK199.out 1).trans rfl⟩ (fun hHeld => ?_)
                clear hK K
                refine norm_ (a' := ?_) ?_ ?_
                rotate_left
                ·show Act.put _ (some 55) _ = _
                 simp only [Act.put, List.setIfInBounds_toArray, List.set_cons_zero, List.set_cons_succ, i64_w, i32_w]
                 rfl
                refine two_ (i := 7) (j := 9) (Ni := some 58) (Nj := some 60) #[true, true, true, true, true, true, true, true, true, false, false, false, false] #[true, true, true, true, true, true, true, false, true, true, false, false, false] rfl rfl rfl rfl (two_of HT_.out (by kernel_rfl)) (by decide) (by decide) (fun K hK => ?_) (fun K hK => ?_)
                ·skip
                 refine Kd.N_append_rows_step k31 (w0 := w) w.heap.size (by rfl) (.tmp 55) (.tmp 57) 26 31 (.agg #[(.int .i64 0), (.int .i64 0), (.int .i64 0), (.int .i64 0), (.int .i64 0), (.string ⟨#[]⟩), (.int .i64 0), (.slice none 0 0)]) 88 rfl Tryz.underlying26 info31 rfl (by decide) (by omega) v201 y200 ((rd_T28 l0 0).f1) _ _ _ (fun k_ => (P0_ k_ ∨ w.heap.size ≤ k_) ∧ some k_ ≠ (v196 : Value).ownBlock ∧ k_ ≠ gb186 ∧ k_ ≠ gb199) (fun k_ => ((fun k_ => (P0_ k_ ∨ w.heap.size ≤ k_) ∧ some k_ ≠ (v196 : Value).ownBlock ∧ k_ ≠ gb186 ∧ k_ ≠ gb199)) k_ ∧ some k_ ≠ (v201 : Value).ownBlock) rfl rfl ?aO ?aR (fun _ hk => hk) ?aF ?aB ?aS ?aL ?_
                 (case aR => exact (by skip; exact Kd.V_F (Kd.V_mono (ok' := (fun k_ => ((fun k_ => (P0_ k_ ∨ w.heap.size ≤ k_) ∧ some k_ ≠ (v196 : Value).ownBlock ∧ k_ ≠ gb186 ∧ k_ ≠ gb199)) k_ ∧ some k_ ≠ (v201 : Value).ownBlock)) (HL198_1.out) (fun k_ hk => ⟨⟨hk.1.1, ⟨hk.1.2.1, ⟨hk.1.2.2.1, hk.1.2.2.2⟩⟩⟩, hk.2⟩))))
                 (case aB => exact zG)
                 (case aF => exact (fun k_ hk => ⟨(.inr (Nat.le_trans (below_size zG) hk)), Kd.fresh' (Kd.N_lt (by (with_reducible repeat (first | apply Kd.N_alloc | apply Kd.N_drewN | apply Kd.N_drew)); exact HO197.out)) k_ hk, Kd.freshB (g := gb186) (o := .cells #[.int .i64 (wrap64 (((rd_T28 l0 0).f0) + a1)), .slice A185_1 ((rd_T28 l0 0).f1).length c185_1] 28 (0, 0)) zK k_ hk, Kd.freshB (g := gb199) (o := .cells #[.int .i64 ((rd_T28 l0 0).f0), .slice A198_1 ((rd_T28 l0 0).f1).length c198_1] 28 (0, 0)) zK k_ hk⟩))
                 (case aO => exact (by (with_reducible repeat (first | apply Kd.N_alloc | apply Kd.N_drewN | apply Kd.N_drew)); exact HO202.out))
                 (case aS => exact (below_size zG))
                 (case aL => have := LMc22.out; omega)
                 intro v204 w45 ho hb hg hat
                 rw [← Ny203.out] at ho
                 have n0_ := Aside0.mk (Kd.V_afterv (ok := (fun k_ => (P0_ k_ ∨ w.heap.size ≤ k_) ∧ some k_ ≠ (v196 : Value).ownBlock ∧ k_ ≠ gb186 ∧ k_ ≠ gb199)) (by (with_reducible repeat (first | apply Kd.V_alloc | apply Kd.V_drewN | apply Kd.V_drew)); exact HO_0.out) hg hat)
                 have n1_ := Aside0.mk (Kd.V_afterv (ok := (fun k_ => (P0_ k_ ∨ w.heap.size ≤ k_) ∧ some k_ ≠ (v196 : Value).ownBlock ∧ k_ ≠ gb186 ∧ k_ ≠ gb199)) (by (with_reducible repeat (first | apply Kd.V_alloc | apply Kd.V_drewN | apply Kd.V_drew)); exact HL185_1.out) hg hat)
                 have n2_ := Aside0.mk (blk_grown (g := gb186) (o := .cells #[.int .i64 (wrap64 (((rd_T28 l0 0).f0) + a1)), .slice A185_1 ((rd_T28 l0 0).f1).length c185_1] 28 (0, 0)) zK hg (Kd.N_ne HO202.out BK186.out (by decide)))
                 have n3_ := Aside0.mk (Kd.V_afterv (ok := (fun k_ => (P0_ k_ ∨ w.heap.size ≤ k_) ∧ some k_ ≠ (v196 : Value).ownBlock ∧ k_ ≠ gb186 ∧ k_ ≠ gb199)) (by (with_reducible repeat (first | apply Kd.V_alloc | apply Kd.V_drewN | apply Kd.V_drew)); exact HO194.out) hg hat)
                 have n4_ := Aside0.mk (Kd.N_afterv (ok := (fun k_ => (P0_ k_ ∨ w.heap.size ≤ k_) ∧ k_ ≠ gb186 ∧ k_ ≠ gb199)) (by (with_reducible repeat (first | apply Kd.N_alloc | apply Kd.N_drewN | apply Kd.N_drew)); exact HO197.out) hg hat)
                 have n5_ := Aside0.mk (Kd.V_afterv (ok := (fun k_ => (P0_ k_ ∨ w.heap.size ≤ k_) ∧ some k_ ≠ (v196 : Value).ownBlock ∧ k_ ≠ gb186 ∧ k_ ≠ gb199)) (by (with_reducible repeat (first | apply Kd.V_alloc | apply Kd.V_drewN | apply Kd.V_drew)); exact HL198_1.out) hg hat)
                 have n6_ := Aside0.mk (blk_grown (g := gb199) (o := .cells #[.int .i64 ((rd_T28 l0 0).f0), .slice A198_1 ((rd_T28 l0 0).f1).length c198_1] 28 (0, 0)) zK hg (Kd.N_ne HO202.out BK199.out (by decide)))
                 have n7_ := Aside0.mk (hb)
                 have n8_ := Aside0.mk (ho)
                 clear HO_0
                 clear HL185_1
                 clear BK186
                 clear HO194
                 clear HO197
                 clear HL198_1
                 clear BK199
                 clear HB
                 clear HO202
                 have HO_0 := n0_
                 have HL185_1 := n1_
                 have BK186 := n2_
                 have HO194 := n3_
                 have HO197 := n4_
                 have HL198_1 := n5_
                 have BK199 := n6_
                 have HB := n7_
                 have HO205 := n8_
                 clear n0_ n1_ n2_ n3_ n4_ n5_ n6_ n7_ n8_
                 clear ho hb hg hat
                 refine hK.out _ _ ⟨(blk_cell BK199.out 0).trans rfl, (blk_cell BK199.out 1).trans rfl⟩ (fun hHeld => ?_)
                 clear hK K
                 refine norm_ (a' := ?_) ?_ ?_
                 rotate_left
                 ·show Act.put _ (some 58) _ = _
                  simp only [Act.put, List.setIfInBounds_toArray, List.set_cons_zero, List.set_cons_succ, i64_w, i32_w]
                  rfl
                 refine one_ (i := 9) (N := some 60) #[true, true, true, true, true, true, true, true, true, true, false, false, false] rfl rfl (one_of HT_.out (by kernel_rfl)) (by decide) (fun K hK => ?_)
                 refine Kd.N_lit_step k31 _ 31 ?hg (N' := 60) ?hd (xs := ([(⟨23, 0, 0, 0, 0, (⟨#[]⟩ : ByteArray), 0, ([] : List Int)⟩ : S31)] : List (S31))) (inner := [.int .i64 23, .int .i64 0, .int .i64 0, .int .i64 0, .int .i64 0, .string (⟨#[]⟩ : ByteArray), .int .i64 0, .slice none 0 0]) (ok := (fun k_ => (P0_ k_ ∨ w.heap.size ≤ k_) ∧ some k_ ≠ (v196 : Value).ownBlock ∧ some k_ ≠ (v204 : Value).ownBlock ∧ k_ ≠ gb186 ∧ k_ ≠ gb199)) (okp := (fun k_ => (P0_ k_ ∨ w.heap.size ≤ k_) ∧ some k_ ≠ (v196 : Value).ownBlock ∧ some k_ ≠ (v204 : Value).ownBlock ∧ k_ ≠ gb186 ∧ k_ ≠ gb199)) ?hr ?hp (fun _ hk => hk) ((show ∀ k_, w45.heap.size ≤ k_ → (fun k_ => (P0_ k_ ∨ w.heap.size ≤ k_) ∧ some k_ ≠ (v196 : Value).ownBlock ∧ some k_ ≠ (v204 : Value).ownBlock ∧ k_ ≠ gb186 ∧ k_ ≠ gb199) k_ from fun k_ hk => ⟨(.inr (Nat.le_trans (below_size zG) hk)), Kd.fresh' (Kd.N_lt (by (with_reducible repeat (first | apply Kd.N_alloc | apply Kd.N_drewN | apply Kd.N_drew)); exact HO197.out)) k_ hk, Kd.fresh' (Kd.N_lt (by (with_reducible repeat (first | apply Kd.N_alloc | apply Kd.N_drewN | apply Kd.N_drew)); exact HO205.out)) k_ hk, Kd.freshB (g := gb186) (o := .cells #[.int .i64 (wrap64 (((rd_T28 l0 0).f0) + a1)), .slice A185_1 ((rd_T28 l0 0).f1).length c185_1] 28 (0, 0)) zK k_ hk, Kd.freshB (g := gb199) (o := .cells #[.int .i64 ((rd_T28 l0 0).f0), .slice A198_1 ((rd_T28 l0 0).f1).length c198_1] 28 (0, 0)) zK k_ hk⟩) _ (Nat.le_refl _)) (Below.refl _ _) (Nat.le_refl _) (by simp) ?_; (case hd => rfl); (case hg => rfl); (case hr => first | (go_simp; done) | (go_simp; rfl)); (case hp => exact (Reps.c8 (show Kd.FK k31 _ _ (⟨23, 0, 0, 0, 0, (⟨#[]⟩ : ByteArray), 0, ([] : List Int)⟩ : S31) [.int .i64 23, .int .i64 0, .int .i64 0, .int .i64 0, .int .i64 0, .string (⟨#[]⟩ : ByteArray), .int .i64 0, .slice none 0 0] from (k31_mkF _ _ (⟨23, 0, 0, 0, 0, (⟨#[]⟩ : ByteArray), 0, ([] : List Int)⟩ : S31) (Nat.le_refl _) (Kd.F_nil _ _ _))) (Reps.none _ _)))
                 intro v207 w46 ho47 hb hg_ hnew_
                 clear hg_ hnew_
                 (first | rw [← Ny206.out] at ho47 | (simp only [Int.reduceToNat] at ho47; rw [← Ny206.out] at ho47))
                 have n0_ := Aside0.mk (Kd.V_elder' (by (with_reducible repeat (first | apply Kd.V_alloc | apply Kd.V_drewN | apply Kd.V_drew)); exact HO_0.out) (Kd.N_base ho47) hb)
                 have n1_ := Aside0.mk (Kd.V_elder' (by (with_reducible repeat (first | apply Kd.V_alloc | apply Kd.V_drewN | apply Kd.V_drew)); exact HL185_1.out) (Kd.N_base ho47) hb)
                 have n2_ := Aside0.mk (Kd.V_elder' (by (with_reducible repeat (first | apply Kd.V_alloc | apply Kd.V_drewN | apply Kd.V_drew)); exact HO194.out) (Kd.N_base ho47) hb)
                 have n3_ := Aside0.mk (Kd.N_elder' (by (with_reducible repeat (first | apply Kd.N_alloc | apply Kd.N_drewN | apply Kd.N_drew)); exact HO197.out) (Kd.N_base ho47) hb)
                 have n4_ := Aside0.mk (Kd.V_elder' (by (with_reducible repeat (first | apply Kd.V_alloc | apply Kd.V_drewN | apply Kd.V_drew)); exact HL198_1.out) (Kd.N_base ho47) hb)
                 have n5_ := Aside0.mk (Kd.N_elder' (by (with_reducible repeat (first | apply Kd.N_alloc | apply Kd.N_drewN | apply Kd.N_drew)); exact HO205.out) (Kd.N_base ho47) hb)
                 have n6_ := Aside0.mk (Kd.N_lower ho47 (below_size zG))
                 have n7_ := Aside0.mk (blk_below (g := gb186) zK hb)
                 have n8_ := Aside0.mk (blk_below (g := gb199) zK hb)
                 have n9_ := Aside0.mk (below_step zG hb)
                 clear HO_0
                 clear HL185_1
                 clear HO194
                 clear HO197
                 clear HL198_1
                 clear HO205
                 clear BK186
                 clear BK199
                 clear HB
                 have HO_0 := n0_
                 have HL185_1 := n1_
                 have HO194 := n2_
                 have HO197 := n3_
                 have HL198_1 := n4_
                 have HO205 := n5_
                 have HO208 := n6_
                 have BK186 := n7_
                 have BK199 := n8_
                 have HB := n9_
                 clear n0_ n1_ n2_ n3_ n4_ n5_ n6_ n7_ n8_ n9_
                 clear hb ho47
                 refine hK.out _ _ ⟨(blk_cell BK199.out 0).trans rfl, (blk_cell BK199.out 1).trans rfl⟩ (fun hHeld => ?_)
                 clear hK K
                 refine norm_ (a' := ?_) ?_ ?_
                 rotate_left
                 ·show Act.put _ (some 60) _ = _
                  simp only [Act.put, List.setIfInBounds_toArray, List.set_cons_zero, List.set_cons_succ, i64_w, i32_w]
                  rfl
                 exact norm_ (by simp only [putAll, Act.put, List.setIfInBounds_toArray, List.set_cons_zero, List.set_cons_succ]) (hCont (v201, v204, v207) _ ⟨hHeld, (by (with_reducible repeat (first | apply Kd.V_alloc | apply Kd.V_drewN | apply Kd.V_drew)); exact Kd.V_mono HL185_1.out (fun _ hk => ⟨hk.1.1.1, ⟨hk.1.1.2.1, ⟨hk.1.2, ⟨hk.2, ⟨hk.1.1.2.2.1, hk.1.1.2.2.2⟩⟩⟩⟩⟩)), (by (with_reducible repeat (first | apply Kd.V_alloc | apply Kd.V_drewN | apply Kd.V_drew)); exact Kd.V_mono HL198_1.out (fun _ hk => ⟨hk.1.1.1, ⟨hk.1.1.2.1, ⟨hk.1.2, ⟨hk.2, ⟨hk.1.1.2.2.1, hk.1.1.2.2.2⟩⟩⟩⟩⟩)), (by (with_reducible repeat (first | apply Kd.V_alloc | apply Kd.V_drewN | apply Kd.V_drew)); exact Kd.V_mono HO194.out (fun _ hk => ⟨hk.1.1.1, ⟨hk.1.1.2.1, ⟨hk.1.2, ⟨hk.2, ⟨hk.1.1.2.2.1, hk.1.1.2.2.2⟩⟩⟩⟩⟩)), (by (with_reducible repeat (first | apply Kd.N_alloc | apply Kd.N_drewN | apply Kd.N_drew)); exact Kd.N_mono HO197.out (fun _ hk => ⟨hk.1.1.1, ⟨hk.1.2, ⟨hk.2, ⟨hk.1.1.2.1, hk.1.1.2.2⟩⟩⟩⟩)), (by (with_reducible repeat (first | apply Kd.N_alloc | apply Kd.N_drewN | apply Kd.N_drew)); exact Kd.N_mono HO205.out (fun _ hk => ⟨hk.1.1, ⟨hk.1.2.1, ⟨hk.2, ⟨hk.1.2.2.1, hk.1.2.2.2⟩⟩⟩⟩)), (by (with_reducible repeat (first | apply Kd.N_alloc | apply Kd.N_drewN | apply Kd.N_drew)); exact HO208.out), (by (with_reducible repeat (first | apply Kd.V_alloc | apply Kd.V_drewN | apply Kd.V_drew)); exact Kd.V_mono HO_0.out (fun _ hk => ⟨hk.1.1.1, ⟨hk.1.1.2.1, ⟨hk.1.2, ⟨hk.2, ⟨hk.1.1.2.2.1, hk.1.1.2.2.2⟩⟩⟩⟩⟩)), zK, zK, zG⟩)
                ·skip
                 refine Kd.N_lit_step k31 _ 31 ?hg (N' := 60) ?hd (xs := ([(⟨23, 0, 0, 0, 0, (⟨#[]⟩ : ByteArray), 0, ([] : List Int)⟩ : S31)] : List (S31))) (inner := [.int .i64 23, .int .i64 0, .int .i64 0, .int .i64 0, .int .i64 0, .string (⟨#[]⟩ : ByteArray), .int .i64 0, .slice none 0 0]) (ok := (fun k_ => (P0_ k_ ∨ w.heap.size ≤ k_) ∧ some k_ ≠ (v196 : Value).ownBlock ∧ some k_ ≠ (v201 : Value).ownBlock ∧ k_ ≠ gb186 ∧ k_ ≠ gb199)) (okp := (fun k_ => (P0_ k_ ∨ w.heap.size ≤ k_) ∧ some k_ ≠ (v196 : Value).ownBlock ∧ some k_ ≠ (v201 : Value).ownBlock ∧ k_ ≠ gb186 ∧ k_ ≠ gb199)) ?hr ?hp (fun _ hk => hk) ((show ∀ k_, w43.heap.size ≤ k_ → (fun k_ => (P0_ k_ ∨ w.heap.size ≤ k_) ∧ some k_ ≠ (v196 : Value).ownBlock ∧ some k_ ≠ (v201 : Value).ownBlock ∧ k_ ≠ gb186 ∧ k_ ≠ gb199) k_ from fun k_ hk => ⟨(.inr (Nat.le_trans (below_size zG) hk)), Kd.fresh' (Kd.N_lt (by (with_reducible repeat (first | apply Kd.N_alloc | apply Kd.N_drewN | apply Kd.N_drew)); exact HO197.out)) k_ hk, Kd.fresh' (Kd.N_lt (by (with_reducible repeat (first | apply Kd.N_alloc | apply Kd.N_drewN | apply Kd.N_drew)); exact HO202.out)) k_ hk, Kd.freshB (g := gb186) (o := .cells #[.int .i64 (wrap64 (((rd_T28 l0 0).f0) + a1)), .slice A185_1 ((rd_T28 l0 0).f1).length c185_1] 28 (0, 0)) zK k_ hk, Kd.freshB (g := gb199) (o := .cells #[.int .i64 ((rd_T28 l0 0).f0), .slice A198_1 ((rd_T28 l0 0).f1).length c198_1] 28 (0, 0)) zK k_ hk⟩) _ (Nat.le_refl _)) (Below.refl _ _) (Nat.le_refl _) (by simp) ?_; (case hd => rfl); (case hg => rfl); (case hr => first | (go_simp; done) | (go_simp; rfl)); (case hp => exact (Reps.c8 (show Kd.FK k31 _ _ (⟨23, 0, 0, 0, 0, (⟨#[]⟩ : ByteArray), 0, ([] : List Int)⟩ : S31) [.int .i64 23, .int .i64 0, .int .i64 0, .int .i64 0, .int .i64 0, .string (⟨#[]⟩ : ByteArray), .int .i64 0, .slice none 0 0] from (k31_mkF _ _ (⟨23, 0, 0, 0, 0, (⟨#[]⟩ : ByteArray), 0, ([] : List Int)⟩ : S31) (Nat.le_refl _) (Kd.F_nil _ _ _))) (Reps.none _ _)))
                 intro v207 w45 ho46 hb hg_ hnew_
                 clear hg_ hnew_
                 (first | rw [← Ny206.out] at ho46 | (simp only [Int.reduceToNat] at ho46; rw [← Ny206.out] at ho46))
                 have n0_ := Aside0.mk (Kd.V_elder' (by (with_reducible repeat (first | apply Kd.V_alloc | apply Kd.V_drewN | apply Kd.V_drew)); exact HO_0.out) (Kd.N_base ho46) hb)
                 have n1_ := Aside0.mk (Kd.V_elder' (by (with_reducible repeat (first | apply Kd.V_alloc | apply Kd.V_drewN | apply Kd.V_drew)); exact HL185_1.out) (Kd.N_base ho46) hb)
                 have n2_ := Aside0.mk (Kd.V_elder' (by (with_reducible repeat (first | apply Kd.V_alloc | apply Kd.V_drewN | apply Kd.V_drew)); exact HO194.out) (Kd.N_base ho46) hb)
                 have n3_ := Aside0.mk (Kd.N_elder' (by (with_reducible repeat (first | apply Kd.N_alloc | apply Kd.N_drewN | apply Kd.N_drew)); exact HO197.out) (Kd.N_base ho46) hb)
                 have n4_ := Aside0.mk (Kd.V_elder' (by (with_reducible repeat (first | apply Kd.V_alloc | apply Kd.V_drewN | apply Kd.V_drew)); exact HL198_1.out) (Kd.N_base ho46) hb)
                 have n5_ := Aside0.mk (Kd.N_elder' (by (with_reducible repeat (first | apply Kd.N_alloc | apply Kd.N_drewN | apply Kd.N_drew)); exact HO202.out) (Kd.N_base ho46) hb)
                 have n6_ := Aside0.mk (Kd.N_lower ho46 (below_size zG))
                 have n7_ := Aside0.mk (blk_below (g := gb186) zK hb)
                 have n8_ := Aside0.mk (blk_below (g := gb199) zK hb)
                 have n9_ := Aside0.mk (below_step zG hb)
                 clear HO_0
                 clear HL185_1
                 clear HO194
                 clear HO197
                 clear HL198_1
                 clear HO202
                 clear BK186
                 clear BK199
                 clear HB
                 have HO_0 := n0_
                 have HL185_1 := n1_
                 have HO194 := n2_
                 have HO197 := n3_
                 have HL198_1 := n4_
                 have HO202 := n5_
                 have HO208 := n6_
                 have BK186 := n7_
                 have BK199 := n8_
                 have HB := n9_
                 clear n0_ n1_ n2_ n3_ n4_ n5_ n6_ n7_ n8_ n9_
                 clear hb ho46
                 refine hK.out _ _ ⟨(blk_cell BK199.out 0).trans rfl, (blk_cell BK199.out 1).trans rfl⟩ (fun hHeld => ?_)
                 clear hK K
                 refine norm_ (a' := ?_) ?_ ?_
                 rotate_left
                 ·show Act.put _ (some 60) _ = _
                  simp only [Act.put, List.setIfInBounds_toArray, List.set_cons_zero, List.set_cons_succ, i64_w, i32_w]
                  rfl
                 refine one_ (i := 7) (N := some 58) #[true, true, true, true, true, true, true, true, true, true, false, false, false] rfl rfl (one_of HT_.out (by kernel_rfl)) (by decide) (fun K hK => ?_)
                 refine Kd.N_append_rows_step k31 (w0 := w) w.heap.size (by rfl) (.tmp 55) (.tmp 57) 26 31 (.agg #[(.int .i64 0), (.int .i64 0), (.int .i64 0), (.int .i64 0), (.int .i64 0), (.string ⟨#[]⟩), (.int .i64 0), (.slice none 0 0)]) 88 rfl Tryz.underlying26 info31 rfl (by decide) (by omega) v201 y200 ((rd_T28 l0 0).f1) _ _ _ (fun k_ => (P0_ k_ ∨ w.heap.size ≤ k_) ∧ some k_ ≠ (v196 : Value).ownBlock ∧ some k_ ≠ (v207 : Value).ownBlock ∧ k_ ≠ gb186 ∧ k_ ≠ gb199) (fun k_ => ((fun k_ => (P0_ k_ ∨ w.heap.size ≤ k_) ∧ some k_ ≠ (v196 : Value).ownBlock ∧ some k_ ≠ (v207 : Value).ownBlock ∧ k_ ≠ gb186 ∧ k_ ≠ gb199)) k_ ∧ some k_ ≠ (v201 : Value).ownBlock) rfl rfl ?aO ?aR (fun _ hk => hk) ?aF ?aB ?aS ?aL ?_
                 (case aR => exact (by skip; exact Kd.V_F (Kd.V_mono (ok' := (fun k_ => ((fun k_ => (P0_ k_ ∨ w.heap.size ≤ k_) ∧ some k_ ≠ (v196 : Value).ownBlock ∧ some k_ ≠ (v207 : Value).ownBlock ∧ k_ ≠ gb186 ∧ k_ ≠ gb199)) k_ ∧ some k_ ≠ (v201 : Value).ownBlock)) (HL198_1.out) (fun k_ hk => ⟨⟨hk.1.1.1, ⟨hk.1.1.2.1, ⟨hk.2, ⟨hk.1.1.2.2.1, hk.1.1.2.2.2⟩⟩⟩⟩, hk.1.2⟩))))
                 (case aB => exact zG)
                 (case aF => exact (fun k_ hk => ⟨(.inr (Nat.le_trans (below_size zG) hk)), Kd.fresh' (Kd.N_lt (by (with_reducible repeat (first | apply Kd.N_alloc | apply Kd.N_drewN | apply Kd.N_drew)); exact HO197.out)) k_ hk, Kd.fresh' (Kd.N_lt (by (with_reducible repeat (first | apply Kd.N_alloc | apply Kd.N_drewN | apply Kd.N_drew)); exact HO208.out)) k_ hk, Kd.freshB (g := gb186) (o := .cells #[.int .i64 (wrap64 (((rd_T28 l0 0).f0) + a1)), .slice A185_1 ((rd_T28 l0 0).f1).length c185_1] 28 (0, 0)) zK k_ hk, Kd.freshB (g := gb199) (o := .cells #[.int .i64 ((rd_T28 l0 0).f0), .slice A198_1 ((rd_T28 l0 0).f1).length c198_1] 28 (0, 0)) zK k_ hk⟩))
                 (case aO => exact (by (with_reducible repeat (first | apply Kd.N_alloc | apply Kd.N_drewN | apply Kd.N_drew)); exact Kd.N_mono HO202.out (fun _ hk => ⟨hk.1.1, ⟨hk.1.2.1, ⟨hk.2, ⟨hk.1.2.2.1, hk.1.2.2.2⟩⟩⟩⟩)))
                 (case aS => exact (below_size zG))
                 (case aL => have := LMc22.out; omega)
                 intro v204 w47 ho hb hg hat
                 rw [← Ny203.out] at ho
                 have n0_ := Aside0.mk (Kd.V_afterv (ok := (fun k_ => (P0_ k_ ∨ w.heap.size ≤ k_) ∧ some k_ ≠ (v196 : Value).ownBlock ∧ some k_ ≠ (v207 : Value).ownBlock ∧ k_ ≠ gb186 ∧ k_ ≠ gb199)) (by (with_reducible repeat (first | apply Kd.V_alloc | apply Kd.V_drewN | apply Kd.V_drew)); exact Kd.V_mono HO_0.out (fun _ hk => ⟨⟨hk.1.1.1, ⟨hk.1.1.2.1, ⟨hk.2, ⟨hk.1.1.2.2.1, hk.1.1.2.2.2⟩⟩⟩⟩, hk.1.2⟩)) hg hat)
                 have n1_ := Aside0.mk (Kd.V_afterv (ok := (fun k_ => (P0_ k_ ∨ w.heap.size ≤ k_) ∧ some k_ ≠ (v196 : Value).ownBlock ∧ some k_ ≠ (v207 : Value).ownBlock ∧ k_ ≠ gb186 ∧ k_ ≠ gb199)) (by (with_reducible repeat (first | apply Kd.V_alloc | apply Kd.V_drewN | apply Kd.V_drew)); exact Kd.V_mono HL185_1.out (fun _ hk => ⟨⟨hk.1.1.1, ⟨hk.1.1.2.1, ⟨hk.2, ⟨hk.1.1.2.2.1, hk.1.1.2.2.2⟩⟩⟩⟩, hk.1.2⟩)) hg hat)
                 have n2_ := Aside0.mk (blk_grown (g := gb186) (o := .cells #[.int .i64 (wrap64 (((rd_T28 l0 0).f0) + a1)), .slice A185_1 ((rd_T28 l0 0).f1).length c185_1] 28 (0, 0)) zK hg (Kd.N_ne HO202.out BK186.out (by decide)))
                 have n3_ := Aside0.mk (Kd.V_afterv (ok := (fun k_ => (P0_ k_ ∨ w.heap.size ≤ k_) ∧ some k_ ≠ (v196 : Value).ownBlock ∧ some k_ ≠ (v207 : Value).ownBlock ∧ k_ ≠ gb186 ∧ k_ ≠ gb199)) (by (with_reducible repeat (first | apply Kd.V_alloc | apply Kd.V_drewN | apply Kd.V_drew)); exact Kd.V_mono HO194.out (fun _ hk => ⟨⟨hk.1.1.1, ⟨hk.1.1.2.1, ⟨hk.2, ⟨hk.1.1.2.2.1, hk.1.1.2.2.2⟩⟩⟩⟩, hk.1.2⟩)) hg hat)
                 have n4_ := Aside0.mk (Kd.N_afterv (ok := (fun k_ => (P0_ k_ ∨ w.heap.size ≤ k_) ∧ some k_ ≠ (v207 : Value).ownBlock ∧ k_ ≠ gb186 ∧ k_ ≠ gb199)) (by (with_reducible repeat (first | apply Kd.N_alloc | apply Kd.N_drewN | apply Kd.N_drew)); exact Kd.N_mono HO197.out (fun _ hk => ⟨⟨hk.1.1.1, ⟨hk.2, ⟨hk.1.1.2.1, hk.1.1.2.2⟩⟩⟩, hk.1.2⟩)) hg hat)
                 have n5_ := Aside0.mk (Kd.V_afterv (ok := (fun k_ => (P0_ k_ ∨ w.heap.size ≤ k_) ∧ some k_ ≠ (v196 : Value).ownBlock ∧ some k_ ≠ (v207 : Value).ownBlock ∧ k_ ≠ gb186 ∧ k_ ≠ gb199)) (by (with_reducible repeat (first | apply Kd.V_alloc | apply Kd.V_drewN | apply Kd.V_drew)); exact Kd.V_mono HL198_1.out (fun _ hk => ⟨⟨hk.1.1.1, ⟨hk.1.1.2.1, ⟨hk.2, ⟨hk.1.1.2.2.1, hk.1.1.2.2.2⟩⟩⟩⟩, hk.1.2⟩)) hg hat)
                 have n6_ := Aside0.mk (blk_grown (g := gb199) (o := .cells #[.int .i64 ((rd_T28 l0 0).f0), .slice A198_1 ((rd_T28 l0 0).f1).length c198_1] 28 (0, 0)) zK hg (Kd.N_ne HO202.out BK199.out (by decide)))
                 have n7_ := Aside0.mk (Kd.N_afterv (ok := (fun k_ => (P0_ k_ ∨ w.heap.size ≤ k_) ∧ some k_ ≠ (v196 : Value).ownBlock ∧ k_ ≠ gb186 ∧ k_ ≠ gb199)) (by (with_reducible repeat (first | apply Kd.N_alloc | apply Kd.N_drewN | apply Kd.N_drew)); exact Kd.N_mono HO208.out (fun _ hk => ⟨⟨hk.1, ⟨hk.2.1, ⟨hk.2.2.2.1, hk.2.2.2.2⟩⟩⟩, hk.2.2.1⟩)) hg hat)
                 have n8_ := Aside0.mk (hb)
                 have n9_ := Aside0.mk (ho)
                 clear HO_0
                 clear HL185_1
                 clear BK186
                 clear HO194
                 clear HO197
                 clear HL198_1
                 clear BK199
                 clear HO208
                 clear HB
                 clear HO202
                 have HO_0 := n0_
                 have HL185_1 := n1_
                 have BK186 := n2_
                 have HO194 := n3_
                 have HO197 := n4_
                 have HL198_1 := n5_
                 have BK199 := n6_
                 have HO208 := n7_
                 have HB := n8_
                 have HO205 := n9_
                 clear n0_ n1_ n2_ n3_ n4_ n5_ n6_ n7_ n8_ n9_
                 clear ho hb hg hat
                 refine hK.out _ _ ⟨(blk_cell BK199.out 0).trans rfl, (blk_cell BK199.out 1).trans rfl⟩ (fun hHeld => ?_)
                 clear hK K
                 refine norm_ (a' := ?_) ?_ ?_
                 rotate_left
                 ·show Act.put _ (some 58) _ = _
                  simp only [Act.put, List.setIfInBounds_toArray, List.set_cons_zero, List.set_cons_succ, i64_w, i32_w]
                  rfl
                 exact norm_ (by simp only [putAll, Act.put, List.setIfInBounds_toArray, List.set_cons_zero, List.set_cons_succ]) (hCont (v201, v204, v207) _ ⟨hHeld, (by (with_reducible repeat (first | apply Kd.V_alloc | apply Kd.V_drewN | apply Kd.V_drew)); exact Kd.V_mono HL185_1.out (fun _ hk => ⟨hk.1.1, ⟨hk.1.2.1, ⟨hk.2, ⟨hk.1.2.2.1, ⟨hk.1.2.2.2.1, hk.1.2.2.2.2⟩⟩⟩⟩⟩)), (by (with_reducible repeat (first | apply Kd.V_alloc | apply Kd.V_drewN | apply Kd.V_drew)); exact Kd.V_mono HL198_1.out (fun _ hk => ⟨hk.1.1, ⟨hk.1.2.1, ⟨hk.2, ⟨hk.1.2.2.1, ⟨hk.1.2.2.2.1, hk.1.2.2.2.2⟩⟩⟩⟩⟩)), (by (with_reducible repeat (first | apply Kd.V_alloc | apply Kd.V_drewN | apply Kd.V_drew)); exact Kd.V_mono HO194.out (fun _ hk => ⟨hk.1.1, ⟨hk.1.2.1, ⟨hk.2, ⟨hk.1.2.2.1, ⟨hk.1.2.2.2.1, hk.1.2.2.2.2⟩⟩⟩⟩⟩)), (by (with_reducible repeat (first | apply Kd.N_alloc | apply Kd.N_drewN | apply Kd.N_drew)); exact Kd.N_mono HO197.out (fun _ hk => ⟨hk.1.1, ⟨hk.2, ⟨hk.1.2.1, ⟨hk.1.2.2.1, hk.1.2.2.2⟩⟩⟩⟩)), (by (with_reducible repeat (first | apply Kd.N_alloc | apply Kd.N_drewN | apply Kd.N_drew)); exact HO205.out), (by (with_reducible repeat (first | apply Kd.N_alloc | apply Kd.N_drewN | apply Kd.N_drew)); exact Kd.N_mono HO208.out (fun _ hk => ⟨hk.1.1, ⟨hk.1.2.1, ⟨hk.2, ⟨hk.1.2.2.1, hk.1.2.2.2⟩⟩⟩⟩)), (by (with_reducible repeat (first | apply Kd.V_alloc | apply Kd.V_drewN | apply Kd.V_drew)); exact Kd.V_mono HO_0.out (fun _ hk => ⟨hk.1.1, ⟨hk.1.2.1, ⟨hk.2, ⟨hk.1.2.2.1, ⟨hk.1.2.2.2.1, hk.1.2.2.2.2⟩⟩⟩⟩⟩)), zK, zK, zG⟩)
               ·skip
                refine Kd.N_lit_step k31 _ 31 ?hg (N' := 60) ?hd (xs := ([(⟨23, 0, 0, 0, 0, (⟨#[]⟩ : ByteArray), 0, ([] : List Int)⟩ : S31)] : List (S31))) (inner := [.int .i64 23, .int .i64 0, .int .i64 0, .int .i64 0, .int .i64 0, .string (⟨#[]⟩ : ByteArray), .int .i64 0, .slice none 0 0]) (ok := (fun k_ => (P0_ k_ ∨ w.heap.size ≤ k_) ∧ some k_ ≠ (v196 : Value).ownBlock ∧ k_ ≠ gb186 ∧ k_ ≠ gb199)) (okp := (fun k_ => (P0_ k_ ∨ w.heap.size ≤ k_) ∧ some k_ ≠ (v196 : Value).ownBlock ∧ k_ ≠ gb186 ∧ k_ ≠ gb199)) ?hr ?hp (fun _ hk => hk) ((show ∀ k_, w42.heap.size ≤ k_ → (fun k_ => (P0_ k_ ∨ w.heap.size ≤ k_) ∧ some k_ ≠ (v196 : Value).ownBlock ∧ k_ ≠ gb186 ∧ k_ ≠ gb199) k_ from fun k_ hk => ⟨(.inr (Nat.le_trans (below_size zG) hk)), Kd.fresh' (Kd.N_lt (by (with_reducible repeat (first | apply Kd.N_alloc | apply Kd.N_drewN | apply Kd.N_drew)); exact HO197.out)) k_ hk, Kd.freshB (g := gb186) (o := .cells #[.int .i64 (wrap64 (((rd_T28 l0 0).f0) + a1)), .slice A185_1 ((rd_T28 l0 0).f1).length c185_1] 28 (0, 0)) zK k_ hk, Kd.freshB (g := gb199) (o := .cells #[.int .i64 ((rd_T28 l0 0).f0), .slice A198_1 ((rd_T28 l0 0).f1).length c198_1] 28 (0, 0)) zK k_ hk⟩) _ (Nat.le_refl _)) (Below.refl _ _) (Nat.le_refl _) (by simp) ?_; (case hd => rfl); (case hg => rfl); (case hr => first | (go_simp; done) | (go_simp; rfl)); (case hp => exact (Reps.c8 (show Kd.FK k31 _ _ (⟨23, 0, 0, 0, 0, (⟨#[]⟩ : ByteArray), 0, ([] : List Int)⟩ : S31) [.int .i64 23, .int .i64 0, .int .i64 0, .int .i64 0, .int .i64 0, .string (⟨#[]⟩ : ByteArray), .int .i64 0, .slice none 0 0] from (k31_mkF _ _ (⟨23, 0, 0, 0, 0, (⟨#[]⟩ : ByteArray), 0, ([] : List Int)⟩ : S31) (Nat.le_refl _) (Kd.F_nil _ _ _))) (Reps.none _ _)))
                intro v207 w43 ho44 hb hg_ hnew_
                clear hg_ hnew_
                (first | rw [← Ny206.out] at ho44 | (simp only [Int.reduceToNat] at ho44; rw [← Ny206.out] at ho44))
                have n0_ := Aside0.mk (Kd.V_elder' (by (with_reducible repeat (first | apply Kd.V_alloc | apply Kd.V_drewN | apply Kd.V_drew)); exact HO_0.out) (Kd.N_base ho44) hb)
                have n1_ := Aside0.mk (Kd.V_elder' (by (with_reducible repeat (first | apply Kd.V_alloc | apply Kd.V_drewN | apply Kd.V_drew)); exact HL185_1.out) (Kd.N_base ho44) hb)
                have n2_ := Aside0.mk (Kd.V_elder' (by (with_reducible repeat (first | apply Kd.V_alloc | apply Kd.V_drewN | apply Kd.V_drew)); exact HO194.out) (Kd.N_base ho44) hb)
                have n3_ := Aside0.mk (Kd.N_elder' (by (with_reducible repeat (first | apply Kd.N_alloc | apply Kd.N_drewN | apply Kd.N_drew)); exact HO197.out) (Kd.N_base ho44) hb)
                have n4_ := Aside0.mk (Kd.V_elder' (by (with_reducible repeat (first | apply Kd.V_alloc | apply Kd.V_drewN | apply Kd.V_drew)); exact HL198_1.out) (Kd.N_base ho44) hb)
                have n5_ := Aside0.mk (Kd.N_lower ho44 (below_size zG))
                have n6_ := Aside0.mk (blk_below (g := gb186) zK hb)
                have n7_ := Aside0.mk (blk_below (g := gb199) zK hb)
                have n8_ := Aside0.mk (below_step zG hb)
                clear HO_0
                clear HL185_1
                clear HO194
                clear HO197
                clear HL198_1
                clear BK186
                clear BK199
                clear HB
                have HO_0 := n0_
                have HL185_1 := n1_
                have HO194 := n2_
                have HO197 := n3_
                have HL198_1 := n4_
                have HO208 := n5_
                have BK186 := n6_
                have BK199 := n7_
                have HB := n8_
                clear n0_ n1_ n2_ n3_ n4_ n5_ n6_ n7_ n8_
                clear hb ho44
                refine hK.out _ _ ⟨(blk_cell BK199.out 0).trans rfl, (blk_cell BK199.out 1).trans rfl⟩ (fun hHeld => ?_)
                clear hK K
                refine norm_ (a' := ?_) ?_ ?_
                rotate_left
                ·show Act.put _ (some 60) _ = _
                 simp only [Act.put, List.setIfInBounds_toArray, List.set_cons_zero, List.set_cons_succ, i64_w, i32_w]
                 rfl
                refine one_ (i := 4) (N := some 55) #[true, true, true, true, true, true, true, false, true, true, false, false, false] rfl rfl (one_of HT_.out (by kernel_rfl)) (by decide) (fun K hK => ?_)
                refine Kd.N_make0_step k31 _ 31 (by rfl) (N' := 55) rfl 26 _ _ rfl ji19 rfl rfl Tryz.underlying26 (.agg #[(.int .i64 0), (.int .i64 0), (.int .i64 0), (.int .i64 0), (.int .i64 0), (.string ⟨#[]⟩), (.int .i64 0), (.slice none 0 0)]) 88 info31 rfl (by decide) (by omega) z31 (ok := fun k_ => w43.heap.size ≤ k_) (okp := fun _ => False) (k31_mkF _ _ z31 (Nat.le_refl _) (Kd.F_nil _ _ _)) (fun _ hk => hk.elim) (Nat.le_refl _) (of_decide_eq_true zA) (Nat.le_trans (Nat.mul_le_mul_right _ (of_decide_eq_true zA : ji19.toNat ≤ 3198579280802)) (by omega)) (Below.refl _ _) (Nat.le_refl _) ?_
                intro v201 w45 ho46 hb hg_ hnew_
                clear hg_ hnew_
                (first | rw [← Ny200.out] at ho46 | (simp only [Int.reduceToNat] at ho46; rw [← Ny200.out] at ho46))
                have n0_ := Aside0.mk (Kd.V_elder' (by (with_reducible repeat (first | apply Kd.V_alloc | apply Kd.V_drewN | apply Kd.V_drew)); exact HO_0.out) (Kd.N_base ho46) hb)
                have n1_ := Aside0.mk (Kd.V_elder' (by (with_reducible repeat (first | apply Kd.V_alloc | apply Kd.V_drewN | apply Kd.V_drew)); exact HL185_1.out) (Kd.N_base ho46) hb)
                have n2_ := Aside0.mk (Kd.V_elder' (by (with_reducible repeat (first | apply Kd.V_alloc | apply Kd.V_drewN | apply Kd.V_drew)); exact HO194.out) (Kd.N_base ho46) hb)
                have n3_ := Aside0.mk (Kd.N_elder' (by (with_reducible repeat (first | apply Kd.N_alloc | apply Kd.N_drewN | apply Kd.N_drew)); exact HO197.out) (Kd.N_base ho46) hb)
                have n4_ := Aside0.mk (Kd.V_elder' (by (with_reducible repeat (first | apply Kd.V_alloc | apply Kd.V_drewN | apply Kd.V_drew)); exact HL198_1.out) (Kd.N_base ho46) hb)
                have n5_ := Aside0.mk (Kd.N_elder' (by (with_reducible repeat (first | apply Kd.N_alloc | apply Kd.N_drewN | apply Kd.N_drew)); exact HO208.out) (Kd.N_base ho46) hb)
                have n6_ := Aside0.mk (Kd.N_lower (Kd.N_mono (ok' := fun k_ => (P0_ k_ ∨ w.heap.size ≤ k_) ∧ some k_ ≠ (v196 : Value).ownBlock ∧ some k_ ≠ (v207 : Value).ownBlock ∧ k_ ≠ gb186 ∧ k_ ≠ gb199) ho46 (fun k_ hk_ => ⟨(.inr (Nat.le_trans (below_size zG) hk_)), (Kd.fresh' (Kd.N_lt (by (with_reducible repeat (first | apply Kd.N_alloc | apply Kd.N_drewN | apply Kd.N_drew)); exact HO197.out)) k_ hk_), (Kd.fresh' (Kd.N_lt (by (with_reducible repeat (first | apply Kd.N_alloc | apply Kd.N_drewN | apply Kd.N_drew)); exact HO208.out)) k_ hk_), (Kd.freshB (g := gb186) (o := .cells #[.int .i64 (wrap64 (((rd_T28 l0 0).f0) + a1)), .slice A185_1 ((rd_T28 l0 0).f1).length c185_1] 28 (0, 0)) zK k_ hk_), (Kd.freshB (g := gb199) (o := .cells #[.int .i64 ((rd_T28 l0 0).f0), .slice A198_1 ((rd_T28 l0 0).f1).length c198_1] 28 (0, 0)) zK k_ hk_)⟩)) (below_size zG))
                have n7_ := Aside0.mk (blk_below (g := gb186) zK hb)
                have n8_ := Aside0.mk (blk_below (g := gb199) zK hb)
                have n9_ := Aside0.mk (below_step zG hb)
                clear HO_0
                clear HL185_1
                clear HO194
                clear HO197
                clear HL198_1
                clear HO208
                clear BK186
                clear BK199
                clear HB
                have HO_0 := n0_
                have HL185_1 := n1_
                have HO194 := n2_
                have HO197 := n3_
                have HL198_1 := n4_
                have HO208 := n5_
                have HO202 := n6_
                have BK186 := n7_
                have BK199 := n8_
                have HB := n9_
                clear n0_ n1_ n2_ n3_ n4_ n5_ n6_ n7_ n8_ n9_
                clear hb ho46
                refine hK.out _ _ ⟨(blk_cell BK199.out 0).trans rfl, (blk_cell BK199.out 1).trans rfl⟩ (fun hHeld => ?_)
                clear hK K
                refine norm_ (a' := ?_) ?_ ?_
                rotate_left
                ·show Act.put _ (some 55) _ = _
                 simp only [Act.put, List.setIfInBounds_toArray, List.set_cons_zero, List.set_cons_succ, i64_w, i32_w]
                 rfl
                refine one_ (i := 7) (N := some 58) #[true, true, true, true, true, true, true, true, true, true, false, false, false] rfl rfl (one_of HT_.out (by kernel_rfl)) (by decide) (fun K hK => ?_)
                refine Kd.N_append_rows_step k31 (w0 := w) w.heap.size (by rfl) (.tmp 55) (.tmp 57) 26 31 (.agg #[(.int .i64 0), (.int .i64 0), (.int .i64 0), (.int .i64 0), (.int .i64 0), (.string ⟨#[]⟩), (.int .i64 0), (.slice none 0 0)]) 88 rfl Tryz.underlying26 info31 rfl (by decide) (by omega) v201 y200 ((rd_T28 l0 0).f1) _ _ _ (fun k_ => (P0_ k_ ∨ w.heap.size ≤ k_) ∧ some k_ ≠ (v196 : Value).ownBlock ∧ some k_ ≠ (v207 : Value).ownBlock ∧ k_ ≠ gb186 ∧ k_ ≠ gb199) (fun k_ => ((fun k_ => (P0_ k_ ∨ w.heap.size ≤ k_) ∧ some k_ ≠ (v196 : Value).ownBlock ∧ some k_ ≠ (v207 : Value).ownBlock ∧ k_ ≠ gb186 ∧ k_ ≠ gb199)) k_ ∧ some k_ ≠ (v201 : Value).ownBlock) rfl rfl ?aO ?aR (fun _ hk => hk) ?aF ?aB ?aS ?aL ?_
                (case aR => exact (by skip; exact Kd.V_F (Kd.V_mono (ok' := (fun k_ => ((fun k_ => (P0_ k_ ∨ w.heap.size ≤ k_) ∧ some k_ ≠ (v196 : Value).ownBlock ∧ some k_ ≠ (v207 : Value).ownBlock ∧ k_ ≠ gb186 ∧ k_ ≠ gb199)) k_ ∧ some k_ ≠ (v201 : Value).ownBlock)) (HL198_1.out) (fun k_ hk => ⟨⟨hk.1.1.1, ⟨hk.1.1.2.1, ⟨hk.1.2, ⟨hk.1.1.2.2.1, hk.1.1.2.2.2⟩⟩⟩⟩, hk.2⟩))))
                (case aB => exact zG)
                (case aF => exact (fun k_ hk => ⟨(.inr (Nat.le_trans (below_size zG) hk)), Kd.fresh' (Kd.N_lt (by (with_reducible repeat (first | apply Kd.N_alloc | apply Kd.N_drewN | apply Kd.N_drew)); exact HO197.out)) k_ hk, Kd.fresh' (Kd.N_lt (by (with_reducible repeat (first | apply Kd.N_alloc | apply Kd.N_drewN | apply Kd.N_drew)); exact HO208.out)) k_ hk, Kd.freshB (g := gb186) (o := .cells #[.int .i64 (wrap64 (((rd_T28 l0 0).f0) + a1)), .slice A185_1 ((rd_T28 l0 0).f1).length c185_1] 28 (0, 0)) zK k_ hk, Kd.freshB (g := gb199) (o := .cells #[.int .i64 ((rd_T28 l0 0).f0), .slice A198_1 ((rd_T28 l0 0).f1).length c198_1] 28 (0, 0)) zK k_ hk⟩))
                (case aO => exact (by (with_reducible repeat (first | apply Kd.N_alloc | apply Kd.N_drewN | apply Kd.N_drew)); exact HO202.out))
                (case aS => exact (below_size zG))
                (case aL => have := LMc22.out; omega)
                intro v204 w47 ho hb hg hat
                rw [← Ny203.out] at ho
                have n0_ := Aside0.mk (Kd.V_afterv (ok := (fun k_ => (P0_ k_ ∨ w.heap.size ≤ k_) ∧ some k_ ≠ (v196 : Value).ownBlock ∧ some k_ ≠ (v207 : Value).ownBlock ∧ k_ ≠ gb186 ∧ k_ ≠ gb199)) (by (with_reducible repeat (first | apply Kd.V_alloc | apply Kd.V_drewN | apply Kd.V_drew)); exact Kd.V_mono HO_0.out (fun _ hk => ⟨⟨hk.1.1.1, ⟨hk.1.1.2.1, ⟨hk.1.2, ⟨hk.1.1.2.2.1, hk.1.1.2.2.2⟩⟩⟩⟩, hk.2⟩)) hg hat)
                have n1_ := Aside0.mk (Kd.V_afterv (ok := (fun k_ => (P0_ k_ ∨ w.heap.size ≤ k_) ∧ some k_ ≠ (v196 : Value).ownBlock ∧ some k_ ≠ (v207 : Value).ownBlock ∧ k_ ≠ gb186 ∧ k_ ≠ gb199)) (by (with_reducible repeat (first | apply Kd.V_alloc | apply Kd.V_drewN | apply Kd.V_drew)); exact Kd.V_mono HL185_1.out (fun _ hk => ⟨⟨hk.1.1.1, ⟨hk.1.1.2.1, ⟨hk.1.2, ⟨hk.1.1.2.2.1, hk.1.1.2.2.2⟩⟩⟩⟩, hk.2⟩)) hg hat)
                have n2_ := Aside0.mk (blk_grown (g := gb186) (o := .cells #[.int .i64 (wrap64 (((rd_T28 l0 0).f0) + a1)), .slice A185_1 ((rd_T28 l0 0).f1).length c185_1] 28 (0, 0)) zK hg (Kd.N_ne HO202.out BK186.out (by decide)))
                have n3_ := Aside0.mk (Kd.V_afterv (ok := (fun k_ => (P0_ k_ ∨ w.heap.size ≤ k_) ∧ some k_ ≠ (v196 : Value).ownBlock ∧ some k_ ≠ (v207 : Value).ownBlock ∧ k_ ≠ gb186 ∧ k_ ≠ gb199)) (by (with_reducible repeat (first | apply Kd.V_alloc | apply Kd.V_drewN | apply Kd.V_drew)); exact Kd.V_mono HO194.out (fun _ hk => ⟨⟨hk.1.1.1, ⟨hk.1.1.2.1, ⟨hk.1.2, ⟨hk.1.1.2.2.1, hk.1.1.2.2.2⟩⟩⟩⟩, hk.2⟩)) hg hat)
                have n4_ := Aside0.mk (Kd.N_afterv (ok := (fun k_ => (P0_ k_ ∨ w.heap.size ≤ k_) ∧ some k_ ≠ (v207 : Value).ownBlock ∧ k_ ≠ gb186 ∧ k_ ≠ gb199)) (by (with_reducible repeat (first | apply Kd.N_alloc | apply Kd.N_drewN | apply Kd.N_drew)); exact Kd.N_mono HO197.out (fun _ hk => ⟨⟨hk.1.1.1, ⟨hk.1.2, ⟨hk.1.1.2.1, hk.1.1.2.2⟩⟩⟩, hk.2⟩)) hg hat)
                have n5_ := Aside0.mk (Kd.V_afterv (ok := (fun k_ => (P0_ k_ ∨ w.heap.size ≤ k_) ∧ some k_ ≠ (v196 : Value).ownBlock ∧ some k_ ≠ (v207 : Value).ownBlock ∧ k_ ≠ gb186 ∧ k_ ≠ gb199)) (by (with_reducible repeat (first | apply Kd.V_alloc | apply Kd.V_drewN | apply Kd.V_drew)); exact Kd.V_mono HL198_1.out (fun _ hk => ⟨⟨hk.1.1.1, ⟨hk.1.1.2.1, ⟨hk.1.2, ⟨hk.1.1.2.2.1, hk.1.1.2.2.2⟩⟩⟩⟩, hk.2⟩)) hg hat)
                have n6_ := Aside0.mk (blk_grown (g := gb199) (o := .cells #[.int .i64 ((rd_T28 l0 0).f0), .slice A198_1 ((rd_T28 l0 0).f1).length c198_1] 28 (0, 0)) zK hg (Kd.N_ne HO202.out BK199.out (by decide)))
                have n7_ := Aside0.mk (Kd.N_afterv (ok := (fun k_ => (P0_ k_ ∨ w.heap.size ≤ k_) ∧ some k_ ≠ (v196 : Value).ownBlock ∧ k_ ≠ gb186 ∧ k_ ≠ gb199)) (by (with_reducible repeat (first | apply Kd.N_alloc | apply Kd.N_drewN | apply Kd.N_drew)); exact HO208.out) hg hat)
                have n8_ := Aside0.mk (hb)
                have n9_ := Aside0.mk (ho)
                clear HO_0
                clear HL185_1
                clear BK186
                clear HO194
                clear HO197
                clear HL198_1
                clear BK199
                clear HO208
                clear HB
                clear HO202
                have HO_0 := n0_
                have HL185_1 := n1_
                have BK186 := n2_
                have HO194 := n3_
                have HO197 := n4_
                have HL198_1 := n5_
                have BK199 := n6_
                have HO208 := n7_
                have HB := n8_
                have HO205 := n9_
                clear n0_ n1_ n2_ n3_ n4_ n5_ n6_ n7_ n8_ n9_
                clear ho hb hg hat
                refine hK.out _ _ ⟨(blk_cell BK199.out 0).trans rfl, (blk_cell BK199.out 1).trans rfl⟩ (fun hHeld => ?_)
                clear hK K
                refine norm_ (a' := ?_) ?_ ?_
                rotate_left
                ·show Act.put _ (some 58) _ = _
                 simp only [Act.put, List.setIfInBounds_toArray, List.set_cons_zero, List.set_cons_succ, i64_w, i32_w]
                 rfl
                exact norm_ (by simp only [putAll, Act.put, List.setIfInBounds_toArray, List.set_cons_zero, List.set_cons_succ]) (hCont (v201, v204, v207) _ ⟨hHeld, (by (with_reducible repeat (first | apply Kd.V_alloc | apply Kd.V_drewN | apply Kd.V_drew)); exact Kd.V_mono HL185_1.out (fun _ hk => ⟨hk.1.1, ⟨hk.1.2.1, ⟨hk.2, ⟨hk.1.2.2.1, ⟨hk.1.2.2.2.1, hk.1.2.2.2.2⟩⟩⟩⟩⟩)), (by (with_reducible repeat (first | apply Kd.V_alloc | apply Kd.V_drewN | apply Kd.V_drew)); exact Kd.V_mono HL198_1.out (fun _ hk => ⟨hk.1.1, ⟨hk.1.2.1, ⟨hk.2, ⟨hk.1.2.2.1, ⟨hk.1.2.2.2.1, hk.1.2.2.2.2⟩⟩⟩⟩⟩)), (by (with_reducible repeat (first | apply Kd.V_alloc | apply Kd.V_drewN | apply Kd.V_drew)); exact Kd.V_mono HO194.out (fun _ hk => ⟨hk.1.1, ⟨hk.1.2.1, ⟨hk.2, ⟨hk.1.2.2.1, ⟨hk.1.2.2.2.1, hk.1.2.2.2.2⟩⟩⟩⟩⟩)), (by (with_reducible repeat (first | apply Kd.N_alloc | apply Kd.N_drewN | apply Kd.N_drew)); exact Kd.N_mono HO197.out (fun _ hk => ⟨hk.1.1, ⟨hk.2, ⟨hk.1.2.1, ⟨hk.1.2.2.1, hk.1.2.2.2⟩⟩⟩⟩)), (by (with_reducible repeat (first | apply Kd.N_alloc | apply Kd.N_drewN | apply Kd.N_drew)); exact HO205.out), (by (with_reducible repeat (first | apply Kd.N_alloc | apply Kd.N_drewN | apply Kd.N_drew)); exact Kd.N_mono HO208.out (fun _ hk => ⟨hk.1.1, ⟨hk.1.2.1, ⟨hk.2, ⟨hk.1.2.2.1, hk.1.2.2.2⟩⟩⟩⟩)), (by (with_reducible repeat (first | apply Kd.V_alloc | apply Kd.V_drewN | apply Kd.V_drew)); exact Kd.V_mono HO_0.out (fun _ hk => ⟨hk.1.1, ⟨hk.1.2.1, ⟨hk.2, ⟨hk.1.2.2.1, ⟨hk.1.2.2.2.1, hk.1.2.2.2.2⟩⟩⟩⟩⟩)), zK, zK, zG⟩)
              rintro ⟨v201, v204, v207⟩ w48 ⟨hS_, h0_, h1_, h2_, h3_, h4_, h5_, h6_, h7_, h8_, h9_⟩
              have n0_ : Aside0 (Kd.V k31 31 w48 w.heap.size (fun k_ => (P0_ k_ ∨ w.heap.size ≤ k_) ∧ some k_ ≠ (v196 : Value).ownBlock ∧ some k_ ≠ (v204 : Value).ownBlock ∧ some k_ ≠ (v207 : Value).ownBlock ∧ k_ ≠ gb186 ∧ k_ ≠ gb199) (.slice A185_1 ((rd_T28 l0 0).f1).length c185_1) ((rd_T28 l0 0).f1)) := ⟨h0_⟩
              have n1_ : Aside0 (Kd.V k31 31 w48 w.heap.size (fun k_ => (P0_ k_ ∨ w.heap.size ≤ k_) ∧ some k_ ≠ (v196 : Value).ownBlock ∧ some k_ ≠ (v204 : Value).ownBlock ∧ some k_ ≠ (v207 : Value).ownBlock ∧ k_ ≠ gb186 ∧ k_ ≠ gb199) (.slice A198_1 ((rd_T28 l0 0).f1).length c198_1) ((rd_T28 l0 0).f1)) := ⟨h1_⟩
              have n2_ : Aside0 (Kd.V k28 28 w48 w.heap.size (fun k_ => (P0_ k_ ∨ w.heap.size ≤ k_) ∧ some k_ ≠ (v196 : Value).ownBlock ∧ some k_ ≠ (v204 : Value).ownBlock ∧ some k_ ≠ (v207 : Value).ownBlock ∧ k_ ≠ gb186 ∧ k_ ≠ gb199) (.slice A34 y190.length c34) y190) := ⟨h2_⟩
              have n3_ : Aside0 (Kd.N k28 28 w48 w.heap.size (fun k_ => (P0_ k_ ∨ w.heap.size ≤ k_) ∧ some k_ ≠ (v204 : Value).ownBlock ∧ some k_ ≠ (v207 : Value).ownBlock ∧ k_ ≠ gb186 ∧ k_ ≠ gb199) v196 y195) := ⟨h3_⟩
              have n4_ : Aside0 (Kd.N k31 31 w48 w.heap.size (fun k_ => (P0_ k_ ∨ w.heap.size ≤ k_) ∧ some k_ ≠ (v196 : Value).ownBlock ∧ some k_ ≠ (v207 : Value).ownBlock ∧ k_ ≠ gb186 ∧ k_ ≠ gb199) v204 y203) := ⟨h4_⟩
              have n5_ : Aside0 (Kd.N k31 31 w48 w.heap.size (fun k_ => (P0_ k_ ∨ w.heap.size ≤ k_) ∧ some k_ ≠ (v196 : Value).ownBlock ∧ some k_ ≠ (v204 : Value).ownBlock ∧ k_ ≠ gb186 ∧ k_ ≠ gb199) v207 y206) := ⟨h5_⟩
              have n6_ : Aside0 (Kd.V k28 28 w48 w.heap.size (fun k_ => (P0_ k_ ∨ w.heap.size ≤ k_) ∧ some k_ ≠ (v196 : Value).ownBlock ∧ some k_ ≠ (v204 : Value).ownBlock ∧ some k_ ≠ (v207 : Value).ownBlock ∧ k_ ≠ gb186 ∧ k_ ≠ gb199) (.slice (some ad185) l0.length c0) l0) := ⟨h6_⟩
              have n7_ : Aside0 (w48.heap[gb186]? = some (.cells #[.int .i64 (wrap64 (((rd_T28 l0 0).f0) + a1)), .slice A185_1 ((rd_T28 l0 0).f1).length c185_1] 28 (0, 0))) := ⟨h7_⟩
              have n8_ : Aside0 (w48.heap[gb199]? = some (.cells #[.int .i64 ((rd_T28 l0 0).f0), .slice A198_1 ((rd_T28 l0 0).f1).length c198_1] 28 (0, 0))) := ⟨h8_⟩
              have n9_ : Aside0 (Below w.heap.size w w48) := ⟨h9_⟩
              clear HO_0
              clear HL185_1
              clear HO194
              clear HO197
              clear HL198_1
              clear BK186
              clear BK199
              clear HB
              clear h0_ h1_ h2_ h3_ h4_ h5_ h6_ h7_ h8_ h9_
              have HL185_1 := n0_
              have HL198_1 := n1_
              have HO194 := n2_
              have HO197 := n3_
              have HO205 := n4_
              have HO208 := n5_
              have HO_0 := n6_
              have BK186 := n7_
              have BK199 := n8_
              have HB := n9_
              clear n0_ n1_ n2_ n3_ n4_ n5_ n6_ n7_ n8_ n9_
              have hHeld : w48.cell? ⟨gb199, 0, none⟩ = some (.int .i64 ((rd_T28 l0 0).f0)) ∧ w48.cell? ⟨gb199, 1, none⟩ = some (.slice A198_1 ((rd_T28 l0 0).f1).length c198_1) := hS_
              obtain ⟨Ao50, co50, eo50⟩ := Kd.N_slice HO208.out
              (first | subst eo50 | (injection eo50 with f1_ f2_ f3_; have f4_ := f1_.symm; have f5_ := f3_.symm; clear f1_ f2_ f3_; subst f4_; subst f5_))
              refine norm_ (a' := ?_) ?_ ?_
              rotate_left
              ·simp only [putAll, Act.put, List.setIfInBounds_toArray, List.set_cons_zero, List.set_cons_succ]
               rfl
              refine one_ (i := 10) (N := some 61) #[true, true, true, true, true, true, true, true, true, true, true, false, false] rfl rfl (one_of HT_.out (by kernel_rfl)) (by decide) (fun K hK => ?_)
              refine Kd.N_append_rows_step k31 (w0 := w) w.heap.size (by rfl) (.tmp 58) (.tmp 60) 26 31 (.agg #[(.int .i64 0), (.int .i64 0), (.int .i64 0), (.int .i64 0), (.int .i64 0), (.string ⟨#[]⟩), (.int .i64 0), (.slice none 0 0)]) 88 rfl Tryz.underlying26 info31 rfl (by decide) (by omega) v204 y203 y206 _ _ _ (fun k_ => (P0_ k_ ∨ w.heap.size ≤ k_) ∧ some k_ ≠ (v196 : Value).ownBlock ∧ k_ ≠ gb186 ∧ k_ ≠ gb199) (fun k_ => ((fun k_ => (P0_ k_ ∨ w.heap.size ≤ k_) ∧ some k_ ≠ (v196 : Value).ownBlock ∧ k_ ≠ gb186 ∧ k_ ≠ gb199)) k_ ∧ some k_ ≠ (v204 : Value).ownBlock) rfl rfl ?aO ?aR (fun _ hk => hk) ?aF ?aB ?aS ?aL ?_
              (case aR => exact (by skip; exact Kd.N_F (Kd.N_mono (ok' := (fun k_ => ((fun k_ => (P0_ k_ ∨ w.heap.size ≤ k_) ∧ some k_ ≠ (v196 : Value).ownBlock ∧ k_ ≠ gb186 ∧ k_ ≠ gb199)) k_ ∧ some k_ ≠ (v204 : Value).ownBlock)) (HO208.out) (fun k_ hk => ⟨⟨hk.1, ⟨hk.2.1, ⟨hk.2.2.2.1, hk.2.2.2.2⟩⟩⟩, hk.2.2.1⟩))))
              (case aB => exact zG)
              (case aF => exact (fun k_ hk => ⟨(.inr (Nat.le_trans (below_size zG) hk)), Kd.fresh' (Kd.N_lt (by (with_reducible repeat (first | apply Kd.N_alloc | apply Kd.N_drewN | apply Kd.N_drew)); exact HO197.out)) k_ hk, Kd.freshB (g := gb186) (o := .cells #[.int .i64 (wrap64 (((rd_T28 l0 0).f0) + a1)), .slice A185_1 ((rd_T28 l0 0).f1).length c185_1] 28 (0, 0)) zK k_ hk, Kd.freshB (g := gb199) (o := .cells #[.int .i64 ((rd_T28 l0 0).f0), .slice A198_1 ((rd_T28 l0 0).f1).length c198_1] 28 (0, 0)) zK k_ hk⟩))
              (case aO => exact (by (with_reducible repeat (first | apply Kd.N_alloc | apply Kd.N_drewN | apply Kd.N_drew)); exact Kd.N_mono HO205.out (fun _ hk => ⟨hk.1, ⟨hk.2.1, ⟨hk.2.2.2.1, hk.2.2.2.2⟩⟩⟩)))
              (case aS => exact (below_size zG))
              (case aL => have := LMc23.out; omega)
              intro v210 w49 ho hb hg hat
              rw [← Ny209.out] at ho
              have n0_ := Aside0.mk (Kd.V_afterv (ok := (fun k_ => (P0_ k_ ∨ w.heap.size ≤ k_) ∧ some k_ ≠ (v196 : Value).ownBlock ∧ some k_ ≠ (.slice Ao50 y206.length co50 : Value).ownBlock ∧ k_ ≠ gb186 ∧ k_ ≠ gb199)) (by (with_reducible repeat (first | apply Kd.V_alloc | apply Kd.V_drewN | apply Kd.V_drew)); exact Kd.V_mono HO_0.out (fun _ hk => ⟨⟨hk.1, ⟨hk.2.1, ⟨hk.2.2.2.1, ⟨hk.2.2.2.2.1, hk.2.2.2.2.2⟩⟩⟩⟩, hk.2.2.1⟩)) hg hat)
              have n1_ := Aside0.mk (Kd.V_afterv (ok := (fun k_ => (P0_ k_ ∨ w.heap.size ≤ k_) ∧ some k_ ≠ (v196 : Value).ownBlock ∧ some k_ ≠ (.slice Ao50 y206.length co50 : Value).ownBlock ∧ k_ ≠ gb186 ∧ k_ ≠ gb199)) (by (with_reducible repeat (first | apply Kd.V_alloc | apply Kd.V_drewN | apply Kd.V_drew)); exact Kd.V_mono HL185_1.out (fun _ hk => ⟨⟨hk.1, ⟨hk.2.1, ⟨hk.2.2.2.1, ⟨hk.2.2.2.2.1, hk.2.2.2.2.2⟩⟩⟩⟩, hk.2.2.1⟩)) hg hat)
              have n2_ := Aside0.mk (blk_grown (g := gb186) (o := .cells #[.int .i64 (wrap64 (((rd_T28 l0 0).f0) + a1)), .slice A185_1 ((rd_T28 l0 0).f1).length c185_1] 28 (0, 0)) zK hg (Kd.N_ne HO205.out BK186.out (by decide)))
              have n3_ := Aside0.mk (Kd.V_afterv (ok := (fun k_ => (P0_ k_ ∨ w.heap.size ≤ k_) ∧ some k_ ≠ (v196 : Value).ownBlock ∧ some k_ ≠ (.slice Ao50 y206.length co50 : Value).ownBlock ∧ k_ ≠ gb186 ∧ k_ ≠ gb199)) (by (with_reducible repeat (first | apply Kd.V_alloc | apply Kd.V_drewN | apply Kd.V_drew)); exact Kd.V_mono HO194.out (fun _ hk => ⟨⟨hk.1, ⟨hk.2.1, ⟨hk.2.2.2.1, ⟨hk.2.2.2.2.1, hk.2.2.2.2.2⟩⟩⟩⟩, hk.2.2.1⟩)) hg hat)
              have n4_ := Aside0.mk (Kd.N_afterv (ok := (fun k_ => (P0_ k_ ∨ w.heap.size ≤ k_) ∧ some k_ ≠ (.slice Ao50 y206.length co50 : Value).ownBlock ∧ k_ ≠ gb186 ∧ k_ ≠ gb199)) (by (with_reducible repeat (first | apply Kd.N_alloc | apply Kd.N_drewN | apply Kd.N_drew)); exact Kd.N_mono HO197.out (fun _ hk => ⟨⟨hk.1, ⟨hk.2.2.1, ⟨hk.2.2.2.1, hk.2.2.2.2⟩⟩⟩, hk.2.1⟩)) hg hat)
              have n5_ := Aside0.mk (Kd.V_afterv (ok := (fun k_ => (P0_ k_ ∨ w.heap.size ≤ k_) ∧ some k_ ≠ (v196 : Value).ownBlock ∧ some k_ ≠ (.slice Ao50 y206.length co50 : Value).ownBlock ∧ k_ ≠ gb186 ∧ k_ ≠ gb199)) (by (with_reducible repeat (first | apply Kd.V_alloc | apply Kd.V_drewN | apply Kd.V_drew)); exact Kd.V_mono HL198_1.out (fun _ hk => ⟨⟨hk.1, ⟨hk.2.1, ⟨hk.2.2.2.1, ⟨hk.2.2.2.2.1, hk.2.2.2.2.2⟩⟩⟩⟩, hk.2.2.1⟩)) hg hat)
              have n6_ := Aside0.mk (blk_grown (g := gb199) (o := .cells #[.int .i64 ((rd_T28 l0 0).f0), .slice A198_1 ((rd_T28 l0 0).f1).length c198_1] 28 (0, 0)) zK hg (Kd.N_ne HO205.out BK199.out (by decide)))
              have n7_ := Aside0.mk (Kd.N_afterv (ok := (fun k_ => (P0_ k_ ∨ w.heap.size ≤ k_) ∧ some k_ ≠ (v196 : Value).ownBlock ∧ k_ ≠ gb186 ∧ k_ ≠ gb199)) (by (with_reducible repeat (first | apply Kd.N_alloc | apply Kd.N_drewN | apply Kd.N_drew)); exact Kd.N_mono HO208.out (fun _ hk => ⟨⟨hk.1, ⟨hk.2.1, ⟨hk.2.2.2.1, hk.2.2.2.2⟩⟩⟩, hk.2.2.1⟩)) hg hat)
              have n8_ := Aside0.mk (hb)
              have n9_ := Aside0.mk (ho)
              clear HO_0
              clear HL185_1
              clear BK186
              clear HO194
              clear HO197
              clear HL198_1
              clear BK199
              clear HO208
              clear HB
              clear HO205
              have HO_0 := n0_
              have HL185_1 := n1_
              have BK186 := n2_
              have HO194 := n3_
              have HO197 := n4_
              have HL198_1 := n5_
              have BK199 := n6_
              have HO208 := n7_
              have HB := n8_
              have HO211 := n9_
              clear n0_ n1_ n2_ n3_ n4_ n5_ n6_ n7_ n8_ n9_
              clear ho hb hg hat
              obtain ⟨Ao51, co51, eo51⟩ := Kd.N_slice HO211.out
              (first | subst eo51 | (injection eo51 with f1_ f2_ f3_; have f4_ := f1_.symm; have f5_ := f3_.symm; clear f1_ f2_ f3_; subst f4_; subst f5_))
              refine hK.out _ _ ⟨(blk_cell BK199.out 0).trans rfl, (blk_cell BK199.out 1).trans rfl⟩ (fun hHeld => ?_)
              clear hK K
              refine norm_ (a' := ?_) ?_ ?_
              rotate_left
              ·show Act.put _ (some 61) _ = _
               simp only [Act.put, List.setIfInBounds_toArray, List.set_cons_zero, List.set_cons_succ, i64_w, i32_w]
               rfl
              refine pure_ (i := 11) (N := some 62) (v := ?_) (a' := ?_) #[true, true, true, true, true, true, true, true, true, true, true, true, false] rfl rfl (any_of HT_.out (by kernel_rfl)) (fun _ _ _ h => h) (Or.inl ⟨by rfl, ?_⟩) ?_ ?_
              rotate_left
              ·intro w'
               go_simp
               with_reducible rfl
              rotate_left
              ·simp only [Act.put, List.setIfInBounds_toArray, List.set_cons_zero, List.set_cons_succ, i64_w, i32_w]
               rfl
              refine last_ (i := 12) (N := none) #[true, true, true, true, true, true, true, true, true, true, true, true, true] rfl rfl (one_of HT_.out (by kernel_rfl)) (by decide) (fun K hK => ?_)
              have hs52 : w49.cell? ⟨gb199, 1, none⟩ = some (.slice A198_1 ((rd_T28 l0 0).f1).length c198_1) := (blk_cell BK199.out 1).trans rfl
              have hfs52 := blk_frozen BK199.out 1
              have hns52_0 := NB186_199.out
              have hms52_0 := NB199_186.out
              refine skip_ (w1 := ?_) (by rfl) rfl ?_ ?_
              rotate_left
              ·go_simp
               rfl
              refine hK.out _ _ ?_
              clear hK K
              refine done_ (done_of HT_.out (by kernel_rfl)) ?_
              try go_wp2
              have n0_ : Aside0 (Kd.V k28 28 (w49.setCell ⟨gb199, 1, none⟩ (.slice Ao51 y209.length co51)) w.heap.size (fun k_ => (P0_ k_ ∨ w.heap.size ≤ k_) ∧ some k_ ≠ (v196 : Value).ownBlock ∧ some k_ ≠ (.slice Ao50 y206.length co50 : Value).ownBlock ∧ some k_ ≠ (.slice Ao51 y209.length co51 : Value).ownBlock ∧ k_ ≠ gb186 ∧ k_ ≠ gb199) (.slice (some ad185) l0.length c0) l0) := ⟨by (with_reducible repeat (first | apply Kd.V_alloc | apply Kd.V_drewN | apply Kd.V_drew)); exact Kd.V_mono (Kd.V_far (p := ⟨gb199, 1, none⟩) (Kd.V_mono HO_0.out (fun k_ hk => (⟨hk, hk.1.2.2.2.2⟩ : _ ∧ k_ ≠ gb199))) (fun _ hk => hk.2) (.slice Ao51 y209.length co51)) (fun _ hk => ⟨hk.1.1.1, ⟨hk.1.1.2.1, ⟨hk.1.1.2.2.1, ⟨hk.1.2, ⟨hk.1.1.2.2.2.1, hk.1.1.2.2.2.2⟩⟩⟩⟩⟩)⟩
              have n1_ : Aside0 (Kd.V k31 31 (w49.setCell ⟨gb199, 1, none⟩ (.slice Ao51 y209.length co51)) w.heap.size (fun k_ => (P0_ k_ ∨ w.heap.size ≤ k_) ∧ some k_ ≠ (v196 : Value).ownBlock ∧ some k_ ≠ (.slice Ao50 y206.length co50 : Value).ownBlock ∧ some k_ ≠ (.slice Ao51 y209.length co51 : Value).ownBlock ∧ k_ ≠ gb186 ∧ k_ ≠ gb199) (.slice A185_1 ((rd_T28 l0 0).f1).length c185_1) ((rd_T28 l0 0).f1)) := ⟨by (with_reducible repeat (first | apply Kd.V_alloc | apply Kd.V_drewN | apply Kd.V_drew)); exact Kd.V_mono (Kd.V_far (p := ⟨gb199, 1, none⟩) (Kd.V_mono HL185_1.out (fun k_ hk => (⟨hk, hk.1.2.2.2.2⟩ : _ ∧ k_ ≠ gb199))) (fun _ hk => hk.2) (.slice Ao51 y209.length co51)) (fun _ hk => ⟨hk.1.1.1, ⟨hk.1.1.2.1, ⟨hk.1.1.2.2.1, ⟨hk.1.2, ⟨hk.1.1.2.2.2.1, hk.1.1.2.2.2.2⟩⟩⟩⟩⟩)⟩
              have n2_ : Aside0 (Kd.V k28 28 (w49.setCell ⟨gb199, 1, none⟩ (.slice Ao51 y209.length co51)) w.heap.size (fun k_ => (P0_ k_ ∨ w.heap.size ≤ k_) ∧ some k_ ≠ (v196 : Value).ownBlock ∧ some k_ ≠ (.slice Ao50 y206.length co50 : Value).ownBlock ∧ some k_ ≠ (.slice Ao51 y209.length co51 : Value).ownBlock ∧ k_ ≠ gb186 ∧ k_ ≠ gb199) (.slice A34 y190.length c34) y190) := ⟨by (with_reducible repeat (first | apply Kd.V_alloc | apply Kd.V_drewN | apply Kd.V_drew)); exact Kd.V_mono (Kd.V_far (p := ⟨gb199, 1, none⟩) (Kd.V_mono HO194.out (fun k_ hk => (⟨hk, hk.1.2.2.2.2⟩ : _ ∧ k_ ≠ gb199))) (fun _ hk => hk.2) (.slice Ao51 y209.length co51)) (fun _ hk => ⟨hk.1.1.1, ⟨hk.1.1.2.1, ⟨hk.1.1.2.2.1, ⟨hk.1.2, ⟨hk.1.1.2.2.2.1, hk.1.1.2.2.2.2⟩⟩⟩⟩⟩)⟩
              have n3_ : Aside0 (Kd.N k28 28 (w49.setCell ⟨gb199, 1, none⟩ (.slice Ao51 y209.length co51)) w.heap.size (fun k_ => (P0_ k_ ∨ w.heap.size ≤ k_) ∧ some k_ ≠ (.slice Ao50 y206.length co50 : Value).ownBlock ∧ some k_ ≠ (.slice Ao51 y209.length co51 : Value).ownBlock ∧ k_ ≠ gb186 ∧ k_ ≠ gb199) v196 y195) := ⟨by (with_reducible repeat (first | apply Kd.N_alloc | apply Kd.N_drewN | apply Kd.N_drew)); exact Kd.N_mono (Kd.N_far (p := ⟨gb199, 1, none⟩) (Kd.N_mono HO197.out (fun k_ hk => (⟨hk, hk.1.2.2.2⟩ : _ ∧ k_ ≠ gb199))) (fun _ hk => hk.2) (.slice Ao51 y209.length co51)) (fun _ hk => ⟨hk.1.1.1, ⟨hk.1.1.2.1, ⟨hk.1.2, ⟨hk.1.1.2.2.1, hk.1.1.2.2.2⟩⟩⟩⟩)⟩
              have n4_ : Aside0 (Kd.V k31 31 (w49.setCell ⟨gb199, 1, none⟩ (.slice Ao51 y209.length co51)) w.heap.size (fun k_ => (P0_ k_ ∨ w.heap.size ≤ k_) ∧ some k_ ≠ (v196 : Value).ownBlock ∧ some k_ ≠ (.slice Ao50 y206.length co50 : Value).ownBlock ∧ some k_ ≠ (.slice Ao51 y209.length co51 : Value).ownBlock ∧ k_ ≠ gb186 ∧ k_ ≠ gb199) (.slice A198_1 ((rd_T28 l0 0).f1).length c198_1) ((rd_T28 l0 0).f1)) := ⟨by (with_reducible repeat (first | apply Kd.V_alloc | apply Kd.V_drewN | apply Kd.V_drew)); exact Kd.V_mono (Kd.V_far (p := ⟨gb199, 1, none⟩) (Kd.V_mono HL198_1.out (fun k_ hk => (⟨hk, hk.1.2.2.2.2⟩ : _ ∧ k_ ≠ gb199))) (fun _ hk => hk.2) (.slice Ao51 y209.length co51)) (fun _ hk => ⟨hk.1.1.1, ⟨hk.1.1.2.1, ⟨hk.1.1.2.2.1, ⟨hk.1.2, ⟨hk.1.1.2.2.2.1, hk.1.1.2.2.2.2⟩⟩⟩⟩⟩)⟩
              have n5_ : Aside0 (Kd.N k31 31 (w49.setCell ⟨gb199, 1, none⟩ (.slice Ao51 y209.length co51)) w.heap.size (fun k_ => (P0_ k_ ∨ w.heap.size ≤ k_) ∧ some k_ ≠ (v196 : Value).ownBlock ∧ some k_ ≠ (.slice Ao51 y209.length co51 : Value).ownBlock ∧ k_ ≠ gb186 ∧ k_ ≠ gb199) (.slice Ao50 y206.length co50) y206) := ⟨by (with_reducible repeat (first | apply Kd.N_alloc | apply Kd.N_drewN | apply Kd.N_drew)); exact Kd.N_mono (Kd.N_far (p := ⟨gb199, 1, none⟩) (Kd.N_mono HO208.out (fun k_ hk => (⟨hk, hk.1.2.2.2⟩ : _ ∧ k_ ≠ gb199))) (fun _ hk => hk.2) (.slice Ao51 y209.length co51)) (fun _ hk => ⟨hk.1.1.1, ⟨hk.1.1.2.1, ⟨hk.1.2, ⟨hk.1.1.2.2.1, hk.1.1.2.2.2⟩⟩⟩⟩)⟩
              have n6_ : Aside0 (Kd.N k31 31 (w49.setCell ⟨gb199, 1, none⟩ (.slice Ao51 y209.length co51)) w.heap.size (fun k_ => (P0_ k_ ∨ w.heap.size ≤ k_) ∧ some k_ ≠ (v196 : Value).ownBlock ∧ k_ ≠ gb186 ∧ k_ ≠ gb199) (.slice Ao51 y209.length co51) y209) := ⟨by (with_reducible repeat (first | apply Kd.N_alloc | apply Kd.N_drewN | apply Kd.N_drew)); exact Kd.N_mono (Kd.N_far (p := ⟨gb199, 1, none⟩) (Kd.N_mono HO211.out (fun k_ hk => (⟨hk, hk.2.2.2⟩ : _ ∧ k_ ≠ gb199))) (fun _ hk => hk.2) (.slice Ao51 y209.length co51)) (fun _ hk => ⟨hk.1.1, ⟨hk.1.2.1, ⟨hk.1.2.2.1, hk.1.2.2.2⟩⟩⟩)⟩
              have n7_ : Aside0 ((w49.setCell ⟨gb199, 1, none⟩ (.slice Ao51 y209.length co51)).heap[gb186]? = some (.cells #[.int .i64 (wrap64 (((rd_T28 l0 0).f0) + a1)), .slice A185_1 ((rd_T28 l0 0).f1).length c185_1] 28 (0, 0))) := ⟨by (with_reducible repeat (first | refine blk_drewN ?_ _ | refine blk_drew ?_ | refine blk_alloc ?_ _)); refine blk_far ?_ NB186_199.out _; (with_reducible repeat (first | refine blk_drewN ?_ _ | refine blk_drew ?_ | refine blk_alloc ?_ _)); exact BK186.out⟩
              have n8_ : Aside0 ((w49.setCell ⟨gb199, 1, none⟩ (.slice Ao51 y209.length co51)).heap[gb199]? = some (.cells #[.int .i64 ((rd_T28 l0 0).f0), .slice Ao51 y209.length co51] 28 (0, 0))) := ⟨by (with_reducible repeat (first | refine blk_drewN ?_ _ | refine blk_drew ?_ | refine blk_alloc ?_ _)); refine blk_put (cs := #[.int .i64 ((rd_T28 l0 0).f0), .slice A198_1 ((rd_T28 l0 0).f1).length c198_1]) ?_ 1 _ rfl; (with_reducible repeat (first | refine blk_drewN ?_ _ | refine blk_drew ?_ | refine blk_alloc ?_ _)); exact BK199.out⟩
              have n9_ : Aside0 (Below w.heap.size w (w49.setCell ⟨gb199, 1, none⟩ (.slice Ao51 y209.length co51))) := ⟨zG⟩
              (try clear HO_0)
              (try clear HL185_1)
              (try clear HO194)
              (try clear HO197)
              (try clear HL198_1)
              (try clear HO208)
              (try clear HO211)
              (try clear BK186)
              (try clear BK199)
              (try clear HB)
              generalize (w49.setCell ⟨gb199, 1, none⟩ (.slice Ao51 y209.length co51)) = w53 at n0_ n1_ n2_ n3_ n4_ n5_ n6_ n7_ n8_ n9_ ⊢
              have HO_0 := n0_
              have HL185_1 := n1_
              have HO194 := n2_
              have HO197 := n3_
              have HL198_1 := n4_
              have HO208 := n5_
              have HO211 := n6_
              have BK186 := n7_
              have BK199 := n8_
              have HB := n9_
              clear n0_ n1_ n2_ n3_ n4_ n5_ n6_ n7_ n8_ n9_
              have n0_ := Aside0.mk (Kd.V_drew HO_0.out)
              have n1_ := Aside0.mk (Kd.V_drew HL185_1.out)
              have n2_ := Aside0.mk (Kd.V_drew HO194.out)
              have n3_ := Aside0.mk (Kd.N_drew HO197.out)
              have n4_ := Aside0.mk (Kd.V_drew HL198_1.out)
              have n5_ := Aside0.mk (Kd.N_drew HO208.out)
              have n6_ := Aside0.mk (Kd.N_drew HO211.out)
              have n7_ := Aside0.mk (blk_drew BK186.out)
              have n8_ := Aside0.mk (blk_drew BK199.out)
              have n9_ := Aside0.mk (below_drew1 HB.out)
              clear HO_0
              clear HL185_1
              clear HO194
              clear HO197
              clear HL198_1
              clear HO208
              clear HO211
              clear BK186
              clear BK199
              clear HB
              have HO_0 := n0_
              have HL185_1 := n1_
              have HO194 := n2_
              have HO197 := n3_
              have HL198_1 := n4_
              have HO208 := n5_
              have HO211 := n6_
              have BK186 := n7_
              have BK199 := n8_
              have HB := n9_
              clear n0_ n1_ n2_ n3_ n4_ n5_ n6_ n7_ n8_ n9_
              have q55 : (1 : Int) ≤ ((l0.length : Int) : Int) := of_decide_eq_true zA
              obtain ⟨i055, hi055, _, hsz55, _⟩ := info_parts info28
              have hroom55 : l0.length ≤ c0 := (Kd.V_reads' HO_0.out).2.1
              have hC55 : Kd.F k28 _ _ (some ad185) l0.length l0 := (Kd.V_at (base := w.heap.size) HO_0.out).2.2
              clear hcut34
              have hcut55 := cut_from (P := Tryz.prog) 22 28 .i64 Tryz.underlying22 hi055 2 hsz55 (some ad185) l0.length c0 1 (by omega) q55
              have hr55 := Kd.F_cut (m := (1 : Int).toNat) (c := c0) hC55 (by omega) hroom55
              obtain ⟨A55, hA55⟩ : ∃ A1, A1 = (if c0 = (1 : Int).toNat then (some ad185) else ((some ad185) : Option Addr).map (·.add ((1 : Int).toNat * 2))) := ⟨_, rfl⟩
              obtain ⟨c55, hc55⟩ : ∃ c1, c1 = c0 - (1 : Int).toNat := ⟨_, rfl⟩
              have hy55 : y215.length = l0.length - (1 : Int).toNat := (by rw [Ny215.out, List.length_drop] <;> omega)
              rw [show (l0).drop (1 : Int).toNat = y215 from Ny215.out.symm] at hr55
              replace hr55 : Kd.F k28 _ _ A55 y215.length y215 := (by rw [hA55]; exact hr55)
              rw [← hy55, ← hA55, ← hc55] at hcut55
              have HO219 := Aside0.mk (show Kd.V k28 28 _ w.heap.size _ (.slice A55 y215.length c55) y215 from Kd.V_mk (by rw [hy55, hc55]; exact Nat.sub_le_sub_right hroom55 _) hr55)
              have HC219 := Aside0.mk (show y215.length ≤ c55 from by rw [hy55, hc55]; exact Nat.sub_le_sub_right hroom55 _)
              clear hr55 hC55 hroom55 hi055 hsz55 hc55
              have KY55 := Aside0.mk hy55
              have KA55 := Aside0.mk hA55
              clear hy55 hA55
              replace q55 := eq_true q55
              refine start_ (n := 6) (S := fun w' => w'.cell? ⟨gb199, 0, none⟩ = some (.int .i64 ((rd_T28 l0 0).f0)) ∧ w'.cell? ⟨gb199, 1, none⟩ = some (.slice Ao51 y209.length co51)) (ds := []) #[false, false, false, false, false, false] (by kernel_rfl) rfl rfl ⟨(blk_cell BK199.out 0).trans rfl, (blk_cell BK199.out 1).trans rfl⟩ (fun hHeld => ?_)
              generalize w53.drew = w54 at HO_0 HL185_1 HO194 HO197 HL198_1 HO208 HO211 BK186 BK199 HB HO219 hHeld ⊢
              refine pure_ (i := 2) (N := some 65) (v := ?_) (a' := ?_) #[false, false, true, false, false, false] rfl rfl (by kernel_rfl) (fun _ _ _ h => h) (Or.inl ⟨by rfl, ?_⟩) ?_ ?_
              rotate_left
              ·intro w'
               go_simp
               with_reducible rfl
              rotate_left
              ·simp only [Act.put, List.setIfInBounds_toArray, List.set_cons_zero, List.set_cons_succ, i64_w, i32_w]
               rfl
              refine pure_ (i := 3) (N := some 66) (v := ?_) (a' := ?_) #[false, false, true, true, false, false] rfl rfl (by kernel_rfl) (fun _ _ _ h => h) (Or.inl ⟨by rfl, ?_⟩) ?_ ?_
              rotate_left
              ·intro w'
               go_simp
               with_reducible rfl
              rotate_left
              ·simp only [Act.put, List.setIfInBounds_toArray, List.set_cons_zero, List.set_cons_succ, i64_w, i32_w]
               rfl
              refine take_ (i := 0) (N := some 63) (v := ?_) (a' := ?_) #[true, false, true, true, false, false] rfl rfl (by kernel_rfl) (fun _ _ _ h => h) (Or.inl ⟨by rfl, ?_⟩) hHeld ?_ ?_
              rotate_left
              ·rintro w' ⟨s0, s1⟩
               go_simp
               with_reducible rfl
              rotate_left
              ·simp only [Act.put, List.setIfInBounds_toArray, List.set_cons_zero, List.set_cons_succ, i64_w, i32_w]
               rfl
              refine one_ (i := 1) (N := some 64) #[true, true, true, true, false, false] rfl rfl (by kernel_rfl) (by decide) (fun K hK => ?_)
              refine Kd.N_lit_step k28 _ 28 ?hg (N' := 64) ?hd (xs := ([(⟨(rd_T28 l0 0).f0, y209⟩ : S28)] : List (S28))) (inner := [.int .i64 ((rd_T28 l0 0).f0), .slice Ao51 y209.length co51]) (ok := (fun k_ => (P0_ k_ ∨ w.heap.size ≤ k_) ∧ some k_ ≠ (v196 : Value).ownBlock ∧ k_ ≠ gb186 ∧ k_ ≠ gb199)) (okp := (fun k_ => (P0_ k_ ∨ w.heap.size ≤ k_) ∧ some k_ ≠ (v196 : Value).ownBlock ∧ k_ ≠ gb186 ∧ k_ ≠ gb199)) ?hr ?hp (fun _ hk => hk) ((show ∀ k_, w54.heap.size ≤ k_ → (fun k_ => (P0_ k_ ∨ w.heap.size ≤ k_) ∧ some k_ ≠ (v196 : Value).ownBlock ∧ k_ ≠ gb186 ∧ k_ ≠ gb199) k_ from fun k_ hk => ⟨(.inr (Nat.le_trans (below_size zG) hk)), Kd.fresh' (Kd.N_lt (by (with_reducible repeat (first | apply Kd.N_alloc | apply Kd.N_drewN | apply Kd.N_drew)); exact HO197.out)) k_ hk, Kd.freshB (g := gb186) (o := .cells #[.int .i64 (wrap64 (((rd_T28 l0 0).f0) + a1)), .slice A185_1 ((rd_T28 l0 0).f1).length c185_1] 28 (0, 0)) zK k_ hk, Kd.freshB (g := gb199) (o := .cells #[.int .i64 ((rd_T28 l0 0).f0), .slice Ao51 y209.length co51] 28 (0, 0)) zK k_ hk⟩) _ (Nat.le_refl _)) (Below.refl _ _) (Nat.le_refl _) (by simp) ?_; (case hd => rfl); (case hg => rfl); (case hr => first | (go_simp; done) | (go_simp; rfl)); (case hp => exact (Reps.c2 (show Kd.FK k28 _ _ (⟨(rd_T28 l0 0).f0, y209⟩ : S28) [.int .i64 ((rd_T28 l0 0).f0), .slice Ao51 y209.length co51] from (k28_mkF _ _ (⟨(rd_T28 l0 0).f0, y209⟩ : S28) (Kd.N_reads' (Kd.N_mono (ok' := (fun k_ => (P0_ k_ ∨ w.heap.size ≤ k_) ∧ some k_ ≠ (v196 : Value).ownBlock ∧ k_ ≠ gb186 ∧ k_ ≠ gb199)) (HO211.out) (fun k_ hk => ⟨hk.1, ⟨hk.2.1, ⟨hk.2.2.1, hk.2.2.2⟩⟩⟩))).2.1 (Kd.N_F (Kd.N_mono (ok' := (fun k_ => (P0_ k_ ∨ w.heap.size ≤ k_) ∧ some k_ ≠ (v196 : Value).ownBlock ∧ k_ ≠ gb186 ∧ k_ ≠ gb199)) (HO211.out) (fun k_ hk => ⟨hk.1, ⟨hk.2.1, ⟨hk.2.2.1, hk.2.2.2⟩⟩⟩))))) (Reps.none _ _)))
              intro v213 w56 ho57 hb hg_ hnew_
              clear hg_ hnew_
              (first | rw [← Ny212.out] at ho57 | (simp only [Int.reduceToNat] at ho57; rw [← Ny212.out] at ho57))
              have n0_ := Aside0.mk (Kd.V_elder' (by (with_reducible repeat (first | apply Kd.V_alloc | apply Kd.V_drewN | apply Kd.V_drew)); exact HO_0.out) (Kd.N_base ho57) hb)
              have n1_ := Aside0.mk (Kd.V_elder' (by (with_reducible repeat (first | apply Kd.V_alloc | apply Kd.V_drewN | apply Kd.V_drew)); exact HL185_1.out) (Kd.N_base ho57) hb)
              have n2_ := Aside0.mk (Kd.V_elder' (by (with_reducible repeat (first | apply Kd.V_alloc | apply Kd.V_drewN | apply Kd.V_drew)); exact HO194.out) (Kd.N_base ho57) hb)
              have n3_ := Aside0.mk (Kd.N_elder' (by (with_reducible repeat (first | apply Kd.N_alloc | apply Kd.N_drewN | apply Kd.N_drew)); exact HO197.out) (Kd.N_base ho57) hb)
              have n4_ := Aside0.mk (Kd.V_elder' (by (with_reducible repeat (first | apply Kd.V_alloc | apply Kd.V_drewN | apply Kd.V_drew)); exact HL198_1.out) (Kd.N_base ho57) hb)
              have n5_ := Aside0.mk (Kd.N_elder' (by (with_reducible repeat (first | apply Kd.N_alloc | apply Kd.N_drewN | apply Kd.N_drew)); exact HO208.out) (Kd.N_base ho57) hb)
              have n6_ := Aside0.mk (Kd.V_elder' (by (with_reducible repeat (first | apply Kd.V_alloc | apply Kd.V_drewN | apply Kd.V_drew)); exact HO219.out) (Kd.N_base ho57) hb)
              have n7_ := Aside0.mk (Kd.N_lower ho57 (below_size zG))
              have n8_ := Aside0.mk (blk_below (g := gb186) zK hb)
              have n9_ := Aside0.mk (blk_below (g := gb199) zK hb)
              have n10_ := Aside0.mk (below_step zG hb)
              clear HO_0
              clear HL185_1
              clear HO194
              clear HO197
              clear HL198_1
              clear HO208
              clear HO219
              clear BK186
              clear BK199
              clear HB
              clear HO211
              have HO_0 := n0_
              have HL185_1 := n1_
              have HO194 := n2_
              have HO197 := n3_
              have HL198_1 := n4_
              have HO208 := n5_
              have HO219 := n6_
              have HO214 := n7_
              have BK186 := n8_
              have BK199 := n9_
              have HB := n10_
              clear n0_ n1_ n2_ n3_ n4_ n5_ n6_ n7_ n8_ n9_ n10_
              clear hb ho57
              refine hK.out _ _ ⟨(blk_cell BK199.out 0).trans rfl, (blk_cell BK199.out 1).trans rfl⟩ (fun hHeld => ?_)
              clear hK K
              refine norm_ (a' := ?_) ?_ ?_
              rotate_left
              ·show Act.put _ (some 64) _ = _
               simp only [Act.put, List.setIfInBounds_toArray, List.set_cons_zero, List.set_cons_succ, i64_w, i32_w]
               rfl
              refine one_ (i := 4) (N := some 67) #[true, true, true, true, true, false] rfl rfl (by kernel_rfl) (by decide) (fun K hK => ?_)
              refine Kd.N_append_rows_step k28 (w0 := w) w.heap.size (by rfl) (.tmp 64) (.tmp 66) 22 28 (.agg #[(.int .i64 0), (.slice none 0 0)]) 32 rfl Tryz.underlying22 info28 rfl (by decide) (by omega) v213 y212 y215 _ _ _ (fun k_ => (P0_ k_ ∨ w.heap.size ≤ k_) ∧ some k_ ≠ (v196 : Value).ownBlock ∧ k_ ≠ gb186 ∧ k_ ≠ gb199) (fun k_ => ((fun k_ => (P0_ k_ ∨ w.heap.size ≤ k_) ∧ some k_ ≠ (v196 : Value).ownBlock ∧ k_ ≠ gb186 ∧ k_ ≠ gb199)) k_ ∧ some k_ ≠ (v213 : Value).ownBlock) rfl rfl ?aO ?aR (fun _ hk => hk) ?aF ?aB ?aS ?aL ?_
              (case aR => exact (by skip; exact Kd.V_F (Kd.V_mono (ok' := (fun k_ => ((fun k_ => (P0_ k_ ∨ w.heap.size ≤ k_) ∧ some k_ ≠ (v196 : Value).ownBlock ∧ k_ ≠ gb186 ∧ k_ ≠ gb199)) k_ ∧ some k_ ≠ (v213 : Value).ownBlock)) (HO219.out) (fun k_ hk => ⟨⟨hk.1.1, ⟨hk.1.2.1, ⟨hk.1.2.2.2.2.1, hk.1.2.2.2.2.2⟩⟩⟩, hk.2⟩))))
              (case aB => exact zG)
              (case aF => exact (fun k_ hk => ⟨(.inr (Nat.le_trans (below_size zG) hk)), Kd.fresh' (Kd.N_lt (by (with_reducible repeat (first | apply Kd.N_alloc | apply Kd.N_drewN | apply Kd.N_drew)); exact HO197.out)) k_ hk, Kd.freshB (g := gb186) (o := .cells #[.int .i64 (wrap64 (((rd_T28 l0 0).f0) + a1)), .slice A185_1 ((rd_T28 l0 0).f1).length c185_1] 28 (0, 0)) zK k_ hk, Kd.freshB (g := gb199) (o := .cells #[.int .i64 ((rd_T28 l0 0).f0), .slice Ao51 y209.length co51] 28 (0, 0)) zK k_ hk⟩))
              (case aO => exact (by (with_reducible repeat (first | apply Kd.N_alloc | apply Kd.N_drewN | apply Kd.N_drew)); exact HO214.out))
              (case aS => exact (below_size zG))
              (case aL => have := LMc25.out; omega)
              intro v221 w58 ho hb hg hat
              rw [← Ny220.out] at ho
              have n0_ := Aside0.mk (Kd.V_afterv (ok := (fun k_ => (P0_ k_ ∨ w.heap.size ≤ k_) ∧ some k_ ≠ (v196 : Value).ownBlock ∧ some k_ ≠ (.slice Ao50 y206.length co50 : Value).ownBlock ∧ k_ ≠ gb186 ∧ k_ ≠ gb199)) (by (with_reducible repeat (first | apply Kd.V_alloc | apply Kd.V_drewN | apply Kd.V_drew)); exact Kd.V_mono HO_0.out (fun _ hk => ⟨⟨hk.1.1, ⟨hk.1.2.1, ⟨hk.1.2.2.1, ⟨hk.1.2.2.2.2.1, hk.1.2.2.2.2.2⟩⟩⟩⟩, hk.2⟩)) hg hat)
              have n1_ := Aside0.mk (Kd.V_afterv (ok := (fun k_ => (P0_ k_ ∨ w.heap.size ≤ k_) ∧ some k_ ≠ (v196 : Value).ownBlock ∧ some k_ ≠ (.slice Ao50 y206.length co50 : Value).ownBlock ∧ k_ ≠ gb186 ∧ k_ ≠ gb199)) (by (with_reducible repeat (first | apply Kd.V_alloc | apply Kd.V_drewN | apply Kd.V_drew)); exact Kd.V_mono HL185_1.out (fun _ hk => ⟨⟨hk.1.1, ⟨hk.1.2.1, ⟨hk.1.2.2.1, ⟨hk.1.2.2.2.2.1, hk.1.2.2.2.2.2⟩⟩⟩⟩, hk.2⟩)) hg hat)
              have n2_ := Aside0.mk (blk_grown (g := gb186) (o := .cells #[.int .i64 (wrap64 (((rd_T28 l0 0).f0) + a1)), .slice A185_1 ((rd_T28 l0 0).f1).length c185_1] 28 (0, 0)) zK hg (Kd.N_away HO214.out (fun _ hk => hk.2.2.1)))
              have n3_ := Aside0.mk (Kd.V_afterv (ok := (fun k_ => (P0_ k_ ∨ w.heap.size ≤ k_) ∧ some k_ ≠ (v196 : Value).ownBlock ∧ some k_ ≠ (.slice Ao50 y206.length co50 : Value).ownBlock ∧ k_ ≠ gb186 ∧ k_ ≠ gb199)) (by (with_reducible repeat (first | apply Kd.V_alloc | apply Kd.V_drewN | apply Kd.V_drew)); exact Kd.V_mono HO194.out (fun _ hk => ⟨⟨hk.1.1, ⟨hk.1.2.1, ⟨hk.1.2.2.1, ⟨hk.1.2.2.2.2.1, hk.1.2.2.2.2.2⟩⟩⟩⟩, hk.2⟩)) hg hat)
              have n4_ := Aside0.mk (Kd.N_afterv (ok := (fun k_ => (P0_ k_ ∨ w.heap.size ≤ k_) ∧ some k_ ≠ (.slice Ao50 y206.length co50 : Value).ownBlock ∧ k_ ≠ gb186 ∧ k_ ≠ gb199)) (by (with_reducible repeat (first | apply Kd.N_alloc | apply Kd.N_drewN | apply Kd.N_drew)); exact Kd.N_mono HO197.out (fun _ hk => ⟨⟨hk.1.1, ⟨hk.1.2.1, ⟨hk.1.2.2.2.1, hk.1.2.2.2.2⟩⟩⟩, hk.2⟩)) hg hat)
              have n5_ := Aside0.mk (Kd.V_afterv (ok := (fun k_ => (P0_ k_ ∨ w.heap.size ≤ k_) ∧ some k_ ≠ (v196 : Value).ownBlock ∧ some k_ ≠ (.slice Ao50 y206.length co50 : Value).ownBlock ∧ k_ ≠ gb186 ∧ k_ ≠ gb199)) (by (with_reducible repeat (first | apply Kd.V_alloc | apply Kd.V_drewN | apply Kd.V_drew)); exact Kd.V_mono HL198_1.out (fun _ hk => ⟨⟨hk.1.1, ⟨hk.1.2.1, ⟨hk.1.2.2.1, ⟨hk.1.2.2.2.2.1, hk.1.2.2.2.2.2⟩⟩⟩⟩, hk.2⟩)) hg hat)
              have n6_ := Aside0.mk (blk_grown (g := gb199) (o := .cells #[.int .i64 ((rd_T28 l0 0).f0), .slice Ao51 y209.length co51] 28 (0, 0)) zK hg (Kd.N_away HO214.out (fun _ hk => hk.2.2.2)))
              have n7_ := Aside0.mk (Kd.N_afterv (ok := (fun k_ => (P0_ k_ ∨ w.heap.size ≤ k_) ∧ some k_ ≠ (v196 : Value).ownBlock ∧ k_ ≠ gb186 ∧ k_ ≠ gb199)) (by (with_reducible repeat (first | apply Kd.N_alloc | apply Kd.N_drewN | apply Kd.N_drew)); exact Kd.N_mono HO208.out (fun _ hk => ⟨⟨hk.1.1, ⟨hk.1.2.1, ⟨hk.1.2.2.2.1, hk.1.2.2.2.2⟩⟩⟩, hk.2⟩)) hg hat)
              have n8_ := Aside0.mk (Kd.V_afterv (ok := (fun k_ => (P0_ k_ ∨ w.heap.size ≤ k_) ∧ some k_ ≠ (v196 : Value).ownBlock ∧ some k_ ≠ (.slice Ao50 y206.length co50 : Value).ownBlock ∧ k_ ≠ gb186 ∧ k_ ≠ gb199)) (by (with_reducible repeat (first | apply Kd.V_alloc | apply Kd.V_drewN | apply Kd.V_drew)); exact Kd.V_mono HO219.out (fun _ hk => ⟨⟨hk.1.1, ⟨hk.1.2.1, ⟨hk.1.2.2.1, ⟨hk.1.2.2.2.2.1, hk.1.2.2.2.2.2⟩⟩⟩⟩, hk.2⟩)) hg hat)
              have n9_ := Aside0.mk (hb)
              have n10_ := Aside0.mk (ho)
              clear HO_0
              clear HL185_1
              clear BK186
              clear HO194
              clear HO197
              clear HL198_1
              clear BK199
              clear HO208
              clear HO219
              clear HB
              clear HO214
              have HO_0 := n0_
              have HL185_1 := n1_
              have BK186 := n2_
              have HO194 := n3_
              have HO197 := n4_
              have HL198_1 := n5_
              have BK199 := n6_
              have HO208 := n7_
              have HO219 := n8_
              have HB := n9_
              have HO222 := n10_
              clear n0_ n1_ n2_ n3_ n4_ n5_ n6_ n7_ n8_ n9_ n10_
              clear ho hb hg hat
              refine hK.out _ _ ⟨(blk_cell BK199.out 0).trans rfl, (blk_cell BK199.out 1).trans rfl⟩ (fun hHeld => ?_)
              clear hK K
              refine norm_ (a' := ?_) ?_ ?_
              rotate_left
              ·show Act.put _ (some 67) _ = _
               simp only [Act.put, List.setIfInBounds_toArray, List.set_cons_zero, List.set_cons_succ, i64_w, i32_w]
               rfl
              refine pure_ (i := 5) (N := some 9) (v := ?_) (a' := ?_) #[true, true, true, true, true, true] rfl rfl (by kernel_rfl) (fun _ _ _ h => h) (Or.inl ⟨by rfl, ?_⟩) ?_ ?_
              rotate_left
              ·intro w'
               go_simp
               with_reducible rfl
              rotate_left
              ·simp only [Act.put, List.setIfInBounds_toArray, List.set_cons_zero, List.set_cons_succ, i64_w, i32_w]
               rfl
              refine done_ (by kernel_rfl) ?_
              obtain ⟨Ao59, co59, eo59⟩ := Kd.N_slice HO197.out
              subst eo59
              try go_wp2_with (first | (go_at_call 12; (with_reducible refine (code_Right.calls (hL := ?sideL) _ _ y220 t224 _ ?side1 ?side2 A29.out).mono ?_); (case sideL => exact Laid.below HL.out zG); (case side1 => repeat (first | exact (Kd.N_reads' HO222.out).2.2 | (with_reducible refine Kd.C_alloc ?_ _) | (with_reducible refine Kd.C_drewN ?_ _) | (with_reducible refine Kd.C_drew ?_))); (case side2 => exact (Kd.N_reads' HO222.out).2.1); rintro e w62 ⟨rfl, hb⟩; replace HO_0 := Aside0.mk (Kd.V_below (by (with_reducible repeat (first | apply Kd.V_alloc | apply Kd.V_drewN | apply Kd.V_drew)); exact HO_0.out) hb); replace HL185_1 := Aside0.mk (Kd.V_below (by (with_reducible repeat (first | apply Kd.V_alloc | apply Kd.V_drewN | apply Kd.V_drew)); exact HL185_1.out) hb); replace HO194 := Aside0.mk (Kd.V_below (by (with_reducible repeat (first | apply Kd.V_alloc | apply Kd.V_drewN | apply Kd.V_drew)); exact HO194.out) hb); replace HO197 := Aside0.mk (Kd.N_below (by (with_reducible repeat (first | apply Kd.N_alloc | apply Kd.N_drewN | apply Kd.N_drew)); exact HO197.out) hb); replace HL198_1 := Aside0.mk (Kd.V_below (by (with_reducible repeat (first | apply Kd.V_alloc | apply Kd.V_drewN | apply Kd.V_drew)); exact HL198_1.out) hb); replace HO208 := Aside0.mk (Kd.N_below (by (with_reducible repeat (first | apply Kd.N_alloc | apply Kd.N_drewN | apply Kd.N_drew)); exact HO208.out) hb); replace HO219 := Aside0.mk (Kd.V_below (by (with_reducible repeat (first | apply Kd.V_alloc | apply Kd.V_drewN | apply Kd.V_drew)); exact HO219.out) hb); replace HO222 := Aside0.mk (Kd.N_below (by (with_reducible repeat (first | apply Kd.N_alloc | apply Kd.N_drewN | apply Kd.N_drew)); exact HO222.out) hb); replace BK186 := Aside0.mk (blk_below (g := gb186) zK hb); replace BK199 := Aside0.mk (blk_below (g := gb199) zK hb); replace HB := Aside0.mk (below_step zG hb); (try clear hb)) | (go_at_call 12; (with_reducible refine (code_Right.calls (hL := ?sideL) _ _ y195 true _ ?side1 ?side2 A27.out).mono ?_); (case sideL => exact Laid.below HL.out zG); (case side1 => repeat (first | exact (Kd.N_reads' HO197.out).2.2 | (with_reducible refine Kd.C_alloc ?_ _) | (with_reducible refine Kd.C_drewN ?_ _) | (with_reducible refine Kd.C_drew ?_))); (case side2 => exact (Kd.N_reads' HO197.out).2.1); rintro e w60 ⟨rfl, hb⟩; replace HO_0 := Aside0.mk (Kd.V_below (by (with_reducible repeat (first | apply Kd.V_alloc | apply Kd.V_drewN | apply Kd.V_drew)); exact HO_0.out) hb); replace HL185_1 := Aside0.mk (Kd.V_below (by (with_reducible repeat (first | apply Kd.V_alloc | apply Kd.V_drewN | apply Kd.V_drew)); exact HL185_1.out) hb); replace HO194 := Aside0.mk (Kd.V_below (by (with_reducible repeat (first | apply Kd.V_alloc | apply Kd.V_drewN | apply Kd.V_drew)); exact HO194.out) hb); replace HO197 := Aside0.mk (Kd.N_below (by (with_reducible repeat (first | apply Kd.N_alloc | apply Kd.N_drewN | apply Kd.N_drew)); exact HO197.out) hb); replace HL198_1 := Aside0.mk (Kd.V_below (by (with_reducible repeat (first | apply Kd.V_alloc | apply Kd.V_drewN | apply Kd.V_drew)); exact HL198_1.out) hb); replace HO208 := Aside0.mk (Kd.N_below (by (with_reducible repeat (first | apply Kd.N_alloc | apply Kd.N_drewN | apply Kd.N_drew)); exact HO208.out) hb); replace HO219 := Aside0.mk (Kd.V_below (by (with_reducible repeat (first | apply Kd.V_alloc | apply Kd.V_drewN | apply Kd.V_drew)); exact HO219.out) hb); replace HO222 := Aside0.mk (Kd.N_below (by (with_reducible repeat (first | apply Kd.N_alloc | apply Kd.N_drewN | apply Kd.N_drew)); exact HO222.out) hb); replace BK186 := Aside0.mk (blk_below (g := gb186) zK hb); replace BK199 := Aside0.mk (blk_below (g := gb199) zK hb); replace HB := Aside0.mk (below_step zG hb); (try clear hb); obtain ⟨Ao61, co61, eo61⟩ := Kd.N_slice HO222.out; subst eo61))
              go_ret
              exact ⟨by first | rfl | (simp [errW_none, errW_some] <;> rfl) | (simp only [← hji19]; first | rfl | (simp [errW_none, errW_some] <;> rfl)) | (simp [*, errW_none, errW_some] <;> rfl) | (simp [*, errW_none, errW_some]; exact (fun (l_ : List UInt8) => (by cases l_ <;> rfl : l_.isEmpty = !(l_ != []))) _), zG⟩
             ·replace c28 := Bool.eq_false_iff.mpr c28
              subst c28
              rw [if_neg (show ¬ (false = true) by decide)] at H
              exact absurd H (by simp)
            ·replace c26 := Bool.eq_false_iff.mpr c26
             subst c26
             rw [if_neg (show ¬ (false = true) by decide)] at H
             exact absurd H (by simp)
           ·rw [if_neg c25] at H
            exact absurd H (by simp)
          ·rw [if_neg c23] at H
           exact absurd H (by simp)
         ·rw [if_neg c22] at H
          exact absurd H (by simp)
        ·rw [if_neg c21] at H
         exact absurd H (by simp)
       ·rw [if_neg c20] at H
        exact absurd H (by simp)
      ·rw [if_neg c18] at H
       exact absurd H (by simp)
     ·rw [if_neg c17] at H
      exact absurd H (by simp)
    ·rw [if_neg c16] at H
     exact absurd H (by simp)
end Go.Proofs.YtjlhhjfmekjbhaaGreatDoor.Pv

/- The plain law of CodeMore. No condition. -/
namespace Go.Proofs.YtjlhhjfmekjbhaaGreatDoor.Pure
open Go.RowKit Go.Proofs.YtjlhhjfmekjbhaaGreatDoorW.PrintWords Go.Proofs.YtjlhhjfmekjbhaaGreatDoorW.PrintLast Go.Proofs.YtjlhhjfmekjbhaaGreatDoor.Cd Go.Proofs.YtjlhhjfmekjbhaaGreatDoor.Cf Go.Proofs.YtjlhhjfmekjbhaaGreatDoor.Bld Go.Proofs.YtjlhhjfmekjbhaaGreatDoor.Sh Go.Proofs.YtjlhhjfmekjbhaaGreatDoor.Vf Go.Proofs.YtjlhhjfmekjbhaaGreatDoor.Vg Go.Proofs.YtjlhhjfmekjbhaaGreatDoor.Pv
open Go.Proofs.YtjlhhjfmekjbhaaGreatDoor.Pq (S31 S28 k31 k28 z31 z28 rd_T28)
set_option linter.unusedVariables false
set_option linter.unusedSimpArgs false
theorem okX_iend : OkX (⟨23, 0, 0, 0, 0, ⟨#[]⟩, 0, []⟩ : X) := ⟨⟨by decide, by decide, by decide, by decide, by decide, by decide, by simp, by decide, by decide⟩, by decide, by decide⟩
theorem CodeMore (l : List P) (hl : RowL l) (n : Int) (_ : B64 n) : gumshoelaw09_CodeMore.f 1 l n = some true := by
  unfold gumshoelaw09_CodeMore.f
  rw [shown_tells, Option.bind_some]
  simp only [gumshoelaw09_Small.f, Option.bind_some]
  have base : gumshoelaw09_CodeMore.j0 1 l n true true = some true := by rw [gumshoelaw09_CodeMore.j0, if_pos rfl]
  by_cases h : smallI l = 0
  · rw [if_pos h, base]
  rw [if_neg h]
  by_cases h1 : n < 0
  · rw [if_pos h1, base]
  rw [if_neg h1]
  by_cases h2 : n > 100
  · rw [if_pos h2, base]
  have hs := small_ok l hl h
  have ho := hs.ok
  rw [if_neg h2, right_f ho, Option.bind_some]
  cases hc : codeS l with
  | false => rw [if_neg (by decide), base]
  | true =>
    obtain ⟨hp, hlen⟩ := (codeS_iff l).1 hc
    rw [if_pos rfl, if_pos (by omega)]
    by_cases h3 : (rd_T28 l 0).f0 > 50000
    · rw [decide_eq_true h3, base]
    rw [decide_eq_false h3, gumshoelaw09_CodeMore.j0, if_neg (by decide)]
    cases l with
    | nil => simp at hlen
    | cons p t =>
      have e0 : rd_T28 (p :: t) 0 = p := rfl
      rw [e0] at h3 ⊢
      have hll := hs.len
      have hpp := hs.proc p (List.mem_cons_self ..)
      have hp0 := (procS_iff p _).1 (hp p (List.mem_cons_self ..))
      have hw1 : wrap64 (p.f0 + n) = p.f0 + n := by unfold wrap64; omega
      have hw2 : wrap64 ((p.f1.length : Int) + 1) = ((p.f1.length + 1 : Nat) : Int) := by have := hpp.2.1; unfold wrap64; omega
      have ht : ∀ q ∈ t, B64 q.f0 ∧ q.f1.length ≤ 100 ∧ ∀ x ∈ q.f1, OkX x := fun q hq => hs.tin.proc q (List.mem_cons_of_mem _ hq)
      have hk := hs.tin.proc p (List.mem_cons_self ..)
      have o1 : okB ([⟨p.f0 + n, p.f1⟩] ++ t) = true := ok_of _ ⟨by simp only [List.length_cons, List.length_append, List.length_nil] at hll ⊢; omega, fun q hq => by
        rcases List.mem_append.1 hq with hq | hq
        · rw [List.mem_singleton] at hq
          subst hq
          refine ⟨?_, hk.2⟩
          have := hk.1
          simp only [B64] at this ⊢
          omega
        · exact ht q hq⟩
      have o2 : okB ([⟨p.f0, p.f1 ++ [⟨23, 0, 0, 0, 0, ⟨#[]⟩, 0, []⟩]⟩] ++ t) = true := ok_of _ ⟨by simp only [List.length_cons, List.length_append, List.length_nil] at hll ⊢; omega, fun q hq => by
        rcases List.mem_append.1 hq with hq | hq
        · rw [List.mem_singleton] at hq
          subst hq
          refine ⟨hk.1, by have := hpp.2.1; simp only [List.length_append, List.length_cons, List.length_nil]; omega, fun x hx => ?_⟩
          rcases List.mem_append.1 hx with hx | hx
          · exact hk.2.2 x hx
          · rw [List.mem_singleton] at hx
            subst hx
            exact okX_iend
        · exact ht q hq⟩
      have c1 : codeS ([⟨p.f0 + n, p.f1⟩] ++ t) = true := by
        rw [codeS_iff]
        refine ⟨fun q hq => ?_, by simp⟩
        rw [show (([(⟨p.f0 + n, p.f1⟩ : P)] ++ t).length : Int) = ((p :: t).length : Int) from rfl]
        rcases List.mem_append.1 hq with hq | hq
        · rw [List.mem_singleton] at hq
          subst hq
          rw [procS_iff]
          exact ⟨by have := hp0.1; show ¬ p.f0 + n < 0; omega, by show ¬ p.f0 + n > 60000; omega, hp0.2.2.1, hp0.2.2.2.1, hp0.2.2.2.2.1, any_mono (p := p) (by show p.f0 ≤ p.f0 + n; omega) (Int.le_refl _) hp0.2.2.2.2.2⟩
        · exact hp q (List.mem_cons_of_mem _ hq)
      have c2 : codeS ([⟨p.f0, p.f1 ++ [⟨23, 0, 0, 0, 0, ⟨#[]⟩, 0, []⟩]⟩] ++ t) = false := by
        cases hx : codeS ([⟨p.f0, p.f1 ++ [⟨23, 0, 0, 0, 0, ⟨#[]⟩, 0, []⟩]⟩] ++ t) with
        | false => rfl
        | true =>
          have := (procS_iff _ _).1 (((codeS_iff _).1 hx).1 _ (List.mem_append_left _ (List.mem_singleton.2 rfl)))
          have h5 := this.2.2.2.2.1
          simp [List.getD] at h5
      have hlt : t.length + 1 ≤ 15 := by simpa using hll
      have hl1 := hpp.2.1
      rw [if_pos (by simp only [List.length_cons]; omega), hw1, hw2]
      simp only [Option.bind_some, List.drop_succ_cons, List.drop_zero, List.length_cons, List.length_nil, List.replicate_zero, List.nil_append]
      rw [if_pos (by omega), if_pos (by omega), if_pos (by omega), if_pos (by omega), if_pos (by omega), if_pos (by omega), if_pos (by omega), right_f o1, Option.bind_some, c1, right_f o2, Option.bind_some, c2]
      simp
end Go.Proofs.YtjlhhjfmekjbhaaGreatDoor.Pure

/- CodeMore: for every input the law returns true, and each argument reads as it did; its row, and its tied card. No condition but those of the card. -/
namespace Go.Proofs.YtjlhhjfmekjbhaaGreatDoor.codeMore
open Go.ChangeShapes Go.WideShapes Go.ChangeAt Go.RowKit
open Go.ChangeMaps (open_string shut_string)
open Go.Proofs.YtjlhhjfmekjbhaaGreatDoor Go.Proofs.YtjlhhjfmekjbhaaGreatDoor.Vl Go.Proofs.YtjlhhjfmekjbhaaGreatDoorW.PrintWords
set_option linter.unusedVariables false
instance : Inhabited Pq.S31 := ⟨Pq.z31⟩
instance : Inhabited Pq.S28 := ⟨Pq.z28⟩
set_option maxRecDepth 100000 in
theorem lifted (os : Os) (started : os.Started) (H : Type) (enc : TypeId × Value → H) :
    ReturnsInHanded {} Tryz.checked os 4 .any (fun w args => (Rows.codeMoreSpec.pre enc Tryz.prog Tryz.f4 [] false w args ∧ laidMetH Tryz.prog five w) ∧ sizedMet enc Tryz.prog Tryz.f4 (OpenSpec.ofChange Rows.codeMoreSpec) false w args) (Rows.codeMoreSpec.post enc Tryz.prog Tryz.f4 false true false false) := by
  refine returnsInHanded_of_change_and (C := Tryz.checked) (X := fun w _ => laidMetH Tryz.prog five w) (fun _ _ _ hh h => h.of_heap hh) own started (by kernel_rfl) Tryz.func4
    (ChangeSpec.witness_shaped (enc := enc) (C := Tryz.checked) (os := os) (X := fun w _ => laidMetH Tryz.prog five w) false (World.doorLaid Tryz.prog 400 os) #[.slice none 0 0, .int .i64 0] 8 rfl (World.shaped_of_RefB (by kernel_rfl) (by kernel_rfl)) (by kernel_rfl) (by kernel_rfl) (by kernel_rfl) (door_met os _)) ?_
  intro W base args ds gs before hval0 hW _ hsz0 hL0 _
  have hL := laid_of hL0
  have hsz : (DataW.weightsEach Tryz.prog (Tryz.f4.params.toList ++ Rows.codeMoreSpec.plain.varTypes Tryz.prog) (ds ++ gs)).all (· ≤ reachBytes) = true := hsz0
  have hval : ∀ (j : Nat) t v, Tryz.f4.params[j]? = some t → args[j]? = some v → Value.okWide Tryz.prog W .any base t v := hval0
  have hW' := hW
  obtain ⟨p, q, hA0, hV, rfl, hfz, hnd⟩ := hW
  have hA : DataW.TrodAll enc Tryz.prog W 0 (fun _ => true) true Tryz.f4.params.toList args.toList ds p := hA0
  rw [Tryz.params4] at hA hval hsz
  obtain ⟨v0, vs0, d0, ds0, p0, q0, hargs, rfl, rfl, h0, r0⟩ := trodAll_cons hA
  obtain ⟨v1, vs1, d1, ds1, p1, q1, rfl, rfl, rfl, h1, r1⟩ := trodAll_cons r0
  obtain ⟨rfl, rfl, rfl⟩ := trodAll_nil r1
  obtain rfl : args = #[v0, v1] := by cases args; simp_all
  obtain ⟨rfl, rfl⟩ := trodVars_none hV
  obtain ⟨a0, len0, cap0, rfl⟩ := okWide_slice Tryz.underlying22 (hval 0 22 v0 rfl rfl)
  have k0 := h0
  have lt0 : ∀ x ∈ p0, x.block < W.heap.size := by obtain ⟨m, hm⟩ := k0; exact DataW.trod_lt m _ _ _ hm
  obtain ⟨m0, hm0⟩ := h0
  obtain ⟨l0, hK0, hw0⟩ := (Opens.opens_slice (d := Pq.k28) Tryz.underlying22 (by kernel_rfl) (Opens.opens_iso (fun x : Pq.S28 => (x.f0, x.f1)) (fun y => (⟨y.1, y.2⟩ : Pq.S28)) (fun _ => rfl) (Opens.opens_struct Tryz.underlying28 (by kernel_rfl) (Opens.opensFs_cons (da := Kd.int .i64) rfl (by kernel_rfl) (Opens.opens_int Tryz.underlying3) (Opens.opensFs_last rfl (by kernel_rfl) (Opens.opens_slice (d := Pq.k31) Tryz.underlying26 (by kernel_rfl) (Opens.opens_iso (fun x : Pq.S31 => (x.f0, x.f1, x.f2, x.f3, x.f4, x.f5, x.f6, x.f7)) (fun y => (⟨y.1, y.2.1, y.2.2.1, y.2.2.2.1, y.2.2.2.2.1, y.2.2.2.2.2.1, y.2.2.2.2.2.2.1, y.2.2.2.2.2.2.2⟩ : Pq.S31)) (fun _ => rfl) (Opens.opens_struct Tryz.underlying31 (by kernel_rfl) (Opens.opensFs_cons (da := Kd.int .i64) rfl (by kernel_rfl) (Opens.opens_int Tryz.underlying3) (Opens.opensFs_cons (da := Kd.int .i64) rfl (by kernel_rfl) (Opens.opens_int Tryz.underlying3) (Opens.opensFs_cons (da := Kd.int .i64) rfl (by kernel_rfl) (Opens.opens_int Tryz.underlying3) (Opens.opensFs_cons (da := Kd.int .i64) rfl (by kernel_rfl) (Opens.opens_int Tryz.underlying3) (Opens.opensFs_cons (da := Kd.int .i64) rfl (by kernel_rfl) (Opens.opens_int Tryz.underlying3) (Opens.opensFs_cons (da := Kd.string) rfl (by kernel_rfl) (Opens.opens_string Tryz.underlying9) (Opens.opensFs_cons (da := Kd.int .i64) rfl (by kernel_rfl) (Opens.opens_int Tryz.underlying2) (Opens.opensFs_last rfl (by kernel_rfl) (Opens.opens_slice (d := Kd.int .i64) Tryz.underlying29 (by kernel_rfl) (Opens.opens_int Tryz.underlying3)))))))))))))))))) H enc W 0 _ true m0 _ _ hm0
  obtain ⟨hn0, hc0, hr0⟩ := Opens.slice_of_K rfl hK0
  subst hn0
  obtain ⟨a1, rfl, rfl, rfl, w1⟩ := open_int Tryz.underlying3 (hval 1 3 v1 rfl rfl) h1
  clear hA0 hval0 hsz0 hsz hL0
  have hP := Pure.CodeMore l0 (rowL_of hw0) a1 (Va.i64_of_wf w1)
  refine (Pv.gumshoelaw09_CodeMore.calls 1 _ _ _ l0 a1 true W hL (Opens.V_of_C hr0 hc0) hP).mono fun e W' ⟨he, bel⟩ => ?_
  subst he
  exact ⟨_, rfl, _, _, _, [], _, [], hW', trodAll_mk1 (shut_bool Tryz.underlying4 _), (trodAll_cons_mk (Below.trod laidOut (by kernel_rfl) (of_decide_eq_true (by kernel_rfl)) k0 bel lt0) (trodAll_cons_mk (shut_int Tryz.underlying3 w1) trodAll_mk0)), rfl, bel.frame _, fun h => by cases h⟩
theorem over : Rows.codeMoreRow.holds Tryz.pinned (OpenSpec.ofChange Rows.codeMoreSpec) :=
  OpenClaim.holds_of_wide 4 Tryz.f4 rfl rfl rfl rfl rfl rfl rfl ⟨rfl, rfl, rfl, rfl, rfl⟩ rfl rfl rfl rfl rfl (by kernel_rfl) Tryz.func4 (by kernel_rfl)
    (of_decide_eq_true (by kernel_rfl)) (by unfold Func.isWrapper; first | (rw [if_pos (by decide +kernel)]; kernel_rfl) | (rw [if_neg (by decide +kernel)]; exact ⟨rfl, rfl⟩))
    (fun os started H enc _ => lifted os started H enc)
set_option maxRecDepth 100000 in
theorem card : Rows.CodeMoreCardSaid :=
  Claim7.holds_tied_plain_at .later [] [.data, .data, .data, .sentinel, .sentinel] true (true, "85c2d0c8c5b4204c20e433950d907f7fb04aa29ec539f0ae38069e55df88bd6d") true
    over (fun _ h => by cases h) (by kernel_rfl) (fun _ h => by cases h) codeMore_row_tie rfl ⟨rfl, rfl⟩ (by kernel_rfl) rfl
    (fun f fn hf hfn => by
      obtain rfl : f = 4 := Option.some.inj ((show Tryz.prog.funcNamed "gumshoe/gumshoelaw09.CodeMore" = some 4 by kernel_rfl).symm.trans hf) |>.symm
      obtain rfl : fn = Tryz.f4 := (Option.some.inj (Tryz.func4.symm.trans hfn)).symm
      exact ⟨by kernel_rfl, fun j t ht => by
        rw [Tryz.params4] at ht
        have hm : t ∈ [22, 3] := by simpa using Array.mem_of_getElem? ht
        have hall : ([22, 3].all fun u => !Tryz.prog.wantsStandIn u) = true := by kernel_rfl
        exact (show Tryz.prog.wantsStandIn t = false by simpa using List.all_eq_true.1 hall t hm)⟩)
    (by kernel_rfl)
end Go.Proofs.YtjlhhjfmekjbhaaGreatDoor.codeMore
namespace Go.Proofs.YtjlhhjfmekjbhaaGreatDoor
theorem codeMore_holds : Rows.CodeMoreCardSaid := codeMore.card
end Go.Proofs.YtjlhhjfmekjbhaaGreatDoor

