/- The law ValueKeys: for every input it returns true, and each argument reads as it did. No condition but those of the given card or row. -/
import Derived.Test.YtmdchbenalhpjaaDoorRows
import Derived.Test.YtmdchbenalhpjaaDoorCards
import Derived.Test.YtmdchbenalhpjaaDoorTie
import Derived.WalkKit
import Derived.ProofKit
import Derived.OpenShut
import Derived.ShutString
import Derived.ChangeOld
import Derived.Below
import Derived.SizedLaws
import Derived.Stop.Joined
import Derived.SevenTiedAt
import Derived.Test.YtmdchbenalhpjaaDoorMo4
-- WRITTEN BY hprint.py (a patched scratch copy of print.py, see NOTES.md): out of the translation and of contracts proved by hand.
namespace Go.Proofs.YtmdchbenalhpjaaDoor.Pv
open Go.RowKit Go.Proofs.YtmdchbenalhpjaaDoor.Vb Go.Proofs.YtmdchbenalhpjaaDoorW.PrintWords Go.Proofs.YtmdchbenalhpjaaDoorW.PrintLast Go.Proofs.YtmdchbenalhpjaaDoorW.PrintMore
set_option linter.unusedVariables false
set_option linter.unusedSimpArgs false
/-! ### gumshoelaw06_ValueKeys: function 4 -/
def gumshoelaw06_ValueKeys.f (a0 : Int) : Option (Bool) := (gumshoelaw06_shown.f).bind fun t174 => ((gumshoelaw06_num.f a0).bind fun bt175 => ((value_Key.f bt175.1 bt175.2.1 bt175.2.2).bind fun t178 => (if t174 = true then ((gumshoelaw06_text.f t178).bind fun bt179 => ((value_Num.f bt179.1 bt179.2.1 bt179.2.2).bind fun t182 => (if t182 = a0 then ((gumshoelaw06_num.f a0).bind fun bt183 => ((value_Num.f bt183.1 bt183.2.1 bt183.2.2).bind fun t186 => (if t186 = a0 then ((gumshoelaw06_text.f t178).bind fun bt187 => ((value_Key.f bt187.1 bt187.2.1 bt187.2.2).bind fun t190 => (if t190.toList = t178.toList then (if t178.size + 1 ≤ 9223372036854775807 then ((gumshoelaw06_text.f (t178 ++ (⟨#[32]⟩ : ByteArray))).bind fun bt191 => ((value_Num.f bt191.1 bt191.2.1 bt191.2.2).bind fun t194 => (if t194 = 0 then (if 1 + t178.size ≤ 9223372036854775807 then ((gumshoelaw06_text.f ((⟨#[43]⟩ : ByteArray) ++ t178)).bind fun bt195 => ((value_Num.f bt195.1 bt195.2.1 bt195.2.2).bind fun t198 => (some (t198 == 0)))) else (none)) else (none)))) else (none)) else (none)))) else (none)))) else (none)))) else (none))))
set_option maxHeartbeats 8000000 in
set_option maxRecDepth 100000 in
theorem gumshoelaw06_ValueKeys.calls (a0 : Int) (r : Bool) (w : World) (hL : Laid w) (h : gumshoelaw06_ValueKeys.f a0 = some r) :
    Calls Tryd.prog 4 #[.int .i64 a0] w fun e w' => e = .returned (.bool r) ∧ Below w.heap.size w w' := by
  have HL := Aside0.mk hL
  clear hL
  have HB := Aside0.mk (Below.refl w.heap.size w)
  have H : ((gumshoelaw06_shown.f).bind fun t174 => ((gumshoelaw06_num.f a0).bind fun bt175 => ((value_Key.f bt175.1 bt175.2.1 bt175.2.2).bind fun t178 => (if t174 = true then ((gumshoelaw06_text.f t178).bind fun bt179 => ((value_Num.f bt179.1 bt179.2.1 bt179.2.2).bind fun t182 => (if t182 = a0 then ((gumshoelaw06_num.f a0).bind fun bt183 => ((value_Num.f bt183.1 bt183.2.1 bt183.2.2).bind fun t186 => (if t186 = a0 then ((gumshoelaw06_text.f t178).bind fun bt187 => ((value_Key.f bt187.1 bt187.2.1 bt187.2.2).bind fun t190 => (if t190.toList = t178.toList then (if t178.size + 1 ≤ 9223372036854775807 then ((gumshoelaw06_text.f (t178 ++ (⟨#[32]⟩ : ByteArray))).bind fun bt191 => ((value_Num.f bt191.1 bt191.2.1 bt191.2.2).bind fun t194 => (if t194 = 0 then (if 1 + t178.size ≤ 9223372036854775807 then ((gumshoelaw06_text.f ((⟨#[43]⟩ : ByteArray) ++ t178)).bind fun bt195 => ((value_Num.f bt195.1 bt195.2.1 bt195.2.2).bind fun t198 => (some (t198 == 0)))) else (none)) else (none)))) else (none)) else (none)))) else (none)))) else (none)))) else (none))))) = some r := h
  clear h
  replace H := Option.bind_eq_some_iff.mp H
  obtain ⟨t174, A20, H⟩ := H
  replace H : ((gumshoelaw06_num.f a0).bind fun bt175 => ((value_Key.f bt175.1 bt175.2.1 bt175.2.2).bind fun t178 => (if t174 = true then ((gumshoelaw06_text.f t178).bind fun bt179 => ((value_Num.f bt179.1 bt179.2.1 bt179.2.2).bind fun t182 => (if t182 = a0 then ((gumshoelaw06_num.f a0).bind fun bt183 => ((value_Num.f bt183.1 bt183.2.1 bt183.2.2).bind fun t186 => (if t186 = a0 then ((gumshoelaw06_text.f t178).bind fun bt187 => ((value_Key.f bt187.1 bt187.2.1 bt187.2.2).bind fun t190 => (if t190.toList = t178.toList then (if t178.size + 1 ≤ 9223372036854775807 then ((gumshoelaw06_text.f (t178 ++ (⟨#[32]⟩ : ByteArray))).bind fun bt191 => ((value_Num.f bt191.1 bt191.2.1 bt191.2.2).bind fun t194 => (if t194 = 0 then (if 1 + t178.size ≤ 9223372036854775807 then ((gumshoelaw06_text.f ((⟨#[43]⟩ : ByteArray) ++ t178)).bind fun bt195 => ((value_Num.f bt195.1 bt195.2.1 bt195.2.2).bind fun t198 => (some (t198 == 0)))) else (none)) else (none)))) else (none)) else (none)))) else (none)))) else (none)))) else (none)))) = some r := H
  have A2 := Aside0.mk A20
  clear A20
  replace H := Option.bind_eq_some_iff.mp H
  obtain ⟨⟨t175, t176, t177⟩, A30, H⟩ := H
  replace H : ((value_Key.f t175 t176 t177).bind fun t178 => (if t174 = true then ((gumshoelaw06_text.f t178).bind fun bt179 => ((value_Num.f bt179.1 bt179.2.1 bt179.2.2).bind fun t182 => (if t182 = a0 then ((gumshoelaw06_num.f a0).bind fun bt183 => ((value_Num.f bt183.1 bt183.2.1 bt183.2.2).bind fun t186 => (if t186 = a0 then ((gumshoelaw06_text.f t178).bind fun bt187 => ((value_Key.f bt187.1 bt187.2.1 bt187.2.2).bind fun t190 => (if t190.toList = t178.toList then (if t178.size + 1 ≤ 9223372036854775807 then ((gumshoelaw06_text.f (t178 ++ (⟨#[32]⟩ : ByteArray))).bind fun bt191 => ((value_Num.f bt191.1 bt191.2.1 bt191.2.2).bind fun t194 => (if t194 = 0 then (if 1 + t178.size ≤ 9223372036854775807 then ((gumshoelaw06_text.f ((⟨#[43]⟩ : ByteArray) ++ t178)).bind fun bt195 => ((value_Num.f bt195.1 bt195.2.1 bt195.2.2).bind fun t198 => (some (t198 == 0)))) else (none)) else (none)))) else (none)) else (none)))) else (none)))) else (none)))) else (none))) = some r := H
  have A3 := Aside0.mk A30
  clear A30
  replace H := Option.bind_eq_some_iff.mp H
  obtain ⟨t178, A40, H⟩ := H
  replace H : (if t174 = true then ((gumshoelaw06_text.f t178).bind fun bt179 => ((value_Num.f bt179.1 bt179.2.1 bt179.2.2).bind fun t182 => (if t182 = a0 then ((gumshoelaw06_num.f a0).bind fun bt183 => ((value_Num.f bt183.1 bt183.2.1 bt183.2.2).bind fun t186 => (if t186 = a0 then ((gumshoelaw06_text.f t178).bind fun bt187 => ((value_Key.f bt187.1 bt187.2.1 bt187.2.2).bind fun t190 => (if t190.toList = t178.toList then (if t178.size + 1 ≤ 9223372036854775807 then ((gumshoelaw06_text.f (t178 ++ (⟨#[32]⟩ : ByteArray))).bind fun bt191 => ((value_Num.f bt191.1 bt191.2.1 bt191.2.2).bind fun t194 => (if t194 = 0 then (if 1 + t178.size ≤ 9223372036854775807 then ((gumshoelaw06_text.f ((⟨#[43]⟩ : ByteArray) ++ t178)).bind fun bt195 => ((value_Num.f bt195.1 bt195.2.1 bt195.2.2).bind fun t198 => (some (t198 == 0)))) else (none)) else (none)))) else (none)) else (none)))) else (none)))) else (none)))) else (none)) = some r := H
  have A4 := Aside0.mk A40
  clear A40
  by_cases c5 : t174 = true
  · subst c5
    have H1 : ((gumshoelaw06_text.f t178).bind fun bt179 => ((value_Num.f bt179.1 bt179.2.1 bt179.2.2).bind fun t182 => (if t182 = a0 then ((gumshoelaw06_num.f a0).bind fun bt183 => ((value_Num.f bt183.1 bt183.2.1 bt183.2.2).bind fun t186 => (if t186 = a0 then ((gumshoelaw06_text.f t178).bind fun bt187 => ((value_Key.f bt187.1 bt187.2.1 bt187.2.2).bind fun t190 => (if t190.toList = t178.toList then (if t178.size + 1 ≤ 9223372036854775807 then ((gumshoelaw06_text.f (t178 ++ (⟨#[32]⟩ : ByteArray))).bind fun bt191 => ((value_Num.f bt191.1 bt191.2.1 bt191.2.2).bind fun t194 => (if t194 = 0 then (if 1 + t178.size ≤ 9223372036854775807 then ((gumshoelaw06_text.f ((⟨#[43]⟩ : ByteArray) ++ t178)).bind fun bt195 => ((value_Num.f bt195.1 bt195.2.1 bt195.2.2).bind fun t198 => (some (t198 == 0)))) else (none)) else (none)))) else (none)) else (none)))) else (none)))) else (none)))) = some r := by rw [if_pos rfl] at H; exact H
    clear H
    have H := H1
    clear H1
    replace H := Option.bind_eq_some_iff.mp H
    obtain ⟨⟨t179, t180, t181⟩, A60, H⟩ := H
    replace H : ((value_Num.f t179 t180 t181).bind fun t182 => (if t182 = a0 then ((gumshoelaw06_num.f a0).bind fun bt183 => ((value_Num.f bt183.1 bt183.2.1 bt183.2.2).bind fun t186 => (if t186 = a0 then ((gumshoelaw06_text.f t178).bind fun bt187 => ((value_Key.f bt187.1 bt187.2.1 bt187.2.2).bind fun t190 => (if t190.toList = t178.toList then (if t178.size + 1 ≤ 9223372036854775807 then ((gumshoelaw06_text.f (t178 ++ (⟨#[32]⟩ : ByteArray))).bind fun bt191 => ((value_Num.f bt191.1 bt191.2.1 bt191.2.2).bind fun t194 => (if t194 = 0 then (if 1 + t178.size ≤ 9223372036854775807 then ((gumshoelaw06_text.f ((⟨#[43]⟩ : ByteArray) ++ t178)).bind fun bt195 => ((value_Num.f bt195.1 bt195.2.1 bt195.2.2).bind fun t198 => (some (t198 == 0)))) else (none)) else (none)))) else (none)) else (none)))) else (none)))) else (none))) = some r := H
    have A6 := Aside0.mk A60
    clear A60
    replace H := Option.bind_eq_some_iff.mp H
    obtain ⟨t182, A70, H⟩ := H
    replace H : (if t182 = a0 then ((gumshoelaw06_num.f a0).bind fun bt183 => ((value_Num.f bt183.1 bt183.2.1 bt183.2.2).bind fun t186 => (if t186 = a0 then ((gumshoelaw06_text.f t178).bind fun bt187 => ((value_Key.f bt187.1 bt187.2.1 bt187.2.2).bind fun t190 => (if t190.toList = t178.toList then (if t178.size + 1 ≤ 9223372036854775807 then ((gumshoelaw06_text.f (t178 ++ (⟨#[32]⟩ : ByteArray))).bind fun bt191 => ((value_Num.f bt191.1 bt191.2.1 bt191.2.2).bind fun t194 => (if t194 = 0 then (if 1 + t178.size ≤ 9223372036854775807 then ((gumshoelaw06_text.f ((⟨#[43]⟩ : ByteArray) ++ t178)).bind fun bt195 => ((value_Num.f bt195.1 bt195.2.1 bt195.2.2).bind fun t198 => (some (t198 == 0)))) else (none)) else (none)))) else (none)) else (none)))) else (none)))) else (none)) = some r := H
    have A7 := Aside0.mk A70
    clear A70
    by_cases c8 : t182 = a0
    · rw [if_pos c8] at H
      have c8b0 : (t182 == a0) = true := beq_iff_eq.mpr c8
      have c8b1 : (t182 != a0) = false := bne_eq_false_iff_eq.mpr c8
      clear c8
      replace H := Option.bind_eq_some_iff.mp H
      obtain ⟨⟨t183, t184, t185⟩, A90, H⟩ := H
      replace H : ((value_Num.f t183 t184 t185).bind fun t186 => (if t186 = a0 then ((gumshoelaw06_text.f t178).bind fun bt187 => ((value_Key.f bt187.1 bt187.2.1 bt187.2.2).bind fun t190 => (if t190.toList = t178.toList then (if t178.size + 1 ≤ 9223372036854775807 then ((gumshoelaw06_text.f (t178 ++ (⟨#[32]⟩ : ByteArray))).bind fun bt191 => ((value_Num.f bt191.1 bt191.2.1 bt191.2.2).bind fun t194 => (if t194 = 0 then (if 1 + t178.size ≤ 9223372036854775807 then ((gumshoelaw06_text.f ((⟨#[43]⟩ : ByteArray) ++ t178)).bind fun bt195 => ((value_Num.f bt195.1 bt195.2.1 bt195.2.2).bind fun t198 => (some (t198 == 0)))) else (none)) else (none)))) else (none)) else (none)))) else (none))) = some r := H
      have A9 := Aside0.mk A90
      clear A90
      replace H := Option.bind_eq_some_iff.mp H
      obtain ⟨t186, A100, H⟩ := H
      replace H : (if t186 = a0 then ((gumshoelaw06_text.f t178).bind fun bt187 => ((value_Key.f bt187.1 bt187.2.1 bt187.2.2).bind fun t190 => (if t190.toList = t178.toList then (if t178.size + 1 ≤ 9223372036854775807 then ((gumshoelaw06_text.f (t178 ++ (⟨#[32]⟩ : ByteArray))).bind fun bt191 => ((value_Num.f bt191.1 bt191.2.1 bt191.2.2).bind fun t194 => (if t194 = 0 then (if 1 + t178.size ≤ 9223372036854775807 then ((gumshoelaw06_text.f ((⟨#[43]⟩ : ByteArray) ++ t178)).bind fun bt195 => ((value_Num.f bt195.1 bt195.2.1 bt195.2.2).bind fun t198 => (some (t198 == 0)))) else (none)) else (none)))) else (none)) else (none)))) else (none)) = some r := H
      have A10 := Aside0.mk A100
      clear A100
      by_cases c11 : t186 = a0
      · rw [if_pos c11] at H
        have c11b0 : (t186 == a0) = true := beq_iff_eq.mpr c11
        have c11b1 : (t186 != a0) = false := bne_eq_false_iff_eq.mpr c11
        clear c11
        replace H := Option.bind_eq_some_iff.mp H
        obtain ⟨⟨t187, t188, t189⟩, A120, H⟩ := H
        replace H : ((value_Key.f t187 t188 t189).bind fun t190 => (if t190.toList = t178.toList then (if t178.size + 1 ≤ 9223372036854775807 then ((gumshoelaw06_text.f (t178 ++ (⟨#[32]⟩ : ByteArray))).bind fun bt191 => ((value_Num.f bt191.1 bt191.2.1 bt191.2.2).bind fun t194 => (if t194 = 0 then (if 1 + t178.size ≤ 9223372036854775807 then ((gumshoelaw06_text.f ((⟨#[43]⟩ : ByteArray) ++ t178)).bind fun bt195 => ((value_Num.f bt195.1 bt195.2.1 bt195.2.2).bind fun t198 => (some (t198 == 0)))) else (none)) else (none)))) else (none)) else (none))) = some r := H
        have A12 := Aside0.mk A120
        clear A120
        replace H := Option.bind_eq_some_iff.mp H
        obtain ⟨t190, A130, H⟩ := H
        replace H : (if t190.toList = t178.toList then (if t178.size + 1 ≤ 9223372036854775807 then ((gumshoelaw06_text.f (t178 ++ (⟨#[32]⟩ : ByteArray))).bind fun bt191 => ((value_Num.f bt191.1 bt191.2.1 bt191.2.2).bind fun t194 => (if t194 = 0 then (if 1 + t178.size ≤ 9223372036854775807 then ((gumshoelaw06_text.f ((⟨#[43]⟩ : ByteArray) ++ t178)).bind fun bt195 => ((value_Num.f bt195.1 bt195.2.1 bt195.2.2).bind fun t198 => (some (t198 == 0)))) else (none)) else (none)))) else (none)) else (none)) = some r := H
        have A13 := Aside0.mk A130
        clear A130
        by_cases c14 : t190.toList = t178.toList
        · rw [if_pos c14] at H
          have c14b0 : (t190.toList == t178.toList) = true := beq_iff_eq.mpr c14
          have c14b1 : (t190.toList != t178.toList) = false := bne_eq_false_iff_eq.mpr c14
          clear c14
          by_cases c15 : t178.size + 1 ≤ 9223372036854775807
          · rw [if_pos c15] at H
            have c15b0 := eq_true c15
            have c15b1 : decide (t178.size + 1 ≤ 9223372036854775807) = true := decide_eq_true c15
            try have c15b2 : (9223372036854775807 < t178.size + 1) = False := eq_false (Nat.not_lt.2 c15)
            replace H := Option.bind_eq_some_iff.mp H
            obtain ⟨⟨t191, t192, t193⟩, A160, H⟩ := H
            replace H : ((value_Num.f t191 t192 t193).bind fun t194 => (if t194 = 0 then (if 1 + t178.size ≤ 9223372036854775807 then ((gumshoelaw06_text.f ((⟨#[43]⟩ : ByteArray) ++ t178)).bind fun bt195 => ((value_Num.f bt195.1 bt195.2.1 bt195.2.2).bind fun t198 => (some (t198 == 0)))) else (none)) else (none))) = some r := H
            have A16 := Aside0.mk A160
            clear A160
            replace H := Option.bind_eq_some_iff.mp H
            obtain ⟨t194, A170, H⟩ := H
            replace H : (if t194 = 0 then (if 1 + t178.size ≤ 9223372036854775807 then ((gumshoelaw06_text.f ((⟨#[43]⟩ : ByteArray) ++ t178)).bind fun bt195 => ((value_Num.f bt195.1 bt195.2.1 bt195.2.2).bind fun t198 => (some (t198 == 0)))) else (none)) else (none)) = some r := H
            have A17 := Aside0.mk A170
            clear A170
            by_cases c18 : t194 = 0
            · rw [if_pos c18] at H
              have c18b0 : (t194 == 0) = true := beq_iff_eq.mpr c18
              have c18b1 : (t194 != 0) = false := bne_eq_false_iff_eq.mpr c18
              clear c18
              by_cases c19 : 1 + t178.size ≤ 9223372036854775807
              · rw [if_pos c19] at H
                have c19b0 := eq_true c19
                have c19b1 : decide (1 + t178.size ≤ 9223372036854775807) = true := decide_eq_true c19
                try have c19b2 : (9223372036854775807 < 1 + t178.size) = False := eq_false (Nat.not_lt.2 c19)
                replace H := Option.bind_eq_some_iff.mp H
                obtain ⟨⟨t195, t196, t197⟩, A200, H⟩ := H
                replace H : ((value_Num.f t195 t196 t197).bind fun t198 => (some (t198 == 0))) = some r := H
                have A20 := Aside0.mk A200
                clear A200
                replace H := Option.bind_eq_some_iff.mp H
                obtain ⟨t198, A210, H⟩ := H
                replace H : (some (t198 == 0)) = some r := H
                have A21 := Aside0.mk A210
                clear A210
                obtain rfl := Option.some.inj H
                obtain rfl : t175 = t183 := by have hh_ := A3.out.symm.trans A9.out; simp only [Option.some.injEq, Prod.mk.injEq] at hh_; simp [hh_]
                obtain rfl : t176 = t184 := by have hh_ := A3.out.symm.trans A9.out; simp only [Option.some.injEq, Prod.mk.injEq] at hh_; simp [hh_]
                obtain rfl : t177 = t185 := by have hh_ := A3.out.symm.trans A9.out; simp only [Option.some.injEq, Prod.mk.injEq] at hh_; simp [hh_]
                obtain rfl : t179 = t187 := by have hh_ := A6.out.symm.trans A12.out; simp only [Option.some.injEq, Prod.mk.injEq] at hh_; simp [hh_]
                obtain rfl : t180 = t188 := by have hh_ := A6.out.symm.trans A12.out; simp only [Option.some.injEq, Prod.mk.injEq] at hh_; simp [hh_]
                obtain rfl : t181 = t189 := by have hh_ := A6.out.symm.trans A12.out; simp only [Option.some.injEq, Prod.mk.injEq] at hh_; simp [hh_]
                go_enter Tryd.func4, Tryd.ntmps4
                go_wp2_with (first | (go_at_call 17; (with_reducible refine (value_Num.calls (hL := ?sideL) t195 t196 t197 t198 _ A21.out).mono ?_); (case sideL => exact Laid.below HL.out (by repeat (first | (with_reducible first | exact HB.out | apply below_alloc | apply pw_below_drewN | apply below_drew1) | exact HB.out))); rintro e w34 ⟨rfl, hb⟩; have n0_ := Aside0.mk (below_step (by repeat (first | (with_reducible first | exact HB.out | apply below_alloc | apply pw_below_drewN | apply below_drew1) | exact HB.out)) hb); clear HB; have HB := n0_; clear n0_; (try clear hb); (try clear hb2); (try clear hk); (try clear hi)) | (go_at_call 18; (with_reducible refine (gumshoelaw06_text.calls ((⟨#[43]⟩ : ByteArray) ++ t178) t195 t196 t197 _ A20.out).mono ?_); rintro e w33 ⟨rfl, hb⟩; have n0_ := Aside0.mk (below_step (by repeat (first | (with_reducible first | exact HB.out | apply below_alloc | apply pw_below_drewN | apply below_drew1) | exact HB.out)) hb); clear HB; have HB := n0_; clear n0_; (try clear hb); (try clear hb2); (try clear hk); (try clear hi)) | (go_at_call 17; (with_reducible refine (value_Num.calls (hL := ?sideL) t191 t192 t193 t194 _ A17.out).mono ?_); (case sideL => exact Laid.below HL.out (by repeat (first | (with_reducible first | exact HB.out | apply below_alloc | apply pw_below_drewN | apply below_drew1) | exact HB.out))); rintro e w32 ⟨rfl, hb⟩; have n0_ := Aside0.mk (below_step (by repeat (first | (with_reducible first | exact HB.out | apply below_alloc | apply pw_below_drewN | apply below_drew1) | exact HB.out)) hb); clear HB; have HB := n0_; clear n0_; (try clear hb); (try clear hb2); (try clear hk); (try clear hi)) | (go_at_call 18; (with_reducible refine (gumshoelaw06_text.calls (t178 ++ (⟨#[32]⟩ : ByteArray)) t191 t192 t193 _ A16.out).mono ?_); rintro e w31 ⟨rfl, hb⟩; have n0_ := Aside0.mk (below_step (by repeat (first | (with_reducible first | exact HB.out | apply below_alloc | apply pw_below_drewN | apply below_drew1) | exact HB.out)) hb); clear HB; have HB := n0_; clear n0_; (try clear hb); (try clear hb2); (try clear hk); (try clear hi)) | (go_at_call 15; (with_reducible refine (value_Key.calls (hL := ?sideL) t179 t180 t181 t190 _ A13.out).mono ?_); (case sideL => exact Laid.below HL.out (by repeat (first | (with_reducible first | exact HB.out | apply below_alloc | apply pw_below_drewN | apply below_drew1) | exact HB.out))); rintro e w30 ⟨rfl, hb⟩; have n0_ := Aside0.mk (below_step (by repeat (first | (with_reducible first | exact HB.out | apply below_alloc | apply pw_below_drewN | apply below_drew1) | exact HB.out)) hb); clear HB; have HB := n0_; clear n0_; (try clear hb); (try clear hb2); (try clear hk); (try clear hi)) | (go_at_call 18; (with_reducible refine (gumshoelaw06_text.calls t178 t179 t180 t181 _ A12.out).mono ?_); rintro e w29 ⟨rfl, hb⟩; have n0_ := Aside0.mk (below_step (by repeat (first | (with_reducible first | exact HB.out | apply below_alloc | apply pw_below_drewN | apply below_drew1) | exact HB.out)) hb); clear HB; have HB := n0_; clear n0_; (try clear hb); (try clear hb2); (try clear hk); (try clear hi)) | (go_at_call 17; (with_reducible refine (value_Num.calls (hL := ?sideL) t175 t176 t177 t186 _ A10.out).mono ?_); (case sideL => exact Laid.below HL.out (by repeat (first | (with_reducible first | exact HB.out | apply below_alloc | apply pw_below_drewN | apply below_drew1) | exact HB.out))); rintro e w28 ⟨rfl, hb⟩; have n0_ := Aside0.mk (below_step (by repeat (first | (with_reducible first | exact HB.out | apply below_alloc | apply pw_below_drewN | apply below_drew1) | exact HB.out)) hb); clear HB; have HB := n0_; clear n0_; (try clear hb); (try clear hb2); (try clear hk); (try clear hi)) | (go_at_call 16; (with_reducible refine (gumshoelaw06_num.calls a0 t175 t176 t177 _ A9.out).mono ?_); rintro e w27 ⟨rfl, hb⟩; have n0_ := Aside0.mk (below_step (by repeat (first | (with_reducible first | exact HB.out | apply below_alloc | apply pw_below_drewN | apply below_drew1) | exact HB.out)) hb); clear HB; have HB := n0_; clear n0_; (try clear hb); (try clear hb2); (try clear hk); (try clear hi)) | (go_at_call 17; (with_reducible refine (value_Num.calls (hL := ?sideL) t179 t180 t181 t182 _ A7.out).mono ?_); (case sideL => exact Laid.below HL.out (by repeat (first | (with_reducible first | exact HB.out | apply below_alloc | apply pw_below_drewN | apply below_drew1) | exact HB.out))); rintro e w26 ⟨rfl, hb⟩; have n0_ := Aside0.mk (below_step (by repeat (first | (with_reducible first | exact HB.out | apply below_alloc | apply pw_below_drewN | apply below_drew1) | exact HB.out)) hb); clear HB; have HB := n0_; clear n0_; (try clear hb); (try clear hb2); (try clear hk); (try clear hi)) | (go_at_call 18; (with_reducible refine (gumshoelaw06_text.calls t178 t179 t180 t181 _ A6.out).mono ?_); rintro e w25 ⟨rfl, hb⟩; have n0_ := Aside0.mk (below_step (by repeat (first | (with_reducible first | exact HB.out | apply below_alloc | apply pw_below_drewN | apply below_drew1) | exact HB.out)) hb); clear HB; have HB := n0_; clear n0_; (try clear hb); (try clear hb2); (try clear hk); (try clear hi)) | ((with_reducible refine gate_callee (f := 15) rfl ?_); refine goesL_ (some 8) rfl rfl Tryd.func15 (by kernel_rfl) rfl #[.agg #[.int .i64 t175, .int .i64 t176, .string t177]] rfl (by (try simp only [List.map_toArray, List.map_cons, List.map_nil]); first | done | rfl | (simp only [List.length_drop, List.length_take]; rfl)) ?_; (with_reducible refine (value_Key.calls (hL := ?sideL) t175 t176 t177 t178 _ A4.out).mono ?_); (case sideL => exact Laid.below HL.out (by repeat (first | (with_reducible first | exact HB.out | apply below_alloc | apply pw_below_drewN | apply below_drew1) | exact HB.out))); rintro e w24 ⟨rfl, hb⟩; refine ⟨_, rfl, ?_⟩; have n0_ := Aside0.mk (below_step (by repeat (first | (with_reducible first | exact HB.out | apply below_alloc | apply pw_below_drewN | apply below_drew1) | exact HB.out)) hb); clear HB; have HB := n0_; clear n0_; (try clear hb); (try clear hb2); (try clear hk); (try clear hi)) | ((with_reducible refine gate_callee (f := 16) rfl ?_); refine goesL_ (some 7) rfl rfl Tryd.func16 (by kernel_rfl) rfl #[.int .i64 a0] rfl (by (try simp only [List.map_toArray, List.map_cons, List.map_nil]); first | done | rfl | (simp only [List.length_drop, List.length_take]; rfl)) ?_; (with_reducible refine (gumshoelaw06_num.calls a0 t175 t176 t177 _ A3.out).mono ?_); rintro e w23 ⟨rfl, hb⟩; refine ⟨_, rfl, ?_⟩; have n0_ := Aside0.mk (below_step (by repeat (first | (with_reducible first | exact HB.out | apply below_alloc | apply pw_below_drewN | apply below_drew1) | exact HB.out)) hb); clear HB; have HB := n0_; clear n0_; (try clear hb); (try clear hb2); (try clear hk); (try clear hi)) | ((with_reducible refine gate_callee (f := 11) rfl ?_); refine goesL_ (some 5) rfl rfl Tryd.func11 (by kernel_rfl) rfl #[] rfl (by (try simp only [List.map_toArray, List.map_cons, List.map_nil]); first | done | rfl | (simp only [List.length_drop, List.length_take]; rfl)) ?_; (with_reducible refine (gumshoelaw06_shown.calls (hL := ?sideL)  true _ A2.out).mono ?_); (case sideL => exact Laid.below HL.out (by repeat (first | (with_reducible first | exact HB.out | apply below_alloc | apply pw_below_drewN | apply below_drew1) | exact HB.out))); rintro e w22 ⟨rfl, hb⟩; refine ⟨_, rfl, ?_⟩; have n0_ := Aside0.mk (below_step (by repeat (first | (with_reducible first | exact HB.out | apply below_alloc | apply pw_below_drewN | apply below_drew1) | exact HB.out)) hb); clear HB; have HB := n0_; clear n0_; (try clear hb); (try clear hb2); (try clear hk); (try clear hi)))
                go_ret
                exact ⟨by first | rfl | (simp [errW_none, errW_some] <;> rfl) | (simp [*, errW_none, errW_some] <;> rfl) | (simp [*, errW_none, errW_some]; exact (fun (l_ : List UInt8) => (by cases l_ <;> rfl : l_.isEmpty = !(l_ != []))) _), by repeat (first | (with_reducible first | exact HB.out | apply below_alloc | apply pw_below_drewN | apply below_drew1) | exact HB.out)⟩
              · rw [if_neg c19] at H
                exact absurd H (by simp)
            · rw [if_neg c18] at H
              exact absurd H (by simp)
          · rw [if_neg c15] at H
            exact absurd H (by simp)
        · rw [if_neg c14] at H
          exact absurd H (by simp)
      · rw [if_neg c11] at H
        exact absurd H (by simp)
    · rw [if_neg c8] at H
      exact absurd H (by simp)
  · replace c5 := Bool.eq_false_iff.mpr c5
    subst c5
    have H1 : (none) = some r := by rw [if_neg (show ¬ (false = true) by decide)] at H; exact H
    clear H
    have H := H1
    clear H1
    exact absurd H (by simp)
end Go.Proofs.YtmdchbenalhpjaaDoor.Pv

/- The plain law of ValueKeys. No condition. -/
namespace Go.Proofs.YtmdchbenalhpjaaDoor.Pure
open Go.RowKit Go.Proofs.YtmdchbenalhpjaaDoorW.PrintWords Go.Proofs.YtmdchbenalhpjaaDoorW.PrintLast Go.Proofs.YtmdchbenalhpjaaDoor.Va Go.Proofs.YtmdchbenalhpjaaDoor.Vb Go.Proofs.YtmdchbenalhpjaaDoor.Vc Go.Proofs.YtmdchbenalhpjaaDoor.Pv
set_option linter.unusedVariables false
set_option linter.unusedSimpArgs false
theorem itoa_mem (n : Int) (h : I64 n) (c : UInt8) (hc : c ∈ Lib.itoa n) : 45 ≤ c.toNat ∧ c.toNat ≤ 57 := by
  obtain ⟨h1, h2⟩ := h
  by_cases h0 : n < 0
  · obtain ⟨u, rfl⟩ : ∃ u : Nat, n = -(u : Int) := ⟨n.natAbs, by omega⟩
    rw [Lib.itoa_neg u (by omega)] at hc
    rcases List.mem_cons.1 hc with rfl | hc
    · decide
    · have := dec_digit u c hc; omega
  · obtain ⟨u, rfl⟩ : ∃ u : Nat, n = (u : Int) := ⟨n.toNat, by omega⟩
    rw [Lib.itoa_nonneg u] at hc
    have := dec_digit u c hc; omega
theorem numL_bad (l : List UInt8) (c : UInt8) (hc : c ∈ l) (hb : c.toNat < 45) : numL l = 0 := numL_not l fun n hn e => by
  have := itoa_mem n hn c (e ▸ hc)
  omega
theorem ValueKeys (n : Int) (h : I64 n) : gumshoelaw06_ValueKeys.f n = some true := by
  have hk : keyS 3 n ⟨#[]⟩ = ⟨(Lib.itoa n).toArray⟩ := by
    unfold keyS
    rw [if_neg (by decide), if_neg (by decide), if_neg (by decide), if_pos rfl]
  have hz : (⟨(Lib.itoa n).toArray⟩ : ByteArray).size ≤ 20 := by
    have := (itoa_len n h).2
    simpa [ByteArray.size] using this
  have e1 : numS 4 0 ⟨(Lib.itoa n).toArray⟩ = n := by
    unfold numS
    rw [if_neg (by decide), if_pos rfl]
    exact numL_itoa n h
  have e2 : numS 3 n ⟨#[]⟩ = n := by unfold numS; rw [if_pos (by decide)]
  have hq : ∀ l : List UInt8, (⟨(Lib.itoa n).toArray⟩ : ByteArray) ++ ⟨l.toArray⟩ = ⟨(Lib.itoa n ++ l).toArray⟩ := fun l => cat_list _ _
  have hq' : ∀ l : List UInt8, (⟨l.toArray⟩ : ByteArray) ++ ⟨(Lib.itoa n).toArray⟩ = ⟨(l ++ Lib.itoa n).toArray⟩ := fun l => cat_list _ _
  have e3 : numS 4 0 ((⟨(Lib.itoa n).toArray⟩ : ByteArray) ++ ⟨#[32]⟩) = 0 := by
    rw [show (⟨#[32]⟩ : ByteArray) = ⟨([32] : List UInt8).toArray⟩ from rfl, hq]
    unfold numS
    rw [if_neg (by decide), if_pos rfl]
    exact numL_bad _ 32 (by simp) (by decide)
  have e4 : numS 4 0 ((⟨#[43]⟩ : ByteArray) ++ ⟨(Lib.itoa n).toArray⟩) = 0 := by
    rw [show (⟨#[43]⟩ : ByteArray) = ⟨([43] : List UInt8).toArray⟩ from rfl, hq']
    unfold numS
    rw [if_neg (by decide), if_pos rfl]
    exact numL_bad _ 43 (by simp) (by decide)
  have f1 : FB n ⟨#[]⟩ := fit_num n h
  generalize (⟨(Lib.itoa n).toArray⟩ : ByteArray) = t at *
  have f2 : FB 0 t := fb i64_0 (by omega)
  have f3 : FB 0 (t ++ ⟨#[32]⟩) := fb i64_0 (by rw [ByteArray.size_append, show (⟨#[32]⟩ : ByteArray).size = 1 from rfl]; omega)
  have f4 : FB 0 ((⟨#[43]⟩ : ByteArray) ++ t) := fb i64_0 (by rw [ByteArray.size_append, show (⟨#[43]⟩ : ByteArray).size = 1 from rfl]; omega)
  have z1 : t.size + 1 ≤ 9223372036854775807 := by omega
  have z2 : 1 + t.size ≤ 9223372036854775807 := by omega
  unfold gumshoelaw06_ValueKeys.f
  rw [shown_tells]
  simp only [Option.bind_some, Vb.gumshoelaw06_num.f, Vb.gumshoelaw06_text.f, Vb.value_Key.f, Vb.value_Num.f, if_pos f1, if_pos f2, if_pos f3, if_pos f4, hk, e1, e2, e3, e4, key_text, if_true, if_pos z1, if_pos z2]
  rfl
end Go.Proofs.YtmdchbenalhpjaaDoor.Pure

/- ValueKeys: for every input the law returns true, and each argument reads as it did; its row, and its tied card. No condition but those of the card. -/
namespace Go.Proofs.YtmdchbenalhpjaaDoor.valueKeys
open Go.ChangeShapes Go.WideShapes Go.ChangeAt Go.RowKit
open Go.ChangeMaps (open_string shut_string)
open Go.Proofs.YtmdchbenalhpjaaDoor Go.Proofs.YtmdchbenalhpjaaDoor.Vc Go.Proofs.YtmdchbenalhpjaaDoorW.PrintWords
set_option linter.unusedVariables false
set_option maxRecDepth 100000 in
theorem lifted (os : Os) (started : os.Started) (H : Type) (enc : TypeId × Value → H) :
    ReturnsInHanded {} Tryd.checked os 4 .any (fun w args => (Rows.valueKeysSpec.pre enc Tryd.prog Tryd.f4 [] false w args ∧ laidMetH Tryd.prog five w) ∧ sizedMet enc Tryd.prog Tryd.f4 (OpenSpec.ofChange Rows.valueKeysSpec) false w args) (Rows.valueKeysSpec.post enc Tryd.prog Tryd.f4 false true false false) := by
  refine returnsInHanded_of_change_and (C := Tryd.checked) (X := fun w _ => laidMetH Tryd.prog five w) (fun _ _ _ hh h => h.of_heap hh) own started (by kernel_rfl) Tryd.func4
    (ChangeSpec.witness_shaped (enc := enc) (C := Tryd.checked) (os := os) (X := fun w _ => laidMetH Tryd.prog five w) false (World.doorLaid Tryd.prog 400 os) #[.int .i64 0] 8 rfl (World.shaped_of_RefB (by kernel_rfl) (by kernel_rfl)) (by kernel_rfl) (by kernel_rfl) (by kernel_rfl) (door_met os _)) ?_
  intro W base args ds gs before hval0 hW _ hsz0 hL0 _
  have hL := laid_of hL0
  have hsz : (DataW.weightsEach Tryd.prog (Tryd.f4.params.toList ++ Rows.valueKeysSpec.plain.varTypes Tryd.prog) (ds ++ gs)).all (· ≤ reachBytes) = true := hsz0
  have hval : ∀ (j : Nat) t v, Tryd.f4.params[j]? = some t → args[j]? = some v → Value.okWide Tryd.prog W .any base t v := hval0
  have hW' := hW
  obtain ⟨p, q, hA0, hV, rfl, hfz, hnd⟩ := hW
  have hA : DataW.TrodAll enc Tryd.prog W 0 (fun _ => true) true Tryd.f4.params.toList args.toList ds p := hA0
  rw [Tryd.params4] at hA hval hsz
  obtain ⟨v0, vs0, d0, ds0, p0, q0, hargs, rfl, rfl, h0, r0⟩ := trodAll_cons hA
  obtain ⟨rfl, rfl, rfl⟩ := trodAll_nil r0
  obtain rfl : args = #[v0] := by cases args; simp_all
  obtain ⟨rfl, rfl⟩ := trodVars_none hV
  obtain ⟨a0, rfl, rfl, rfl, w0⟩ := open_int Tryd.underlying2 (hval 0 2 v0 rfl rfl) h0
  clear hA0 hval0 hsz0 hsz hL0
  have hP := Pure.ValueKeys a0 (Va.i64_of_wf w0)
  refine (Pv.gumshoelaw06_ValueKeys.calls a0 true W hL hP).mono fun e W' ⟨he, bel⟩ => ?_
  subst he
  exact ⟨_, rfl, _, _, _, [], _, [], hW', trodAll_mk1 (shut_bool Tryd.underlying4 _), (trodAll_cons_mk (shut_int Tryd.underlying2 w0) trodAll_mk0), rfl, bel.frame _, fun h => by cases h⟩
theorem over : Rows.valueKeysRow.holds Tryd.pinned (OpenSpec.ofChange Rows.valueKeysSpec) :=
  OpenClaim.holds_of_wide 4 Tryd.f4 rfl rfl rfl rfl rfl rfl rfl ⟨rfl, rfl, rfl, rfl, rfl⟩ rfl rfl rfl rfl rfl (by kernel_rfl) Tryd.func4 (by kernel_rfl)
    (of_decide_eq_true (by kernel_rfl)) (by unfold Func.isWrapper; first | (rw [if_pos (by decide +kernel)]; kernel_rfl) | (rw [if_neg (by decide +kernel)]; exact ⟨rfl, rfl⟩))
    (fun os started H enc _ => lifted os started H enc)
set_option maxRecDepth 100000 in
theorem card : Rows.ValueKeysCardSaid :=
  Claim7.holds_tied_plain_at .later [] [.data, .data, .data, .sentinel, .sentinel] true (true, "d82c5c0de405e83e82bf696796706ff586f4c8c76fc44cb8e04d5bc6808d8ed8") true
    over (fun _ h => by cases h) (by kernel_rfl) (fun _ h => by cases h) valueKeys_row_tie rfl ⟨rfl, rfl⟩ (by kernel_rfl) rfl
    (fun f fn hf hfn => by
      obtain rfl : f = 4 := Option.some.inj ((show Tryd.prog.funcNamed "gumshoe/gumshoelaw06.ValueKeys" = some 4 by kernel_rfl).symm.trans hf) |>.symm
      obtain rfl : fn = Tryd.f4 := (Option.some.inj (Tryd.func4.symm.trans hfn)).symm
      exact ⟨by kernel_rfl, fun j t ht => by
        rw [Tryd.params4] at ht
        have hm : t ∈ [2] := by simpa using Array.mem_of_getElem? ht
        have hall : ([2].all fun u => !Tryd.prog.wantsStandIn u) = true := by kernel_rfl
        exact (show Tryd.prog.wantsStandIn t = false by simpa using List.all_eq_true.1 hall t hm)⟩)
    (by kernel_rfl)
end Go.Proofs.YtmdchbenalhpjaaDoor.valueKeys
namespace Go.Proofs.YtmdchbenalhpjaaDoor
theorem valueKeys_holds : Rows.ValueKeysCardSaid := valueKeys.card
end Go.Proofs.YtmdchbenalhpjaaDoor

