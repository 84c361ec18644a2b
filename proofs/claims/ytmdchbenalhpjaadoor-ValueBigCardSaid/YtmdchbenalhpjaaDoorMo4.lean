/- Lemmas for the claims of this seat (own texts, packed; what the claims do not use is left out). No condition. -/
import Derived.Test.YtmdchbenalhpjaaDoorRows
import Derived.Lib.LaidTab
import Derived.Stop.LaidErr
import Derived.LaidSub
import Derived.LaidMore
import Derived.MakeChecks
import Derived.WalkKit
import Derived.ProofKit
import Derived.OpenShut
import Derived.ShutString
import Derived.ChangeOld
import Derived.Below
import Derived.SizedLaws
import Derived.Handed
import Derived.Test.YtmdchbenalhpjaaDoorMo3
-- WRITTEN BY hprint.py (a patched scratch copy of print.py, see NOTES.md): out of the translation and of contracts proved by hand.
namespace Go.Proofs.YtmdchbenalhpjaaDoor.Pv
open Go.RowKit Go.Proofs.YtmdchbenalhpjaaDoor.Vb Go.Proofs.YtmdchbenalhpjaaDoorW.PrintWords Go.Proofs.YtmdchbenalhpjaaDoorW.PrintLast Go.Proofs.YtmdchbenalhpjaaDoorW.PrintMore
set_option linter.unusedVariables false
set_option linter.unusedSimpArgs false
attribute [local go_sem high] eqA23
/-! ### gumshoelaw06_shown: function 11 -/
def gumshoelaw06_shown.f  : Option (Bool) := (gumshoelaw06_num.f 1).bind fun bt101 => ((gumshoelaw06_text.f (⟨#[97]⟩ : ByteArray)).bind fun bt104 => ((value_Two.f (⟨#[43]⟩ : ByteArray) bt101.1 bt101.2.1 bt101.2.2 bt104.1 bt104.2.1 bt104.2.2).bind fun bt107 => ((gumshoelaw06_num.f 1).bind fun bt112 => ((gumshoelaw06_text.f (⟨#[49]⟩ : ByteArray)).bind fun bt115 => ((value_Two.f (⟨#[61, 61, 61]⟩ : ByteArray) bt112.1 bt112.2.1 bt112.2.2 bt115.1 bt115.2.1 bt115.2.2).bind fun bt118 => ((gumshoelaw06_text.f (⟨#[49, 48]⟩ : ByteArray)).bind fun bt123 => ((gumshoelaw06_text.f (⟨#[57]⟩ : ByteArray)).bind fun bt126 => ((value_Two.f (⟨#[60]⟩ : ByteArray) bt123.1 bt123.2.1 bt123.2.2 bt126.1 bt126.2.1 bt126.2.2).bind fun bt129 => (if bt107.2.2.2 = 0 then (if bt118.2.2.2 = 0 then (if bt129.2.2.2 = 0 then ((gumshoelaw06_text.f (⟨#[49, 97]⟩ : ByteArray)).bind fun bt134 => (if (bt107.1 == bt134.1 && (bt107.2.1 == bt134.2.1 && (bt107.2.2.1.toList == bt134.2.2.toList))) = true then (if (bt118.1 == 2 && (bt118.2.1 == 0 && (bt118.2.2.1.toList == ([] : List UInt8)))) = true then (some (bt129.1 == 2 && (bt129.2.1 == 1 && (bt129.2.2.1.toList == ([] : List UInt8))))) else (none)) else (none))) else (none)) else (none)) else (none))))))))))
def gumshoelaw06_shown.T4 : Bool × List (List Nat × List Nat) := (true, [([], []), ([0], [0]), ([1], [1]), ([2], [2]), ([3, 2], [2, 3]), ([2, 4], [2, 4]), ([5, 2], [5]), ([6], [6]), ([7, 6], [6, 7]), ([6, 8], [6, 8]), ([9, 6], [9]), ([10], [10]), ([10, 10], [10]), ([11, 12, 10], [10, 11, 12]), ([10, 13], [10, 13]), ([14, 12], [14]), ([15], [15]), ([15], [15]), ([16, 17, 15], [15, 16, 17]), ([15, 18], [15, 18]), ([19, 15], [19]), ([20], [20]), ([20], [20]), ([21, 22, 20], [20, 21, 22]), ([20, 23], [20, 23]), ([24, 20, 0, 1, 2, 3, 4, 5, 6, 7, 8, 9, 10, 11, 12, 13, 14, 15, 16, 17, 18, 19, 20, 21, 22, 23, 24], [24])])
def gumshoelaw06_shown.B4 : List Nat := [0, 1, 3, 7, 15, 31, 63, 127, 255, 511, 1023, 2047, 2047, 8191, 16383, 32767, 65535, 65535, 262143, 524287, 1048575, 2097151, 2097151, 8388607, 16777215, 33554431]
theorem gumshoelaw06_shown.tab4 : rtab .any (opsOf Tryd.f11 4) = gumshoelaw06_shown.T4 := by kernel_rfl
theorem gumshoelaw06_shown.bits4 : waitsOk gumshoelaw06_shown.T4.2 gumshoelaw06_shown.B4 = true := by kernel_rfl
set_option maxHeartbeats 8000000 in
set_option maxRecDepth 100000 in
theorem gumshoelaw06_shown.calls  (r : Bool) (w : World) (hL : Laid w) (h : gumshoelaw06_shown.f  = some r) :
    Calls Tryd.prog 11 #[] w fun e w' => e = .returned (.bool r) ∧ Below w.heap.size w w' := by
  have HL := Aside0.mk hL
  clear hL
  have hu23 := Tryd.underlying23
  have HB := Aside0.mk (Below.refl w.heap.size w)
  have H : ((gumshoelaw06_num.f 1).bind fun bt101 => ((gumshoelaw06_text.f (⟨#[97]⟩ : ByteArray)).bind fun bt104 => ((value_Two.f (⟨#[43]⟩ : ByteArray) bt101.1 bt101.2.1 bt101.2.2 bt104.1 bt104.2.1 bt104.2.2).bind fun bt107 => ((gumshoelaw06_num.f 1).bind fun bt112 => ((gumshoelaw06_text.f (⟨#[49]⟩ : ByteArray)).bind fun bt115 => ((value_Two.f (⟨#[61, 61, 61]⟩ : ByteArray) bt112.1 bt112.2.1 bt112.2.2 bt115.1 bt115.2.1 bt115.2.2).bind fun bt118 => ((gumshoelaw06_text.f (⟨#[49, 48]⟩ : ByteArray)).bind fun bt123 => ((gumshoelaw06_text.f (⟨#[57]⟩ : ByteArray)).bind fun bt126 => ((value_Two.f (⟨#[60]⟩ : ByteArray) bt123.1 bt123.2.1 bt123.2.2 bt126.1 bt126.2.1 bt126.2.2).bind fun bt129 => (if bt107.2.2.2 = 0 then (if bt118.2.2.2 = 0 then (if bt129.2.2.2 = 0 then ((gumshoelaw06_text.f (⟨#[49, 97]⟩ : ByteArray)).bind fun bt134 => (if (bt107.1 == bt134.1 && (bt107.2.1 == bt134.2.1 && (bt107.2.2.1.toList == bt134.2.2.toList))) = true then (if (bt118.1 == 2 && (bt118.2.1 == 0 && (bt118.2.2.1.toList == ([] : List UInt8)))) = true then (some (bt129.1 == 2 && (bt129.2.1 == 1 && (bt129.2.2.1.toList == ([] : List UInt8))))) else (none)) else (none))) else (none)) else (none)) else (none))))))))))) = some r := h
  clear h
  replace H := Option.bind_eq_some_iff.mp H
  obtain ⟨⟨t101, t102, t103⟩, A10, H⟩ := H
  replace H : ((gumshoelaw06_text.f (⟨#[97]⟩ : ByteArray)).bind fun bt104 => ((value_Two.f (⟨#[43]⟩ : ByteArray) t101 t102 t103 bt104.1 bt104.2.1 bt104.2.2).bind fun bt107 => ((gumshoelaw06_num.f 1).bind fun bt112 => ((gumshoelaw06_text.f (⟨#[49]⟩ : ByteArray)).bind fun bt115 => ((value_Two.f (⟨#[61, 61, 61]⟩ : ByteArray) bt112.1 bt112.2.1 bt112.2.2 bt115.1 bt115.2.1 bt115.2.2).bind fun bt118 => ((gumshoelaw06_text.f (⟨#[49, 48]⟩ : ByteArray)).bind fun bt123 => ((gumshoelaw06_text.f (⟨#[57]⟩ : ByteArray)).bind fun bt126 => ((value_Two.f (⟨#[60]⟩ : ByteArray) bt123.1 bt123.2.1 bt123.2.2 bt126.1 bt126.2.1 bt126.2.2).bind fun bt129 => (if bt107.2.2.2 = 0 then (if bt118.2.2.2 = 0 then (if bt129.2.2.2 = 0 then ((gumshoelaw06_text.f (⟨#[49, 97]⟩ : ByteArray)).bind fun bt134 => (if (bt107.1 == bt134.1 && (bt107.2.1 == bt134.2.1 && (bt107.2.2.1.toList == bt134.2.2.toList))) = true then (if (bt118.1 == 2 && (bt118.2.1 == 0 && (bt118.2.2.1.toList == ([] : List UInt8)))) = true then (some (bt129.1 == 2 && (bt129.2.1 == 1 && (bt129.2.2.1.toList == ([] : List UInt8))))) else (none)) else (none))) else (none)) else (none)) else (none)))))))))) = some r := H
  have A1 := Aside0.mk A10
  clear A10
  replace H := Option.bind_eq_some_iff.mp H
  obtain ⟨⟨t104, t105, t106⟩, A20, H⟩ := H
  replace H : ((value_Two.f (⟨#[43]⟩ : ByteArray) t101 t102 t103 t104 t105 t106).bind fun bt107 => ((gumshoelaw06_num.f 1).bind fun bt112 => ((gumshoelaw06_text.f (⟨#[49]⟩ : ByteArray)).bind fun bt115 => ((value_Two.f (⟨#[61, 61, 61]⟩ : ByteArray) bt112.1 bt112.2.1 bt112.2.2 bt115.1 bt115.2.1 bt115.2.2).bind fun bt118 => ((gumshoelaw06_text.f (⟨#[49, 48]⟩ : ByteArray)).bind fun bt123 => ((gumshoelaw06_text.f (⟨#[57]⟩ : ByteArray)).bind fun bt126 => ((value_Two.f (⟨#[60]⟩ : ByteArray) bt123.1 bt123.2.1 bt123.2.2 bt126.1 bt126.2.1 bt126.2.2).bind fun bt129 => (if bt107.2.2.2 = 0 then (if bt118.2.2.2 = 0 then (if bt129.2.2.2 = 0 then ((gumshoelaw06_text.f (⟨#[49, 97]⟩ : ByteArray)).bind fun bt134 => (if (bt107.1 == bt134.1 && (bt107.2.1 == bt134.2.1 && (bt107.2.2.1.toList == bt134.2.2.toList))) = true then (if (bt118.1 == 2 && (bt118.2.1 == 0 && (bt118.2.2.1.toList == ([] : List UInt8)))) = true then (some (bt129.1 == 2 && (bt129.2.1 == 1 && (bt129.2.2.1.toList == ([] : List UInt8))))) else (none)) else (none))) else (none)) else (none)) else (none))))))))) = some r := H
  have A2 := Aside0.mk A20
  clear A20
  replace H := Option.bind_eq_some_iff.mp H
  obtain ⟨⟨t107, t108, t109, t110⟩, A30, H⟩ := H
  replace H : ((gumshoelaw06_num.f 1).bind fun bt112 => ((gumshoelaw06_text.f (⟨#[49]⟩ : ByteArray)).bind fun bt115 => ((value_Two.f (⟨#[61, 61, 61]⟩ : ByteArray) bt112.1 bt112.2.1 bt112.2.2 bt115.1 bt115.2.1 bt115.2.2).bind fun bt118 => ((gumshoelaw06_text.f (⟨#[49, 48]⟩ : ByteArray)).bind fun bt123 => ((gumshoelaw06_text.f (⟨#[57]⟩ : ByteArray)).bind fun bt126 => ((value_Two.f (⟨#[60]⟩ : ByteArray) bt123.1 bt123.2.1 bt123.2.2 bt126.1 bt126.2.1 bt126.2.2).bind fun bt129 => (if t110 = 0 then (if bt118.2.2.2 = 0 then (if bt129.2.2.2 = 0 then ((gumshoelaw06_text.f (⟨#[49, 97]⟩ : ByteArray)).bind fun bt134 => (if (t107 == bt134.1 && (t108 == bt134.2.1 && (t109.toList == bt134.2.2.toList))) = true then (if (bt118.1 == 2 && (bt118.2.1 == 0 && (bt118.2.2.1.toList == ([] : List UInt8)))) = true then (some (bt129.1 == 2 && (bt129.2.1 == 1 && (bt129.2.2.1.toList == ([] : List UInt8))))) else (none)) else (none))) else (none)) else (none)) else (none)))))))) = some r := H
  have A3 := Aside0.mk A30
  clear A30
  replace H := Option.bind_eq_some_iff.mp H
  obtain ⟨⟨t112, t113, t114⟩, A40, H⟩ := H
  replace H : ((gumshoelaw06_text.f (⟨#[49]⟩ : ByteArray)).bind fun bt115 => ((value_Two.f (⟨#[61, 61, 61]⟩ : ByteArray) t112 t113 t114 bt115.1 bt115.2.1 bt115.2.2).bind fun bt118 => ((gumshoelaw06_text.f (⟨#[49, 48]⟩ : ByteArray)).bind fun bt123 => ((gumshoelaw06_text.f (⟨#[57]⟩ : ByteArray)).bind fun bt126 => ((value_Two.f (⟨#[60]⟩ : ByteArray) bt123.1 bt123.2.1 bt123.2.2 bt126.1 bt126.2.1 bt126.2.2).bind fun bt129 => (if t110 = 0 then (if bt118.2.2.2 = 0 then (if bt129.2.2.2 = 0 then ((gumshoelaw06_text.f (⟨#[49, 97]⟩ : ByteArray)).bind fun bt134 => (if (t107 == bt134.1 && (t108 == bt134.2.1 && (t109.toList == bt134.2.2.toList))) = true then (if (bt118.1 == 2 && (bt118.2.1 == 0 && (bt118.2.2.1.toList == ([] : List UInt8)))) = true then (some (bt129.1 == 2 && (bt129.2.1 == 1 && (bt129.2.2.1.toList == ([] : List UInt8))))) else (none)) else (none))) else (none)) else (none)) else (none))))))) = some r := H
  have A4 := Aside0.mk A40
  clear A40
  replace H := Option.bind_eq_some_iff.mp H
  obtain ⟨⟨t115, t116, t117⟩, A50, H⟩ := H
  replace H : ((value_Two.f (⟨#[61, 61, 61]⟩ : ByteArray) t112 t113 t114 t115 t116 t117).bind fun bt118 => ((gumshoelaw06_text.f (⟨#[49, 48]⟩ : ByteArray)).bind fun bt123 => ((gumshoelaw06_text.f (⟨#[57]⟩ : ByteArray)).bind fun bt126 => ((value_Two.f (⟨#[60]⟩ : ByteArray) bt123.1 bt123.2.1 bt123.2.2 bt126.1 bt126.2.1 bt126.2.2).bind fun bt129 => (if t110 = 0 then (if bt118.2.2.2 = 0 then (if bt129.2.2.2 = 0 then ((gumshoelaw06_text.f (⟨#[49, 97]⟩ : ByteArray)).bind fun bt134 => (if (t107 == bt134.1 && (t108 == bt134.2.1 && (t109.toList == bt134.2.2.toList))) = true then (if (bt118.1 == 2 && (bt118.2.1 == 0 && (bt118.2.2.1.toList == ([] : List UInt8)))) = true then (some (bt129.1 == 2 && (bt129.2.1 == 1 && (bt129.2.2.1.toList == ([] : List UInt8))))) else (none)) else (none))) else (none)) else (none)) else (none)))))) = some r := H
  have A5 := Aside0.mk A50
  clear A50
  replace H := Option.bind_eq_some_iff.mp H
  obtain ⟨⟨t118, t119, t120, t121⟩, A60, H⟩ := H
  replace H : ((gumshoelaw06_text.f (⟨#[49, 48]⟩ : ByteArray)).bind fun bt123 => ((gumshoelaw06_text.f (⟨#[57]⟩ : ByteArray)).bind fun bt126 => ((value_Two.f (⟨#[60]⟩ : ByteArray) bt123.1 bt123.2.1 bt123.2.2 bt126.1 bt126.2.1 bt126.2.2).bind fun bt129 => (if t110 = 0 then (if t121 = 0 then (if bt129.2.2.2 = 0 then ((gumshoelaw06_text.f (⟨#[49, 97]⟩ : ByteArray)).bind fun bt134 => (if (t107 == bt134.1 && (t108 == bt134.2.1 && (t109.toList == bt134.2.2.toList))) = true then (if (t118 == 2 && (t119 == 0 && (t120.toList == ([] : List UInt8)))) = true then (some (bt129.1 == 2 && (bt129.2.1 == 1 && (bt129.2.2.1.toList == ([] : List UInt8))))) else (none)) else (none))) else (none)) else (none)) else (none))))) = some r := H
  have A6 := Aside0.mk A60
  clear A60
  replace H := Option.bind_eq_some_iff.mp H
  obtain ⟨⟨t123, t124, t125⟩, A70, H⟩ := H
  replace H : ((gumshoelaw06_text.f (⟨#[57]⟩ : ByteArray)).bind fun bt126 => ((value_Two.f (⟨#[60]⟩ : ByteArray) t123 t124 t125 bt126.1 bt126.2.1 bt126.2.2).bind fun bt129 => (if t110 = 0 then (if t121 = 0 then (if bt129.2.2.2 = 0 then ((gumshoelaw06_text.f (⟨#[49, 97]⟩ : ByteArray)).bind fun bt134 => (if (t107 == bt134.1 && (t108 == bt134.2.1 && (t109.toList == bt134.2.2.toList))) = true then (if (t118 == 2 && (t119 == 0 && (t120.toList == ([] : List UInt8)))) = true then (some (bt129.1 == 2 && (bt129.2.1 == 1 && (bt129.2.2.1.toList == ([] : List UInt8))))) else (none)) else (none))) else (none)) else (none)) else (none)))) = some r := H
  have A7 := Aside0.mk A70
  clear A70
  replace H := Option.bind_eq_some_iff.mp H
  obtain ⟨⟨t126, t127, t128⟩, A80, H⟩ := H
  replace H : ((value_Two.f (⟨#[60]⟩ : ByteArray) t123 t124 t125 t126 t127 t128).bind fun bt129 => (if t110 = 0 then (if t121 = 0 then (if bt129.2.2.2 = 0 then ((gumshoelaw06_text.f (⟨#[49, 97]⟩ : ByteArray)).bind fun bt134 => (if (t107 == bt134.1 && (t108 == bt134.2.1 && (t109.toList == bt134.2.2.toList))) = true then (if (t118 == 2 && (t119 == 0 && (t120.toList == ([] : List UInt8)))) = true then (some (bt129.1 == 2 && (bt129.2.1 == 1 && (bt129.2.2.1.toList == ([] : List UInt8))))) else (none)) else (none))) else (none)) else (none)) else (none))) = some r := H
  have A8 := Aside0.mk A80
  clear A80
  replace H := Option.bind_eq_some_iff.mp H
  obtain ⟨⟨t129, t130, t131, t132⟩, A90, H⟩ := H
  replace H : (if t110 = 0 then (if t121 = 0 then (if t132 = 0 then ((gumshoelaw06_text.f (⟨#[49, 97]⟩ : ByteArray)).bind fun bt134 => (if (t107 == bt134.1 && (t108 == bt134.2.1 && (t109.toList == bt134.2.2.toList))) = true then (if (t118 == 2 && (t119 == 0 && (t120.toList == ([] : List UInt8)))) = true then (some (t129 == 2 && (t130 == 1 && (t131.toList == ([] : List UInt8))))) else (none)) else (none))) else (none)) else (none)) else (none)) = some r := H
  have A9 := Aside0.mk A90
  clear A90
  by_cases c10 : t110 = 0
  · rw [if_pos c10] at H
    have c10b0 : (t110 == 0) = true := beq_iff_eq.mpr c10
    have c10b1 : (t110 != 0) = false := bne_eq_false_iff_eq.mpr c10
    clear c10
    by_cases c11 : t121 = 0
    · rw [if_pos c11] at H
      have c11b0 : (t121 == 0) = true := beq_iff_eq.mpr c11
      have c11b1 : (t121 != 0) = false := bne_eq_false_iff_eq.mpr c11
      clear c11
      by_cases c12 : t132 = 0
      · rw [if_pos c12] at H
        have c12b0 : (t132 == 0) = true := beq_iff_eq.mpr c12
        have c12b1 : (t132 != 0) = false := bne_eq_false_iff_eq.mpr c12
        clear c12
        replace H := Option.bind_eq_some_iff.mp H
        obtain ⟨⟨t134, t135, t136⟩, A130, H⟩ := H
        replace H : (if (t107 == t134 && (t108 == t135 && (t109.toList == t136.toList))) = true then (if (t118 == 2 && (t119 == 0 && (t120.toList == ([] : List UInt8)))) = true then (some (t129 == 2 && (t130 == 1 && (t131.toList == ([] : List UInt8))))) else (none)) else (none)) = some r := H
        have A13 := Aside0.mk A130
        clear A130
        by_cases c14 : (t107 == t134 && (t108 == t135 && (t109.toList == t136.toList))) = true
        · rw [if_pos c14] at H
          have c14b0 : (t107 == t134 && (t108 == t135 && (t109.toList == t136.toList))) = true := c14
          (try (have c14b1 : decide (t107 = t134 && (t108 == t135 && (t109.toList == t136.toList))) = true := by simpa using c14))
          (try (have c14b2 : (t107 == t134 && (t108 == t135 && (t109.toList == t136.toList))) = true := by simpa using c14))
          clear c14
          by_cases c15 : (t118 == 2 && (t119 == 0 && (t120.toList == ([] : List UInt8)))) = true
          · rw [if_pos c15] at H
            have c15b0 : (t118 == 2 && (t119 == 0 && (t120.toList == ([] : List UInt8)))) = true := c15
            have c15be : (t118 == 2 && (t119 == 0 && t120.toList.isEmpty)) = true := by have hh_ := c15; rw [show (t120.toList == ([] : List UInt8)) = t120.toList.isEmpty from by cases t120.toList <;> rfl] at hh_; exact hh_
            (try (have c15b1 : decide (t118 = 2 && (t119 == 0 && (t120.toList == ([] : List UInt8)))) = true := by simpa using c15))
            (try (have c15b2 : (t118 == 2 && (t119 == 0 && (t120.toList == ([] : List UInt8)))) = true := by simpa using c15))
            clear c15
            obtain rfl := Option.some.inj H
            go_enter Tryd.func11, Tryd.ntmps11
            try go_wp2_with (first | ((with_reducible refine gate_dst (N := 5) rfl ?_); refine box_event ?hg (N := 5) ?hd (cs := #[.int .i64 0, .int .i64 0, .string (⟨#[]⟩ : ByteArray)]) (t := 23) ?hr ?_; (case hd => rfl); (case hg => rfl); (case hr => first | (go_simp; done) | (go_simp; rfl)); intro gb133 hg w30 hbox hb; have n0_ := Aside0.mk (blk_below (g := gb111) (o := .cells #[.int .i64 t107, .int .i64 t108, .string t109] 23 (0, 0)) (by (with_reducible repeat (first | refine blk_drewN ?_ _ | refine blk_drew ?_ | refine blk_alloc ?_ _)); exact BK111.out) hb); have n1_ := Aside0.mk (blk_below (g := gb122) (o := .cells #[.int .i64 t118, .int .i64 t119, .string t120] 23 (0, 0)) (by (with_reducible repeat (first | refine blk_drewN ?_ _ | refine blk_drew ?_ | refine blk_alloc ?_ _)); exact BK122.out) hb); have n2_ := Aside0.mk (below_step (by repeat (first | (with_reducible first | exact HB.out | apply below_alloc | apply pw_below_drewN | apply below_drew1 | refine below_set ?_ GE111.out | refine below_set ?_ GE122.out) | exact HB.out)) hb); have n3_ := Aside0.mk (hbox); have n4_ := Aside0.mk ((by rw [hg]; exact (below_size (by repeat (first | (with_reducible first | exact HB.out | apply below_alloc | apply pw_below_drewN | apply below_drew1 | refine below_set ?_ GE111.out | refine below_set ?_ GE122.out) | exact HB.out))) : w.heap.size ≤ gb133)); have n5_ := Aside0.mk ((by rw [hg]; exact (below_size (by repeat (first | (with_reducible first | exact HB.out | apply below_alloc | apply pw_below_drewN | apply below_drew1 | refine below_set ?_ GE111.out | refine below_set ?_ GE122.out) | exact HB.out))) : w.heap.size ≤ gb133)); have n6_ := Aside0.mk ((by rw [hg]; exact Nat.ne_of_lt (blk_lt (g := gb111) (o := .cells #[.int .i64 t107, .int .i64 t108, .string t109] 23 (0, 0)) (by (with_reducible repeat (first | refine blk_drewN ?_ _ | refine blk_drew ?_ | refine blk_alloc ?_ _)); exact BK111.out)) : gb111 ≠ gb133)); have n7_ := Aside0.mk ((by rw [hg]; exact Nat.ne_of_gt (blk_lt (g := gb111) (o := .cells #[.int .i64 t107, .int .i64 t108, .string t109] 23 (0, 0)) (by (with_reducible repeat (first | refine blk_drewN ?_ _ | refine blk_drew ?_ | refine blk_alloc ?_ _)); exact BK111.out)) : gb133 ≠ gb111)); have n8_ := Aside0.mk ((by rw [hg]; exact Nat.ne_of_lt (blk_lt (g := gb122) (o := .cells #[.int .i64 t118, .int .i64 t119, .string t120] 23 (0, 0)) (by (with_reducible repeat (first | refine blk_drewN ?_ _ | refine blk_drew ?_ | refine blk_alloc ?_ _)); exact BK122.out)) : gb122 ≠ gb133)); have n9_ := Aside0.mk ((by rw [hg]; exact Nat.ne_of_gt (blk_lt (g := gb122) (o := .cells #[.int .i64 t118, .int .i64 t119, .string t120] 23 (0, 0)) (by (with_reducible repeat (first | refine blk_drewN ?_ _ | refine blk_drew ?_ | refine blk_alloc ?_ _)); exact BK122.out)) : gb133 ≠ gb122)); clear BK111; clear BK122; clear HB; have BK111 := n0_; have BK122 := n1_; have HB := n2_; have BK133 := n3_; have GW133 := n4_; have GE133 := n5_; have NB111_133 := n6_; have NB133_111 := n7_; have NB122_133 := n8_; have NB133_122 := n9_; clear n0_ n1_ n2_ n3_ n4_ n5_ n6_ n7_ n8_ n9_; clear hb hbox hg; have hnb31 := NB133_111.out; have hnc31 := NB111_133.out; have hnb32 := NB133_122.out; have hnc32 := NB122_133.out; have hcz33_0 : w30.cell? ⟨gb133, 0, none⟩ = some (.int .i64 0) := (blk_cell BK133.out 0).trans rfl; have hcz33_1 : w30.cell? ⟨gb133, 1, none⟩ = some (.int .i64 0) := (blk_cell BK133.out 1).trans rfl; have hcz33_2 : w30.cell? ⟨gb133, 2, none⟩ = some (.string (⟨#[]⟩ : ByteArray)) := (blk_cell BK133.out 2).trans rfl; have hfz33_0 := blk_frozen BK133.out 0; have hfz33_1 := blk_frozen BK133.out 1; have hfz33_2 := blk_frozen BK133.out 2) | ((with_reducible refine gate_callee (f := 13) rfl ?_); refine goesL_ (some 22) rfl rfl Tryd.func13 (by kernel_rfl) rfl #[.string (⟨#[60]⟩ : ByteArray), .agg #[.int .i64 t123, .int .i64 t124, .string t125], .agg #[.int .i64 t126, .int .i64 t127, .string t128]] rfl (by (try simp only [List.map_toArray, List.map_cons, List.map_nil]); first | done | rfl | (simp only [List.length_drop, List.length_take]; rfl)) ?_; (with_reducible refine (value_Two.calls (hL := ?sideL) (⟨#[60]⟩ : ByteArray) t123 t124 t125 t126 t127 t128 t129 t130 t131 t132 _ A9.out).mono ?_); (case sideL => exact Laid.below HL.out (by repeat (first | (with_reducible first | exact HB.out | apply below_alloc | apply pw_below_drewN | apply below_drew1 | refine below_set ?_ GE111.out | refine below_set ?_ GE122.out) | exact HB.out))); rintro e w29 ⟨rfl, hb⟩; refine ⟨_, rfl, ?_⟩; have n0_ := Aside0.mk (blk_below (g := gb111) (o := .cells #[.int .i64 t107, .int .i64 t108, .string t109] 23 (0, 0)) (by (with_reducible repeat (first | refine blk_drewN ?_ _ | refine blk_drew ?_ | refine blk_alloc ?_ _)); exact BK111.out) hb); have n1_ := Aside0.mk (blk_below (g := gb122) (o := .cells #[.int .i64 t118, .int .i64 t119, .string t120] 23 (0, 0)) (by (with_reducible repeat (first | refine blk_drewN ?_ _ | refine blk_drew ?_ | refine blk_alloc ?_ _)); exact BK122.out) hb); have n2_ := Aside0.mk (below_step (by repeat (first | (with_reducible first | exact HB.out | apply below_alloc | apply pw_below_drewN | apply below_drew1 | refine below_set ?_ GE111.out | refine below_set ?_ GE122.out) | exact HB.out)) hb); clear BK111; clear BK122; clear HB; have BK111 := n0_; have BK122 := n1_; have HB := n2_; clear n0_ n1_ n2_; (try clear hb); (try clear hb2); (try clear hk); (try clear hi)) | ((with_reducible refine gate_callee (f := 18) rfl ?_); refine goesL_ (some 21) rfl rfl Tryd.func18 (by kernel_rfl) rfl #[.string (⟨#[57]⟩ : ByteArray)] rfl (by (try simp only [List.map_toArray, List.map_cons, List.map_nil]); first | done | rfl | (simp only [List.length_drop, List.length_take]; rfl)) ?_; (with_reducible refine (gumshoelaw06_text.calls (⟨#[57]⟩ : ByteArray) t126 t127 t128 _ A8.out).mono ?_); rintro e w28 ⟨rfl, hb⟩; refine ⟨_, rfl, ?_⟩; have n0_ := Aside0.mk (blk_below (g := gb111) (o := .cells #[.int .i64 t107, .int .i64 t108, .string t109] 23 (0, 0)) (by (with_reducible repeat (first | refine blk_drewN ?_ _ | refine blk_drew ?_ | refine blk_alloc ?_ _)); exact BK111.out) hb); have n1_ := Aside0.mk (blk_below (g := gb122) (o := .cells #[.int .i64 t118, .int .i64 t119, .string t120] 23 (0, 0)) (by (with_reducible repeat (first | refine blk_drewN ?_ _ | refine blk_drew ?_ | refine blk_alloc ?_ _)); exact BK122.out) hb); have n2_ := Aside0.mk (below_step (by repeat (first | (with_reducible first | exact HB.out | apply below_alloc | apply pw_below_drewN | apply below_drew1 | refine below_set ?_ GE111.out | refine below_set ?_ GE122.out) | exact HB.out)) hb); clear BK111; clear BK122; clear HB; have BK111 := n0_; have BK122 := n1_; have HB := n2_; clear n0_ n1_ n2_; (try clear hb); (try clear hb2); (try clear hk); (try clear hi)) | ((with_reducible refine gate_callee (f := 18) rfl ?_); refine goesL_ (some 20) rfl rfl Tryd.func18 (by kernel_rfl) rfl #[.string (⟨#[49, 48]⟩ : ByteArray)] rfl (by (try simp only [List.map_toArray, List.map_cons, List.map_nil]); first | done | rfl | (simp only [List.length_drop, List.length_take]; rfl)) ?_; (with_reducible refine (gumshoelaw06_text.calls (⟨#[49, 48]⟩ : ByteArray) t123 t124 t125 _ A7.out).mono ?_); rintro e w27 ⟨rfl, hb⟩; refine ⟨_, rfl, ?_⟩; have n0_ := Aside0.mk (blk_below (g := gb111) (o := .cells #[.int .i64 t107, .int .i64 t108, .string t109] 23 (0, 0)) (by (with_reducible repeat (first | refine blk_drewN ?_ _ | refine blk_drew ?_ | refine blk_alloc ?_ _)); refine blk_far ?_ NB111_122.out _; (with_reducible repeat (first | refine blk_drewN ?_ _ | refine blk_drew ?_ | refine blk_alloc ?_ _)); refine blk_far ?_ NB111_122.out _; (with_reducible repeat (first | refine blk_drewN ?_ _ | refine blk_drew ?_ | refine blk_alloc ?_ _)); refine blk_far ?_ NB111_122.out _; (with_reducible repeat (first | refine blk_drewN ?_ _ | refine blk_drew ?_ | refine blk_alloc ?_ _)); exact BK111.out) hb); have n1_ := Aside0.mk (blk_below (g := gb122) (o := .cells #[.int .i64 t118, .int .i64 t119, .string t120] 23 (0, 0)) (by (with_reducible repeat (first | refine blk_drewN ?_ _ | refine blk_drew ?_ | refine blk_alloc ?_ _)); refine blk_put (cs := #[.int .i64 t118, .int .i64 t119, .string (⟨#[]⟩ : ByteArray)]) ?_ 2 _ rfl; (with_reducible repeat (first | refine blk_drewN ?_ _ | refine blk_drew ?_ | refine blk_alloc ?_ _)); refine blk_put (cs := #[.int .i64 t118, .int .i64 0, .string (⟨#[]⟩ : ByteArray)]) ?_ 1 _ rfl; (with_reducible repeat (first | refine blk_drewN ?_ _ | refine blk_drew ?_ | refine blk_alloc ?_ _)); refine blk_put (cs := #[.int .i64 0, .int .i64 0, .string (⟨#[]⟩ : ByteArray)]) ?_ 0 _ rfl; (with_reducible repeat (first | refine blk_drewN ?_ _ | refine blk_drew ?_ | refine blk_alloc ?_ _)); exact BK122.out) hb); have n2_ := Aside0.mk (below_step (by repeat (first | (with_reducible first | exact HB.out | apply below_alloc | apply pw_below_drewN | apply below_drew1 | refine below_set ?_ GE111.out | refine below_set ?_ GE122.out) | exact HB.out)) hb); clear BK111; clear BK122; clear HB; have BK111 := n0_; have BK122 := n1_; have HB := n2_; clear n0_ n1_ n2_; (try clear hb); (try clear hb2); (try clear hk); (try clear hi)) | ((with_reducible refine gate_dst (N := 3) rfl ?_); refine box_event ?hg (N := 3) ?hd (cs := #[.int .i64 0, .int .i64 0, .string (⟨#[]⟩ : ByteArray)]) (t := 23) ?hr ?_; (case hd => rfl); (case hg => rfl); (case hr => first | (go_simp; done) | (go_simp; rfl)); intro gb122 hg w24 hbox hb; have n0_ := Aside0.mk (blk_below (g := gb111) (o := .cells #[.int .i64 t107, .int .i64 t108, .string t109] 23 (0, 0)) (by (with_reducible repeat (first | refine blk_drewN ?_ _ | refine blk_drew ?_ | refine blk_alloc ?_ _)); exact BK111.out) hb); have n1_ := Aside0.mk (below_step (by repeat (first | (with_reducible first | exact HB.out | apply below_alloc | apply pw_below_drewN | apply below_drew1 | refine below_set ?_ GE111.out) | exact HB.out)) hb); have n2_ := Aside0.mk (hbox); have n3_ := Aside0.mk ((by rw [hg]; exact (below_size (by repeat (first | (with_reducible first | exact HB.out | apply below_alloc | apply pw_below_drewN | apply below_drew1 | refine below_set ?_ GE111.out) | exact HB.out))) : w.heap.size ≤ gb122)); have n4_ := Aside0.mk ((by rw [hg]; exact (below_size (by repeat (first | (with_reducible first | exact HB.out | apply below_alloc | apply pw_below_drewN | apply below_drew1 | refine below_set ?_ GE111.out) | exact HB.out))) : w.heap.size ≤ gb122)); have n5_ := Aside0.mk ((by rw [hg]; exact Nat.ne_of_lt (blk_lt (g := gb111) (o := .cells #[.int .i64 t107, .int .i64 t108, .string t109] 23 (0, 0)) (by (with_reducible repeat (first | refine blk_drewN ?_ _ | refine blk_drew ?_ | refine blk_alloc ?_ _)); exact BK111.out)) : gb111 ≠ gb122)); have n6_ := Aside0.mk ((by rw [hg]; exact Nat.ne_of_gt (blk_lt (g := gb111) (o := .cells #[.int .i64 t107, .int .i64 t108, .string t109] 23 (0, 0)) (by (with_reducible repeat (first | refine blk_drewN ?_ _ | refine blk_drew ?_ | refine blk_alloc ?_ _)); exact BK111.out)) : gb122 ≠ gb111)); clear BK111; clear HB; have BK111 := n0_; have HB := n1_; have BK122 := n2_; have GW122 := n3_; have GE122 := n4_; have NB111_122 := n5_; have NB122_111 := n6_; clear n0_ n1_ n2_ n3_ n4_ n5_ n6_; clear hb hbox hg; have hnb25 := NB122_111.out; have hnc25 := NB111_122.out; have hcz26_0 : w24.cell? ⟨gb122, 0, none⟩ = some (.int .i64 0) := (blk_cell BK122.out 0).trans rfl; have hcz26_1 : w24.cell? ⟨gb122, 1, none⟩ = some (.int .i64 0) := (blk_cell BK122.out 1).trans rfl; have hcz26_2 : w24.cell? ⟨gb122, 2, none⟩ = some (.string (⟨#[]⟩ : ByteArray)) := (blk_cell BK122.out 2).trans rfl; have hfz26_0 := blk_frozen BK122.out 0; have hfz26_1 := blk_frozen BK122.out 1; have hfz26_2 := blk_frozen BK122.out 2) | ((with_reducible refine gate_callee (f := 13) rfl ?_); refine goesL_ (some 16) rfl rfl Tryd.func13 (by kernel_rfl) rfl #[.string (⟨#[61, 61, 61]⟩ : ByteArray), .agg #[.int .i64 t112, .int .i64 t113, .string t114], .agg #[.int .i64 t115, .int .i64 t116, .string t117]] rfl (by (try simp only [List.map_toArray, List.map_cons, List.map_nil]); first | done | rfl | (simp only [List.length_drop, List.length_take]; rfl)) ?_; (with_reducible refine (value_Two.calls (hL := ?sideL) (⟨#[61, 61, 61]⟩ : ByteArray) t112 t113 t114 t115 t116 t117 t118 t119 t120 t121 _ A6.out).mono ?_); (case sideL => exact Laid.below HL.out (by repeat (first | (with_reducible first | exact HB.out | apply below_alloc | apply pw_below_drewN | apply below_drew1 | refine below_set ?_ GE111.out) | exact HB.out))); rintro e w23 ⟨rfl, hb⟩; refine ⟨_, rfl, ?_⟩; have n0_ := Aside0.mk (blk_below (g := gb111) (o := .cells #[.int .i64 t107, .int .i64 t108, .string t109] 23 (0, 0)) (by (with_reducible repeat (first | refine blk_drewN ?_ _ | refine blk_drew ?_ | refine blk_alloc ?_ _)); exact BK111.out) hb); have n1_ := Aside0.mk (below_step (by repeat (first | (with_reducible first | exact HB.out | apply below_alloc | apply pw_below_drewN | apply below_drew1 | refine below_set ?_ GE111.out) | exact HB.out)) hb); clear BK111; clear HB; have BK111 := n0_; have HB := n1_; clear n0_ n1_; (try clear hb); (try clear hb2); (try clear hk); (try clear hi)) | ((with_reducible refine gate_callee (f := 18) rfl ?_); refine goesL_ (some 15) rfl rfl Tryd.func18 (by kernel_rfl) rfl #[.string (⟨#[49]⟩ : ByteArray)] rfl (by (try simp only [List.map_toArray, List.map_cons, List.map_nil]); first | done | rfl | (simp only [List.length_drop, List.length_take]; rfl)) ?_; (with_reducible refine (gumshoelaw06_text.calls (⟨#[49]⟩ : ByteArray) t115 t116 t117 _ A5.out).mono ?_); rintro e w22 ⟨rfl, hb⟩; refine ⟨_, rfl, ?_⟩; have n0_ := Aside0.mk (blk_below (g := gb111) (o := .cells #[.int .i64 t107, .int .i64 t108, .string t109] 23 (0, 0)) (by (with_reducible repeat (first | refine blk_drewN ?_ _ | refine blk_drew ?_ | refine blk_alloc ?_ _)); exact BK111.out) hb); have n1_ := Aside0.mk (below_step (by repeat (first | (with_reducible first | exact HB.out | apply below_alloc | apply pw_below_drewN | apply below_drew1 | refine below_set ?_ GE111.out) | exact HB.out)) hb); clear BK111; clear HB; have BK111 := n0_; have HB := n1_; clear n0_ n1_; (try clear hb); (try clear hb2); (try clear hk); (try clear hi)) | ((with_reducible refine gate_callee (f := 16) rfl ?_); refine goesL_ (some 14) rfl rfl Tryd.func16 (by kernel_rfl) rfl #[.int .i64 1] rfl (by (try simp only [List.map_toArray, List.map_cons, List.map_nil]); first | done | rfl | (simp only [List.length_drop, List.length_take]; rfl)) ?_; (with_reducible refine (gumshoelaw06_num.calls 1 t112 t113 t114 _ A4.out).mono ?_); rintro e w21 ⟨rfl, hb⟩; refine ⟨_, rfl, ?_⟩; have n0_ := Aside0.mk (blk_below (g := gb111) (o := .cells #[.int .i64 t107, .int .i64 t108, .string t109] 23 (0, 0)) (by (with_reducible repeat (first | refine blk_drewN ?_ _ | refine blk_drew ?_ | refine blk_alloc ?_ _)); refine blk_put (cs := #[.int .i64 t107, .int .i64 t108, .string (⟨#[]⟩ : ByteArray)]) ?_ 2 _ rfl; (with_reducible repeat (first | refine blk_drewN ?_ _ | refine blk_drew ?_ | refine blk_alloc ?_ _)); refine blk_put (cs := #[.int .i64 t107, .int .i64 0, .string (⟨#[]⟩ : ByteArray)]) ?_ 1 _ rfl; (with_reducible repeat (first | refine blk_drewN ?_ _ | refine blk_drew ?_ | refine blk_alloc ?_ _)); refine blk_put (cs := #[.int .i64 0, .int .i64 0, .string (⟨#[]⟩ : ByteArray)]) ?_ 0 _ rfl; (with_reducible repeat (first | refine blk_drewN ?_ _ | refine blk_drew ?_ | refine blk_alloc ?_ _)); exact BK111.out) hb); have n1_ := Aside0.mk (below_step (by repeat (first | (with_reducible first | exact HB.out | apply below_alloc | apply pw_below_drewN | apply below_drew1 | refine below_set ?_ GE111.out) | exact HB.out)) hb); clear BK111; clear HB; have BK111 := n0_; have HB := n1_; clear n0_ n1_; (try clear hb); (try clear hb2); (try clear hk); (try clear hi)) | ((with_reducible refine gate_dst (N := 1) rfl ?_); refine box_event ?hg (N := 1) ?hd (cs := #[.int .i64 0, .int .i64 0, .string (⟨#[]⟩ : ByteArray)]) (t := 23) ?hr ?_; (case hd => rfl); (case hg => rfl); (case hr => first | (go_simp; done) | (go_simp; rfl)); intro gb111 hg w19 hbox hb; have n0_ := Aside0.mk (below_step (by repeat (first | (with_reducible first | exact HB.out | apply below_alloc | apply pw_below_drewN | apply below_drew1) | exact HB.out)) hb); have n1_ := Aside0.mk (hbox); have n2_ := Aside0.mk ((by rw [hg]; exact (below_size (by repeat (first | (with_reducible first | exact HB.out | apply below_alloc | apply pw_below_drewN | apply below_drew1) | exact HB.out))) : w.heap.size ≤ gb111)); have n3_ := Aside0.mk ((by rw [hg]; exact (below_size (by repeat (first | (with_reducible first | exact HB.out | apply below_alloc | apply pw_below_drewN | apply below_drew1) | exact HB.out))) : w.heap.size ≤ gb111)); clear HB; have HB := n0_; have BK111 := n1_; have GW111 := n2_; have GE111 := n3_; clear n0_ n1_ n2_ n3_; clear hb hbox hg; have hcz20_0 : w19.cell? ⟨gb111, 0, none⟩ = some (.int .i64 0) := (blk_cell BK111.out 0).trans rfl; have hcz20_1 : w19.cell? ⟨gb111, 1, none⟩ = some (.int .i64 0) := (blk_cell BK111.out 1).trans rfl; have hcz20_2 : w19.cell? ⟨gb111, 2, none⟩ = some (.string (⟨#[]⟩ : ByteArray)) := (blk_cell BK111.out 2).trans rfl; have hfz20_0 := blk_frozen BK111.out 0; have hfz20_1 := blk_frozen BK111.out 1; have hfz20_2 := blk_frozen BK111.out 2) | ((with_reducible refine gate_callee (f := 13) rfl ?_); refine goesL_ (some 10) rfl rfl Tryd.func13 (by kernel_rfl) rfl #[.string (⟨#[43]⟩ : ByteArray), .agg #[.int .i64 t101, .int .i64 t102, .string t103], .agg #[.int .i64 t104, .int .i64 t105, .string t106]] rfl (by (try simp only [List.map_toArray, List.map_cons, List.map_nil]); first | done | rfl | (simp only [List.length_drop, List.length_take]; rfl)) ?_; (with_reducible refine (value_Two.calls (hL := ?sideL) (⟨#[43]⟩ : ByteArray) t101 t102 t103 t104 t105 t106 t107 t108 t109 t110 _ A3.out).mono ?_); (case sideL => exact Laid.below HL.out (by repeat (first | (with_reducible first | exact HB.out | apply below_alloc | apply pw_below_drewN | apply below_drew1) | exact HB.out))); rintro e w18 ⟨rfl, hb⟩; refine ⟨_, rfl, ?_⟩; have n0_ := Aside0.mk (below_step (by repeat (first | (with_reducible first | exact HB.out | apply below_alloc | apply pw_below_drewN | apply below_drew1) | exact HB.out)) hb); clear HB; have HB := n0_; clear n0_; (try clear hb); (try clear hb2); (try clear hk); (try clear hi)) | ((with_reducible refine gate_callee (f := 18) rfl ?_); refine goesL_ (some 9) rfl rfl Tryd.func18 (by kernel_rfl) rfl #[.string (⟨#[97]⟩ : ByteArray)] rfl (by (try simp only [List.map_toArray, List.map_cons, List.map_nil]); first | done | rfl | (simp only [List.length_drop, List.length_take]; rfl)) ?_; (with_reducible refine (gumshoelaw06_text.calls (⟨#[97]⟩ : ByteArray) t104 t105 t106 _ A2.out).mono ?_); rintro e w17 ⟨rfl, hb⟩; refine ⟨_, rfl, ?_⟩; have n0_ := Aside0.mk (below_step (by repeat (first | (with_reducible first | exact HB.out | apply below_alloc | apply pw_below_drewN | apply below_drew1) | exact HB.out)) hb); clear HB; have HB := n0_; clear n0_; (try clear hb); (try clear hb2); (try clear hk); (try clear hi)) | ((with_reducible refine gate_callee (f := 16) rfl ?_); refine goesL_ (some 8) rfl rfl Tryd.func16 (by kernel_rfl) rfl #[.int .i64 1] rfl (by (try simp only [List.map_toArray, List.map_cons, List.map_nil]); first | done | rfl | (simp only [List.length_drop, List.length_take]; rfl)) ?_; (with_reducible refine (gumshoelaw06_num.calls 1 t101 t102 t103 _ A1.out).mono ?_); rintro e w16 ⟨rfl, hb⟩; refine ⟨_, rfl, ?_⟩; have n0_ := Aside0.mk (below_step (by repeat (first | (with_reducible first | exact HB.out | apply below_alloc | apply pw_below_drewN | apply below_drew1) | exact HB.out)) hb); clear HB; have HB := n0_; clear n0_; (try clear hb); (try clear hb2); (try clear hk); (try clear hi)))
            have n0_ : Aside0 ((((w30.setCell ⟨gb133, 0, none⟩ (.int .i64 t129)).setCell ⟨gb133, 1, none⟩ (.int .i64 t130)).setCell ⟨gb133, 2, none⟩ (.string t131)).heap[gb111]? = some (.cells #[.int .i64 t107, .int .i64 t108, .string t109] 23 (0, 0))) := ⟨by (with_reducible repeat (first | refine blk_drewN ?_ _ | refine blk_drew ?_ | refine blk_alloc ?_ _)); refine blk_far ?_ NB111_133.out _; (with_reducible repeat (first | refine blk_drewN ?_ _ | refine blk_drew ?_ | refine blk_alloc ?_ _)); refine blk_far ?_ NB111_133.out _; (with_reducible repeat (first | refine blk_drewN ?_ _ | refine blk_drew ?_ | refine blk_alloc ?_ _)); refine blk_far ?_ NB111_133.out _; (with_reducible repeat (first | refine blk_drewN ?_ _ | refine blk_drew ?_ | refine blk_alloc ?_ _)); exact BK111.out⟩
            have n1_ : Aside0 ((((w30.setCell ⟨gb133, 0, none⟩ (.int .i64 t129)).setCell ⟨gb133, 1, none⟩ (.int .i64 t130)).setCell ⟨gb133, 2, none⟩ (.string t131)).heap[gb122]? = some (.cells #[.int .i64 t118, .int .i64 t119, .string t120] 23 (0, 0))) := ⟨by (with_reducible repeat (first | refine blk_drewN ?_ _ | refine blk_drew ?_ | refine blk_alloc ?_ _)); refine blk_far ?_ NB122_133.out _; (with_reducible repeat (first | refine blk_drewN ?_ _ | refine blk_drew ?_ | refine blk_alloc ?_ _)); refine blk_far ?_ NB122_133.out _; (with_reducible repeat (first | refine blk_drewN ?_ _ | refine blk_drew ?_ | refine blk_alloc ?_ _)); refine blk_far ?_ NB122_133.out _; (with_reducible repeat (first | refine blk_drewN ?_ _ | refine blk_drew ?_ | refine blk_alloc ?_ _)); exact BK122.out⟩
            have n2_ : Aside0 ((((w30.setCell ⟨gb133, 0, none⟩ (.int .i64 t129)).setCell ⟨gb133, 1, none⟩ (.int .i64 t130)).setCell ⟨gb133, 2, none⟩ (.string t131)).heap[gb133]? = some (.cells #[.int .i64 t129, .int .i64 t130, .string t131] 23 (0, 0))) := ⟨by (with_reducible repeat (first | refine blk_drewN ?_ _ | refine blk_drew ?_ | refine blk_alloc ?_ _)); refine blk_put (cs := #[.int .i64 t129, .int .i64 t130, .string (⟨#[]⟩ : ByteArray)]) ?_ 2 _ rfl; (with_reducible repeat (first | refine blk_drewN ?_ _ | refine blk_drew ?_ | refine blk_alloc ?_ _)); refine blk_put (cs := #[.int .i64 t129, .int .i64 0, .string (⟨#[]⟩ : ByteArray)]) ?_ 1 _ rfl; (with_reducible repeat (first | refine blk_drewN ?_ _ | refine blk_drew ?_ | refine blk_alloc ?_ _)); refine blk_put (cs := #[.int .i64 0, .int .i64 0, .string (⟨#[]⟩ : ByteArray)]) ?_ 0 _ rfl; (with_reducible repeat (first | refine blk_drewN ?_ _ | refine blk_drew ?_ | refine blk_alloc ?_ _)); exact BK133.out⟩
            have n3_ : Aside0 (Below w.heap.size w (((w30.setCell ⟨gb133, 0, none⟩ (.int .i64 t129)).setCell ⟨gb133, 1, none⟩ (.int .i64 t130)).setCell ⟨gb133, 2, none⟩ (.string t131))) := ⟨by repeat (first | (with_reducible first | exact HB.out | apply below_alloc | apply pw_below_drewN | apply below_drew1 | refine below_set ?_ GE111.out | refine below_set ?_ GE122.out | refine below_set ?_ GE133.out) | exact HB.out)⟩
            (try clear BK111)
            (try clear BK122)
            (try clear BK133)
            (try clear HB)
            generalize (((w30.setCell ⟨gb133, 0, none⟩ (.int .i64 t129)).setCell ⟨gb133, 1, none⟩ (.int .i64 t130)).setCell ⟨gb133, 2, none⟩ (.string t131)) = w34 at n0_ n1_ n2_ n3_ ⊢
            have BK111 := n0_
            have BK122 := n1_
            have BK133 := n2_
            have HB := n3_
            clear n0_ n1_ n2_ n3_
            have n0_ := Aside0.mk (blk_drew BK111.out)
            have n1_ := Aside0.mk (blk_drew BK122.out)
            have n2_ := Aside0.mk (blk_drew BK133.out)
            have n3_ := Aside0.mk (below_drew1 HB.out)
            clear BK111
            clear BK122
            clear BK133
            clear HB
            have BK111 := n0_
            have BK122 := n1_
            have BK133 := n2_
            have HB := n3_
            clear n0_ n1_ n2_ n3_
            refine start_ (n := 26) (S := fun w' => w'.cell? ⟨gb111, 0, none⟩ = some (.int .i64 t107) ∧ w'.cell? ⟨gb111, 1, none⟩ = some (.int .i64 t108) ∧ w'.cell? ⟨gb111, 2, none⟩ = some (.string t109) ∧ w'.cell? ⟨gb122, 0, none⟩ = some (.int .i64 t118) ∧ w'.cell? ⟨gb122, 1, none⟩ = some (.int .i64 t119) ∧ w'.cell? ⟨gb122, 2, none⟩ = some (.string t120) ∧ w'.cell? ⟨gb133, 0, none⟩ = some (.int .i64 t129) ∧ w'.cell? ⟨gb133, 1, none⟩ = some (.int .i64 t130) ∧ w'.cell? ⟨gb133, 2, none⟩ = some (.string t131)) (ds := []) #[false, false, false, false, false, false, false, false, false, false, false, false, false, false, false, false, false, false, false, false, false, false, false, false, false, false] (by kernel_rfl) rfl rfl ⟨(blk_cell BK111.out 0).trans rfl, (blk_cell BK111.out 1).trans rfl, (blk_cell BK111.out 2).trans rfl, (blk_cell BK122.out 0).trans rfl, (blk_cell BK122.out 1).trans rfl, (blk_cell BK122.out 2).trans rfl, (blk_cell BK133.out 0).trans rfl, (blk_cell BK133.out 1).trans rfl, (blk_cell BK133.out 2).trans rfl⟩ (fun hHeld => ?_); refine with_tabW gumshoelaw06_shown.tab4 gumshoelaw06_shown.bits4 (fun HT_ HW_ => ?_)
            generalize w34.drew = w35 at BK111 BK122 BK133 HB hHeld ⊢
            refine pure_ (i := 0) (N := some 25) (v := ?_) (a' := ?_) #[true, false, false, false, false, false, false, false, false, false, false, false, false, false, false, false, false, false, false, false, false, false, false, false, false, false] rfl rfl (any_of HT_.out (by kernel_rfl)) (fun _ _ _ h => h) (Or.inl ⟨by rfl, ?_⟩) ?_ ?_
            rotate_left
            · intro w'
              go_simp
              with_reducible rfl
            rotate_left
            · simp only [Act.put, List.setIfInBounds_toArray, List.set_cons_zero, List.set_cons_succ, i64_w, i32_w]
              rfl
            refine pure_ (i := 1) (N := some 26) (v := ?_) (a' := ?_) #[true, true, false, false, false, false, false, false, false, false, false, false, false, false, false, false, false, false, false, false, false, false, false, false, false, false] rfl rfl (any_of HT_.out (by kernel_rfl)) (fun _ _ _ h => h) (Or.inl ⟨by rfl, ?_⟩) ?_ ?_
            rotate_left
            · intro w'
              go_simp
              with_reducible rfl
            rotate_left
            · simp only [Act.put, List.setIfInBounds_toArray, List.set_cons_zero, List.set_cons_succ, i64_w, i32_w]
              rfl
            refine pure_ (i := 2) (N := some 27) (v := ?_) (a' := ?_) #[true, true, true, false, false, false, false, false, false, false, false, false, false, false, false, false, false, false, false, false, false, false, false, false, false, false] rfl rfl (any_of HT_.out (by kernel_rfl)) (fun _ _ _ h => h) (Or.inl ⟨by rfl, ?_⟩) ?_ ?_
            rotate_left
            · intro w'
              go_simp
              with_reducible rfl
            rotate_left
            · simp only [Act.put, List.setIfInBounds_toArray, List.set_cons_zero, List.set_cons_succ, i64_w, i32_w]
              rfl
            refine pure_ (i := 3) (N := some 28) (v := ?_) (a' := ?_) #[true, true, true, true, false, false, false, false, false, false, false, false, false, false, false, false, false, false, false, false, false, false, false, false, false, false] rfl rfl (any_of HT_.out (by kernel_rfl)) (fun _ _ _ h => h) (Or.inl ⟨by rfl, ?_⟩) ?_ ?_
            rotate_left
            · intro w'
              go_simp
              with_reducible rfl
            rotate_left
            · simp only [Act.put, List.setIfInBounds_toArray, List.set_cons_zero, List.set_cons_succ, i64_w, i32_w]
              rfl
            refine pure_ (i := 4) (N := some 29) (v := ?_) (a' := ?_) #[true, true, true, true, true, false, false, false, false, false, false, false, false, false, false, false, false, false, false, false, false, false, false, false, false, false] rfl rfl (any_of HT_.out (by kernel_rfl)) (fun _ _ _ h => h) (Or.inl ⟨by rfl, ?_⟩) ?_ ?_
            rotate_left
            · intro w'
              go_simp
              with_reducible rfl
            rotate_left
            · simp only [Act.put, List.setIfInBounds_toArray, List.set_cons_zero, List.set_cons_succ, i64_w, i32_w]
              rfl
            refine pure_ (i := 5) (N := some 30) (v := ?_) (a' := ?_) #[true, true, true, true, true, true, false, false, false, false, false, false, false, false, false, false, false, false, false, false, false, false, false, false, false, false] rfl rfl (any_of HT_.out (by kernel_rfl)) (fun _ _ _ h => h) (Or.inl ⟨by rfl, ?_⟩) ?_ ?_
            rotate_left
            · intro w'
              go_simp
              with_reducible rfl
            rotate_left
            · simp only [Act.put, List.setIfInBounds_toArray, List.set_cons_zero, List.set_cons_succ, i64_w, i32_w]
              rfl
            refine pure_ (i := 6) (N := some 31) (v := ?_) (a' := ?_) #[true, true, true, true, true, true, true, false, false, false, false, false, false, false, false, false, false, false, false, false, false, false, false, false, false, false] rfl rfl (any_of HT_.out (by kernel_rfl)) (fun _ _ _ h => h) (Or.inl ⟨by rfl, ?_⟩) ?_ ?_
            rotate_left
            · intro w'
              go_simp
              with_reducible rfl
            rotate_left
            · simp only [Act.put, List.setIfInBounds_toArray, List.set_cons_zero, List.set_cons_succ, i64_w, i32_w]
              rfl
            refine pure_ (i := 7) (N := some 32) (v := ?_) (a' := ?_) #[true, true, true, true, true, true, true, true, false, false, false, false, false, false, false, false, false, false, false, false, false, false, false, false, false, false] rfl rfl (any_of HT_.out (by kernel_rfl)) (fun _ _ _ h => h) (Or.inl ⟨by rfl, ?_⟩) ?_ ?_
            rotate_left
            · intro w'
              go_simp
              with_reducible rfl
            rotate_left
            · simp only [Act.put, List.setIfInBounds_toArray, List.set_cons_zero, List.set_cons_succ, i64_w, i32_w]
              rfl
            refine pure_ (i := 8) (N := some 33) (v := ?_) (a' := ?_) #[true, true, true, true, true, true, true, true, true, false, false, false, false, false, false, false, false, false, false, false, false, false, false, false, false, false] rfl rfl (any_of HT_.out (by kernel_rfl)) (fun _ _ _ h => h) (Or.inl ⟨by rfl, ?_⟩) ?_ ?_
            rotate_left
            · intro w'
              go_simp
              with_reducible rfl
            rotate_left
            · simp only [Act.put, List.setIfInBounds_toArray, List.set_cons_zero, List.set_cons_succ, i64_w, i32_w]
              rfl
            refine pure_ (i := 9) (N := some 34) (v := ?_) (a' := ?_) #[true, true, true, true, true, true, true, true, true, true, false, false, false, false, false, false, false, false, false, false, false, false, false, false, false, false] rfl rfl (any_of HT_.out (by kernel_rfl)) (fun _ _ _ h => h) (Or.inl ⟨by rfl, ?_⟩) ?_ ?_
            rotate_left
            · intro w'
              go_simp
              with_reducible rfl
            rotate_left
            · simp only [Act.put, List.setIfInBounds_toArray, List.set_cons_zero, List.set_cons_succ, i64_w, i32_w]
              rfl
            refine pure_ (i := 10) (N := some 35) (v := ?_) (a' := ?_) #[true, true, true, true, true, true, true, true, true, true, true, false, false, false, false, false, false, false, false, false, false, false, false, false, false, false] rfl rfl (any_of HT_.out (by kernel_rfl)) (fun _ _ _ h => h) (Or.inl ⟨by rfl, ?_⟩) ?_ ?_
            rotate_left
            · intro w'
              go_simp
              with_reducible rfl
            rotate_left
            · simp only [Act.put, List.setIfInBounds_toArray, List.set_cons_zero, List.set_cons_succ, i64_w, i32_w]
              rfl
            refine take_ (i := 11) (N := some 36) (v := ?_) (a' := ?_) #[true, true, true, true, true, true, true, true, true, true, true, true, false, false, false, false, false, false, false, false, false, false, false, false, false, false] rfl rfl (take_ofW HT_.out HW_.out (by kernel_rfl)) (fun _ _ _ h => h) (Or.inl ⟨by rfl, ?_⟩) hHeld ?_ ?_
            rotate_left
            · rintro w' ⟨s0, s1, s2, s3, s4, s5, s6, s7, s8⟩
              go_simp
              with_reducible rfl
            rotate_left
            · simp only [Act.put, List.setIfInBounds_toArray, List.set_cons_zero, List.set_cons_succ, i64_w, i32_w]
              rfl
            refine one_ (i := 12) (N := some 37) #[true, true, true, true, true, true, true, true, true, true, true, true, true, false, false, false, false, false, false, false, false, false, false, false, false, false] rfl rfl (one_of HT_.out (by kernel_rfl)) (by decide) (fun K hK => ?_)
            refine goes_ Tryd.func18 (by kernel_rfl) rfl #[.string (⟨#[49, 97]⟩ : ByteArray)] (by rfl) rfl rfl (by (try simp only [List.map_toArray, List.map_cons, List.map_nil]); first | done | rfl | (simp only [List.length_drop, List.length_take]; rfl)) ?_
            with_reducible refine (gumshoelaw06_text.calls (⟨#[49, 97]⟩ : ByteArray) t134 t135 t136 _ A13.out).mono ?_
            rintro e w36 ⟨rfl, hb⟩
            refine ⟨_, rfl, ?_⟩
            have n0_ := Aside0.mk (blk_below (g := gb111) (o := .cells #[.int .i64 t107, .int .i64 t108, .string t109] 23 (0, 0)) (by (with_reducible repeat (first | refine blk_drewN ?_ _ | refine blk_drew ?_ | refine blk_alloc ?_ _)); exact BK111.out) hb)
            have n1_ := Aside0.mk (blk_below (g := gb122) (o := .cells #[.int .i64 t118, .int .i64 t119, .string t120] 23 (0, 0)) (by (with_reducible repeat (first | refine blk_drewN ?_ _ | refine blk_drew ?_ | refine blk_alloc ?_ _)); exact BK122.out) hb)
            have n2_ := Aside0.mk (blk_below (g := gb133) (o := .cells #[.int .i64 t129, .int .i64 t130, .string t131] 23 (0, 0)) (by (with_reducible repeat (first | refine blk_drewN ?_ _ | refine blk_drew ?_ | refine blk_alloc ?_ _)); exact BK133.out) hb)
            have n3_ := Aside0.mk (below_step (by repeat (first | (with_reducible first | exact HB.out | apply below_alloc | apply pw_below_drewN | apply below_drew1 | refine below_set ?_ GE111.out | refine below_set ?_ GE122.out | refine below_set ?_ GE133.out) | exact HB.out)) hb)
            clear BK111
            clear BK122
            clear BK133
            clear HB
            have BK111 := n0_
            have BK122 := n1_
            have BK133 := n2_
            have HB := n3_
            clear n0_ n1_ n2_ n3_
            (try clear hb)
            (try clear hb2)
            (try clear hk)
            (try clear hi)
            refine hK.out _ _ ⟨(blk_cell BK111.out 0).trans rfl, (blk_cell BK111.out 1).trans rfl, (blk_cell BK111.out 2).trans rfl, (blk_cell BK122.out 0).trans rfl, (blk_cell BK122.out 1).trans rfl, (blk_cell BK122.out 2).trans rfl, (blk_cell BK133.out 0).trans rfl, (blk_cell BK133.out 1).trans rfl, (blk_cell BK133.out 2).trans rfl⟩ (fun hHeld => ?_)
            clear hK K
            refine norm_ (a' := ?_) ?_ ?_
            rotate_left
            · show Act.put _ (some 37) _ = _
              simp only [Act.put, List.setIfInBounds_toArray, List.set_cons_zero, List.set_cons_succ, i64_w, i32_w]
              rfl
            refine pure_ (i := 13) (N := some 38) (v := ?_) (a' := ?_) #[true, true, true, true, true, true, true, true, true, true, true, true, true, true, false, false, false, false, false, false, false, false, false, false, false, false] rfl rfl (any_of HT_.out (by kernel_rfl)) (fun _ _ _ h => h) (Or.inl ⟨by rfl, ?_⟩) ?_ ?_
            rotate_left
            · intro w'
              go_simp
              with_reducible rfl
            rotate_left
            · simp only [Act.put, List.setIfInBounds_toArray, List.set_cons_zero, List.set_cons_succ, i64_w, i32_w]
              rfl
            refine pure_ (i := 14) (N := some 39) (v := ?_) (a' := ?_) #[true, true, true, true, true, true, true, true, true, true, true, true, true, true, true, false, false, false, false, false, false, false, false, false, false, false] rfl rfl (any_of HT_.out (by kernel_rfl)) (fun _ _ _ h => h) (Or.inl ⟨by rfl, ?_⟩) ?_ ?_
            rotate_left
            · intro w'
              go_simp
              with_reducible rfl
            rotate_left
            · simp only [Act.put, List.setIfInBounds_toArray, List.set_cons_zero, List.set_cons_succ, i64_w, i32_w]
              rfl
            refine pure_ (i := 15) (N := some 40) (v := ?_) (a' := ?_) #[true, true, true, true, true, true, true, true, true, true, true, true, true, true, true, true, false, false, false, false, false, false, false, false, false, false] rfl rfl (any_of HT_.out (by kernel_rfl)) (fun _ _ _ h => h) (Or.inl ⟨by rfl, ?_⟩) ?_ ?_
            rotate_left
            · intro w'
              go_simp
              with_reducible rfl
            rotate_left
            · simp only [Act.put, List.setIfInBounds_toArray, List.set_cons_zero, List.set_cons_succ, i64_w, i32_w]
              rfl
            refine pure_ (i := 17) (N := some 42) (v := ?_) (a' := ?_) #[true, true, true, true, true, true, true, true, true, true, true, true, true, true, true, true, false, true, false, false, false, false, false, false, false, false] rfl rfl (any_of HT_.out (by kernel_rfl)) (fun _ _ _ h => h) (Or.inl ⟨by rfl, ?_⟩) ?_ ?_
            rotate_left
            · intro w'
              go_simp
              with_reducible rfl
            rotate_left
            · simp only [Act.put, List.setIfInBounds_toArray, List.set_cons_zero, List.set_cons_succ, i64_w, i32_w]
              rfl
            refine take_ (i := 16) (N := some 41) (v := ?_) (a' := ?_) #[true, true, true, true, true, true, true, true, true, true, true, true, true, true, true, true, true, true, false, false, false, false, false, false, false, false] rfl rfl (take_ofW HT_.out HW_.out (by kernel_rfl)) (fun _ _ _ h => h) (Or.inl ⟨by rfl, ?_⟩) hHeld ?_ ?_
            rotate_left
            · rintro w' ⟨s0, s1, s2, s3, s4, s5, s6, s7, s8⟩
              go_simp
              with_reducible rfl
            rotate_left
            · simp only [Act.put, List.setIfInBounds_toArray, List.set_cons_zero, List.set_cons_succ, i64_w, i32_w]
              rfl
            refine pure_ (i := 18) (N := some 43) (v := ?_) (a' := ?_) #[true, true, true, true, true, true, true, true, true, true, true, true, true, true, true, true, true, true, true, false, false, false, false, false, false, false] rfl rfl (any_of HT_.out (by kernel_rfl)) (fun _ _ _ h => h) (Or.inl ⟨by rfl, ?_⟩) ?_ ?_
            rotate_left
            · intro w'
              go_simp
              with_reducible rfl
            rotate_left
            · simp only [Act.put, List.setIfInBounds_toArray, List.set_cons_zero, List.set_cons_succ, i64_w, i32_w]
              rfl
            refine pure_ (i := 19) (N := some 44) (v := ?_) (a' := ?_) #[true, true, true, true, true, true, true, true, true, true, true, true, true, true, true, true, true, true, true, true, false, false, false, false, false, false] rfl rfl (any_of HT_.out (by kernel_rfl)) (fun _ _ _ h => h) (Or.inl ⟨by rfl, ?_⟩) ?_ ?_
            rotate_left
            · intro w'
              go_simp
              with_reducible rfl
            rotate_left
            · simp only [Act.put, List.setIfInBounds_toArray, List.set_cons_zero, List.set_cons_succ, i64_w, i32_w]
              rfl
            refine pure_ (i := 20) (N := some 45) (v := ?_) (a' := ?_) #[true, true, true, true, true, true, true, true, true, true, true, true, true, true, true, true, true, true, true, true, true, false, false, false, false, false] rfl rfl (any_of HT_.out (by kernel_rfl)) (fun _ _ _ h => h) (Or.inl ⟨by rfl, ?_⟩) ?_ ?_
            rotate_left
            · intro w'
              go_simp
              with_reducible rfl
            rotate_left
            · simp only [Act.put, List.setIfInBounds_toArray, List.set_cons_zero, List.set_cons_succ, i64_w, i32_w]
              rfl
            refine pure_ (i := 22) (N := some 47) (v := ?_) (a' := ?_) #[true, true, true, true, true, true, true, true, true, true, true, true, true, true, true, true, true, true, true, true, true, false, true, false, false, false] rfl rfl (any_of HT_.out (by kernel_rfl)) (fun _ _ _ h => h) (Or.inl ⟨by rfl, ?_⟩) ?_ ?_
            rotate_left
            · intro w'
              go_simp
              with_reducible rfl
            rotate_left
            · simp only [Act.put, List.setIfInBounds_toArray, List.set_cons_zero, List.set_cons_succ, i64_w, i32_w]
              rfl
            refine take_ (i := 21) (N := some 46) (v := ?_) (a' := ?_) #[true, true, true, true, true, true, true, true, true, true, true, true, true, true, true, true, true, true, true, true, true, true, true, false, false, false] rfl rfl (take_ofW HT_.out HW_.out (by kernel_rfl)) (fun _ _ _ h => h) (Or.inl ⟨by rfl, ?_⟩) hHeld ?_ ?_
            rotate_left
            · rintro w' ⟨s0, s1, s2, s3, s4, s5, s6, s7, s8⟩
              go_simp
              with_reducible rfl
            rotate_left
            · simp only [Act.put, List.setIfInBounds_toArray, List.set_cons_zero, List.set_cons_succ, i64_w, i32_w]
              rfl
            refine pure_ (i := 23) (N := some 48) (v := ?_) (a' := ?_) #[true, true, true, true, true, true, true, true, true, true, true, true, true, true, true, true, true, true, true, true, true, true, true, true, false, false] rfl rfl (any_of HT_.out (by kernel_rfl)) (fun _ _ _ h => h) (Or.inl ⟨by rfl, ?_⟩) ?_ ?_
            rotate_left
            · intro w'
              go_simp
              with_reducible rfl
            rotate_left
            · simp only [Act.put, List.setIfInBounds_toArray, List.set_cons_zero, List.set_cons_succ, i64_w, i32_w]
              rfl
            refine pure_ (i := 24) (N := some 49) (v := ?_) (a' := ?_) #[true, true, true, true, true, true, true, true, true, true, true, true, true, true, true, true, true, true, true, true, true, true, true, true, true, false] rfl rfl (any_of HT_.out (by kernel_rfl)) (fun _ _ _ h => h) (Or.inl ⟨by rfl, ?_⟩) ?_ ?_
            rotate_left
            · intro w'
              go_simp
              with_reducible rfl
            rotate_left
            · simp only [Act.put, List.setIfInBounds_toArray, List.set_cons_zero, List.set_cons_succ, i64_w, i32_w]
              rfl
            refine pure_ (i := 25) (N := some 0) (v := ?_) (a' := ?_) #[true, true, true, true, true, true, true, true, true, true, true, true, true, true, true, true, true, true, true, true, true, true, true, true, true, true] rfl rfl (any_of HT_.out (by kernel_rfl)) (fun _ _ _ h => h) (Or.inl ⟨by rfl, ?_⟩) ?_ ?_
            rotate_left
            · intro w'
              go_simp
              with_reducible rfl
            rotate_left
            · simp only [Act.put, List.setIfInBounds_toArray, List.set_cons_zero, List.set_cons_succ, i64_w, i32_w]
              rfl
            refine done_ (done_of HT_.out (by kernel_rfl)) ?_
            try go_wp2
            go_ret
            exact ⟨by first | rfl | (simp [errW_none, errW_some] <;> rfl) | (simp [*, errW_none, errW_some] <;> rfl) | (simp [*, errW_none, errW_some]; exact (fun (l_ : List UInt8) => (by cases l_ <;> rfl : l_.isEmpty = !(l_ != []))) _), by repeat (first | (with_reducible first | exact HB.out | apply below_alloc | apply pw_below_drewN | apply below_drew1 | refine below_set ?_ GE111.out | refine below_set ?_ GE122.out | refine below_set ?_ GE133.out) | exact HB.out)⟩
          · rw [if_neg c15] at H
            exact absurd H (by simp)
        · rw [if_neg c14] at H
          exact absurd H (by simp)
      · rw [if_neg c12] at H
        exact absurd H (by simp)
    · rw [if_neg c11] at H
      exact absurd H (by simp)
  · rw [if_neg c10] at H
    exact absurd H (by simp)
end Go.Proofs.YtmdchbenalhpjaaDoor.Pv

/- The plain laws of the values: what the printed functions answer. No condition. -/
namespace Go.Proofs.YtmdchbenalhpjaaDoor.Vc
open Go.RowKit Go.Proofs.YtmdchbenalhpjaaDoorW.PrintWords Go.Proofs.YtmdchbenalhpjaaDoorW.PrintLast Go.Proofs.YtmdchbenalhpjaaDoor.Va Go.Proofs.YtmdchbenalhpjaaDoor.Vb Go.Proofs.YtmdchbenalhpjaaDoor.Pv
set_option linter.unusedVariables false
set_option linter.unusedSimpArgs false
theorem fb {n : Int} {s : ByteArray} (h : I64 n) (hs : s.size ≤ 140737488355328) : FB n s := ⟨h, hs⟩
theorem val_two (s : ByteArray) (a0 a1 : Int) (a2 : ByteArray) (b0 b1 : Int) (b2 : ByteArray) (ha : FB a1 a2) (hb : FB b1 b2) (hs : s.size ≤ maxLen) (r : VR) (e : Int) (h : twoS s.data.toList (a0, a1, a2) (b0, b1, b2) = (r, e)) :
    Vb.value_Two.f s a0 a1 a2 b0 b1 b2 = some (r.1, r.2.1, r.2.2, e) := by
  unfold Vb.value_Two.f
  rw [if_pos ⟨ha, hb, hs⟩, h]
theorem twoS_of {n : Nat} {s : List UInt8} {a b m : VR} (e : sign s = some n) (hm : mkS n a b = m) (hz : m.2.2.size = 0) : twoS s a b = (m, 0) := by
  unfold twoS
  rw [e]
  simp only [hm]
  exact if_neg (by omega)
theorem fit_num (n : Int) (h : I64 n) : FB n (⟨#[]⟩ : ByteArray) := fb h (by decide)
theorem i64_0 : I64 0 := ⟨by omega, by omega⟩
theorem i64_1 : I64 1 := ⟨by omega, by omega⟩
theorem sg_add : sign [43] = some 38 := by decide
theorem sg_sub : sign [45] = some 39 := by decide
theorem sg_mul : sign [42] = some 40 := by decide
theorem sg_lss : sign [60] = some 41 := by decide
theorem sg_leq : sign [60, 61] = some 43 := by decide
theorem sg_eql : sign [61, 61, 61] = some 44 := by decide
theorem sg_neq : sign [33, 61, 61] = some 45 := by decide
theorem two_addn (a b : VR) (ha : ¬ (a.1 = 4 ∨ b.1 = 4)) : twoS [43] a b = ((3, wrap64 (numS a.1 a.2.1 a.2.2 + numS b.1 b.2.1 b.2.2), ⟨#[]⟩), 0) :=
  twoS_of sg_add (by unfold mkS; rw [if_pos rfl, if_neg ha]) rfl
theorem two_sub (a b : VR) : twoS [45] a b = ((3, wrap64 (numS a.1 a.2.1 a.2.2 - numS b.1 b.2.1 b.2.2), ⟨#[]⟩), 0) := twoS_of sg_sub rfl rfl
theorem two_mul (a b : VR) : twoS [42] a b = ((3, wrap64 (numS a.1 a.2.1 a.2.2 * numS b.1 b.2.1 b.2.2), ⟨#[]⟩), 0) := twoS_of sg_mul rfl rfl
theorem two_lss (a b : VR) : twoS [60] a b = (boolS (decide (cmpS a b < 0)), 0) := twoS_of sg_lss rfl rfl
theorem two_leq (a b : VR) : twoS [60, 61] a b = (boolS (decide (cmpS a b ≤ 0)), 0) := twoS_of sg_leq rfl rfl
theorem two_eql (a b : VR) : twoS [61, 61, 61] a b = (boolS (eqS a b), 0) := twoS_of sg_eql rfl rfl
theorem two_neq (a b : VR) : twoS [33, 61, 61] a b = (boolS (!eqS a b), 0) := twoS_of sg_neq rfl rfl
/-! ### shown -/
theorem key_one : keyS 3 1 (⟨#[]⟩ : ByteArray) = ⟨#[49]⟩ := by
  have h : Lib.itoa 1 = [49] := by
    rw [show (1 : Int) = ((1 : Nat) : Int) from rfl, Lib.itoa_nonneg, Lib.decDigits_one (by omega)]
    rfl
  unfold keyS
  rw [if_neg (by decide), if_neg (by decide), if_neg (by decide), if_pos rfl, h]
theorem key_text (n : Int) (s : ByteArray) : keyS 4 n s = s := by
  unfold keyS
  rw [if_neg (by decide), if_neg (by decide), if_neg (by decide), if_neg (by decide), if_pos rfl]
theorem one_a : twoS [43] (3, 1, ⟨#[]⟩) (4, 0, ⟨#[97]⟩) = ((4, 0, ⟨#[49, 97]⟩), 0) := by
  have hm : mkS 38 (3, 1, ⟨#[]⟩) (4, 0, ⟨#[97]⟩) = (4, 0, ⟨#[49, 97]⟩) := by
    unfold mkS
    rw [if_pos rfl, if_pos (.inr rfl)]
    simp only
    rw [key_one, key_text]
    exact congrArg (fun x : ByteArray => ((4, 0, x) : VR)) (cat_list [49] [97])
  unfold twoS
  rw [sg_add]
  simp only [hm]
  exact if_neg (by decide)
theorem shown_tells : gumshoelaw06_shown.f = some true := by
  have h1 := val_two ⟨#[43]⟩ 3 1 ⟨#[]⟩ 4 0 ⟨#[97]⟩ (fit_num 1 i64_1) (fb i64_0 (by decide)) (by decide) _ _ one_a
  have h2 := val_two ⟨#[61, 61, 61]⟩ 3 1 ⟨#[]⟩ 4 0 ⟨#[49]⟩ (fit_num 1 i64_1) (fb i64_0 (by decide)) (by decide) _ _ (two_eql _ _)
  have h3 := val_two ⟨#[60]⟩ 4 0 ⟨#[49, 48]⟩ 4 0 ⟨#[57]⟩ (fb i64_0 (by decide)) (fb i64_0 (by decide)) (by decide) _ _ (two_lss _ _)
  have e2 : eqS (3, 1, ⟨#[]⟩) (4, 0, ⟨#[49]⟩) = false := rfl
  have e3 : cmpS (4, 0, ⟨#[49, 48]⟩) (4, 0, ⟨#[57]⟩) = -1 := by
    unfold cmpS
    rw [if_pos ⟨rfl, rfl⟩]
    simp only [ByteArray.toList_eq]
    rw [if_pos (by decide)]
  rw [e2] at h2
  rw [e3] at h3
  unfold gumshoelaw06_shown.f Vb.gumshoelaw06_num.f Vb.gumshoelaw06_text.f
  simp only [Option.bind_some, h1, h2, h3, boolS]
  simp [empty_list]
/-! ### ValueOne, ValueTwo -/
theorem beq3 (a b : Int) (s : ByteArray) : (a == a && (b == b && (s.toList == s.toList))) = true := by simp
end Go.Proofs.YtmdchbenalhpjaaDoor.Vc

/- What a row's listed variables give the walks; a value as a row reads it. No condition. -/
namespace Go.Proofs.YtmdchbenalhpjaaDoor.Vc
open Go.ChangeShapes Go.WideShapes Go.ChangeAt Go.RowKit Go.Shelf
set_option linter.unusedVariables false
set_option linter.unusedSimpArgs false
def five : List (String × DataW Unit) := [("math/bits.deBruijn32tab", Rows.laid_math_bits_deBruijn32tab), ("math/bits.deBruijn64tab", Rows.laid_math_bits_deBruijn64tab), ("internal/strconv.uint64pow10", Rows.laid_internal_strconv_uint64pow10), ("strconv.ErrRange", Rows.laid_strconv_ErrRange), ("strconv.ErrSyntax", Rows.laid_strconv_ErrSyntax)]
theorem gPow : Tryd.prog.globalNamed "internal/strconv.uint64pow10" = some 0 := by kernel_rfl
theorem gSyn : Tryd.prog.globalNamed "strconv.ErrSyntax" = some 1 := by kernel_rfl
theorem gRng : Tryd.prog.globalNamed "strconv.ErrRange" = some 2 := by kernel_rfl
theorem tPow : (Tryd.prog.globals[0]?).map (·.type) = some 72 := by kernel_rfl
theorem tSyn : (Tryd.prog.globals[1]?).map (·.type) = some 49 := by kernel_rfl
theorem tRng : (Tryd.prog.globals[2]?).map (·.type) = some 49 := by kernel_rfl
theorem starE : "*" ++ "errors.errorString" = "*errors.errorString" := by decide
theorem rowE (u : TypeId) (h : Tryd.prog.typeName? 3 u = some "*errors.errorString") : u = 83 :=
  typeName_ptr_named (nm := "errors.errorString") (by rw [starE]; kernel_rfl) (by kernel_rfl) (by decide) u (by rw [starE]; exact h)
theorem cellsE : Tryd.prog.cellsOf 85 = 1 := by kernel_rfl
theorem cellsS : Tryd.prog.cellsOf 9 = 1 := by kernel_rfl
theorem only (x : String × DataW Unit) (n : String) (h : five.filter (fun y => y.1 == n) = [x]) {W : World} (hL : laidMet Tryd.prog five W) : laidMet Tryd.prog [x] W := by
  have := hL.filter (fun y => y.1 == n)
  rw [h] at this
  exact this
theorem laid_of {W : World} (h : laidMetH Tryd.prog five W) : Va.Laid W := by
  rw [MakeChecks.laidMetH_plain _ _ _ (by kernel_rfl)] at h
  have h1 := only ("internal/strconv.uint64pow10", Rows.laid_internal_strconv_uint64pow10) "internal/strconv.uint64pow10" (by kernel_rfl) h
  have h2 := only ("strconv.ErrSyntax", Rows.laid_strconv_ErrSyntax) "strconv.ErrSyntax" (by kernel_rfl) h
  have h3 := only ("strconv.ErrRange", Rows.laid_strconv_ErrRange) "strconv.ErrRange" (by kernel_rfl) h
  obtain ⟨a0, s0, hv0, -, -, -⟩ := laid_sentinel h2 gSyn tSyn Tryd.underlying49 rowE Tryd.underlying83 Tryd.underlying85 rfl rfl Tryd.underlying9 cellsE cellsS
  obtain ⟨a1, s1, hv1, -, -, -⟩ := laid_sentinel h3 gRng tRng Tryd.underlying49 rowE Tryd.underlying83 Tryd.underlying85 rfl rfl Tryd.underlying9 cellsE cellsS
  exact ⟨Lib.tabIs_of_head gPow tPow Tryd.underlying72 Tryd.underlying54 (by kernel_rfl) (by kernel_rfl) h1, ⟨_, _, hv0⟩, ⟨_, _, hv1⟩⟩
theorem own : ownKnob Tryd.prog.godebug = none := by kernel_rfl
theorem laidOut : laidOutB Tryd.prog = true := by kernel_rfl
theorem door_met (os : Os) (args : Array Value) : laidMetH Tryd.prog five ((World.doorLaid Tryd.prog 400 os).forCall (fun _ _ => 0) ⟨#[], args, []⟩).memory :=
  laidMetH_of_parts3 (fuel := 8) (laidMet_of_run' 8 (by kernel_rfl) (by kernel_rfl)) (by kernel_rfl) (by kernel_rfl)
theorem open_val {H : Type} {enc : TypeId × Value → H} {W : World} {base b0 : Nat} {r : Reach} {v : Value} {d : DataW H} {ps : List MemPlace} {sp : Nat → Bool} {held : Bool} (hval : Value.okWide Tryd.prog W r b0 23 v) (h : DataW.Trod enc Tryd.prog W base sp held 23 v d ps) :
    ∃ (n0 n1 : Int) (s : ByteArray), v = .agg #[.int .i64 n0, .int .i64 n1, .string s] ∧ d = .agg [.lit (.int .i64 n0), .lit (.int .i64 n1), .lit (.string s.data.toList)] ∧ ps = [] ∧ (Lit.int .i64 n1).wf = true := by
  obtain ⟨cs, rfl, _⟩ := okWide_struct Tryd.underlying23 hval
  obtain ⟨m, hm⟩ := h
  obtain ⟨xs, n, _, hx, hl, hlen, hf⟩ := DataW.trod_struct Tryd.underlying23 hm
  have c : Tryd.prog.cellsOf 23 = 3 := by kernel_rfl
  have c3 : Tryd.prog.cellsOf 3 = 1 := by kernel_rfl
  have c2 : Tryd.prog.cellsOf 2 = 1 := by kernel_rfl
  rw [c] at hl
  match xs, hlen with
  | [x0, x1, x2], _ =>
    have h0 := hf 0 _ rfl
    have h1 := hf 1 _ rfl
    have h2 := hf 2 _ rfl
    obtain ⟨n0, e0, rfl, _⟩ := DataW.trod_int Tryd.underlying3 h0
    obtain ⟨n1, e1, rfl, w1⟩ := DataW.trod_int Tryd.underlying2 h1
    obtain ⟨s, e2, rfl, _⟩ := DataW.trod_string Tryd.underlying9 h2
    simp only [Prod.mk.injEq] at hx
    refine ⟨n0, n1, s, ?_, hx.1, hx.2, w1⟩
    obtain ⟨l⟩ := cs
    simp only [Value.cells] at hl e0 e1 e2
    match l, hl with
    | [y0, y1, y2], _ =>
      simp at e0 e1 e2
      rw [c3] at e0
      rw [c2] at e1
      rw [cellsS] at e2
      simp at e0 e1 e2
      subst e0 e1 e2
      rfl
theorem val_size {H : Type} {ts : List TypeId} {ds : List (DataW H)} (h : (DataW.weightsEach Tryd.prog ts ds).all (· ≤ reachBytes) = true) {j : Nat} {n0 n1 : Int} {bytes : List UInt8} (ht : ts[j]? = some 23) (hd : ds[j]? = some (.agg [.lit (.int .i64 n0), .lit (.int .i64 n1), .lit (.string bytes)])) : bytes.length ≤ reachBytes := by
  have := List.all_eq_true.1 h _ (DataW.weights_mem_each ht hd bytes.length (by unfold DataW.weights; rw [Tryd.underlying23]; simp [DataW.weights, DataW.weightsEach]))
  simpa using this
end Go.Proofs.YtmdchbenalhpjaaDoor.Vc

