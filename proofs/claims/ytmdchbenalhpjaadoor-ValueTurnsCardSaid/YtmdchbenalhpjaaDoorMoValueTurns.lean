/- The law ValueTurns: for every input it returns true, and each argument reads as it did. No condition but those of the given card or row. -/
import Derived.Test.YtmdchbenalhpjaaDoorRows
import Derived.Test.YtmdchbenalhpjaaDoorCards
import Derived.Test.YtmdchbenalhpjaaDoorTie
import Derived.WalkKit
import Derived.ProofKit
import Derived.OpenShut
import Derived.ShutString
import Derived.ChangeOld
import Derived.Below
import Derived.SizedLaws
import Derived.Stop.Joined
import Derived.SevenTiedAt
import Derived.Test.YtmdchbenalhpjaaDoorMo4
-- WRITTEN BY hprint.py (a patched scratch copy of print.py, see NOTES.md): out of the translation and of contracts proved by hand.
namespace Go.Proofs.YtmdchbenalhpjaaDoor.Pv
open Go.RowKit Go.Proofs.YtmdchbenalhpjaaDoor.Vb Go.Proofs.YtmdchbenalhpjaaDoorW.PrintWords Go.Proofs.YtmdchbenalhpjaaDoorW.PrintLast Go.Proofs.YtmdchbenalhpjaaDoorW.PrintMore
set_option linter.unusedVariables false
set_option linter.unusedSimpArgs false
attribute [local go_sem high] eqA23
/-! ### gumshoelaw06_ValueTurns: function 10 -/
def gumshoelaw06_ValueTurns.f (a0_0 : Int) (a0_1 : Int) (a0_2 : ByteArray) : Option (Bool) := (gumshoelaw06_shown.f).bind fun t295 => ((value_Right.f a0_0 a0_1 a0_2).bind fun t296 => (if t296 = true then ((value_Neg.f a0_0 a0_1 a0_2).bind fun bt297 => ((value_Neg.f bt297.1 bt297.2.1 bt297.2.2).bind fun bt300 => ((value_Not.f a0_0 a0_1 a0_2).bind fun bt304 => ((value_Not.f bt304.1 bt304.2.1 bt304.2.2).bind fun bt307 => ((value_Neg.f a0_0 a0_1 a0_2).bind fun bt311 => ((value_Num.f a0_0 a0_1 a0_2).bind fun t314 => ((gumshoelaw06_num.f t314).bind fun bt315 => ((value_Two.f (⟨#[43]⟩ : ByteArray) bt311.1 bt311.2.1 bt311.2.2 bt315.1 bt315.2.1 bt315.2.2).bind fun bt318 => (if t295 = true then ((value_Num.f a0_0 a0_1 a0_2).bind fun t323 => ((gumshoelaw06_num.f t323).bind fun bt324 => (if (bt300.1 == bt324.1 && (bt300.2.1 == bt324.2.1 && (bt300.2.2.toList == bt324.2.2.toList))) = true then ((value_Truthy.f bt307.1 bt307.2.1 bt307.2.2).bind fun t327 => ((value_Truthy.f a0_0 a0_1 a0_2).bind fun t328 => (if (t327 == t328) = true then (if bt307.1 = 2 then (if bt318.2.2.2 = 0 then ((gumshoelaw06_num.f 0).bind fun bt329 => (some (bt318.1 == bt329.1 && (bt318.2.1 == bt329.2.1 && (bt318.2.2.1.toList == bt329.2.2.toList))))) else (none)) else (none)) else (none)))) else (none)))) else (none)))))))))) else (some t295)))
def gumshoelaw06_ValueTurns.T6 : Bool × List (List Nat × List Nat) := (true, [([], []), ([0], [0]), ([], []), ([2, 1], [2]), ([3, 3], [3]), ([1, 4, 4], [1, 4]), ([5], [5]), ([6], [6]), ([6], [6]), ([], []), ([9, 7, 5, 0, 1, 2, 3, 4, 5, 6, 7, 9], [7, 9]), ([8, 10, 0, 1, 2, 3, 4, 5, 6, 7, 8, 9, 10], [8])])
def gumshoelaw06_ValueTurns.B6 : List Nat := [0, 1, 0, 7, 15, 31, 63, 127, 127, 0, 767, 2047]
theorem gumshoelaw06_ValueTurns.tab6 : rtab .any (opsOf Tryd.f10 6) = gumshoelaw06_ValueTurns.T6 := by kernel_rfl
theorem gumshoelaw06_ValueTurns.bits6 : waitsOk gumshoelaw06_ValueTurns.T6.2 gumshoelaw06_ValueTurns.B6 = true := by kernel_rfl
def gumshoelaw06_ValueTurns.T7 : Bool × List (List Nat × List Nat) := (true, [([], []), ([0], [0]), ([1], [1]), ([1], [1]), ([3, 1, 1], [1, 3]), ([4, 4, 1], [1, 4]), ([2, 5, 1], [1, 2, 5]), ([1, 6], [1, 6]), ([7, 5], [7]), ([8], [8]), ([9, 8, 8], [8, 9]), ([8], [8]), ([11, 10, 8], [8, 11]), ([10, 12, 8], [8, 10, 12]), ([8, 13], [8, 13]), ([14, 12], [14]), ([15], [15]), ([16, 15], [15, 16]), ([17, 15], [15, 17]), ([15, 18], [15, 18]), ([19, 15], [19]), ([20], [20]), ([21, 20], [20, 21]), ([20, 22], [20, 22]), ([23, 20], [23]), ([24], [24]), ([24, 24], [24]), ([25, 26, 24], [24, 25, 26]), ([24, 27], [24, 27]), ([28, 26, 0, 1, 2, 3, 4, 5, 6, 7, 8, 9, 10, 11, 12, 13, 14, 15, 16, 17, 18, 19, 20, 21, 22, 23, 24, 25, 26, 27, 28], [28])])
def gumshoelaw06_ValueTurns.B7 : List Nat := [0, 1, 3, 3, 11, 27, 63, 127, 255, 511, 1023, 511, 4095, 8191, 16383, 32767, 65535, 131071, 262143, 524287, 1048575, 2097151, 4194303, 8388607, 16777215, 33554431, 33554431, 134217727, 268435455, 536870911]
theorem gumshoelaw06_ValueTurns.tab7 : rtab .any (opsOf Tryd.f10 7) = gumshoelaw06_ValueTurns.T7 := by kernel_rfl
theorem gumshoelaw06_ValueTurns.bits7 : waitsOk gumshoelaw06_ValueTurns.T7.2 gumshoelaw06_ValueTurns.B7 = true := by kernel_rfl
set_option maxHeartbeats 8000000 in
set_option maxRecDepth 100000 in
theorem gumshoelaw06_ValueTurns.calls (a0_0 : Int) (a0_1 : Int) (a0_2 : ByteArray) (r : Bool) (w : World) (hL : Laid w) (h : gumshoelaw06_ValueTurns.f a0_0 a0_1 a0_2 = some r) :
    Calls Tryd.prog 10 #[.agg #[.int .i64 a0_0, .int .i64 a0_1, .string a0_2]] w fun e w' => e = .returned (.bool r) ∧ Below w.heap.size w w' := by
  have HL := Aside0.mk hL
  clear hL
  have hu23 := Tryd.underlying23
  have HB := Aside0.mk (Below.refl w.heap.size w)
  have H : ((gumshoelaw06_shown.f).bind fun t295 => ((value_Right.f a0_0 a0_1 a0_2).bind fun t296 => (if t296 = true then ((value_Neg.f a0_0 a0_1 a0_2).bind fun bt297 => ((value_Neg.f bt297.1 bt297.2.1 bt297.2.2).bind fun bt300 => ((value_Not.f a0_0 a0_1 a0_2).bind fun bt304 => ((value_Not.f bt304.1 bt304.2.1 bt304.2.2).bind fun bt307 => ((value_Neg.f a0_0 a0_1 a0_2).bind fun bt311 => ((value_Num.f a0_0 a0_1 a0_2).bind fun t314 => ((gumshoelaw06_num.f t314).bind fun bt315 => ((value_Two.f (⟨#[43]⟩ : ByteArray) bt311.1 bt311.2.1 bt311.2.2 bt315.1 bt315.2.1 bt315.2.2).bind fun bt318 => (if t295 = true then ((value_Num.f a0_0 a0_1 a0_2).bind fun t323 => ((gumshoelaw06_num.f t323).bind fun bt324 => (if (bt300.1 == bt324.1 && (bt300.2.1 == bt324.2.1 && (bt300.2.2.toList == bt324.2.2.toList))) = true then ((value_Truthy.f bt307.1 bt307.2.1 bt307.2.2).bind fun t327 => ((value_Truthy.f a0_0 a0_1 a0_2).bind fun t328 => (if (t327 == t328) = true then (if bt307.1 = 2 then (if bt318.2.2.2 = 0 then ((gumshoelaw06_num.f 0).bind fun bt329 => (some (bt318.1 == bt329.1 && (bt318.2.1 == bt329.2.1 && (bt318.2.2.1.toList == bt329.2.2.toList))))) else (none)) else (none)) else (none)))) else (none)))) else (none)))))))))) else (some t295)))) = some r := h
  clear h
  replace H := Option.bind_eq_some_iff.mp H
  obtain ⟨t295, A20, H⟩ := H
  replace H : ((value_Right.f a0_0 a0_1 a0_2).bind fun t296 => (if t296 = true then ((value_Neg.f a0_0 a0_1 a0_2).bind fun bt297 => ((value_Neg.f bt297.1 bt297.2.1 bt297.2.2).bind fun bt300 => ((value_Not.f a0_0 a0_1 a0_2).bind fun bt304 => ((value_Not.f bt304.1 bt304.2.1 bt304.2.2).bind fun bt307 => ((value_Neg.f a0_0 a0_1 a0_2).bind fun bt311 => ((value_Num.f a0_0 a0_1 a0_2).bind fun t314 => ((gumshoelaw06_num.f t314).bind fun bt315 => ((value_Two.f (⟨#[43]⟩ : ByteArray) bt311.1 bt311.2.1 bt311.2.2 bt315.1 bt315.2.1 bt315.2.2).bind fun bt318 => (if t295 = true then ((value_Num.f a0_0 a0_1 a0_2).bind fun t323 => ((gumshoelaw06_num.f t323).bind fun bt324 => (if (bt300.1 == bt324.1 && (bt300.2.1 == bt324.2.1 && (bt300.2.2.toList == bt324.2.2.toList))) = true then ((value_Truthy.f bt307.1 bt307.2.1 bt307.2.2).bind fun t327 => ((value_Truthy.f a0_0 a0_1 a0_2).bind fun t328 => (if (t327 == t328) = true then (if bt307.1 = 2 then (if bt318.2.2.2 = 0 then ((gumshoelaw06_num.f 0).bind fun bt329 => (some (bt318.1 == bt329.1 && (bt318.2.1 == bt329.2.1 && (bt318.2.2.1.toList == bt329.2.2.toList))))) else (none)) else (none)) else (none)))) else (none)))) else (none)))))))))) else (some t295))) = some r := H
  have A2 := Aside0.mk A20
  clear A20
  replace H := Option.bind_eq_some_iff.mp H
  obtain ⟨t296, A30, H⟩ := H
  replace H : (if t296 = true then ((value_Neg.f a0_0 a0_1 a0_2).bind fun bt297 => ((value_Neg.f bt297.1 bt297.2.1 bt297.2.2).bind fun bt300 => ((value_Not.f a0_0 a0_1 a0_2).bind fun bt304 => ((value_Not.f bt304.1 bt304.2.1 bt304.2.2).bind fun bt307 => ((value_Neg.f a0_0 a0_1 a0_2).bind fun bt311 => ((value_Num.f a0_0 a0_1 a0_2).bind fun t314 => ((gumshoelaw06_num.f t314).bind fun bt315 => ((value_Two.f (⟨#[43]⟩ : ByteArray) bt311.1 bt311.2.1 bt311.2.2 bt315.1 bt315.2.1 bt315.2.2).bind fun bt318 => (if t295 = true then ((value_Num.f a0_0 a0_1 a0_2).bind fun t323 => ((gumshoelaw06_num.f t323).bind fun bt324 => (if (bt300.1 == bt324.1 && (bt300.2.1 == bt324.2.1 && (bt300.2.2.toList == bt324.2.2.toList))) = true then ((value_Truthy.f bt307.1 bt307.2.1 bt307.2.2).bind fun t327 => ((value_Truthy.f a0_0 a0_1 a0_2).bind fun t328 => (if (t327 == t328) = true then (if bt307.1 = 2 then (if bt318.2.2.2 = 0 then ((gumshoelaw06_num.f 0).bind fun bt329 => (some (bt318.1 == bt329.1 && (bt318.2.1 == bt329.2.1 && (bt318.2.2.1.toList == bt329.2.2.toList))))) else (none)) else (none)) else (none)))) else (none)))) else (none)))))))))) else (some t295)) = some r := H
  have A3 := Aside0.mk A30
  clear A30
  by_cases c4 : t296 = true
  · subst c4
    have H1 : ((value_Neg.f a0_0 a0_1 a0_2).bind fun bt297 => ((value_Neg.f bt297.1 bt297.2.1 bt297.2.2).bind fun bt300 => ((value_Not.f a0_0 a0_1 a0_2).bind fun bt304 => ((value_Not.f bt304.1 bt304.2.1 bt304.2.2).bind fun bt307 => ((value_Neg.f a0_0 a0_1 a0_2).bind fun bt311 => ((value_Num.f a0_0 a0_1 a0_2).bind fun t314 => ((gumshoelaw06_num.f t314).bind fun bt315 => ((value_Two.f (⟨#[43]⟩ : ByteArray) bt311.1 bt311.2.1 bt311.2.2 bt315.1 bt315.2.1 bt315.2.2).bind fun bt318 => (if t295 = true then ((value_Num.f a0_0 a0_1 a0_2).bind fun t323 => ((gumshoelaw06_num.f t323).bind fun bt324 => (if (bt300.1 == bt324.1 && (bt300.2.1 == bt324.2.1 && (bt300.2.2.toList == bt324.2.2.toList))) = true then ((value_Truthy.f bt307.1 bt307.2.1 bt307.2.2).bind fun t327 => ((value_Truthy.f a0_0 a0_1 a0_2).bind fun t328 => (if (t327 == t328) = true then (if bt307.1 = 2 then (if bt318.2.2.2 = 0 then ((gumshoelaw06_num.f 0).bind fun bt329 => (some (bt318.1 == bt329.1 && (bt318.2.1 == bt329.2.1 && (bt318.2.2.1.toList == bt329.2.2.toList))))) else (none)) else (none)) else (none)))) else (none)))) else (none)))))))))) = some r := by rw [if_pos rfl] at H; exact H
    clear H
    have H := H1
    clear H1
    replace H := Option.bind_eq_some_iff.mp H
    obtain ⟨⟨t297, t298, t299⟩, A50, H⟩ := H
    replace H : ((value_Neg.f t297 t298 t299).bind fun bt300 => ((value_Not.f a0_0 a0_1 a0_2).bind fun bt304 => ((value_Not.f bt304.1 bt304.2.1 bt304.2.2).bind fun bt307 => ((value_Neg.f a0_0 a0_1 a0_2).bind fun bt311 => ((value_Num.f a0_0 a0_1 a0_2).bind fun t314 => ((gumshoelaw06_num.f t314).bind fun bt315 => ((value_Two.f (⟨#[43]⟩ : ByteArray) bt311.1 bt311.2.1 bt311.2.2 bt315.1 bt315.2.1 bt315.2.2).bind fun bt318 => (if t295 = true then ((value_Num.f a0_0 a0_1 a0_2).bind fun t323 => ((gumshoelaw06_num.f t323).bind fun bt324 => (if (bt300.1 == bt324.1 && (bt300.2.1 == bt324.2.1 && (bt300.2.2.toList == bt324.2.2.toList))) = true then ((value_Truthy.f bt307.1 bt307.2.1 bt307.2.2).bind fun t327 => ((value_Truthy.f a0_0 a0_1 a0_2).bind fun t328 => (if (t327 == t328) = true then (if bt307.1 = 2 then (if bt318.2.2.2 = 0 then ((gumshoelaw06_num.f 0).bind fun bt329 => (some (bt318.1 == bt329.1 && (bt318.2.1 == bt329.2.1 && (bt318.2.2.1.toList == bt329.2.2.toList))))) else (none)) else (none)) else (none)))) else (none)))) else (none))))))))) = some r := H
    have A5 := Aside0.mk A50
    clear A50
    replace H := Option.bind_eq_some_iff.mp H
    obtain ⟨⟨t300, t301, t302⟩, A60, H⟩ := H
    replace H : ((value_Not.f a0_0 a0_1 a0_2).bind fun bt304 => ((value_Not.f bt304.1 bt304.2.1 bt304.2.2).bind fun bt307 => ((value_Neg.f a0_0 a0_1 a0_2).bind fun bt311 => ((value_Num.f a0_0 a0_1 a0_2).bind fun t314 => ((gumshoelaw06_num.f t314).bind fun bt315 => ((value_Two.f (⟨#[43]⟩ : ByteArray) bt311.1 bt311.2.1 bt311.2.2 bt315.1 bt315.2.1 bt315.2.2).bind fun bt318 => (if t295 = true then ((value_Num.f a0_0 a0_1 a0_2).bind fun t323 => ((gumshoelaw06_num.f t323).bind fun bt324 => (if (t300 == bt324.1 && (t301 == bt324.2.1 && (t302.toList == bt324.2.2.toList))) = true then ((value_Truthy.f bt307.1 bt307.2.1 bt307.2.2).bind fun t327 => ((value_Truthy.f a0_0 a0_1 a0_2).bind fun t328 => (if (t327 == t328) = true then (if bt307.1 = 2 then (if bt318.2.2.2 = 0 then ((gumshoelaw06_num.f 0).bind fun bt329 => (some (bt318.1 == bt329.1 && (bt318.2.1 == bt329.2.1 && (bt318.2.2.1.toList == bt329.2.2.toList))))) else (none)) else (none)) else (none)))) else (none)))) else (none)))))))) = some r := H
    have A6 := Aside0.mk A60
    clear A60
    replace H := Option.bind_eq_some_iff.mp H
    obtain ⟨⟨t304, t305, t306⟩, A70, H⟩ := H
    replace H : ((value_Not.f t304 t305 t306).bind fun bt307 => ((value_Neg.f a0_0 a0_1 a0_2).bind fun bt311 => ((value_Num.f a0_0 a0_1 a0_2).bind fun t314 => ((gumshoelaw06_num.f t314).bind fun bt315 => ((value_Two.f (⟨#[43]⟩ : ByteArray) bt311.1 bt311.2.1 bt311.2.2 bt315.1 bt315.2.1 bt315.2.2).bind fun bt318 => (if t295 = true then ((value_Num.f a0_0 a0_1 a0_2).bind fun t323 => ((gumshoelaw06_num.f t323).bind fun bt324 => (if (t300 == bt324.1 && (t301 == bt324.2.1 && (t302.toList == bt324.2.2.toList))) = true then ((value_Truthy.f bt307.1 bt307.2.1 bt307.2.2).bind fun t327 => ((value_Truthy.f a0_0 a0_1 a0_2).bind fun t328 => (if (t327 == t328) = true then (if bt307.1 = 2 then (if bt318.2.2.2 = 0 then ((gumshoelaw06_num.f 0).bind fun bt329 => (some (bt318.1 == bt329.1 && (bt318.2.1 == bt329.2.1 && (bt318.2.2.1.toList == bt329.2.2.toList))))) else (none)) else (none)) else (none)))) else (none)))) else (none))))))) = some r := H
    have A7 := Aside0.mk A70
    clear A70
    replace H := Option.bind_eq_some_iff.mp H
    obtain ⟨⟨t307, t308, t309⟩, A80, H⟩ := H
    replace H : ((value_Neg.f a0_0 a0_1 a0_2).bind fun bt311 => ((value_Num.f a0_0 a0_1 a0_2).bind fun t314 => ((gumshoelaw06_num.f t314).bind fun bt315 => ((value_Two.f (⟨#[43]⟩ : ByteArray) bt311.1 bt311.2.1 bt311.2.2 bt315.1 bt315.2.1 bt315.2.2).bind fun bt318 => (if t295 = true then ((value_Num.f a0_0 a0_1 a0_2).bind fun t323 => ((gumshoelaw06_num.f t323).bind fun bt324 => (if (t300 == bt324.1 && (t301 == bt324.2.1 && (t302.toList == bt324.2.2.toList))) = true then ((value_Truthy.f t307 t308 t309).bind fun t327 => ((value_Truthy.f a0_0 a0_1 a0_2).bind fun t328 => (if (t327 == t328) = true then (if t307 = 2 then (if bt318.2.2.2 = 0 then ((gumshoelaw06_num.f 0).bind fun bt329 => (some (bt318.1 == bt329.1 && (bt318.2.1 == bt329.2.1 && (bt318.2.2.1.toList == bt329.2.2.toList))))) else (none)) else (none)) else (none)))) else (none)))) else (none)))))) = some r := H
    have A8 := Aside0.mk A80
    clear A80
    replace H := Option.bind_eq_some_iff.mp H
    obtain ⟨⟨t311, t312, t313⟩, A90, H⟩ := H
    replace H : ((value_Num.f a0_0 a0_1 a0_2).bind fun t314 => ((gumshoelaw06_num.f t314).bind fun bt315 => ((value_Two.f (⟨#[43]⟩ : ByteArray) t311 t312 t313 bt315.1 bt315.2.1 bt315.2.2).bind fun bt318 => (if t295 = true then ((value_Num.f a0_0 a0_1 a0_2).bind fun t323 => ((gumshoelaw06_num.f t323).bind fun bt324 => (if (t300 == bt324.1 && (t301 == bt324.2.1 && (t302.toList == bt324.2.2.toList))) = true then ((value_Truthy.f t307 t308 t309).bind fun t327 => ((value_Truthy.f a0_0 a0_1 a0_2).bind fun t328 => (if (t327 == t328) = true then (if t307 = 2 then (if bt318.2.2.2 = 0 then ((gumshoelaw06_num.f 0).bind fun bt329 => (some (bt318.1 == bt329.1 && (bt318.2.1 == bt329.2.1 && (bt318.2.2.1.toList == bt329.2.2.toList))))) else (none)) else (none)) else (none)))) else (none)))) else (none))))) = some r := H
    have A9 := Aside0.mk A90
    clear A90
    replace H := Option.bind_eq_some_iff.mp H
    obtain ⟨t314, A100, H⟩ := H
    replace H : ((gumshoelaw06_num.f t314).bind fun bt315 => ((value_Two.f (⟨#[43]⟩ : ByteArray) t311 t312 t313 bt315.1 bt315.2.1 bt315.2.2).bind fun bt318 => (if t295 = true then ((value_Num.f a0_0 a0_1 a0_2).bind fun t323 => ((gumshoelaw06_num.f t323).bind fun bt324 => (if (t300 == bt324.1 && (t301 == bt324.2.1 && (t302.toList == bt324.2.2.toList))) = true then ((value_Truthy.f t307 t308 t309).bind fun t327 => ((value_Truthy.f a0_0 a0_1 a0_2).bind fun t328 => (if (t327 == t328) = true then (if t307 = 2 then (if bt318.2.2.2 = 0 then ((gumshoelaw06_num.f 0).bind fun bt329 => (some (bt318.1 == bt329.1 && (bt318.2.1 == bt329.2.1 && (bt318.2.2.1.toList == bt329.2.2.toList))))) else (none)) else (none)) else (none)))) else (none)))) else (none)))) = some r := H
    have A10 := Aside0.mk A100
    clear A100
    replace H := Option.bind_eq_some_iff.mp H
    obtain ⟨⟨t315, t316, t317⟩, A110, H⟩ := H
    replace H : ((value_Two.f (⟨#[43]⟩ : ByteArray) t311 t312 t313 t315 t316 t317).bind fun bt318 => (if t295 = true then ((value_Num.f a0_0 a0_1 a0_2).bind fun t323 => ((gumshoelaw06_num.f t323).bind fun bt324 => (if (t300 == bt324.1 && (t301 == bt324.2.1 && (t302.toList == bt324.2.2.toList))) = true then ((value_Truthy.f t307 t308 t309).bind fun t327 => ((value_Truthy.f a0_0 a0_1 a0_2).bind fun t328 => (if (t327 == t328) = true then (if t307 = 2 then (if bt318.2.2.2 = 0 then ((gumshoelaw06_num.f 0).bind fun bt329 => (some (bt318.1 == bt329.1 && (bt318.2.1 == bt329.2.1 && (bt318.2.2.1.toList == bt329.2.2.toList))))) else (none)) else (none)) else (none)))) else (none)))) else (none))) = some r := H
    have A11 := Aside0.mk A110
    clear A110
    replace H := Option.bind_eq_some_iff.mp H
    obtain ⟨⟨t318, t319, t320, t321⟩, A120, H⟩ := H
    replace H : (if t295 = true then ((value_Num.f a0_0 a0_1 a0_2).bind fun t323 => ((gumshoelaw06_num.f t323).bind fun bt324 => (if (t300 == bt324.1 && (t301 == bt324.2.1 && (t302.toList == bt324.2.2.toList))) = true then ((value_Truthy.f t307 t308 t309).bind fun t327 => ((value_Truthy.f a0_0 a0_1 a0_2).bind fun t328 => (if (t327 == t328) = true then (if t307 = 2 then (if t321 = 0 then ((gumshoelaw06_num.f 0).bind fun bt329 => (some (t318 == bt329.1 && (t319 == bt329.2.1 && (t320.toList == bt329.2.2.toList))))) else (none)) else (none)) else (none)))) else (none)))) else (none)) = some r := H
    have A12 := Aside0.mk A120
    clear A120
    by_cases c13 : t295 = true
    · subst c13
      have H1 : ((value_Num.f a0_0 a0_1 a0_2).bind fun t323 => ((gumshoelaw06_num.f t323).bind fun bt324 => (if (t300 == bt324.1 && (t301 == bt324.2.1 && (t302.toList == bt324.2.2.toList))) = true then ((value_Truthy.f t307 t308 t309).bind fun t327 => ((value_Truthy.f a0_0 a0_1 a0_2).bind fun t328 => (if (t327 == t328) = true then (if t307 = 2 then (if t321 = 0 then ((gumshoelaw06_num.f 0).bind fun bt329 => (some (t318 == bt329.1 && (t319 == bt329.2.1 && (t320.toList == bt329.2.2.toList))))) else (none)) else (none)) else (none)))) else (none)))) = some r := by rw [if_pos rfl] at H; exact H
      clear H
      have H := H1
      clear H1
      replace H := Option.bind_eq_some_iff.mp H
      obtain ⟨t323, A140, H⟩ := H
      replace H : ((gumshoelaw06_num.f t323).bind fun bt324 => (if (t300 == bt324.1 && (t301 == bt324.2.1 && (t302.toList == bt324.2.2.toList))) = true then ((value_Truthy.f t307 t308 t309).bind fun t327 => ((value_Truthy.f a0_0 a0_1 a0_2).bind fun t328 => (if (t327 == t328) = true then (if t307 = 2 then (if t321 = 0 then ((gumshoelaw06_num.f 0).bind fun bt329 => (some (t318 == bt329.1 && (t319 == bt329.2.1 && (t320.toList == bt329.2.2.toList))))) else (none)) else (none)) else (none)))) else (none))) = some r := H
      have A14 := Aside0.mk A140
      clear A140
      replace H := Option.bind_eq_some_iff.mp H
      obtain ⟨⟨t324, t325, t326⟩, A150, H⟩ := H
      replace H : (if (t300 == t324 && (t301 == t325 && (t302.toList == t326.toList))) = true then ((value_Truthy.f t307 t308 t309).bind fun t327 => ((value_Truthy.f a0_0 a0_1 a0_2).bind fun t328 => (if (t327 == t328) = true then (if t307 = 2 then (if t321 = 0 then ((gumshoelaw06_num.f 0).bind fun bt329 => (some (t318 == bt329.1 && (t319 == bt329.2.1 && (t320.toList == bt329.2.2.toList))))) else (none)) else (none)) else (none)))) else (none)) = some r := H
      have A15 := Aside0.mk A150
      clear A150
      by_cases c16 : (t300 == t324 && (t301 == t325 && (t302.toList == t326.toList))) = true
      · rw [if_pos c16] at H
        have c16b0 : (t300 == t324 && (t301 == t325 && (t302.toList == t326.toList))) = true := c16
        (try (have c16b1 : decide (t300 = t324 && (t301 == t325 && (t302.toList == t326.toList))) = true := by simpa using c16))
        (try (have c16b2 : (t300 == t324 && (t301 == t325 && (t302.toList == t326.toList))) = true := by simpa using c16))
        clear c16
        replace H := Option.bind_eq_some_iff.mp H
        obtain ⟨t327, A170, H⟩ := H
        replace H : ((value_Truthy.f a0_0 a0_1 a0_2).bind fun t328 => (if (t327 == t328) = true then (if t307 = 2 then (if t321 = 0 then ((gumshoelaw06_num.f 0).bind fun bt329 => (some (t318 == bt329.1 && (t319 == bt329.2.1 && (t320.toList == bt329.2.2.toList))))) else (none)) else (none)) else (none))) = some r := H
        have A17 := Aside0.mk A170
        clear A170
        replace H := Option.bind_eq_some_iff.mp H
        obtain ⟨t328, A180, H⟩ := H
        replace H : (if (t327 == t328) = true then (if t307 = 2 then (if t321 = 0 then ((gumshoelaw06_num.f 0).bind fun bt329 => (some (t318 == bt329.1 && (t319 == bt329.2.1 && (t320.toList == bt329.2.2.toList))))) else (none)) else (none)) else (none)) = some r := H
        have A18 := Aside0.mk A180
        clear A180
        by_cases c19 : (t327 == t328) = true
        · rw [if_pos c19] at H
          have c19b0 : (t327 == t328) = true := c19
          (try (have c19b1 : decide (t327 = t328) = true := by simpa using c19))
          (try (have c19b2 : (t327 == t328) = true := by simpa using c19))
          clear c19
          by_cases c20 : t307 = 2
          · rw [if_pos c20] at H
            have c20b0 : (t307 == 2) = true := beq_iff_eq.mpr c20
            have c20b1 : (t307 != 2) = false := bne_eq_false_iff_eq.mpr c20
            clear c20
            by_cases c21 : t321 = 0
            · rw [if_pos c21] at H
              have c21b0 : (t321 == 0) = true := beq_iff_eq.mpr c21
              have c21b1 : (t321 != 0) = false := bne_eq_false_iff_eq.mpr c21
              clear c21
              replace H := Option.bind_eq_some_iff.mp H
              obtain ⟨⟨t329, t330, t331⟩, A220, H⟩ := H
              replace H : (some (t318 == t329 && (t319 == t330 && (t320.toList == t331.toList)))) = some r := H
              have A22 := Aside0.mk A220
              clear A220
              obtain rfl := Option.some.inj H
              go_enter Tryd.func10, Tryd.ntmps10
              try go_wp2_with (first | ((with_reducible refine gate_dst (N := 5) rfl ?_); refine box_event ?hg (N := 5) ?hd (cs := #[.int .i64 0, .int .i64 0, .string (⟨#[]⟩ : ByteArray)]) (t := 23) ?hr ?_; (case hd => rfl); (case hg => rfl); (case hr => first | (go_simp; done) | (go_simp; rfl)); intro gb310 hg w36 hbox hb; have n0_ := Aside0.mk (blk_below (g := gb294) (o := .cells #[.int .i64 a0_0, .int .i64 a0_1, .string a0_2] 23 (0, 0)) (by (with_reducible repeat (first | refine blk_drewN ?_ _ | refine blk_drew ?_ | refine blk_alloc ?_ _)); exact BK294.out) hb); have n1_ := Aside0.mk (blk_below (g := gb303) (o := .cells #[.int .i64 t300, .int .i64 t301, .string t302] 23 (0, 0)) (by (with_reducible repeat (first | refine blk_drewN ?_ _ | refine blk_drew ?_ | refine blk_alloc ?_ _)); exact BK303.out) hb); have n2_ := Aside0.mk (below_step (by repeat (first | (with_reducible first | exact HB.out | apply below_alloc | apply pw_below_drewN | apply below_drew1 | refine below_set ?_ GE294.out | refine below_set ?_ GE303.out) | exact HB.out)) hb); have n3_ := Aside0.mk (hbox); have n4_ := Aside0.mk ((by rw [hg]; exact (below_size (by repeat (first | (with_reducible first | exact HB.out | apply below_alloc | apply pw_below_drewN | apply below_drew1 | refine below_set ?_ GE294.out | refine below_set ?_ GE303.out) | exact HB.out))) : w.heap.size ≤ gb310)); have n5_ := Aside0.mk ((by rw [hg]; exact (below_size (by repeat (first | (with_reducible first | exact HB.out | apply below_alloc | apply pw_below_drewN | apply below_drew1 | refine below_set ?_ GE294.out | refine below_set ?_ GE303.out) | exact HB.out))) : w.heap.size ≤ gb310)); have n6_ := Aside0.mk ((by rw [hg]; exact Nat.ne_of_lt (blk_lt (g := gb294) (o := .cells #[.int .i64 a0_0, .int .i64 a0_1, .string a0_2] 23 (0, 0)) (by (with_reducible repeat (first | refine blk_drewN ?_ _ | refine blk_drew ?_ | refine blk_alloc ?_ _)); exact BK294.out)) : gb294 ≠ gb310)); have n7_ := Aside0.mk ((by rw [hg]; exact Nat.ne_of_gt (blk_lt (g := gb294) (o := .cells #[.int .i64 a0_0, .int .i64 a0_1, .string a0_2] 23 (0, 0)) (by (with_reducible repeat (first | refine blk_drewN ?_ _ | refine blk_drew ?_ | refine blk_alloc ?_ _)); exact BK294.out)) : gb310 ≠ gb294)); have n8_ := Aside0.mk ((by rw [hg]; exact Nat.ne_of_lt (blk_lt (g := gb303) (o := .cells #[.int .i64 t300, .int .i64 t301, .string t302] 23 (0, 0)) (by (with_reducible repeat (first | refine blk_drewN ?_ _ | refine blk_drew ?_ | refine blk_alloc ?_ _)); exact BK303.out)) : gb303 ≠ gb310)); have n9_ := Aside0.mk ((by rw [hg]; exact Nat.ne_of_gt (blk_lt (g := gb303) (o := .cells #[.int .i64 t300, .int .i64 t301, .string t302] 23 (0, 0)) (by (with_reducible repeat (first | refine blk_drewN ?_ _ | refine blk_drew ?_ | refine blk_alloc ?_ _)); exact BK303.out)) : gb310 ≠ gb303)); clear BK294; clear BK303; clear HB; have BK294 := n0_; have BK303 := n1_; have HB := n2_; have BK310 := n3_; have GW310 := n4_; have GE310 := n5_; have NB294_310 := n6_; have NB310_294 := n7_; have NB303_310 := n8_; have NB310_303 := n9_; clear n0_ n1_ n2_ n3_ n4_ n5_ n6_ n7_ n8_ n9_; clear hb hbox hg; have hnb37 := NB310_294.out; have hnc37 := NB294_310.out; have hnb38 := NB310_303.out; have hnc38 := NB303_310.out; have hcz39_0 : w36.cell? ⟨gb310, 0, none⟩ = some (.int .i64 0) := (blk_cell BK310.out 0).trans rfl; have hcz39_1 : w36.cell? ⟨gb310, 1, none⟩ = some (.int .i64 0) := (blk_cell BK310.out 1).trans rfl; have hcz39_2 : w36.cell? ⟨gb310, 2, none⟩ = some (.string (⟨#[]⟩ : ByteArray)) := (blk_cell BK310.out 2).trans rfl; have hfz39_0 := blk_frozen BK310.out 0; have hfz39_1 := blk_frozen BK310.out 1; have hfz39_2 := blk_frozen BK310.out 2) | ((with_reducible refine gate_callee (f := 21) rfl ?_); refine goesL_ (some 18) rfl rfl Tryd.func21 (by kernel_rfl) rfl #[.agg #[.int .i64 t304, .int .i64 t305, .string t306]] rfl (by (try simp only [List.map_toArray, List.map_cons, List.map_nil]); first | done | rfl | (simp only [List.length_drop, List.length_take]; rfl)) ?_; (with_reducible refine (value_Not.calls t304 t305 t306 t307 t308 t309 _ A8.out).mono ?_); rintro e w35 ⟨rfl, hb⟩; refine ⟨_, rfl, ?_⟩; have n0_ := Aside0.mk (blk_below (g := gb294) (o := .cells #[.int .i64 a0_0, .int .i64 a0_1, .string a0_2] 23 (0, 0)) (by (with_reducible repeat (first | refine blk_drewN ?_ _ | refine blk_drew ?_ | refine blk_alloc ?_ _)); exact BK294.out) hb); have n1_ := Aside0.mk (blk_below (g := gb303) (o := .cells #[.int .i64 t300, .int .i64 t301, .string t302] 23 (0, 0)) (by (with_reducible repeat (first | refine blk_drewN ?_ _ | refine blk_drew ?_ | refine blk_alloc ?_ _)); exact BK303.out) hb); have n2_ := Aside0.mk (below_step (by repeat (first | (with_reducible first | exact HB.out | apply below_alloc | apply pw_below_drewN | apply below_drew1 | refine below_set ?_ GE294.out | refine below_set ?_ GE303.out) | exact HB.out)) hb); clear BK294; clear BK303; clear HB; have BK294 := n0_; have BK303 := n1_; have HB := n2_; clear n0_ n1_ n2_; (try clear hb); (try clear hb2); (try clear hk); (try clear hi)) | ((with_reducible refine gate_callee (f := 21) rfl ?_); refine goesL_ (some 17) rfl rfl Tryd.func21 (by kernel_rfl) rfl #[.agg #[.int .i64 a0_0, .int .i64 a0_1, .string a0_2]] rfl (by (try simp only [List.map_toArray, List.map_cons, List.map_nil]); first | done | rfl | (simp only [List.length_drop, List.length_take]; rfl)) ?_; (with_reducible refine (value_Not.calls a0_0 a0_1 a0_2 t304 t305 t306 _ A7.out).mono ?_); rintro e w34 ⟨rfl, hb⟩; refine ⟨_, rfl, ?_⟩; have n0_ := Aside0.mk (blk_below (g := gb294) (o := .cells #[.int .i64 a0_0, .int .i64 a0_1, .string a0_2] 23 (0, 0)) (by (with_reducible repeat (first | refine blk_drewN ?_ _ | refine blk_drew ?_ | refine blk_alloc ?_ _)); refine blk_far ?_ NB294_303.out _; (with_reducible repeat (first | refine blk_drewN ?_ _ | refine blk_drew ?_ | refine blk_alloc ?_ _)); refine blk_far ?_ NB294_303.out _; (with_reducible repeat (first | refine blk_drewN ?_ _ | refine blk_drew ?_ | refine blk_alloc ?_ _)); refine blk_far ?_ NB294_303.out _; (with_reducible repeat (first | refine blk_drewN ?_ _ | refine blk_drew ?_ | refine blk_alloc ?_ _)); exact BK294.out) hb); have n1_ := Aside0.mk (blk_below (g := gb303) (o := .cells #[.int .i64 t300, .int .i64 t301, .string t302] 23 (0, 0)) (by (with_reducible repeat (first | refine blk_drewN ?_ _ | refine blk_drew ?_ | refine blk_alloc ?_ _)); refine blk_put (cs := #[.int .i64 t300, .int .i64 t301, .string (⟨#[]⟩ : ByteArray)]) ?_ 2 _ rfl; (with_reducible repeat (first | refine blk_drewN ?_ _ | refine blk_drew ?_ | refine blk_alloc ?_ _)); refine blk_put (cs := #[.int .i64 t300, .int .i64 0, .string (⟨#[]⟩ : ByteArray)]) ?_ 1 _ rfl; (with_reducible repeat (first | refine blk_drewN ?_ _ | refine blk_drew ?_ | refine blk_alloc ?_ _)); refine blk_put (cs := #[.int .i64 0, .int .i64 0, .string (⟨#[]⟩ : ByteArray)]) ?_ 0 _ rfl; (with_reducible repeat (first | refine blk_drewN ?_ _ | refine blk_drew ?_ | refine blk_alloc ?_ _)); exact BK303.out) hb); have n2_ := Aside0.mk (below_step (by repeat (first | (with_reducible first | exact HB.out | apply below_alloc | apply pw_below_drewN | apply below_drew1 | refine below_set ?_ GE294.out | refine below_set ?_ GE303.out) | exact HB.out)) hb); clear BK294; clear BK303; clear HB; have BK294 := n0_; have BK303 := n1_; have HB := n2_; clear n0_ n1_ n2_; (try clear hb); (try clear hb2); (try clear hk); (try clear hi)) | ((with_reducible refine gate_dst (N := 4) rfl ?_); refine box_event ?hg (N := 4) ?hd (cs := #[.int .i64 0, .int .i64 0, .string (⟨#[]⟩ : ByteArray)]) (t := 23) ?hr ?_; (case hd => rfl); (case hg => rfl); (case hr => first | (go_simp; done) | (go_simp; rfl)); intro gb303 hg w30 hbox hb; have n0_ := Aside0.mk (blk_below (g := gb294) (o := .cells #[.int .i64 a0_0, .int .i64 a0_1, .string a0_2] 23 (0, 0)) (by (with_reducible repeat (first | refine blk_drewN ?_ _ | refine blk_drew ?_ | refine blk_alloc ?_ _)); exact BK294.out) hb); have n1_ := Aside0.mk (below_step (by repeat (first | (with_reducible first | exact HB.out | apply below_alloc | apply pw_below_drewN | apply below_drew1 | refine below_set ?_ GE294.out) | exact HB.out)) hb); have n2_ := Aside0.mk (hbox); have n3_ := Aside0.mk ((by rw [hg]; exact (below_size (by repeat (first | (with_reducible first | exact HB.out | apply below_alloc | apply pw_below_drewN | apply below_drew1 | refine below_set ?_ GE294.out) | exact HB.out))) : w.heap.size ≤ gb303)); have n4_ := Aside0.mk ((by rw [hg]; exact (below_size (by repeat (first | (with_reducible first | exact HB.out | apply below_alloc | apply pw_below_drewN | apply below_drew1 | refine below_set ?_ GE294.out) | exact HB.out))) : w.heap.size ≤ gb303)); have n5_ := Aside0.mk ((by rw [hg]; exact Nat.ne_of_lt (blk_lt (g := gb294) (o := .cells #[.int .i64 a0_0, .int .i64 a0_1, .string a0_2] 23 (0, 0)) (by (with_reducible repeat (first | refine blk_drewN ?_ _ | refine blk_drew ?_ | refine blk_alloc ?_ _)); exact BK294.out)) : gb294 ≠ gb303)); have n6_ := Aside0.mk ((by rw [hg]; exact Nat.ne_of_gt (blk_lt (g := gb294) (o := .cells #[.int .i64 a0_0, .int .i64 a0_1, .string a0_2] 23 (0, 0)) (by (with_reducible repeat (first | refine blk_drewN ?_ _ | refine blk_drew ?_ | refine blk_alloc ?_ _)); exact BK294.out)) : gb303 ≠ gb294)); clear BK294; clear HB; have BK294 := n0_; have HB := n1_; have BK303 := n2_; have GW303 := n3_; have GE303 := n4_; have NB294_303 := n5_; have NB303_294 := n6_; clear n0_ n1_ n2_ n3_ n4_ n5_ n6_; clear hb hbox hg; have hnb31 := NB303_294.out; have hnc31 := NB294_303.out; have hcz32_0 : w30.cell? ⟨gb303, 0, none⟩ = some (.int .i64 0) := (blk_cell BK303.out 0).trans rfl; have hcz32_1 : w30.cell? ⟨gb303, 1, none⟩ = some (.int .i64 0) := (blk_cell BK303.out 1).trans rfl; have hcz32_2 : w30.cell? ⟨gb303, 2, none⟩ = some (.string (⟨#[]⟩ : ByteArray)) := (blk_cell BK303.out 2).trans rfl; have hfz32_0 := blk_frozen BK303.out 0; have hfz32_1 := blk_frozen BK303.out 1; have hfz32_2 := blk_frozen BK303.out 2; have hcz33_0 : w30.cell? ⟨gb294, 0, none⟩ = some (.int .i64 a0_0) := (blk_cell BK294.out 0).trans rfl; have hcz33_1 : w30.cell? ⟨gb294, 1, none⟩ = some (.int .i64 a0_1) := (blk_cell BK294.out 1).trans rfl; have hcz33_2 : w30.cell? ⟨gb294, 2, none⟩ = some (.string a0_2) := (blk_cell BK294.out 2).trans rfl; have hfz33_0 := blk_frozen BK294.out 0; have hfz33_1 := blk_frozen BK294.out 1; have hfz33_2 := blk_frozen BK294.out 2) | ((with_reducible refine gate_callee (f := 25) rfl ?_); refine goesL_ (some 15) rfl rfl Tryd.func25 (by kernel_rfl) rfl #[.agg #[.int .i64 t297, .int .i64 t298, .string t299]] rfl (by (try simp only [List.map_toArray, List.map_cons, List.map_nil]); first | done | rfl | (simp only [List.length_drop, List.length_take]; rfl)) ?_; (with_reducible refine (value_Neg.calls (hL := ?sideL) t297 t298 t299 t300 t301 t302 _ A6.out).mono ?_); (case sideL => exact Laid.below HL.out (by repeat (first | (with_reducible first | exact HB.out | apply below_alloc | apply pw_below_drewN | apply below_drew1 | refine below_set ?_ GE294.out) | exact HB.out))); rintro e w29 ⟨rfl, hb⟩; refine ⟨_, rfl, ?_⟩; have n0_ := Aside0.mk (blk_below (g := gb294) (o := .cells #[.int .i64 a0_0, .int .i64 a0_1, .string a0_2] 23 (0, 0)) (by (with_reducible repeat (first | refine blk_drewN ?_ _ | refine blk_drew ?_ | refine blk_alloc ?_ _)); exact BK294.out) hb); have n1_ := Aside0.mk (below_step (by repeat (first | (with_reducible first | exact HB.out | apply below_alloc | apply pw_below_drewN | apply below_drew1 | refine below_set ?_ GE294.out) | exact HB.out)) hb); clear BK294; clear HB; have BK294 := n0_; have HB := n1_; clear n0_ n1_; (try clear hb); (try clear hb2); (try clear hk); (try clear hi)) | ((with_reducible refine gate_callee (f := 25) rfl ?_); refine goesL_ (some 14) rfl rfl Tryd.func25 (by kernel_rfl) rfl #[.agg #[.int .i64 a0_0, .int .i64 a0_1, .string a0_2]] rfl (by (try simp only [List.map_toArray, List.map_cons, List.map_nil]); first | done | rfl | (simp only [List.length_drop, List.length_take]; rfl)) ?_; (with_reducible refine (value_Neg.calls (hL := ?sideL) a0_0 a0_1 a0_2 t297 t298 t299 _ A5.out).mono ?_); (case sideL => exact Laid.below HL.out (by repeat (first | (with_reducible first | exact HB.out | apply below_alloc | apply pw_below_drewN | apply below_drew1 | refine below_set ?_ GE294.out) | exact HB.out))); rintro e w28 ⟨rfl, hb⟩; refine ⟨_, rfl, ?_⟩; have n0_ := Aside0.mk (blk_below (g := gb294) (o := .cells #[.int .i64 a0_0, .int .i64 a0_1, .string a0_2] 23 (0, 0)) (by (with_reducible repeat (first | refine blk_drewN ?_ _ | refine blk_drew ?_ | refine blk_alloc ?_ _)); exact BK294.out) hb); have n1_ := Aside0.mk (below_step (by repeat (first | (with_reducible first | exact HB.out | apply below_alloc | apply pw_below_drewN | apply below_drew1 | refine below_set ?_ GE294.out) | exact HB.out)) hb); clear BK294; clear HB; have BK294 := n0_; have HB := n1_; clear n0_ n1_; (try clear hb); (try clear hb2); (try clear hk); (try clear hi)) | ((with_reducible refine gate_callee (f := 19) rfl ?_); refine goesL_ (some 10) rfl rfl Tryd.func19 (by kernel_rfl) rfl #[.agg #[.int .i64 a0_0, .int .i64 a0_1, .string a0_2]] rfl (by (try simp only [List.map_toArray, List.map_cons, List.map_nil]); first | done | rfl | (simp only [List.length_drop, List.length_take]; rfl)) ?_; (with_reducible refine (value_Right.calls a0_0 a0_1 a0_2 true _ A3.out).mono ?_); rintro e w26 ⟨rfl, hb⟩; refine ⟨_, rfl, ?_⟩; have n0_ := Aside0.mk (blk_below (g := gb294) (o := .cells #[.int .i64 a0_0, .int .i64 a0_1, .string a0_2] 23 (0, 0)) (by (with_reducible repeat (first | refine blk_drewN ?_ _ | refine blk_drew ?_ | refine blk_alloc ?_ _)); exact BK294.out) hb); have n1_ := Aside0.mk (below_step (by repeat (first | (with_reducible first | exact HB.out | apply below_alloc | apply pw_below_drewN | apply below_drew1 | refine below_set ?_ GE294.out) | exact HB.out)) hb); clear BK294; clear HB; have BK294 := n0_; have HB := n1_; clear n0_ n1_; (try clear hb); (try clear hb2); (try clear hk); (try clear hi); have hcz27_0 : w26.cell? ⟨gb294, 0, none⟩ = some (.int .i64 a0_0) := (blk_cell BK294.out 0).trans rfl; have hcz27_1 : w26.cell? ⟨gb294, 1, none⟩ = some (.int .i64 a0_1) := (blk_cell BK294.out 1).trans rfl; have hcz27_2 : w26.cell? ⟨gb294, 2, none⟩ = some (.string a0_2) := (blk_cell BK294.out 2).trans rfl; have hfz27_0 := blk_frozen BK294.out 0; have hfz27_1 := blk_frozen BK294.out 1; have hfz27_2 := blk_frozen BK294.out 2) | ((with_reducible refine gate_callee (f := 11) rfl ?_); refine goesL_ (some 8) rfl rfl Tryd.func11 (by kernel_rfl) rfl #[] rfl (by (try simp only [List.map_toArray, List.map_cons, List.map_nil]); first | done | rfl | (simp only [List.length_drop, List.length_take]; rfl)) ?_; (with_reducible refine (gumshoelaw06_shown.calls (hL := ?sideL)  true _ A2.out).mono ?_); (case sideL => exact Laid.below HL.out (by repeat (first | (with_reducible first | exact HB.out | apply below_alloc | apply pw_below_drewN | apply below_drew1 | refine below_set ?_ GE294.out) | exact HB.out))); rintro e w24 ⟨rfl, hb⟩; refine ⟨_, rfl, ?_⟩; have n0_ := Aside0.mk (blk_below (g := gb294) (o := .cells #[.int .i64 a0_0, .int .i64 a0_1, .string a0_2] 23 (0, 0)) (by (with_reducible repeat (first | refine blk_drewN ?_ _ | refine blk_drew ?_ | refine blk_alloc ?_ _)); exact BK294.out) hb); have n1_ := Aside0.mk (below_step (by repeat (first | (with_reducible first | exact HB.out | apply below_alloc | apply pw_below_drewN | apply below_drew1 | refine below_set ?_ GE294.out) | exact HB.out)) hb); clear BK294; clear HB; have BK294 := n0_; have HB := n1_; clear n0_ n1_; (try clear hb); (try clear hb2); (try clear hk); (try clear hi); have hcz25_0 : w24.cell? ⟨gb294, 0, none⟩ = some (.int .i64 a0_0) := (blk_cell BK294.out 0).trans rfl; have hcz25_1 : w24.cell? ⟨gb294, 1, none⟩ = some (.int .i64 a0_1) := (blk_cell BK294.out 1).trans rfl; have hcz25_2 : w24.cell? ⟨gb294, 2, none⟩ = some (.string a0_2) := (blk_cell BK294.out 2).trans rfl; have hfz25_0 := blk_frozen BK294.out 0; have hfz25_1 := blk_frozen BK294.out 1; have hfz25_2 := blk_frozen BK294.out 2) | ((with_reducible refine gate_dst (N := 1) rfl ?_); refine box_event ?hg (N := 1) ?hd (cs := #[.int .i64 a0_0, .int .i64 a0_1, .string a0_2]) (t := 23) ?hr ?_; (case hd => rfl); (case hg => rfl); (case hr => first | (go_simp; done) | (go_simp; rfl)); intro gb294 hg w23 hbox hb; have n0_ := Aside0.mk (below_step (by repeat (first | (with_reducible first | exact HB.out | apply below_alloc | apply pw_below_drewN | apply below_drew1) | exact HB.out)) hb); have n1_ := Aside0.mk (hbox); have n2_ := Aside0.mk ((by rw [hg]; exact (below_size (by repeat (first | (with_reducible first | exact HB.out | apply below_alloc | apply pw_below_drewN | apply below_drew1) | exact HB.out))) : w.heap.size ≤ gb294)); have n3_ := Aside0.mk ((by rw [hg]; exact (below_size (by repeat (first | (with_reducible first | exact HB.out | apply below_alloc | apply pw_below_drewN | apply below_drew1) | exact HB.out))) : w.heap.size ≤ gb294)); clear HB; have HB := n0_; have BK294 := n1_; have GW294 := n2_; have GE294 := n3_; clear n0_ n1_ n2_ n3_; clear hb hbox hg))
              have n0_ : Aside0 ((((w36.setCell ⟨gb310, 0, none⟩ (.int .i64 t307)).setCell ⟨gb310, 1, none⟩ (.int .i64 t308)).setCell ⟨gb310, 2, none⟩ (.string t309)).heap[gb294]? = some (.cells #[.int .i64 a0_0, .int .i64 a0_1, .string a0_2] 23 (0, 0))) := ⟨by (with_reducible repeat (first | refine blk_drewN ?_ _ | refine blk_drew ?_ | refine blk_alloc ?_ _)); refine blk_far ?_ NB294_310.out _; (with_reducible repeat (first | refine blk_drewN ?_ _ | refine blk_drew ?_ | refine blk_alloc ?_ _)); refine blk_far ?_ NB294_310.out _; (with_reducible repeat (first | refine blk_drewN ?_ _ | refine blk_drew ?_ | refine blk_alloc ?_ _)); refine blk_far ?_ NB294_310.out _; (with_reducible repeat (first | refine blk_drewN ?_ _ | refine blk_drew ?_ | refine blk_alloc ?_ _)); exact BK294.out⟩
              have n1_ : Aside0 ((((w36.setCell ⟨gb310, 0, none⟩ (.int .i64 t307)).setCell ⟨gb310, 1, none⟩ (.int .i64 t308)).setCell ⟨gb310, 2, none⟩ (.string t309)).heap[gb303]? = some (.cells #[.int .i64 t300, .int .i64 t301, .string t302] 23 (0, 0))) := ⟨by (with_reducible repeat (first | refine blk_drewN ?_ _ | refine blk_drew ?_ | refine blk_alloc ?_ _)); refine blk_far ?_ NB303_310.out _; (with_reducible repeat (first | refine blk_drewN ?_ _ | refine blk_drew ?_ | refine blk_alloc ?_ _)); refine blk_far ?_ NB303_310.out _; (with_reducible repeat (first | refine blk_drewN ?_ _ | refine blk_drew ?_ | refine blk_alloc ?_ _)); refine blk_far ?_ NB303_310.out _; (with_reducible repeat (first | refine blk_drewN ?_ _ | refine blk_drew ?_ | refine blk_alloc ?_ _)); exact BK303.out⟩
              have n2_ : Aside0 ((((w36.setCell ⟨gb310, 0, none⟩ (.int .i64 t307)).setCell ⟨gb310, 1, none⟩ (.int .i64 t308)).setCell ⟨gb310, 2, none⟩ (.string t309)).heap[gb310]? = some (.cells #[.int .i64 t307, .int .i64 t308, .string t309] 23 (0, 0))) := ⟨by (with_reducible repeat (first | refine blk_drewN ?_ _ | refine blk_drew ?_ | refine blk_alloc ?_ _)); refine blk_put (cs := #[.int .i64 t307, .int .i64 t308, .string (⟨#[]⟩ : ByteArray)]) ?_ 2 _ rfl; (with_reducible repeat (first | refine blk_drewN ?_ _ | refine blk_drew ?_ | refine blk_alloc ?_ _)); refine blk_put (cs := #[.int .i64 t307, .int .i64 0, .string (⟨#[]⟩ : ByteArray)]) ?_ 1 _ rfl; (with_reducible repeat (first | refine blk_drewN ?_ _ | refine blk_drew ?_ | refine blk_alloc ?_ _)); refine blk_put (cs := #[.int .i64 0, .int .i64 0, .string (⟨#[]⟩ : ByteArray)]) ?_ 0 _ rfl; (with_reducible repeat (first | refine blk_drewN ?_ _ | refine blk_drew ?_ | refine blk_alloc ?_ _)); exact BK310.out⟩
              have n3_ : Aside0 (Below w.heap.size w (((w36.setCell ⟨gb310, 0, none⟩ (.int .i64 t307)).setCell ⟨gb310, 1, none⟩ (.int .i64 t308)).setCell ⟨gb310, 2, none⟩ (.string t309))) := ⟨by repeat (first | (with_reducible first | exact HB.out | apply below_alloc | apply pw_below_drewN | apply below_drew1 | refine below_set ?_ GE294.out | refine below_set ?_ GE303.out | refine below_set ?_ GE310.out) | exact HB.out)⟩
              (try clear BK294)
              (try clear BK303)
              (try clear BK310)
              (try clear HB)
              generalize (((w36.setCell ⟨gb310, 0, none⟩ (.int .i64 t307)).setCell ⟨gb310, 1, none⟩ (.int .i64 t308)).setCell ⟨gb310, 2, none⟩ (.string t309)) = w40 at n0_ n1_ n2_ n3_ ⊢
              have BK294 := n0_
              have BK303 := n1_
              have BK310 := n2_
              have HB := n3_
              clear n0_ n1_ n2_ n3_
              have n0_ := Aside0.mk (blk_drew BK294.out)
              have n1_ := Aside0.mk (blk_drew BK303.out)
              have n2_ := Aside0.mk (blk_drew BK310.out)
              have n3_ := Aside0.mk (below_drew1 HB.out)
              clear BK294
              clear BK303
              clear BK310
              clear HB
              have BK294 := n0_
              have BK303 := n1_
              have BK310 := n2_
              have HB := n3_
              clear n0_ n1_ n2_ n3_
              refine start_ (n := 12) (S := fun w' => w'.cell? ⟨gb294, 0, none⟩ = some (.int .i64 a0_0) ∧ w'.cell? ⟨gb294, 1, none⟩ = some (.int .i64 a0_1) ∧ w'.cell? ⟨gb294, 2, none⟩ = some (.string a0_2)) (ds := []) #[false, false, false, false, false, false, false, false, false, false, false, false] (by kernel_rfl) rfl rfl ⟨(blk_cell BK294.out 0).trans rfl, (blk_cell BK294.out 1).trans rfl, (blk_cell BK294.out 2).trans rfl⟩ (fun hHeld => ?_); refine with_tabW gumshoelaw06_ValueTurns.tab6 gumshoelaw06_ValueTurns.bits6 (fun HT_ HW_ => ?_)
              generalize w40.drew = w41 at BK294 BK303 BK310 HB hHeld ⊢
              refine take_ (i := 0) (N := some 20) (v := ?_) (a' := ?_) #[true, false, false, false, false, false, false, false, false, false, false, false] rfl rfl (take_ofW HT_.out HW_.out (by kernel_rfl)) (fun _ _ _ h => h) (Or.inl ⟨by rfl, ?_⟩) hHeld ?_ ?_
              rotate_left
              · rintro w' ⟨s0, s1, s2⟩
                go_simp
                with_reducible rfl
              rotate_left
              · simp only [Act.put, List.setIfInBounds_toArray, List.set_cons_zero, List.set_cons_succ, i64_w, i32_w]
                rfl
              refine take_ (i := 2) (N := some 22) (v := ?_) (a' := ?_) #[true, false, true, false, false, false, false, false, false, false, false, false] rfl rfl (take_ofW HT_.out HW_.out (by kernel_rfl)) (fun _ _ _ h => h) (Or.inl ⟨by rfl, ?_⟩) hHeld ?_ ?_
              rotate_left
              · rintro w' ⟨s0, s1, s2⟩
                go_simp
                with_reducible rfl
              rotate_left
              · simp only [Act.put, List.setIfInBounds_toArray, List.set_cons_zero, List.set_cons_succ, i64_w, i32_w]
                rfl
              refine join_ (σ := Nat) 2 #[true, true, true, true, true, true, true, true, true, true, false, false] (fun s_ => [(21, .agg #[.int .i64 t311, .int .i64 t312, .string t313]), (23, .int .i64 t314), (24, .agg #[.int .i64 t315, .int .i64 t316, .string t317]), (25, .tuple #[.agg #[.int .i64 t318, .int .i64 t319, .string t320], .int .i64 t321]), (6, .pointer (some ⟨s_, 0, none⟩)), (19, .tuple #[.agg #[.int .i64 t318, .int .i64 t319, .string t320], .int .i64 t321]), (26, .agg #[.int .i64 t318, .int .i64 t319, .string t320]), (27, .int .i64 t321)]) (fun s_ w' => (w'.cell? ⟨gb294, 0, none⟩ = some (.int .i64 a0_0) ∧ w'.cell? ⟨gb294, 1, none⟩ = some (.int .i64 a0_1) ∧ w'.cell? ⟨gb294, 2, none⟩ = some (.string a0_2)) ∧ (w'.heap[gb294]? = some (.cells #[.int .i64 a0_0, .int .i64 a0_1, .string a0_2] 23 (0, 0))) ∧ (w'.heap[gb303]? = some (.cells #[.int .i64 t300, .int .i64 t301, .string t302] 23 (0, 0))) ∧ (w'.heap[gb310]? = some (.cells #[.int .i64 t307, .int .i64 t308, .string t309] 23 (0, 0))) ∧ (w'.heap[s_]? = some (.cells #[.int .i64 0, .int .i64 0, .string (⟨#[]⟩ : ByteArray)] 23 (0, 0))) ∧ (w.heap.size ≤ s_) ∧ (w.heap.size ≤ s_) ∧ (gb294 ≠ s_) ∧ (s_ ≠ gb294) ∧ (gb303 ≠ s_) ∧ (s_ ≠ gb303) ∧ (gb310 ≠ s_) ∧ (s_ ≠ gb310) ∧ (Below w.heap.size w w')) ?_ ?_
              rotate_left
              · intro hJ1_3_4_5_9
                refine join_ (σ := Unit) 3 #[true, true, true, true, true, true, true, true, true, false, false, false] (fun s_ => [(21, .agg #[.int .i64 t311, .int .i64 t312, .string t313]), (23, .int .i64 t314), (24, .agg #[.int .i64 t315, .int .i64 t316, .string t317]), (25, .tuple #[.agg #[.int .i64 t318, .int .i64 t319, .string t320], .int .i64 t321]), (19, .tuple #[.agg #[.int .i64 t318, .int .i64 t319, .string t320], .int .i64 t321]), (26, .agg #[.int .i64 t318, .int .i64 t319, .string t320]), (27, .int .i64 t321)]) (fun s_ w' => (w'.cell? ⟨gb294, 0, none⟩ = some (.int .i64 a0_0) ∧ w'.cell? ⟨gb294, 1, none⟩ = some (.int .i64 a0_1) ∧ w'.cell? ⟨gb294, 2, none⟩ = some (.string a0_2)) ∧ (w'.heap[gb294]? = some (.cells #[.int .i64 a0_0, .int .i64 a0_1, .string a0_2] 23 (0, 0))) ∧ (w'.heap[gb303]? = some (.cells #[.int .i64 t300, .int .i64 t301, .string t302] 23 (0, 0))) ∧ (w'.heap[gb310]? = some (.cells #[.int .i64 t307, .int .i64 t308, .string t309] 23 (0, 0))) ∧ (Below w.heap.size w w')) ?_ ?_
                rotate_left
                · intro hJ1_3_4_5
                  refine join_ (σ := Nat) 6 #[true, true, true, true, true, false, false, false, false, true, false, false] (fun s_ => [(21, .agg #[.int .i64 t311, .int .i64 t312, .string t313]), (23, .int .i64 t314), (24, .agg #[.int .i64 t315, .int .i64 t316, .string t317]), (6, .pointer (some ⟨s_, 0, none⟩))]) (fun s_ w' => (w'.cell? ⟨gb294, 0, none⟩ = some (.int .i64 a0_0) ∧ w'.cell? ⟨gb294, 1, none⟩ = some (.int .i64 a0_1) ∧ w'.cell? ⟨gb294, 2, none⟩ = some (.string a0_2)) ∧ (w'.heap[gb294]? = some (.cells #[.int .i64 a0_0, .int .i64 a0_1, .string a0_2] 23 (0, 0))) ∧ (w'.heap[gb303]? = some (.cells #[.int .i64 t300, .int .i64 t301, .string t302] 23 (0, 0))) ∧ (w'.heap[gb310]? = some (.cells #[.int .i64 t307, .int .i64 t308, .string t309] 23 (0, 0))) ∧ (w'.heap[s_]? = some (.cells #[.int .i64 0, .int .i64 0, .string (⟨#[]⟩ : ByteArray)] 23 (0, 0))) ∧ (w.heap.size ≤ s_) ∧ (w.heap.size ≤ s_) ∧ (gb294 ≠ s_) ∧ (s_ ≠ gb294) ∧ (gb303 ≠ s_) ∧ (s_ ≠ gb303) ∧ (gb310 ≠ s_) ∧ (s_ ≠ gb310) ∧ (Below w.heap.size w w')) ?_ ?_
                  rotate_left
                  · intro hJ1_3_4_9
                    refine join_ (σ := Unit) 7 #[true, true, true, true, true, false, false, false, false, false, false, false] (fun s_ => [(21, .agg #[.int .i64 t311, .int .i64 t312, .string t313]), (23, .int .i64 t314), (24, .agg #[.int .i64 t315, .int .i64 t316, .string t317])]) (fun s_ w' => (w'.cell? ⟨gb294, 0, none⟩ = some (.int .i64 a0_0) ∧ w'.cell? ⟨gb294, 1, none⟩ = some (.int .i64 a0_1) ∧ w'.cell? ⟨gb294, 2, none⟩ = some (.string a0_2)) ∧ (w'.heap[gb294]? = some (.cells #[.int .i64 a0_0, .int .i64 a0_1, .string a0_2] 23 (0, 0))) ∧ (w'.heap[gb303]? = some (.cells #[.int .i64 t300, .int .i64 t301, .string t302] 23 (0, 0))) ∧ (w'.heap[gb310]? = some (.cells #[.int .i64 t307, .int .i64 t308, .string t309] 23 (0, 0))) ∧ (Below w.heap.size w w')) ?_ ?_
                    rotate_left
                    · intro hJ1_3_4
                      refine join_ (σ := Nat) 7 #[true, true, true, true, false, false, false, false, false, true, false, false] (fun s_ => [(21, .agg #[.int .i64 t311, .int .i64 t312, .string t313]), (23, .int .i64 t314), (6, .pointer (some ⟨s_, 0, none⟩))]) (fun s_ w' => (w'.cell? ⟨gb294, 0, none⟩ = some (.int .i64 a0_0) ∧ w'.cell? ⟨gb294, 1, none⟩ = some (.int .i64 a0_1) ∧ w'.cell? ⟨gb294, 2, none⟩ = some (.string a0_2)) ∧ (w'.heap[gb294]? = some (.cells #[.int .i64 a0_0, .int .i64 a0_1, .string a0_2] 23 (0, 0))) ∧ (w'.heap[gb303]? = some (.cells #[.int .i64 t300, .int .i64 t301, .string t302] 23 (0, 0))) ∧ (w'.heap[gb310]? = some (.cells #[.int .i64 t307, .int .i64 t308, .string t309] 23 (0, 0))) ∧ (w'.heap[s_]? = some (.cells #[.int .i64 0, .int .i64 0, .string (⟨#[]⟩ : ByteArray)] 23 (0, 0))) ∧ (w.heap.size ≤ s_) ∧ (w.heap.size ≤ s_) ∧ (gb294 ≠ s_) ∧ (s_ ≠ gb294) ∧ (gb303 ≠ s_) ∧ (s_ ≠ gb303) ∧ (gb310 ≠ s_) ∧ (s_ ≠ gb310) ∧ (Below w.heap.size w w')) ?_ ?_
                      rotate_left
                      · intro hJ1_3_9
                        refine join_ (σ := Unit) 8 #[true, true, true, true, false, false, false, false, false, false, false, false] (fun s_ => [(21, .agg #[.int .i64 t311, .int .i64 t312, .string t313]), (23, .int .i64 t314)]) (fun s_ w' => (w'.cell? ⟨gb294, 0, none⟩ = some (.int .i64 a0_0) ∧ w'.cell? ⟨gb294, 1, none⟩ = some (.int .i64 a0_1) ∧ w'.cell? ⟨gb294, 2, none⟩ = some (.string a0_2)) ∧ (w'.heap[gb294]? = some (.cells #[.int .i64 a0_0, .int .i64 a0_1, .string a0_2] 23 (0, 0))) ∧ (w'.heap[gb303]? = some (.cells #[.int .i64 t300, .int .i64 t301, .string t302] 23 (0, 0))) ∧ (w'.heap[gb310]? = some (.cells #[.int .i64 t307, .int .i64 t308, .string t309] 23 (0, 0))) ∧ (Below w.heap.size w w')) ?_ ?_
                        rotate_left
                        · intro hJ1_3
                          refine join_ (σ := Nat) 8 #[true, true, true, false, false, false, false, false, false, true, false, false] (fun s_ => [(21, .agg #[.int .i64 t311, .int .i64 t312, .string t313]), (6, .pointer (some ⟨s_, 0, none⟩))]) (fun s_ w' => (w'.cell? ⟨gb294, 0, none⟩ = some (.int .i64 a0_0) ∧ w'.cell? ⟨gb294, 1, none⟩ = some (.int .i64 a0_1) ∧ w'.cell? ⟨gb294, 2, none⟩ = some (.string a0_2)) ∧ (w'.heap[gb294]? = some (.cells #[.int .i64 a0_0, .int .i64 a0_1, .string a0_2] 23 (0, 0))) ∧ (w'.heap[gb303]? = some (.cells #[.int .i64 t300, .int .i64 t301, .string t302] 23 (0, 0))) ∧ (w'.heap[gb310]? = some (.cells #[.int .i64 t307, .int .i64 t308, .string t309] 23 (0, 0))) ∧ (w'.heap[s_]? = some (.cells #[.int .i64 0, .int .i64 0, .string (⟨#[]⟩ : ByteArray)] 23 (0, 0))) ∧ (w.heap.size ≤ s_) ∧ (w.heap.size ≤ s_) ∧ (gb294 ≠ s_) ∧ (s_ ≠ gb294) ∧ (gb303 ≠ s_) ∧ (s_ ≠ gb303) ∧ (gb310 ≠ s_) ∧ (s_ ≠ gb310) ∧ (Below w.heap.size w w')) ?_ ?_
                          rotate_left
                          · intro hJ1_9
                            refine join_ (σ := Unit) 9 #[true, true, true, false, false, false, false, false, false, false, false, false] (fun s_ => [(21, .agg #[.int .i64 t311, .int .i64 t312, .string t313])]) (fun s_ w' => (w'.cell? ⟨gb294, 0, none⟩ = some (.int .i64 a0_0) ∧ w'.cell? ⟨gb294, 1, none⟩ = some (.int .i64 a0_1) ∧ w'.cell? ⟨gb294, 2, none⟩ = some (.string a0_2)) ∧ (w'.heap[gb294]? = some (.cells #[.int .i64 a0_0, .int .i64 a0_1, .string a0_2] 23 (0, 0))) ∧ (w'.heap[gb303]? = some (.cells #[.int .i64 t300, .int .i64 t301, .string t302] 23 (0, 0))) ∧ (w'.heap[gb310]? = some (.cells #[.int .i64 t307, .int .i64 t308, .string t309] 23 (0, 0))) ∧ (Below w.heap.size w w')) ?_ ?_
                            rotate_left
                            · intro hJ1
                              refine join_ (σ := Nat) 9 #[true, false, true, false, false, false, false, false, false, true, false, false] (fun s_ => [(6, .pointer (some ⟨s_, 0, none⟩))]) (fun s_ w' => (w'.cell? ⟨gb294, 0, none⟩ = some (.int .i64 a0_0) ∧ w'.cell? ⟨gb294, 1, none⟩ = some (.int .i64 a0_1) ∧ w'.cell? ⟨gb294, 2, none⟩ = some (.string a0_2)) ∧ (w'.heap[gb294]? = some (.cells #[.int .i64 a0_0, .int .i64 a0_1, .string a0_2] 23 (0, 0))) ∧ (w'.heap[gb303]? = some (.cells #[.int .i64 t300, .int .i64 t301, .string t302] 23 (0, 0))) ∧ (w'.heap[gb310]? = some (.cells #[.int .i64 t307, .int .i64 t308, .string t309] 23 (0, 0))) ∧ (w'.heap[s_]? = some (.cells #[.int .i64 0, .int .i64 0, .string (⟨#[]⟩ : ByteArray)] 23 (0, 0))) ∧ (w.heap.size ≤ s_) ∧ (w.heap.size ≤ s_) ∧ (gb294 ≠ s_) ∧ (s_ ≠ gb294) ∧ (gb303 ≠ s_) ∧ (s_ ≠ gb303) ∧ (gb310 ≠ s_) ∧ (s_ ≠ gb310) ∧ (Below w.heap.size w w')) ?_ ?_
                              rotate_left
                              · intro hJ9
                                refine two_ (i := 1) (j := 9) (Ni := some 21) (Nj := some 6) #[true, true, true, false, false, false, false, false, false, false, false, false] #[true, false, true, false, false, false, false, false, false, true, false, false] rfl rfl rfl rfl (two_of HT_.out (by kernel_rfl)) (by decide) (by decide) (fun K hK => ?_) (fun K hK => ?_)
                                · skip
                                  refine goes_ Tryd.func25 (by kernel_rfl) rfl #[.agg #[.int .i64 a0_0, .int .i64 a0_1, .string a0_2]] (by rfl) rfl rfl (by (try simp only [List.map_toArray, List.map_cons, List.map_nil]); first | done | rfl | (simp only [List.length_drop, List.length_take]; rfl)) ?_
                                  with_reducible refine (value_Neg.calls (hL := ?sideL) a0_0 a0_1 a0_2 t311 t312 t313 _ A9.out).mono ?_
                                  (case sideL => exact Laid.below HL.out (by repeat (first | (with_reducible first | exact HB.out | apply below_alloc | apply pw_below_drewN | apply below_drew1 | refine below_set ?_ GE294.out | refine below_set ?_ GE303.out | refine below_set ?_ GE310.out) | exact HB.out)))
                                  rintro e w42 ⟨rfl, hb⟩
                                  refine ⟨_, rfl, ?_⟩
                                  have n0_ := Aside0.mk (blk_below (g := gb294) (o := .cells #[.int .i64 a0_0, .int .i64 a0_1, .string a0_2] 23 (0, 0)) (by (with_reducible repeat (first | refine blk_drewN ?_ _ | refine blk_drew ?_ | refine blk_alloc ?_ _)); exact BK294.out) hb)
                                  have n1_ := Aside0.mk (blk_below (g := gb303) (o := .cells #[.int .i64 t300, .int .i64 t301, .string t302] 23 (0, 0)) (by (with_reducible repeat (first | refine blk_drewN ?_ _ | refine blk_drew ?_ | refine blk_alloc ?_ _)); exact BK303.out) hb)
                                  have n2_ := Aside0.mk (blk_below (g := gb310) (o := .cells #[.int .i64 t307, .int .i64 t308, .string t309] 23 (0, 0)) (by (with_reducible repeat (first | refine blk_drewN ?_ _ | refine blk_drew ?_ | refine blk_alloc ?_ _)); exact BK310.out) hb)
                                  have n3_ := Aside0.mk (below_step (by repeat (first | (with_reducible first | exact HB.out | apply below_alloc | apply pw_below_drewN | apply below_drew1 | refine below_set ?_ GE294.out | refine below_set ?_ GE303.out | refine below_set ?_ GE310.out) | exact HB.out)) hb)
                                  clear BK294
                                  clear BK303
                                  clear BK310
                                  clear HB
                                  have BK294 := n0_
                                  have BK303 := n1_
                                  have BK310 := n2_
                                  have HB := n3_
                                  clear n0_ n1_ n2_ n3_
                                  (try clear hb)
                                  (try clear hb2)
                                  (try clear hk)
                                  (try clear hi)
                                  refine hK.out _ _ ⟨(blk_cell BK294.out 0).trans rfl, (blk_cell BK294.out 1).trans rfl, (blk_cell BK294.out 2).trans rfl⟩ (fun hHeld => ?_)
                                  clear hK K
                                  refine norm_ (a' := ?_) ?_ ?_
                                  rotate_left
                                  · show Act.put _ (some 21) _ = _
                                    simp only [Act.put, List.setIfInBounds_toArray, List.set_cons_zero, List.set_cons_succ, i64_w, i32_w]
                                    rfl
                                  exact norm_ (by first | (simp only [putAll, Act.put, List.setIfInBounds_toArray, List.set_cons_zero, List.set_cons_succ]; done) | (simp only [putAll, Act.put, List.setIfInBounds_toArray, List.set_cons_zero, List.set_cons_succ]; rfl)) (hJ1 () _ ⟨hHeld, (by (with_reducible repeat (first | refine blk_drewN ?_ _ | refine blk_drew ?_ | refine blk_alloc ?_ _)); exact BK294.out), (by (with_reducible repeat (first | refine blk_drewN ?_ _ | refine blk_drew ?_ | refine blk_alloc ?_ _)); exact BK303.out), (by (with_reducible repeat (first | refine blk_drewN ?_ _ | refine blk_drew ?_ | refine blk_alloc ?_ _)); exact BK310.out), (by repeat (first | (with_reducible first | exact HB.out | apply below_alloc | apply pw_below_drewN | apply below_drew1 | refine below_set ?_ GE294.out | refine below_set ?_ GE303.out | refine below_set ?_ GE310.out) | exact HB.out))⟩)
                                · skip
                                  refine box_step ?hg (N := 6) ?hd (cs := #[.int .i64 0, .int .i64 0, .string (⟨#[]⟩ : ByteArray)]) (t := 23) ?hr ?_; (case hd => rfl); (case hg => rfl); (case hr => first | (go_simp; done) | (go_simp; rfl))
                                  intro gb322 hg w42 hbox hb
                                  have n0_ := Aside0.mk (blk_below (g := gb294) (o := .cells #[.int .i64 a0_0, .int .i64 a0_1, .string a0_2] 23 (0, 0)) (by (with_reducible repeat (first | refine blk_drewN ?_ _ | refine blk_drew ?_ | refine blk_alloc ?_ _)); exact BK294.out) hb)
                                  have n1_ := Aside0.mk (blk_below (g := gb303) (o := .cells #[.int .i64 t300, .int .i64 t301, .string t302] 23 (0, 0)) (by (with_reducible repeat (first | refine blk_drewN ?_ _ | refine blk_drew ?_ | refine blk_alloc ?_ _)); exact BK303.out) hb)
                                  have n2_ := Aside0.mk (blk_below (g := gb310) (o := .cells #[.int .i64 t307, .int .i64 t308, .string t309] 23 (0, 0)) (by (with_reducible repeat (first | refine blk_drewN ?_ _ | refine blk_drew ?_ | refine blk_alloc ?_ _)); exact BK310.out) hb)
                                  have n3_ := Aside0.mk (below_step (by repeat (first | (with_reducible first | exact HB.out | apply below_alloc | apply pw_below_drewN | apply below_drew1 | refine below_set ?_ GE294.out | refine below_set ?_ GE303.out | refine below_set ?_ GE310.out) | exact HB.out)) hb)
                                  have n4_ := Aside0.mk (hbox)
                                  have n5_ := Aside0.mk ((by rw [hg]; exact (below_size (by repeat (first | (with_reducible first | exact HB.out | apply below_alloc | apply pw_below_drewN | apply below_drew1 | refine below_set ?_ GE294.out | refine below_set ?_ GE303.out | refine below_set ?_ GE310.out) | exact HB.out))) : w.heap.size ≤ gb322))
                                  have n6_ := Aside0.mk ((by rw [hg]; exact (below_size (by repeat (first | (with_reducible first | exact HB.out | apply below_alloc | apply pw_below_drewN | apply below_drew1 | refine below_set ?_ GE294.out | refine below_set ?_ GE303.out | refine below_set ?_ GE310.out) | exact HB.out))) : w.heap.size ≤ gb322))
                                  have n7_ := Aside0.mk ((by rw [hg]; exact Nat.ne_of_lt (blk_lt (g := gb294) (o := .cells #[.int .i64 a0_0, .int .i64 a0_1, .string a0_2] 23 (0, 0)) (by (with_reducible repeat (first | refine blk_drewN ?_ _ | refine blk_drew ?_ | refine blk_alloc ?_ _)); exact BK294.out)) : gb294 ≠ gb322))
                                  have n8_ := Aside0.mk ((by rw [hg]; exact Nat.ne_of_gt (blk_lt (g := gb294) (o := .cells #[.int .i64 a0_0, .int .i64 a0_1, .string a0_2] 23 (0, 0)) (by (with_reducible repeat (first | refine blk_drewN ?_ _ | refine blk_drew ?_ | refine blk_alloc ?_ _)); exact BK294.out)) : gb322 ≠ gb294))
                                  have n9_ := Aside0.mk ((by rw [hg]; exact Nat.ne_of_lt (blk_lt (g := gb303) (o := .cells #[.int .i64 t300, .int .i64 t301, .string t302] 23 (0, 0)) (by (with_reducible repeat (first | refine blk_drewN ?_ _ | refine blk_drew ?_ | refine blk_alloc ?_ _)); exact BK303.out)) : gb303 ≠ gb322))
                                  have n10_ := Aside0.mk ((by rw [hg]; exact Nat.ne_of_gt (blk_lt (g := gb303) (o := .cells #[.int .i64 t300, .int .i64 t301, .string t302] 23 (0, 0)) (by (with_reducible repeat (first | refine blk_drewN ?_ _ | refine blk_drew ?_ | refine blk_alloc ?_ _)); exact BK303.out)) : gb322 ≠ gb303))
                                  have n11_ := Aside0.mk ((by rw [hg]; exact Nat.ne_of_lt (blk_lt (g := gb310) (o := .cells #[.int .i64 t307, .int .i64 t308, .string t309] 23 (0, 0)) (by (with_reducible repeat (first | refine blk_drewN ?_ _ | refine blk_drew ?_ | refine blk_alloc ?_ _)); exact BK310.out)) : gb310 ≠ gb322))
                                  have n12_ := Aside0.mk ((by rw [hg]; exact Nat.ne_of_gt (blk_lt (g := gb310) (o := .cells #[.int .i64 t307, .int .i64 t308, .string t309] 23 (0, 0)) (by (with_reducible repeat (first | refine blk_drewN ?_ _ | refine blk_drew ?_ | refine blk_alloc ?_ _)); exact BK310.out)) : gb322 ≠ gb310))
                                  clear BK294
                                  clear BK303
                                  clear BK310
                                  clear HB
                                  have BK294 := n0_
                                  have BK303 := n1_
                                  have BK310 := n2_
                                  have HB := n3_
                                  have BK322 := n4_
                                  have GW322 := n5_
                                  have GE322 := n6_
                                  have NB294_322 := n7_
                                  have NB322_294 := n8_
                                  have NB303_322 := n9_
                                  have NB322_303 := n10_
                                  have NB310_322 := n11_
                                  have NB322_310 := n12_
                                  clear n0_ n1_ n2_ n3_ n4_ n5_ n6_ n7_ n8_ n9_ n10_ n11_ n12_
                                  clear hb hbox hg
                                  refine hK.out _ _ ⟨(blk_cell BK294.out 0).trans rfl, (blk_cell BK294.out 1).trans rfl, (blk_cell BK294.out 2).trans rfl⟩ (fun hHeld => ?_)
                                  clear hK K
                                  refine norm_ (a' := ?_) ?_ ?_
                                  rotate_left
                                  · show Act.put _ (some 6) _ = _
                                    simp only [Act.put, List.setIfInBounds_toArray, List.set_cons_zero, List.set_cons_succ, i64_w, i32_w]
                                    rfl
                                  exact norm_ (by first | (simp only [putAll, Act.put, List.setIfInBounds_toArray, List.set_cons_zero, List.set_cons_succ]; done) | (simp only [putAll, Act.put, List.setIfInBounds_toArray, List.set_cons_zero, List.set_cons_succ]; rfl)) (hJ9 (gb322) _ ⟨hHeld, (by (with_reducible repeat (first | refine blk_drewN ?_ _ | refine blk_drew ?_ | refine blk_alloc ?_ _)); exact BK294.out), (by (with_reducible repeat (first | refine blk_drewN ?_ _ | refine blk_drew ?_ | refine blk_alloc ?_ _)); exact BK303.out), (by (with_reducible repeat (first | refine blk_drewN ?_ _ | refine blk_drew ?_ | refine blk_alloc ?_ _)); exact BK310.out), (by (with_reducible repeat (first | refine blk_drewN ?_ _ | refine blk_drew ?_ | refine blk_alloc ?_ _)); exact BK322.out), GW322.out, GE322.out, NB294_322.out, NB322_294.out, NB303_322.out, NB322_303.out, NB310_322.out, NB322_310.out, (by repeat (first | (with_reducible first | exact HB.out | apply below_alloc | apply pw_below_drewN | apply below_drew1 | refine below_set ?_ GE294.out | refine below_set ?_ GE303.out | refine below_set ?_ GE310.out | refine below_set ?_ GE322.out) | exact HB.out))⟩)
                              · skip
                                rintro gb322 w43 ⟨hS_, h0_, h1_, h2_, h3_, h4_, h5_, h6_, h7_, h8_, h9_, h10_, h11_, h12_⟩
                                have n0_ : Aside0 (w43.heap[gb294]? = some (.cells #[.int .i64 a0_0, .int .i64 a0_1, .string a0_2] 23 (0, 0))) := ⟨h0_⟩
                                have n1_ : Aside0 (w43.heap[gb303]? = some (.cells #[.int .i64 t300, .int .i64 t301, .string t302] 23 (0, 0))) := ⟨h1_⟩
                                have n2_ : Aside0 (w43.heap[gb310]? = some (.cells #[.int .i64 t307, .int .i64 t308, .string t309] 23 (0, 0))) := ⟨h2_⟩
                                have n3_ : Aside0 (w43.heap[gb322]? = some (.cells #[.int .i64 0, .int .i64 0, .string (⟨#[]⟩ : ByteArray)] 23 (0, 0))) := ⟨h3_⟩
                                have n4_ : Aside0 (w.heap.size ≤ gb322) := ⟨h4_⟩
                                have n5_ : Aside0 (w.heap.size ≤ gb322) := ⟨h5_⟩
                                have n6_ : Aside0 (gb294 ≠ gb322) := ⟨h6_⟩
                                have n7_ : Aside0 (gb322 ≠ gb294) := ⟨h7_⟩
                                have n8_ : Aside0 (gb303 ≠ gb322) := ⟨h8_⟩
                                have n9_ : Aside0 (gb322 ≠ gb303) := ⟨h9_⟩
                                have n10_ : Aside0 (gb310 ≠ gb322) := ⟨h10_⟩
                                have n11_ : Aside0 (gb322 ≠ gb310) := ⟨h11_⟩
                                have n12_ : Aside0 (Below w.heap.size w w43) := ⟨h12_⟩
                                clear BK294
                                clear BK303
                                clear BK310
                                clear HB
                                clear h0_ h1_ h2_ h3_ h4_ h5_ h6_ h7_ h8_ h9_ h10_ h11_ h12_
                                have BK294 := n0_
                                have BK303 := n1_
                                have BK310 := n2_
                                have BK322 := n3_
                                have GW322 := n4_
                                have GE322 := n5_
                                have NB294_322 := n6_
                                have NB322_294 := n7_
                                have NB303_322 := n8_
                                have NB322_303 := n9_
                                have NB310_322 := n10_
                                have NB322_310 := n11_
                                have HB := n12_
                                clear n0_ n1_ n2_ n3_ n4_ n5_ n6_ n7_ n8_ n9_ n10_ n11_ n12_
                                have hHeld : w43.cell? ⟨gb294, 0, none⟩ = some (.int .i64 a0_0) ∧ w43.cell? ⟨gb294, 1, none⟩ = some (.int .i64 a0_1) ∧ w43.cell? ⟨gb294, 2, none⟩ = some (.string a0_2) := hS_
                                refine norm_ (a' := ?_) ?_ ?_
                                rotate_left
                                · simp only [putAll, Act.put, List.setIfInBounds_toArray, List.set_cons_zero, List.set_cons_succ]
                                  rfl
                                refine one_ (i := 1) (N := some 21) #[true, true, true, false, false, false, false, false, false, true, false, false] rfl rfl (one_of HT_.out (by kernel_rfl)) (by decide) (fun K hK => ?_)
                                refine goes_ Tryd.func25 (by kernel_rfl) rfl #[.agg #[.int .i64 a0_0, .int .i64 a0_1, .string a0_2]] (by rfl) rfl rfl (by (try simp only [List.map_toArray, List.map_cons, List.map_nil]); first | done | rfl | (simp only [List.length_drop, List.length_take]; rfl)) ?_
                                with_reducible refine (value_Neg.calls (hL := ?sideL) a0_0 a0_1 a0_2 t311 t312 t313 _ A9.out).mono ?_
                                (case sideL => exact Laid.below HL.out (by repeat (first | (with_reducible first | exact HB.out | apply below_alloc | apply pw_below_drewN | apply below_drew1 | refine below_set ?_ GE294.out | refine below_set ?_ GE303.out | refine below_set ?_ GE310.out | refine below_set ?_ GE322.out) | exact HB.out)))
                                rintro e w44 ⟨rfl, hb⟩
                                refine ⟨_, rfl, ?_⟩
                                have n0_ := Aside0.mk (blk_below (g := gb294) (o := .cells #[.int .i64 a0_0, .int .i64 a0_1, .string a0_2] 23 (0, 0)) (by (with_reducible repeat (first | refine blk_drewN ?_ _ | refine blk_drew ?_ | refine blk_alloc ?_ _)); exact BK294.out) hb)
                                have n1_ := Aside0.mk (blk_below (g := gb303) (o := .cells #[.int .i64 t300, .int .i64 t301, .string t302] 23 (0, 0)) (by (with_reducible repeat (first | refine blk_drewN ?_ _ | refine blk_drew ?_ | refine blk_alloc ?_ _)); exact BK303.out) hb)
                                have n2_ := Aside0.mk (blk_below (g := gb310) (o := .cells #[.int .i64 t307, .int .i64 t308, .string t309] 23 (0, 0)) (by (with_reducible repeat (first | refine blk_drewN ?_ _ | refine blk_drew ?_ | refine blk_alloc ?_ _)); exact BK310.out) hb)
                                have n3_ := Aside0.mk (blk_below (g := gb322) (o := .cells #[.int .i64 0, .int .i64 0, .string (⟨#[]⟩ : ByteArray)] 23 (0, 0)) (by (with_reducible repeat (first | refine blk_drewN ?_ _ | refine blk_drew ?_ | refine blk_alloc ?_ _)); exact BK322.out) hb)
                                have n4_ := Aside0.mk (below_step (by repeat (first | (with_reducible first | exact HB.out | apply below_alloc | apply pw_below_drewN | apply below_drew1 | refine below_set ?_ GE294.out | refine below_set ?_ GE303.out | refine below_set ?_ GE310.out | refine below_set ?_ GE322.out) | exact HB.out)) hb)
                                clear BK294
                                clear BK303
                                clear BK310
                                clear BK322
                                clear HB
                                have BK294 := n0_
                                have BK303 := n1_
                                have BK310 := n2_
                                have BK322 := n3_
                                have HB := n4_
                                clear n0_ n1_ n2_ n3_ n4_
                                (try clear hb)
                                (try clear hb2)
                                (try clear hk)
                                (try clear hi)
                                refine hK.out _ _ ⟨(blk_cell BK294.out 0).trans rfl, (blk_cell BK294.out 1).trans rfl, (blk_cell BK294.out 2).trans rfl⟩ (fun hHeld => ?_)
                                clear hK K
                                refine norm_ (a' := ?_) ?_ ?_
                                rotate_left
                                · show Act.put _ (some 21) _ = _
                                  simp only [Act.put, List.setIfInBounds_toArray, List.set_cons_zero, List.set_cons_succ, i64_w, i32_w]
                                  rfl
                                exact norm_ (by first | (simp only [putAll, Act.put, List.setIfInBounds_toArray, List.set_cons_zero, List.set_cons_succ]; done) | (simp only [putAll, Act.put, List.setIfInBounds_toArray, List.set_cons_zero, List.set_cons_succ]; rfl)) (hJ1_9 (gb322) _ ⟨hHeld, (by (with_reducible repeat (first | refine blk_drewN ?_ _ | refine blk_drew ?_ | refine blk_alloc ?_ _)); exact BK294.out), (by (with_reducible repeat (first | refine blk_drewN ?_ _ | refine blk_drew ?_ | refine blk_alloc ?_ _)); exact BK303.out), (by (with_reducible repeat (first | refine blk_drewN ?_ _ | refine blk_drew ?_ | refine blk_alloc ?_ _)); exact BK310.out), (by (with_reducible repeat (first | refine blk_drewN ?_ _ | refine blk_drew ?_ | refine blk_alloc ?_ _)); exact BK322.out), GW322.out, GE322.out, NB294_322.out, NB322_294.out, NB303_322.out, NB322_303.out, NB310_322.out, NB322_310.out, (by repeat (first | (with_reducible first | exact HB.out | apply below_alloc | apply pw_below_drewN | apply below_drew1 | refine below_set ?_ GE294.out | refine below_set ?_ GE303.out | refine below_set ?_ GE310.out | refine below_set ?_ GE322.out) | exact HB.out))⟩)
                            · skip
                              rintro _ w43 ⟨hS_, h0_, h1_, h2_, h3_⟩
                              have n0_ : Aside0 (w43.heap[gb294]? = some (.cells #[.int .i64 a0_0, .int .i64 a0_1, .string a0_2] 23 (0, 0))) := ⟨h0_⟩
                              have n1_ : Aside0 (w43.heap[gb303]? = some (.cells #[.int .i64 t300, .int .i64 t301, .string t302] 23 (0, 0))) := ⟨h1_⟩
                              have n2_ : Aside0 (w43.heap[gb310]? = some (.cells #[.int .i64 t307, .int .i64 t308, .string t309] 23 (0, 0))) := ⟨h2_⟩
                              have n3_ : Aside0 (Below w.heap.size w w43) := ⟨h3_⟩
                              clear BK294
                              clear BK303
                              clear BK310
                              clear HB
                              clear h0_ h1_ h2_ h3_
                              have BK294 := n0_
                              have BK303 := n1_
                              have BK310 := n2_
                              have HB := n3_
                              clear n0_ n1_ n2_ n3_
                              have hHeld : w43.cell? ⟨gb294, 0, none⟩ = some (.int .i64 a0_0) ∧ w43.cell? ⟨gb294, 1, none⟩ = some (.int .i64 a0_1) ∧ w43.cell? ⟨gb294, 2, none⟩ = some (.string a0_2) := hS_
                              refine norm_ (a' := ?_) ?_ ?_
                              rotate_left
                              · simp only [putAll, Act.put, List.setIfInBounds_toArray, List.set_cons_zero, List.set_cons_succ]
                                rfl
                              refine two_ (i := 3) (j := 9) (Ni := some 23) (Nj := some 6) #[true, true, true, true, false, false, false, false, false, false, false, false] #[true, true, true, false, false, false, false, false, false, true, false, false] rfl rfl rfl rfl (two_of HT_.out (by kernel_rfl)) (by decide) (by decide) (fun K hK => ?_) (fun K hK => ?_)
                              · skip
                                refine goes_ Tryd.func17 (by kernel_rfl) rfl #[.agg #[.int .i64 a0_0, .int .i64 a0_1, .string a0_2]] (by rfl) rfl rfl (by (try simp only [List.map_toArray, List.map_cons, List.map_nil]); first | done | rfl | (simp only [List.length_drop, List.length_take]; rfl)) ?_
                                with_reducible refine (value_Num.calls (hL := ?sideL) a0_0 a0_1 a0_2 t314 _ A10.out).mono ?_
                                (case sideL => exact Laid.below HL.out (by repeat (first | (with_reducible first | exact HB.out | apply below_alloc | apply pw_below_drewN | apply below_drew1 | refine below_set ?_ GE294.out | refine below_set ?_ GE303.out | refine below_set ?_ GE310.out) | exact HB.out)))
                                rintro e w44 ⟨rfl, hb⟩
                                refine ⟨_, rfl, ?_⟩
                                have n0_ := Aside0.mk (blk_below (g := gb294) (o := .cells #[.int .i64 a0_0, .int .i64 a0_1, .string a0_2] 23 (0, 0)) (by (with_reducible repeat (first | refine blk_drewN ?_ _ | refine blk_drew ?_ | refine blk_alloc ?_ _)); exact BK294.out) hb)
                                have n1_ := Aside0.mk (blk_below (g := gb303) (o := .cells #[.int .i64 t300, .int .i64 t301, .string t302] 23 (0, 0)) (by (with_reducible repeat (first | refine blk_drewN ?_ _ | refine blk_drew ?_ | refine blk_alloc ?_ _)); exact BK303.out) hb)
                                have n2_ := Aside0.mk (blk_below (g := gb310) (o := .cells #[.int .i64 t307, .int .i64 t308, .string t309] 23 (0, 0)) (by (with_reducible repeat (first | refine blk_drewN ?_ _ | refine blk_drew ?_ | refine blk_alloc ?_ _)); exact BK310.out) hb)
                                have n3_ := Aside0.mk (below_step (by repeat (first | (with_reducible first | exact HB.out | apply below_alloc | apply pw_below_drewN | apply below_drew1 | refine below_set ?_ GE294.out | refine below_set ?_ GE303.out | refine below_set ?_ GE310.out) | exact HB.out)) hb)
                                clear BK294
                                clear BK303
                                clear BK310
                                clear HB
                                have BK294 := n0_
                                have BK303 := n1_
                                have BK310 := n2_
                                have HB := n3_
                                clear n0_ n1_ n2_ n3_
                                (try clear hb)
                                (try clear hb2)
                                (try clear hk)
                                (try clear hi)
                                refine hK.out _ _ ⟨(blk_cell BK294.out 0).trans rfl, (blk_cell BK294.out 1).trans rfl, (blk_cell BK294.out 2).trans rfl⟩ (fun hHeld => ?_)
                                clear hK K
                                refine norm_ (a' := ?_) ?_ ?_
                                rotate_left
                                · show Act.put _ (some 23) _ = _
                                  simp only [Act.put, List.setIfInBounds_toArray, List.set_cons_zero, List.set_cons_succ, i64_w, i32_w]
                                  rfl
                                exact norm_ (by first | (simp only [putAll, Act.put, List.setIfInBounds_toArray, List.set_cons_zero, List.set_cons_succ]; done) | (simp only [putAll, Act.put, List.setIfInBounds_toArray, List.set_cons_zero, List.set_cons_succ]; rfl)) (hJ1_3 () _ ⟨hHeld, (by (with_reducible repeat (first | refine blk_drewN ?_ _ | refine blk_drew ?_ | refine blk_alloc ?_ _)); exact BK294.out), (by (with_reducible repeat (first | refine blk_drewN ?_ _ | refine blk_drew ?_ | refine blk_alloc ?_ _)); exact BK303.out), (by (with_reducible repeat (first | refine blk_drewN ?_ _ | refine blk_drew ?_ | refine blk_alloc ?_ _)); exact BK310.out), (by repeat (first | (with_reducible first | exact HB.out | apply below_alloc | apply pw_below_drewN | apply below_drew1 | refine below_set ?_ GE294.out | refine below_set ?_ GE303.out | refine below_set ?_ GE310.out) | exact HB.out))⟩)
                              · skip
                                refine box_step ?hg (N := 6) ?hd (cs := #[.int .i64 0, .int .i64 0, .string (⟨#[]⟩ : ByteArray)]) (t := 23) ?hr ?_; (case hd => rfl); (case hg => rfl); (case hr => first | (go_simp; done) | (go_simp; rfl))
                                intro gb322 hg w44 hbox hb
                                have n0_ := Aside0.mk (blk_below (g := gb294) (o := .cells #[.int .i64 a0_0, .int .i64 a0_1, .string a0_2] 23 (0, 0)) (by (with_reducible repeat (first | refine blk_drewN ?_ _ | refine blk_drew ?_ | refine blk_alloc ?_ _)); exact BK294.out) hb)
                                have n1_ := Aside0.mk (blk_below (g := gb303) (o := .cells #[.int .i64 t300, .int .i64 t301, .string t302] 23 (0, 0)) (by (with_reducible repeat (first | refine blk_drewN ?_ _ | refine blk_drew ?_ | refine blk_alloc ?_ _)); exact BK303.out) hb)
                                have n2_ := Aside0.mk (blk_below (g := gb310) (o := .cells #[.int .i64 t307, .int .i64 t308, .string t309] 23 (0, 0)) (by (with_reducible repeat (first | refine blk_drewN ?_ _ | refine blk_drew ?_ | refine blk_alloc ?_ _)); exact BK310.out) hb)
                                have n3_ := Aside0.mk (below_step (by repeat (first | (with_reducible first | exact HB.out | apply below_alloc | apply pw_below_drewN | apply below_drew1 | refine below_set ?_ GE294.out | refine below_set ?_ GE303.out | refine below_set ?_ GE310.out) | exact HB.out)) hb)
                                have n4_ := Aside0.mk (hbox)
                                have n5_ := Aside0.mk ((by rw [hg]; exact (below_size (by repeat (first | (with_reducible first | exact HB.out | apply below_alloc | apply pw_below_drewN | apply below_drew1 | refine below_set ?_ GE294.out | refine below_set ?_ GE303.out | refine below_set ?_ GE310.out) | exact HB.out))) : w.heap.size ≤ gb322))
                                have n6_ := Aside0.mk ((by rw [hg]; exact (below_size (by repeat (first | (with_reducible first | exact HB.out | apply below_alloc | apply pw_below_drewN | apply below_drew1 | refine below_set ?_ GE294.out | refine below_set ?_ GE303.out | refine below_set ?_ GE310.out) | exact HB.out))) : w.heap.size ≤ gb322))
                                have n7_ := Aside0.mk ((by rw [hg]; exact Nat.ne_of_lt (blk_lt (g := gb294) (o := .cells #[.int .i64 a0_0, .int .i64 a0_1, .string a0_2] 23 (0, 0)) (by (with_reducible repeat (first | refine blk_drewN ?_ _ | refine blk_drew ?_ | refine blk_alloc ?_ _)); exact BK294.out)) : gb294 ≠ gb322))
                                have n8_ := Aside0.mk ((by rw [hg]; exact Nat.ne_of_gt (blk_lt (g := gb294) (o := .cells #[.int .i64 a0_0, .int .i64 a0_1, .string a0_2] 23 (0, 0)) (by (with_reducible repeat (first | refine blk_drewN ?_ _ | refine blk_drew ?_ | refine blk_alloc ?_ _)); exact BK294.out)) : gb322 ≠ gb294))
                                have n9_ := Aside0.mk ((by rw [hg]; exact Nat.ne_of_lt (blk_lt (g := gb303) (o := .cells #[.int .i64 t300, .int .i64 t301, .string t302] 23 (0, 0)) (by (with_reducible repeat (first | refine blk_drewN ?_ _ | refine blk_drew ?_ | refine blk_alloc ?_ _)); exact BK303.out)) : gb303 ≠ gb322))
                                have n10_ := Aside0.mk ((by rw [hg]; exact Nat.ne_of_gt (blk_lt (g := gb303) (o := .cells #[.int .i64 t300, .int .i64 t301, .string t302] 23 (0, 0)) (by (with_reducible repeat (first | refine blk_drewN ?_ _ | refine blk_drew ?_ | refine blk_alloc ?_ _)); exact BK303.out)) : gb322 ≠ gb303))
                                have n11_ := Aside0.mk ((by rw [hg]; exact Nat.ne_of_lt (blk_lt (g := gb310) (o := .cells #[.int .i64 t307, .int .i64 t308, .string t309] 23 (0, 0)) (by (with_reducible repeat (first | refine blk_drewN ?_ _ | refine blk_drew ?_ | refine blk_alloc ?_ _)); exact BK310.out)) : gb310 ≠ gb322))
                                have n12_ := Aside0.mk ((by rw [hg]; exact Nat.ne_of_gt (blk_lt (g := gb310) (o := .cells #[.int .i64 t307, .int .i64 t308, .string t309] 23 (0, 0)) (by (with_reducible repeat (first | refine blk_drewN ?_ _ | refine blk_drew ?_ | refine blk_alloc ?_ _)); exact BK310.out)) : gb322 ≠ gb310))
                                clear BK294
                                clear BK303
                                clear BK310
                                clear HB
                                have BK294 := n0_
                                have BK303 := n1_
                                have BK310 := n2_
                                have HB := n3_
                                have BK322 := n4_
                                have GW322 := n5_
                                have GE322 := n6_
                                have NB294_322 := n7_
                                have NB322_294 := n8_
                                have NB303_322 := n9_
                                have NB322_303 := n10_
                                have NB310_322 := n11_
                                have NB322_310 := n12_
                                clear n0_ n1_ n2_ n3_ n4_ n5_ n6_ n7_ n8_ n9_ n10_ n11_ n12_
                                clear hb hbox hg
                                refine hK.out _ _ ⟨(blk_cell BK294.out 0).trans rfl, (blk_cell BK294.out 1).trans rfl, (blk_cell BK294.out 2).trans rfl⟩ (fun hHeld => ?_)
                                clear hK K
                                refine norm_ (a' := ?_) ?_ ?_
                                rotate_left
                                · show Act.put _ (some 6) _ = _
                                  simp only [Act.put, List.setIfInBounds_toArray, List.set_cons_zero, List.set_cons_succ, i64_w, i32_w]
                                  rfl
                                exact norm_ (by first | (simp only [putAll, Act.put, List.setIfInBounds_toArray, List.set_cons_zero, List.set_cons_succ]; done) | (simp only [putAll, Act.put, List.setIfInBounds_toArray, List.set_cons_zero, List.set_cons_succ]; rfl)) (hJ1_9 (gb322) _ ⟨hHeld, (by (with_reducible repeat (first | refine blk_drewN ?_ _ | refine blk_drew ?_ | refine blk_alloc ?_ _)); exact BK294.out), (by (with_reducible repeat (first | refine blk_drewN ?_ _ | refine blk_drew ?_ | refine blk_alloc ?_ _)); exact BK303.out), (by (with_reducible repeat (first | refine blk_drewN ?_ _ | refine blk_drew ?_ | refine blk_alloc ?_ _)); exact BK310.out), (by (with_reducible repeat (first | refine blk_drewN ?_ _ | refine blk_drew ?_ | refine blk_alloc ?_ _)); exact BK322.out), GW322.out, GE322.out, NB294_322.out, NB322_294.out, NB303_322.out, NB322_303.out, NB310_322.out, NB322_310.out, (by repeat (first | (with_reducible first | exact HB.out | apply below_alloc | apply pw_below_drewN | apply below_drew1 | refine below_set ?_ GE294.out | refine below_set ?_ GE303.out | refine below_set ?_ GE310.out | refine below_set ?_ GE322.out) | exact HB.out))⟩)
                          · skip
                            rintro gb322 w44 ⟨hS_, h0_, h1_, h2_, h3_, h4_, h5_, h6_, h7_, h8_, h9_, h10_, h11_, h12_⟩
                            have n0_ : Aside0 (w44.heap[gb294]? = some (.cells #[.int .i64 a0_0, .int .i64 a0_1, .string a0_2] 23 (0, 0))) := ⟨h0_⟩
                            have n1_ : Aside0 (w44.heap[gb303]? = some (.cells #[.int .i64 t300, .int .i64 t301, .string t302] 23 (0, 0))) := ⟨h1_⟩
                            have n2_ : Aside0 (w44.heap[gb310]? = some (.cells #[.int .i64 t307, .int .i64 t308, .string t309] 23 (0, 0))) := ⟨h2_⟩
                            have n3_ : Aside0 (w44.heap[gb322]? = some (.cells #[.int .i64 0, .int .i64 0, .string (⟨#[]⟩ : ByteArray)] 23 (0, 0))) := ⟨h3_⟩
                            have n4_ : Aside0 (w.heap.size ≤ gb322) := ⟨h4_⟩
                            have n5_ : Aside0 (w.heap.size ≤ gb322) := ⟨h5_⟩
                            have n6_ : Aside0 (gb294 ≠ gb322) := ⟨h6_⟩
                            have n7_ : Aside0 (gb322 ≠ gb294) := ⟨h7_⟩
                            have n8_ : Aside0 (gb303 ≠ gb322) := ⟨h8_⟩
                            have n9_ : Aside0 (gb322 ≠ gb303) := ⟨h9_⟩
                            have n10_ : Aside0 (gb310 ≠ gb322) := ⟨h10_⟩
                            have n11_ : Aside0 (gb322 ≠ gb310) := ⟨h11_⟩
                            have n12_ : Aside0 (Below w.heap.size w w44) := ⟨h12_⟩
                            clear BK294
                            clear BK303
                            clear BK310
                            clear HB
                            clear h0_ h1_ h2_ h3_ h4_ h5_ h6_ h7_ h8_ h9_ h10_ h11_ h12_
                            have BK294 := n0_
                            have BK303 := n1_
                            have BK310 := n2_
                            have BK322 := n3_
                            have GW322 := n4_
                            have GE322 := n5_
                            have NB294_322 := n6_
                            have NB322_294 := n7_
                            have NB303_322 := n8_
                            have NB322_303 := n9_
                            have NB310_322 := n10_
                            have NB322_310 := n11_
                            have HB := n12_
                            clear n0_ n1_ n2_ n3_ n4_ n5_ n6_ n7_ n8_ n9_ n10_ n11_ n12_
                            have hHeld : w44.cell? ⟨gb294, 0, none⟩ = some (.int .i64 a0_0) ∧ w44.cell? ⟨gb294, 1, none⟩ = some (.int .i64 a0_1) ∧ w44.cell? ⟨gb294, 2, none⟩ = some (.string a0_2) := hS_
                            refine norm_ (a' := ?_) ?_ ?_
                            rotate_left
                            · simp only [putAll, Act.put, List.setIfInBounds_toArray, List.set_cons_zero, List.set_cons_succ]
                              rfl
                            refine one_ (i := 3) (N := some 23) #[true, true, true, true, false, false, false, false, false, true, false, false] rfl rfl (one_of HT_.out (by kernel_rfl)) (by decide) (fun K hK => ?_)
                            refine goes_ Tryd.func17 (by kernel_rfl) rfl #[.agg #[.int .i64 a0_0, .int .i64 a0_1, .string a0_2]] (by rfl) rfl rfl (by (try simp only [List.map_toArray, List.map_cons, List.map_nil]); first | done | rfl | (simp only [List.length_drop, List.length_take]; rfl)) ?_
                            with_reducible refine (value_Num.calls (hL := ?sideL) a0_0 a0_1 a0_2 t314 _ A10.out).mono ?_
                            (case sideL => exact Laid.below HL.out (by repeat (first | (with_reducible first | exact HB.out | apply below_alloc | apply pw_below_drewN | apply below_drew1 | refine below_set ?_ GE294.out | refine below_set ?_ GE303.out | refine below_set ?_ GE310.out | refine below_set ?_ GE322.out) | exact HB.out)))
                            rintro e w45 ⟨rfl, hb⟩
                            refine ⟨_, rfl, ?_⟩
                            have n0_ := Aside0.mk (blk_below (g := gb294) (o := .cells #[.int .i64 a0_0, .int .i64 a0_1, .string a0_2] 23 (0, 0)) (by (with_reducible repeat (first | refine blk_drewN ?_ _ | refine blk_drew ?_ | refine blk_alloc ?_ _)); exact BK294.out) hb)
                            have n1_ := Aside0.mk (blk_below (g := gb303) (o := .cells #[.int .i64 t300, .int .i64 t301, .string t302] 23 (0, 0)) (by (with_reducible repeat (first | refine blk_drewN ?_ _ | refine blk_drew ?_ | refine blk_alloc ?_ _)); exact BK303.out) hb)
                            have n2_ := Aside0.mk (blk_below (g := gb310) (o := .cells #[.int .i64 t307, .int .i64 t308, .string t309] 23 (0, 0)) (by (with_reducible repeat (first | refine blk_drewN ?_ _ | refine blk_drew ?_ | refine blk_alloc ?_ _)); exact BK310.out) hb)
                            have n3_ := Aside0.mk (blk_below (g := gb322) (o := .cells #[.int .i64 0, .int .i64 0, .string (⟨#[]⟩ : ByteArray)] 23 (0, 0)) (by (with_reducible repeat (first | refine blk_drewN ?_ _ | refine blk_drew ?_ | refine blk_alloc ?_ _)); exact BK322.out) hb)
                            have n4_ := Aside0.mk (below_step (by repeat (first | (with_reducible first | exact HB.out | apply below_alloc | apply pw_below_drewN | apply below_drew1 | refine below_set ?_ GE294.out | refine below_set ?_ GE303.out | refine below_set ?_ GE310.out | refine below_set ?_ GE322.out) | exact HB.out)) hb)
                            clear BK294
                            clear BK303
                            clear BK310
                            clear BK322
                            clear HB
                            have BK294 := n0_
                            have BK303 := n1_
                            have BK310 := n2_
                            have BK322 := n3_
                            have HB := n4_
                            clear n0_ n1_ n2_ n3_ n4_
                            (try clear hb)
                            (try clear hb2)
                            (try clear hk)
                            (try clear hi)
                            refine hK.out _ _ ⟨(blk_cell BK294.out 0).trans rfl, (blk_cell BK294.out 1).trans rfl, (blk_cell BK294.out 2).trans rfl⟩ (fun hHeld => ?_)
                            clear hK K
                            refine norm_ (a' := ?_) ?_ ?_
                            rotate_left
                            · show Act.put _ (some 23) _ = _
                              simp only [Act.put, List.setIfInBounds_toArray, List.set_cons_zero, List.set_cons_succ, i64_w, i32_w]
                              rfl
                            exact norm_ (by first | (simp only [putAll, Act.put, List.setIfInBounds_toArray, List.set_cons_zero, List.set_cons_succ]; done) | (simp only [putAll, Act.put, List.setIfInBounds_toArray, List.set_cons_zero, List.set_cons_succ]; rfl)) (hJ1_3_9 (gb322) _ ⟨hHeld, (by (with_reducible repeat (first | refine blk_drewN ?_ _ | refine blk_drew ?_ | refine blk_alloc ?_ _)); exact BK294.out), (by (with_reducible repeat (first | refine blk_drewN ?_ _ | refine blk_drew ?_ | refine blk_alloc ?_ _)); exact BK303.out), (by (with_reducible repeat (first | refine blk_drewN ?_ _ | refine blk_drew ?_ | refine blk_alloc ?_ _)); exact BK310.out), (by (with_reducible repeat (first | refine blk_drewN ?_ _ | refine blk_drew ?_ | refine blk_alloc ?_ _)); exact BK322.out), GW322.out, GE322.out, NB294_322.out, NB322_294.out, NB303_322.out, NB322_303.out, NB310_322.out, NB322_310.out, (by repeat (first | (with_reducible first | exact HB.out | apply below_alloc | apply pw_below_drewN | apply below_drew1 | refine below_set ?_ GE294.out | refine below_set ?_ GE303.out | refine below_set ?_ GE310.out | refine below_set ?_ GE322.out) | exact HB.out))⟩)
                        · skip
                          rintro _ w44 ⟨hS_, h0_, h1_, h2_, h3_⟩
                          have n0_ : Aside0 (w44.heap[gb294]? = some (.cells #[.int .i64 a0_0, .int .i64 a0_1, .string a0_2] 23 (0, 0))) := ⟨h0_⟩
                          have n1_ : Aside0 (w44.heap[gb303]? = some (.cells #[.int .i64 t300, .int .i64 t301, .string t302] 23 (0, 0))) := ⟨h1_⟩
                          have n2_ : Aside0 (w44.heap[gb310]? = some (.cells #[.int .i64 t307, .int .i64 t308, .string t309] 23 (0, 0))) := ⟨h2_⟩
                          have n3_ : Aside0 (Below w.heap.size w w44) := ⟨h3_⟩
                          clear BK294
                          clear BK303
                          clear BK310
                          clear HB
                          clear h0_ h1_ h2_ h3_
                          have BK294 := n0_
                          have BK303 := n1_
                          have BK310 := n2_
                          have HB := n3_
                          clear n0_ n1_ n2_ n3_
                          have hHeld : w44.cell? ⟨gb294, 0, none⟩ = some (.int .i64 a0_0) ∧ w44.cell? ⟨gb294, 1, none⟩ = some (.int .i64 a0_1) ∧ w44.cell? ⟨gb294, 2, none⟩ = some (.string a0_2) := hS_
                          refine norm_ (a' := ?_) ?_ ?_
                          rotate_left
                          · simp only [putAll, Act.put, List.setIfInBounds_toArray, List.set_cons_zero, List.set_cons_succ]
                            rfl
                          refine two_ (i := 4) (j := 9) (Ni := some 24) (Nj := some 6) #[true, true, true, true, true, false, false, false, false, false, false, false] #[true, true, true, true, false, false, false, false, false, true, false, false] rfl rfl rfl rfl (two_of HT_.out (by kernel_rfl)) (by decide) (by decide) (fun K hK => ?_) (fun K hK => ?_)
                          · skip
                            refine goes_ Tryd.func16 (by kernel_rfl) rfl #[.int .i64 t314] (by rfl) rfl rfl (by (try simp only [List.map_toArray, List.map_cons, List.map_nil]); first | done | rfl | (simp only [List.length_drop, List.length_take]; rfl)) ?_
                            with_reducible refine (gumshoelaw06_num.calls t314 t315 t316 t317 _ A11.out).mono ?_
                            rintro e w45 ⟨rfl, hb⟩
                            refine ⟨_, rfl, ?_⟩
                            have n0_ := Aside0.mk (blk_below (g := gb294) (o := .cells #[.int .i64 a0_0, .int .i64 a0_1, .string a0_2] 23 (0, 0)) (by (with_reducible repeat (first | refine blk_drewN ?_ _ | refine blk_drew ?_ | refine blk_alloc ?_ _)); exact BK294.out) hb)
                            have n1_ := Aside0.mk (blk_below (g := gb303) (o := .cells #[.int .i64 t300, .int .i64 t301, .string t302] 23 (0, 0)) (by (with_reducible repeat (first | refine blk_drewN ?_ _ | refine blk_drew ?_ | refine blk_alloc ?_ _)); exact BK303.out) hb)
                            have n2_ := Aside0.mk (blk_below (g := gb310) (o := .cells #[.int .i64 t307, .int .i64 t308, .string t309] 23 (0, 0)) (by (with_reducible repeat (first | refine blk_drewN ?_ _ | refine blk_drew ?_ | refine blk_alloc ?_ _)); exact BK310.out) hb)
                            have n3_ := Aside0.mk (below_step (by repeat (first | (with_reducible first | exact HB.out | apply below_alloc | apply pw_below_drewN | apply below_drew1 | refine below_set ?_ GE294.out | refine below_set ?_ GE303.out | refine below_set ?_ GE310.out) | exact HB.out)) hb)
                            clear BK294
                            clear BK303
                            clear BK310
                            clear HB
                            have BK294 := n0_
                            have BK303 := n1_
                            have BK310 := n2_
                            have HB := n3_
                            clear n0_ n1_ n2_ n3_
                            (try clear hb)
                            (try clear hb2)
                            (try clear hk)
                            (try clear hi)
                            refine hK.out _ _ ⟨(blk_cell BK294.out 0).trans rfl, (blk_cell BK294.out 1).trans rfl, (blk_cell BK294.out 2).trans rfl⟩ (fun hHeld => ?_)
                            clear hK K
                            refine norm_ (a' := ?_) ?_ ?_
                            rotate_left
                            · show Act.put _ (some 24) _ = _
                              simp only [Act.put, List.setIfInBounds_toArray, List.set_cons_zero, List.set_cons_succ, i64_w, i32_w]
                              rfl
                            exact norm_ (by first | (simp only [putAll, Act.put, List.setIfInBounds_toArray, List.set_cons_zero, List.set_cons_succ]; done) | (simp only [putAll, Act.put, List.setIfInBounds_toArray, List.set_cons_zero, List.set_cons_succ]; rfl)) (hJ1_3_4 () _ ⟨hHeld, (by (with_reducible repeat (first | refine blk_drewN ?_ _ | refine blk_drew ?_ | refine blk_alloc ?_ _)); exact BK294.out), (by (with_reducible repeat (first | refine blk_drewN ?_ _ | refine blk_drew ?_ | refine blk_alloc ?_ _)); exact BK303.out), (by (with_reducible repeat (first | refine blk_drewN ?_ _ | refine blk_drew ?_ | refine blk_alloc ?_ _)); exact BK310.out), (by repeat (first | (with_reducible first | exact HB.out | apply below_alloc | apply pw_below_drewN | apply below_drew1 | refine below_set ?_ GE294.out | refine below_set ?_ GE303.out | refine below_set ?_ GE310.out) | exact HB.out))⟩)
                          · skip
                            refine box_step ?hg (N := 6) ?hd (cs := #[.int .i64 0, .int .i64 0, .string (⟨#[]⟩ : ByteArray)]) (t := 23) ?hr ?_; (case hd => rfl); (case hg => rfl); (case hr => first | (go_simp; done) | (go_simp; rfl))
                            intro gb322 hg w45 hbox hb
                            have n0_ := Aside0.mk (blk_below (g := gb294) (o := .cells #[.int .i64 a0_0, .int .i64 a0_1, .string a0_2] 23 (0, 0)) (by (with_reducible repeat (first | refine blk_drewN ?_ _ | refine blk_drew ?_ | refine blk_alloc ?_ _)); exact BK294.out) hb)
                            have n1_ := Aside0.mk (blk_below (g := gb303) (o := .cells #[.int .i64 t300, .int .i64 t301, .string t302] 23 (0, 0)) (by (with_reducible repeat (first | refine blk_drewN ?_ _ | refine blk_drew ?_ | refine blk_alloc ?_ _)); exact BK303.out) hb)
                            have n2_ := Aside0.mk (blk_below (g := gb310) (o := .cells #[.int .i64 t307, .int .i64 t308, .string t309] 23 (0, 0)) (by (with_reducible repeat (first | refine blk_drewN ?_ _ | refine blk_drew ?_ | refine blk_alloc ?_ _)); exact BK310.out) hb)
                            have n3_ := Aside0.mk (below_step (by repeat (first | (with_reducible first | exact HB.out | apply below_alloc | apply pw_below_drewN | apply below_drew1 | refine below_set ?_ GE294.out | refine below_set ?_ GE303.out | refine below_set ?_ GE310.out) | exact HB.out)) hb)
                            have n4_ := Aside0.mk (hbox)
                            have n5_ := Aside0.mk ((by rw [hg]; exact (below_size (by repeat (first | (with_reducible first | exact HB.out | apply below_alloc | apply pw_below_drewN | apply below_drew1 | refine below_set ?_ GE294.out | refine below_set ?_ GE303.out | refine below_set ?_ GE310.out) | exact HB.out))) : w.heap.size ≤ gb322))
                            have n6_ := Aside0.mk ((by rw [hg]; exact (below_size (by repeat (first | (with_reducible first | exact HB.out | apply below_alloc | apply pw_below_drewN | apply below_drew1 | refine below_set ?_ GE294.out | refine below_set ?_ GE303.out | refine below_set ?_ GE310.out) | exact HB.out))) : w.heap.size ≤ gb322))
                            have n7_ := Aside0.mk ((by rw [hg]; exact Nat.ne_of_lt (blk_lt (g := gb294) (o := .cells #[.int .i64 a0_0, .int .i64 a0_1, .string a0_2] 23 (0, 0)) (by (with_reducible repeat (first | refine blk_drewN ?_ _ | refine blk_drew ?_ | refine blk_alloc ?_ _)); exact BK294.out)) : gb294 ≠ gb322))
                            have n8_ := Aside0.mk ((by rw [hg]; exact Nat.ne_of_gt (blk_lt (g := gb294) (o := .cells #[.int .i64 a0_0, .int .i64 a0_1, .string a0_2] 23 (0, 0)) (by (with_reducible repeat (first | refine blk_drewN ?_ _ | refine blk_drew ?_ | refine blk_alloc ?_ _)); exact BK294.out)) : gb322 ≠ gb294))
                            have n9_ := Aside0.mk ((by rw [hg]; exact Nat.ne_of_lt (blk_lt (g := gb303) (o := .cells #[.int .i64 t300, .int .i64 t301, .string t302] 23 (0, 0)) (by (with_reducible repeat (first | refine blk_drewN ?_ _ | refine blk_drew ?_ | refine blk_alloc ?_ _)); exact BK303.out)) : gb303 ≠ gb322))
                            have n10_ := Aside0.mk ((by rw [hg]; exact Nat.ne_of_gt (blk_lt (g := gb303) (o := .cells #[.int .i64 t300, .int .i64 t301, .string t302] 23 (0, 0)) (by (with_reducible repeat (first | refine blk_drewN ?_ _ | refine blk_drew ?_ | refine blk_alloc ?_ _)); exact BK303.out)) : gb322 ≠ gb303))
                            have n11_ := Aside0.mk ((by rw [hg]; exact Nat.ne_of_lt (blk_lt (g := gb310) (o := .cells #[.int .i64 t307, .int .i64 t308, .string t309] 23 (0, 0)) (by (with_reducible repeat (first | refine blk_drewN ?_ _ | refine blk_drew ?_ | refine blk_alloc ?_ _)); exact BK310.out)) : gb310 ≠ gb322))
                            have n12_ := Aside0.mk ((by rw [hg]; exact Nat.ne_of_gt (blk_lt (g := gb310) (o := .cells #[.int .i64 t307, .int .i64 t308, .string t309] 23 (0, 0)) (by (with_reducible repeat (first | refine blk_drewN ?_ _ | refine blk_drew ?_ | refine blk_alloc ?_ _)); exact BK310.out)) : gb322 ≠ gb310))
                            clear BK294
                            clear BK303
                            clear BK310
                            clear HB
                            have BK294 := n0_
                            have BK303 := n1_
                            have BK310 := n2_
                            have HB := n3_
                            have BK322 := n4_
                            have GW322 := n5_
                            have GE322 := n6_
                            have NB294_322 := n7_
                            have NB322_294 := n8_
                            have NB303_322 := n9_
                            have NB322_303 := n10_
                            have NB310_322 := n11_
                            have NB322_310 := n12_
                            clear n0_ n1_ n2_ n3_ n4_ n5_ n6_ n7_ n8_ n9_ n10_ n11_ n12_
                            clear hb hbox hg
                            refine hK.out _ _ ⟨(blk_cell BK294.out 0).trans rfl, (blk_cell BK294.out 1).trans rfl, (blk_cell BK294.out 2).trans rfl⟩ (fun hHeld => ?_)
                            clear hK K
                            refine norm_ (a' := ?_) ?_ ?_
                            rotate_left
                            · show Act.put _ (some 6) _ = _
                              simp only [Act.put, List.setIfInBounds_toArray, List.set_cons_zero, List.set_cons_succ, i64_w, i32_w]
                              rfl
                            exact norm_ (by first | (simp only [putAll, Act.put, List.setIfInBounds_toArray, List.set_cons_zero, List.set_cons_succ]; done) | (simp only [putAll, Act.put, List.setIfInBounds_toArray, List.set_cons_zero, List.set_cons_succ]; rfl)) (hJ1_3_9 (gb322) _ ⟨hHeld, (by (with_reducible repeat (first | refine blk_drewN ?_ _ | refine blk_drew ?_ | refine blk_alloc ?_ _)); exact BK294.out), (by (with_reducible repeat (first | refine blk_drewN ?_ _ | refine blk_drew ?_ | refine blk_alloc ?_ _)); exact BK303.out), (by (with_reducible repeat (first | refine blk_drewN ?_ _ | refine blk_drew ?_ | refine blk_alloc ?_ _)); exact BK310.out), (by (with_reducible repeat (first | refine blk_drewN ?_ _ | refine blk_drew ?_ | refine blk_alloc ?_ _)); exact BK322.out), GW322.out, GE322.out, NB294_322.out, NB322_294.out, NB303_322.out, NB322_303.out, NB310_322.out, NB322_310.out, (by repeat (first | (with_reducible first | exact HB.out | apply below_alloc | apply pw_below_drewN | apply below_drew1 | refine below_set ?_ GE294.out | refine below_set ?_ GE303.out | refine below_set ?_ GE310.out | refine below_set ?_ GE322.out) | exact HB.out))⟩)
                      · skip
                        rintro gb322 w45 ⟨hS_, h0_, h1_, h2_, h3_, h4_, h5_, h6_, h7_, h8_, h9_, h10_, h11_, h12_⟩
                        have n0_ : Aside0 (w45.heap[gb294]? = some (.cells #[.int .i64 a0_0, .int .i64 a0_1, .string a0_2] 23 (0, 0))) := ⟨h0_⟩
                        have n1_ : Aside0 (w45.heap[gb303]? = some (.cells #[.int .i64 t300, .int .i64 t301, .string t302] 23 (0, 0))) := ⟨h1_⟩
                        have n2_ : Aside0 (w45.heap[gb310]? = some (.cells #[.int .i64 t307, .int .i64 t308, .string t309] 23 (0, 0))) := ⟨h2_⟩
                        have n3_ : Aside0 (w45.heap[gb322]? = some (.cells #[.int .i64 0, .int .i64 0, .string (⟨#[]⟩ : ByteArray)] 23 (0, 0))) := ⟨h3_⟩
                        have n4_ : Aside0 (w.heap.size ≤ gb322) := ⟨h4_⟩
                        have n5_ : Aside0 (w.heap.size ≤ gb322) := ⟨h5_⟩
                        have n6_ : Aside0 (gb294 ≠ gb322) := ⟨h6_⟩
                        have n7_ : Aside0 (gb322 ≠ gb294) := ⟨h7_⟩
                        have n8_ : Aside0 (gb303 ≠ gb322) := ⟨h8_⟩
                        have n9_ : Aside0 (gb322 ≠ gb303) := ⟨h9_⟩
                        have n10_ : Aside0 (gb310 ≠ gb322) := ⟨h10_⟩
                        have n11_ : Aside0 (gb322 ≠ gb310) := ⟨h11_⟩
                        have n12_ : Aside0 (Below w.heap.size w w45) := ⟨h12_⟩
                        clear BK294
                        clear BK303
                        clear BK310
                        clear HB
                        clear h0_ h1_ h2_ h3_ h4_ h5_ h6_ h7_ h8_ h9_ h10_ h11_ h12_
                        have BK294 := n0_
                        have BK303 := n1_
                        have BK310 := n2_
                        have BK322 := n3_
                        have GW322 := n4_
                        have GE322 := n5_
                        have NB294_322 := n6_
                        have NB322_294 := n7_
                        have NB303_322 := n8_
                        have NB322_303 := n9_
                        have NB310_322 := n10_
                        have NB322_310 := n11_
                        have HB := n12_
                        clear n0_ n1_ n2_ n3_ n4_ n5_ n6_ n7_ n8_ n9_ n10_ n11_ n12_
                        have hHeld : w45.cell? ⟨gb294, 0, none⟩ = some (.int .i64 a0_0) ∧ w45.cell? ⟨gb294, 1, none⟩ = some (.int .i64 a0_1) ∧ w45.cell? ⟨gb294, 2, none⟩ = some (.string a0_2) := hS_
                        refine norm_ (a' := ?_) ?_ ?_
                        rotate_left
                        · simp only [putAll, Act.put, List.setIfInBounds_toArray, List.set_cons_zero, List.set_cons_succ]
                          rfl
                        refine one_ (i := 4) (N := some 24) #[true, true, true, true, true, false, false, false, false, true, false, false] rfl rfl (one_of HT_.out (by kernel_rfl)) (by decide) (fun K hK => ?_)
                        refine goes_ Tryd.func16 (by kernel_rfl) rfl #[.int .i64 t314] (by rfl) rfl rfl (by (try simp only [List.map_toArray, List.map_cons, List.map_nil]); first | done | rfl | (simp only [List.length_drop, List.length_take]; rfl)) ?_
                        with_reducible refine (gumshoelaw06_num.calls t314 t315 t316 t317 _ A11.out).mono ?_
                        rintro e w46 ⟨rfl, hb⟩
                        refine ⟨_, rfl, ?_⟩
                        have n0_ := Aside0.mk (blk_below (g := gb294) (o := .cells #[.int .i64 a0_0, .int .i64 a0_1, .string a0_2] 23 (0, 0)) (by (with_reducible repeat (first | refine blk_drewN ?_ _ | refine blk_drew ?_ | refine blk_alloc ?_ _)); exact BK294.out) hb)
                        have n1_ := Aside0.mk (blk_below (g := gb303) (o := .cells #[.int .i64 t300, .int .i64 t301, .string t302] 23 (0, 0)) (by (with_reducible repeat (first | refine blk_drewN ?_ _ | refine blk_drew ?_ | refine blk_alloc ?_ _)); exact BK303.out) hb)
                        have n2_ := Aside0.mk (blk_below (g := gb310) (o := .cells #[.int .i64 t307, .int .i64 t308, .string t309] 23 (0, 0)) (by (with_reducible repeat (first | refine blk_drewN ?_ _ | refine blk_drew ?_ | refine blk_alloc ?_ _)); exact BK310.out) hb)
                        have n3_ := Aside0.mk (blk_below (g := gb322) (o := .cells #[.int .i64 0, .int .i64 0, .string (⟨#[]⟩ : ByteArray)] 23 (0, 0)) (by (with_reducible repeat (first | refine blk_drewN ?_ _ | refine blk_drew ?_ | refine blk_alloc ?_ _)); exact BK322.out) hb)
                        have n4_ := Aside0.mk (below_step (by repeat (first | (with_reducible first | exact HB.out | apply below_alloc | apply pw_below_drewN | apply below_drew1 | refine below_set ?_ GE294.out | refine below_set ?_ GE303.out | refine below_set ?_ GE310.out | refine below_set ?_ GE322.out) | exact HB.out)) hb)
                        clear BK294
                        clear BK303
                        clear BK310
                        clear BK322
                        clear HB
                        have BK294 := n0_
                        have BK303 := n1_
                        have BK310 := n2_
                        have BK322 := n3_
                        have HB := n4_
                        clear n0_ n1_ n2_ n3_ n4_
                        (try clear hb)
                        (try clear hb2)
                        (try clear hk)
                        (try clear hi)
                        refine hK.out _ _ ⟨(blk_cell BK294.out 0).trans rfl, (blk_cell BK294.out 1).trans rfl, (blk_cell BK294.out 2).trans rfl⟩ (fun hHeld => ?_)
                        clear hK K
                        refine norm_ (a' := ?_) ?_ ?_
                        rotate_left
                        · show Act.put _ (some 24) _ = _
                          simp only [Act.put, List.setIfInBounds_toArray, List.set_cons_zero, List.set_cons_succ, i64_w, i32_w]
                          rfl
                        exact norm_ (by first | (simp only [putAll, Act.put, List.setIfInBounds_toArray, List.set_cons_zero, List.set_cons_succ]; done) | (simp only [putAll, Act.put, List.setIfInBounds_toArray, List.set_cons_zero, List.set_cons_succ]; rfl)) (hJ1_3_4_9 (gb322) _ ⟨hHeld, (by (with_reducible repeat (first | refine blk_drewN ?_ _ | refine blk_drew ?_ | refine blk_alloc ?_ _)); exact BK294.out), (by (with_reducible repeat (first | refine blk_drewN ?_ _ | refine blk_drew ?_ | refine blk_alloc ?_ _)); exact BK303.out), (by (with_reducible repeat (first | refine blk_drewN ?_ _ | refine blk_drew ?_ | refine blk_alloc ?_ _)); exact BK310.out), (by (with_reducible repeat (first | refine blk_drewN ?_ _ | refine blk_drew ?_ | refine blk_alloc ?_ _)); exact BK322.out), GW322.out, GE322.out, NB294_322.out, NB322_294.out, NB303_322.out, NB322_303.out, NB310_322.out, NB322_310.out, (by repeat (first | (with_reducible first | exact HB.out | apply below_alloc | apply pw_below_drewN | apply below_drew1 | refine below_set ?_ GE294.out | refine below_set ?_ GE303.out | refine below_set ?_ GE310.out | refine below_set ?_ GE322.out) | exact HB.out))⟩)
                    · skip
                      rintro _ w45 ⟨hS_, h0_, h1_, h2_, h3_⟩
                      have n0_ : Aside0 (w45.heap[gb294]? = some (.cells #[.int .i64 a0_0, .int .i64 a0_1, .string a0_2] 23 (0, 0))) := ⟨h0_⟩
                      have n1_ : Aside0 (w45.heap[gb303]? = some (.cells #[.int .i64 t300, .int .i64 t301, .string t302] 23 (0, 0))) := ⟨h1_⟩
                      have n2_ : Aside0 (w45.heap[gb310]? = some (.cells #[.int .i64 t307, .int .i64 t308, .string t309] 23 (0, 0))) := ⟨h2_⟩
                      have n3_ : Aside0 (Below w.heap.size w w45) := ⟨h3_⟩
                      clear BK294
                      clear BK303
                      clear BK310
                      clear HB
                      clear h0_ h1_ h2_ h3_
                      have BK294 := n0_
                      have BK303 := n1_
                      have BK310 := n2_
                      have HB := n3_
                      clear n0_ n1_ n2_ n3_
                      have hHeld : w45.cell? ⟨gb294, 0, none⟩ = some (.int .i64 a0_0) ∧ w45.cell? ⟨gb294, 1, none⟩ = some (.int .i64 a0_1) ∧ w45.cell? ⟨gb294, 2, none⟩ = some (.string a0_2) := hS_
                      refine norm_ (a' := ?_) ?_ ?_
                      rotate_left
                      · simp only [putAll, Act.put, List.setIfInBounds_toArray, List.set_cons_zero, List.set_cons_succ]
                        rfl
                      refine two_ (i := 5) (j := 9) (Ni := some 25) (Nj := some 6) #[true, true, true, true, true, true, false, false, false, false, false, false] #[true, true, true, true, true, false, false, false, false, true, false, false] rfl rfl rfl rfl (two_of HT_.out (by kernel_rfl)) (by decide) (by decide) (fun K hK => ?_) (fun K hK => ?_)
                      · skip
                        refine goes_ Tryd.func13 (by kernel_rfl) rfl #[.string (⟨#[43]⟩ : ByteArray), .agg #[.int .i64 t311, .int .i64 t312, .string t313], .agg #[.int .i64 t315, .int .i64 t316, .string t317]] (by rfl) rfl rfl (by (try simp only [List.map_toArray, List.map_cons, List.map_nil]); first | done | rfl | (simp only [List.length_drop, List.length_take]; rfl)) ?_
                        with_reducible refine (value_Two.calls (hL := ?sideL) (⟨#[43]⟩ : ByteArray) t311 t312 t313 t315 t316 t317 t318 t319 t320 t321 _ A12.out).mono ?_
                        (case sideL => exact Laid.below HL.out (by repeat (first | (with_reducible first | exact HB.out | apply below_alloc | apply pw_below_drewN | apply below_drew1 | refine below_set ?_ GE294.out | refine below_set ?_ GE303.out | refine below_set ?_ GE310.out) | exact HB.out)))
                        rintro e w46 ⟨rfl, hb⟩
                        refine ⟨_, rfl, ?_⟩
                        have n0_ := Aside0.mk (blk_below (g := gb294) (o := .cells #[.int .i64 a0_0, .int .i64 a0_1, .string a0_2] 23 (0, 0)) (by (with_reducible repeat (first | refine blk_drewN ?_ _ | refine blk_drew ?_ | refine blk_alloc ?_ _)); exact BK294.out) hb)
                        have n1_ := Aside0.mk (blk_below (g := gb303) (o := .cells #[.int .i64 t300, .int .i64 t301, .string t302] 23 (0, 0)) (by (with_reducible repeat (first | refine blk_drewN ?_ _ | refine blk_drew ?_ | refine blk_alloc ?_ _)); exact BK303.out) hb)
                        have n2_ := Aside0.mk (blk_below (g := gb310) (o := .cells #[.int .i64 t307, .int .i64 t308, .string t309] 23 (0, 0)) (by (with_reducible repeat (first | refine blk_drewN ?_ _ | refine blk_drew ?_ | refine blk_alloc ?_ _)); exact BK310.out) hb)
                        have n3_ := Aside0.mk (below_step (by repeat (first | (with_reducible first | exact HB.out | apply below_alloc | apply pw_below_drewN | apply below_drew1 | refine below_set ?_ GE294.out | refine below_set ?_ GE303.out | refine below_set ?_ GE310.out) | exact HB.out)) hb)
                        clear BK294
                        clear BK303
                        clear BK310
                        clear HB
                        have BK294 := n0_
                        have BK303 := n1_
                        have BK310 := n2_
                        have HB := n3_
                        clear n0_ n1_ n2_ n3_
                        (try clear hb)
                        (try clear hb2)
                        (try clear hk)
                        (try clear hi)
                        refine hK.out _ _ ⟨(blk_cell BK294.out 0).trans rfl, (blk_cell BK294.out 1).trans rfl, (blk_cell BK294.out 2).trans rfl⟩ (fun hHeld => ?_)
                        clear hK K
                        refine norm_ (a' := ?_) ?_ ?_
                        rotate_left
                        · show Act.put _ (some 25) _ = _
                          simp only [Act.put, List.setIfInBounds_toArray, List.set_cons_zero, List.set_cons_succ, i64_w, i32_w]
                          rfl
                        refine pure_ (i := 6) (N := some 19) (v := ?_) (a' := ?_) #[true, true, true, true, true, true, true, false, false, false, false, false] rfl rfl (any_of HT_.out (by kernel_rfl)) (fun _ _ _ h => h) (Or.inl ⟨by rfl, ?_⟩) ?_ ?_
                        rotate_left
                        · intro w'
                          go_simp
                          with_reducible rfl
                        rotate_left
                        · simp only [Act.put, List.setIfInBounds_toArray, List.set_cons_zero, List.set_cons_succ, i64_w, i32_w]
                          rfl
                        refine pure_ (i := 7) (N := some 26) (v := ?_) (a' := ?_) #[true, true, true, true, true, true, true, true, false, false, false, false] rfl rfl (any_of HT_.out (by kernel_rfl)) (fun _ _ _ h => h) (Or.inl ⟨by rfl, ?_⟩) ?_ ?_
                        rotate_left
                        · intro w'
                          go_simp
                          with_reducible rfl
                        rotate_left
                        · simp only [Act.put, List.setIfInBounds_toArray, List.set_cons_zero, List.set_cons_succ, i64_w, i32_w]
                          rfl
                        refine pure_ (i := 8) (N := some 27) (v := ?_) (a' := ?_) #[true, true, true, true, true, true, true, true, true, false, false, false] rfl rfl (any_of HT_.out (by kernel_rfl)) (fun _ _ _ h => h) (Or.inl ⟨by rfl, ?_⟩) ?_ ?_
                        rotate_left
                        · intro w'
                          go_simp
                          with_reducible rfl
                        rotate_left
                        · simp only [Act.put, List.setIfInBounds_toArray, List.set_cons_zero, List.set_cons_succ, i64_w, i32_w]
                          rfl
                        exact norm_ (by first | (simp only [putAll, Act.put, List.setIfInBounds_toArray, List.set_cons_zero, List.set_cons_succ]; done) | (simp only [putAll, Act.put, List.setIfInBounds_toArray, List.set_cons_zero, List.set_cons_succ]; rfl)) (hJ1_3_4_5 () _ ⟨hHeld, (by (with_reducible repeat (first | refine blk_drewN ?_ _ | refine blk_drew ?_ | refine blk_alloc ?_ _)); exact BK294.out), (by (with_reducible repeat (first | refine blk_drewN ?_ _ | refine blk_drew ?_ | refine blk_alloc ?_ _)); exact BK303.out), (by (with_reducible repeat (first | refine blk_drewN ?_ _ | refine blk_drew ?_ | refine blk_alloc ?_ _)); exact BK310.out), (by repeat (first | (with_reducible first | exact HB.out | apply below_alloc | apply pw_below_drewN | apply below_drew1 | refine below_set ?_ GE294.out | refine below_set ?_ GE303.out | refine below_set ?_ GE310.out) | exact HB.out))⟩)
                      · skip
                        refine box_step ?hg (N := 6) ?hd (cs := #[.int .i64 0, .int .i64 0, .string (⟨#[]⟩ : ByteArray)]) (t := 23) ?hr ?_; (case hd => rfl); (case hg => rfl); (case hr => first | (go_simp; done) | (go_simp; rfl))
                        intro gb322 hg w46 hbox hb
                        have n0_ := Aside0.mk (blk_below (g := gb294) (o := .cells #[.int .i64 a0_0, .int .i64 a0_1, .string a0_2] 23 (0, 0)) (by (with_reducible repeat (first | refine blk_drewN ?_ _ | refine blk_drew ?_ | refine blk_alloc ?_ _)); exact BK294.out) hb)
                        have n1_ := Aside0.mk (blk_below (g := gb303) (o := .cells #[.int .i64 t300, .int .i64 t301, .string t302] 23 (0, 0)) (by (with_reducible repeat (first | refine blk_drewN ?_ _ | refine blk_drew ?_ | refine blk_alloc ?_ _)); exact BK303.out) hb)
                        have n2_ := Aside0.mk (blk_below (g := gb310) (o := .cells #[.int .i64 t307, .int .i64 t308, .string t309] 23 (0, 0)) (by (with_reducible repeat (first | refine blk_drewN ?_ _ | refine blk_drew ?_ | refine blk_alloc ?_ _)); exact BK310.out) hb)
                        have n3_ := Aside0.mk (below_step (by repeat (first | (with_reducible first | exact HB.out | apply below_alloc | apply pw_below_drewN | apply below_drew1 | refine below_set ?_ GE294.out | refine below_set ?_ GE303.out | refine below_set ?_ GE310.out) | exact HB.out)) hb)
                        have n4_ := Aside0.mk (hbox)
                        have n5_ := Aside0.mk ((by rw [hg]; exact (below_size (by repeat (first | (with_reducible first | exact HB.out | apply below_alloc | apply pw_below_drewN | apply below_drew1 | refine below_set ?_ GE294.out | refine below_set ?_ GE303.out | refine below_set ?_ GE310.out) | exact HB.out))) : w.heap.size ≤ gb322))
                        have n6_ := Aside0.mk ((by rw [hg]; exact (below_size (by repeat (first | (with_reducible first | exact HB.out | apply below_alloc | apply pw_below_drewN | apply below_drew1 | refine below_set ?_ GE294.out | refine below_set ?_ GE303.out | refine below_set ?_ GE310.out) | exact HB.out))) : w.heap.size ≤ gb322))
                        have n7_ := Aside0.mk ((by rw [hg]; exact Nat.ne_of_lt (blk_lt (g := gb294) (o := .cells #[.int .i64 a0_0, .int .i64 a0_1, .string a0_2] 23 (0, 0)) (by (with_reducible repeat (first | refine blk_drewN ?_ _ | refine blk_drew ?_ | refine blk_alloc ?_ _)); exact BK294.out)) : gb294 ≠ gb322))
                        have n8_ := Aside0.mk ((by rw [hg]; exact Nat.ne_of_gt (blk_lt (g := gb294) (o := .cells #[.int .i64 a0_0, .int .i64 a0_1, .string a0_2] 23 (0, 0)) (by (with_reducible repeat (first | refine blk_drewN ?_ _ | refine blk_drew ?_ | refine blk_alloc ?_ _)); exact BK294.out)) : gb322 ≠ gb294))
                        have n9_ := Aside0.mk ((by rw [hg]; exact Nat.ne_of_lt (blk_lt (g := gb303) (o := .cells #[.int .i64 t300, .int .i64 t301, .string t302] 23 (0, 0)) (by (with_reducible repeat (first | refine blk_drewN ?_ _ | refine blk_drew ?_ | refine blk_alloc ?_ _)); exact BK303.out)) : gb303 ≠ gb322))
                        have n10_ := Aside0.mk ((by rw [hg]; exact Nat.ne_of_gt (blk_lt (g := gb303) (o := .cells #[.int .i64 t300, .int .i64 t301, .string t302] 23 (0, 0)) (by (with_reducible repeat (first | refine blk_drewN ?_ _ | refine blk_drew ?_ | refine blk_alloc ?_ _)); exact BK303.out)) : gb322 ≠ gb303))
                        have n11_ := Aside0.mk ((by rw [hg]; exact Nat.ne_of_lt (blk_lt (g := gb310) (o := .cells #[.int .i64 t307, .int .i64 t308, .string t309] 23 (0, 0)) (by (with_reducible repeat (first | refine blk_drewN ?_ _ | refine blk_drew ?_ | refine blk_alloc ?_ _)); exact BK310.out)) : gb310 ≠ gb322))
                        have n12_ := Aside0.mk ((by rw [hg]; exact Nat.ne_of_gt (blk_lt (g := gb310) (o := .cells #[.int .i64 t307, .int .i64 t308, .string t309] 23 (0, 0)) (by (with_reducible repeat (first | refine blk_drewN ?_ _ | refine blk_drew ?_ | refine blk_alloc ?_ _)); exact BK310.out)) : gb322 ≠ gb310))
                        clear BK294
                        clear BK303
                        clear BK310
                        clear HB
                        have BK294 := n0_
                        have BK303 := n1_
                        have BK310 := n2_
                        have HB := n3_
                        have BK322 := n4_
                        have GW322 := n5_
                        have GE322 := n6_
                        have NB294_322 := n7_
                        have NB322_294 := n8_
                        have NB303_322 := n9_
                        have NB322_303 := n10_
                        have NB310_322 := n11_
                        have NB322_310 := n12_
                        clear n0_ n1_ n2_ n3_ n4_ n5_ n6_ n7_ n8_ n9_ n10_ n11_ n12_
                        clear hb hbox hg
                        refine hK.out _ _ ⟨(blk_cell BK294.out 0).trans rfl, (blk_cell BK294.out 1).trans rfl, (blk_cell BK294.out 2).trans rfl⟩ (fun hHeld => ?_)
                        clear hK K
                        refine norm_ (a' := ?_) ?_ ?_
                        rotate_left
                        · show Act.put _ (some 6) _ = _
                          simp only [Act.put, List.setIfInBounds_toArray, List.set_cons_zero, List.set_cons_succ, i64_w, i32_w]
                          rfl
                        exact norm_ (by first | (simp only [putAll, Act.put, List.setIfInBounds_toArray, List.set_cons_zero, List.set_cons_succ]; done) | (simp only [putAll, Act.put, List.setIfInBounds_toArray, List.set_cons_zero, List.set_cons_succ]; rfl)) (hJ1_3_4_9 (gb322) _ ⟨hHeld, (by (with_reducible repeat (first | refine blk_drewN ?_ _ | refine blk_drew ?_ | refine blk_alloc ?_ _)); exact BK294.out), (by (with_reducible repeat (first | refine blk_drewN ?_ _ | refine blk_drew ?_ | refine blk_alloc ?_ _)); exact BK303.out), (by (with_reducible repeat (first | refine blk_drewN ?_ _ | refine blk_drew ?_ | refine blk_alloc ?_ _)); exact BK310.out), (by (with_reducible repeat (first | refine blk_drewN ?_ _ | refine blk_drew ?_ | refine blk_alloc ?_ _)); exact BK322.out), GW322.out, GE322.out, NB294_322.out, NB322_294.out, NB303_322.out, NB322_303.out, NB310_322.out, NB322_310.out, (by repeat (first | (with_reducible first | exact HB.out | apply below_alloc | apply pw_below_drewN | apply below_drew1 | refine below_set ?_ GE294.out | refine below_set ?_ GE303.out | refine below_set ?_ GE310.out | refine below_set ?_ GE322.out) | exact HB.out))⟩)
                  · skip
                    rintro gb322 w46 ⟨hS_, h0_, h1_, h2_, h3_, h4_, h5_, h6_, h7_, h8_, h9_, h10_, h11_, h12_⟩
                    have n0_ : Aside0 (w46.heap[gb294]? = some (.cells #[.int .i64 a0_0, .int .i64 a0_1, .string a0_2] 23 (0, 0))) := ⟨h0_⟩
                    have n1_ : Aside0 (w46.heap[gb303]? = some (.cells #[.int .i64 t300, .int .i64 t301, .string t302] 23 (0, 0))) := ⟨h1_⟩
                    have n2_ : Aside0 (w46.heap[gb310]? = some (.cells #[.int .i64 t307, .int .i64 t308, .string t309] 23 (0, 0))) := ⟨h2_⟩
                    have n3_ : Aside0 (w46.heap[gb322]? = some (.cells #[.int .i64 0, .int .i64 0, .string (⟨#[]⟩ : ByteArray)] 23 (0, 0))) := ⟨h3_⟩
                    have n4_ : Aside0 (w.heap.size ≤ gb322) := ⟨h4_⟩
                    have n5_ : Aside0 (w.heap.size ≤ gb322) := ⟨h5_⟩
                    have n6_ : Aside0 (gb294 ≠ gb322) := ⟨h6_⟩
                    have n7_ : Aside0 (gb322 ≠ gb294) := ⟨h7_⟩
                    have n8_ : Aside0 (gb303 ≠ gb322) := ⟨h8_⟩
                    have n9_ : Aside0 (gb322 ≠ gb303) := ⟨h9_⟩
                    have n10_ : Aside0 (gb310 ≠ gb322) := ⟨h10_⟩
                    have n11_ : Aside0 (gb322 ≠ gb310) := ⟨h11_⟩
                    have n12_ : Aside0 (Below w.heap.size w w46) := ⟨h12_⟩
                    clear BK294
                    clear BK303
                    clear BK310
                    clear HB
                    clear h0_ h1_ h2_ h3_ h4_ h5_ h6_ h7_ h8_ h9_ h10_ h11_ h12_
                    have BK294 := n0_
                    have BK303 := n1_
                    have BK310 := n2_
                    have BK322 := n3_
                    have GW322 := n4_
                    have GE322 := n5_
                    have NB294_322 := n6_
                    have NB322_294 := n7_
                    have NB303_322 := n8_
                    have NB322_303 := n9_
                    have NB310_322 := n10_
                    have NB322_310 := n11_
                    have HB := n12_
                    clear n0_ n1_ n2_ n3_ n4_ n5_ n6_ n7_ n8_ n9_ n10_ n11_ n12_
                    have hHeld : w46.cell? ⟨gb294, 0, none⟩ = some (.int .i64 a0_0) ∧ w46.cell? ⟨gb294, 1, none⟩ = some (.int .i64 a0_1) ∧ w46.cell? ⟨gb294, 2, none⟩ = some (.string a0_2) := hS_
                    refine norm_ (a' := ?_) ?_ ?_
                    rotate_left
                    · simp only [putAll, Act.put, List.setIfInBounds_toArray, List.set_cons_zero, List.set_cons_succ]
                      rfl
                    refine one_ (i := 5) (N := some 25) #[true, true, true, true, true, true, false, false, false, true, false, false] rfl rfl (one_of HT_.out (by kernel_rfl)) (by decide) (fun K hK => ?_)
                    refine goes_ Tryd.func13 (by kernel_rfl) rfl #[.string (⟨#[43]⟩ : ByteArray), .agg #[.int .i64 t311, .int .i64 t312, .string t313], .agg #[.int .i64 t315, .int .i64 t316, .string t317]] (by rfl) rfl rfl (by (try simp only [List.map_toArray, List.map_cons, List.map_nil]); first | done | rfl | (simp only [List.length_drop, List.length_take]; rfl)) ?_
                    with_reducible refine (value_Two.calls (hL := ?sideL) (⟨#[43]⟩ : ByteArray) t311 t312 t313 t315 t316 t317 t318 t319 t320 t321 _ A12.out).mono ?_
                    (case sideL => exact Laid.below HL.out (by repeat (first | (with_reducible first | exact HB.out | apply below_alloc | apply pw_below_drewN | apply below_drew1 | refine below_set ?_ GE294.out | refine below_set ?_ GE303.out | refine below_set ?_ GE310.out | refine below_set ?_ GE322.out) | exact HB.out)))
                    rintro e w47 ⟨rfl, hb⟩
                    refine ⟨_, rfl, ?_⟩
                    have n0_ := Aside0.mk (blk_below (g := gb294) (o := .cells #[.int .i64 a0_0, .int .i64 a0_1, .string a0_2] 23 (0, 0)) (by (with_reducible repeat (first | refine blk_drewN ?_ _ | refine blk_drew ?_ | refine blk_alloc ?_ _)); exact BK294.out) hb)
                    have n1_ := Aside0.mk (blk_below (g := gb303) (o := .cells #[.int .i64 t300, .int .i64 t301, .string t302] 23 (0, 0)) (by (with_reducible repeat (first | refine blk_drewN ?_ _ | refine blk_drew ?_ | refine blk_alloc ?_ _)); exact BK303.out) hb)
                    have n2_ := Aside0.mk (blk_below (g := gb310) (o := .cells #[.int .i64 t307, .int .i64 t308, .string t309] 23 (0, 0)) (by (with_reducible repeat (first | refine blk_drewN ?_ _ | refine blk_drew ?_ | refine blk_alloc ?_ _)); exact BK310.out) hb)
                    have n3_ := Aside0.mk (blk_below (g := gb322) (o := .cells #[.int .i64 0, .int .i64 0, .string (⟨#[]⟩ : ByteArray)] 23 (0, 0)) (by (with_reducible repeat (first | refine blk_drewN ?_ _ | refine blk_drew ?_ | refine blk_alloc ?_ _)); exact BK322.out) hb)
                    have n4_ := Aside0.mk (below_step (by repeat (first | (with_reducible first | exact HB.out | apply below_alloc | apply pw_below_drewN | apply below_drew1 | refine below_set ?_ GE294.out | refine below_set ?_ GE303.out | refine below_set ?_ GE310.out | refine below_set ?_ GE322.out) | exact HB.out)) hb)
                    clear BK294
                    clear BK303
                    clear BK310
                    clear BK322
                    clear HB
                    have BK294 := n0_
                    have BK303 := n1_
                    have BK310 := n2_
                    have BK322 := n3_
                    have HB := n4_
                    clear n0_ n1_ n2_ n3_ n4_
                    (try clear hb)
                    (try clear hb2)
                    (try clear hk)
                    (try clear hi)
                    refine hK.out _ _ ⟨(blk_cell BK294.out 0).trans rfl, (blk_cell BK294.out 1).trans rfl, (blk_cell BK294.out 2).trans rfl⟩ (fun hHeld => ?_)
                    clear hK K
                    refine norm_ (a' := ?_) ?_ ?_
                    rotate_left
                    · show Act.put _ (some 25) _ = _
                      simp only [Act.put, List.setIfInBounds_toArray, List.set_cons_zero, List.set_cons_succ, i64_w, i32_w]
                      rfl
                    refine pure_ (i := 6) (N := some 19) (v := ?_) (a' := ?_) #[true, true, true, true, true, true, true, false, false, true, false, false] rfl rfl (any_of HT_.out (by kernel_rfl)) (fun _ _ _ h => h) (Or.inl ⟨by rfl, ?_⟩) ?_ ?_
                    rotate_left
                    · intro w'
                      go_simp
                      with_reducible rfl
                    rotate_left
                    · simp only [Act.put, List.setIfInBounds_toArray, List.set_cons_zero, List.set_cons_succ, i64_w, i32_w]
                      rfl
                    refine pure_ (i := 7) (N := some 26) (v := ?_) (a' := ?_) #[true, true, true, true, true, true, true, true, false, true, false, false] rfl rfl (any_of HT_.out (by kernel_rfl)) (fun _ _ _ h => h) (Or.inl ⟨by rfl, ?_⟩) ?_ ?_
                    rotate_left
                    · intro w'
                      go_simp
                      with_reducible rfl
                    rotate_left
                    · simp only [Act.put, List.setIfInBounds_toArray, List.set_cons_zero, List.set_cons_succ, i64_w, i32_w]
                      rfl
                    refine pure_ (i := 8) (N := some 27) (v := ?_) (a' := ?_) #[true, true, true, true, true, true, true, true, true, true, false, false] rfl rfl (any_of HT_.out (by kernel_rfl)) (fun _ _ _ h => h) (Or.inl ⟨by rfl, ?_⟩) ?_ ?_
                    rotate_left
                    · intro w'
                      go_simp
                      with_reducible rfl
                    rotate_left
                    · simp only [Act.put, List.setIfInBounds_toArray, List.set_cons_zero, List.set_cons_succ, i64_w, i32_w]
                      rfl
                    exact norm_ (by first | (simp only [putAll, Act.put, List.setIfInBounds_toArray, List.set_cons_zero, List.set_cons_succ]; done) | (simp only [putAll, Act.put, List.setIfInBounds_toArray, List.set_cons_zero, List.set_cons_succ]; rfl)) (hJ1_3_4_5_9 (gb322) _ ⟨hHeld, (by (with_reducible repeat (first | refine blk_drewN ?_ _ | refine blk_drew ?_ | refine blk_alloc ?_ _)); exact BK294.out), (by (with_reducible repeat (first | refine blk_drewN ?_ _ | refine blk_drew ?_ | refine blk_alloc ?_ _)); exact BK303.out), (by (with_reducible repeat (first | refine blk_drewN ?_ _ | refine blk_drew ?_ | refine blk_alloc ?_ _)); exact BK310.out), (by (with_reducible repeat (first | refine blk_drewN ?_ _ | refine blk_drew ?_ | refine blk_alloc ?_ _)); exact BK322.out), GW322.out, GE322.out, NB294_322.out, NB322_294.out, NB303_322.out, NB322_303.out, NB310_322.out, NB322_310.out, (by repeat (first | (with_reducible first | exact HB.out | apply below_alloc | apply pw_below_drewN | apply below_drew1 | refine below_set ?_ GE294.out | refine below_set ?_ GE303.out | refine below_set ?_ GE310.out | refine below_set ?_ GE322.out) | exact HB.out))⟩)
                · skip
                  rintro _ w46 ⟨hS_, h0_, h1_, h2_, h3_⟩
                  have n0_ : Aside0 (w46.heap[gb294]? = some (.cells #[.int .i64 a0_0, .int .i64 a0_1, .string a0_2] 23 (0, 0))) := ⟨h0_⟩
                  have n1_ : Aside0 (w46.heap[gb303]? = some (.cells #[.int .i64 t300, .int .i64 t301, .string t302] 23 (0, 0))) := ⟨h1_⟩
                  have n2_ : Aside0 (w46.heap[gb310]? = some (.cells #[.int .i64 t307, .int .i64 t308, .string t309] 23 (0, 0))) := ⟨h2_⟩
                  have n3_ : Aside0 (Below w.heap.size w w46) := ⟨h3_⟩
                  clear BK294
                  clear BK303
                  clear BK310
                  clear HB
                  clear h0_ h1_ h2_ h3_
                  have BK294 := n0_
                  have BK303 := n1_
                  have BK310 := n2_
                  have HB := n3_
                  clear n0_ n1_ n2_ n3_
                  have hHeld : w46.cell? ⟨gb294, 0, none⟩ = some (.int .i64 a0_0) ∧ w46.cell? ⟨gb294, 1, none⟩ = some (.int .i64 a0_1) ∧ w46.cell? ⟨gb294, 2, none⟩ = some (.string a0_2) := hS_
                  refine norm_ (a' := ?_) ?_ ?_
                  rotate_left
                  · simp only [putAll, Act.put, List.setIfInBounds_toArray, List.set_cons_zero, List.set_cons_succ]
                    rfl
                  refine one_ (i := 9) (N := some 6) #[true, true, true, true, true, true, true, true, true, true, false, false] rfl rfl (one_of HT_.out (by kernel_rfl)) (by decide) (fun K hK => ?_)
                  refine box_step ?hg (N := 6) ?hd (cs := #[.int .i64 0, .int .i64 0, .string (⟨#[]⟩ : ByteArray)]) (t := 23) ?hr ?_; (case hd => rfl); (case hg => rfl); (case hr => first | (go_simp; done) | (go_simp; rfl))
                  intro gb322 hg w47 hbox hb
                  have n0_ := Aside0.mk (blk_below (g := gb294) (o := .cells #[.int .i64 a0_0, .int .i64 a0_1, .string a0_2] 23 (0, 0)) (by (with_reducible repeat (first | refine blk_drewN ?_ _ | refine blk_drew ?_ | refine blk_alloc ?_ _)); exact BK294.out) hb)
                  have n1_ := Aside0.mk (blk_below (g := gb303) (o := .cells #[.int .i64 t300, .int .i64 t301, .string t302] 23 (0, 0)) (by (with_reducible repeat (first | refine blk_drewN ?_ _ | refine blk_drew ?_ | refine blk_alloc ?_ _)); exact BK303.out) hb)
                  have n2_ := Aside0.mk (blk_below (g := gb310) (o := .cells #[.int .i64 t307, .int .i64 t308, .string t309] 23 (0, 0)) (by (with_reducible repeat (first | refine blk_drewN ?_ _ | refine blk_drew ?_ | refine blk_alloc ?_ _)); exact BK310.out) hb)
                  have n3_ := Aside0.mk (below_step (by repeat (first | (with_reducible first | exact HB.out | apply below_alloc | apply pw_below_drewN | apply below_drew1 | refine below_set ?_ GE294.out | refine below_set ?_ GE303.out | refine below_set ?_ GE310.out) | exact HB.out)) hb)
                  have n4_ := Aside0.mk (hbox)
                  have n5_ := Aside0.mk ((by rw [hg]; exact (below_size (by repeat (first | (with_reducible first | exact HB.out | apply below_alloc | apply pw_below_drewN | apply below_drew1 | refine below_set ?_ GE294.out | refine below_set ?_ GE303.out | refine below_set ?_ GE310.out) | exact HB.out))) : w.heap.size ≤ gb322))
                  have n6_ := Aside0.mk ((by rw [hg]; exact (below_size (by repeat (first | (with_reducible first | exact HB.out | apply below_alloc | apply pw_below_drewN | apply below_drew1 | refine below_set ?_ GE294.out | refine below_set ?_ GE303.out | refine below_set ?_ GE310.out) | exact HB.out))) : w.heap.size ≤ gb322))
                  have n7_ := Aside0.mk ((by rw [hg]; exact Nat.ne_of_lt (blk_lt (g := gb294) (o := .cells #[.int .i64 a0_0, .int .i64 a0_1, .string a0_2] 23 (0, 0)) (by (with_reducible repeat (first | refine blk_drewN ?_ _ | refine blk_drew ?_ | refine blk_alloc ?_ _)); exact BK294.out)) : gb294 ≠ gb322))
                  have n8_ := Aside0.mk ((by rw [hg]; exact Nat.ne_of_gt (blk_lt (g := gb294) (o := .cells #[.int .i64 a0_0, .int .i64 a0_1, .string a0_2] 23 (0, 0)) (by (with_reducible repeat (first | refine blk_drewN ?_ _ | refine blk_drew ?_ | refine blk_alloc ?_ _)); exact BK294.out)) : gb322 ≠ gb294))
                  have n9_ := Aside0.mk ((by rw [hg]; exact Nat.ne_of_lt (blk_lt (g := gb303) (o := .cells #[.int .i64 t300, .int .i64 t301, .string t302] 23 (0, 0)) (by (with_reducible repeat (first | refine blk_drewN ?_ _ | refine blk_drew ?_ | refine blk_alloc ?_ _)); exact BK303.out)) : gb303 ≠ gb322))
                  have n10_ := Aside0.mk ((by rw [hg]; exact Nat.ne_of_gt (blk_lt (g := gb303) (o := .cells #[.int .i64 t300, .int .i64 t301, .string t302] 23 (0, 0)) (by (with_reducible repeat (first | refine blk_drewN ?_ _ | refine blk_drew ?_ | refine blk_alloc ?_ _)); exact BK303.out)) : gb322 ≠ gb303))
                  have n11_ := Aside0.mk ((by rw [hg]; exact Nat.ne_of_lt (blk_lt (g := gb310) (o := .cells #[.int .i64 t307, .int .i64 t308, .string t309] 23 (0, 0)) (by (with_reducible repeat (first | refine blk_drewN ?_ _ | refine blk_drew ?_ | refine blk_alloc ?_ _)); exact BK310.out)) : gb310 ≠ gb322))
                  have n12_ := Aside0.mk ((by rw [hg]; exact Nat.ne_of_gt (blk_lt (g := gb310) (o := .cells #[.int .i64 t307, .int .i64 t308, .string t309] 23 (0, 0)) (by (with_reducible repeat (first | refine blk_drewN ?_ _ | refine blk_drew ?_ | refine blk_alloc ?_ _)); exact BK310.out)) : gb322 ≠ gb310))
                  clear BK294
                  clear BK303
                  clear BK310
                  clear HB
                  have BK294 := n0_
                  have BK303 := n1_
                  have BK310 := n2_
                  have HB := n3_
                  have BK322 := n4_
                  have GW322 := n5_
                  have GE322 := n6_
                  have NB294_322 := n7_
                  have NB322_294 := n8_
                  have NB303_322 := n9_
                  have NB322_303 := n10_
                  have NB310_322 := n11_
                  have NB322_310 := n12_
                  clear n0_ n1_ n2_ n3_ n4_ n5_ n6_ n7_ n8_ n9_ n10_ n11_ n12_
                  clear hb hbox hg
                  refine hK.out _ _ ⟨(blk_cell BK294.out 0).trans rfl, (blk_cell BK294.out 1).trans rfl, (blk_cell BK294.out 2).trans rfl⟩ (fun hHeld => ?_)
                  clear hK K
                  refine norm_ (a' := ?_) ?_ ?_
                  rotate_left
                  · show Act.put _ (some 6) _ = _
                    simp only [Act.put, List.setIfInBounds_toArray, List.set_cons_zero, List.set_cons_succ, i64_w, i32_w]
                    rfl
                  exact norm_ (by first | (simp only [putAll, Act.put, List.setIfInBounds_toArray, List.set_cons_zero, List.set_cons_succ]; done) | (simp only [putAll, Act.put, List.setIfInBounds_toArray, List.set_cons_zero, List.set_cons_succ]; rfl)) (hJ1_3_4_5_9 (gb322) _ ⟨hHeld, (by (with_reducible repeat (first | refine blk_drewN ?_ _ | refine blk_drew ?_ | refine blk_alloc ?_ _)); exact BK294.out), (by (with_reducible repeat (first | refine blk_drewN ?_ _ | refine blk_drew ?_ | refine blk_alloc ?_ _)); exact BK303.out), (by (with_reducible repeat (first | refine blk_drewN ?_ _ | refine blk_drew ?_ | refine blk_alloc ?_ _)); exact BK310.out), (by (with_reducible repeat (first | refine blk_drewN ?_ _ | refine blk_drew ?_ | refine blk_alloc ?_ _)); exact BK322.out), GW322.out, GE322.out, NB294_322.out, NB322_294.out, NB303_322.out, NB322_303.out, NB310_322.out, NB322_310.out, (by repeat (first | (with_reducible first | exact HB.out | apply below_alloc | apply pw_below_drewN | apply below_drew1 | refine below_set ?_ GE294.out | refine below_set ?_ GE303.out | refine below_set ?_ GE310.out | refine below_set ?_ GE322.out) | exact HB.out))⟩)
              rintro gb322 w47 ⟨hS_, h0_, h1_, h2_, h3_, h4_, h5_, h6_, h7_, h8_, h9_, h10_, h11_, h12_⟩
              have n0_ : Aside0 (w47.heap[gb294]? = some (.cells #[.int .i64 a0_0, .int .i64 a0_1, .string a0_2] 23 (0, 0))) := ⟨h0_⟩
              have n1_ : Aside0 (w47.heap[gb303]? = some (.cells #[.int .i64 t300, .int .i64 t301, .string t302] 23 (0, 0))) := ⟨h1_⟩
              have n2_ : Aside0 (w47.heap[gb310]? = some (.cells #[.int .i64 t307, .int .i64 t308, .string t309] 23 (0, 0))) := ⟨h2_⟩
              have n3_ : Aside0 (w47.heap[gb322]? = some (.cells #[.int .i64 0, .int .i64 0, .string (⟨#[]⟩ : ByteArray)] 23 (0, 0))) := ⟨h3_⟩
              have n4_ : Aside0 (w.heap.size ≤ gb322) := ⟨h4_⟩
              have n5_ : Aside0 (w.heap.size ≤ gb322) := ⟨h5_⟩
              have n6_ : Aside0 (gb294 ≠ gb322) := ⟨h6_⟩
              have n7_ : Aside0 (gb322 ≠ gb294) := ⟨h7_⟩
              have n8_ : Aside0 (gb303 ≠ gb322) := ⟨h8_⟩
              have n9_ : Aside0 (gb322 ≠ gb303) := ⟨h9_⟩
              have n10_ : Aside0 (gb310 ≠ gb322) := ⟨h10_⟩
              have n11_ : Aside0 (gb322 ≠ gb310) := ⟨h11_⟩
              have n12_ : Aside0 (Below w.heap.size w w47) := ⟨h12_⟩
              clear BK294
              clear BK303
              clear BK310
              clear HB
              clear h0_ h1_ h2_ h3_ h4_ h5_ h6_ h7_ h8_ h9_ h10_ h11_ h12_
              have BK294 := n0_
              have BK303 := n1_
              have BK310 := n2_
              have BK322 := n3_
              have GW322 := n4_
              have GE322 := n5_
              have NB294_322 := n6_
              have NB322_294 := n7_
              have NB303_322 := n8_
              have NB322_303 := n9_
              have NB310_322 := n10_
              have NB322_310 := n11_
              have HB := n12_
              clear n0_ n1_ n2_ n3_ n4_ n5_ n6_ n7_ n8_ n9_ n10_ n11_ n12_
              have hHeld : w47.cell? ⟨gb294, 0, none⟩ = some (.int .i64 a0_0) ∧ w47.cell? ⟨gb294, 1, none⟩ = some (.int .i64 a0_1) ∧ w47.cell? ⟨gb294, 2, none⟩ = some (.string a0_2) := hS_
              refine norm_ (a' := ?_) ?_ ?_
              rotate_left
              · simp only [putAll, Act.put, List.setIfInBounds_toArray, List.set_cons_zero, List.set_cons_succ]
                rfl
              refine one_ (i := 10) (N := none) #[true, true, true, true, true, true, true, true, true, true, true, false] rfl rfl (one_of HT_.out (by kernel_rfl)) (by decide) (fun K hK => ?_)
              have hs48 : w47.cell? ⟨gb322, 0, none⟩ = some (.int .i64 0) := (blk_cell BK322.out 0).trans rfl
              have hfs48 := blk_frozen BK322.out 0
              have hns48_0 := NB294_322.out
              have hns48_1 := NB303_322.out
              have hns48_2 := NB310_322.out
              have hms48_0 := NB322_294.out
              have hms48_1 := NB322_303.out
              have hms48_2 := NB322_310.out
              have hs49 : w47.cell? ⟨gb322, 1, none⟩ = some (.int .i64 0) := (blk_cell BK322.out 1).trans rfl
              have hfs49 := blk_frozen BK322.out 1
              have hns49_0 := NB294_322.out
              have hns49_1 := NB303_322.out
              have hns49_2 := NB310_322.out
              have hms49_0 := NB322_294.out
              have hms49_1 := NB322_303.out
              have hms49_2 := NB322_310.out
              have hs50 : w47.cell? ⟨gb322, 2, none⟩ = some (.string (⟨#[]⟩ : ByteArray)) := (blk_cell BK322.out 2).trans rfl
              have hfs50 := blk_frozen BK322.out 2
              have hns50_0 := NB294_322.out
              have hns50_1 := NB303_322.out
              have hns50_2 := NB310_322.out
              have hms50_0 := NB322_294.out
              have hms50_1 := NB322_303.out
              have hms50_2 := NB322_310.out
              refine skip_ (w1 := ?_) (by rfl) rfl ?_ ?_
              rotate_left
              · go_simp
                rfl
              refine hK.out _ _ ⟨((cell_far (p := ⟨gb322, _, none⟩) NB294_322.out _).trans (((cell_far (p := ⟨gb322, _, none⟩) NB294_322.out _).trans (((cell_far (p := ⟨gb322, _, none⟩) NB294_322.out _).trans (hHeld.1)))))), ((cell_far (p := ⟨gb322, _, none⟩) NB294_322.out _).trans (((cell_far (p := ⟨gb322, _, none⟩) NB294_322.out _).trans (((cell_far (p := ⟨gb322, _, none⟩) NB294_322.out _).trans (hHeld.2.1)))))), ((cell_far (p := ⟨gb322, _, none⟩) NB294_322.out _).trans (((cell_far (p := ⟨gb322, _, none⟩) NB294_322.out _).trans (((cell_far (p := ⟨gb322, _, none⟩) NB294_322.out _).trans (hHeld.2.2))))))⟩ (fun hHeld => ?_)
              clear hK K
              refine pure_ (i := 11) (N := some 7) (v := ?_) (a' := ?_) #[true, true, true, true, true, true, true, true, true, true, true, true] rfl rfl (any_of HT_.out (by kernel_rfl)) (fun _ _ _ h => h) (Or.inl ⟨by rfl, ?_⟩) ?_ ?_
              rotate_left
              · intro w'
                go_simp
                with_reducible rfl
              rotate_left
              · simp only [Act.put, List.setIfInBounds_toArray, List.set_cons_zero, List.set_cons_succ, i64_w, i32_w]
                rfl
              refine done_ (done_of HT_.out (by kernel_rfl)) ?_
              try go_wp2
              have n0_ : Aside0 ((((w47.setCell ⟨gb322, 0, none⟩ (.int .i64 t318)).setCell ⟨gb322, 1, none⟩ (.int .i64 t319)).setCell ⟨gb322, 2, none⟩ (.string t320)).heap[gb294]? = some (.cells #[.int .i64 a0_0, .int .i64 a0_1, .string a0_2] 23 (0, 0))) := ⟨by (with_reducible repeat (first | refine blk_drewN ?_ _ | refine blk_drew ?_ | refine blk_alloc ?_ _)); refine blk_far ?_ NB294_322.out _; (with_reducible repeat (first | refine blk_drewN ?_ _ | refine blk_drew ?_ | refine blk_alloc ?_ _)); refine blk_far ?_ NB294_322.out _; (with_reducible repeat (first | refine blk_drewN ?_ _ | refine blk_drew ?_ | refine blk_alloc ?_ _)); refine blk_far ?_ NB294_322.out _; (with_reducible repeat (first | refine blk_drewN ?_ _ | refine blk_drew ?_ | refine blk_alloc ?_ _)); exact BK294.out⟩
              have n1_ : Aside0 ((((w47.setCell ⟨gb322, 0, none⟩ (.int .i64 t318)).setCell ⟨gb322, 1, none⟩ (.int .i64 t319)).setCell ⟨gb322, 2, none⟩ (.string t320)).heap[gb303]? = some (.cells #[.int .i64 t300, .int .i64 t301, .string t302] 23 (0, 0))) := ⟨by (with_reducible repeat (first | refine blk_drewN ?_ _ | refine blk_drew ?_ | refine blk_alloc ?_ _)); refine blk_far ?_ NB303_322.out _; (with_reducible repeat (first | refine blk_drewN ?_ _ | refine blk_drew ?_ | refine blk_alloc ?_ _)); refine blk_far ?_ NB303_322.out _; (with_reducible repeat (first | refine blk_drewN ?_ _ | refine blk_drew ?_ | refine blk_alloc ?_ _)); refine blk_far ?_ NB303_322.out _; (with_reducible repeat (first | refine blk_drewN ?_ _ | refine blk_drew ?_ | refine blk_alloc ?_ _)); exact BK303.out⟩
              have n2_ : Aside0 ((((w47.setCell ⟨gb322, 0, none⟩ (.int .i64 t318)).setCell ⟨gb322, 1, none⟩ (.int .i64 t319)).setCell ⟨gb322, 2, none⟩ (.string t320)).heap[gb310]? = some (.cells #[.int .i64 t307, .int .i64 t308, .string t309] 23 (0, 0))) := ⟨by (with_reducible repeat (first | refine blk_drewN ?_ _ | refine blk_drew ?_ | refine blk_alloc ?_ _)); refine blk_far ?_ NB310_322.out _; (with_reducible repeat (first | refine blk_drewN ?_ _ | refine blk_drew ?_ | refine blk_alloc ?_ _)); refine blk_far ?_ NB310_322.out _; (with_reducible repeat (first | refine blk_drewN ?_ _ | refine blk_drew ?_ | refine blk_alloc ?_ _)); refine blk_far ?_ NB310_322.out _; (with_reducible repeat (first | refine blk_drewN ?_ _ | refine blk_drew ?_ | refine blk_alloc ?_ _)); exact BK310.out⟩
              have n3_ : Aside0 ((((w47.setCell ⟨gb322, 0, none⟩ (.int .i64 t318)).setCell ⟨gb322, 1, none⟩ (.int .i64 t319)).setCell ⟨gb322, 2, none⟩ (.string t320)).heap[gb322]? = some (.cells #[.int .i64 t318, .int .i64 t319, .string t320] 23 (0, 0))) := ⟨by (with_reducible repeat (first | refine blk_drewN ?_ _ | refine blk_drew ?_ | refine blk_alloc ?_ _)); refine blk_put (cs := #[.int .i64 t318, .int .i64 t319, .string (⟨#[]⟩ : ByteArray)]) ?_ 2 _ rfl; (with_reducible repeat (first | refine blk_drewN ?_ _ | refine blk_drew ?_ | refine blk_alloc ?_ _)); refine blk_put (cs := #[.int .i64 t318, .int .i64 0, .string (⟨#[]⟩ : ByteArray)]) ?_ 1 _ rfl; (with_reducible repeat (first | refine blk_drewN ?_ _ | refine blk_drew ?_ | refine blk_alloc ?_ _)); refine blk_put (cs := #[.int .i64 0, .int .i64 0, .string (⟨#[]⟩ : ByteArray)]) ?_ 0 _ rfl; (with_reducible repeat (first | refine blk_drewN ?_ _ | refine blk_drew ?_ | refine blk_alloc ?_ _)); exact BK322.out⟩
              have n4_ : Aside0 (Below w.heap.size w (((w47.setCell ⟨gb322, 0, none⟩ (.int .i64 t318)).setCell ⟨gb322, 1, none⟩ (.int .i64 t319)).setCell ⟨gb322, 2, none⟩ (.string t320))) := ⟨by repeat (first | (with_reducible first | exact HB.out | apply below_alloc | apply pw_below_drewN | apply below_drew1 | refine below_set ?_ GE294.out | refine below_set ?_ GE303.out | refine below_set ?_ GE310.out | refine below_set ?_ GE322.out) | exact HB.out)⟩
              (try clear BK294)
              (try clear BK303)
              (try clear BK310)
              (try clear BK322)
              (try clear HB)
              generalize (((w47.setCell ⟨gb322, 0, none⟩ (.int .i64 t318)).setCell ⟨gb322, 1, none⟩ (.int .i64 t319)).setCell ⟨gb322, 2, none⟩ (.string t320)) = w51 at n0_ n1_ n2_ n3_ n4_ ⊢
              have BK294 := n0_
              have BK303 := n1_
              have BK310 := n2_
              have BK322 := n3_
              have HB := n4_
              clear n0_ n1_ n2_ n3_ n4_
              have n0_ := Aside0.mk (blk_drew BK294.out)
              have n1_ := Aside0.mk (blk_drew BK303.out)
              have n2_ := Aside0.mk (blk_drew BK310.out)
              have n3_ := Aside0.mk (blk_drew BK322.out)
              have n4_ := Aside0.mk (below_drew1 HB.out)
              clear BK294
              clear BK303
              clear BK310
              clear BK322
              clear HB
              have BK294 := n0_
              have BK303 := n1_
              have BK310 := n2_
              have BK322 := n3_
              have HB := n4_
              clear n0_ n1_ n2_ n3_ n4_
              refine start_ (n := 30) (S := fun w' => w'.cell? ⟨gb303, 0, none⟩ = some (.int .i64 t300) ∧ w'.cell? ⟨gb303, 1, none⟩ = some (.int .i64 t301) ∧ w'.cell? ⟨gb303, 2, none⟩ = some (.string t302) ∧ w'.cell? ⟨gb294, 0, none⟩ = some (.int .i64 a0_0) ∧ w'.cell? ⟨gb294, 1, none⟩ = some (.int .i64 a0_1) ∧ w'.cell? ⟨gb294, 2, none⟩ = some (.string a0_2) ∧ w'.cell? ⟨gb310, 0, none⟩ = some (.int .i64 t307) ∧ w'.cell? ⟨gb310, 1, none⟩ = some (.int .i64 t308) ∧ w'.cell? ⟨gb310, 2, none⟩ = some (.string t309) ∧ w'.cell? ⟨gb322, 0, none⟩ = some (.int .i64 t318) ∧ w'.cell? ⟨gb322, 1, none⟩ = some (.int .i64 t319) ∧ w'.cell? ⟨gb322, 2, none⟩ = some (.string t320)) (ds := []) #[false, false, false, false, false, false, false, false, false, false, false, false, false, false, false, false, false, false, false, false, false, false, false, false, false, false, false, false, false, false] (by kernel_rfl) rfl rfl ⟨(blk_cell BK303.out 0).trans rfl, (blk_cell BK303.out 1).trans rfl, (blk_cell BK303.out 2).trans rfl, (blk_cell BK294.out 0).trans rfl, (blk_cell BK294.out 1).trans rfl, (blk_cell BK294.out 2).trans rfl, (blk_cell BK310.out 0).trans rfl, (blk_cell BK310.out 1).trans rfl, (blk_cell BK310.out 2).trans rfl, (blk_cell BK322.out 0).trans rfl, (blk_cell BK322.out 1).trans rfl, (blk_cell BK322.out 2).trans rfl⟩ (fun hHeld => ?_); refine with_tabW gumshoelaw06_ValueTurns.tab7 gumshoelaw06_ValueTurns.bits7 (fun HT_ HW_ => ?_)
              generalize w51.drew = w52 at BK294 BK303 BK310 BK322 HB hHeld ⊢
              refine pure_ (i := 0) (N := some 28) (v := ?_) (a' := ?_) #[true, false, false, false, false, false, false, false, false, false, false, false, false, false, false, false, false, false, false, false, false, false, false, false, false, false, false, false, false, false] rfl rfl (any_of HT_.out (by kernel_rfl)) (fun _ _ _ h => h) (Or.inl ⟨by rfl, ?_⟩) ?_ ?_
              rotate_left
              · intro w'
                go_simp
                with_reducible rfl
              rotate_left
              · simp only [Act.put, List.setIfInBounds_toArray, List.set_cons_zero, List.set_cons_succ, i64_w, i32_w]
                rfl
              refine pure_ (i := 1) (N := some 29) (v := ?_) (a' := ?_) #[true, true, false, false, false, false, false, false, false, false, false, false, false, false, false, false, false, false, false, false, false, false, false, false, false, false, false, false, false, false] rfl rfl (any_of HT_.out (by kernel_rfl)) (fun _ _ _ h => h) (Or.inl ⟨by rfl, ?_⟩) ?_ ?_
              rotate_left
              · intro w'
                go_simp
                with_reducible rfl
              rotate_left
              · simp only [Act.put, List.setIfInBounds_toArray, List.set_cons_zero, List.set_cons_succ, i64_w, i32_w]
                rfl
              refine take_ (i := 2) (N := some 30) (v := ?_) (a' := ?_) #[true, true, true, false, false, false, false, false, false, false, false, false, false, false, false, false, false, false, false, false, false, false, false, false, false, false, false, false, false, false] rfl rfl (take_ofW HT_.out HW_.out (by kernel_rfl)) (fun _ _ _ h => h) (Or.inl ⟨by rfl, ?_⟩) hHeld ?_ ?_
              rotate_left
              · rintro w' ⟨s0, s1, s2, s3, s4, s5, s6, s7, s8, s9, s10, s11⟩
                go_simp
                with_reducible rfl
              rotate_left
              · simp only [Act.put, List.setIfInBounds_toArray, List.set_cons_zero, List.set_cons_succ, i64_w, i32_w]
                rfl
              refine take_ (i := 3) (N := some 31) (v := ?_) (a' := ?_) #[true, true, true, true, false, false, false, false, false, false, false, false, false, false, false, false, false, false, false, false, false, false, false, false, false, false, false, false, false, false] rfl rfl (take_ofW HT_.out HW_.out (by kernel_rfl)) (fun _ _ _ h => h) (Or.inl ⟨by rfl, ?_⟩) hHeld ?_ ?_
              rotate_left
              · rintro w' ⟨s0, s1, s2, s3, s4, s5, s6, s7, s8, s9, s10, s11⟩
                go_simp
                with_reducible rfl
              rotate_left
              · simp only [Act.put, List.setIfInBounds_toArray, List.set_cons_zero, List.set_cons_succ, i64_w, i32_w]
                rfl
              refine one_ (i := 4) (N := some 32) #[true, true, true, true, true, false, false, false, false, false, false, false, false, false, false, false, false, false, false, false, false, false, false, false, false, false, false, false, false, false] rfl rfl (one_of HT_.out (by kernel_rfl)) (by decide) (fun K hK => ?_)
              refine goes_ Tryd.func17 (by kernel_rfl) rfl #[.agg #[.int .i64 a0_0, .int .i64 a0_1, .string a0_2]] (by rfl) rfl rfl (by (try simp only [List.map_toArray, List.map_cons, List.map_nil]); first | done | rfl | (simp only [List.length_drop, List.length_take]; rfl)) ?_
              with_reducible refine (value_Num.calls (hL := ?sideL) a0_0 a0_1 a0_2 t323 _ A14.out).mono ?_
              (case sideL => exact Laid.below HL.out (by repeat (first | (with_reducible first | exact HB.out | apply below_alloc | apply pw_below_drewN | apply below_drew1 | refine below_set ?_ GE294.out | refine below_set ?_ GE303.out | refine below_set ?_ GE310.out | refine below_set ?_ GE322.out) | exact HB.out)))
              rintro e w53 ⟨rfl, hb⟩
              refine ⟨_, rfl, ?_⟩
              have n0_ := Aside0.mk (blk_below (g := gb294) (o := .cells #[.int .i64 a0_0, .int .i64 a0_1, .string a0_2] 23 (0, 0)) (by (with_reducible repeat (first | refine blk_drewN ?_ _ | refine blk_drew ?_ | refine blk_alloc ?_ _)); exact BK294.out) hb)
              have n1_ := Aside0.mk (blk_below (g := gb303) (o := .cells #[.int .i64 t300, .int .i64 t301, .string t302] 23 (0, 0)) (by (with_reducible repeat (first | refine blk_drewN ?_ _ | refine blk_drew ?_ | refine blk_alloc ?_ _)); exact BK303.out) hb)
              have n2_ := Aside0.mk (blk_below (g := gb310) (o := .cells #[.int .i64 t307, .int .i64 t308, .string t309] 23 (0, 0)) (by (with_reducible repeat (first | refine blk_drewN ?_ _ | refine blk_drew ?_ | refine blk_alloc ?_ _)); exact BK310.out) hb)
              have n3_ := Aside0.mk (blk_below (g := gb322) (o := .cells #[.int .i64 t318, .int .i64 t319, .string t320] 23 (0, 0)) (by (with_reducible repeat (first | refine blk_drewN ?_ _ | refine blk_drew ?_ | refine blk_alloc ?_ _)); exact BK322.out) hb)
              have n4_ := Aside0.mk (below_step (by repeat (first | (with_reducible first | exact HB.out | apply below_alloc | apply pw_below_drewN | apply below_drew1 | refine below_set ?_ GE294.out | refine below_set ?_ GE303.out | refine below_set ?_ GE310.out | refine below_set ?_ GE322.out) | exact HB.out)) hb)
              clear BK294
              clear BK303
              clear BK310
              clear BK322
              clear HB
              have BK294 := n0_
              have BK303 := n1_
              have BK310 := n2_
              have BK322 := n3_
              have HB := n4_
              clear n0_ n1_ n2_ n3_ n4_
              (try clear hb)
              (try clear hb2)
              (try clear hk)
              (try clear hi)
              refine hK.out _ _ ⟨(blk_cell BK303.out 0).trans rfl, (blk_cell BK303.out 1).trans rfl, (blk_cell BK303.out 2).trans rfl, (blk_cell BK294.out 0).trans rfl, (blk_cell BK294.out 1).trans rfl, (blk_cell BK294.out 2).trans rfl, (blk_cell BK310.out 0).trans rfl, (blk_cell BK310.out 1).trans rfl, (blk_cell BK310.out 2).trans rfl, (blk_cell BK322.out 0).trans rfl, (blk_cell BK322.out 1).trans rfl, (blk_cell BK322.out 2).trans rfl⟩ (fun hHeld => ?_)
              clear hK K
              refine norm_ (a' := ?_) ?_ ?_
              rotate_left
              · show Act.put _ (some 32) _ = _
                simp only [Act.put, List.setIfInBounds_toArray, List.set_cons_zero, List.set_cons_succ, i64_w, i32_w]
                rfl
              refine one_ (i := 5) (N := some 33) #[true, true, true, true, true, true, false, false, false, false, false, false, false, false, false, false, false, false, false, false, false, false, false, false, false, false, false, false, false, false] rfl rfl (one_of HT_.out (by kernel_rfl)) (by decide) (fun K hK => ?_)
              refine goes_ Tryd.func16 (by kernel_rfl) rfl #[.int .i64 t323] (by rfl) rfl rfl (by (try simp only [List.map_toArray, List.map_cons, List.map_nil]); first | done | rfl | (simp only [List.length_drop, List.length_take]; rfl)) ?_
              with_reducible refine (gumshoelaw06_num.calls t323 t324 t325 t326 _ A15.out).mono ?_
              rintro e w54 ⟨rfl, hb⟩
              refine ⟨_, rfl, ?_⟩
              have n0_ := Aside0.mk (blk_below (g := gb294) (o := .cells #[.int .i64 a0_0, .int .i64 a0_1, .string a0_2] 23 (0, 0)) (by (with_reducible repeat (first | refine blk_drewN ?_ _ | refine blk_drew ?_ | refine blk_alloc ?_ _)); exact BK294.out) hb)
              have n1_ := Aside0.mk (blk_below (g := gb303) (o := .cells #[.int .i64 t300, .int .i64 t301, .string t302] 23 (0, 0)) (by (with_reducible repeat (first | refine blk_drewN ?_ _ | refine blk_drew ?_ | refine blk_alloc ?_ _)); exact BK303.out) hb)
              have n2_ := Aside0.mk (blk_below (g := gb310) (o := .cells #[.int .i64 t307, .int .i64 t308, .string t309] 23 (0, 0)) (by (with_reducible repeat (first | refine blk_drewN ?_ _ | refine blk_drew ?_ | refine blk_alloc ?_ _)); exact BK310.out) hb)
              have n3_ := Aside0.mk (blk_below (g := gb322) (o := .cells #[.int .i64 t318, .int .i64 t319, .string t320] 23 (0, 0)) (by (with_reducible repeat (first | refine blk_drewN ?_ _ | refine blk_drew ?_ | refine blk_alloc ?_ _)); exact BK322.out) hb)
              have n4_ := Aside0.mk (below_step (by repeat (first | (with_reducible first | exact HB.out | apply below_alloc | apply pw_below_drewN | apply below_drew1 | refine below_set ?_ GE294.out | refine below_set ?_ GE303.out | refine below_set ?_ GE310.out | refine below_set ?_ GE322.out) | exact HB.out)) hb)
              clear BK294
              clear BK303
              clear BK310
              clear BK322
              clear HB
              have BK294 := n0_
              have BK303 := n1_
              have BK310 := n2_
              have BK322 := n3_
              have HB := n4_
              clear n0_ n1_ n2_ n3_ n4_
              (try clear hb)
              (try clear hb2)
              (try clear hk)
              (try clear hi)
              refine hK.out _ _ ⟨(blk_cell BK303.out 0).trans rfl, (blk_cell BK303.out 1).trans rfl, (blk_cell BK303.out 2).trans rfl, (blk_cell BK294.out 0).trans rfl, (blk_cell BK294.out 1).trans rfl, (blk_cell BK294.out 2).trans rfl, (blk_cell BK310.out 0).trans rfl, (blk_cell BK310.out 1).trans rfl, (blk_cell BK310.out 2).trans rfl, (blk_cell BK322.out 0).trans rfl, (blk_cell BK322.out 1).trans rfl, (blk_cell BK322.out 2).trans rfl⟩ (fun hHeld => ?_)
              clear hK K
              refine norm_ (a' := ?_) ?_ ?_
              rotate_left
              · show Act.put _ (some 33) _ = _
                simp only [Act.put, List.setIfInBounds_toArray, List.set_cons_zero, List.set_cons_succ, i64_w, i32_w]
                rfl
              refine pure_ (i := 6) (N := some 34) (v := ?_) (a' := ?_) #[true, true, true, true, true, true, true, false, false, false, false, false, false, false, false, false, false, false, false, false, false, false, false, false, false, false, false, false, false, false] rfl rfl (any_of HT_.out (by kernel_rfl)) (fun _ _ _ h => h) (Or.inl ⟨by rfl, ?_⟩) ?_ ?_
              rotate_left
              · intro w'
                go_simp
                with_reducible rfl
              rotate_left
              · simp only [Act.put, List.setIfInBounds_toArray, List.set_cons_zero, List.set_cons_succ, i64_w, i32_w]
                rfl
              refine pure_ (i := 7) (N := some 35) (v := ?_) (a' := ?_) #[true, true, true, true, true, true, true, true, false, false, false, false, false, false, false, false, false, false, false, false, false, false, false, false, false, false, false, false, false, false] rfl rfl (any_of HT_.out (by kernel_rfl)) (fun _ _ _ h => h) (Or.inl ⟨by rfl, ?_⟩) ?_ ?_
              rotate_left
              · intro w'
                go_simp
                with_reducible rfl
              rotate_left
              · simp only [Act.put, List.setIfInBounds_toArray, List.set_cons_zero, List.set_cons_succ, i64_w, i32_w]
                rfl
              refine pure_ (i := 8) (N := some 36) (v := ?_) (a' := ?_) #[true, true, true, true, true, true, true, true, true, false, false, false, false, false, false, false, false, false, false, false, false, false, false, false, false, false, false, false, false, false] rfl rfl (any_of HT_.out (by kernel_rfl)) (fun _ _ _ h => h) (Or.inl ⟨by rfl, ?_⟩) ?_ ?_
              rotate_left
              · intro w'
                go_simp
                with_reducible rfl
              rotate_left
              · simp only [Act.put, List.setIfInBounds_toArray, List.set_cons_zero, List.set_cons_succ, i64_w, i32_w]
                rfl
              refine take_ (i := 9) (N := some 37) (v := ?_) (a' := ?_) #[true, true, true, true, true, true, true, true, true, true, false, false, false, false, false, false, false, false, false, false, false, false, false, false, false, false, false, false, false, false] rfl rfl (take_ofW HT_.out HW_.out (by kernel_rfl)) (fun _ _ _ h => h) (Or.inl ⟨by rfl, ?_⟩) hHeld ?_ ?_
              rotate_left
              · rintro w' ⟨s0, s1, s2, s3, s4, s5, s6, s7, s8, s9, s10, s11⟩
                go_simp
                with_reducible rfl
              rotate_left
              · simp only [Act.put, List.setIfInBounds_toArray, List.set_cons_zero, List.set_cons_succ, i64_w, i32_w]
                rfl
              refine take_ (i := 11) (N := some 39) (v := ?_) (a' := ?_) #[true, true, true, true, true, true, true, true, true, true, false, true, false, false, false, false, false, false, false, false, false, false, false, false, false, false, false, false, false, false] rfl rfl (take_ofW HT_.out HW_.out (by kernel_rfl)) (fun _ _ _ h => h) (Or.inl ⟨by rfl, ?_⟩) hHeld ?_ ?_
              rotate_left
              · rintro w' ⟨s0, s1, s2, s3, s4, s5, s6, s7, s8, s9, s10, s11⟩
                go_simp
                with_reducible rfl
              rotate_left
              · simp only [Act.put, List.setIfInBounds_toArray, List.set_cons_zero, List.set_cons_succ, i64_w, i32_w]
                rfl
              refine one_ (i := 10) (N := some 38) #[true, true, true, true, true, true, true, true, true, true, true, true, false, false, false, false, false, false, false, false, false, false, false, false, false, false, false, false, false, false] rfl rfl (one_of HT_.out (by kernel_rfl)) (by decide) (fun K hK => ?_)
              refine goes_ Tryd.func20 (by kernel_rfl) rfl #[.agg #[.int .i64 t307, .int .i64 t308, .string t309]] (by rfl) rfl rfl (by (try simp only [List.map_toArray, List.map_cons, List.map_nil]); first | done | rfl | (simp only [List.length_drop, List.length_take]; rfl)) ?_
              with_reducible refine (value_Truthy.calls t307 t308 t309 t327 _ A17.out).mono ?_
              rintro e w55 ⟨rfl, hb⟩
              refine ⟨_, rfl, ?_⟩
              have n0_ := Aside0.mk (blk_below (g := gb294) (o := .cells #[.int .i64 a0_0, .int .i64 a0_1, .string a0_2] 23 (0, 0)) (by (with_reducible repeat (first | refine blk_drewN ?_ _ | refine blk_drew ?_ | refine blk_alloc ?_ _)); exact BK294.out) hb)
              have n1_ := Aside0.mk (blk_below (g := gb303) (o := .cells #[.int .i64 t300, .int .i64 t301, .string t302] 23 (0, 0)) (by (with_reducible repeat (first | refine blk_drewN ?_ _ | refine blk_drew ?_ | refine blk_alloc ?_ _)); exact BK303.out) hb)
              have n2_ := Aside0.mk (blk_below (g := gb310) (o := .cells #[.int .i64 t307, .int .i64 t308, .string t309] 23 (0, 0)) (by (with_reducible repeat (first | refine blk_drewN ?_ _ | refine blk_drew ?_ | refine blk_alloc ?_ _)); exact BK310.out) hb)
              have n3_ := Aside0.mk (blk_below (g := gb322) (o := .cells #[.int .i64 t318, .int .i64 t319, .string t320] 23 (0, 0)) (by (with_reducible repeat (first | refine blk_drewN ?_ _ | refine blk_drew ?_ | refine blk_alloc ?_ _)); exact BK322.out) hb)
              have n4_ := Aside0.mk (below_step (by repeat (first | (with_reducible first | exact HB.out | apply below_alloc | apply pw_below_drewN | apply below_drew1 | refine below_set ?_ GE294.out | refine below_set ?_ GE303.out | refine below_set ?_ GE310.out | refine below_set ?_ GE322.out) | exact HB.out)) hb)
              clear BK294
              clear BK303
              clear BK310
              clear BK322
              clear HB
              have BK294 := n0_
              have BK303 := n1_
              have BK310 := n2_
              have BK322 := n3_
              have HB := n4_
              clear n0_ n1_ n2_ n3_ n4_
              (try clear hb)
              (try clear hb2)
              (try clear hk)
              (try clear hi)
              refine hK.out _ _ ⟨(blk_cell BK303.out 0).trans rfl, (blk_cell BK303.out 1).trans rfl, (blk_cell BK303.out 2).trans rfl, (blk_cell BK294.out 0).trans rfl, (blk_cell BK294.out 1).trans rfl, (blk_cell BK294.out 2).trans rfl, (blk_cell BK310.out 0).trans rfl, (blk_cell BK310.out 1).trans rfl, (blk_cell BK310.out 2).trans rfl, (blk_cell BK322.out 0).trans rfl, (blk_cell BK322.out 1).trans rfl, (blk_cell BK322.out 2).trans rfl⟩ (fun hHeld => ?_)
              clear hK K
              refine norm_ (a' := ?_) ?_ ?_
              rotate_left
              · show Act.put _ (some 38) _ = _
                simp only [Act.put, List.setIfInBounds_toArray, List.set_cons_zero, List.set_cons_succ, i64_w, i32_w]
                rfl
              refine one_ (i := 12) (N := some 40) #[true, true, true, true, true, true, true, true, true, true, true, true, true, false, false, false, false, false, false, false, false, false, false, false, false, false, false, false, false, false] rfl rfl (one_of HT_.out (by kernel_rfl)) (by decide) (fun K hK => ?_)
              refine goes_ Tryd.func20 (by kernel_rfl) rfl #[.agg #[.int .i64 a0_0, .int .i64 a0_1, .string a0_2]] (by rfl) rfl rfl (by (try simp only [List.map_toArray, List.map_cons, List.map_nil]); first | done | rfl | (simp only [List.length_drop, List.length_take]; rfl)) ?_
              with_reducible refine (value_Truthy.calls a0_0 a0_1 a0_2 t328 _ A18.out).mono ?_
              rintro e w56 ⟨rfl, hb⟩
              refine ⟨_, rfl, ?_⟩
              have n0_ := Aside0.mk (blk_below (g := gb294) (o := .cells #[.int .i64 a0_0, .int .i64 a0_1, .string a0_2] 23 (0, 0)) (by (with_reducible repeat (first | refine blk_drewN ?_ _ | refine blk_drew ?_ | refine blk_alloc ?_ _)); exact BK294.out) hb)
              have n1_ := Aside0.mk (blk_below (g := gb303) (o := .cells #[.int .i64 t300, .int .i64 t301, .string t302] 23 (0, 0)) (by (with_reducible repeat (first | refine blk_drewN ?_ _ | refine blk_drew ?_ | refine blk_alloc ?_ _)); exact BK303.out) hb)
              have n2_ := Aside0.mk (blk_below (g := gb310) (o := .cells #[.int .i64 t307, .int .i64 t308, .string t309] 23 (0, 0)) (by (with_reducible repeat (first | refine blk_drewN ?_ _ | refine blk_drew ?_ | refine blk_alloc ?_ _)); exact BK310.out) hb)
              have n3_ := Aside0.mk (blk_below (g := gb322) (o := .cells #[.int .i64 t318, .int .i64 t319, .string t320] 23 (0, 0)) (by (with_reducible repeat (first | refine blk_drewN ?_ _ | refine blk_drew ?_ | refine blk_alloc ?_ _)); exact BK322.out) hb)
              have n4_ := Aside0.mk (below_step (by repeat (first | (with_reducible first | exact HB.out | apply below_alloc | apply pw_below_drewN | apply below_drew1 | refine below_set ?_ GE294.out | refine below_set ?_ GE303.out | refine below_set ?_ GE310.out | refine below_set ?_ GE322.out) | exact HB.out)) hb)
              clear BK294
              clear BK303
              clear BK310
              clear BK322
              clear HB
              have BK294 := n0_
              have BK303 := n1_
              have BK310 := n2_
              have BK322 := n3_
              have HB := n4_
              clear n0_ n1_ n2_ n3_ n4_
              (try clear hb)
              (try clear hb2)
              (try clear hk)
              (try clear hi)
              refine hK.out _ _ ⟨(blk_cell BK303.out 0).trans rfl, (blk_cell BK303.out 1).trans rfl, (blk_cell BK303.out 2).trans rfl, (blk_cell BK294.out 0).trans rfl, (blk_cell BK294.out 1).trans rfl, (blk_cell BK294.out 2).trans rfl, (blk_cell BK310.out 0).trans rfl, (blk_cell BK310.out 1).trans rfl, (blk_cell BK310.out 2).trans rfl, (blk_cell BK322.out 0).trans rfl, (blk_cell BK322.out 1).trans rfl, (blk_cell BK322.out 2).trans rfl⟩ (fun hHeld => ?_)
              clear hK K
              refine norm_ (a' := ?_) ?_ ?_
              rotate_left
              · show Act.put _ (some 40) _ = _
                simp only [Act.put, List.setIfInBounds_toArray, List.set_cons_zero, List.set_cons_succ, i64_w, i32_w]
                rfl
              refine pure_ (i := 13) (N := some 41) (v := ?_) (a' := ?_) #[true, true, true, true, true, true, true, true, true, true, true, true, true, true, false, false, false, false, false, false, false, false, false, false, false, false, false, false, false, false] rfl rfl (any_of HT_.out (by kernel_rfl)) (fun _ _ _ h => h) (Or.inl ⟨by rfl, ?_⟩) ?_ ?_
              rotate_left
              · intro w'
                go_simp
                with_reducible rfl
              rotate_left
              · simp only [Act.put, List.setIfInBounds_toArray, List.set_cons_zero, List.set_cons_succ, i64_w, i32_w]
                rfl
              refine pure_ (i := 14) (N := some 42) (v := ?_) (a' := ?_) #[true, true, true, true, true, true, true, true, true, true, true, true, true, true, true, false, false, false, false, false, false, false, false, false, false, false, false, false, false, false] rfl rfl (any_of HT_.out (by kernel_rfl)) (fun _ _ _ h => h) (Or.inl ⟨by rfl, ?_⟩) ?_ ?_
              rotate_left
              · intro w'
                go_simp
                with_reducible rfl
              rotate_left
              · simp only [Act.put, List.setIfInBounds_toArray, List.set_cons_zero, List.set_cons_succ, i64_w, i32_w]
                rfl
              refine pure_ (i := 15) (N := some 43) (v := ?_) (a' := ?_) #[true, true, true, true, true, true, true, true, true, true, true, true, true, true, true, true, false, false, false, false, false, false, false, false, false, false, false, false, false, false] rfl rfl (any_of HT_.out (by kernel_rfl)) (fun _ _ _ h => h) (Or.inl ⟨by rfl, ?_⟩) ?_ ?_
              rotate_left
              · intro w'
                go_simp
                with_reducible rfl
              rotate_left
              · simp only [Act.put, List.setIfInBounds_toArray, List.set_cons_zero, List.set_cons_succ, i64_w, i32_w]
                rfl
              refine pure_ (i := 16) (N := some 44) (v := ?_) (a' := ?_) #[true, true, true, true, true, true, true, true, true, true, true, true, true, true, true, true, true, false, false, false, false, false, false, false, false, false, false, false, false, false] rfl rfl (any_of HT_.out (by kernel_rfl)) (fun _ _ _ h => h) (Or.inl ⟨by rfl, ?_⟩) ?_ ?_
              rotate_left
              · intro w'
                go_simp
                with_reducible rfl
              rotate_left
              · simp only [Act.put, List.setIfInBounds_toArray, List.set_cons_zero, List.set_cons_succ, i64_w, i32_w]
                rfl
              refine take_ (i := 17) (N := some 45) (v := ?_) (a' := ?_) #[true, true, true, true, true, true, true, true, true, true, true, true, true, true, true, true, true, true, false, false, false, false, false, false, false, false, false, false, false, false] rfl rfl (take_ofW HT_.out HW_.out (by kernel_rfl)) (fun _ _ _ h => h) (Or.inl ⟨by rfl, ?_⟩) hHeld ?_ ?_
              rotate_left
              · rintro w' ⟨s0, s1, s2, s3, s4, s5, s6, s7, s8, s9, s10, s11⟩
                go_simp
                with_reducible rfl
              rotate_left
              · simp only [Act.put, List.setIfInBounds_toArray, List.set_cons_zero, List.set_cons_succ, i64_w, i32_w]
                rfl
              refine pure_ (i := 18) (N := some 46) (v := ?_) (a' := ?_) #[true, true, true, true, true, true, true, true, true, true, true, true, true, true, true, true, true, true, true, false, false, false, false, false, false, false, false, false, false, false] rfl rfl (any_of HT_.out (by kernel_rfl)) (fun _ _ _ h => h) (Or.inl ⟨by rfl, ?_⟩) ?_ ?_
              rotate_left
              · intro w'
                go_simp
                with_reducible rfl
              rotate_left
              · simp only [Act.put, List.setIfInBounds_toArray, List.set_cons_zero, List.set_cons_succ, i64_w, i32_w]
                rfl
              refine pure_ (i := 19) (N := some 47) (v := ?_) (a' := ?_) #[true, true, true, true, true, true, true, true, true, true, true, true, true, true, true, true, true, true, true, true, false, false, false, false, false, false, false, false, false, false] rfl rfl (any_of HT_.out (by kernel_rfl)) (fun _ _ _ h => h) (Or.inl ⟨by rfl, ?_⟩) ?_ ?_
              rotate_left
              · intro w'
                go_simp
                with_reducible rfl
              rotate_left
              · simp only [Act.put, List.setIfInBounds_toArray, List.set_cons_zero, List.set_cons_succ, i64_w, i32_w]
                rfl
              refine pure_ (i := 20) (N := some 48) (v := ?_) (a' := ?_) #[true, true, true, true, true, true, true, true, true, true, true, true, true, true, true, true, true, true, true, true, true, false, false, false, false, false, false, false, false, false] rfl rfl (any_of HT_.out (by kernel_rfl)) (fun _ _ _ h => h) (Or.inl ⟨by rfl, ?_⟩) ?_ ?_
              rotate_left
              · intro w'
                go_simp
                with_reducible rfl
              rotate_left
              · simp only [Act.put, List.setIfInBounds_toArray, List.set_cons_zero, List.set_cons_succ, i64_w, i32_w]
                rfl
              refine pure_ (i := 21) (N := some 49) (v := ?_) (a' := ?_) #[true, true, true, true, true, true, true, true, true, true, true, true, true, true, true, true, true, true, true, true, true, true, false, false, false, false, false, false, false, false] rfl rfl (any_of HT_.out (by kernel_rfl)) (fun _ _ _ h => h) (Or.inl ⟨by rfl, ?_⟩) ?_ ?_
              rotate_left
              · intro w'
                go_simp
                with_reducible rfl
              rotate_left
              · simp only [Act.put, List.setIfInBounds_toArray, List.set_cons_zero, List.set_cons_succ, i64_w, i32_w]
                rfl
              refine pure_ (i := 22) (N := some 50) (v := ?_) (a' := ?_) #[true, true, true, true, true, true, true, true, true, true, true, true, true, true, true, true, true, true, true, true, true, true, true, false, false, false, false, false, false, false] rfl rfl (any_of HT_.out (by kernel_rfl)) (fun _ _ _ h => h) (Or.inl ⟨by rfl, ?_⟩) ?_ ?_
              rotate_left
              · intro w'
                go_simp
                with_reducible rfl
              rotate_left
              · simp only [Act.put, List.setIfInBounds_toArray, List.set_cons_zero, List.set_cons_succ, i64_w, i32_w]
                rfl
              refine pure_ (i := 23) (N := some 51) (v := ?_) (a' := ?_) #[true, true, true, true, true, true, true, true, true, true, true, true, true, true, true, true, true, true, true, true, true, true, true, true, false, false, false, false, false, false] rfl rfl (any_of HT_.out (by kernel_rfl)) (fun _ _ _ h => h) (Or.inl ⟨by rfl, ?_⟩) ?_ ?_
              rotate_left
              · intro w'
                go_simp
                with_reducible rfl
              rotate_left
              · simp only [Act.put, List.setIfInBounds_toArray, List.set_cons_zero, List.set_cons_succ, i64_w, i32_w]
                rfl
              refine pure_ (i := 24) (N := some 52) (v := ?_) (a' := ?_) #[true, true, true, true, true, true, true, true, true, true, true, true, true, true, true, true, true, true, true, true, true, true, true, true, true, false, false, false, false, false] rfl rfl (any_of HT_.out (by kernel_rfl)) (fun _ _ _ h => h) (Or.inl ⟨by rfl, ?_⟩) ?_ ?_
              rotate_left
              · intro w'
                go_simp
                with_reducible rfl
              rotate_left
              · simp only [Act.put, List.setIfInBounds_toArray, List.set_cons_zero, List.set_cons_succ, i64_w, i32_w]
                rfl
              refine take_ (i := 25) (N := some 53) (v := ?_) (a' := ?_) #[true, true, true, true, true, true, true, true, true, true, true, true, true, true, true, true, true, true, true, true, true, true, true, true, true, true, false, false, false, false] rfl rfl (take_ofW HT_.out HW_.out (by kernel_rfl)) (fun _ _ _ h => h) (Or.inl ⟨by rfl, ?_⟩) hHeld ?_ ?_
              rotate_left
              · rintro w' ⟨s0, s1, s2, s3, s4, s5, s6, s7, s8, s9, s10, s11⟩
                go_simp
                with_reducible rfl
              rotate_left
              · simp only [Act.put, List.setIfInBounds_toArray, List.set_cons_zero, List.set_cons_succ, i64_w, i32_w]
                rfl
              refine one_ (i := 26) (N := some 54) #[true, true, true, true, true, true, true, true, true, true, true, true, true, true, true, true, true, true, true, true, true, true, true, true, true, true, true, false, false, false] rfl rfl (one_of HT_.out (by kernel_rfl)) (by decide) (fun K hK => ?_)
              refine goes_ Tryd.func16 (by kernel_rfl) rfl #[.int .i64 0] (by rfl) rfl rfl (by (try simp only [List.map_toArray, List.map_cons, List.map_nil]); first | done | rfl | (simp only [List.length_drop, List.length_take]; rfl)) ?_
              with_reducible refine (gumshoelaw06_num.calls 0 t329 t330 t331 _ A22.out).mono ?_
              rintro e w57 ⟨rfl, hb⟩
              refine ⟨_, rfl, ?_⟩
              have n0_ := Aside0.mk (blk_below (g := gb294) (o := .cells #[.int .i64 a0_0, .int .i64 a0_1, .string a0_2] 23 (0, 0)) (by (with_reducible repeat (first | refine blk_drewN ?_ _ | refine blk_drew ?_ | refine blk_alloc ?_ _)); exact BK294.out) hb)
              have n1_ := Aside0.mk (blk_below (g := gb303) (o := .cells #[.int .i64 t300, .int .i64 t301, .string t302] 23 (0, 0)) (by (with_reducible repeat (first | refine blk_drewN ?_ _ | refine blk_drew ?_ | refine blk_alloc ?_ _)); exact BK303.out) hb)
              have n2_ := Aside0.mk (blk_below (g := gb310) (o := .cells #[.int .i64 t307, .int .i64 t308, .string t309] 23 (0, 0)) (by (with_reducible repeat (first | refine blk_drewN ?_ _ | refine blk_drew ?_ | refine blk_alloc ?_ _)); exact BK310.out) hb)
              have n3_ := Aside0.mk (blk_below (g := gb322) (o := .cells #[.int .i64 t318, .int .i64 t319, .string t320] 23 (0, 0)) (by (with_reducible repeat (first | refine blk_drewN ?_ _ | refine blk_drew ?_ | refine blk_alloc ?_ _)); exact BK322.out) hb)
              have n4_ := Aside0.mk (below_step (by repeat (first | (with_reducible first | exact HB.out | apply below_alloc | apply pw_below_drewN | apply below_drew1 | refine below_set ?_ GE294.out | refine below_set ?_ GE303.out | refine below_set ?_ GE310.out | refine below_set ?_ GE322.out) | exact HB.out)) hb)
              clear BK294
              clear BK303
              clear BK310
              clear BK322
              clear HB
              have BK294 := n0_
              have BK303 := n1_
              have BK310 := n2_
              have BK322 := n3_
              have HB := n4_
              clear n0_ n1_ n2_ n3_ n4_
              (try clear hb)
              (try clear hb2)
              (try clear hk)
              (try clear hi)
              refine hK.out _ _ ⟨(blk_cell BK303.out 0).trans rfl, (blk_cell BK303.out 1).trans rfl, (blk_cell BK303.out 2).trans rfl, (blk_cell BK294.out 0).trans rfl, (blk_cell BK294.out 1).trans rfl, (blk_cell BK294.out 2).trans rfl, (blk_cell BK310.out 0).trans rfl, (blk_cell BK310.out 1).trans rfl, (blk_cell BK310.out 2).trans rfl, (blk_cell BK322.out 0).trans rfl, (blk_cell BK322.out 1).trans rfl, (blk_cell BK322.out 2).trans rfl⟩ (fun hHeld => ?_)
              clear hK K
              refine norm_ (a' := ?_) ?_ ?_
              rotate_left
              · show Act.put _ (some 54) _ = _
                simp only [Act.put, List.setIfInBounds_toArray, List.set_cons_zero, List.set_cons_succ, i64_w, i32_w]
                rfl
              refine pure_ (i := 27) (N := some 55) (v := ?_) (a' := ?_) #[true, true, true, true, true, true, true, true, true, true, true, true, true, true, true, true, true, true, true, true, true, true, true, true, true, true, true, true, false, false] rfl rfl (any_of HT_.out (by kernel_rfl)) (fun _ _ _ h => h) (Or.inl ⟨by rfl, ?_⟩) ?_ ?_
              rotate_left
              · intro w'
                go_simp
                with_reducible rfl
              rotate_left
              · simp only [Act.put, List.setIfInBounds_toArray, List.set_cons_zero, List.set_cons_succ, i64_w, i32_w]
                rfl
              refine pure_ (i := 28) (N := some 56) (v := ?_) (a' := ?_) #[true, true, true, true, true, true, true, true, true, true, true, true, true, true, true, true, true, true, true, true, true, true, true, true, true, true, true, true, true, false] rfl rfl (any_of HT_.out (by kernel_rfl)) (fun _ _ _ h => h) (Or.inl ⟨by rfl, ?_⟩) ?_ ?_
              rotate_left
              · intro w'
                go_simp
                with_reducible rfl
              rotate_left
              · simp only [Act.put, List.setIfInBounds_toArray, List.set_cons_zero, List.set_cons_succ, i64_w, i32_w]
                rfl
              refine pure_ (i := 29) (N := some 2) (v := ?_) (a' := ?_) #[true, true, true, true, true, true, true, true, true, true, true, true, true, true, true, true, true, true, true, true, true, true, true, true, true, true, true, true, true, true] rfl rfl (any_of HT_.out (by kernel_rfl)) (fun _ _ _ h => h) (Or.inl ⟨by rfl, ?_⟩) ?_ ?_
              rotate_left
              · intro w'
                go_simp
                with_reducible rfl
              rotate_left
              · simp only [Act.put, List.setIfInBounds_toArray, List.set_cons_zero, List.set_cons_succ, i64_w, i32_w]
                rfl
              refine done_ (done_of HT_.out (by kernel_rfl)) ?_
              try go_wp2
              go_ret
              exact ⟨by first | rfl | (simp [errW_none, errW_some] <;> rfl) | (simp [*, errW_none, errW_some] <;> rfl) | (simp [*, errW_none, errW_some]; exact (fun (l_ : List UInt8) => (by cases l_ <;> rfl : l_.isEmpty = !(l_ != []))) _), by repeat (first | (with_reducible first | exact HB.out | apply below_alloc | apply pw_below_drewN | apply below_drew1 | refine below_set ?_ GE294.out | refine below_set ?_ GE303.out | refine below_set ?_ GE310.out | refine below_set ?_ GE322.out) | exact HB.out)⟩
            · rw [if_neg c21] at H
              exact absurd H (by simp)
          · rw [if_neg c20] at H
            exact absurd H (by simp)
        · rw [if_neg c19] at H
          exact absurd H (by simp)
      · rw [if_neg c16] at H
        exact absurd H (by simp)
    · replace c13 := Bool.eq_false_iff.mpr c13
      subst c13
      have H1 : (none) = some r := by rw [if_neg (show ¬ (false = true) by decide)] at H; exact H
      clear H
      have H := H1
      clear H1
      exact absurd H (by simp)
  · replace c4 := Bool.eq_false_iff.mpr c4
    subst c4
    have H1 : (some t295) = some r := by rw [if_neg (show ¬ (false = true) by decide)] at H; exact H
    clear H
    have H := H1
    clear H1
    obtain rfl := Option.some.inj H
    go_enter Tryd.func10, Tryd.ntmps10
    go_wp2_with (first | ((with_reducible refine gate_dst (N := 1) rfl ?_); refine box_event ?hg (N := 1) ?hd (cs := #[.int .i64 a0_0, .int .i64 a0_1, .string a0_2]) (t := 23) ?hr ?_; (case hd => rfl); (case hg => rfl); (case hr => first | (go_simp; done) | (go_simp; rfl)); intro gb294 hg w58 hbox hb; have n0_ := Aside0.mk (below_step (by repeat (first | (with_reducible first | exact HB.out | apply below_alloc | apply pw_below_drewN | apply below_drew1) | exact HB.out)) hb); have n1_ := Aside0.mk (hbox); have n2_ := Aside0.mk ((by rw [hg]; exact (below_size (by repeat (first | (with_reducible first | exact HB.out | apply below_alloc | apply pw_below_drewN | apply below_drew1) | exact HB.out))) : w.heap.size ≤ gb294)); have n3_ := Aside0.mk ((by rw [hg]; exact (below_size (by repeat (first | (with_reducible first | exact HB.out | apply below_alloc | apply pw_below_drewN | apply below_drew1) | exact HB.out))) : w.heap.size ≤ gb294)); clear HB; have HB := n0_; have BK294 := n1_; have GW294 := n2_; have GE294 := n3_; clear n0_ n1_ n2_ n3_; clear hb hbox hg) | ((with_reducible refine gate_callee (f := 11) rfl ?_); refine goesL_ (some 8) rfl rfl Tryd.func11 (by kernel_rfl) rfl #[] rfl (by (try simp only [List.map_toArray, List.map_cons, List.map_nil]); first | done | rfl | (simp only [List.length_drop, List.length_take]; rfl)) ?_; (with_reducible refine (gumshoelaw06_shown.calls (hL := ?sideL)  t295 _ A2.out).mono ?_); (case sideL => exact Laid.below HL.out (by repeat (first | (with_reducible first | exact HB.out | apply below_alloc | apply pw_below_drewN | apply below_drew1 | refine below_set ?_ GE294.out) | exact HB.out))); rintro e w59 ⟨rfl, hb⟩; refine ⟨_, rfl, ?_⟩; have n0_ := Aside0.mk (blk_below (g := gb294) (o := .cells #[.int .i64 a0_0, .int .i64 a0_1, .string a0_2] 23 (0, 0)) (by (with_reducible repeat (first | refine blk_drewN ?_ _ | refine blk_drew ?_ | refine blk_alloc ?_ _)); exact BK294.out) hb); have n1_ := Aside0.mk (below_step (by repeat (first | (with_reducible first | exact HB.out | apply below_alloc | apply pw_below_drewN | apply below_drew1 | refine below_set ?_ GE294.out) | exact HB.out)) hb); clear BK294; clear HB; have BK294 := n0_; have HB := n1_; clear n0_ n1_; (try clear hb); (try clear hb2); (try clear hk); (try clear hi); have hcz60_0 : w59.cell? ⟨gb294, 0, none⟩ = some (.int .i64 a0_0) := (blk_cell BK294.out 0).trans rfl; have hcz60_1 : w59.cell? ⟨gb294, 1, none⟩ = some (.int .i64 a0_1) := (blk_cell BK294.out 1).trans rfl; have hcz60_2 : w59.cell? ⟨gb294, 2, none⟩ = some (.string a0_2) := (blk_cell BK294.out 2).trans rfl; have hfz60_0 := blk_frozen BK294.out 0; have hfz60_1 := blk_frozen BK294.out 1; have hfz60_2 := blk_frozen BK294.out 2) | ((with_reducible refine gate_callee (f := 19) rfl ?_); refine goesL_ (some 10) rfl rfl Tryd.func19 (by kernel_rfl) rfl #[.agg #[.int .i64 a0_0, .int .i64 a0_1, .string a0_2]] rfl (by (try simp only [List.map_toArray, List.map_cons, List.map_nil]); first | done | rfl | (simp only [List.length_drop, List.length_take]; rfl)) ?_; (with_reducible refine (value_Right.calls a0_0 a0_1 a0_2 false _ A3.out).mono ?_); rintro e w61 ⟨rfl, hb⟩; refine ⟨_, rfl, ?_⟩; have n0_ := Aside0.mk (blk_below (g := gb294) (o := .cells #[.int .i64 a0_0, .int .i64 a0_1, .string a0_2] 23 (0, 0)) (by (with_reducible repeat (first | refine blk_drewN ?_ _ | refine blk_drew ?_ | refine blk_alloc ?_ _)); exact BK294.out) hb); have n1_ := Aside0.mk (below_step (by repeat (first | (with_reducible first | exact HB.out | apply below_alloc | apply pw_below_drewN | apply below_drew1 | refine below_set ?_ GE294.out) | exact HB.out)) hb); clear BK294; clear HB; have BK294 := n0_; have HB := n1_; clear n0_ n1_; (try clear hb); (try clear hb2); (try clear hk); (try clear hi)))
    go_ret
    exact ⟨by first | rfl | (simp [errW_none, errW_some] <;> rfl) | (simp [*, errW_none, errW_some] <;> rfl) | (simp [*, errW_none, errW_some]; exact (fun (l_ : List UInt8) => (by cases l_ <;> rfl : l_.isEmpty = !(l_ != []))) _), by repeat (first | (with_reducible first | exact HB.out | apply below_alloc | apply pw_below_drewN | apply below_drew1 | refine below_set ?_ GE294.out) | exact HB.out)⟩
end Go.Proofs.YtmdchbenalhpjaaDoor.Pv

/- The plain law of ValueTurns. No condition. -/
namespace Go.Proofs.YtmdchbenalhpjaaDoor.Pure
open Go.RowKit Go.Proofs.YtmdchbenalhpjaaDoorW.PrintWords Go.Proofs.YtmdchbenalhpjaaDoorW.PrintLast Go.Proofs.YtmdchbenalhpjaaDoor.Va Go.Proofs.YtmdchbenalhpjaaDoor.Vb Go.Proofs.YtmdchbenalhpjaaDoor.Vc Go.Proofs.YtmdchbenalhpjaaDoor.Pv
set_option linter.unusedVariables false
set_option linter.unusedSimpArgs false
theorem neg_neg_wrap (x : Int) (h : I64 x) : wrap64 (-(wrap64 (-x))) = x := by
  obtain ⟨h1, h2⟩ := h
  unfold wrap64
  omega
theorem neg_add_wrap (x : Int) (h : I64 x) : wrap64 (wrap64 (-x) + x) = 0 := by
  obtain ⟨h1, h2⟩ := h
  unfold wrap64
  omega
theorem num3' (n : Int) : numS 3 n ⟨#[]⟩ = n := by unfold numS; rw [if_pos (by decide)]
theorem truthy_bool'' (b : Bool) : truthyS 2 (if b then 1 else 0) ⟨#[]⟩ = b := by cases b <;> rfl
theorem ValueTurns (a0 a1 : Int) (a2 : ByteArray) (h : I64 a1) (hs : a2.size ≤ 140737488355328) : gumshoelaw06_ValueTurns.f a0 a1 a2 = some true := by
  have hf : FB a1 a2 := fb h hs
  unfold gumshoelaw06_ValueTurns.f
  rw [shown_tells]
  simp only [Option.bind_some, Vb.value_Right.f]
  by_cases hr : rightS a0 a1 a2 = true
  · rw [if_pos hr]
    have hn := numS_i64 a0 a1 a2 h
    have f1 : FB (wrap64 (-numS a0 a1 a2)) ⟨#[]⟩ := fit_num _ (wrap_i64 _)
    have t1 := val_two ⟨#[43]⟩ 3 (wrap64 (-numS a0 a1 a2)) ⟨#[]⟩ 3 (numS a0 a1 a2) ⟨#[]⟩ f1 (fit_num _ hn) (by decide) _ _ (two_addn _ _ (by simp))
    simp only at t1
    rw [num3', num3', neg_add_wrap _ hn] at t1
    simp only [Vb.value_Neg.f, Vb.value_Not.f, Vb.value_Num.f, Vb.gumshoelaw06_num.f, Vb.value_Truthy.f, if_pos hf, negS, boolS, Option.bind_some, if_pos f1, num3', t1, if_true, neg_neg_wrap _ hn, beq3, truthy_bool'', Bool.not_not, beq_self_eq_true]
    rfl
  · rw [if_neg hr]
end Go.Proofs.YtmdchbenalhpjaaDoor.Pure

/- ValueTurns: for every input the law returns true, and each argument reads as it did; its row, and its tied card. No condition but those of the card. -/
namespace Go.Proofs.YtmdchbenalhpjaaDoor.valueTurns
open Go.ChangeShapes Go.WideShapes Go.ChangeAt Go.RowKit
open Go.ChangeMaps (open_string shut_string)
open Go.Proofs.YtmdchbenalhpjaaDoor Go.Proofs.YtmdchbenalhpjaaDoor.Vc Go.Proofs.YtmdchbenalhpjaaDoorW.PrintWords
set_option linter.unusedVariables false
set_option maxRecDepth 100000 in
theorem lifted (os : Os) (started : os.Started) (H : Type) (enc : TypeId × Value → H) :
    ReturnsInHanded {} Tryd.checked os 10 .any (fun w args => (Rows.valueTurnsSpec.pre enc Tryd.prog Tryd.f10 [] false w args ∧ laidMetH Tryd.prog five w) ∧ sizedMet enc Tryd.prog Tryd.f10 (OpenSpec.ofChange Rows.valueTurnsSpec) false w args) (Rows.valueTurnsSpec.post enc Tryd.prog Tryd.f10 false true false false) := by
  refine returnsInHanded_of_change_and (C := Tryd.checked) (X := fun w _ => laidMetH Tryd.prog five w) (fun _ _ _ hh h => h.of_heap hh) own started (by kernel_rfl) Tryd.func10
    (ChangeSpec.witness_shaped (enc := enc) (C := Tryd.checked) (os := os) (X := fun w _ => laidMetH Tryd.prog five w) false (World.doorLaid Tryd.prog 400 os) #[.agg #[.int .i64 0, .int .i64 0, .string ByteArray.empty]] 8 rfl (World.shaped_of_RefB (by kernel_rfl) (by kernel_rfl)) (by kernel_rfl) (by kernel_rfl) (by kernel_rfl) (door_met os _)) ?_
  intro W base args ds gs before hval0 hW _ hsz0 hL0 _
  have hL := laid_of hL0
  have hsz : (DataW.weightsEach Tryd.prog (Tryd.f10.params.toList ++ Rows.valueTurnsSpec.plain.varTypes Tryd.prog) (ds ++ gs)).all (· ≤ reachBytes) = true := hsz0
  have hval : ∀ (j : Nat) t v, Tryd.f10.params[j]? = some t → args[j]? = some v → Value.okWide Tryd.prog W .any base t v := hval0
  have hW' := hW
  obtain ⟨p, q, hA0, hV, rfl, hfz, hnd⟩ := hW
  have hA : DataW.TrodAll enc Tryd.prog W 0 (fun _ => true) true Tryd.f10.params.toList args.toList ds p := hA0
  rw [Tryd.params10] at hA hval hsz
  obtain ⟨v0, vs0, d0, ds0, p0, q0, hargs, rfl, rfl, h0, r0⟩ := trodAll_cons hA
  obtain ⟨rfl, rfl, rfl⟩ := trodAll_nil r0
  obtain rfl : args = #[v0] := by cases args; simp_all
  obtain ⟨rfl, rfl⟩ := trodVars_none hV
  have k0 := h0
  obtain ⟨n0, m0, t0, rfl, rfl, rfl, w0⟩ := open_val (hval 0 23 v0 rfl rfl) h0
  have y0 : t0.size ≤ 140737488355328 := by
    have z := val_size hsz (j := 0) rfl rfl
    rw [Array.length_toList] at z
    exact Nat.le_trans z (by decide)
  clear hA0 hval0 hsz0 hsz hL0
  have hP := Pure.ValueTurns n0 m0 t0 (Va.i64_of_wf w0) y0
  refine (Pv.gumshoelaw06_ValueTurns.calls n0 m0 t0 true W hL hP).mono fun e W' ⟨he, bel⟩ => ?_
  subst he
  exact ⟨_, rfl, _, _, _, [], _, [], hW', trodAll_mk1 (shut_bool Tryd.underlying4 _), (trodAll_cons_mk (Below.trod laidOut (by kernel_rfl) (of_decide_eq_true (by kernel_rfl)) k0 bel (fun _ h => by cases h)) trodAll_mk0), rfl, bel.frame _, fun h => by cases h⟩
theorem over : Rows.valueTurnsRow.holds Tryd.pinned (OpenSpec.ofChange Rows.valueTurnsSpec) :=
  OpenClaim.holds_of_wide 10 Tryd.f10 rfl rfl rfl rfl rfl rfl rfl ⟨rfl, rfl, rfl, rfl, rfl⟩ rfl rfl rfl rfl rfl (by kernel_rfl) Tryd.func10 (by kernel_rfl)
    (of_decide_eq_true (by kernel_rfl)) (by unfold Func.isWrapper; first | (rw [if_pos (by decide +kernel)]; kernel_rfl) | (rw [if_neg (by decide +kernel)]; exact ⟨rfl, rfl⟩))
    (fun os started H enc _ => lifted os started H enc)
set_option maxRecDepth 100000 in
theorem card : Rows.ValueTurnsCardSaid :=
  Claim7.holds_tied_plain_at .later [] [.data, .data, .data, .sentinel, .sentinel] true (true, "d82c5c0de405e83e82bf696796706ff586f4c8c76fc44cb8e04d5bc6808d8ed8") true
    over (fun _ h => by cases h) (by kernel_rfl) (fun _ h => by cases h) valueTurns_row_tie rfl ⟨rfl, rfl⟩ (by kernel_rfl) rfl
    (fun f fn hf hfn => by
      obtain rfl : f = 10 := Option.some.inj ((show Tryd.prog.funcNamed "gumshoe/gumshoelaw06.ValueTurns" = some 10 by kernel_rfl).symm.trans hf) |>.symm
      obtain rfl : fn = Tryd.f10 := (Option.some.inj (Tryd.func10.symm.trans hfn)).symm
      exact ⟨by kernel_rfl, fun j t ht => by
        rw [Tryd.params10] at ht
        have hm : t ∈ [23] := by simpa using Array.mem_of_getElem? ht
        have hall : ([23].all fun u => !Tryd.prog.wantsStandIn u) = true := by kernel_rfl
        exact (show Tryd.prog.wantsStandIn t = false by simpa using List.all_eq_true.1 hall t hm)⟩)
    (by kernel_rfl)
end Go.Proofs.YtmdchbenalhpjaaDoor.valueTurns
namespace Go.Proofs.YtmdchbenalhpjaaDoor
theorem valueTurns_holds : Rows.ValueTurnsCardSaid := valueTurns.card
end Go.Proofs.YtmdchbenalhpjaaDoor

