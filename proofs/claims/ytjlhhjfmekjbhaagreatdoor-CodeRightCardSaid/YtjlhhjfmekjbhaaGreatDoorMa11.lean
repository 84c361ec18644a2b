/- Lemmas for the claims of this seat (own texts, packed; what the claims do not use is left out). No condition. -/
import Derived.Test.YtjlhhjfmekjbhaaGreatDoorProg
import Derived.Below
import Derived.Deep.Draws
import Derived.Deep.AppendLies
import Derived.Maps.AppendAt
import Derived.OwnWalk
import Derived.Laws.BytesArg
import Derived.Laws.MakeOwn
import Derived.Laws.OwnMore
import Derived.Deep.OwnRows
import Derived.Tactics
import Derived.Lib.ConvBytes
import Derived.Laws.Slices
import Derived.WalkKit
import Derived.KernelRfl
import Derived.RowKit3
import Derived.Deep.LoopGhost
import Derived.Deep.QuietTactic
import Derived.BigQuiet
import Derived.WideLaws
import Derived.Deep.DeepCutAuto
import Derived.Deep.CutBlock
import Derived.Deep.RegionHeld3
import Derived.Laws.Rows
import Derived.Lib.AppendStr
import Derived.ArgAppend
import Derived.Laws.IdiomCopy
import Derived.OrdersHeld
import Derived.Laws.BitsLemmas
import Derived.RowKit
import Derived.Deep.Slices
import Derived.ChangeSlices
import Derived.DataReads
import Derived.Test.YtjlhhjfmekjbhaaGreatDoorRows
import Derived.Lib.LaidTab
import Derived.Stop.LaidErr
import Derived.LaidSub
import Derived.LaidMore
import Derived.MakeChecks
import Derived.ProofKit
import Derived.OpenShut
import Derived.ShutString
import Derived.ChangeOld
import Derived.SizedLaws
import Derived.Handed
import Derived.Test.YtjlhhjfmekjbhaaGreatDoorMa0
import Derived.Test.YtjlhhjfmekjbhaaGreatDoorMa1
import Derived.Test.YtjlhhjfmekjbhaaGreatDoorMa9
import Derived.Test.YtjlhhjfmekjbhaaGreatDoorMa10
/- code.Right and code.Same as contracts that hprint takes. No condition. -/
namespace Go.Proofs.YtjlhhjfmekjbhaaGreatDoor.Ve
open Go.RowKit Go.Proofs.YtjlhhjfmekjbhaaGreatDoorW.PrintWords Go.Proofs.YtjlhhjfmekjbhaaGreatDoorW.PrintLast Go.Proofs.YtjlhhjfmekjbhaaGreatDoorW.PrintMore Go.Proofs.YtjlhhjfmekjbhaaGreatDoor.Cd Go.Proofs.YtjlhhjfmekjbhaaGreatDoor.Pq
set_option linter.unusedVariables false
set_option linter.unusedSimpArgs false
abbrev Laid (w : World) : Prop := Va.Laid w
def wfX (x : S31) : Bool := (Lit.int .i64 x.f0).wf && (decide (x.f5.size ≤ maxLen) && decide (x.f7.length ≤ 140737488355328))
def wfL (l : List S28) : Bool := decide (l.length ≤ 140737488355328) && l.all fun p => decide (p.f1.length ≤ 140737488355328) && p.f1.all wfX
theorem wfX_ok {x : S31} (h : wfX x = true) : WfX x := by
  simp only [wfX, Bool.and_eq_true, decide_eq_true_eq] at h
  exact ⟨h.1, h.2.1, h.2.2⟩
theorem wfL_ok {l : List S28} (h : wfL l = true) : WfL l := by
  simp only [wfL, Bool.and_eq_true, decide_eq_true_eq, List.all_eq_true] at h
  exact ⟨h.1, fun p hp => ⟨(h.2 p hp).1, fun x hx => wfX_ok ((h.2 p hp).2 x hx)⟩⟩
def code_Right.f (l : List S28) : Option Bool := if wfL l = true then some (codeS l) else none
theorem code_Right.calls (A0 : Option Addr) (c0 : Nat) (l0 : List S28) (r : Bool) (w : World) (hL : Laid w) (hr0 : Kd.C k28 w A0 l0.length l0) (hc0 : l0.length ≤ c0) (h : code_Right.f l0 = some r) :
    Calls Tryz.prog 12 #[.slice A0 l0.length c0] w fun e w' => e = .returned (.bool r) ∧ Below w.heap.size w w' := by
  unfold code_Right.f at h
  by_cases hw : wfL l0 = true
  case neg => rw [if_neg hw] at h; cases h
  rw [if_pos hw] at h
  obtain rfl := Option.some.inj h
  exact right_calls A0 c0 l0 w hL hr0 hc0 (wfL_ok hw)
def code_Same.f (a b : List S28) : Option Bool := if wfL a = true ∧ wfL b = true then some (sameS a b) else none
end Go.Proofs.YtjlhhjfmekjbhaaGreatDoor.Ve

/- What the laws of code call, as contracts that hprint takes. No condition. -/
namespace Go.Proofs.YtjlhhjfmekjbhaaGreatDoor.Vg
open Go.RowKit Go.Proofs.YtjlhhjfmekjbhaaGreatDoorW.PrintWords Go.Proofs.YtjlhhjfmekjbhaaGreatDoorW.PrintLast Go.Proofs.YtjlhhjfmekjbhaaGreatDoorW.PrintMore Go.Proofs.YtjlhhjfmekjbhaaGreatDoor.Cd Go.Proofs.YtjlhhjfmekjbhaaGreatDoor.Cf Go.Proofs.YtjlhhjfmekjbhaaGreatDoor.Sh Go.Proofs.YtjlhhjfmekjbhaaGreatDoor.Vf
open Go.Proofs.YtjlhhjfmekjbhaaGreatDoor.Pq (S31 S28 k31 k28)
set_option linter.unusedVariables false
set_option linter.unusedSimpArgs false
abbrev Laid (w : World) : Prop := Va.Laid w
theorem Laid.below {w w' : World} (h : Laid w) (hb : Below w.heap.size w w') : Laid w' := Va.Laid.below h hb
def i64b (n : Int) : Bool := decide (-9223372036854775808 ≤ n) && decide (n ≤ 9223372036854775807)
theorem i64b_ok {n : Int} (h : i64b n = true) : B64 n := by
  simp only [i64b, Bool.and_eq_true, decide_eq_true_eq] at h
  exact h
def okX (x : X) : Bool := i64b x.f0 && (i64b x.f1 && (i64b x.f2 && (i64b x.f3 && (i64b x.f4 && (i64b x.f6 && (x.f7.all i64b && (decide (x.f7.length ≤ 100) && decide (x.f5.size ≤ 1000000))))))))
def okP (p : P) : Bool := i64b p.f0 && (decide (p.f1.length ≤ 100) && p.f1.all okX)
def okB (l : List P) : Bool := decide (l.length ≤ 100) && (l.all okP && decide ((showL l).length ≤ 17592186044416))
structure OkX (x : X) : Prop where
  sm : SmX x
  l7 : x.f7.length ≤ 100
  l5 : x.f5.size ≤ 1000000
theorem okX_ok {x : X} (h : okX x = true) : OkX x := by
  simp only [okX, Bool.and_eq_true, decide_eq_true_eq, List.all_eq_true] at h
  obtain ⟨h0, h1, h2, h3, h4, h6, h7, hl, hs⟩ := h
  exact ⟨⟨i64b_ok h0, i64b_ok h1, i64b_ok h2, i64b_ok h3, i64b_ok h4, i64b_ok h6, fun n hn => i64b_ok (h7 n hn), by omega, hs⟩, hl, hs⟩
theorem okP_ok {p : P} (h : okP p = true) : B64 p.f0 ∧ p.f1.length ≤ 100 ∧ ∀ x ∈ p.f1, OkX x := by
  simp only [okP, Bool.and_eq_true, decide_eq_true_eq, List.all_eq_true] at h
  exact ⟨i64b_ok h.1, h.2.1, fun x hx => okX_ok (h.2.2 x hx)⟩
theorem okB_all {l : List P} (h : okB l = true) : l.length ≤ 100 ∧ (∀ p ∈ l, B64 p.f0 ∧ p.f1.length ≤ 100 ∧ ∀ x ∈ p.f1, OkX x) ∧ (showL l).length ≤ 17592186044416 := by
  simp only [okB, Bool.and_eq_true, decide_eq_true_eq, List.all_eq_true] at h
  exact ⟨h.1, fun p hp => okP_ok (h.2.1 p hp), h.2.2⟩
theorem wf_of (n : Int) (h : B64 n) : (Lit.int .i64 n).wf = true := by
  have e : IntKind.i64.min = -9223372036854775808 := rfl
  simp [Lit.wf, IntKind.wrap_i64]
  rw [e]
  exact h
theorem ok_wf {l : List P} (h : okB l = true) : WfL l := by
  obtain ⟨h1, h2, h3⟩ := okB_all h
  exact ⟨by omega, fun p hp => ⟨by have := (h2 p hp).2.1; omega, fun x hx => ⟨wf_of _ ((h2 p hp).2.2 x hx).sm.h0, by have := ((h2 p hp).2.2 x hx).l5; simp only [maxLen]; omega, by have := ((h2 p hp).2.2 x hx).l7; omega⟩⟩⟩
theorem ok_tiny {l : List P} (h : okB l = true) : TinyL l := by
  obtain ⟨h1, h2, h3⟩ := okB_all h
  exact ⟨h1, fun p hp => ⟨(h2 p hp).2.1, fun x hx => ⟨((h2 p hp).2.2 x hx).sm.h6.1, ((h2 p hp).2.2 x hx).sm.h6.2, ((h2 p hp).2.2 x hx).l7⟩⟩⟩
theorem ok_sm {l : List P} (h : okB l = true) : SmL l := by
  obtain ⟨h1, h2, h3⟩ := okB_all h
  exact ⟨h3, fun p hp => ⟨(h2 p hp).1, fun x hx => ((h2 p hp).2.2 x hx).sm⟩⟩
def code_Right.f (l : List S28) : Option Bool := Ve.code_Right.f l
theorem code_Right.calls (A0 : Option Addr) (c0 : Nat) (l0 : List S28) (r : Bool) (w : World) (hL : Laid w) (hr0 : Kd.C k28 w A0 l0.length l0) (hc0 : l0.length ≤ c0) (h : code_Right.f l0 = some r) :
    Calls Tryz.prog 12 #[.slice A0 l0.length c0] w fun e w' => e = .returned (.bool r) ∧ Below w.heap.size w w' := Ve.code_Right.calls A0 c0 l0 r w hL hr0 hc0 h
def code_Same.f (a b : List S28) : Option Bool := if okB a = true ∧ okB b = true then some (sameS a b) else none
def code_Show.f (l : List S28) : Option (ByteArray × Int) := if okB l = true then some (showR l) else none
theorem code_Show.calls (A0 : Option Addr) (c0 : Nat) (l0 : List S28) (r1 : ByteArray) (r2 : Int) (w : World) (hL : Laid w) (hr0 : Kd.C k28 w A0 l0.length l0) (hc0 : l0.length ≤ c0) (h : code_Show.f l0 = some (r1, r2)) :
    Calls Tryz.prog 14 #[.slice A0 l0.length c0] w fun e w' => e = .returned (.tuple #[.string r1, .int .i64 r2]) ∧ Below w.heap.size w w' := by
  unfold code_Show.f at h
  by_cases hw : okB l0 = true
  case neg => rw [if_neg hw] at h; cases h
  rw [if_pos hw] at h
  have h := Option.some.inj h
  unfold showR at h
  cases hc : codeS l0 with
  | true =>
    rw [hc, if_pos rfl] at h
    obtain ⟨rfl, rfl⟩ := Prod.mk.inj h
    exact show_good A0 c0 l0 w hL hr0 hc0 (ok_wf hw) hc (ok_sm hw)
  | false =>
    rw [hc, if_neg (by decide)] at h
    obtain ⟨rfl, rfl⟩ := Prod.mk.inj h
    exact show_bad A0 c0 l0 w hL hr0 hc0 (ok_wf hw) hc
def code_Marks.f (l : List S28) : Option (List Int) := if okB l = true then some (marksL l) else none
def gumshoeref09_Right.f (l : List S28) : Option Bool := if okB l = true then some (codeS l) else none
theorem gumshoeref09_Right.calls (A0 : Option Addr) (c0 : Nat) (l0 : List S28) (r : Bool) (w : World) (hr0 : Kd.C k28 w A0 l0.length l0) (hc0 : l0.length ≤ c0) (h : gumshoeref09_Right.f l0 = some r) :
    Calls Tryz.prog 13 #[.slice A0 l0.length c0] w fun e w' => e = .returned (.bool r) ∧ Below w.heap.size w w' := by
  unfold gumshoeref09_Right.f at h
  by_cases hw : okB l0 = true
  case neg => rw [if_neg hw] at h; cases h
  rw [if_pos hw] at h
  obtain ⟨k, hk⟩ := (right_ev l0 (ok_tiny hw)).ex
  exact Pq.gumshoeref09_Right.calls k A0 c0 l0 r w hr0 hc0 (hk.trans h)
def gumshoeref09_Show.f (l : List S28) : Option (ByteArray × Int) := if okB l = true then some (showR l) else none
def gumshoeref09_Same.f (a b : List S28) : Option Bool := if okB a = true ∧ okB b = true then some (sameS a b) else none
def gumshoeref09_Marks.f (l : List S28) : Option (List Int) := if okB l = true then some (marksL l) else none
def gumshoelaw09_Small.f (l : List S28) : Option Int := some (smallI l)
theorem gumshoelaw09_Small.calls (A0 : Option Addr) (c0 : Nat) (l0 : List S28) (r : Int) (w : World) (hr0 : Kd.C k28 w A0 l0.length l0) (hc0 : l0.length ≤ c0) (h : gumshoelaw09_Small.f l0 = some r) :
    Calls Tryz.prog 11 #[.slice A0 l0.length c0] w fun e w' => e = .returned (.int .i64 r) ∧ Drawn0 w w' := by
  obtain ⟨k, hk⟩ := (small_tells l0).ex
  exact Pq.gumshoelaw09_Small.calls k A0 c0 l0 r w hr0 hc0 (hk.trans h)
def gumshoeref01_Same.f (a b : List Int) : Option Bool := if a.length ≤ 17592186044416 then some (a == b) else none
end Go.Proofs.YtjlhhjfmekjbhaaGreatDoor.Vg

-- WRITTEN BY hprint.py (a patched scratch copy of print.py, see NOTES.md): out of the translation and of contracts proved by hand.
namespace Go.Proofs.YtjlhhjfmekjbhaaGreatDoor.Pv
open Go.Proofs.YtjlhhjfmekjbhaaGreatDoor.Pq (errW errW_none errW_some S31 z31 k31 k31_open k31_mk rd_T31 at_T31 S28 z28 k28 k28_open k28_mk rd_T28 at_T28)
open Go.RowKit Go.Proofs.YtjlhhjfmekjbhaaGreatDoorW.PrintWords Go.Proofs.YtjlhhjfmekjbhaaGreatDoorW.PrintLast Go.Proofs.YtjlhhjfmekjbhaaGreatDoorW.PrintMore
set_option linter.unusedVariables false
set_option linter.unusedSimpArgs false
theorem k31_mkF (W : World) (ok : Nat → Prop) (x : S31) {A7 : Option Addr} {c7 : Nat} (l7 : x.f7.length ≤ c7) (g7 : Kd.F (Kd.int .i64) W ok A7 x.f7.length x.f7) : Kd.FK k31 W ok x [.int .i64 x.f0, .int .i64 x.f1, .int .i64 x.f2, .int .i64 x.f3, .int .i64 x.f4, .string x.f5, .int .i64 x.f6, .slice A7 x.f7.length c7] := fun W2 hW => k31_mk W2 x l7 (g7 W2 hW)
theorem k28_mkF (W : World) (ok : Nat → Prop) (x : S28) {A1 : Option Addr} {c1 : Nat} (l1 : x.f1.length ≤ c1) (g1 : Kd.F k31 W ok A1 x.f1.length x.f1) : Kd.FK k28 W ok x [.int .i64 x.f0, .slice A1 x.f1.length c1] := fun W2 hW => k28_mk W2 x l1 (g1 W2 hW)
end Go.Proofs.YtjlhhjfmekjbhaaGreatDoor.Pv

namespace Go.Proofs.YtjlhhjfmekjbhaaGreatDoor.Pv
open Go.Proofs.YtjlhhjfmekjbhaaGreatDoor.Pq (errW errW_none errW_some S31 z31 k31 k31_open k31_mk rd_T31 at_T31 S28 z28 k28 k28_open k28_mk rd_T28 at_T28)
open Go.RowKit Go.Proofs.YtjlhhjfmekjbhaaGreatDoor.Vg Go.Proofs.YtjlhhjfmekjbhaaGreatDoorW.PrintWords Go.Proofs.YtjlhhjfmekjbhaaGreatDoorW.PrintLast Go.Proofs.YtjlhhjfmekjbhaaGreatDoorW.PrintMore
set_option linter.unusedVariables false
set_option linter.unusedSimpArgs false
/-! ### gumshoelaw09_shown: function 10 -/
def gumshoelaw09_shown.f  : Option (Bool) := (code_Show.f (([(⟨0, (([(⟨20, 0, (-1), 0, 0, (⟨#[]⟩ : ByteArray), 0, ([] : List Int)⟩ : S31)] : List (S31)))⟩ : S28)] : List (S28)))).bind fun bt107 => ((code_Show.f ([] : List (S28))).bind fun bt109 => (if bt107.2 = 0 then (if bt107.1.toList = ([112, 114, 111, 99, 32, 48, 10, 50, 48, 32, 48, 32, 45, 49, 32, 48, 32, 48, 32, 48, 32, 34, 34, 10] : List UInt8) then (some (bt109.2 == 90)) else (none)) else (none)))
set_option maxHeartbeats 8000000 in
set_option maxRecDepth 100000 in
theorem gumshoelaw09_shown.calls  (r : Bool) (w : World) (hL : Laid w) (h : gumshoelaw09_shown.f  = some r) :
  Calls Tryz.prog 10 #[] w fun e w' => e = .returned (.bool r) ∧ Below w.heap.size w w' := by
 have HL := Aside0.mk hL
 clear hL
 have hu31 := Tryz.underlying31
 have hu28 := Tryz.underlying28
 have HB := Aside0.mk (Below.refl w.heap.size w)
 have H : ((code_Show.f (([(⟨0, (([(⟨20, 0, (-1), 0, 0, (⟨#[]⟩ : ByteArray), 0, ([] : List Int)⟩ : S31)] : List (S31)))⟩ : S28)] : List (S28)))).bind fun bt107 => ((code_Show.f ([] : List (S28))).bind fun bt109 => (if bt107.2 = 0 then (if bt107.1.toList = ([112, 114, 111, 99, 32, 48, 10, 50, 48, 32, 48, 32, 45, 49, 32, 48, 32, 48, 32, 48, 32, 34, 34, 10] : List UInt8) then (some (bt109.2 == 90)) else (none)) else (none)))) = some r := h
 clear h
 obtain ⟨y101, hy101⟩ : ∃ y_ : List (S31), y_ = (([(⟨20, 0, (-1), 0, 0, (⟨#[]⟩ : ByteArray), 0, ([] : List Int)⟩ : S31)] : List (S31))) := ⟨_, rfl⟩
 replace H : ((code_Show.f (([(⟨0, y101⟩ : S28)] : List (S28)))).bind fun bt107 => ((code_Show.f ([] : List (S28))).bind fun bt109 => (if bt107.2 = 0 then (if bt107.1.toList = ([112, 114, 111, 99, 32, 48, 10, 50, 48, 32, 48, 32, 45, 49, 32, 48, 32, 48, 32, 48, 32, 34, 34, 10] : List UInt8) then (some (bt109.2 == 90)) else (none)) else (none)))) = some r := by first | (rw [hy101]; with_reducible exact H) | (have H2_ := (Option.bind_some _ _).symm.trans H; rw [hy101]; with_reducible exact H2_) | (have H2_ := (Option.bind_some _ _).symm.trans H; with_reducible exact H2_) | with_reducible exact H | (rw [hy101]; exact H) | exact H
 have Ny101 := Aside0.mk hy101
 clear hy101
 obtain ⟨y104, hy104⟩ : ∃ y_ : List (S28), y_ = (([(⟨0, y101⟩ : S28)] : List (S28))) := ⟨_, rfl⟩
 replace H : ((code_Show.f y104).bind fun bt107 => ((code_Show.f ([] : List (S28))).bind fun bt109 => (if bt107.2 = 0 then (if bt107.1.toList = ([112, 114, 111, 99, 32, 48, 10, 50, 48, 32, 48, 32, 45, 49, 32, 48, 32, 48, 32, 48, 32, 34, 34, 10] : List UInt8) then (some (bt109.2 == 90)) else (none)) else (none)))) = some r := by first | (rw [hy104]; with_reducible exact H) | (have H2_ := (Option.bind_some _ _).symm.trans H; rw [hy104]; with_reducible exact H2_) | (have H2_ := (Option.bind_some _ _).symm.trans H; with_reducible exact H2_) | with_reducible exact H | (rw [hy104]; exact H) | exact H
 have Ny104 := Aside0.mk hy104
 clear hy104
 replace H := Option.bind_eq_some_iff.mp H
 obtain ⟨⟨t107, t108⟩, A10, H⟩ := H
 replace H : ((code_Show.f ([] : List (S28))).bind fun bt109 => (if t108 = 0 then (if t107.toList = ([112, 114, 111, 99, 32, 48, 10, 50, 48, 32, 48, 32, 45, 49, 32, 48, 32, 48, 32, 48, 32, 34, 34, 10] : List UInt8) then (some (bt109.2 == 90)) else (none)) else (none))) = some r := H
 have A1 := Aside0.mk A10
 clear A10
 replace H := Option.bind_eq_some_iff.mp H
 obtain ⟨⟨t109, t110⟩, A20, H⟩ := H
 replace H : (if t108 = 0 then (if t107.toList = ([112, 114, 111, 99, 32, 48, 10, 50, 48, 32, 48, 32, 45, 49, 32, 48, 32, 48, 32, 48, 32, 34, 34, 10] : List UInt8) then (some (t110 == 90)) else (none)) else (none)) = some r := H
 have A2 := Aside0.mk A20
 clear A20
 by_cases c3 : t108 = 0
 ·rw [if_pos c3] at H
  have c3b0 : (t108 == 0) = true := beq_iff_eq.mpr c3
  have c3b1 : (t108 != 0) = false := bne_eq_false_iff_eq.mpr c3
  clear c3
  by_cases c4 : t107.toList = ([112, 114, 111, 99, 32, 48, 10, 50, 48, 32, 48, 32, 45, 49, 32, 48, 32, 48, 32, 48, 32, 34, 34, 10] : List UInt8)
  ·rw [if_pos c4] at H
   have c4b0 : (t107.toList == ([112, 114, 111, 99, 32, 48, 10, 50, 48, 32, 48, 32, 45, 49, 32, 48, 32, 48, 32, 48, 32, 34, 34, 10] : List UInt8)) = true := beq_iff_eq.mpr c4
   have c4b1 : (t107.toList != ([112, 114, 111, 99, 32, 48, 10, 50, 48, 32, 48, 32, 45, 49, 32, 48, 32, 48, 32, 48, 32, 34, 34, 10] : List UInt8)) = false := bne_eq_false_iff_eq.mpr c4
   clear c4
   obtain rfl := Option.some.inj H
   go_enter Tryz.func10, Tryz.ntmps10
   go_wp2_with (first | ((with_reducible refine gate_callee (f := 14) rfl ?_); refine goesL_ (some 14) rfl rfl Tryz.func14 (by kernel_rfl) rfl #[.slice none 0 0] rfl zP ?_; (refine (code_Show.calls (hL := ?sideL) _ _ ([] : List (S28)) t109 t110 _ ?side1 ?side2 A2.out).mono ?_); (case sideL => exact Laid.below HL.out zB); (case side1 => exact Kd.C_nil _ _); (case side2 => exact Nat.le_refl _); rintro e w12 ⟨rfl, hb⟩; refine ⟨_, rfl, ?_⟩; replace HO106 := Aside0.mk (Kd.N_below (by (with_reducible repeat (first | apply Kd.N_alloc | apply Kd.N_drewN | apply Kd.N_drew)); exact HO106.out) hb); replace HB := Aside0.mk (below_step zB hb); (try clear hb)) | ((with_reducible refine gate_callee (f := 14) rfl ?_); refine goesL_ (some 10) rfl rfl Tryz.func14 (by kernel_rfl) rfl #[.slice Ao10 y104.length co10] rfl zP ?_; (with_reducible refine (code_Show.calls (hL := ?sideL) _ _ y104 t107 t108 _ ?side1 ?side2 A1.out).mono ?_); (case sideL => exact Laid.below HL.out zB); (case side1 => repeat (first | exact (Kd.N_reads' HO106.out).2.2 | (with_reducible refine Kd.C_alloc ?_ _) | (with_reducible refine Kd.C_drewN ?_ _) | (with_reducible refine Kd.C_drew ?_))); (case side2 => exact (Kd.N_reads' HO106.out).2.1); rintro e w11 ⟨rfl, hb⟩; refine ⟨_, rfl, ?_⟩; replace HO106 := Aside0.mk (Kd.N_below (by (with_reducible repeat (first | apply Kd.N_alloc | apply Kd.N_drewN | apply Kd.N_drew)); exact HO106.out) hb); replace HB := Aside0.mk (below_step zB hb); (try clear hb)) | ((with_reducible refine gate_dst (N := 9) rfl ?_); refine Kd.N_lit k28 _ 28 ?hg (N' := 9) ?hd (xs := ([(⟨0, y101⟩ : S28)] : List (S28))) (inner := [.int .i64 0, .slice Ao7 y101.length co7]) (ok := (fun _ => True)) (okp := (fun _ => True)) ?hr ?hp (fun _ hk => hk) ((show ∀ k_, w5.heap.size ≤ k_ → (fun _ => True) k_ from fun k_ hk => trivial) _ (Nat.le_refl _)) (Below.refl _ _) (Nat.le_refl _) (by simp) ?_; (case hd => rfl); (case hg => rfl); (case hr => first | (go_simp; done) | (go_simp; rfl)); (case hp => exact (Reps.c2 (show Kd.FK k28 _ _ (⟨0, y101⟩ : S28) [.int .i64 0, .slice Ao7 y101.length co7] from (k28_mkF _ _ (⟨0, y101⟩ : S28) (Kd.N_reads' (Kd.N_mono (ok' := (fun _ => True)) (HO103.out) (fun k_ hk => trivial))).2.1 (Kd.N_F (Kd.N_mono (ok' := (fun _ => True)) (HO103.out) (fun k_ hk => trivial))))) (Reps.none _ _))); intro v105 w8 ho9 hb hg_ hnew_; clear hg_ hnew_; (first | rw [← Ny104.out] at ho9 | (simp only [Int.reduceToNat] at ho9; rw [← Ny104.out] at ho9)); have n0_ := Aside0.mk (Kd.N_lower ho9 (below_size zB)); have n1_ := Aside0.mk (below_step zB hb); clear HB; clear HO103; have HO106 := n0_; have HB := n1_; clear n0_ n1_; clear hb ho9; obtain ⟨Ao10, co10, eo10⟩ := Kd.N_slice HO106.out; subst eo10) | ((with_reducible refine gate_dst (N := 7) rfl ?_); refine Kd.N_lit k31 _ 31 ?hg (N' := 7) ?hd (xs := ([(⟨20, 0, (-1), 0, 0, (⟨#[]⟩ : ByteArray), 0, ([] : List Int)⟩ : S31)] : List (S31))) (inner := [.int .i64 20, .int .i64 0, .int .i64 (-1), .int .i64 0, .int .i64 0, .string (⟨#[]⟩ : ByteArray), .int .i64 0, .slice none 0 0]) (ok := (fun _ => True)) (okp := (fun _ => True)) ?hr ?hp (fun _ hk => hk) ((show ∀ k_, w.heap.size ≤ k_ → (fun _ => True) k_ from fun k_ hk => trivial) _ (Nat.le_refl _)) (Below.refl _ _) (Nat.le_refl _) (by simp) ?_; (case hd => rfl); (case hg => rfl); (case hr => first | (go_simp; done) | (go_simp; rfl)); (case hp => exact (Reps.c8 (show Kd.FK k31 _ _ (⟨20, 0, (-1), 0, 0, (⟨#[]⟩ : ByteArray), 0, ([] : List Int)⟩ : S31) [.int .i64 20, .int .i64 0, .int .i64 (-1), .int .i64 0, .int .i64 0, .string (⟨#[]⟩ : ByteArray), .int .i64 0, .slice none 0 0] from (k31_mkF _ _ (⟨20, 0, (-1), 0, 0, (⟨#[]⟩ : ByteArray), 0, ([] : List Int)⟩ : S31) (Nat.le_refl _) (Kd.F_nil _ _ _))) (Reps.none _ _))); intro v102 w5 ho6 hb hg_ hnew_; clear hg_ hnew_; (first | rw [← Ny101.out] at ho6 | (simp only [Int.reduceToNat] at ho6; rw [← Ny101.out] at ho6)); have HO103 := Aside0.mk (Kd.N_lower ho6 (below_size zB)); replace HB := Aside0.mk (below_step zB hb); clear hb ho6; obtain ⟨Ao7, co7, eo7⟩ := Kd.N_slice HO103.out; subst eo7))
   go_ret
   exact ⟨zE, zB⟩
  ·rw [if_neg c4] at H
   exact absurd H (by simp)
 ·rw [if_neg c3] at H
  exact absurd H (by simp)
end Go.Proofs.YtjlhhjfmekjbhaaGreatDoor.Pv

/- Small codes: what the laws' calls tell. No condition. -/
namespace Go.Proofs.YtjlhhjfmekjbhaaGreatDoor.Pure
open Go.RowKit Go.Proofs.YtjlhhjfmekjbhaaGreatDoorW.PrintWords Go.Proofs.YtjlhhjfmekjbhaaGreatDoorW.PrintLast Go.Proofs.YtjlhhjfmekjbhaaGreatDoor.Cd Go.Proofs.YtjlhhjfmekjbhaaGreatDoor.Cf Go.Proofs.YtjlhhjfmekjbhaaGreatDoor.Bld Go.Proofs.YtjlhhjfmekjbhaaGreatDoor.Sh Go.Proofs.YtjlhhjfmekjbhaaGreatDoor.Vf Go.Proofs.YtjlhhjfmekjbhaaGreatDoor.Vg Go.Proofs.YtjlhhjfmekjbhaaGreatDoor.Pv
open Go.Proofs.YtjlhhjfmekjbhaaGreatDoor.Pq (S31 S28 k31 k28 z31 z28 rd_T28)
set_option linter.unusedVariables false
set_option linter.unusedSimpArgs false
theorem it_len (n : Int) (h : B64 n) : (itB n).size ≤ 20 := by
  have := (Va.itoa_len n h).2
  simpa [itB, ByteArray.size] using this
theorem sp_len (xs : List ByteArray) (m : Nat) (h : ∀ x ∈ xs, x.size ≤ m) : (spB xs).length ≤ xs.length * (m + 1) := by
  induction xs with
  | nil => simp [spB]
  | cons x xs ih =>
    have h1 := h x (List.mem_cons_self ..)
    have h2 := ih (fun y hy => h y (List.mem_cons_of_mem _ hy))
    unfold spB at h2 ⊢
    rw [List.flatMap_cons, List.length_append, List.length_cons, List.length_cons, ← show x.size = x.data.toList.length from rfl, Nat.add_mul]
    omega
theorem qu_len (s : ByteArray) : (quoteL s.data.toList).length ≤ 4 * s.size + 2 := by
  have h := qL_len s.data.toList
  have : s.data.toList.length = s.size := rfl
  unfold quoteL
  simp only [List.length_append, List.length_cons, List.length_nil]
  omega
theorem showI_len (x : X) (h : OkX x) : (showI x).length ≤ 4010000 := by
  have h0 := it_len _ h.sm.h0
  have h5 := sp_len [itB x.f1, itB x.f2, itB x.f3, itB x.f4, itB x.f6] 20 (by
    intro y hy
    simp only [List.mem_cons, List.mem_nil_iff, or_false] at hy
    rcases hy with rfl | rfl | rfl | rfl | rfl
    · exact it_len _ h.sm.h1
    · exact it_len _ h.sm.h2
    · exact it_len _ h.sm.h3
    · exact it_len _ h.sm.h4
    · exact it_len _ h.sm.h6)
  have h7 := sp_len (x.f7.map itB) 20 (by
    intro y hy
    obtain ⟨n, hn, rfl⟩ := List.mem_map.1 hy
    exact it_len _ (h.sm.h7 n hn))
  have hq := qu_len x.f5
  have hl := h.l7
  have hs := h.l5
  rw [showI_eq]
  unfold tailI
  simp only [List.length_append, List.length_cons, List.length_nil, List.length_map, ← size_it] at h5 h7 ⊢
  omega
theorem flat_bound {α β : Type} (f : α → List β) (m : Nat) : ∀ l : List α, (∀ x ∈ l, (f x).length ≤ m) → (l.flatMap f).length ≤ l.length * m
  | [], _ => by simp
  | x :: l, h => by
    rw [List.flatMap_cons, List.length_append, List.length_cons, Nat.add_mul]
    have h1 := h x (List.mem_cons_self ..)
    have h2 := flat_bound f m l (fun q hq => h q (List.mem_cons_of_mem _ hq))
    omega
structure Tin (l : List P) : Prop where
  len : l.length ≤ 100
  proc : ∀ p ∈ l, B64 p.f0 ∧ p.f1.length ≤ 100 ∧ ∀ x ∈ p.f1, OkX x
theorem showL_len (l : List P) (h : Tin l) : (showL l).length ≤ 17592186044416 := by
  have h1 := flat_bound showP 401000100 l (fun p hp => by
    obtain ⟨h0, h1, h2⟩ := h.proc p hp
    have hi := flat_bound showI 4010000 p.f1 (fun x hx => showI_len x (h2 x hx))
    have hm := Nat.mul_le_mul_right 4010000 h1
    have h3 := it_len _ h0
    unfold showP
    rw [headP_eq]
    simp only [List.length_append, List.length_cons, List.length_nil, ← size_it]
    omega)
  have hm := Nat.mul_le_mul_right 401000100 h.len
  unfold showL
  omega
theorem i64b_of {n : Int} (h : B64 n) : i64b n = true := by
  simp only [i64b, Bool.and_eq_true, decide_eq_true_eq]
  exact h
theorem ok_of (l : List P) (h : Tin l) : okB l = true := by
  simp only [okB, okP, okX, Bool.and_eq_true, decide_eq_true_eq, List.all_eq_true]
  refine ⟨h.len, fun p hp => ?_, showL_len l h⟩
  obtain ⟨h0, h1, h2⟩ := h.proc p hp
  exact ⟨i64b_of h0, h1, fun x hx => ⟨i64b_of (h2 x hx).sm.h0, i64b_of (h2 x hx).sm.h1, i64b_of (h2 x hx).sm.h2, i64b_of (h2 x hx).sm.h3, i64b_of (h2 x hx).sm.h4, i64b_of (h2 x hx).sm.h6, fun n hn => i64b_of ((h2 x hx).sm.h7 n hn), (h2 x hx).l7, (h2 x hx).l5⟩⟩
structure RowX (x : X) : Prop where
  h0 : B64 x.f0
  h1 : B64 x.f1
  h2 : B64 x.f2
  h3 : B64 x.f3
  h4 : B64 x.f4
  h6 : B64 x.f6
  h7 : ∀ n ∈ x.f7, B64 n
def RowL (l : List P) : Prop := ∀ p ∈ l, B64 p.f0 ∧ ∀ x ∈ p.f1, RowX x
structure Sml (l : List P) : Prop where
  len : l.length ≤ 15
  proc : ∀ p ∈ l, B64 p.f0 ∧ p.f1.length ≤ 60 ∧ ∀ x ∈ p.f1, SmX x ∧ x.f7.length ≤ 20 ∧ x.f5.size ≤ 100
theorem small_ok (l : List P) (hr : RowL l) (h : ¬ smallI l = 0) : Sml l := by
  unfold smallI at h
  by_cases h1 : decide ((l.length : Int) > 15) = true
  · rw [if_pos h1] at h
    exact absurd rfl h
  rw [if_neg h1] at h
  by_cases h2 : l.all smallP = true
  case neg => rw [if_neg h2] at h; exact absurd rfl h
  have h1' : l.length ≤ 15 := by simp at h1; omega
  refine ⟨h1', fun p hp => ?_⟩
  have h3 := List.all_eq_true.1 h2 p hp
  simp only [smallP, Bool.and_eq_true, Bool.not_eq_true', decide_eq_false_iff_not, List.all_eq_true] at h3
  refine ⟨(hr p hp).1, by have := h3.1; omega, fun x hx => ?_⟩
  have h4 := h3.2 x hx
  simp only [smallX, Bool.and_eq_true, Bool.not_eq_true', decide_eq_false_iff_not] at h4
  have hrx := (hr p hp).2 x hx
  have l7 : x.f7.length ≤ 20 := by have := h4.1; omega
  have l5 : x.f5.size ≤ 100 := by have := h4.2; omega
  exact ⟨⟨hrx.h0, hrx.h1, hrx.h2, hrx.h3, hrx.h4, hrx.h6, hrx.h7, by omega, by omega⟩, l7, l5⟩
theorem Sml.tin {l : List P} (h : Sml l) : Tin l :=
  ⟨by have := h.len; omega, fun p hp => ⟨(h.proc p hp).1, by have := (h.proc p hp).2.1; omega, fun x hx => ⟨((h.proc p hp).2.2 x hx).1, by have := ((h.proc p hp).2.2 x hx).2.1; omega, by have := ((h.proc p hp).2.2 x hx).2.2; omega⟩⟩⟩
theorem Sml.ok {l : List P} (h : Sml l) : okB l = true := ok_of l h.tin
theorem right_f {l : List P} (h : okB l = true) : code_Right.f l = some (codeS l) := by
  have hw : Ve.wfL l = true := by
    have hw := ok_wf h
    simp only [Ve.wfL, Ve.wfX, Bool.and_eq_true, decide_eq_true_eq, List.all_eq_true]
    exact ⟨hw.len, fun p hp => ⟨(hw.proc p hp).1, fun x hx => ⟨((hw.proc p hp).2 x hx).kind, ((hw.proc p hp).2 x hx).text, ((hw.proc p hp).2 x hx).regs⟩⟩⟩
  show Ve.code_Right.f l = _
  unfold Ve.code_Right.f
  rw [if_pos hw]
theorem shown_ok1 : okB [⟨0, [⟨20, 0, -1, 0, 0, ⟨#[]⟩, 0, []⟩]⟩] = true := by decide +kernel
theorem shown_1 : showR [⟨0, [⟨20, 0, -1, 0, 0, ⟨#[]⟩, 0, []⟩]⟩] = (mkB [112, 114, 111, 99, 32, 48, 10, 50, 48, 32, 48, 32, 45, 49, 32, 48, 32, 48, 32, 48, 32, 34, 34, 10], 0) := by decide +kernel
theorem shown_2 : showR [] = (⟨#[]⟩, 90) := by decide +kernel
theorem shown_tells : gumshoelaw09_shown.f = some true := by
  unfold gumshoelaw09_shown.f code_Show.f
  rw [if_pos shown_ok1, if_pos (show okB [] = true by decide +kernel), shown_1, shown_2, Option.bind_some, Option.bind_some, if_pos rfl, if_pos (by rw [ByteArray.toList_eq]; rfl)]
  rfl
end Go.Proofs.YtjlhhjfmekjbhaaGreatDoor.Pure

/- What a row reads of an argument, as a value of a kind: over whatever program. -/
namespace Go.Proofs.YtjlhhjfmekjbhaaGreatDoor.Opens
open Go.RowKit Go.Deep Go.ChangeShapes Go.WideShapes Go.Proofs.YtjlhhjfmekjbhaaGreatDoorW.PrintWords
set_option linter.unusedVariables false
def OpensTo {α : Type} (P : Program) (t : TypeId) (K : World → α → List Value → Prop) (Wf : α → Prop) : Prop :=
  ∀ (H : Type) (enc : TypeId × Value → H) (w : World) (base : Nat) (sp : Nat → Bool) (held : Bool) (fuel : Nat) (cs : List Value) (x : DataW H × List MemPlace), DataW.trod enc P w base sp held fuel t cs = some x → ∃ a, K w a cs ∧ Wf a
variable {P : Program} {t e : TypeId}
theorem opens_int {k : IntKind} (ht : P.underlying t = some (.int k)) : OpensTo P t (Kd.int k).K (fun n => (Lit.int k n).wf = true) := by
  intro H enc w base sp held fuel cs x h
  cases fuel with
  | zero => simp [DataW.trod] at h
  | succ fuel =>
    unfold DataW.trod at h
    rw [ht] at h
    split at h <;> first | (rename_i heq; cases heq; done) | (cases h; done) | skip
    rename_i heq
    injection heq with heq
    injection heq with heq
    subst heq
    split at h
    · rename_i hk
      obtain ⟨rfl, hk⟩ := hk
      exact ⟨_, rfl, hk⟩
    · exact absurd h (by simp)
theorem opens_string (ht : P.underlying t = some .string) : OpensTo P t Kd.string.K (fun s => s.size ≤ maxLen) := by
  intro H enc w base sp held fuel cs x h
  cases fuel with
  | zero => simp [DataW.trod] at h
  | succ fuel =>
    unfold DataW.trod at h
    rw [ht] at h
    split at h <;> first | (rename_i heq; cases heq; done) | (cases h; done) | skip
    split at h
    · rename_i hk
      exact ⟨_, rfl, hk⟩
    · exact absurd h (by simp)
theorem opens_slice {α : Type} [Inhabited α] {d : Kd α} {Wf : α → Prop} (ht : P.underlying t = some (.slice e)) (hc : P.cellsOf e = d.sz) (he : OpensTo P e d.K Wf) : OpensTo P t (Kd.slice e d).K (fun l => ∀ a ∈ l, Wf a) := by
  intro H enc w base sp held fuel cs x h
  rcases open_slice ht h with ⟨rfl, _⟩ | ⟨a, len, cap, m, n, D, Pl, rfl, hb, hl, hcap, hm, _, hel⟩
  · exact ⟨[], ⟨none, 0, rfl, Nat.le_refl _, rfl, by simp, fun h => by simp at h⟩, by simp⟩
  · have hmm : len ≤ m := by rw [hm]; split <;> omega
    have hx : ∀ i, i < len → ∃ (y : α) (cs' : List Value), w.cells? base (a.add (i * d.sz)) d.sz = some cs' ∧ d.K w y cs' ∧ Wf y := by
      intro i hi
      obtain ⟨cs', h1, h2⟩ := hel i (by omega)
      rw [hc] at h1
      obtain ⟨y, h3, h4⟩ := he H enc w base sp held n cs' _ h2
      exact ⟨y, cs', h1, h3, h4⟩
    let f : Nat → α := fun i => if h : i < len then Classical.choose (hx i h) else default
    have hf : ∀ i, i < len → ∃ cs', w.cells? base (a.add (i * d.sz)) d.sz = some cs' ∧ d.K w (f i) cs' ∧ Wf (f i) := by
      intro i hi
      have : f i = Classical.choose (hx i hi) := dif_pos hi
      rw [this]
      exact Classical.choose_spec (hx i hi)
    have hlen : ((List.range len).map f).length = len := by simp
    refine ⟨(List.range len).map f, ⟨some a, cap, by rw [hlen], by rw [hlen]; exact hl, ?_⟩, ?_⟩
    · refine ⟨rfl, by rw [hlen]; simp only [maxLen] at hcap; omega, fun _ => ⟨a, rfl, fun j p hj => ?_⟩⟩
      have hj' : j < len := by
        have := (List.getElem?_eq_some_iff.1 hj).1
        omega
      have hp : p = f j := by simp [hj'] at hj; exact hj.symm
      subst hp
      obtain ⟨cs', h1, h2, _⟩ := hf j hj'
      refine ⟨cs', d.K_len h2, h2, fun i u hu => ?_⟩
      obtain ⟨_, h3, h4⟩ := World.cells?_some h1
      have hi : i < d.sz := by have := (List.getElem?_eq_some_iff.1 hu).1; have := d.K_len h2; omega
      have h5 := h4 i hi
      rw [show (a.add (j * d.sz + i)) = (a.add (j * d.sz)).add i from ?_, h5, hu]
      unfold Addr.add
      by_cases e1 : j * d.sz = 0 <;> by_cases e2 : i = 0 <;> simp [e1, e2, Nat.add_assoc]
    · intro y hy
      rw [List.mem_map] at hy
      obtain ⟨i, hi, rfl⟩ := hy
      obtain ⟨_, _, _, h⟩ := hf i (List.mem_range.1 hi)
      exact h
theorem slice_of_K {α : Type} {d : Kd α} {w : World} {l : List α} {v : Value} {A : Option Addr} {n c : Nat} (hv : v = .slice A n c) (h : (Kd.slice e d).K w l v.cells.toList) : n = l.length ∧ l.length ≤ c ∧ d.C w A l.length l := by
  subst hv
  obtain ⟨A', c', h1, h2, h3⟩ := h
  simp [Value.cells] at h1
  obtain ⟨rfl, rfl, rfl⟩ := h1
  exact ⟨rfl, h2, h3⟩
/-! ### structs -/
def OpensFs {β : Type} (P : Program) (fs : List Field) (o sz : Nat) (K : World → β → List Value → Prop) (Wf : β → Prop) : Prop :=
  ∀ (H : Type) (enc : TypeId × Value → H) (w : World) (base : Nat) (sp : Nat → Bool) (held : Bool) (fuel : Nat) (cs : List Value) (xs : List (DataW H × List MemPlace)), cs.length = o + sz →
    (fs.mapM fun f => DataW.trod enc P w base sp held fuel f.type ((cs.drop f.offset).take (P.cellsOf f.type))) = some xs → ∃ b, K w b (cs.drop o) ∧ Wf b
theorem opensFs_last {β : Type} {K : World → β → List Value → Prop} {Wf : β → Prop} {f : Field} {o sz : Nat} (ho : f.offset = o) (hc : P.cellsOf f.type = sz) (h : OpensTo P f.type K Wf) : OpensFs P [f] o sz K Wf := by
  intro H enc w base sp held fuel cs xs hl hx
  rw [List.mapM_cons] at hx
  cases hq : DataW.trod enc P w base sp held fuel f.type ((cs.drop f.offset).take (P.cellsOf f.type)) with
  | none => rw [hq] at hx; cases hx
  | some y =>
    obtain ⟨b, h1, h2⟩ := h H enc w base sp held fuel _ _ hq
    rw [ho, hc, List.take_of_length_le (by rw [List.length_drop]; omega)] at h1
    exact ⟨b, h1, h2⟩
theorem opensFs_cons {α β : Type} {da : Kd α} {db : Kd β} {Wa : α → Prop} {Wb : β → Prop} {f : Field} {fs : List Field} {o sz : Nat} (ho : f.offset = o) (hc : P.cellsOf f.type = da.sz) (h : OpensTo P f.type da.K Wa) (hs : OpensFs P fs (o + da.sz) sz db.K Wb) :
    OpensFs P (f :: fs) o (da.sz + sz) (Kd.pair da db).K (fun x => Wa x.1 ∧ Wb x.2) := by
  intro H enc w base sp held fuel cs xs hl hx
  rw [List.mapM_cons] at hx
  cases hq : DataW.trod enc P w base sp held fuel f.type ((cs.drop f.offset).take (P.cellsOf f.type)) with
  | none => rw [hq] at hx; cases hx
  | some y =>
    rw [hq] at hx
    cases hr : (fs.mapM fun f => DataW.trod enc P w base sp held fuel f.type ((cs.drop f.offset).take (P.cellsOf f.type))) with
    | none => rw [hr] at hx; cases hx
    | some ys =>
      obtain ⟨a, h1, h2⟩ := h H enc w base sp held fuel _ _ hq
      obtain ⟨b, h3, h4⟩ := hs H enc w base sp held fuel cs ys (by omega) hr
      rw [ho, hc] at h1
      refine ⟨(a, b), ⟨_, _, ?_, h1, h3⟩, h2, h4⟩
      rw [← List.drop_drop, List.take_append_drop]
theorem opens_struct {α : Type} {d : Kd α} {Wf : α → Prop} {fs : Array Field} (ht : P.underlying t = some (.struct fs)) (hc : P.cellsOf t = d.sz) (h : OpensFs P fs.toList 0 d.sz d.K Wf) : OpensTo P t d.K Wf := by
  intro H enc w base sp held fuel cs x hx
  cases fuel with
  | zero => simp [DataW.trod] at hx
  | succ fuel =>
    unfold DataW.trod at hx
    rw [ht] at hx
    dsimp only at hx
    split at hx
    · rename_i hl
      rw [Option.map_eq_some_iff] at hx
      obtain ⟨xs, hxs, _⟩ := hx
      have := h H enc w base sp held fuel _ _ (by rw [hl, hc, Nat.zero_add]) hxs
      simpa using this
    · cases hx
theorem opens_iso {α β : Type} {d : Kd α} (f : β → α) (g : α → β) (hfg : ∀ x, f (g x) = x) {Wf : α → Prop} (h : OpensTo P t d.K Wf) : OpensTo P t (Kd.iso d f).K (fun x => Wf (f x)) := by
  intro H enc w base sp held fuel cs x hx
  obtain ⟨a, h1, h2⟩ := h H enc w base sp held fuel cs x hx
  refine ⟨g a, ?_, ?_⟩
  · show d.K w (f (g a)) cs
    rw [hfg]; exact h1
  · show Wf (f (g a))
    rw [hfg]; exact h2
end Go.Proofs.YtjlhhjfmekjbhaaGreatDoor.Opens

/- What a row tells of a code's numbers. No condition. -/
namespace Go.Proofs.YtjlhhjfmekjbhaaGreatDoor
open Go.RowKit Go.Proofs.YtjlhhjfmekjbhaaGreatDoorW.PrintWords Go.Proofs.YtjlhhjfmekjbhaaGreatDoor.Vf
set_option linter.unusedVariables false
theorem rowL_of {l : List P} (h : ∀ a ∈ l, (Lit.int .i64 a.f0).wf = true ∧ ∀ x ∈ a.f1, (Lit.int .i64 x.f0).wf = true ∧ (Lit.int .i64 x.f1).wf = true ∧ (Lit.int .i64 x.f2).wf = true ∧ (Lit.int .i64 x.f3).wf = true ∧ (Lit.int .i64 x.f4).wf = true ∧ x.f5.size ≤ maxLen ∧ (Lit.int .i64 x.f6).wf = true ∧ ∀ n ∈ x.f7, (Lit.int .i64 n).wf = true) : Pure.RowL l := fun p hp =>
  ⟨Va.i64_of_wf (h p hp).1, fun x hx => by
    obtain ⟨h0, h1, h2, h3, h4, _, h6, h7⟩ := (h p hp).2 x hx
    exact ⟨Va.i64_of_wf h0, Va.i64_of_wf h1, Va.i64_of_wf h2, Va.i64_of_wf h3, Va.i64_of_wf h4, Va.i64_of_wf h6, fun n hn => Va.i64_of_wf (h7 n hn)⟩⟩
end Go.Proofs.YtjlhhjfmekjbhaaGreatDoor

/- What a row's listed variables give the walks. No condition. -/
namespace Go.Proofs.YtjlhhjfmekjbhaaGreatDoor.Vl
open Go.ChangeShapes Go.WideShapes Go.ChangeAt Go.RowKit Go.Shelf
set_option linter.unusedVariables false
set_option linter.unusedSimpArgs false
def five : List (String × DataW Unit) := [("math/bits.deBruijn32tab", Rows.laid_math_bits_deBruijn32tab), ("math/bits.deBruijn64tab", Rows.laid_math_bits_deBruijn64tab), ("internal/strconv.uint64pow10", Rows.laid_internal_strconv_uint64pow10), ("strconv.ErrRange", Rows.laid_strconv_ErrRange), ("strconv.ErrSyntax", Rows.laid_strconv_ErrSyntax)]
theorem gPow : Tryz.prog.globalNamed "internal/strconv.uint64pow10" = some 0 := by kernel_rfl
theorem gSyn : Tryz.prog.globalNamed "strconv.ErrSyntax" = some 4 := by kernel_rfl
theorem gRng : Tryz.prog.globalNamed "strconv.ErrRange" = some 5 := by kernel_rfl
theorem tPow : (Tryz.prog.globals[0]?).map (·.type) = some 122 := by kernel_rfl
theorem tSyn : (Tryz.prog.globals[4]?).map (·.type) = some 57 := by kernel_rfl
theorem tRng : (Tryz.prog.globals[5]?).map (·.type) = some 57 := by kernel_rfl
theorem starE : "*" ++ "errors.errorString" = "*errors.errorString" := by decide
theorem rowE (u : TypeId) (h : Tryz.prog.typeName? 3 u = some "*errors.errorString") : u = 147 :=
  typeName_ptr_named (nm := "errors.errorString") (by rw [starE]; kernel_rfl) (by kernel_rfl) (by decide) u (by rw [starE]; exact h)
theorem cellsE : Tryz.prog.cellsOf 149 = 1 := by kernel_rfl
theorem cellsS : Tryz.prog.cellsOf 9 = 1 := by kernel_rfl
theorem only (x : String × DataW Unit) (n : String) (h : five.filter (fun y => y.1 == n) = [x]) {W : World} (hL : laidMet Tryz.prog five W) : laidMet Tryz.prog [x] W := by
  have := hL.filter (fun y => y.1 == n)
  rw [h] at this
  exact this
theorem laid_of {W : World} (h : laidMetH Tryz.prog five W) : Va.Laid W := by
  rw [MakeChecks.laidMetH_plain _ _ _ (by kernel_rfl)] at h
  have h1 := only ("internal/strconv.uint64pow10", Rows.laid_internal_strconv_uint64pow10) "internal/strconv.uint64pow10" (by kernel_rfl) h
  have h2 := only ("strconv.ErrSyntax", Rows.laid_strconv_ErrSyntax) "strconv.ErrSyntax" (by kernel_rfl) h
  have h3 := only ("strconv.ErrRange", Rows.laid_strconv_ErrRange) "strconv.ErrRange" (by kernel_rfl) h
  obtain ⟨a0, s0, hv0, -, -, -⟩ := laid_sentinel h2 gSyn tSyn Tryz.underlying57 rowE Tryz.underlying147 Tryz.underlying149 rfl rfl Tryz.underlying9 cellsE cellsS
  obtain ⟨a1, s1, hv1, -, -, -⟩ := laid_sentinel h3 gRng tRng Tryz.underlying57 rowE Tryz.underlying147 Tryz.underlying149 rfl rfl Tryz.underlying9 cellsE cellsS
  exact ⟨Lib.tabIs_of_head gPow tPow Tryz.underlying122 Tryz.underlying111 (by kernel_rfl) (by kernel_rfl) h1, ⟨_, _, hv0⟩, ⟨_, _, hv1⟩⟩
theorem own : ownKnob Tryz.prog.godebug = none := by kernel_rfl
theorem laidOut : laidOutB Tryz.prog = true := by kernel_rfl
theorem door_met (os : Os) (args : Array Value) : laidMetH Tryz.prog five ((World.doorLaid Tryz.prog 400 os).forCall (fun _ _ => 0) ⟨#[], args, []⟩).memory :=
  laidMetH_of_parts3 (fuel := 8) (laidMet_of_run' 8 (by kernel_rfl) (by kernel_rfl)) (by kernel_rfl) (by kernel_rfl)
end Go.Proofs.YtjlhhjfmekjbhaaGreatDoor.Vl

