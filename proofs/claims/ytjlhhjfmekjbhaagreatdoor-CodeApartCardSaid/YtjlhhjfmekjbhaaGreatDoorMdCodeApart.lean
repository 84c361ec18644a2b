/- The law CodeApart: for every input it returns true, and each argument reads as it did. No condition but those of the given card or row. -/
import Derived.Test.YtjlhhjfmekjbhaaGreatDoorRows
import Derived.Test.YtjlhhjfmekjbhaaGreatDoorCards
import Derived.Test.YtjlhhjfmekjbhaaGreatDoorTie
import Derived.WalkKit
import Derived.ProofKit
import Derived.OpenShut
import Derived.ShutString
import Derived.ChangeOld
import Derived.Below
import Derived.SizedLaws
import Derived.Stop.Joined
import Derived.SevenTiedAt
import Derived.Test.YtjlhhjfmekjbhaaGreatDoorMd0
import Derived.Test.YtjlhhjfmekjbhaaGreatDoorMd1
import Derived.Test.YtjlhhjfmekjbhaaGreatDoorMd8
namespace Go.Proofs.YtjlhhjfmekjbhaaGreatDoor.Pv
open Go.Proofs.YtjlhhjfmekjbhaaGreatDoor.Pq (errW errW_none errW_some S31 z31 k31 k31_open k31_mk rd_T31 at_T31 S28 z28 k28 k28_open k28_mk rd_T28 at_T28)
open Go.RowKit Go.Proofs.YtjlhhjfmekjbhaaGreatDoor.Vg Go.Proofs.YtjlhhjfmekjbhaaGreatDoorW.PrintWords Go.Proofs.YtjlhhjfmekjbhaaGreatDoorW.PrintLast Go.Proofs.YtjlhhjfmekjbhaaGreatDoorW.PrintMore
set_option linter.unusedVariables false
set_option linter.unusedSimpArgs false
/-! ### gumshoelaw09_CodeApart: function 9 -/
def gumshoelaw09_CodeApart.j0 : Nat → List (S28) → List (S28) → Bool → Bool → Option (Bool)
 | 0, _, _, _, _ => none
 | k + 1, x0, x1, x5, x18 => if x18 = true then (some x5) else ((code_Show.f x0).bind fun bt137 => ((code_Show.f x1).bind fun bt139 => (if x5 = true then (if bt137.2 = 0 then (if bt139.2 = 0 then ((code_Same.f x0 x1).bind fun t141 => (some ((bt137.1.toList == bt139.1.toList) == t141))) else (some true)) else (some true)) else (none))))
def gumshoelaw09_CodeApart.f (k : Nat) (l0 : List (S28)) (l1 : List (S28)) : Option (Bool) := (gumshoelaw09_shown.f).bind fun t134 => ((gumshoelaw09_Small.f l0).bind fun t135 => (if t135 = 0 then (gumshoelaw09_CodeApart.j0 k l0 l1 t134 true) else ((gumshoelaw09_Small.f l1).bind fun t136 => (gumshoelaw09_CodeApart.j0 k l0 l1 t134 (t136 == 0)))))
set_option maxHeartbeats 8000000 in
set_option maxRecDepth 100000 in
theorem gumshoelaw09_CodeApart.calls (k : Nat) (A0 : Option Addr) (c0 : Nat) (l0 : List (S28)) (A1 : Option Addr) (c1 : Nat) (l1 : List (S28)) (r : Bool) (w : World) (hL : Laid w) (hr0 : Kd.C k28 w A0 l0.length l0) (hc0 : l0.length ≤ c0) (hr1 : Kd.C k28 w A1 l1.length l1) (hc1 : l1.length ≤ c1) (h : gumshoelaw09_CodeApart.f k l0 l1 = some r) :
  Calls Tryz.prog 9 #[.slice A0 l0.length c0, .slice A1 l1.length c1] w fun e w' => e = .returned (.bool r) ∧ Below w.heap.size w w' := by
 have HL := Aside0.mk hL
 clear hL
 have HR0 := Aside0.mk hr0
 have HC0 := Aside0.mk hc0
 clear hr0 hc0
 have HR1 := Aside0.mk hr1
 have HC1 := Aside0.mk hc1
 clear hr1 hc1
 have HB := Aside0.mk (Below.refl w.heap.size w)
 have H : ((gumshoelaw09_shown.f).bind fun t134 => ((gumshoelaw09_Small.f l0).bind fun t135 => (if t135 = 0 then (gumshoelaw09_CodeApart.j0 k l0 l1 t134 true) else ((gumshoelaw09_Small.f l1).bind fun t136 => (gumshoelaw09_CodeApart.j0 k l0 l1 t134 (t136 == 0)))))) = some r := h
 clear h
 obtain ⟨t134, A3, H⟩ := zO H
 have HC4 := Aside0.mk H
 clear H
 go_enter Tryz.func9, Tryz.ntmps9
 go_upto_region 2 with (first | ((with_reducible refine gate_callee (f := 10) rfl ?_); refine goesL_ (some 10) rfl rfl Tryz.func10 (by kernel_rfl) rfl #[] rfl zP ?_; (with_reducible refine (gumshoelaw09_shown.calls (hL := ?sideL)  t134 _ A3.out).mono ?_); (case sideL => exact Laid.below HL.out zB); rintro e w5 ⟨rfl, hb⟩; refine ⟨_, rfl, ?_⟩; replace HB := Aside0.mk (below_step zB hb); (try clear hb)))
 (try simp only [Act.put, List.setIfInBounds_toArray, List.set_cons_zero, List.set_cons_succ])
 go_cut [18] (fun v18 wc => ∃ (kq : Nat) (x18_3 : Bool), v18 = .bool x18_3 ∧ Aside0 (gumshoelaw09_CodeApart.j0 kq l0 l1 t134 x18_3 = some r) ∧ Aside0 (kq ≤ k) ∧ Aside0 (Below w.heap.size w wc))
 case first =>
  have H := HC4.out
  clear HC4
  obtain ⟨t135, A6, H⟩ := zO H
  by_cases c7 : t135 = 0
  ·rw [if_pos c7] at H
   have c7b0 : (t135 == 0) = true := beq_iff_eq.mpr c7
   have c7b1 : (t135 != 0) = false := bne_eq_false_iff_eq.mpr c7
   clear c7
   (first | rw [c7b0] | (simp only [i64_w, i32_w]; rw [c7b0]) | skip)
   have H' := Aside0.mk H
   clear H
   go_wp2_with (first | ((with_reducible refine gate_callee (f := 11) rfl ?_); refine goesL_ (some 12) rfl rfl Tryz.func11 (by kernel_rfl) rfl #[.slice A0 l0.length c0] rfl zP ?_; (with_reducible refine (gumshoelaw09_Small.calls _ _ l0 t135 _ ?side1 ?side2 A6.out).mono ?_); (case side1 => repeat (first | exact (Kd.C_below HR0.out HB.out) | (with_reducible refine Kd.C_alloc ?_ _) | (with_reducible refine Kd.C_drewN ?_ _) | (with_reducible refine Kd.C_drew ?_))); (case side2 => exact HC0.out); rintro e w' ⟨rfl, ⟨nd, rfl⟩⟩; refine ⟨_, rfl, ?_⟩))
   go_meet
   case rel => exact ⟨_, (true), zR, H', ⟨by first | omega | exact Nat.le_refl _⟩, ⟨zB⟩⟩
  ·rw [if_neg c7] at H
   have c7b0 : (t135 == 0) = false := beq_eq_false_iff_ne.mpr c7
   have c7b1 : (t135 != 0) = true := bne_iff_ne.mpr c7
   (first | rw [c7b0] | (simp only [i64_w, i32_w]; rw [c7b0]) | skip)
   obtain ⟨t136, A8, H⟩ := zO H
   have H' := Aside0.mk H
   clear H
   go_wp2_with (first | ((with_reducible refine gate_callee (f := 11) rfl ?_); refine goesL_ (some 12) rfl rfl Tryz.func11 (by kernel_rfl) rfl #[.slice A0 l0.length c0] rfl zP ?_; (with_reducible refine (gumshoelaw09_Small.calls _ _ l0 t135 _ ?side1 ?side2 A6.out).mono ?_); (case side1 => repeat (first | exact (Kd.C_below HR0.out HB.out) | (with_reducible refine Kd.C_alloc ?_ _) | (with_reducible refine Kd.C_drewN ?_ _) | (with_reducible refine Kd.C_drew ?_))); (case side2 => exact HC0.out); rintro e w' ⟨rfl, ⟨nd, rfl⟩⟩; refine ⟨_, rfl, ?_⟩) | (go_at_call 11; (with_reducible refine (gumshoelaw09_Small.calls _ _ l1 t136 _ ?side1 ?side2 A8.out).mono ?_); (case side1 => repeat (first | exact (Kd.C_below HR1.out zB) | (with_reducible refine Kd.C_alloc ?_ _) | (with_reducible refine Kd.C_drewN ?_ _) | (with_reducible refine Kd.C_drew ?_))); (case side2 => exact HC1.out); rintro e w' ⟨rfl, ⟨nd, rfl⟩⟩))
   go_meet
   case rel => exact ⟨_, ((t136 == 0)), zR, H', ⟨by first | omega | exact Nat.le_refl _⟩, ⟨zB⟩⟩
 case rest =>
  clear HC4
  obtain ⟨kq, x18_3, rfl, HA, HJ3, HB⟩ := hcut
  cases kq with
  | zero => exact absurd HA.out (by simp [gumshoelaw09_CodeApart.j0])
  | succ kj3 =>
   have H := HA.out
   clear HA
   simp only [gumshoelaw09_CodeApart.j0] at H
   by_cases c9 : x18_3 = true
   ·subst c9
    rw [if_pos rfl] at H
    obtain rfl := Option.some.inj H
    go_wp2
    go_ret
    exact ⟨zE, zB⟩
   ·replace c9 := Bool.eq_false_iff.mpr c9
    subst c9
    rw [if_neg (show ¬ (false = true) by decide)] at H
    replace H := Option.bind_eq_some_iff.mp H
    obtain ⟨⟨t137, t138⟩, A100, H⟩ := H
    replace H : ((code_Show.f l1).bind fun bt139 => (if t134 = true then (if t138 = 0 then (if bt139.2 = 0 then ((code_Same.f l0 l1).bind fun t141 => (some ((t137.toList == bt139.1.toList) == t141))) else (some true)) else (some true)) else (none))) = some r := H
    have A10 := Aside0.mk A100
    clear A100
    replace H := Option.bind_eq_some_iff.mp H
    obtain ⟨⟨t139, t140⟩, A110, H⟩ := H
    replace H : (if t134 = true then (if t138 = 0 then (if t140 = 0 then ((code_Same.f l0 l1).bind fun t141 => (some ((t137.toList == t139.toList) == t141))) else (some true)) else (some true)) else (none)) = some r := H
    have A11 := Aside0.mk A110
    clear A110
    by_cases c12 : t134 = true
    ·subst c12
     rw [if_pos rfl] at H
     by_cases c13 : t138 = 0
     ·rw [if_pos c13] at H
      have c13b0 : (t138 == 0) = true := beq_iff_eq.mpr c13
      have c13b1 : (t138 != 0) = false := bne_eq_false_iff_eq.mpr c13
      clear c13
      by_cases c14 : t140 = 0
      ·rw [if_pos c14] at H
       have c14b0 : (t140 == 0) = true := beq_iff_eq.mpr c14
       have c14b1 : (t140 != 0) = false := bne_eq_false_iff_eq.mpr c14
       clear c14
       obtain ⟨t141, A15, H⟩ := zO H
       obtain rfl := Option.some.inj H
       go_wp2_with (first | (go_at_call 19; (with_reducible refine (code_Same.calls _ _ l0 _ _ l1 t141 _ ?side1 ?side2 ?side3 ?side4 A15.out).mono ?_); (case side1 => repeat (first | exact (Kd.C_below HR0.out HB.out) | (with_reducible refine Kd.C_alloc ?_ _) | (with_reducible refine Kd.C_drewN ?_ _) | (with_reducible refine Kd.C_drew ?_))); (case side2 => exact HC0.out); (case side3 => repeat (first | exact (Kd.C_below HR1.out HB.out) | (with_reducible refine Kd.C_alloc ?_ _) | (with_reducible refine Kd.C_drewN ?_ _) | (with_reducible refine Kd.C_drew ?_))); (case side4 => exact HC1.out); rintro e w18 ⟨rfl, hb⟩; replace HB := Aside0.mk (below_step zB hb); (try clear hb)) | ((with_reducible refine gate_callee (f := 14) rfl ?_); refine goesL_ (some 27) rfl rfl Tryz.func14 (by kernel_rfl) rfl #[.slice A1 l1.length c1] rfl zP ?_; (with_reducible refine (code_Show.calls (hL := ?sideL) _ _ l1 t139 t140 _ ?side1 ?side2 A11.out).mono ?_); (case sideL => exact Laid.below HL.out zB); (case side1 => repeat (first | exact (Kd.C_below HR1.out HB.out) | (with_reducible refine Kd.C_alloc ?_ _) | (with_reducible refine Kd.C_drewN ?_ _) | (with_reducible refine Kd.C_drew ?_))); (case side2 => exact HC1.out); rintro e w17 ⟨rfl, hb⟩; refine ⟨_, rfl, ?_⟩; replace HB := Aside0.mk (below_step zB hb); (try clear hb)) | ((with_reducible refine gate_callee (f := 14) rfl ?_); refine goesL_ (some 22) rfl rfl Tryz.func14 (by kernel_rfl) rfl #[.slice A0 l0.length c0] rfl zP ?_; (with_reducible refine (code_Show.calls (hL := ?sideL) _ _ l0 t137 t138 _ ?side1 ?side2 A10.out).mono ?_); (case sideL => exact Laid.below HL.out zB); (case side1 => repeat (first | exact (Kd.C_below HR0.out HB.out) | (with_reducible refine Kd.C_alloc ?_ _) | (with_reducible refine Kd.C_drewN ?_ _) | (with_reducible refine Kd.C_drew ?_))); (case side2 => exact HC0.out); rintro e w16 ⟨rfl, hb⟩; refine ⟨_, rfl, ?_⟩; replace HB := Aside0.mk (below_step zB hb); (try clear hb)))
       go_ret
       exact ⟨zE, zB⟩
      ·rw [if_neg c14] at H
       have c14b0 : (t140 == 0) = false := beq_eq_false_iff_ne.mpr c14
       have c14b1 : (t140 != 0) = true := bne_iff_ne.mpr c14
       obtain rfl := Option.some.inj H
       go_wp2_with (first | ((with_reducible refine gate_callee (f := 14) rfl ?_); refine goesL_ (some 27) rfl rfl Tryz.func14 (by kernel_rfl) rfl #[.slice A1 l1.length c1] rfl zP ?_; (with_reducible refine (code_Show.calls (hL := ?sideL) _ _ l1 t139 t140 _ ?side1 ?side2 A11.out).mono ?_); (case sideL => exact Laid.below HL.out zB); (case side1 => repeat (first | exact (Kd.C_below HR1.out HB.out) | (with_reducible refine Kd.C_alloc ?_ _) | (with_reducible refine Kd.C_drewN ?_ _) | (with_reducible refine Kd.C_drew ?_))); (case side2 => exact HC1.out); rintro e w20 ⟨rfl, hb⟩; refine ⟨_, rfl, ?_⟩; replace HB := Aside0.mk (below_step zB hb); (try clear hb)) | ((with_reducible refine gate_callee (f := 14) rfl ?_); refine goesL_ (some 22) rfl rfl Tryz.func14 (by kernel_rfl) rfl #[.slice A0 l0.length c0] rfl zP ?_; (with_reducible refine (code_Show.calls (hL := ?sideL) _ _ l0 t137 t138 _ ?side1 ?side2 A10.out).mono ?_); (case sideL => exact Laid.below HL.out zB); (case side1 => repeat (first | exact (Kd.C_below HR0.out HB.out) | (with_reducible refine Kd.C_alloc ?_ _) | (with_reducible refine Kd.C_drewN ?_ _) | (with_reducible refine Kd.C_drew ?_))); (case side2 => exact HC0.out); rintro e w19 ⟨rfl, hb⟩; refine ⟨_, rfl, ?_⟩; replace HB := Aside0.mk (below_step zB hb); (try clear hb)))
       go_ret
       exact ⟨zE, zB⟩
     ·rw [if_neg c13] at H
      have c13b0 : (t138 == 0) = false := beq_eq_false_iff_ne.mpr c13
      have c13b1 : (t138 != 0) = true := bne_iff_ne.mpr c13
      obtain rfl := Option.some.inj H
      go_wp2_with (first | ((with_reducible refine gate_callee (f := 14) rfl ?_); refine goesL_ (some 27) rfl rfl Tryz.func14 (by kernel_rfl) rfl #[.slice A1 l1.length c1] rfl zP ?_; (with_reducible refine (code_Show.calls (hL := ?sideL) _ _ l1 t139 t140 _ ?side1 ?side2 A11.out).mono ?_); (case sideL => exact Laid.below HL.out zB); (case side1 => repeat (first | exact (Kd.C_below HR1.out HB.out) | (with_reducible refine Kd.C_alloc ?_ _) | (with_reducible refine Kd.C_drewN ?_ _) | (with_reducible refine Kd.C_drew ?_))); (case side2 => exact HC1.out); rintro e w22 ⟨rfl, hb⟩; refine ⟨_, rfl, ?_⟩; replace HB := Aside0.mk (below_step zB hb); (try clear hb)) | ((with_reducible refine gate_callee (f := 14) rfl ?_); refine goesL_ (some 22) rfl rfl Tryz.func14 (by kernel_rfl) rfl #[.slice A0 l0.length c0] rfl zP ?_; (with_reducible refine (code_Show.calls (hL := ?sideL) _ _ l0 t137 t138 _ ?side1 ?side2 A10.out).mono ?_); (case sideL => exact Laid.below HL.out zB); (case side1 => repeat (first | exact (Kd.C_below HR0.out HB.out) | (with_reducible refine Kd.C_alloc ?_ _) | (with_reducible refine Kd.C_drewN ?_ _) | (with_reducible refine Kd.C_drew ?_))); (case side2 => exact HC0.out); rintro e w21 ⟨rfl, hb⟩; refine ⟨_, rfl, ?_⟩; replace HB := Aside0.mk (below_step zB hb); (try clear hb)))
      go_ret
      exact ⟨zE, zB⟩
    ·replace c12 := Bool.eq_false_iff.mpr c12
     subst c12
     rw [if_neg (show ¬ (false = true) by decide)] at H
     exact absurd H (by simp)
end Go.Proofs.YtjlhhjfmekjbhaaGreatDoor.Pv

/- Unlike codes have unlike texts: CodeApart. No condition. -/
namespace Go.Proofs.YtjlhhjfmekjbhaaGreatDoor.Pure
open Go.RowKit Go.Proofs.YtjlhhjfmekjbhaaGreatDoorW.PrintWords Go.Proofs.YtjlhhjfmekjbhaaGreatDoorW.PrintLast Go.Proofs.YtjlhhjfmekjbhaaGreatDoor.Cd Go.Proofs.YtjlhhjfmekjbhaaGreatDoor.Cf Go.Proofs.YtjlhhjfmekjbhaaGreatDoor.Bld Go.Proofs.YtjlhhjfmekjbhaaGreatDoor.Sh Go.Proofs.YtjlhhjfmekjbhaaGreatDoor.Vf Go.Proofs.YtjlhhjfmekjbhaaGreatDoor.Vg Go.Proofs.YtjlhhjfmekjbhaaGreatDoor.Pv
open Go.Proofs.YtjlhhjfmekjbhaaGreatDoor.Pq (S31 S28 k31 k28 z31 z28 rd_T28)
set_option linter.unusedVariables false
set_option linter.unusedSimpArgs false
/-! ### A token tells its text -/
def unhex (b : UInt8) : UInt8 := if b < 58 then b - 48 else b - 87
def dec : List UInt8 → Option (UInt8 × List UInt8)
  | [] => none
  | b :: t => if b = 92 then (match t with
    | [] => none
    | d :: t => if d = 110 then some (10, t) else if d = 116 then some (9, t) else if d = 120 then (match t with
      | h :: g :: t => some (unhex h * 16 + unhex g, t)
      | _ => none) else some (d, t)) else some (b, t)
theorem unhexF : ∀ c : Fin 256, unhex (hexB (c.val / 16)) * 16 + unhex (hexB (c.val % 16)) = UInt8.ofNat c.val := by decide +kernel
theorem dec_q (c : UInt8) (t : List UInt8) : dec (qB c ++ t) = some (c, t) := by
  by_cases h10 : c = 10
  · subst h10; rfl
  by_cases h9 : c = 9
  · subst h9; rfl
  by_cases h2 : c = 34 ∨ c = 92
  · rcases h2 with rfl | rfl <;> rfl
  by_cases hp : 32 ≤ c ∧ c ≤ 126
  · have e : qB c = [c] := by unfold qB; rw [if_neg h10, if_neg h9, if_neg h2, if_pos hp]
    rw [e]
    show (if c = 92 then _ else some (c, [] ++ t)) = _
    rw [if_neg (fun h => h2 (.inr h))]
    rfl
  · have e : qB c = [92, 120, hexB (c.toNat / 16), hexB (c.toNat % 16)] := by unfold qB; rw [if_neg h10, if_neg h9, if_neg h2, if_neg hp]
    have hu := unhexF ⟨c.toNat, c.toNat_lt⟩
    have hc : UInt8.ofNat c.toNat = c := by simp
    rw [e]
    show some (unhex (hexB (c.toNat / 16)) * 16 + unhex (hexB (c.toNat % 16)), t) = _
    rw [← hc]
    simp only at hu
    rw [hc, hu, hc]
theorem q_inj : ∀ a b : List UInt8, a.flatMap qB = b.flatMap qB → a = b
  | [], [], _ => rfl
  | [], c :: b, h => by
    have h1 := dec_q c (b.flatMap qB)
    rw [← List.flatMap_cons, ← h] at h1
    cases h1
  | c :: a, [], h => by
    have h1 := dec_q c (a.flatMap qB)
    rw [← List.flatMap_cons, h] at h1
    cases h1
  | c :: a, d :: b, h => by
    have h1 := dec_q c (a.flatMap qB)
    have h2 := dec_q d (b.flatMap qB)
    rw [← List.flatMap_cons] at h1 h2
    rw [h, h2] at h1
    have h3 := Option.some.inj h1
    have e1 : d = c := congrArg Prod.fst h3
    have e2 : b.flatMap qB = a.flatMap qB := congrArg Prod.snd h3
    rw [e1, q_inj a b e2.symm]
theorem quote_inj (a b : List UInt8) (h : quoteL a = quoteL b) : a = b := by
  unfold quoteL at h
  have h1 := List.append_cancel_right h
  injection h1 with _ h2
  exact q_inj a b h2
theorem no10 (a : List UInt8) : ∀ x ∈ quoteL a, x ≠ 10 := by
  have hq : ∀ c : UInt8, ∀ x ∈ qB c, x ≠ 10 := by
    intro c x hx
    unfold qB at hx
    by_cases h10 : c = 10
    · rw [if_pos h10] at hx
      simp only [List.mem_cons, List.mem_nil_iff, or_false] at hx
      rcases hx with rfl | rfl <;> decide
    rw [if_neg h10] at hx
    by_cases h9 : c = 9
    · rw [if_pos h9] at hx
      simp only [List.mem_cons, List.mem_nil_iff, or_false] at hx
      rcases hx with rfl | rfl <;> decide
    rw [if_neg h9] at hx
    by_cases h2 : c = 34 ∨ c = 92
    · rw [if_pos h2] at hx
      simp only [List.mem_cons, List.mem_nil_iff, or_false] at hx
      rcases hx with rfl | rfl
      · decide
      · exact h10
    rw [if_neg h2] at hx
    by_cases hp : 32 ≤ c ∧ c ≤ 126
    · rw [if_pos hp] at hx
      simp only [List.mem_cons, List.mem_nil_iff, or_false] at hx
      rw [hx]
      exact h10
    rw [if_neg hp] at hx
    have hh : ∀ k : Fin 16, hexB k.val ≠ 10 := by decide +kernel
    simp only [List.mem_cons, List.mem_nil_iff, or_false] at hx
    rcases hx with rfl | rfl | rfl | rfl
    · decide
    · decide
    · exact hh ⟨c.toNat / 16, by have := c.toNat_lt; omega⟩
    · exact hh ⟨c.toNat % 16, by omega⟩
  intro x hx
  unfold quoteL at hx
  simp only [List.mem_cons, List.mem_append, List.mem_flatMap, List.mem_nil_iff, or_false] at hx
  rcases hx with (rfl | ⟨c, _, hc⟩) | rfl
  · decide
  · exact hq c x hc
  · decide
/-! ### Numbers -/
theorem it_mem (n : Int) (h : B64 n) (c : UInt8) (hc : c ∈ (itB n).data.toList) : 45 ≤ c.toNat ∧ c.toNat ≤ 57 := by
  have hc : c ∈ Lib.itoa n := by simpa [itB] using hc
  obtain ⟨h1, h2⟩ := h
  by_cases h0 : n < 0
  · obtain ⟨u, rfl⟩ : ∃ u : Nat, n = -(u : Int) := ⟨n.natAbs, by omega⟩
    rw [Lib.itoa_neg u (by omega)] at hc
    rcases List.mem_cons.1 hc with rfl | hc
    · decide
    · have := Va.dec_digit u c hc; omega
  · obtain ⟨u, rfl⟩ : ∃ u : Nat, n = (u : Int) := ⟨n.toNat, by omega⟩
    rw [Lib.itoa_nonneg u] at hc
    have := Va.dec_digit u c hc; omega
theorem it_inj (n m : Int) (hn : B64 n) (hm : B64 m) (h : (itB n).data.toList = (itB m).data.toList) : n = m := by
  have e : Lib.itoa n = Lib.itoa m := by simpa [itB] using h
  have h1 := Va.numL_itoa n hn
  rw [e, Va.numL_itoa m hm] at h1
  exact h1.symm
theorem it_pos (n : Int) (h : B64 n) : 0 < (itB n).data.toList.length := by
  have := (Va.itoa_len n h).1
  simpa [itB] using this
theorem split_at (s : UInt8) : ∀ a b r t : List UInt8, (∀ x ∈ a, x ≠ s) → (∀ x ∈ b, x ≠ s) → a ++ s :: r = b ++ s :: t → a = b ∧ r = t
  | [], [], r, t, _, _, h => by
    injection h with _ h
    exact ⟨rfl, h⟩
  | [], y :: b, r, t, _, hb, h => by
    injection h with h _
    exact absurd h.symm (hb y (List.mem_cons_self ..))
  | x :: a, [], r, t, ha, _, h => by
    injection h with h _
    exact absurd h (ha x (List.mem_cons_self ..))
  | x :: a, y :: b, r, t, ha, hb, h => by
    injection h with h1 h2
    obtain ⟨e1, e2⟩ := split_at s a b r t (fun z hz => ha z (List.mem_cons_of_mem _ hz)) (fun z hz => hb z (List.mem_cons_of_mem _ hz)) h2
    exact ⟨by rw [h1, e1], e2⟩
theorem it_no (n : Int) (h : B64 n) (s : UInt8) (hs : s.toNat < 45 ∨ 57 < s.toNat) : ∀ x ∈ (itB n).data.toList, x ≠ s := fun x hx e => by
  have := it_mem n h x hx
  rw [e] at this
  omega
theorem num_split (n m : Int) (hn : B64 n) (hm : B64 m) (r t : List UInt8) (h : (itB n).data.toList ++ 32 :: r = (itB m).data.toList ++ 32 :: t) : n = m ∧ r = t := by
  obtain ⟨e1, e2⟩ := split_at 32 _ _ _ _ (it_no n hn 32 (.inl (by decide))) (it_no m hm 32 (.inl (by decide))) h
  exact ⟨it_inj n m hn hm e1, e2⟩
/-! ### Lines -/
/-- An instruction's line, without its end. -/
def lineI (x : X) : List UInt8 := (itB x.f0).data.toList ++ spB [itB x.f1, itB x.f2, itB x.f3, itB x.f4, itB x.f6] ++ (spB (x.f7.map itB) ++ (32 :: quoteL x.f5.data.toList))
def lineP (n : Int) : List UInt8 := [112, 114, 111, 99, 32] ++ (itB n).data.toList
theorem showI_line (x : X) : showI x = lineI x ++ [10] := by
  rw [showI_eq]
  unfold tailI lineI
  simp
theorem headP_line (n : Int) : headP n = lineP n ++ [10] := by
  rw [headP_eq]
  rfl
theorem tail_inj : ∀ a b : List Int, (∀ n ∈ a, B64 n) → (∀ n ∈ b, B64 n) → ∀ s t : List UInt8, spB (a.map itB) ++ (32 :: quoteL s) = spB (b.map itB) ++ (32 :: quoteL t) → a = b ∧ s = t
  | [], [], _, _, s, t, h => by
    injection h with _ h
    exact ⟨rfl, quote_inj s t h⟩
  | [], m :: b, _, hb, s, t, h => by
    exfalso
    have h : (32 :: quoteL s : List UInt8) = 32 :: ((itB m).data.toList ++ (spB (b.map itB) ++ (32 :: quoteL t))) := by simpa [spB] using h
    injection h with _ h
    have hm := hb m (List.mem_cons_self ..)
    have hp := it_pos m hm
    cases e : (itB m).data.toList with
    | nil => rw [e] at hp; cases hp
    | cons c r =>
      rw [e] at h
      have h34 : (34 : UInt8) = c := by
        unfold quoteL at h
        injection h
      have := it_mem m hm c (by rw [e]; exact List.mem_cons_self ..)
      rw [← h34] at this
      exact absurd this.1 (by decide)
  | n :: a, [], ha, _, s, t, h => by
    exfalso
    have h : (32 :: ((itB n).data.toList ++ (spB (a.map itB) ++ (32 :: quoteL s))) : List UInt8) = 32 :: quoteL t := by simpa [spB] using h
    injection h with _ h
    have hm := ha n (List.mem_cons_self ..)
    have hp := it_pos n hm
    cases e : (itB n).data.toList with
    | nil => rw [e] at hp; cases hp
    | cons c r =>
      rw [e] at h
      have h34 : c = (34 : UInt8) := by
        unfold quoteL at h
        injection h
      have := it_mem n hm c (by rw [e]; exact List.mem_cons_self ..)
      rw [h34] at this
      exact absurd this.1 (by decide)
  | n :: a, m :: b, ha, hb, s, t, h => by
    have h : (32 :: ((itB n).data.toList ++ (spB (a.map itB) ++ (32 :: quoteL s))) : List UInt8) = 32 :: ((itB m).data.toList ++ (spB (b.map itB) ++ (32 :: quoteL t))) := by simpa [spB] using h
    injection h with _ h
    have sp : ∀ (l : List Int) (u : List UInt8), ∃ r, spB (l.map itB) ++ (32 :: quoteL u) = 32 :: r := fun l u => by
      cases l with
      | nil => exact ⟨_, rfl⟩
      | cons q l => exact ⟨_, rfl⟩
    obtain ⟨r1, e1⟩ := sp a s
    obtain ⟨r2, e2⟩ := sp b t
    rw [e1, e2] at h
    obtain ⟨g1, g2⟩ := num_split n m (ha n (List.mem_cons_self ..)) (hb m (List.mem_cons_self ..)) r1 r2 h
    obtain ⟨g3, g4⟩ := tail_inj a b (fun z hz => ha z (List.mem_cons_of_mem _ hz)) (fun z hz => hb z (List.mem_cons_of_mem _ hz)) s t (by rw [e1, e2, g2])
    exact ⟨by rw [g1, g3], g4⟩
theorem lineI_inj (x y : X) (hx : SmX x) (hy : SmX y) (h : lineI x = lineI y) : x = y := by
  have ex : ∀ z : X, lineI z = (itB z.f0).data.toList ++ 32 :: ((itB z.f1).data.toList ++ 32 :: ((itB z.f2).data.toList ++ 32 :: ((itB z.f3).data.toList ++ 32 :: ((itB z.f4).data.toList ++ 32 :: ((itB z.f6).data.toList ++ (spB (z.f7.map itB) ++ (32 :: quoteL z.f5.data.toList))))))) := by
    intro z
    simp [lineI, spB]
  rw [ex, ex] at h
  obtain ⟨e0, h⟩ := num_split _ _ hx.h0 hy.h0 _ _ h
  obtain ⟨e1, h⟩ := num_split _ _ hx.h1 hy.h1 _ _ h
  obtain ⟨e2, h⟩ := num_split _ _ hx.h2 hy.h2 _ _ h
  obtain ⟨e3, h⟩ := num_split _ _ hx.h3 hy.h3 _ _ h
  obtain ⟨e4, h⟩ := num_split _ _ hx.h4 hy.h4 _ _ h
  have sp : ∀ (l : List Int) (u : List UInt8), ∃ r, spB (l.map itB) ++ (32 :: quoteL u) = 32 :: r := fun l u => by
    cases l with
    | nil => exact ⟨_, rfl⟩
    | cons q l => exact ⟨_, rfl⟩
  obtain ⟨r1, f1⟩ := sp x.f7 x.f5.data.toList
  obtain ⟨r2, f2⟩ := sp y.f7 y.f5.data.toList
  rw [f1, f2] at h
  obtain ⟨e6, h⟩ := num_split _ _ hx.h6 hy.h6 _ _ h
  obtain ⟨e7, e5⟩ := tail_inj x.f7 y.f7 hx.h7 hy.h7 x.f5.data.toList y.f5.data.toList (by rw [f1, f2, h])
  have e5' : x.f5 = y.f5 := by
    apply ByteArray.ext
    exact Array.ext' e5
  cases x
  cases y
  simp only at e0 e1 e2 e3 e4 e5' e6 e7
  subst e0 e1 e2 e3 e4 e5' e6 e7
  rfl
theorem lineP_inj (n m : Int) (hn : B64 n) (hm : B64 m) (h : lineP n = lineP m) : n = m := by
  unfold lineP at h
  exact it_inj n m hn hm (List.append_cancel_left h)
theorem lineI_no (x : X) (hx : SmX x) : ∀ c ∈ lineI x, c ≠ 10 := by
  have hs : ∀ l : List ByteArray, (∀ z ∈ l, ∀ c ∈ z.data.toList, c ≠ 10) → ∀ c ∈ spB l, c ≠ 10 := by
    intro l hl c hc
    simp only [spB, List.mem_flatMap, List.mem_cons] at hc
    obtain ⟨z, hz, rfl | hc⟩ := hc
    · decide
    · exact hl z hz c hc
  have ht : ∀ n, B64 n → ∀ c ∈ (itB n).data.toList, c ≠ 10 := fun n hn => it_no n hn 10 (.inl (by decide))
  intro c hc
  simp only [lineI, List.mem_append, List.mem_cons] at hc
  rcases hc with (hc | hc) | hc | rfl | hc
  · exact ht _ hx.h0 c hc
  · refine hs _ ?_ c hc
    intro z hz
    simp only [List.mem_cons, List.mem_nil_iff, or_false] at hz
    rcases hz with rfl | rfl | rfl | rfl | rfl
    · exact ht _ hx.h1
    · exact ht _ hx.h2
    · exact ht _ hx.h3
    · exact ht _ hx.h4
    · exact ht _ hx.h6
  · refine hs _ ?_ c hc
    intro z hz
    obtain ⟨n, hn, rfl⟩ := List.mem_map.1 hz
    exact ht _ (hx.h7 n hn)
  · decide
  · exact no10 _ c hc
theorem lineP_no (n : Int) (h : B64 n) : ∀ c ∈ lineP n, c ≠ 10 := by
  intro c hc
  simp only [lineP, List.mem_append, List.mem_cons, List.mem_nil_iff, or_false] at hc
  rcases hc with (rfl | rfl | rfl | rfl | rfl) | hc
  · decide
  · decide
  · decide
  · decide
  · decide
  · exact it_no n h 10 (.inl (by decide)) c hc
theorem lineI_head (x : X) (hx : SmX x) : ∃ c r, lineI x = c :: r ∧ c ≠ 112 := by
  have hp := it_pos _ hx.h0
  cases e : (itB x.f0).data.toList with
  | nil => rw [e] at hp; cases hp
  | cons c r =>
    refine ⟨c, _, by unfold lineI; rw [e]; rfl, fun h => ?_⟩
    have := it_mem _ hx.h0 c (by rw [e]; exact List.mem_cons_self ..)
    rw [h] at this
    exact absurd this.2 (by decide)
def lines (l : List P) : List (List UInt8) := l.flatMap fun p => lineP p.f0 :: p.f1.map lineI
theorem show_lines (l : List P) : showL l = (lines l).flatMap (· ++ [10]) := by
  induction l with
  | nil => rfl
  | cons p l ih =>
    have e : ∀ xs : List X, xs.flatMap showI = (xs.map lineI).flatMap (· ++ [10]) := by
      intro xs
      rw [List.flatMap_map]
      congr 1
      funext x
      exact showI_line x
    have h1 : showL (p :: l) = showP p ++ showL l := by unfold showL; rw [List.flatMap_cons]
    have h2 : lines (p :: l) = (lineP p.f0 :: p.f1.map lineI) ++ lines l := by unfold lines; rw [List.flatMap_cons]
    rw [h1, h2, List.flatMap_append, List.flatMap_cons, ← ih, ← e, ← headP_line]
    rfl
theorem join_inj : ∀ A B : List (List UInt8), (∀ a ∈ A, ∀ c ∈ a, c ≠ 10) → (∀ b ∈ B, ∀ c ∈ b, c ≠ 10) → A.flatMap (· ++ [10]) = B.flatMap (· ++ [10]) → A = B
  | [], [], _, _, _ => rfl
  | [], b :: B, _, _, h => by
    rw [List.flatMap_cons] at h
    simp at h
  | a :: A, [], _, _, h => by
    rw [List.flatMap_cons] at h
    simp at h
  | a :: A, b :: B, ha, hb, h => by
    rw [List.flatMap_cons, List.flatMap_cons, List.append_assoc, List.append_assoc] at h
    obtain ⟨e1, e2⟩ := split_at 10 a b _ _ (ha a (List.mem_cons_self ..)) (hb b (List.mem_cons_self ..)) h
    rw [e1, join_inj A B (fun x hx => ha x (List.mem_cons_of_mem _ hx)) (fun x hx => hb x (List.mem_cons_of_mem _ hx)) e2]
def Heads (R : List (List UInt8)) : Prop := R = [] ∨ ∃ n r, R = lineP n :: r
theorem not_head (n : Int) (y : X) (hy : SmX y) : lineP n ≠ lineI y := by
  intro h
  obtain ⟨c, r, e, hc⟩ := lineI_head y hy
  rw [e] at h
  unfold lineP at h
  injection h with h _
  exact hc h.symm
theorem body_inj : ∀ (xs ys : List X) (R R' : List (List UInt8)), (∀ x ∈ xs, SmX x) → (∀ y ∈ ys, SmX y) → Heads R → Heads R' → xs.map lineI ++ R = ys.map lineI ++ R' → xs = ys ∧ R = R'
  | [], [], R, R', _, _, _, _, h => ⟨rfl, h⟩
  | [], y :: ys, R, R', _, hy, hR, _, h => by
    exfalso
    rcases hR with rfl | ⟨n, r, rfl⟩
    · simp at h
    · injection h with h _
      exact not_head n y (hy y (List.mem_cons_self ..)) h
  | x :: xs, [], R, R', hx, _, _, hR, h => by
    exfalso
    rcases hR with rfl | ⟨n, r, rfl⟩
    · simp at h
    · injection h with h _
      exact not_head n x (hx x (List.mem_cons_self ..)) h.symm
  | x :: xs, y :: ys, R, R', hx, hy, hR, hR', h => by
    injection h with h1 h2
    obtain ⟨e1, e2⟩ := body_inj xs ys R R' (fun z hz => hx z (List.mem_cons_of_mem _ hz)) (fun z hz => hy z (List.mem_cons_of_mem _ hz)) hR hR' h2
    exact ⟨by rw [lineI_inj x y (hx x (List.mem_cons_self ..)) (hy y (List.mem_cons_self ..)) h1, e1], e2⟩
def SmP (l : List P) : Prop := ∀ p ∈ l, B64 p.f0 ∧ ∀ x ∈ p.f1, SmX x
theorem lines_head (l : List P) : Heads (lines l) := by
  cases l with
  | nil => exact .inl rfl
  | cons p l => exact .inr ⟨p.f0, _, rfl⟩
theorem lines_inj : ∀ a b : List P, SmP a → SmP b → lines a = lines b → a = b
  | [], [], _, _, _ => rfl
  | [], q :: b, _, _, h => by cases h
  | p :: a, [], _, _, h => by cases h
  | p :: a, q :: b, ha, hb, h => by
    have e : ∀ (p : P) (l : List P), lines (p :: l) = lineP p.f0 :: (p.f1.map lineI ++ lines l) := fun p l => by
      unfold lines
      rw [List.flatMap_cons]
      rfl
    rw [e, e] at h
    injection h with h1 h2
    have hp := ha p (List.mem_cons_self ..)
    have hq := hb q (List.mem_cons_self ..)
    have e0 := lineP_inj _ _ hp.1 hq.1 h1
    obtain ⟨e1, e2⟩ := body_inj p.f1 q.f1 _ _ hp.2 hq.2 (lines_head a) (lines_head b) h2
    have e3 := lines_inj a b (fun z hz => ha z (List.mem_cons_of_mem _ hz)) (fun z hz => hb z (List.mem_cons_of_mem _ hz)) e2
    cases p
    cases q
    simp only at e0 e1
    subst e0 e1
    rw [e3]
theorem show_inj (a b : List P) (ha : SmP a) (hb : SmP b) (h : showL a = showL b) : a = b := by
  have hl : ∀ l : List P, SmP l → ∀ z ∈ lines l, ∀ c ∈ z, c ≠ 10 := by
    intro l hl z hz
    simp only [lines, List.mem_flatMap, List.mem_cons, List.mem_map] at hz
    obtain ⟨p, hp, rfl | ⟨x, hx, rfl⟩⟩ := hz
    · exact lineP_no _ (hl p hp).1
    · exact lineI_no x ((hl p hp).2 x hx)
  rw [show_lines, show_lines] at h
  exact lines_inj a b ha hb (join_inj _ _ (hl a ha) (hl b hb) h)
theorem all2_eq {α : Type} (f : α → α → Bool) (h : ∀ x y, f x y = true → x = y) : ∀ a b : List α, all2 f a b = true → a = b
  | [], [], _ => rfl
  | [], y :: b, h2 => by simp [all2] at h2
  | x :: a, [], h2 => by simp [all2] at h2
  | x :: a, y :: b, h2 => by
    simp only [all2, List.length_cons, List.zip_cons_cons, List.all_cons, Bool.and_eq_true, beq_iff_eq] at h2
    rw [h x y h2.2.1, all2_eq f h a b (by simp only [all2, Bool.and_eq_true, beq_iff_eq]; exact ⟨by omega, h2.2.2⟩)]
theorem insS_eq (x y : X) (h : insS x y = true) : x = y := by
  simp only [insS, Bool.and_eq_true, beq_iff_eq, ByteArray.toList_eq] at h
  obtain ⟨e7, e0, e1, e2, e3, e4, e5, e6⟩ := h
  have e5' : x.f5 = y.f5 := by
    apply ByteArray.ext
    exact Array.ext' e5
  cases x
  cases y
  simp only at e0 e1 e2 e3 e4 e5' e6 e7
  subst e0 e1 e2 e3 e4 e5' e6 e7
  rfl
theorem sameS_iff (a b : List P) : sameS a b = true ↔ a = b := by
  refine ⟨fun e => all2_eq prS (fun p q hp => ?_) a b e, fun h => by rw [h, same_refl]⟩
  simp only [prS, Bool.and_eq_true, beq_iff_eq] at hp
  have e1 := all2_eq insS insS_eq _ _ hp.2
  cases p
  cases q
  simp only at hp e1
  rw [hp.1, e1]
theorem CodeApart (a : List P) (ha : RowL a) (b : List P) (hb : RowL b) : gumshoelaw09_CodeApart.f 1 a b = some true := by
  unfold gumshoelaw09_CodeApart.f
  rw [shown_tells]
  simp only [Option.bind_some, gumshoelaw09_Small.f, gumshoelaw09_CodeApart.j0]
  by_cases h : smallI a = 0
  · simp [h]
  by_cases h' : smallI b = 0
  · simp [h, h']
  have sa := small_ok a ha h
  have sb := small_ok b hb h'
  have ea : showL a = showL b → a = b := show_inj a b (fun p hp => ⟨(sa.proc p hp).1, fun x hx => ((sa.proc p hp).2.2 x hx).1⟩) (fun p hp => ⟨(sb.proc p hp).1, fun x hx => ((sb.proc p hp).2.2 x hx).1⟩)
  have ek : ((mkB (showL a)).toList == (mkB (showL b)).toList) = sameS a b := by
    rw [Bool.eq_iff_iff, sameS_iff, beq_iff_eq, ByteArray.toList_eq, ByteArray.toList_eq]
    exact ⟨fun e => ea (by simpa [mkB] using e), fun e => by rw [e]⟩
  rw [if_neg h, beq_eq_false_iff_ne.mpr h', if_neg (by decide)]
  simp only [code_Show.f, code_Same.f, sa.ok, sb.ok, if_true, and_self, Option.bind_some, showR]
  cases codeS a
  · simp
  · cases codeS b
    · simp
    · simp [ek]
end Go.Proofs.YtjlhhjfmekjbhaaGreatDoor.Pure

/- CodeApart: for every input the law returns true, and each argument reads as it did; its row, and its tied card. No condition but those of the card. -/
namespace Go.Proofs.YtjlhhjfmekjbhaaGreatDoor.codeApart
open Go.ChangeShapes Go.WideShapes Go.ChangeAt Go.RowKit
open Go.ChangeMaps (open_string shut_string)
open Go.Proofs.YtjlhhjfmekjbhaaGreatDoor Go.Proofs.YtjlhhjfmekjbhaaGreatDoor.Vl Go.Proofs.YtjlhhjfmekjbhaaGreatDoorW.PrintWords
set_option linter.unusedVariables false
instance : Inhabited Pq.S31 := ⟨Pq.z31⟩
instance : Inhabited Pq.S28 := ⟨Pq.z28⟩
set_option maxRecDepth 100000 in
theorem lifted (os : Os) (started : os.Started) (H : Type) (enc : TypeId × Value → H) :
    ReturnsInHanded {} Tryz.checked os 9 .any (fun w args => (Rows.codeApartSpec.pre enc Tryz.prog Tryz.f9 [] false w args ∧ laidMetH Tryz.prog five w) ∧ sizedMet enc Tryz.prog Tryz.f9 (OpenSpec.ofChange Rows.codeApartSpec) false w args) (Rows.codeApartSpec.post enc Tryz.prog Tryz.f9 false true false false) := by
  refine returnsInHanded_of_change_and (C := Tryz.checked) (X := fun w _ => laidMetH Tryz.prog five w) (fun _ _ _ hh h => h.of_heap hh) own started (by kernel_rfl) Tryz.func9
    (ChangeSpec.witness_shaped (enc := enc) (C := Tryz.checked) (os := os) (X := fun w _ => laidMetH Tryz.prog five w) false (World.doorLaid Tryz.prog 400 os) #[.slice none 0 0, .slice none 0 0] 8 rfl (World.shaped_of_RefB (by kernel_rfl) (by kernel_rfl)) (by kernel_rfl) (by kernel_rfl) (by kernel_rfl) (door_met os _)) ?_
  intro W base args ds gs before hval0 hW _ hsz0 hL0 _
  have hL := laid_of hL0
  have hsz : (DataW.weightsEach Tryz.prog (Tryz.f9.params.toList ++ Rows.codeApartSpec.plain.varTypes Tryz.prog) (ds ++ gs)).all (· ≤ reachBytes) = true := hsz0
  have hval : ∀ (j : Nat) t v, Tryz.f9.params[j]? = some t → args[j]? = some v → Value.okWide Tryz.prog W .any base t v := hval0
  have hW' := hW
  obtain ⟨p, q, hA0, hV, rfl, hfz, hnd⟩ := hW
  have hA : DataW.TrodAll enc Tryz.prog W 0 (fun _ => true) true Tryz.f9.params.toList args.toList ds p := hA0
  rw [Tryz.params9] at hA hval hsz
  obtain ⟨v0, vs0, d0, ds0, p0, q0, hargs, rfl, rfl, h0, r0⟩ := trodAll_cons hA
  obtain ⟨v1, vs1, d1, ds1, p1, q1, rfl, rfl, rfl, h1, r1⟩ := trodAll_cons r0
  obtain ⟨rfl, rfl, rfl⟩ := trodAll_nil r1
  obtain rfl : args = #[v0, v1] := by cases args; simp_all
  obtain ⟨rfl, rfl⟩ := trodVars_none hV
  obtain ⟨a0, len0, cap0, rfl⟩ := okWide_slice Tryz.underlying22 (hval 0 22 v0 rfl rfl)
  have k0 := h0
  have lt0 : ∀ x ∈ p0, x.block < W.heap.size := by obtain ⟨m, hm⟩ := k0; exact DataW.trod_lt m _ _ _ hm
  obtain ⟨m0, hm0⟩ := h0
  obtain ⟨l0, hK0, hw0⟩ := (Opens.opens_slice (d := Pq.k28) Tryz.underlying22 (by kernel_rfl) (Opens.opens_iso (fun x : Pq.S28 => (x.f0, x.f1)) (fun y => (⟨y.1, y.2⟩ : Pq.S28)) (fun _ => rfl) (Opens.opens_struct Tryz.underlying28 (by kernel_rfl) (Opens.opensFs_cons (da := Kd.int .i64) rfl (by kernel_rfl) (Opens.opens_int Tryz.underlying3) (Opens.opensFs_last rfl (by kernel_rfl) (Opens.opens_slice (d := Pq.k31) Tryz.underlying26 (by kernel_rfl) (Opens.opens_iso (fun x : Pq.S31 => (x.f0, x.f1, x.f2, x.f3, x.f4, x.f5, x.f6, x.f7)) (fun y => (⟨y.1, y.2.1, y.2.2.1, y.2.2.2.1, y.2.2.2.2.1, y.2.2.2.2.2.1, y.2.2.2.2.2.2.1, y.2.2.2.2.2.2.2⟩ : Pq.S31)) (fun _ => rfl) (Opens.opens_struct Tryz.underlying31 (by kernel_rfl) (Opens.opensFs_cons (da := Kd.int .i64) rfl (by kernel_rfl) (Opens.opens_int Tryz.underlying3) (Opens.opensFs_cons (da := Kd.int .i64) rfl (by kernel_rfl) (Opens.opens_int Tryz.underlying3) (Opens.opensFs_cons (da := Kd.int .i64) rfl (by kernel_rfl) (Opens.opens_int Tryz.underlying3) (Opens.opensFs_cons (da := Kd.int .i64) rfl (by kernel_rfl) (Opens.opens_int Tryz.underlying3) (Opens.opensFs_cons (da := Kd.int .i64) rfl (by kernel_rfl) (Opens.opens_int Tryz.underlying3) (Opens.opensFs_cons (da := Kd.string) rfl (by kernel_rfl) (Opens.opens_string Tryz.underlying9) (Opens.opensFs_cons (da := Kd.int .i64) rfl (by kernel_rfl) (Opens.opens_int Tryz.underlying2) (Opens.opensFs_last rfl (by kernel_rfl) (Opens.opens_slice (d := Kd.int .i64) Tryz.underlying29 (by kernel_rfl) (Opens.opens_int Tryz.underlying3)))))))))))))))))) H enc W 0 _ true m0 _ _ hm0
  obtain ⟨hn0, hc0, hr0⟩ := Opens.slice_of_K rfl hK0
  subst hn0
  obtain ⟨a1, len1, cap1, rfl⟩ := okWide_slice Tryz.underlying22 (hval 1 22 v1 rfl rfl)
  have k1 := h1
  have lt1 : ∀ x ∈ p1, x.block < W.heap.size := by obtain ⟨m, hm⟩ := k1; exact DataW.trod_lt m _ _ _ hm
  obtain ⟨m1, hm1⟩ := h1
  obtain ⟨l1, hK1, hw1⟩ := (Opens.opens_slice (d := Pq.k28) Tryz.underlying22 (by kernel_rfl) (Opens.opens_iso (fun x : Pq.S28 => (x.f0, x.f1)) (fun y => (⟨y.1, y.2⟩ : Pq.S28)) (fun _ => rfl) (Opens.opens_struct Tryz.underlying28 (by kernel_rfl) (Opens.opensFs_cons (da := Kd.int .i64) rfl (by kernel_rfl) (Opens.opens_int Tryz.underlying3) (Opens.opensFs_last rfl (by kernel_rfl) (Opens.opens_slice (d := Pq.k31) Tryz.underlying26 (by kernel_rfl) (Opens.opens_iso (fun x : Pq.S31 => (x.f0, x.f1, x.f2, x.f3, x.f4, x.f5, x.f6, x.f7)) (fun y => (⟨y.1, y.2.1, y.2.2.1, y.2.2.2.1, y.2.2.2.2.1, y.2.2.2.2.2.1, y.2.2.2.2.2.2.1, y.2.2.2.2.2.2.2⟩ : Pq.S31)) (fun _ => rfl) (Opens.opens_struct Tryz.underlying31 (by kernel_rfl) (Opens.opensFs_cons (da := Kd.int .i64) rfl (by kernel_rfl) (Opens.opens_int Tryz.underlying3) (Opens.opensFs_cons (da := Kd.int .i64) rfl (by kernel_rfl) (Opens.opens_int Tryz.underlying3) (Opens.opensFs_cons (da := Kd.int .i64) rfl (by kernel_rfl) (Opens.opens_int Tryz.underlying3) (Opens.opensFs_cons (da := Kd.int .i64) rfl (by kernel_rfl) (Opens.opens_int Tryz.underlying3) (Opens.opensFs_cons (da := Kd.int .i64) rfl (by kernel_rfl) (Opens.opens_int Tryz.underlying3) (Opens.opensFs_cons (da := Kd.string) rfl (by kernel_rfl) (Opens.opens_string Tryz.underlying9) (Opens.opensFs_cons (da := Kd.int .i64) rfl (by kernel_rfl) (Opens.opens_int Tryz.underlying2) (Opens.opensFs_last rfl (by kernel_rfl) (Opens.opens_slice (d := Kd.int .i64) Tryz.underlying29 (by kernel_rfl) (Opens.opens_int Tryz.underlying3)))))))))))))))))) H enc W 0 _ true m1 _ _ hm1
  obtain ⟨hn1, hc1, hr1⟩ := Opens.slice_of_K rfl hK1
  subst hn1
  clear hA0 hval0 hsz0 hsz hL0
  have hP := Pure.CodeApart l0 (rowL_of hw0) l1 (rowL_of hw1)
  refine (Pv.gumshoelaw09_CodeApart.calls 1 _ _ l0 _ _ l1 true W hL hr0 hc0 hr1 hc1 hP).mono fun e W' ⟨he, bel⟩ => ?_
  subst he
  exact ⟨_, rfl, _, _, _, [], _, [], hW', trodAll_mk1 (shut_bool Tryz.underlying4 _), (trodAll_cons_mk (Below.trod laidOut (by kernel_rfl) (of_decide_eq_true (by kernel_rfl)) k0 bel lt0) (trodAll_cons_mk (Below.trod laidOut (by kernel_rfl) (of_decide_eq_true (by kernel_rfl)) k1 bel lt1) trodAll_mk0)), rfl, bel.frame _, fun h => by cases h⟩
theorem over : Rows.codeApartRow.holds Tryz.pinned (OpenSpec.ofChange Rows.codeApartSpec) :=
  OpenClaim.holds_of_wide 9 Tryz.f9 rfl rfl rfl rfl rfl rfl rfl ⟨rfl, rfl, rfl, rfl, rfl⟩ rfl rfl rfl rfl rfl (by kernel_rfl) Tryz.func9 (by kernel_rfl)
    (of_decide_eq_true (by kernel_rfl)) (by unfold Func.isWrapper; first | (rw [if_pos (by decide +kernel)]; kernel_rfl) | (rw [if_neg (by decide +kernel)]; exact ⟨rfl, rfl⟩))
    (fun os started H enc _ => lifted os started H enc)
set_option maxRecDepth 100000 in
theorem card : Rows.CodeApartCardSaid :=
  Claim7.holds_tied_plain_at .later [] [.data, .data, .data, .sentinel, .sentinel] true (true, "85c2d0c8c5b4204c20e433950d907f7fb04aa29ec539f0ae38069e55df88bd6d") true
    over (fun _ h => by cases h) (by kernel_rfl) (fun _ h => by cases h) codeApart_row_tie rfl ⟨rfl, rfl⟩ (by kernel_rfl) rfl
    (fun f fn hf hfn => by
      obtain rfl : f = 9 := Option.some.inj ((show Tryz.prog.funcNamed "gumshoe/gumshoelaw09.CodeApart" = some 9 by kernel_rfl).symm.trans hf) |>.symm
      obtain rfl : fn = Tryz.f9 := (Option.some.inj (Tryz.func9.symm.trans hfn)).symm
      exact ⟨by kernel_rfl, fun j t ht => by
        rw [Tryz.params9] at ht
        have hm : t ∈ [22, 22] := by simpa using Array.mem_of_getElem? ht
        have hall : ([22, 22].all fun u => !Tryz.prog.wantsStandIn u) = true := by kernel_rfl
        exact (show Tryz.prog.wantsStandIn t = false by simpa using List.all_eq_true.1 hall t hm)⟩)
    (by kernel_rfl)
end Go.Proofs.YtjlhhjfmekjbhaaGreatDoor.codeApart
namespace Go.Proofs.YtjlhhjfmekjbhaaGreatDoor
theorem codeApart_holds : Rows.CodeApartCardSaid := codeApart.card
end Go.Proofs.YtjlhhjfmekjbhaaGreatDoor

