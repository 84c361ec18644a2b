/- The law CodeSames: for every input it returns true, and each argument reads as it did. No condition but those of the given card or row. -/
import Derived.Test.YtjlhhjfmekjbhaaGreatDoorRows
import Derived.Test.YtjlhhjfmekjbhaaGreatDoorCards
import Derived.Test.YtjlhhjfmekjbhaaGreatDoorTie
import Derived.WalkKit
import Derived.ProofKit
import Derived.OpenShut
import Derived.ShutString
import Derived.ChangeOld
import Derived.Below
import Derived.SizedLaws
import Derived.Stop.Joined
import Derived.SevenTiedAt
import Derived.Test.YtjlhhjfmekjbhaaGreatDoorMc0
import Derived.Test.YtjlhhjfmekjbhaaGreatDoorMc1
import Derived.Test.YtjlhhjfmekjbhaaGreatDoorMc9
namespace Go.Proofs.YtjlhhjfmekjbhaaGreatDoor.Pv
open Go.Proofs.YtjlhhjfmekjbhaaGreatDoor.Pq (errW errW_none errW_some S31 z31 k31 k31_open k31_mk rd_T31 at_T31 S28 z28 k28 k28_open k28_mk rd_T28 at_T28)
open Go.RowKit Go.Proofs.YtjlhhjfmekjbhaaGreatDoor.Vg Go.Proofs.YtjlhhjfmekjbhaaGreatDoorW.PrintWords Go.Proofs.YtjlhhjfmekjbhaaGreatDoorW.PrintLast Go.Proofs.YtjlhhjfmekjbhaaGreatDoorW.PrintMore
set_option linter.unusedVariables false
set_option linter.unusedSimpArgs false
/-! ### gumshoelaw09_CodeSames: function 8 -/
def gumshoelaw09_CodeSames.j0 : Nat → List (S28) → List (S28) → Bool → Bool → Option (Bool)
 | 0, _, _, _, _ => none
 | k + 1, x0, x1, x5, x14 => if x14 = true then (some x5) else (if x5 = true then ((code_Same.f x0 x1).bind fun t131 => ((gumshoeref09_Same.f x0 x1).bind fun t132 => (if (t131 == t132) = true then ((code_Same.f x0 x0).bind fun t133 => (some t133)) else (none)))) else (none))
def gumshoelaw09_CodeSames.f (k : Nat) (l0 : List (S28)) (l1 : List (S28)) : Option (Bool) := (gumshoelaw09_shown.f).bind fun t128 => ((gumshoelaw09_Small.f l0).bind fun t129 => (if t129 = 0 then (gumshoelaw09_CodeSames.j0 k l0 l1 t128 true) else ((gumshoelaw09_Small.f l1).bind fun t130 => (gumshoelaw09_CodeSames.j0 k l0 l1 t128 (t130 == 0)))))
set_option maxHeartbeats 8000000 in
set_option maxRecDepth 100000 in
theorem gumshoelaw09_CodeSames.calls (k : Nat) (A0 : Option Addr) (c0 : Nat) (l0 : List (S28)) (A1 : Option Addr) (c1 : Nat) (l1 : List (S28)) (r : Bool) (w : World) (hL : Laid w) (hr0 : Kd.C k28 w A0 l0.length l0) (hc0 : l0.length ≤ c0) (hr1 : Kd.C k28 w A1 l1.length l1) (hc1 : l1.length ≤ c1) (h : gumshoelaw09_CodeSames.f k l0 l1 = some r) :
  Calls Tryz.prog 8 #[.slice A0 l0.length c0, .slice A1 l1.length c1] w fun e w' => e = .returned (.bool r) ∧ Below w.heap.size w w' := by
 have HL := Aside0.mk hL
 clear hL
 have HR0 := Aside0.mk hr0
 have HC0 := Aside0.mk hc0
 clear hr0 hc0
 have HR1 := Aside0.mk hr1
 have HC1 := Aside0.mk hc1
 clear hr1 hc1
 have HB := Aside0.mk (Below.refl w.heap.size w)
 have H : ((gumshoelaw09_shown.f).bind fun t128 => ((gumshoelaw09_Small.f l0).bind fun t129 => (if t129 = 0 then (gumshoelaw09_CodeSames.j0 k l0 l1 t128 true) else ((gumshoelaw09_Small.f l1).bind fun t130 => (gumshoelaw09_CodeSames.j0 k l0 l1 t128 (t130 == 0)))))) = some r := h
 clear h
 obtain ⟨t128, A3, H⟩ := zO H
 have HC4 := Aside0.mk H
 clear H
 go_enter Tryz.func8, Tryz.ntmps8
 go_upto_region 2 with (first | ((with_reducible refine gate_callee (f := 10) rfl ?_); refine goesL_ (some 6) rfl rfl Tryz.func10 (by kernel_rfl) rfl #[] rfl zP ?_; (with_reducible refine (gumshoelaw09_shown.calls (hL := ?sideL)  t128 _ A3.out).mono ?_); (case sideL => exact Laid.below HL.out zB); rintro e w5 ⟨rfl, hb⟩; refine ⟨_, rfl, ?_⟩; replace HB := Aside0.mk (below_step zB hb); (try clear hb)))
 (try simp only [Act.put, List.setIfInBounds_toArray, List.set_cons_zero, List.set_cons_succ])
 go_cut [14] (fun v14 wc => ∃ (kq : Nat) (x14_3 : Bool), v14 = .bool x14_3 ∧ Aside0 (gumshoelaw09_CodeSames.j0 kq l0 l1 t128 x14_3 = some r) ∧ Aside0 (kq ≤ k) ∧ Aside0 (Below w.heap.size w wc))
 case first =>
  have H := HC4.out
  clear HC4
  obtain ⟨t129, A6, H⟩ := zO H
  by_cases c7 : t129 = 0
  ·rw [if_pos c7] at H
   have c7b0 : (t129 == 0) = true := beq_iff_eq.mpr c7
   have c7b1 : (t129 != 0) = false := bne_eq_false_iff_eq.mpr c7
   clear c7
   (first | rw [c7b0] | (simp only [i64_w, i32_w]; rw [c7b0]) | skip)
   have H' := Aside0.mk H
   clear H
   go_wp2_with (first | ((with_reducible refine gate_callee (f := 11) rfl ?_); refine goesL_ (some 8) rfl rfl Tryz.func11 (by kernel_rfl) rfl #[.slice A0 l0.length c0] rfl zP ?_; (with_reducible refine (gumshoelaw09_Small.calls _ _ l0 t129 _ ?side1 ?side2 A6.out).mono ?_); (case side1 => repeat (first | exact (Kd.C_below HR0.out HB.out) | (with_reducible refine Kd.C_alloc ?_ _) | (with_reducible refine Kd.C_drewN ?_ _) | (with_reducible refine Kd.C_drew ?_))); (case side2 => exact HC0.out); rintro e w' ⟨rfl, ⟨nd, rfl⟩⟩; refine ⟨_, rfl, ?_⟩))
   go_meet
   case rel => exact ⟨_, (true), zR, H', ⟨by first | omega | exact Nat.le_refl _⟩, ⟨zB⟩⟩
  ·rw [if_neg c7] at H
   have c7b0 : (t129 == 0) = false := beq_eq_false_iff_ne.mpr c7
   have c7b1 : (t129 != 0) = true := bne_iff_ne.mpr c7
   (first | rw [c7b0] | (simp only [i64_w, i32_w]; rw [c7b0]) | skip)
   obtain ⟨t130, A8, H⟩ := zO H
   have H' := Aside0.mk H
   clear H
   go_wp2_with (first | ((with_reducible refine gate_callee (f := 11) rfl ?_); refine goesL_ (some 8) rfl rfl Tryz.func11 (by kernel_rfl) rfl #[.slice A0 l0.length c0] rfl zP ?_; (with_reducible refine (gumshoelaw09_Small.calls _ _ l0 t129 _ ?side1 ?side2 A6.out).mono ?_); (case side1 => repeat (first | exact (Kd.C_below HR0.out HB.out) | (with_reducible refine Kd.C_alloc ?_ _) | (with_reducible refine Kd.C_drewN ?_ _) | (with_reducible refine Kd.C_drew ?_))); (case side2 => exact HC0.out); rintro e w' ⟨rfl, ⟨nd, rfl⟩⟩; refine ⟨_, rfl, ?_⟩) | (go_at_call 11; (with_reducible refine (gumshoelaw09_Small.calls _ _ l1 t130 _ ?side1 ?side2 A8.out).mono ?_); (case side1 => repeat (first | exact (Kd.C_below HR1.out zB) | (with_reducible refine Kd.C_alloc ?_ _) | (with_reducible refine Kd.C_drewN ?_ _) | (with_reducible refine Kd.C_drew ?_))); (case side2 => exact HC1.out); rintro e w' ⟨rfl, ⟨nd, rfl⟩⟩))
   go_meet
   case rel => exact ⟨_, ((t130 == 0)), zR, H', ⟨by first | omega | exact Nat.le_refl _⟩, ⟨zB⟩⟩
 case rest =>
  clear HC4
  obtain ⟨kq, x14_3, rfl, HA, HJ3, HB⟩ := hcut
  cases kq with
  | zero => exact absurd HA.out (by simp [gumshoelaw09_CodeSames.j0])
  | succ kj3 =>
   have H := HA.out
   clear HA
   simp only [gumshoelaw09_CodeSames.j0] at H
   by_cases c9 : x14_3 = true
   ·subst c9
    rw [if_pos rfl] at H
    obtain rfl := Option.some.inj H
    go_wp2
    go_ret
    exact ⟨zE, zB⟩
   ·replace c9 := Bool.eq_false_iff.mpr c9
    subst c9
    rw [if_neg (show ¬ (false = true) by decide)] at H
    by_cases c10 : t128 = true
    ·subst c10
     rw [if_pos rfl] at H
     obtain ⟨t131, A11, H⟩ := zO H
     obtain ⟨t132, A12, H⟩ := zO H
     by_cases c13 : (t131 == t132) = true
     ·rw [if_pos c13] at H
      have c13b0 : (t131 == t132) = true := c13
      (try (have c13b1 : decide (t131 = t132) = true := by simpa using c13))
      (try (have c13b2 : (t131 == t132) = true := by simpa using c13))
      clear c13
      obtain ⟨t133, A14, H⟩ := zO H
      obtain rfl := Option.some.inj H
      go_wp2_with (first | (go_at_call 19; (with_reducible refine (code_Same.calls _ _ l0 _ _ l0 t133 _ ?side1 ?side2 ?side3 ?side4 A14.out).mono ?_); (case side1 => repeat (first | exact (Kd.C_below HR0.out HB.out) | (with_reducible refine Kd.C_alloc ?_ _) | (with_reducible refine Kd.C_drewN ?_ _) | (with_reducible refine Kd.C_drew ?_))); (case side2 => exact HC0.out); (case side3 => repeat (first | exact (Kd.C_below HR0.out HB.out) | (with_reducible refine Kd.C_alloc ?_ _) | (with_reducible refine Kd.C_drewN ?_ _) | (with_reducible refine Kd.C_drew ?_))); (case side4 => exact HC0.out); rintro e w17 ⟨rfl, hb⟩; replace HB := Aside0.mk (below_step zB hb); (try clear hb)) | (go_at_call 20; (with_reducible refine (gumshoeref09_Same.calls _ _ l0 _ _ l1 t132 _ ?side1 ?side2 ?side3 ?side4 A12.out).mono ?_); (case side1 => repeat (first | exact (Kd.C_below HR0.out HB.out) | (with_reducible refine Kd.C_alloc ?_ _) | (with_reducible refine Kd.C_drewN ?_ _) | (with_reducible refine Kd.C_drew ?_))); (case side2 => exact HC0.out); (case side3 => repeat (first | exact (Kd.C_below HR1.out HB.out) | (with_reducible refine Kd.C_alloc ?_ _) | (with_reducible refine Kd.C_drewN ?_ _) | (with_reducible refine Kd.C_drew ?_))); (case side4 => exact HC1.out); rintro e w16 ⟨rfl, hb⟩; replace HB := Aside0.mk (below_step zB hb); (try clear hb)) | (go_at_call 19; (with_reducible refine (code_Same.calls _ _ l0 _ _ l1 t131 _ ?side1 ?side2 ?side3 ?side4 A11.out).mono ?_); (case side1 => repeat (first | exact (Kd.C_below HR0.out HB.out) | (with_reducible refine Kd.C_alloc ?_ _) | (with_reducible refine Kd.C_drewN ?_ _) | (with_reducible refine Kd.C_drew ?_))); (case side2 => exact HC0.out); (case side3 => repeat (first | exact (Kd.C_below HR1.out HB.out) | (with_reducible refine Kd.C_alloc ?_ _) | (with_reducible refine Kd.C_drewN ?_ _) | (with_reducible refine Kd.C_drew ?_))); (case side4 => exact HC1.out); rintro e w15 ⟨rfl, hb⟩; replace HB := Aside0.mk (below_step zB hb); (try clear hb)))
      go_ret
      exact ⟨zE, zB⟩
     ·rw [if_neg c13] at H
      exact absurd H (by simp)
    ·replace c10 := Bool.eq_false_iff.mpr c10
     subst c10
     rw [if_neg (show ¬ (false = true) by decide)] at H
     exact absurd H (by simp)
end Go.Proofs.YtjlhhjfmekjbhaaGreatDoor.Pv

/- The plain law of CodeSames. No condition. -/
namespace Go.Proofs.YtjlhhjfmekjbhaaGreatDoor.Pure
open Go.RowKit Go.Proofs.YtjlhhjfmekjbhaaGreatDoorW.PrintWords Go.Proofs.YtjlhhjfmekjbhaaGreatDoorW.PrintLast Go.Proofs.YtjlhhjfmekjbhaaGreatDoor.Cd Go.Proofs.YtjlhhjfmekjbhaaGreatDoor.Cf Go.Proofs.YtjlhhjfmekjbhaaGreatDoor.Bld Go.Proofs.YtjlhhjfmekjbhaaGreatDoor.Sh Go.Proofs.YtjlhhjfmekjbhaaGreatDoor.Vf Go.Proofs.YtjlhhjfmekjbhaaGreatDoor.Vg Go.Proofs.YtjlhhjfmekjbhaaGreatDoor.Pv
open Go.Proofs.YtjlhhjfmekjbhaaGreatDoor.Pq (S31 S28 k31 k28 z31 z28 rd_T28)
set_option linter.unusedVariables false
set_option linter.unusedSimpArgs false
theorem CodeSames (a : List P) (ha : RowL a) (b : List P) (hb : RowL b) : gumshoelaw09_CodeSames.f 1 a b = some true := by
  unfold gumshoelaw09_CodeSames.f
  rw [shown_tells]
  simp only [Option.bind_some, gumshoelaw09_Small.f, gumshoelaw09_CodeSames.j0]
  have hoa := fun h => (small_ok a ha h).ok
  have hob := fun h => (small_ok b hb h).ok
  by_cases h : smallI a = 0
  · simp [h]
  by_cases h' : smallI b = 0
  · simp [h, h']
  simp [h, h', code_Same.f, gumshoeref09_Same.f, hoa h, hob h', same_refl]
end Go.Proofs.YtjlhhjfmekjbhaaGreatDoor.Pure

/- CodeSames: for every input the law returns true, and each argument reads as it did; its row, and its tied card. No condition but those of the card. -/
namespace Go.Proofs.YtjlhhjfmekjbhaaGreatDoor.codeSames
open Go.ChangeShapes Go.WideShapes Go.ChangeAt Go.RowKit
open Go.ChangeMaps (open_string shut_string)
open Go.Proofs.YtjlhhjfmekjbhaaGreatDoor Go.Proofs.YtjlhhjfmekjbhaaGreatDoor.Vl Go.Proofs.YtjlhhjfmekjbhaaGreatDoorW.PrintWords
set_option linter.unusedVariables false
instance : Inhabited Pq.S31 := ⟨Pq.z31⟩
instance : Inhabited Pq.S28 := ⟨Pq.z28⟩
set_option maxRecDepth 100000 in
theorem lifted (os : Os) (started : os.Started) (H : Type) (enc : TypeId × Value → H) :
    ReturnsInHanded {} Tryz.checked os 8 .any (fun w args => (Rows.codeSamesSpec.pre enc Tryz.prog Tryz.f8 [] false w args ∧ laidMetH Tryz.prog five w) ∧ sizedMet enc Tryz.prog Tryz.f8 (OpenSpec.ofChange Rows.codeSamesSpec) false w args) (Rows.codeSamesSpec.post enc Tryz.prog Tryz.f8 false true false false) := by
  refine returnsInHanded_of_change_and (C := Tryz.checked) (X := fun w _ => laidMetH Tryz.prog five w) (fun _ _ _ hh h => h.of_heap hh) own started (by kernel_rfl) Tryz.func8
    (ChangeSpec.witness_shaped (enc := enc) (C := Tryz.checked) (os := os) (X := fun w _ => laidMetH Tryz.prog five w) false (World.doorLaid Tryz.prog 400 os) #[.slice none 0 0, .slice none 0 0] 8 rfl (World.shaped_of_RefB (by kernel_rfl) (by kernel_rfl)) (by kernel_rfl) (by kernel_rfl) (by kernel_rfl) (door_met os _)) ?_
  intro W base args ds gs before hval0 hW _ hsz0 hL0 _
  have hL := laid_of hL0
  have hsz : (DataW.weightsEach Tryz.prog (Tryz.f8.params.toList ++ Rows.codeSamesSpec.plain.varTypes Tryz.prog) (ds ++ gs)).all (· ≤ reachBytes) = true := hsz0
  have hval : ∀ (j : Nat) t v, Tryz.f8.params[j]? = some t → args[j]? = some v → Value.okWide Tryz.prog W .any base t v := hval0
  have hW' := hW
  obtain ⟨p, q, hA0, hV, rfl, hfz, hnd⟩ := hW
  have hA : DataW.TrodAll enc Tryz.prog W 0 (fun _ => true) true Tryz.f8.params.toList args.toList ds p := hA0
  rw [Tryz.params8] at hA hval hsz
  obtain ⟨v0, vs0, d0, ds0, p0, q0, hargs, rfl, rfl, h0, r0⟩ := trodAll_cons hA
  obtain ⟨v1, vs1, d1, ds1, p1, q1, rfl, rfl, rfl, h1, r1⟩ := trodAll_cons r0
  obtain ⟨rfl, rfl, rfl⟩ := trodAll_nil r1
  obtain rfl : args = #[v0, v1] := by cases args; simp_all
  obtain ⟨rfl, rfl⟩ := trodVars_none hV
  obtain ⟨a0, len0, cap0, rfl⟩ := okWide_slice Tryz.underlying22 (hval 0 22 v0 rfl rfl)
  have k0 := h0
  have lt0 : ∀ x ∈ p0, x.block < W.heap.size := by obtain ⟨m, hm⟩ := k0; exact DataW.trod_lt m _ _ _ hm
  obtain ⟨m0, hm0⟩ := h0
  obtain ⟨l0, hK0, hw0⟩ := (Opens.opens_slice (d := Pq.k28) Tryz.underlying22 (by kernel_rfl) (Opens.opens_iso (fun x : Pq.S28 => (x.f0, x.f1)) (fun y => (⟨y.1, y.2⟩ : Pq.S28)) (fun _ => rfl) (Opens.opens_struct Tryz.underlying28 (by kernel_rfl) (Opens.opensFs_cons (da := Kd.int .i64) rfl (by kernel_rfl) (Opens.opens_int Tryz.underlying3) (Opens.opensFs_last rfl (by kernel_rfl) (Opens.opens_slice (d := Pq.k31) Tryz.underlying26 (by kernel_rfl) (Opens.opens_iso (fun x : Pq.S31 => (x.f0, x.f1, x.f2, x.f3, x.f4, x.f5, x.f6, x.f7)) (fun y => (⟨y.1, y.2.1, y.2.2.1, y.2.2.2.1, y.2.2.2.2.1, y.2.2.2.2.2.1, y.2.2.2.2.2.2.1, y.2.2.2.2.2.2.2⟩ : Pq.S31)) (fun _ => rfl) (Opens.opens_struct Tryz.underlying31 (by kernel_rfl) (Opens.opensFs_cons (da := Kd.int .i64) rfl (by kernel_rfl) (Opens.opens_int Tryz.underlying3) (Opens.opensFs_cons (da := Kd.int .i64) rfl (by kernel_rfl) (Opens.opens_int Tryz.underlying3) (Opens.opensFs_cons (da := Kd.int .i64) rfl (by kernel_rfl) (Opens.opens_int Tryz.underlying3) (Opens.opensFs_cons (da := Kd.int .i64) rfl (by kernel_rfl) (Opens.opens_int Tryz.underlying3) (Opens.opensFs_cons (da := Kd.int .i64) rfl (by kernel_rfl) (Opens.opens_int Tryz.underlying3) (Opens.opensFs_cons (da := Kd.string) rfl (by kernel_rfl) (Opens.opens_string Tryz.underlying9) (Opens.opensFs_cons (da := Kd.int .i64) rfl (by kernel_rfl) (Opens.opens_int Tryz.underlying2) (Opens.opensFs_last rfl (by kernel_rfl) (Opens.opens_slice (d := Kd.int .i64) Tryz.underlying29 (by kernel_rfl) (Opens.opens_int Tryz.underlying3)))))))))))))))))) H enc W 0 _ true m0 _ _ hm0
  obtain ⟨hn0, hc0, hr0⟩ := Opens.slice_of_K rfl hK0
  subst hn0
  obtain ⟨a1, len1, cap1, rfl⟩ := okWide_slice Tryz.underlying22 (hval 1 22 v1 rfl rfl)
  have k1 := h1
  have lt1 : ∀ x ∈ p1, x.block < W.heap.size := by obtain ⟨m, hm⟩ := k1; exact DataW.trod_lt m _ _ _ hm
  obtain ⟨m1, hm1⟩ := h1
  obtain ⟨l1, hK1, hw1⟩ := (Opens.opens_slice (d := Pq.k28) Tryz.underlying22 (by kernel_rfl) (Opens.opens_iso (fun x : Pq.S28 => (x.f0, x.f1)) (fun y => (⟨y.1, y.2⟩ : Pq.S28)) (fun _ => rfl) (Opens.opens_struct Tryz.underlying28 (by kernel_rfl) (Opens.opensFs_cons (da := Kd.int .i64) rfl (by kernel_rfl) (Opens.opens_int Tryz.underlying3) (Opens.opensFs_last rfl (by kernel_rfl) (Opens.opens_slice (d := Pq.k31) Tryz.underlying26 (by kernel_rfl) (Opens.opens_iso (fun x : Pq.S31 => (x.f0, x.f1, x.f2, x.f3, x.f4, x.f5, x.f6, x.f7)) (fun y => (⟨y.1, y.2.1, y.2.2.1, y.2.2.2.1, y.2.2.2.2.1, y.2.2.2.2.2.1, y.2.2.2.2.2.2.1, y.2.2.2.2.2.2.2⟩ : Pq.S31)) (fun _ => rfl) (Opens.opens_struct Tryz.underlying31 (by kernel_rfl) (Opens.opensFs_cons (da := Kd.int .i64) rfl (by kernel_rfl) (Opens.opens_int Tryz.underlying3) (Opens.opensFs_cons (da := Kd.int .i64) rfl (by kernel_rfl) (Opens.opens_int Tryz.underlying3) (Opens.opensFs_cons (da := Kd.int .i64) rfl (by kernel_rfl) (Opens.opens_int Tryz.underlying3) (Opens.opensFs_cons (da := Kd.int .i64) rfl (by kernel_rfl) (Opens.opens_int Tryz.underlying3) (Opens.opensFs_cons (da := Kd.int .i64) rfl (by kernel_rfl) (Opens.opens_int Tryz.underlying3) (Opens.opensFs_cons (da := Kd.string) rfl (by kernel_rfl) (Opens.opens_string Tryz.underlying9) (Opens.opensFs_cons (da := Kd.int .i64) rfl (by kernel_rfl) (Opens.opens_int Tryz.underlying2) (Opens.opensFs_last rfl (by kernel_rfl) (Opens.opens_slice (d := Kd.int .i64) Tryz.underlying29 (by kernel_rfl) (Opens.opens_int Tryz.underlying3)))))))))))))))))) H enc W 0 _ true m1 _ _ hm1
  obtain ⟨hn1, hc1, hr1⟩ := Opens.slice_of_K rfl hK1
  subst hn1
  clear hA0 hval0 hsz0 hsz hL0
  have hP := Pure.CodeSames l0 (rowL_of hw0) l1 (rowL_of hw1)
  refine (Pv.gumshoelaw09_CodeSames.calls 1 _ _ l0 _ _ l1 true W hL hr0 hc0 hr1 hc1 hP).mono fun e W' ⟨he, bel⟩ => ?_
  subst he
  exact ⟨_, rfl, _, _, _, [], _, [], hW', trodAll_mk1 (shut_bool Tryz.underlying4 _), (trodAll_cons_mk (Below.trod laidOut (by kernel_rfl) (of_decide_eq_true (by kernel_rfl)) k0 bel lt0) (trodAll_cons_mk (Below.trod laidOut (by kernel_rfl) (of_decide_eq_true (by kernel_rfl)) k1 bel lt1) trodAll_mk0)), rfl, bel.frame _, fun h => by cases h⟩
theorem over : Rows.codeSamesRow.holds Tryz.pinned (OpenSpec.ofChange Rows.codeSamesSpec) :=
  OpenClaim.holds_of_wide 8 Tryz.f8 rfl rfl rfl rfl rfl rfl rfl ⟨rfl, rfl, rfl, rfl, rfl⟩ rfl rfl rfl rfl rfl (by kernel_rfl) Tryz.func8 (by kernel_rfl)
    (of_decide_eq_true (by kernel_rfl)) (by unfold Func.isWrapper; first | (rw [if_pos (by decide +kernel)]; kernel_rfl) | (rw [if_neg (by decide +kernel)]; exact ⟨rfl, rfl⟩))
    (fun os started H enc _ => lifted os started H enc)
set_option maxRecDepth 100000 in
theorem card : Rows.CodeSamesCardSaid :=
  Claim7.holds_tied_plain_at .later [] [.data, .data, .data, .sentinel, .sentinel] true (true, "85c2d0c8c5b4204c20e433950d907f7fb04aa29ec539f0ae38069e55df88bd6d") true
    over (fun _ h => by cases h) (by kernel_rfl) (fun _ h => by cases h) codeSames_row_tie rfl ⟨rfl, rfl⟩ (by kernel_rfl) rfl
    (fun f fn hf hfn => by
      obtain rfl : f = 8 := Option.some.inj ((show Tryz.prog.funcNamed "gumshoe/gumshoelaw09.CodeSames" = some 8 by kernel_rfl).symm.trans hf) |>.symm
      obtain rfl : fn = Tryz.f8 := (Option.some.inj (Tryz.func8.symm.trans hfn)).symm
      exact ⟨by kernel_rfl, fun j t ht => by
        rw [Tryz.params8] at ht
        have hm : t ∈ [22, 22] := by simpa using Array.mem_of_getElem? ht
        have hall : ([22, 22].all fun u => !Tryz.prog.wantsStandIn u) = true := by kernel_rfl
        exact (show Tryz.prog.wantsStandIn t = false by simpa using List.all_eq_true.1 hall t hm)⟩)
    (by kernel_rfl)
end Go.Proofs.YtjlhhjfmekjbhaaGreatDoor.codeSames
namespace Go.Proofs.YtjlhhjfmekjbhaaGreatDoor
theorem codeSames_holds : Rows.CodeSamesCardSaid := codeSames.card
end Go.Proofs.YtjlhhjfmekjbhaaGreatDoor

