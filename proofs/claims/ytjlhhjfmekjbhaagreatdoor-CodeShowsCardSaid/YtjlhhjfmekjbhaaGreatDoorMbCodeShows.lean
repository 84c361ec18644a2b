/- The law CodeShows: for every input it returns true, and each argument reads as it did. No condition but those of the given card or row. -/
import Derived.Test.YtjlhhjfmekjbhaaGreatDoorRows
import Derived.Test.YtjlhhjfmekjbhaaGreatDoorCards
import Derived.Test.YtjlhhjfmekjbhaaGreatDoorTie
import Derived.WalkKit
import Derived.ProofKit
import Derived.OpenShut
import Derived.ShutString
import Derived.ChangeOld
import Derived.Below
import Derived.SizedLaws
import Derived.Stop.Joined
import Derived.SevenTiedAt
import Derived.Test.YtjlhhjfmekjbhaaGreatDoorMb0
import Derived.Test.YtjlhhjfmekjbhaaGreatDoorMb1
import Derived.Test.YtjlhhjfmekjbhaaGreatDoorMb13
namespace Go.Proofs.YtjlhhjfmekjbhaaGreatDoor.Pv
open Go.Proofs.YtjlhhjfmekjbhaaGreatDoor.Pq (errW errW_none errW_some info3 S31 z31 k31 k31_open k31_mk rd_T31 at_T31 S28 z28 k28 k28_open k28_mk rd_T28 at_T28)
open Go.RowKit Go.Proofs.YtjlhhjfmekjbhaaGreatDoor.Vg Go.Proofs.YtjlhhjfmekjbhaaGreatDoorW.PrintWords Go.Proofs.YtjlhhjfmekjbhaaGreatDoorW.PrintLast Go.Proofs.YtjlhhjfmekjbhaaGreatDoorW.PrintMore
set_option linter.unusedVariables false
set_option linter.unusedSimpArgs false
/-! ### v9_CodeShows: function 6 -/
def v9_CodeShows.f (l0 : List (S28)) : Option (Bool) := (v9_shown.f).bind fun t115 => ((v9_Small.f l0).bind fun t116 => (if t116 = 0 then (some t115) else ((code_Show.f l0).bind fun bt117 => ((q9_Show.f l0).bind fun bt119 => (if t115 = true then (if bt117.1.toList = bt119.1.toList then (if bt117.2 = bt119.2 then ((code_Marks.f l0).bind fun t121 => ((q9_Marks.f l0).bind fun t124 => ((q1_Same.f t121 t124).bind fun t127 => (some t127)))) else (none)) else (none)) else (none))))))
set_option maxHeartbeats 8000000 in
set_option maxRecDepth 100000 in
theorem v9_CodeShows.calls (A0 : Option Addr) (c0 : Nat) (l0 : List (S28)) (r : Bool) (w : World) (hL : Laid w) (hr0 : Kd.C k28 w A0 l0.length l0) (hc0 : l0.length ≤ c0) (h : v9_CodeShows.f l0 = some r) :
  Calls Tryz.prog 6 #[.slice A0 l0.length c0] w fun e w' => e = .returned (.bool r) ∧ Below w.heap.size w w' := by
 have HL := Aside0.mk hL
 clear hL
 have HR0 := Aside0.mk hr0
 have HC0 := Aside0.mk hc0
 clear hr0 hc0
 have HB := Aside0.mk (Below.refl w.heap.size w)
 have H : ((v9_shown.f).bind fun t115 => ((v9_Small.f l0).bind fun t116 => (if t116 = 0 then (some t115) else ((code_Show.f l0).bind fun bt117 => ((q9_Show.f l0).bind fun bt119 => (if t115 = true then (if bt117.1.toList = bt119.1.toList then (if bt117.2 = bt119.2 then ((code_Marks.f l0).bind fun t121 => ((q9_Marks.f l0).bind fun t124 => ((q1_Same.f t121 t124).bind fun t127 => (some t127)))) else (none)) else (none)) else (none))))))) = some r := h
 clear h
 obtain ⟨t115, A2, H⟩ := zO H
 obtain ⟨t116, A3, H⟩ := zO H
 by_cases c4 : t116 = 0
 ·rw [if_pos c4] at H
  have c4b0 : (t116 == 0) = true := beq_iff_eq.mpr c4
  have c4b1 : (t116 != 0) = false := bne_eq_false_iff_eq.mpr c4
  clear c4
  obtain rfl := Option.some.inj H
  go_enter Tryz.func6, Tryz.ntmps6
  go_wp2_with (first | ((with_reducible refine gate_callee (f := 10) rfl ?_); refine goesL_ (some 8) rfl rfl Tryz.func10 (by kernel_rfl) rfl #[] rfl zP ?_; (with_reducible refine (v9_shown.calls (hL := ?sideL)  t115 _ A2.out).mono ?_); (case sideL => exact Laid.below HL.out zB); rintro e w5 ⟨rfl, hb⟩; refine ⟨_, rfl, ?_⟩; replace HB := Aside0.mk (below_step zB hb); (try clear hb)) | ((with_reducible refine gate_callee (f := 11) rfl ?_); refine goesL_ (some 10) rfl rfl Tryz.func11 (by kernel_rfl) rfl #[.slice A0 l0.length c0] rfl zP ?_; (with_reducible refine (v9_Small.calls _ _ l0 t116 _ ?side1 ?side2 A3.out).mono ?_); (case side1 => repeat (first | exact (Kd.C_below HR0.out HB.out) | (with_reducible refine Kd.C_alloc ?_ _) | (with_reducible refine Kd.C_drewN ?_ _) | (with_reducible refine Kd.C_drew ?_))); (case side2 => exact HC0.out); rintro e w' ⟨rfl, ⟨nd, rfl⟩⟩; refine ⟨_, rfl, ?_⟩))
  go_ret
  exact ⟨zE, zB⟩
 ·rw [if_neg c4] at H
  have c4b0 : (t116 == 0) = false := beq_eq_false_iff_ne.mpr c4
  have c4b1 : (t116 != 0) = true := bne_iff_ne.mpr c4
  replace H := Option.bind_eq_some_iff.mp H
  obtain ⟨⟨t117, t118⟩, A60, H⟩ := H
  replace H : ((q9_Show.f l0).bind fun bt119 => (if t115 = true then (if t117.toList = bt119.1.toList then (if t118 = bt119.2 then ((code_Marks.f l0).bind fun t121 => ((q9_Marks.f l0).bind fun t124 => ((q1_Same.f t121 t124).bind fun t127 => (some t127)))) else (none)) else (none)) else (none))) = some r := H
  have A6 := Aside0.mk A60
  clear A60
  replace H := Option.bind_eq_some_iff.mp H
  obtain ⟨⟨t119, t120⟩, A70, H⟩ := H
  replace H : (if t115 = true then (if t117.toList = t119.toList then (if t118 = t120 then ((code_Marks.f l0).bind fun t121 => ((q9_Marks.f l0).bind fun t124 => ((q1_Same.f t121 t124).bind fun t127 => (some t127)))) else (none)) else (none)) else (none)) = some r := H
  have A7 := Aside0.mk A70
  clear A70
  by_cases c8 : t115 = true
  ·subst c8
   rw [if_pos rfl] at H
   by_cases c9 : t117.toList = t119.toList
   ·rw [if_pos c9] at H
    have c9b0 : (t117.toList == t119.toList) = true := beq_iff_eq.mpr c9
    have c9b1 : (t117.toList != t119.toList) = false := bne_eq_false_iff_eq.mpr c9
    clear c9
    by_cases c10 : t118 = t120
    ·rw [if_pos c10] at H
     have c10b0 : (t118 == t120) = true := beq_iff_eq.mpr c10
     have c10b1 : (t118 != t120) = false := bne_eq_false_iff_eq.mpr c10
     clear c10
     obtain ⟨t121, A11, H⟩ := zO H
     obtain ⟨t124, A12, H⟩ := zO H
     obtain ⟨t127, A13, H⟩ := zO H
     obtain rfl := Option.some.inj H
     go_enter Tryz.func6, Tryz.ntmps6
     go_wp2_with (first | ((with_reducible refine gate_callee (f := 10) rfl ?_); refine goesL_ (some 8) rfl rfl Tryz.func10 (by kernel_rfl) rfl #[] rfl zP ?_; (with_reducible refine (v9_shown.calls (hL := ?sideL)  true _ A2.out).mono ?_); (case sideL => exact Laid.below HL.out zB); rintro e w14 ⟨rfl, hb⟩; refine ⟨_, rfl, ?_⟩; replace HB := Aside0.mk (below_step zB hb); (try clear hb)) | ((with_reducible refine gate_callee (f := 11) rfl ?_); refine goesL_ (some 10) rfl rfl Tryz.func11 (by kernel_rfl) rfl #[.slice A0 l0.length c0] rfl zP ?_; (with_reducible refine (v9_Small.calls _ _ l0 t116 _ ?side1 ?side2 A3.out).mono ?_); (case side1 => repeat (first | exact (Kd.C_below HR0.out HB.out) | (with_reducible refine Kd.C_alloc ?_ _) | (with_reducible refine Kd.C_drewN ?_ _) | (with_reducible refine Kd.C_drew ?_))); (case side2 => exact HC0.out); rintro e w' ⟨rfl, ⟨nd, rfl⟩⟩; refine ⟨_, rfl, ?_⟩) | ((with_reducible refine gate_callee (f := 14) rfl ?_); refine goesL_ (some 15) rfl rfl Tryz.func14 (by kernel_rfl) rfl #[.slice A0 l0.length c0] rfl zP ?_; (with_reducible refine (code_Show.calls (hL := ?sideL) _ _ l0 t117 t118 _ ?side1 ?side2 A6.out).mono ?_); (case sideL => exact Laid.below HL.out zB); (case side1 => repeat (first | exact (Kd.C_below HR0.out zB) | (with_reducible refine Kd.C_alloc ?_ _) | (with_reducible refine Kd.C_drewN ?_ _) | (with_reducible refine Kd.C_drew ?_))); (case side2 => exact HC0.out); rintro e w15 ⟨rfl, hb⟩; refine ⟨_, rfl, ?_⟩; replace HB := Aside0.mk (below_step zB hb); (try clear hb)) | ((with_reducible refine gate_callee (f := 15) rfl ?_); refine goesL_ (some 20) rfl rfl Tryz.func15 (by kernel_rfl) rfl #[.slice A0 l0.length c0] rfl zP ?_; (with_reducible refine (q9_Show.calls _ _ l0 t119 t120 _ ?side1 ?side2 A7.out).mono ?_); (case side1 => repeat (first | exact (Kd.C_below HR0.out HB.out) | (with_reducible refine Kd.C_alloc ?_ _) | (with_reducible refine Kd.C_drewN ?_ _) | (with_reducible refine Kd.C_drew ?_))); (case side2 => exact HC0.out); rintro e w16 ⟨rfl, hb⟩; refine ⟨_, rfl, ?_⟩; replace HB := Aside0.mk (below_step zB hb); (try clear hb)) | (go_at_call 17; (with_reducible refine (code_Marks.calls _ _ l0 t121 _ ?side1 ?side2 A11.out).mono ?_); (case side1 => repeat (first | exact (Kd.C_below HR0.out HB.out) | (with_reducible refine Kd.C_alloc ?_ _) | (with_reducible refine Kd.C_drewN ?_ _) | (with_reducible refine Kd.C_drew ?_))); (case side2 => exact HC0.out); rintro e w17 ⟨v122, rfl, ho0, hb⟩; have HO123 := Aside0.mk (Kd.R_lower ho0 (below_size zB)); replace HB := Aside0.mk (below_step zB hb); (try clear hb); (try clear ho0)) | (go_at_call 18; (with_reducible refine (q9_Marks.calls _ _ l0 t124 _ ?side1 ?side2 A12.out).mono ?_); (case side1 => repeat (first | exact (Kd.C_below HR0.out HB.out) | (with_reducible refine Kd.C_alloc ?_ _) | (with_reducible refine Kd.C_drewN ?_ _) | (with_reducible refine Kd.C_drew ?_))); (case side2 => exact HC0.out); rintro e w18 ⟨v125, rfl, ho0, hb⟩; have HO126 := Aside0.mk (Kd.R_lower (Kd.R_new' ho0 (Kd.R_lt (by (with_reducible repeat (first | apply Kd.R_alloc | apply Kd.R_drewN | apply Kd.R_drew)); exact HO123.out))) (below_size zB)); replace HO123 := Aside0.mk (Kd.R_elder' (by (with_reducible repeat (first | apply Kd.R_alloc | apply Kd.R_drewN | apply Kd.R_drew)); exact HO123.out) (Kd.R_base ho0) hb); replace HB := Aside0.mk (below_step zB hb); (try clear hb); (try clear ho0); obtain ⟨Ao19, co19, eo19⟩ := Kd.R_slice HO123.out; subst eo19; obtain ⟨Ao20, co20, eo20⟩ := Kd.R_slice HO126.out; subst eo20) | (go_at_call 16; (with_reducible refine (q1_Same.calls _ _ t121 _ _ t124 t127 _ ?side1 ?side2 ?side3 ?side4 A13.out).mono ?_); (case side1 => repeat (first | exact (Kd.R_reads' HO123.out).2.2 | (with_reducible refine Kd.C_alloc ?_ _) | (with_reducible refine Kd.C_drewN ?_ _) | (with_reducible refine Kd.C_drew ?_))); (case side2 => exact (Kd.R_reads' HO123.out).2.1); (case side3 => repeat (first | exact (Kd.R_reads' HO126.out).2.2 | (with_reducible refine Kd.C_alloc ?_ _) | (with_reducible refine Kd.C_drewN ?_ _) | (with_reducible refine Kd.C_drew ?_))); (case side4 => exact (Kd.R_reads' HO126.out).2.1); rintro e w' ⟨rfl, ⟨nd, rfl⟩⟩))
     go_ret
     exact ⟨zE, zB⟩
    ·rw [if_neg c10] at H
     exact absurd H (by simp)
   ·rw [if_neg c9] at H
    exact absurd H (by simp)
  ·replace c8 := Bool.eq_false_iff.mpr c8
   subst c8
   rw [if_neg (show ¬ (false = true) by decide)] at H
   exact absurd H (by simp)
end Go.Proofs.YtjlhhjfmekjbhaaGreatDoor.Pv

/- The plain law of CodeShows. No condition. -/
namespace Go.Proofs.YtjlhhjfmekjbhaaGreatDoor.Pure
open Go.RowKit Go.Proofs.YtjlhhjfmekjbhaaGreatDoorW.PrintWords Go.Proofs.YtjlhhjfmekjbhaaGreatDoorW.PrintLast Go.Proofs.YtjlhhjfmekjbhaaGreatDoor.Cd Go.Proofs.YtjlhhjfmekjbhaaGreatDoor.Cf Go.Proofs.YtjlhhjfmekjbhaaGreatDoor.Bld Go.Proofs.YtjlhhjfmekjbhaaGreatDoor.Sh Go.Proofs.YtjlhhjfmekjbhaaGreatDoor.Vf Go.Proofs.YtjlhhjfmekjbhaaGreatDoor.Vg Go.Proofs.YtjlhhjfmekjbhaaGreatDoor.Pv
open Go.Proofs.YtjlhhjfmekjbhaaGreatDoor.Pq (S31 S28 k31 k28 z31 z28 rd_T28)
set_option linter.unusedVariables false
set_option linter.unusedSimpArgs false
theorem CodeShows (l : List P) (hr : RowL l) : v9_CodeShows.f l = some true := by
  unfold v9_CodeShows.f
  rw [shown_tells]
  simp only [Option.bind_some, v9_Small.f]
  by_cases h : smallI l = 0
  · rw [if_pos h]
  · have hok := (small_ok l hr h).ok
    have hm : (marksL l).length ≤ 17592186044416 := by
      have h1 := marks_len (l.flatMap (·.f1))
      have h2 := flat_len l (fun p hp => ((small_ok l hr h).tin.proc p hp).2.1)
      have h3 := (small_ok l hr h).len
      exact Nat.le_trans (Nat.le_trans h1 h2) (by omega)
    rw [if_neg h]
    simp [code_Show.f, q9_Show.f, code_Marks.f, q9_Marks.f, q1_Same.f, hok, hm]
end Go.Proofs.YtjlhhjfmekjbhaaGreatDoor.Pure

/- CodeShows: for every input the law returns true, and each argument reads as it did; its row, and its tied card. No condition but those of the card. -/
namespace Go.Proofs.YtjlhhjfmekjbhaaGreatDoor.codeShows
open Go.ChangeShapes Go.WideShapes Go.ChangeAt Go.RowKit
open Go.ChangeMaps (open_string shut_string)
open Go.Proofs.YtjlhhjfmekjbhaaGreatDoor Go.Proofs.YtjlhhjfmekjbhaaGreatDoor.Vl Go.Proofs.YtjlhhjfmekjbhaaGreatDoorW.PrintWords
set_option linter.unusedVariables false
instance : Inhabited Pq.S31 := ⟨Pq.z31⟩
instance : Inhabited Pq.S28 := ⟨Pq.z28⟩
set_option maxRecDepth 100000 in
theorem lifted (os : Os) (started : os.Started) (H : Type) (enc : TypeId × Value → H) :
    ReturnsInHanded {} Tryz.checked os 6 .any (fun w args => (Rows.codeShowsSpec.pre enc Tryz.prog Tryz.f6 [] false w args ∧ laidMetH Tryz.prog five w) ∧ sizedMet enc Tryz.prog Tryz.f6 (OpenSpec.ofChange Rows.codeShowsSpec) false w args) (Rows.codeShowsSpec.post enc Tryz.prog Tryz.f6 false true false false) := by
  refine returnsInHanded_of_change_and (C := Tryz.checked) (X := fun w _ => laidMetH Tryz.prog five w) (fun _ _ _ hh h => h.of_heap hh) own started (by kernel_rfl) Tryz.func6
    (ChangeSpec.witness_shaped (enc := enc) (C := Tryz.checked) (os := os) (X := fun w _ => laidMetH Tryz.prog five w) false (World.doorLaid Tryz.prog 400 os) #[.slice none 0 0] 8 rfl (World.shaped_of_RefB (by kernel_rfl) (by kernel_rfl)) (by kernel_rfl) (by kernel_rfl) (by kernel_rfl) (door_met os _)) ?_
  intro W base args ds gs before hval0 hW _ hsz0 hL0 _
  have hL := laid_of hL0
  have hsz : (DataW.weightsEach Tryz.prog (Tryz.f6.params.toList ++ Rows.codeShowsSpec.plain.varTypes Tryz.prog) (ds ++ gs)).all (· ≤ reachBytes) = true := hsz0
  have hval : ∀ (j : Nat) t v, Tryz.f6.params[j]? = some t → args[j]? = some v → Value.okWide Tryz.prog W .any base t v := hval0
  have hW' := hW
  obtain ⟨p, q, hA0, hV, rfl, hfz, hnd⟩ := hW
  have hA : DataW.TrodAll enc Tryz.prog W 0 (fun _ => true) true Tryz.f6.params.toList args.toList ds p := hA0
  rw [Tryz.params6] at hA hval hsz
  obtain ⟨v0, vs0, d0, ds0, p0, q0, hargs, rfl, rfl, h0, r0⟩ := trodAll_cons hA
  obtain ⟨rfl, rfl, rfl⟩ := trodAll_nil r0
  obtain rfl : args = #[v0] := by cases args; simp_all
  obtain ⟨rfl, rfl⟩ := trodVars_none hV
  obtain ⟨a0, len0, cap0, rfl⟩ := okWide_slice Tryz.underlying22 (hval 0 22 v0 rfl rfl)
  have k0 := h0
  have lt0 : ∀ x ∈ p0, x.block < W.heap.size := by obtain ⟨m, hm⟩ := k0; exact DataW.trod_lt m _ _ _ hm
  obtain ⟨m0, hm0⟩ := h0
  obtain ⟨l0, hK0, hw0⟩ := (Opens.opens_slice (d := Pq.k28) Tryz.underlying22 (by kernel_rfl) (Opens.opens_iso (fun x : Pq.S28 => (x.f0, x.f1)) (fun y => (⟨y.1, y.2⟩ : Pq.S28)) (fun _ => rfl) (Opens.opens_struct Tryz.underlying28 (by kernel_rfl) (Opens.opensFs_cons (da := Kd.int .i64) rfl (by kernel_rfl) (Opens.opens_int Tryz.underlying3) (Opens.opensFs_last rfl (by kernel_rfl) (Opens.opens_slice (d := Pq.k31) Tryz.underlying26 (by kernel_rfl) (Opens.opens_iso (fun x : Pq.S31 => (x.f0, x.f1, x.f2, x.f3, x.f4, x.f5, x.f6, x.f7)) (fun y => (⟨y.1, y.2.1, y.2.2.1, y.2.2.2.1, y.2.2.2.2.1, y.2.2.2.2.2.1, y.2.2.2.2.2.2.1, y.2.2.2.2.2.2.2⟩ : Pq.S31)) (fun _ => rfl) (Opens.opens_struct Tryz.underlying31 (by kernel_rfl) (Opens.opensFs_cons (da := Kd.int .i64) rfl (by kernel_rfl) (Opens.opens_int Tryz.underlying3) (Opens.opensFs_cons (da := Kd.int .i64) rfl (by kernel_rfl) (Opens.opens_int Tryz.underlying3) (Opens.opensFs_cons (da := Kd.int .i64) rfl (by kernel_rfl) (Opens.opens_int Tryz.underlying3) (Opens.opensFs_cons (da := Kd.int .i64) rfl (by kernel_rfl) (Opens.opens_int Tryz.underlying3) (Opens.opensFs_cons (da := Kd.int .i64) rfl (by kernel_rfl) (Opens.opens_int Tryz.underlying3) (Opens.opensFs_cons (da := Kd.string) rfl (by kernel_rfl) (Opens.opens_string Tryz.underlying9) (Opens.opensFs_cons (da := Kd.int .i64) rfl (by kernel_rfl) (Opens.opens_int Tryz.underlying2) (Opens.opensFs_last rfl (by kernel_rfl) (Opens.opens_slice (d := Kd.int .i64) Tryz.underlying29 (by kernel_rfl) (Opens.opens_int Tryz.underlying3)))))))))))))))))) H enc W 0 _ true m0 _ _ hm0
  obtain ⟨hn0, hc0, hr0⟩ := Opens.slice_of_K rfl hK0
  subst hn0
  clear hA0 hval0 hsz0 hsz hL0
  have hP := Pure.CodeShows l0 (rowL_of hw0)
  refine (Pv.v9_CodeShows.calls _ _ l0 true W hL hr0 hc0 hP).mono fun e W' ⟨he, bel⟩ => ?_
  subst he
  exact ⟨_, rfl, _, _, _, [], _, [], hW', trodAll_mk1 (shut_bool Tryz.underlying4 _), (trodAll_cons_mk (Below.trod laidOut (by kernel_rfl) (of_decide_eq_true (by kernel_rfl)) k0 bel lt0) trodAll_mk0), rfl, bel.frame _, fun h => by cases h⟩
theorem over : Rows.codeShowsRow.holds Tryz.pinned (OpenSpec.ofChange Rows.codeShowsSpec) :=
  OpenClaim.holds_of_wide 6 Tryz.f6 rfl rfl rfl rfl rfl rfl rfl ⟨rfl, rfl, rfl, rfl, rfl⟩ rfl rfl rfl rfl rfl (by kernel_rfl) Tryz.func6 (by kernel_rfl)
    (of_decide_eq_true (by kernel_rfl)) (by unfold Func.isWrapper; first | (rw [if_pos (by decide +kernel)]; kernel_rfl) | (rw [if_neg (by decide +kernel)]; exact ⟨rfl, rfl⟩))
    (fun os started H enc _ => lifted os started H enc)
set_option maxRecDepth 100000 in
theorem card : Rows.CodeShowsCardSaid :=
  Claim7.holds_tied_plain_at .later [] [.data, .data, .data, .sentinel, .sentinel] true (true, "85c2d0c8c5b4204c20e433950d907f7fb04aa29ec539f0ae38069e55df88bd6d") true
    over (fun _ h => by cases h) (by kernel_rfl) (fun _ h => by cases h) codeShows_row_tie rfl ⟨rfl, rfl⟩ (by kernel_rfl) rfl
    (fun f fn hf hfn => by
      obtain rfl : f = 6 := Option.some.inj ((show Tryz.prog.funcNamed "gumshoe/gumshoelaw09.CodeShows" = some 6 by kernel_rfl).symm.trans hf) |>.symm
      obtain rfl : fn = Tryz.f6 := (Option.some.inj (Tryz.func6.symm.trans hfn)).symm
      exact ⟨by kernel_rfl, fun j t ht => by
        rw [Tryz.params6] at ht
        have hm : t ∈ [22] := by simpa using Array.mem_of_getElem? ht
        have hall : ([22].all fun u => !Tryz.prog.wantsStandIn u) = true := by kernel_rfl
        exact (show Tryz.prog.wantsStandIn t = false by simpa using List.all_eq_true.1 hall t hm)⟩)
    (by kernel_rfl)
end Go.Proofs.YtjlhhjfmekjbhaaGreatDoor.codeShows
namespace Go.Proofs.YtjlhhjfmekjbhaaGreatDoor
theorem codeShows_holds : Rows.CodeShowsCardSaid := codeShows.card
end Go.Proofs.YtjlhhjfmekjbhaaGreatDoor

