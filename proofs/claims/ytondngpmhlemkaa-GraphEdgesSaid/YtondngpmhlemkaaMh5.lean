/- Lemmas for the claims of this seat (own texts, packed; what the claims do not use is left out). No condition. -/
import Derived.Test.YtondngpmhlemkaaRows
import Derived.WalkKit
import Derived.ProofKit
import Derived.OpenShut
import Derived.ShutString
import Derived.ChangeOld
import Derived.Below
import Derived.SizedLaws
import Derived.Test.YtondngpmhlemkaaMh0
import Derived.Test.YtondngpmhlemkaaMh4
/- The row of GraphEdges, out of its contract and its plain law. No condition. -/
namespace Go.Proofs.Ytondngpmhlemkaa.graphEdges
open Go.ChangeShapes Go.WideShapes Go.ChangeAt Go.RowKit
open Go.ChangeMaps (open_string shut_string)
open Go.Proofs.Ytondngpmhlemkaa Go.Proofs.YtondngpmhlemkaaW.PrintWords
set_option linter.unusedVariables false
theorem own : ownKnob Try.prog.godebug = none := by kernel_rfl
theorem laidOut : laidOutB Try.prog = true := by kernel_rfl
instance : Inhabited Pr.S66 := ⟨Pr.z66⟩
instance : Inhabited Pr.S68 := ⟨Pr.z68⟩
instance : Inhabited Pr.S49 := ⟨Pr.z49⟩
set_option maxRecDepth 100000 in
theorem lifted (os : Os) (started : os.Started) (H : Type) (enc : TypeId × Value → H) :
    ReturnsInHanded {} Try.checked os 6 .any (Rows.graphEdgesSpec.pre6 enc Try.prog Try.f6 Rows.graphEdgesRow.domain false) (Rows.graphEdgesSpec.post enc Try.prog Try.f6 false true false false) := by
  refine returnsInHanded_of_change_sized (C := Try.checked) own started (by kernel_rfl) Try.func6
    (ChangeSpec.witness6 (enc := enc) (C := Try.checked) false ⟨#[], #[.agg #[.int .i64 0, .slice none 0 0, .slice none 0 0], .slice none 0 0], []⟩ 8 (by kernel_rfl) (by kernel_rfl) (by kernel_rfl) (by kernel_rfl)) ?_
  intro W base args ds gs before hval0 hW hcnd hsz0 _
  have hsz : (DataW.weightsEach Try.prog (Try.f6.params.toList ++ Rows.graphEdgesSpec.plain.varTypes Try.prog) (ds ++ gs)).all (· ≤ reachBytes) = true := hsz0
  have hval : ∀ (j : Nat) t v, Try.f6.params[j]? = some t → args[j]? = some v → Value.okWide Try.prog W .any base t v := hval0
  have hW' := hW
  obtain ⟨p, q, hA0, hV, rfl, hfz, hnd⟩ := hW
  have hA : DataW.TrodAll enc Try.prog W 0 (fun _ => true) true Try.f6.params.toList args.toList ds p := hA0
  rw [Try.params6] at hA hval hsz
  obtain ⟨v0, vs0, d0, ds0, p0, q0, hargs, rfl, rfl, h0, r0⟩ := trodAll_cons hA
  obtain ⟨v1, vs1, d1, ds1, p1, q1, rfl, rfl, rfl, h1, r1⟩ := trodAll_cons r0
  obtain ⟨rfl, rfl, rfl⟩ := trodAll_nil r1
  obtain rfl : args = #[v0, v1] := by cases args; simp_all
  obtain ⟨rfl, rfl⟩ := trodVars_none hV
  obtain ⟨cs0, rfl, _⟩ := okWide_struct Try.underlying43 (hval 0 43 v0 rfl rfl)
  have k0 := h0
  have lt0 : ∀ x ∈ p0, x.block < W.heap.size := by obtain ⟨m, hm⟩ := k0; exact DataW.trod_lt m _ _ _ hm
  obtain ⟨m0, hm0⟩ := h0
  obtain ⟨x0, hK0, hw0⟩ := (Opens.opens_struct (d := Kd.pair (Kd.int .i64) (Kd.pair (Kd.slice 66 (Pr.k66)) (Kd.slice 68 (Pr.k68)))) Try.underlying43 (by kernel_rfl) (Opens.opensFs_cons (da := Kd.int .i64) rfl (by kernel_rfl) (Opens.opens_int Try.underlying3) (Opens.opensFs_cons (da := Kd.slice 66 (Pr.k66)) rfl (by kernel_rfl) (Opens.opens_slice (d := Pr.k66) Try.underlying40 (by kernel_rfl) (Opens.opens_iso (fun x : Pr.S66 => (x.f0, x.f1, x.f2, x.f3, x.f4)) (fun y => (⟨y.1, y.2.1, y.2.2.1, y.2.2.2.1, y.2.2.2.2⟩ : Pr.S66)) (fun _ => rfl) (Opens.opens_struct Try.underlying66 (by kernel_rfl) (Opens.opensFs_cons (da := Kd.int .i64) rfl (by kernel_rfl) (Opens.opens_int Try.underlying3) (Opens.opensFs_cons (da := Kd.slice 3 (Kd.int .i64)) rfl (by kernel_rfl) (Opens.opens_slice (d := Kd.int .i64) Try.underlying27 (by kernel_rfl) (Opens.opens_int Try.underlying3)) (Opens.opensFs_cons (da := Kd.int .i64) rfl (by kernel_rfl) (Opens.opens_int Try.underlying3) (Opens.opensFs_cons (da := Kd.int .i64) rfl (by kernel_rfl) (Opens.opens_int Try.underlying3) (Opens.opensFs_last rfl (by kernel_rfl) (Opens.opens_int Try.underlying3))))))))) (Opens.opensFs_last rfl (by kernel_rfl) (Opens.opens_slice (d := Pr.k68) Try.underlying41 (by kernel_rfl) (Opens.opens_iso (fun x : Pr.S68 => (x.f0, x.f1, x.f2, x.f3, x.f4, x.f5, x.f6, x.f7, x.f8)) (fun y => (⟨y.1, y.2.1, y.2.2.1, y.2.2.2.1, y.2.2.2.2.1, y.2.2.2.2.2.1, y.2.2.2.2.2.2.1, y.2.2.2.2.2.2.2.1, y.2.2.2.2.2.2.2.2⟩ : Pr.S68)) (fun _ => rfl) (Opens.opens_struct Try.underlying68 (by kernel_rfl) (Opens.opensFs_cons (da := Kd.int .i64) rfl (by kernel_rfl) (Opens.opens_int Try.underlying3) (Opens.opensFs_cons (da := Kd.int .i64) rfl (by kernel_rfl) (Opens.opens_int Try.underlying3) (Opens.opensFs_cons (da := Kd.int .i64) rfl (by kernel_rfl) (Opens.opens_int Try.underlying3) (Opens.opensFs_cons (da := Kd.int .i64) rfl (by kernel_rfl) (Opens.opens_int Try.underlying3) (Opens.opensFs_cons (da := Kd.int .i64) rfl (by kernel_rfl) (Opens.opens_int Try.underlying3) (Opens.opensFs_cons (da := Kd.int .i64) rfl (by kernel_rfl) (Opens.opens_int Try.underlying3) (Opens.opensFs_cons (da := Kd.int .i64) rfl (by kernel_rfl) (Opens.opens_int Try.underlying3) (Opens.opensFs_cons (da := Kd.string) rfl (by kernel_rfl) (Opens.opens_string Try.underlying9) (Opens.opensFs_last rfl (by kernel_rfl) (Opens.opens_slice (d := Kd.int .i64) Try.underlying27 (by kernel_rfl) (Opens.opens_int Try.underlying3)))))))))))))))))) H enc W 0 _ true m0 _ _ hm0
  obtain ⟨_, _, e0, q0_0, _, _, rfl, q0_1, q0_2⟩ := hK0
  obtain rfl := q0_0
  obtain ⟨A0_1, c0_1, rfl, hc0_1, hr0_1⟩ := q0_1
  obtain ⟨A0_2, c0_2, rfl, hc0_2, hr0_2⟩ := q0_2
  obtain rfl : cs0 = #[.int .i64 x0.1, .slice A0_1 x0.2.1.length c0_1, .slice A0_2 x0.2.2.length c0_2] := by have e0' := congrArg List.toArray e0; simpa [Value.cells] using e0'
  obtain ⟨a1, len1, cap1, rfl⟩ := okWide_slice Try.underlying35 (hval 1 35 v1 rfl rfl)
  have k1 := h1
  have lt1 : ∀ x ∈ p1, x.block < W.heap.size := by obtain ⟨m, hm⟩ := k1; exact DataW.trod_lt m _ _ _ hm
  obtain ⟨m1, hm1⟩ := h1
  obtain ⟨l1, hK1, hw1⟩ := (Opens.opens_slice (d := Pr.k49) Try.underlying35 (by kernel_rfl) (Opens.opens_iso (fun x : Pr.S49 => (x.f0, x.f1, x.f2, x.f3)) (fun y => (⟨y.1, y.2.1, y.2.2.1, y.2.2.2⟩ : Pr.S49)) (fun _ => rfl) (Opens.opens_struct Try.underlying49 (by kernel_rfl) (Opens.opensFs_cons (da := Kd.int .i64) rfl (by kernel_rfl) (Opens.opens_int Try.underlying3) (Opens.opensFs_cons (da := Kd.int .i64) rfl (by kernel_rfl) (Opens.opens_int Try.underlying3) (Opens.opensFs_cons (da := Kd.string) rfl (by kernel_rfl) (Opens.opens_string Try.underlying9) (Opens.opensFs_last rfl (by kernel_rfl) (Opens.opens_int Try.underlying3)))))))) H enc W 0 _ true m1 _ _ hm1
  obtain ⟨hn1, hc1, hr1⟩ := Opens.slice_of_K rfl hK1
  subst hn1
  clear hA0 hval0 hsz0 hsz
  have hP := Pure.GraphEdges x0.1 x0.2.1 x0.2.2 hw0 l1 hw1
  obtain ⟨k, hP⟩ := hP
  refine (Pr.gumshoelaw15_GraphEdges.calls k x0.1 _ _ x0.2.1 _ _ x0.2.2 _ _ l1 true W hr0_1 hc0_1 hr0_2 hc0_2 hr1 hc1 hP).mono fun e W' ⟨he, bel⟩ => ?_
  subst he
  exact ⟨_, rfl, _, _, _, [], _, [], hW', trodAll_mk1 (shut_bool Try.underlying4 _), (trodAll_cons_mk (Below.trod laidOut (by kernel_rfl) (of_decide_eq_true (by kernel_rfl)) k0 bel lt0) (trodAll_cons_mk (Below.trod laidOut (by kernel_rfl) (of_decide_eq_true (by kernel_rfl)) k1 bel lt1) trodAll_mk0)), rfl, bel.frame _, fun h => by cases h⟩
theorem over : Rows.graphEdgesRow.holds Try.pinned (OpenSpec.ofChange Rows.graphEdgesSpec) :=
  OpenClaim.holds_of_wide 6 Try.f6 rfl rfl rfl rfl rfl rfl rfl ⟨rfl, rfl, rfl, rfl, rfl⟩ rfl rfl rfl rfl rfl (by kernel_rfl) Try.func6 (by kernel_rfl)
    (of_decide_eq_true (by kernel_rfl)) (by unfold Func.isWrapper; first | (rw [if_pos (by decide +kernel)]; kernel_rfl) | (rw [if_neg (by decide +kernel)]; exact ⟨rfl, rfl⟩))
    (fun os started H enc _ => lifted os started H enc)
theorem proved : Rows.GraphEdgesSaid := over
end Go.Proofs.Ytondngpmhlemkaa.graphEdges
namespace Go.Proofs.Ytondngpmhlemkaa
theorem graphEdges_holds : Rows.GraphEdgesSaid := graphEdges.proved
end Go.Proofs.Ytondngpmhlemkaa

