/- Lemmas for the claims of this seat (own texts, packed; what the claims do not use is left out). No condition. -/
import Derived.Deep.Slices
import Derived.ChangeSlices
import Derived.DataReads
import Derived.Test.YtngppcmdaanheaaRows
import Derived.WalkKit
import Derived.ProofKit
import Derived.OpenShut
import Derived.ShutString
import Derived.ChangeOld
import Derived.Below
import Derived.SizedLaws
import Derived.Test.YtngppcmdaanheaaMn0
import Derived.Test.YtngppcmdaanheaaMn1
import Derived.Test.YtngppcmdaanheaaMn3
import Derived.Test.YtngppcmdaanheaaMn4
import Derived.Test.YtngppcmdaanheaaMn5
namespace Go.Proofs.Ytngppcmdaanheaa.Pr
open Go.RowKit Go.Proofs.Ytngppcmdaanheaa.Ls Go.Proofs.Ytngppcmdaanheaa.Va Go.Proofs.YtngppcmdaanheaaW.PrintWords Go.Proofs.YtngppcmdaanheaaW.PrintLast Go.Proofs.YtngppcmdaanheaaW.PrintMore
attribute [local go_sem] max2_int min2_int max_two min_two
set_option linter.unusedVariables false
set_option linter.unusedSimpArgs false
/-! ### l4_LeastRounds: function 3 -/
def l4_LeastRounds.f (k : Nat) (a0_0 : Int) (l0_1 : List (S44)) (l0_2 : List (S46)) (l1 : List (S41)) : Option (Bool) := (l4_shown.f k).bind fun t195 => ((l3_Small.f k a0_0 l0_1 l0_2).bind fun t196 => (if t196 = 0 then (some t195) else ((l4_few.f l1).bind fun t197 => ((e_Round.f k a0_0 l0_1 l0_2 t197).bind fun bt200 => ((e_Closed.f k a0_0 l0_1 l0_2 t197).bind fun bt204 => ((q3_Right.f k a0_0 l0_1 l0_2).bind fun t206 => ((q4_Right.f k a0_0 l0_1 l0_2 t197).bind fun t207 => (if t206 = true then (if t207 = true then ((q4_Round.f a0_0 l0_1 l0_2 t197).bind fun t208 => (if t195 = true then (if bt200.2 = 0 then (if bt204.2 = 0 then ((q8_SameFacts.f k bt200.1 t208).bind fun t211 => (if t211 = true then (some (bt204.1 == ((t208.length : Int) == (t197.length : Int)))) else (none))) else (none)) else (none)) else (none))) else (if t195 = true then (if bt200.2 = 140 then (if bt204.2 = 140 then (if (bt200.1.length : Int) = 0 then (some (!bt204.1)) else (none)) else (none)) else (none)) else (none))) else (if t195 = true then (if bt200.2 = 100 then (if bt204.2 = 100 then (if (bt200.1.length : Int) = 0 then (some (!bt204.1)) else (none)) else (none)) else (none)) else (none))))))))))
set_option maxHeartbeats 8000000 in
set_option maxRecDepth 100000 in
theorem l4_LeastRounds.calls (k : Nat) (a0_0 : Int) (A0_1 : Option Addr) (c0_1 : Nat) (l0_1 : List (S44)) (A0_2 : Option Addr) (c0_2 : Nat) (l0_2 : List (S46)) (A1 : Option Addr) (c1 : Nat) (l1 : List (S41)) (r : Bool) (w : World) (hr0_1 : Kd.C k44 w A0_1 l0_1.length l0_1) (hc0_1 : l0_1.length ≤ c0_1) (hr0_2 : Kd.C k46 w A0_2 l0_2.length l0_2) (hc0_2 : l0_2.length ≤ c0_2) (hr1 : Kd.C k41 w A1 l1.length l1) (hc1 : l1.length ≤ c1) (h : l4_LeastRounds.f k a0_0 l0_1 l0_2 l1 = some r) :
  Calls Try.prog 3 #[.agg #[.int .i64 a0_0, .slice A0_1 l0_1.length c0_1, .slice A0_2 l0_2.length c0_2], .slice A1 l1.length c1] w fun e w' => e = .returned (.bool r) ∧ Below w.heap.size w w' := by
 have hu25 := Try.underlying25
 have HR0_1 := zm hr0_1
 have HC0_1 := zm hc0_1
 clear hr0_1 hc0_1
 have HR0_2 := zm hr0_2
 have HC0_2 := zm hc0_2
 clear hr0_2 hc0_2
 have HR1 := zm hr1
 have HC1 := zm hc1
 clear hr1 hc1
 have HB := zm (Below.refl w.heap.size w)
 have H : ((l4_shown.f k).bind fun t195 => ((l3_Small.f k a0_0 l0_1 l0_2).bind fun t196 => (if t196 = 0 then (some t195) else ((l4_few.f l1).bind fun t197 => ((e_Round.f k a0_0 l0_1 l0_2 t197).bind fun bt200 => ((e_Closed.f k a0_0 l0_1 l0_2 t197).bind fun bt204 => ((q3_Right.f k a0_0 l0_1 l0_2).bind fun t206 => ((q4_Right.f k a0_0 l0_1 l0_2 t197).bind fun t207 => (if t206 = true then (if t207 = true then ((q4_Round.f a0_0 l0_1 l0_2 t197).bind fun t208 => (if t195 = true then (if bt200.2 = 0 then (if bt204.2 = 0 then ((q8_SameFacts.f k bt200.1 t208).bind fun t211 => (if t211 = true then (some (bt204.1 == ((t208.length : Int) == (t197.length : Int)))) else (none))) else (none)) else (none)) else (none))) else (if t195 = true then (if bt200.2 = 140 then (if bt204.2 = 140 then (if (bt200.1.length : Int) = 0 then (some (!bt204.1)) else (none)) else (none)) else (none)) else (none))) else (if t195 = true then (if bt200.2 = 100 then (if bt204.2 = 100 then (if (bt200.1.length : Int) = 0 then (some (!bt204.1)) else (none)) else (none)) else (none)) else (none))))))))))) = some r := h
 clear h
 obtain ⟨t195, A3, H⟩ := zO H
 obtain ⟨t196, A4, H⟩ := zO H
 by_cases c5 : t196 = 0
 ·rw [if_pos c5] at H
  have c5b0 : (t196 == 0) = true := beq_iff_eq.mpr c5
  have c5b1 : (t196 != 0) = false := bne_eq_false_iff_eq.mpr c5
  clear c5
  obtain rfl := Option.some.inj H
  go_enter Try.func3, Try.ntmps3
  go_wp2_with (first | ((with_reducible refine gate_dst (N := 2) rfl ?_); (try (refine gate_guard (by rfl) ?_; dsimp only)); refine zX (N := 2) (cs := #[.int .i64 a0_0, .slice A0_1 l0_1.length c0_1, .slice A0_2 l0_2.length c0_2]) (t := 25) (h := ?_); intro gb194 hg w6 hbox hb; have BK194 := zm hbox; have GW194 := zm ((zS : w.heap.size ≤ gb194)); have GE194 := zm ((zS : w.heap.size ≤ gb194)); replace HB := zm (below_step zB hb); clear hb hbox hg) | ((with_reducible refine gate_callee (f := 8) rfl ?_); refine goesL_ (some 13) rfl rfl Try.func8 (by kernel_rfl) rfl #[] rfl zP ?_; (with_reducible refine (l4_shown.calls k  t195 _ A3.out).mono ?_); rintro e w7 ⟨rfl, hb⟩; refine ⟨_, rfl, ?_⟩; replace BK194 := zm (blk_below (g := gb194) zK hb); replace HB := zm (below_step zG hb); (try clear hb); obtain ⟨hcz8_0, hcz8_1, hcz8_2, hfz8_0, hfz8_1, hfz8_2⟩ := zd3 BK194.out (.int .i64 a0_0) (.slice A0_1 l0_1.length c0_1) (.slice A0_2 l0_2.length c0_2)) | ((with_reducible refine gate_callee (f := 9) rfl ?_); refine goesL_ (some 15) rfl rfl Try.func9 (by kernel_rfl) rfl #[.agg #[.int .i64 a0_0, .slice A0_1 l0_1.length c0_1, .slice A0_2 l0_2.length c0_2]] rfl zP ?_; (with_reducible refine (l3_Small.calls k a0_0 _ _ l0_1 _ _ l0_2 t196 _ ?side1 ?side2 ?side3 ?side4 A4.out).mono ?_); (case side1 => exact zC (Kd.C_below HR0_1.out HB.out)); (case side2 => exact HC0_1.out); (case side3 => exact zC (Kd.C_below HR0_2.out HB.out)); (case side4 => exact HC0_2.out); rintro e w9 ⟨rfl, hb⟩; refine ⟨_, rfl, ?_⟩; replace BK194 := zm (blk_below (g := gb194) zK hb); replace HB := zm (below_step zG hb); (try clear hb)))
  go_ret
  exact ⟨zE, zG⟩
 ·rw [if_neg c5] at H
  have c5b0 : (t196 == 0) = false := beq_eq_false_iff_ne.mpr c5
  have c5b1 : (t196 != 0) = true := bne_iff_ne.mpr c5
  obtain ⟨t197, A10, H⟩ := zO H
  replace H := Option.bind_eq_some_iff.mp H
  obtain ⟨⟨t200, t203⟩, A110, H⟩ := H
  replace H : ((e_Closed.f k a0_0 l0_1 l0_2 t197).bind fun bt204 => ((q3_Right.f k a0_0 l0_1 l0_2).bind fun t206 => ((q4_Right.f k a0_0 l0_1 l0_2 t197).bind fun t207 => (if t206 = true then (if t207 = true then ((q4_Round.f a0_0 l0_1 l0_2 t197).bind fun t208 => (if t195 = true then (if t203 = 0 then (if bt204.2 = 0 then ((q8_SameFacts.f k t200 t208).bind fun t211 => (if t211 = true then (some (bt204.1 == ((t208.length : Int) == (t197.length : Int)))) else (none))) else (none)) else (none)) else (none))) else (if t195 = true then (if t203 = 140 then (if bt204.2 = 140 then (if (t200.length : Int) = 0 then (some (!bt204.1)) else (none)) else (none)) else (none)) else (none))) else (if t195 = true then (if t203 = 100 then (if bt204.2 = 100 then (if (t200.length : Int) = 0 then (some (!bt204.1)) else (none)) else (none)) else (none)) else (none)))))) = some r := H
  have A11 := zm A110
  clear A110
  replace H := Option.bind_eq_some_iff.mp H
  obtain ⟨⟨t204, t205⟩, A120, H⟩ := H
  replace H : ((q3_Right.f k a0_0 l0_1 l0_2).bind fun t206 => ((q4_Right.f k a0_0 l0_1 l0_2 t197).bind fun t207 => (if t206 = true then (if t207 = true then ((q4_Round.f a0_0 l0_1 l0_2 t197).bind fun t208 => (if t195 = true then (if t203 = 0 then (if t205 = 0 then ((q8_SameFacts.f k t200 t208).bind fun t211 => (if t211 = true then (some (t204 == ((t208.length : Int) == (t197.length : Int)))) else (none))) else (none)) else (none)) else (none))) else (if t195 = true then (if t203 = 140 then (if t205 = 140 then (if (t200.length : Int) = 0 then (some (!t204)) else (none)) else (none)) else (none)) else (none))) else (if t195 = true then (if t203 = 100 then (if t205 = 100 then (if (t200.length : Int) = 0 then (some (!t204)) else (none)) else (none)) else (none)) else (none))))) = some r := H
  have A12 := zm A120
  clear A120
  obtain ⟨t206, A13, H⟩ := zO H
  obtain ⟨t207, A14, H⟩ := zO H
  by_cases c15 : t206 = true
  ·subst c15
   rw [if_pos rfl] at H
   by_cases c16 : t207 = true
   ·subst c16
    rw [if_pos rfl] at H
    obtain ⟨t208, A17, H⟩ := zO H
    by_cases c18 : t195 = true
    ·subst c18
     rw [if_pos rfl] at H
     by_cases c19 : t203 = 0
     ·rw [if_pos c19] at H
      have c19b0 : (t203 == 0) = true := beq_iff_eq.mpr c19
      have c19b1 : (t203 != 0) = false := bne_eq_false_iff_eq.mpr c19
      clear c19
      by_cases c20 : t205 = 0
      ·rw [if_pos c20] at H
       have c20b0 : (t205 == 0) = true := beq_iff_eq.mpr c20
       have c20b1 : (t205 != 0) = false := bne_eq_false_iff_eq.mpr c20
       clear c20
       obtain ⟨t211, A21, H⟩ := zO H
       by_cases c22 : t211 = true
       ·subst c22
        rw [if_pos rfl] at H
        obtain rfl := Option.some.inj H
        go_enter Try.func3, Try.ntmps3
        go_wp2_with (first | ((with_reducible refine gate_dst (N := 2) rfl ?_); (try (refine gate_guard (by rfl) ?_; dsimp only)); refine zX (N := 2) (cs := #[.int .i64 a0_0, .slice A0_1 l0_1.length c0_1, .slice A0_2 l0_2.length c0_2]) (t := 25) (h := ?_); intro gb194 hg w23 hbox hb; have BK194 := zm hbox; have GW194 := zm ((zS : w.heap.size ≤ gb194)); have GE194 := zm ((zS : w.heap.size ≤ gb194)); replace HB := zm (below_step zB hb); clear hb hbox hg) | ((with_reducible refine gate_callee (f := 8) rfl ?_); refine goesL_ (some 13) rfl rfl Try.func8 (by kernel_rfl) rfl #[] rfl zP ?_; (with_reducible refine (l4_shown.calls k  true _ A3.out).mono ?_); rintro e w24 ⟨rfl, hb⟩; refine ⟨_, rfl, ?_⟩; replace BK194 := zm (blk_below (g := gb194) zK hb); replace HB := zm (below_step zG hb); (try clear hb); obtain ⟨hcz25_0, hcz25_1, hcz25_2, hfz25_0, hfz25_1, hfz25_2⟩ := zd3 BK194.out (.int .i64 a0_0) (.slice A0_1 l0_1.length c0_1) (.slice A0_2 l0_2.length c0_2)) | ((with_reducible refine gate_callee (f := 9) rfl ?_); refine goesL_ (some 15) rfl rfl Try.func9 (by kernel_rfl) rfl #[.agg #[.int .i64 a0_0, .slice A0_1 l0_1.length c0_1, .slice A0_2 l0_2.length c0_2]] rfl zP ?_; (with_reducible refine (l3_Small.calls k a0_0 _ _ l0_1 _ _ l0_2 t196 _ ?side1 ?side2 ?side3 ?side4 A4.out).mono ?_); (case side1 => exact zC (Kd.C_below HR0_1.out HB.out)); (case side2 => exact HC0_1.out); (case side3 => exact zC (Kd.C_below HR0_2.out HB.out)); (case side4 => exact HC0_2.out); rintro e w26 ⟨rfl, hb⟩; refine ⟨_, rfl, ?_⟩; replace BK194 := zm (blk_below (g := gb194) zK hb); replace HB := zm (below_step zG hb); (try clear hb)) | ((with_reducible refine gate_callee (f := 10) rfl ?_); refine goesL_ (some 19) rfl rfl Try.func10 (by kernel_rfl) rfl #[.slice A1 l1.length c1] rfl zP ?_; (with_reducible refine (l4_few.calls (fun k_ => k_ < w.heap.size) _ _ l1 t197 _ ?side1 A10.out).mono ?_); (case side1 => exact Kd.V_mk HC1.out (Kd.F_below (Kd.C_F k41_heap HR1.out) zG)); rintro e w27 ⟨v198, rfl, ho0, hb⟩; refine ⟨_, rfl, ?_⟩; have HO199 := zm (Kd.V_lower (Kd.V_mono (ok' := fun k_ => k_ ≠ gb194) ho0 (fun k_ hk_ => Or.elim hk_ (fun hs_ => fun e_ => Nat.not_le.2 hs_ (by rw [e_]; exact GW194.out)) (fun hn_ => (Kd.freshB (g := gb194) (o := .cells #[.int .i64 a0_0, .slice A0_1 l0_1.length c0_1, .slice A0_2 l0_2.length c0_2] 25 (0, 0)) zK k_ hn_)))) (below_size zG)); replace BK194 := zm (blk_below (g := gb194) zK hb); replace HB := zm (below_step zG hb); (try clear hb); (try clear ho0); obtain ⟨hcz28_0, hcz28_1, hcz28_2, hfz28_0, hfz28_1, hfz28_2⟩ := zd3 BK194.out (.int .i64 a0_0) (.slice A0_1 l0_1.length c0_1) (.slice A0_2 l0_2.length c0_2); obtain ⟨Ao29, co29, eo29⟩ := Kd.V_slice HO199.out; subst eo29) | ((with_reducible refine gate_callee (f := 11) rfl ?_); refine goesL_ (some 23) rfl rfl Try.func11 (by kernel_rfl) rfl #[.agg #[.int .i64 a0_0, .slice A0_1 l0_1.length c0_1, .slice A0_2 l0_2.length c0_2], .slice Ao29 t197.length co29] rfl zP ?_; (with_reducible refine (e_Round.calls k a0_0 _ _ l0_1 _ _ l0_2 _ _ t197 t200 t203 _ ?side1 ?side2 ?side3 ?side4 ?side5 ?side6 A11.out).mono ?_); (case side1 => exact zC (Kd.C_below HR0_1.out HB.out)); (case side2 => exact HC0_1.out); (case side3 => exact zC (Kd.C_below HR0_2.out HB.out)); (case side4 => exact HC0_2.out); (case side5 => exact zC ((Kd.V_reads' HO199.out).2.2)); (case side6 => exact (Kd.V_reads' HO199.out).2.1); rintro e w30 ⟨v201, rfl, ho0, hb⟩; refine ⟨_, rfl, ?_⟩; have HO202 := zm (Kd.V_lower (Kd.V_mono (ok' := fun k_ => k_ ≠ gb194) ho0 (fun k_ hk_ => (Kd.freshB (g := gb194) (o := .cells #[.int .i64 a0_0, .slice A0_1 l0_1.length c0_1, .slice A0_2 l0_2.length c0_2] 25 (0, 0)) zK k_ hk_))) (below_size zG)); replace HO199 := zm (Kd.V_below (by (with_reducible repeat (first | apply Kd.V_alloc | apply Kd.V_drewN | apply Kd.V_drew)); exact HO199.out) hb); replace BK194 := zm (blk_below (g := gb194) zK hb); replace HB := zm (below_step zG hb); (try clear hb); (try clear ho0); obtain ⟨hcz31_0, hcz31_1, hcz31_2, hfz31_0, hfz31_1, hfz31_2⟩ := zd3 BK194.out (.int .i64 a0_0) (.slice A0_1 l0_1.length c0_1) (.slice A0_2 l0_2.length c0_2)) | ((with_reducible refine gate_callee (f := 12) rfl ?_); refine goesL_ (some 29) rfl rfl Try.func12 (by kernel_rfl) rfl #[.agg #[.int .i64 a0_0, .slice A0_1 l0_1.length c0_1, .slice A0_2 l0_2.length c0_2], .slice Ao29 t197.length co29] rfl zP ?_; (with_reducible refine (e_Closed.calls k a0_0 _ _ l0_1 _ _ l0_2 _ _ t197 t204 t205 _ ?side1 ?side2 ?side3 ?side4 ?side5 ?side6 A12.out).mono ?_); (case side1 => exact zC (Kd.C_below HR0_1.out HB.out)); (case side2 => exact HC0_1.out); (case side3 => exact zC (Kd.C_below HR0_2.out HB.out)); (case side4 => exact HC0_2.out); (case side5 => exact zC ((Kd.V_reads' HO199.out).2.2)); (case side6 => exact (Kd.V_reads' HO199.out).2.1); rintro e w32 ⟨rfl, hb⟩; refine ⟨_, rfl, ?_⟩; replace HO199 := zm (Kd.V_below (by (with_reducible repeat (first | apply Kd.V_alloc | apply Kd.V_drewN | apply Kd.V_drew)); exact HO199.out) hb); replace HO202 := zm (Kd.V_below (by (with_reducible repeat (first | apply Kd.V_alloc | apply Kd.V_drewN | apply Kd.V_drew)); exact HO202.out) hb); replace BK194 := zm (blk_below (g := gb194) zK hb); replace HB := zm (below_step zG hb); (try clear hb); obtain ⟨hcz33_0, hcz33_1, hcz33_2, hfz33_0, hfz33_1, hfz33_2⟩ := zd3 BK194.out (.int .i64 a0_0) (.slice A0_1 l0_1.length c0_1) (.slice A0_2 l0_2.length c0_2)) | ((with_reducible refine gate_callee (f := 13) rfl ?_); refine goesL_ (some 33) rfl rfl Try.func13 (by kernel_rfl) rfl #[.agg #[.int .i64 a0_0, .slice A0_1 l0_1.length c0_1, .slice A0_2 l0_2.length c0_2]] rfl zP ?_; (with_reducible refine (q3_Right.calls k a0_0 _ _ l0_1 _ _ l0_2 true _ ?side1 ?side2 ?side3 ?side4 A13.out).mono ?_); (case side1 => exact zC (Kd.C_below HR0_1.out HB.out)); (case side2 => exact HC0_1.out); (case side3 => exact zC (Kd.C_below HR0_2.out HB.out)); (case side4 => exact HC0_2.out); rintro e w34 ⟨rfl, hb⟩; refine ⟨_, rfl, ?_⟩; replace HO199 := zm (Kd.V_below (by (with_reducible repeat (first | apply Kd.V_alloc | apply Kd.V_drewN | apply Kd.V_drew)); exact HO199.out) hb); replace HO202 := zm (Kd.V_below (by (with_reducible repeat (first | apply Kd.V_alloc | apply Kd.V_drewN | apply Kd.V_drew)); exact HO202.out) hb); replace BK194 := zm (blk_below (g := gb194) zK hb); replace HB := zm (below_step zG hb); (try clear hb); obtain ⟨hcz35_0, hcz35_1, hcz35_2, hfz35_0, hfz35_1, hfz35_2⟩ := zd3 BK194.out (.int .i64 a0_0) (.slice A0_1 l0_1.length c0_1) (.slice A0_2 l0_2.length c0_2)) | ((with_reducible refine gate_callee (f := 14) rfl ?_); refine goesL_ (some 36) rfl rfl Try.func14 (by kernel_rfl) rfl #[.agg #[.int .i64 a0_0, .slice A0_1 l0_1.length c0_1, .slice A0_2 l0_2.length c0_2], .slice Ao29 t197.length co29] rfl zP ?_; (with_reducible refine (q4_Right.calls k a0_0 _ _ l0_1 _ _ l0_2 _ _ t197 true _ ?side1 ?side2 ?side3 ?side4 ?side5 ?side6 A14.out).mono ?_); (case side1 => exact zC (Kd.C_below HR0_1.out HB.out)); (case side2 => exact HC0_1.out); (case side3 => exact zC (Kd.C_below HR0_2.out HB.out)); (case side4 => exact HC0_2.out); (case side5 => exact zC ((Kd.V_reads' HO199.out).2.2)); (case side6 => exact (Kd.V_reads' HO199.out).2.1); rintro e w36 ⟨rfl, hb⟩; refine ⟨_, rfl, ?_⟩; replace HO199 := zm (Kd.V_below (by (with_reducible repeat (first | apply Kd.V_alloc | apply Kd.V_drewN | apply Kd.V_drew)); exact HO199.out) hb); replace HO202 := zm (Kd.V_below (by (with_reducible repeat (first | apply Kd.V_alloc | apply Kd.V_drewN | apply Kd.V_drew)); exact HO202.out) hb); replace BK194 := zm (blk_below (g := gb194) zK hb); replace HB := zm (below_step zG hb); (try clear hb); obtain ⟨hcz37_0, hcz37_1, hcz37_2, hfz37_0, hfz37_1, hfz37_2⟩ := zd3 BK194.out (.int .i64 a0_0) (.slice A0_1 l0_1.length c0_1) (.slice A0_2 l0_2.length c0_2)) | ((with_reducible refine gate_callee (f := 15) rfl ?_); refine goesL_ (some 79) rfl rfl Try.func15 (by kernel_rfl) rfl #[.agg #[.int .i64 a0_0, .slice A0_1 l0_1.length c0_1, .slice A0_2 l0_2.length c0_2], .slice Ao29 t197.length co29] rfl zP ?_; (with_reducible refine (q4_Round.calls a0_0 _ _ l0_1 _ _ l0_2 _ _ t197 t208 _ ?side1 ?side2 ?side3 ?side4 ?side5 ?side6 A17.out).mono ?_); (case side1 => exact zC (Kd.C_below HR0_1.out HB.out)); (case side2 => exact HC0_1.out); (case side3 => exact zC (Kd.C_below HR0_2.out HB.out)); (case side4 => exact HC0_2.out); (case side5 => exact zC ((Kd.V_reads' HO199.out).2.2)); (case side6 => exact (Kd.V_reads' HO199.out).2.1); rintro e w38 ⟨v209, rfl, ho0, hb⟩; refine ⟨_, rfl, ?_⟩; have HO210 := zm (Kd.V_lower (Kd.V_mono (ok' := fun k_ => k_ ≠ gb194) ho0 (fun k_ hk_ => (Kd.freshB (g := gb194) (o := .cells #[.int .i64 a0_0, .slice A0_1 l0_1.length c0_1, .slice A0_2 l0_2.length c0_2] 25 (0, 0)) zK k_ hk_))) (below_size zG)); replace HO199 := zm (Kd.V_below (by (with_reducible repeat (first | apply Kd.V_alloc | apply Kd.V_drewN | apply Kd.V_drew)); exact HO199.out) hb); replace HO202 := zm (Kd.V_below (by (with_reducible repeat (first | apply Kd.V_alloc | apply Kd.V_drewN | apply Kd.V_drew)); exact HO202.out) hb); replace BK194 := zm (blk_below (g := gb194) zK hb); replace HB := zm (below_step zG hb); (try clear hb); (try clear ho0); obtain ⟨Ao39, co39, eo39⟩ := Kd.V_slice HO202.out; subst eo39; obtain ⟨Ao40, co40, eo40⟩ := Kd.V_slice HO210.out; subst eo40) | (go_at_call 16; (with_reducible refine (q8_SameFacts.calls k _ _ t200 _ _ t208 true _ ?side1 ?side2 ?side3 ?side4 A21.out).mono ?_); (case side1 => exact zC ((Kd.V_reads' HO202.out).2.2)); (case side2 => exact (Kd.V_reads' HO202.out).2.1); (case side3 => exact zC ((Kd.V_reads' HO210.out).2.2)); (case side4 => exact (Kd.V_reads' HO210.out).2.1); rintro e w' ⟨rfl, ⟨nd, rfl⟩⟩))
        go_ret
        exact ⟨zE, zG⟩
       ·replace c22 := Bool.eq_false_iff.mpr c22
        subst c22
        rw [if_neg (show ¬ (false = true) by decide)] at H
        exact absurd H (by simp)
      ·rw [if_neg c20] at H
       exact absurd H (by simp)
     ·rw [if_neg c19] at H
      exact absurd H (by simp)
    ·replace c18 := Bool.eq_false_iff.mpr c18
     subst c18
     rw [if_neg (show ¬ (false = true) by decide)] at H
     exact absurd H (by simp)
   ·replace c16 := Bool.eq_false_iff.mpr c16
    subst c16
    rw [if_neg (show ¬ (false = true) by decide)] at H
    by_cases c41 : t195 = true
    ·subst c41
     rw [if_pos rfl] at H
     by_cases c42 : t203 = 140
     ·rw [if_pos c42] at H
      have c42b0 : (t203 == 140) = true := beq_iff_eq.mpr c42
      have c42b1 : (t203 != 140) = false := bne_eq_false_iff_eq.mpr c42
      clear c42
      by_cases c43 : t205 = 140
      ·rw [if_pos c43] at H
       have c43b0 : (t205 == 140) = true := beq_iff_eq.mpr c43
       have c43b1 : (t205 != 140) = false := bne_eq_false_iff_eq.mpr c43
       clear c43
       by_cases c44 : (t200.length : Int) = 0
       ·rw [if_pos c44] at H
        have c44b0 : ((t200.length : Int) == 0) = true := beq_iff_eq.mpr c44
        have c44b1 : ((t200.length : Int) != 0) = false := bne_eq_false_iff_eq.mpr c44
        clear c44
        obtain rfl := Option.some.inj H
        go_enter Try.func3, Try.ntmps3
        go_wp2_with (first | ((with_reducible refine gate_dst (N := 2) rfl ?_); (try (refine gate_guard (by rfl) ?_; dsimp only)); refine zX (N := 2) (cs := #[.int .i64 a0_0, .slice A0_1 l0_1.length c0_1, .slice A0_2 l0_2.length c0_2]) (t := 25) (h := ?_); intro gb194 hg w45 hbox hb; have BK194 := zm hbox; have GW194 := zm ((zS : w.heap.size ≤ gb194)); have GE194 := zm ((zS : w.heap.size ≤ gb194)); replace HB := zm (below_step zB hb); clear hb hbox hg) | ((with_reducible refine gate_callee (f := 8) rfl ?_); refine goesL_ (some 13) rfl rfl Try.func8 (by kernel_rfl) rfl #[] rfl zP ?_; (with_reducible refine (l4_shown.calls k  true _ A3.out).mono ?_); rintro e w46 ⟨rfl, hb⟩; refine ⟨_, rfl, ?_⟩; replace BK194 := zm (blk_below (g := gb194) zK hb); replace HB := zm (below_step zG hb); (try clear hb); obtain ⟨hcz47_0, hcz47_1, hcz47_2, hfz47_0, hfz47_1, hfz47_2⟩ := zd3 BK194.out (.int .i64 a0_0) (.slice A0_1 l0_1.length c0_1) (.slice A0_2 l0_2.length c0_2)) | ((with_reducible refine gate_callee (f := 9) rfl ?_); refine goesL_ (some 15) rfl rfl Try.func9 (by kernel_rfl) rfl #[.agg #[.int .i64 a0_0, .slice A0_1 l0_1.length c0_1, .slice A0_2 l0_2.length c0_2]] rfl zP ?_; (with_reducible refine (l3_Small.calls k a0_0 _ _ l0_1 _ _ l0_2 t196 _ ?side1 ?side2 ?side3 ?side4 A4.out).mono ?_); (case side1 => exact zC (Kd.C_below HR0_1.out HB.out)); (case side2 => exact HC0_1.out); (case side3 => exact zC (Kd.C_below HR0_2.out HB.out)); (case side4 => exact HC0_2.out); rintro e w48 ⟨rfl, hb⟩; refine ⟨_, rfl, ?_⟩; replace BK194 := zm (blk_below (g := gb194) zK hb); replace HB := zm (below_step zG hb); (try clear hb)) | ((with_reducible refine gate_callee (f := 10) rfl ?_); refine goesL_ (some 19) rfl rfl Try.func10 (by kernel_rfl) rfl #[.slice A1 l1.length c1] rfl zP ?_; (with_reducible refine (l4_few.calls (fun k_ => k_ < w.heap.size) _ _ l1 t197 _ ?side1 A10.out).mono ?_); (case side1 => exact Kd.V_mk HC1.out (Kd.F_below (Kd.C_F k41_heap HR1.out) zG)); rintro e w49 ⟨v198, rfl, ho0, hb⟩; refine ⟨_, rfl, ?_⟩; have HO199 := zm (Kd.V_lower (Kd.V_mono (ok' := fun k_ => k_ ≠ gb194) ho0 (fun k_ hk_ => Or.elim hk_ (fun hs_ => fun e_ => Nat.not_le.2 hs_ (by rw [e_]; exact GW194.out)) (fun hn_ => (Kd.freshB (g := gb194) (o := .cells #[.int .i64 a0_0, .slice A0_1 l0_1.length c0_1, .slice A0_2 l0_2.length c0_2] 25 (0, 0)) zK k_ hn_)))) (below_size zG)); replace BK194 := zm (blk_below (g := gb194) zK hb); replace HB := zm (below_step zG hb); (try clear hb); (try clear ho0); obtain ⟨hcz50_0, hcz50_1, hcz50_2, hfz50_0, hfz50_1, hfz50_2⟩ := zd3 BK194.out (.int .i64 a0_0) (.slice A0_1 l0_1.length c0_1) (.slice A0_2 l0_2.length c0_2); obtain ⟨Ao51, co51, eo51⟩ := Kd.V_slice HO199.out; subst eo51) | ((with_reducible refine gate_callee (f := 11) rfl ?_); refine goesL_ (some 23) rfl rfl Try.func11 (by kernel_rfl) rfl #[.agg #[.int .i64 a0_0, .slice A0_1 l0_1.length c0_1, .slice A0_2 l0_2.length c0_2], .slice Ao51 t197.length co51] rfl zP ?_; (with_reducible refine (e_Round.calls k a0_0 _ _ l0_1 _ _ l0_2 _ _ t197 t200 t203 _ ?side1 ?side2 ?side3 ?side4 ?side5 ?side6 A11.out).mono ?_); (case side1 => exact zC (Kd.C_below HR0_1.out HB.out)); (case side2 => exact HC0_1.out); (case side3 => exact zC (Kd.C_below HR0_2.out HB.out)); (case side4 => exact HC0_2.out); (case side5 => exact zC ((Kd.V_reads' HO199.out).2.2)); (case side6 => exact (Kd.V_reads' HO199.out).2.1); rintro e w52 ⟨v201, rfl, ho0, hb⟩; refine ⟨_, rfl, ?_⟩; have HO202 := zm (Kd.V_lower (Kd.V_mono (ok' := fun k_ => k_ ≠ gb194) ho0 (fun k_ hk_ => (Kd.freshB (g := gb194) (o := .cells #[.int .i64 a0_0, .slice A0_1 l0_1.length c0_1, .slice A0_2 l0_2.length c0_2] 25 (0, 0)) zK k_ hk_))) (below_size zG)); replace HO199 := zm (Kd.V_below (by (with_reducible repeat (first | apply Kd.V_alloc | apply Kd.V_drewN | apply Kd.V_drew)); exact HO199.out) hb); replace BK194 := zm (blk_below (g := gb194) zK hb); replace HB := zm (below_step zG hb); (try clear hb); (try clear ho0); obtain ⟨hcz53_0, hcz53_1, hcz53_2, hfz53_0, hfz53_1, hfz53_2⟩ := zd3 BK194.out (.int .i64 a0_0) (.slice A0_1 l0_1.length c0_1) (.slice A0_2 l0_2.length c0_2)) | ((with_reducible refine gate_callee (f := 12) rfl ?_); refine goesL_ (some 29) rfl rfl Try.func12 (by kernel_rfl) rfl #[.agg #[.int .i64 a0_0, .slice A0_1 l0_1.length c0_1, .slice A0_2 l0_2.length c0_2], .slice Ao51 t197.length co51] rfl zP ?_; (with_reducible refine (e_Closed.calls k a0_0 _ _ l0_1 _ _ l0_2 _ _ t197 t204 t205 _ ?side1 ?side2 ?side3 ?side4 ?side5 ?side6 A12.out).mono ?_); (case side1 => exact zC (Kd.C_below HR0_1.out HB.out)); (case side2 => exact HC0_1.out); (case side3 => exact zC (Kd.C_below HR0_2.out HB.out)); (case side4 => exact HC0_2.out); (case side5 => exact zC ((Kd.V_reads' HO199.out).2.2)); (case side6 => exact (Kd.V_reads' HO199.out).2.1); rintro e w54 ⟨rfl, hb⟩; refine ⟨_, rfl, ?_⟩; replace HO199 := zm (Kd.V_below (by (with_reducible repeat (first | apply Kd.V_alloc | apply Kd.V_drewN | apply Kd.V_drew)); exact HO199.out) hb); replace HO202 := zm (Kd.V_below (by (with_reducible repeat (first | apply Kd.V_alloc | apply Kd.V_drewN | apply Kd.V_drew)); exact HO202.out) hb); replace BK194 := zm (blk_below (g := gb194) zK hb); replace HB := zm (below_step zG hb); (try clear hb); obtain ⟨hcz55_0, hcz55_1, hcz55_2, hfz55_0, hfz55_1, hfz55_2⟩ := zd3 BK194.out (.int .i64 a0_0) (.slice A0_1 l0_1.length c0_1) (.slice A0_2 l0_2.length c0_2)) | ((with_reducible refine gate_callee (f := 13) rfl ?_); refine goesL_ (some 33) rfl rfl Try.func13 (by kernel_rfl) rfl #[.agg #[.int .i64 a0_0, .slice A0_1 l0_1.length c0_1, .slice A0_2 l0_2.length c0_2]] rfl zP ?_; (with_reducible refine (q3_Right.calls k a0_0 _ _ l0_1 _ _ l0_2 true _ ?side1 ?side2 ?side3 ?side4 A13.out).mono ?_); (case side1 => exact zC (Kd.C_below HR0_1.out HB.out)); (case side2 => exact HC0_1.out); (case side3 => exact zC (Kd.C_below HR0_2.out HB.out)); (case side4 => exact HC0_2.out); rintro e w56 ⟨rfl, hb⟩; refine ⟨_, rfl, ?_⟩; replace HO199 := zm (Kd.V_below (by (with_reducible repeat (first | apply Kd.V_alloc | apply Kd.V_drewN | apply Kd.V_drew)); exact HO199.out) hb); replace HO202 := zm (Kd.V_below (by (with_reducible repeat (first | apply Kd.V_alloc | apply Kd.V_drewN | apply Kd.V_drew)); exact HO202.out) hb); replace BK194 := zm (blk_below (g := gb194) zK hb); replace HB := zm (below_step zG hb); (try clear hb); obtain ⟨hcz57_0, hcz57_1, hcz57_2, hfz57_0, hfz57_1, hfz57_2⟩ := zd3 BK194.out (.int .i64 a0_0) (.slice A0_1 l0_1.length c0_1) (.slice A0_2 l0_2.length c0_2)) | ((with_reducible refine gate_callee (f := 14) rfl ?_); refine goesL_ (some 36) rfl rfl Try.func14 (by kernel_rfl) rfl #[.agg #[.int .i64 a0_0, .slice A0_1 l0_1.length c0_1, .slice A0_2 l0_2.length c0_2], .slice Ao51 t197.length co51] rfl zP ?_; (with_reducible refine (q4_Right.calls k a0_0 _ _ l0_1 _ _ l0_2 _ _ t197 false _ ?side1 ?side2 ?side3 ?side4 ?side5 ?side6 A14.out).mono ?_); (case side1 => exact zC (Kd.C_below HR0_1.out HB.out)); (case side2 => exact HC0_1.out); (case side3 => exact zC (Kd.C_below HR0_2.out HB.out)); (case side4 => exact HC0_2.out); (case side5 => exact zC ((Kd.V_reads' HO199.out).2.2)); (case side6 => exact (Kd.V_reads' HO199.out).2.1); rintro e w58 ⟨rfl, hb⟩; refine ⟨_, rfl, ?_⟩; replace HO199 := zm (Kd.V_below (by (with_reducible repeat (first | apply Kd.V_alloc | apply Kd.V_drewN | apply Kd.V_drew)); exact HO199.out) hb); replace HO202 := zm (Kd.V_below (by (with_reducible repeat (first | apply Kd.V_alloc | apply Kd.V_drewN | apply Kd.V_drew)); exact HO202.out) hb); replace BK194 := zm (blk_below (g := gb194) zK hb); replace HB := zm (below_step zG hb); (try clear hb); obtain ⟨Ao59, co59, eo59⟩ := Kd.V_slice HO202.out; subst eo59))
        go_ret
        exact ⟨zE, zG⟩
       ·rw [if_neg c44] at H
        exact absurd H (by simp)
      ·rw [if_neg c43] at H
       exact absurd H (by simp)
     ·rw [if_neg c42] at H
      exact absurd H (by simp)
    ·replace c41 := Bool.eq_false_iff.mpr c41
     subst c41
     rw [if_neg (show ¬ (false = true) by decide)] at H
     exact absurd H (by simp)
  ·replace c15 := Bool.eq_false_iff.mpr c15
   subst c15
   rw [if_neg (show ¬ (false = true) by decide)] at H
   by_cases c60 : t195 = true
   ·subst c60
    rw [if_pos rfl] at H
    by_cases c61 : t203 = 100
    ·rw [if_pos c61] at H
     have c61b0 : (t203 == 100) = true := beq_iff_eq.mpr c61
     have c61b1 : (t203 != 100) = false := bne_eq_false_iff_eq.mpr c61
     clear c61
     by_cases c62 : t205 = 100
     ·rw [if_pos c62] at H
      have c62b0 : (t205 == 100) = true := beq_iff_eq.mpr c62
      have c62b1 : (t205 != 100) = false := bne_eq_false_iff_eq.mpr c62
      clear c62
      by_cases c63 : (t200.length : Int) = 0
      ·rw [if_pos c63] at H
       have c63b0 : ((t200.length : Int) == 0) = true := beq_iff_eq.mpr c63
       have c63b1 : ((t200.length : Int) != 0) = false := bne_eq_false_iff_eq.mpr c63
       clear c63
       obtain rfl := Option.some.inj H
       go_enter Try.func3, Try.ntmps3
       go_wp2_with (first | ((with_reducible refine gate_dst (N := 2) rfl ?_); (try (refine gate_guard (by rfl) ?_; dsimp only)); refine zX (N := 2) (cs := #[.int .i64 a0_0, .slice A0_1 l0_1.length c0_1, .slice A0_2 l0_2.length c0_2]) (t := 25) (h := ?_); intro gb194 hg w64 hbox hb; have BK194 := zm hbox; have GW194 := zm ((zS : w.heap.size ≤ gb194)); have GE194 := zm ((zS : w.heap.size ≤ gb194)); replace HB := zm (below_step zB hb); clear hb hbox hg) | ((with_reducible refine gate_callee (f := 8) rfl ?_); refine goesL_ (some 13) rfl rfl Try.func8 (by kernel_rfl) rfl #[] rfl zP ?_; (with_reducible refine (l4_shown.calls k  true _ A3.out).mono ?_); rintro e w65 ⟨rfl, hb⟩; refine ⟨_, rfl, ?_⟩; replace BK194 := zm (blk_below (g := gb194) zK hb); replace HB := zm (below_step zG hb); (try clear hb); obtain ⟨hcz66_0, hcz66_1, hcz66_2, hfz66_0, hfz66_1, hfz66_2⟩ := zd3 BK194.out (.int .i64 a0_0) (.slice A0_1 l0_1.length c0_1) (.slice A0_2 l0_2.length c0_2)) | ((with_reducible refine gate_callee (f := 9) rfl ?_); refine goesL_ (some 15) rfl rfl Try.func9 (by kernel_rfl) rfl #[.agg #[.int .i64 a0_0, .slice A0_1 l0_1.length c0_1, .slice A0_2 l0_2.length c0_2]] rfl zP ?_; (with_reducible refine (l3_Small.calls k a0_0 _ _ l0_1 _ _ l0_2 t196 _ ?side1 ?side2 ?side3 ?side4 A4.out).mono ?_); (case side1 => exact zC (Kd.C_below HR0_1.out HB.out)); (case side2 => exact HC0_1.out); (case side3 => exact zC (Kd.C_below HR0_2.out HB.out)); (case side4 => exact HC0_2.out); rintro e w67 ⟨rfl, hb⟩; refine ⟨_, rfl, ?_⟩; replace BK194 := zm (blk_below (g := gb194) zK hb); replace HB := zm (below_step zG hb); (try clear hb)) | ((with_reducible refine gate_callee (f := 10) rfl ?_); refine goesL_ (some 19) rfl rfl Try.func10 (by kernel_rfl) rfl #[.slice A1 l1.length c1] rfl zP ?_; (with_reducible refine (l4_few.calls (fun k_ => k_ < w.heap.size) _ _ l1 t197 _ ?side1 A10.out).mono ?_); (case side1 => exact Kd.V_mk HC1.out (Kd.F_below (Kd.C_F k41_heap HR1.out) zG)); rintro e w68 ⟨v198, rfl, ho0, hb⟩; refine ⟨_, rfl, ?_⟩; have HO199 := zm (Kd.V_lower (Kd.V_mono (ok' := fun k_ => k_ ≠ gb194) ho0 (fun k_ hk_ => Or.elim hk_ (fun hs_ => fun e_ => Nat.not_le.2 hs_ (by rw [e_]; exact GW194.out)) (fun hn_ => (Kd.freshB (g := gb194) (o := .cells #[.int .i64 a0_0, .slice A0_1 l0_1.length c0_1, .slice A0_2 l0_2.length c0_2] 25 (0, 0)) zK k_ hn_)))) (below_size zG)); replace BK194 := zm (blk_below (g := gb194) zK hb); replace HB := zm (below_step zG hb); (try clear hb); (try clear ho0); obtain ⟨hcz69_0, hcz69_1, hcz69_2, hfz69_0, hfz69_1, hfz69_2⟩ := zd3 BK194.out (.int .i64 a0_0) (.slice A0_1 l0_1.length c0_1) (.slice A0_2 l0_2.length c0_2); obtain ⟨Ao70, co70, eo70⟩ := Kd.V_slice HO199.out; subst eo70) | ((with_reducible refine gate_callee (f := 11) rfl ?_); refine goesL_ (some 23) rfl rfl Try.func11 (by kernel_rfl) rfl #[.agg #[.int .i64 a0_0, .slice A0_1 l0_1.length c0_1, .slice A0_2 l0_2.length c0_2], .slice Ao70 t197.length co70] rfl zP ?_; (with_reducible refine (e_Round.calls k a0_0 _ _ l0_1 _ _ l0_2 _ _ t197 t200 t203 _ ?side1 ?side2 ?side3 ?side4 ?side5 ?side6 A11.out).mono ?_); (case side1 => exact zC (Kd.C_below HR0_1.out HB.out)); (case side2 => exact HC0_1.out); (case side3 => exact zC (Kd.C_below HR0_2.out HB.out)); (case side4 => exact HC0_2.out); (case side5 => exact zC ((Kd.V_reads' HO199.out).2.2)); (case side6 => exact (Kd.V_reads' HO199.out).2.1); rintro e w71 ⟨v201, rfl, ho0, hb⟩; refine ⟨_, rfl, ?_⟩; have HO202 := zm (Kd.V_lower (Kd.V_mono (ok' := fun k_ => k_ ≠ gb194) ho0 (fun k_ hk_ => (Kd.freshB (g := gb194) (o := .cells #[.int .i64 a0_0, .slice A0_1 l0_1.length c0_1, .slice A0_2 l0_2.length c0_2] 25 (0, 0)) zK k_ hk_))) (below_size zG)); replace HO199 := zm (Kd.V_below (by (with_reducible repeat (first | apply Kd.V_alloc | apply Kd.V_drewN | apply Kd.V_drew)); exact HO199.out) hb); replace BK194 := zm (blk_below (g := gb194) zK hb); replace HB := zm (below_step zG hb); (try clear hb); (try clear ho0); obtain ⟨hcz72_0, hcz72_1, hcz72_2, hfz72_0, hfz72_1, hfz72_2⟩ := zd3 BK194.out (.int .i64 a0_0) (.slice A0_1 l0_1.length c0_1) (.slice A0_2 l0_2.length c0_2)) | ((with_reducible refine gate_callee (f := 12) rfl ?_); refine goesL_ (some 29) rfl rfl Try.func12 (by kernel_rfl) rfl #[.agg #[.int .i64 a0_0, .slice A0_1 l0_1.length c0_1, .slice A0_2 l0_2.length c0_2], .slice Ao70 t197.length co70] rfl zP ?_; (with_reducible refine (e_Closed.calls k a0_0 _ _ l0_1 _ _ l0_2 _ _ t197 t204 t205 _ ?side1 ?side2 ?side3 ?side4 ?side5 ?side6 A12.out).mono ?_); (case side1 => exact zC (Kd.C_below HR0_1.out HB.out)); (case side2 => exact HC0_1.out); (case side3 => exact zC (Kd.C_below HR0_2.out HB.out)); (case side4 => exact HC0_2.out); (case side5 => exact zC ((Kd.V_reads' HO199.out).2.2)); (case side6 => exact (Kd.V_reads' HO199.out).2.1); rintro e w73 ⟨rfl, hb⟩; refine ⟨_, rfl, ?_⟩; replace HO199 := zm (Kd.V_below (by (with_reducible repeat (first | apply Kd.V_alloc | apply Kd.V_drewN | apply Kd.V_drew)); exact HO199.out) hb); replace HO202 := zm (Kd.V_below (by (with_reducible repeat (first | apply Kd.V_alloc | apply Kd.V_drewN | apply Kd.V_drew)); exact HO202.out) hb); replace BK194 := zm (blk_below (g := gb194) zK hb); replace HB := zm (below_step zG hb); (try clear hb); obtain ⟨hcz74_0, hcz74_1, hcz74_2, hfz74_0, hfz74_1, hfz74_2⟩ := zd3 BK194.out (.int .i64 a0_0) (.slice A0_1 l0_1.length c0_1) (.slice A0_2 l0_2.length c0_2)) | ((with_reducible refine gate_callee (f := 13) rfl ?_); refine goesL_ (some 33) rfl rfl Try.func13 (by kernel_rfl) rfl #[.agg #[.int .i64 a0_0, .slice A0_1 l0_1.length c0_1, .slice A0_2 l0_2.length c0_2]] rfl zP ?_; (with_reducible refine (q3_Right.calls k a0_0 _ _ l0_1 _ _ l0_2 false _ ?side1 ?side2 ?side3 ?side4 A13.out).mono ?_); (case side1 => exact zC (Kd.C_below HR0_1.out HB.out)); (case side2 => exact HC0_1.out); (case side3 => exact zC (Kd.C_below HR0_2.out HB.out)); (case side4 => exact HC0_2.out); rintro e w75 ⟨rfl, hb⟩; refine ⟨_, rfl, ?_⟩; replace HO199 := zm (Kd.V_below (by (with_reducible repeat (first | apply Kd.V_alloc | apply Kd.V_drewN | apply Kd.V_drew)); exact HO199.out) hb); replace HO202 := zm (Kd.V_below (by (with_reducible repeat (first | apply Kd.V_alloc | apply Kd.V_drewN | apply Kd.V_drew)); exact HO202.out) hb); replace BK194 := zm (blk_below (g := gb194) zK hb); replace HB := zm (below_step zG hb); (try clear hb); obtain ⟨hcz76_0, hcz76_1, hcz76_2, hfz76_0, hfz76_1, hfz76_2⟩ := zd3 BK194.out (.int .i64 a0_0) (.slice A0_1 l0_1.length c0_1) (.slice A0_2 l0_2.length c0_2)) | ((with_reducible refine gate_callee (f := 14) rfl ?_); refine goesL_ (some 36) rfl rfl Try.func14 (by kernel_rfl) rfl #[.agg #[.int .i64 a0_0, .slice A0_1 l0_1.length c0_1, .slice A0_2 l0_2.length c0_2], .slice Ao70 t197.length co70] rfl zP ?_; (with_reducible refine (q4_Right.calls k a0_0 _ _ l0_1 _ _ l0_2 _ _ t197 t207 _ ?side1 ?side2 ?side3 ?side4 ?side5 ?side6 A14.out).mono ?_); (case side1 => exact zC (Kd.C_below HR0_1.out HB.out)); (case side2 => exact HC0_1.out); (case side3 => exact zC (Kd.C_below HR0_2.out HB.out)); (case side4 => exact HC0_2.out); (case side5 => exact zC ((Kd.V_reads' HO199.out).2.2)); (case side6 => exact (Kd.V_reads' HO199.out).2.1); rintro e w77 ⟨rfl, hb⟩; refine ⟨_, rfl, ?_⟩; replace HO199 := zm (Kd.V_below (by (with_reducible repeat (first | apply Kd.V_alloc | apply Kd.V_drewN | apply Kd.V_drew)); exact HO199.out) hb); replace HO202 := zm (Kd.V_below (by (with_reducible repeat (first | apply Kd.V_alloc | apply Kd.V_drewN | apply Kd.V_drew)); exact HO202.out) hb); replace BK194 := zm (blk_below (g := gb194) zK hb); replace HB := zm (below_step zG hb); (try clear hb); obtain ⟨Ao78, co78, eo78⟩ := Kd.V_slice HO202.out; subst eo78))
       go_ret
       exact ⟨zE, zG⟩
      ·rw [if_neg c63] at H
       exact absurd H (by simp)
     ·rw [if_neg c62] at H
      exact absurd H (by simp)
    ·rw [if_neg c61] at H
     exact absurd H (by simp)
   ·replace c60 := Bool.eq_false_iff.mpr c60
    subst c60
    rw [if_neg (show ¬ (false = true) by decide)] at H
    exact absurd H (by simp)
end Go.Proofs.Ytngppcmdaanheaa.Pr
namespace Go.Proofs.Ytngppcmdaanheaa.Lv
open Go.RowKit Go.Proofs.Ytngppcmdaanheaa.ISet Go.Proofs.Ytngppcmdaanheaa.Pr Go.Proofs.Ytngppcmdaanheaa.Ls Go.Proofs.Ytngppcmdaanheaa.Ev Go.Proofs.YtngppcmdaanheaaW.PrintWords Go.Proofs.YtngppcmdaanheaaW.PrintMore
set_option linter.unusedVariables false
set_option linter.unusedSimpArgs false
abbrev FunT := S44
abbrev RuT := S46
def Mk (x : Int) : Prop := 0 ≤ x ∧ x ≤ 1000001
def InR (f : Fa) : Prop := 3 ≤ f.f0 ∧ f.f0 ≤ 9 ∧ Mk f.f1 ∧ Mk f.f3 ∧ f.f2.size ≤ maxLen
theorem InR.wf {f : Fa} (h : InR f) : wfF f := by
 obtain ⟨h0, h1, ⟨h2, h3⟩, ⟨h4, h5⟩, h6⟩ := h
 have hw : ∀ x : Int, 0 ≤ x → x ≤ 1000001 → (Lit.int .i64 x).wf = true := fun x a b => by
  have h1 : IntKind.i64.min = -9223372036854775808 := by decide
  have h2 : IntKind.i64.max = 9223372036854775807 := by decide
  simp only [Lit.wf, Bool.and_eq_true, decide_eq_true_iff, h1, h2]
  omega
 exact ⟨hw _ (by omega) (by omega), hw _ h2 h3, h6, hw _ h4 h5⟩
def All (L : List Fa) : Prop := ∀ f ∈ L, InR f
theorem All.nil : All [] := fun f h => by cases h
theorem All.app {L M : List Fa} (h : All L) (k : All M) : All (L ++ M) := fun f hf => (List.mem_append.1 hf).elim (h f) (k f)
theorem All.rg {n : Nat} {F : Nat → List Fa} (h : ∀ i, i < n → All (F i)) : All (rg n F) := fun f hf => by
 obtain ⟨i, hi, hm⟩ := mem_rg.1 hf
 exact h i hi f hm
theorem noS_le : noS.size ≤ maxLen := by decide
theorem protoS_le : protoS.size ≤ maxLen := by decide
theorem All.ask {kind a : Int} {s : ByteArray} {xs : List Int} (hk : 3 ≤ kind ∧ kind ≤ 9) (ha : Mk a) (hs : s.size ≤ maxLen) (hx : ∀ x ∈ xs, Mk x) : All (askL kind a s xs) := fun f hf => by
 obtain ⟨x, h, rfl⟩ := List.mem_map.1 hf
 exact ⟨hk.1, hk.2, ha, hx x h, hs⟩
theorem one_mk {x y : Int} (h : Mk x) : y ∈ [x] → Mk y := fun k => by rw [List.mem_singleton.1 k]; exact h
theorem rg_len {n : Nat} {F : Nat → List Fa} {B : Nat} (h : ∀ i, i < n → (F i).length ≤ B) : (rg n F).length ≤ n * B := by
 induction n with
 | zero => simp [rg_zero]
 | succ n ih =>
  rw [rg_succ, List.length_append, Nat.succ_mul]
  have h1 := ih (fun i hi => h i (by omega))
  have h2 := h n (by omega)
  omega
theorem askL_len (kind a : Int) (s : ByteArray) (xs : List Int) : (askL kind a s xs).length = xs.length := by simp [askL]
/-! ### systems and facts that may be -/
def InS (s0 x : Int) : Prop := 0 ≤ x ∧ x < s0
theorem setsB_iff {s0 : Int} {l : List Int} : setsB s0 l = true ↔ ∀ x ∈ l, InS s0 x := by
 unfold setsB
 rw [Bool.not_eq_true', List.any_eq_false]
 refine ⟨fun h x hx => ?_, fun h x hx => ?_⟩
 ·have h1 := h x hx
  simp only [isNo, Bool.or_eq_true, decide_eq_true_iff, not_or] at h1
  exact ⟨by omega, by omega⟩
 ·have h1 := h x hx
  simp only [isNo, Bool.or_eq_true, decide_eq_true_iff, not_or]
  exact ⟨by have := h1.1; omega, by have := h1.2; omega⟩
structure SysOk (s0 : Int) (fs : List FunT) (rs : List RuT) : Prop where
 s : 9 ≤ s0 ∧ s0 ≤ 100000
 fn : 1 ≤ fs.length ∧ fs.length ≤ 15
 rn : rs.length ≤ 40
 f : ∀ f ∈ fs, f.f1.length ≤ 200 ∧ (∀ p ∈ f.f1, InS s0 p) ∧ InS s0 f.f2 ∧ InS s0 f.f3 ∧ InS s0 f.f4
 fm : ∀ i : Nat, 0 < i → i < fs.length → 4 ≤ (rd_T44 fs (i : Int)).f0 ∧ (rd_T44 fs (i : Int)).f0 < 1000000
 r : ∀ x ∈ rs, fitsB s0 fs.length x = true ∧ x.f8.length ≤ 205 ∧ x.f7.size ≤ maxLen
structure FactOk (s0 : Int) (nf : Nat) (f : Fa) : Prop where
 a : Mk f.f1
 b : Mk f.f3
 k : f.f0 = 3 ∨ f.f0 = 4 ∨ f.f0 = 5 ∨ f.f0 = 6 ∧ f.f1 < nf ∧ f.f3 = 0 ∨ f.f0 = 8 ∨ f.f0 = 9 ∧ f.f1 < s0
 s : f.f0 ≠ 3 → f.f2 = (⟨#[]⟩ : ByteArray)
structure FactsOk (s0 : Int) (nf : Nat) (l : List Fa) : Prop where
 ok : ∀ f ∈ l, FactOk s0 nf f
 srt : l.Pairwise LF
 len : l.length ≤ 100
 sz : ∀ f ∈ l, f.f2.size ≤ maxLen
theorem FactOk.inR {s0 : Int} {nf : Nat} {f : Fa} (h : FactOk s0 nf f) (hs : f.f2.size ≤ maxLen) : InR f := ⟨by rcases h.k with e | e | e | ⟨e, _⟩ | e | ⟨e, _⟩ <;> omega, by rcases h.k with e | e | e | ⟨e, _⟩ | e | ⟨e, _⟩ <;> omega, h.a, h.b, hs⟩
theorem InS.mk {s0 x : Int} (h : InS s0 x) (hs : s0 ≤ 100000) : Mk x := ⟨h.1, by have := h.2; omega⟩
section
variable {s0 : Int} {fs : List FunT} {rs : List RuT} {l : List Fa}
theorem bs_mk (hl : FactsOk s0 fs.length l) {kind a x : Int} (hx : x ∈ bsL l kind a) : Mk x := by
 unfold bsL toldR at hx
 obtain ⟨f, hf, rfl⟩ := List.mem_map.1 hx
 exact (hl.ok f (List.mem_filter.1 hf).1).b
theorem loads_mk (hl : FactsOk s0 fs.length l) {p : ByteArray → Bool} {m x : Int} (hx : x ∈ loadsL l p m) : Mk x := by
 unfold loadsL at hx
 obtain ⟨f, hf, rfl⟩ := List.mem_map.1 hx
 exact (hl.ok f (List.mem_filter.1 hf).1).b
theorem rdF_mem {i : Nat} (h : i < fs.length) : rd_T44 fs (i : Int) ∈ fs := by
 unfold rd_T44
 rw [Int.toNat_natCast, List.getD_eq_getElem?_getD, List.getElem?_eq_getElem h]
 exact List.getElem_mem h
theorem rdR_mem {i : Nat} (h : i < rs.length) : rd_T46 rs (i : Int) ∈ rs := by
 unfold rd_T46
 rw [Int.toNat_natCast, List.getD_eq_getElem?_getD, List.getElem?_eq_getElem h]
 exact List.getElem_mem h
theorem rdA_mem {i : Nat} (h : i < l.length) : rd_T41 l (i : Int) ∈ l := by
 unfold rd_T41
 rw [Int.toNat_natCast, List.getD_eq_getElem?_getD, List.getElem?_eq_getElem h]
 exact List.getElem_mem h
structure ClOk (s0 : Int) (N : Nat) (x : Cl) : Prop where
 mark : Mk x.mark
 this : ∀ y ∈ x.this, Mk y
 ret : Mk x.ret
 out : Mk x.out
 tl : x.this.length ≤ N
 al : x.args.length ≤ 205
theorem call_all (hs : SysOk s0 fs rs) (hl : FactsOk s0 fs.length l) {N : Nat} {x : Cl} (hx : ClOk s0 N x) {c : Int} (hc : Mk c) : All (callL (roC s0 fs rs l) x c) := by
 have hb : ∀ a, ∀ y ∈ bsL l 9 a, Mk y := fun a y hy => bs_mk hl hy
 have hspare : ∀ t, Mk t → Mk (t + 1) → Mk (t + 2) → Mk (t + 3) → All (spareAsk l x c t) := fun t h0 h1 h2 h3 => by
  unfold spareAsk
  refine All.app (All.ask (by omega) hx.mark noS_le (fun y => one_mk hc)) (All.app (All.ask (by omega) h0 noS_le hx.this) (All.app (All.rg (fun i _ => All.app (All.ask (by omega) h1 noS_le (hb _)) All.nil)) (All.app ?_ (All.app (All.ask (by omega) hx.ret noS_le (hb _)) (All.app (All.ask (by omega) hx.out noS_le (hb _)) All.nil)))))
  split
  ·exact All.ask (by omega) h1 noS_le (hb _)
  ·exact All.nil
 unfold callL
 refine All.app (All.rg (fun g hg => ?_)) ?_
 ·unfold funAsk
  split
  ·exact All.nil
  ·obtain ⟨_, hp, h2, h3, h4⟩ := hs.f _ (rdF_mem hg)
   have hs1 := hs.s.2
   refine All.app (All.ask (by omega) hx.mark noS_le (fun y => one_mk hc)) (All.app (All.ask (by omega) ⟨by omega, by have := hs.fn.2; have hg' : g < fs.length := hg; omega⟩ noS_le (fun y => one_mk ⟨by omega, by omega⟩)) (All.app (All.ask (by omega) (h2.mk hs1) noS_le hx.this) (All.app (All.rg (fun i hi => ?_)) (All.app (All.ask (by omega) hx.ret noS_le (hb _)) (All.app (All.ask (by omega) hx.out noS_le (hb _)) All.nil)))))
   have hpi : Mk (rd (rd_T44 fs (g : Int)).f1 (i : Int)) := (hp _ (rd_mem _ i hi)).mk hs1
   unfold parAsk
   split
   ·exact All.app (All.ask (by omega) hpi noS_le (hb _)) All.nil
   ·split
    ·exact All.app (All.ask (by omega) hpi noS_le (hb _)) All.nil
    ·exact All.nil
 ·have h1 := hs.s
  unfold tailAsk
  split
  ·exact hspare _ ⟨by simp only [roC]; omega, by simp only [roC]; omega⟩ ⟨by simp only [roC]; omega, by simp only [roC]; omega⟩ ⟨by simp only [roC]; omega, by simp only [roC]; omega⟩ ⟨by simp only [roC]; omega, by simp only [roC]; omega⟩
  ·split
   ·exact hspare _ ⟨by simp only [roC]; omega, by simp only [roC]; omega⟩ ⟨by simp only [roC]; omega, by simp only [roC]; omega⟩ ⟨by simp only [roC]; omega, by simp only [roC]; omega⟩ ⟨by simp only [roC]; omega, by simp only [roC]; omega⟩
   ·exact All.nil
theorem call_len (hs : SysOk s0 fs rs) (hl : FactsOk s0 fs.length l) {x : Cl} (hx : ClOk s0 100 x) (c : Int) : (callL (roC s0 fs rs l) x c).length ≤ 400000 := by
 have hb : ∀ a, (bsL l 9 a).length ≤ 100 := fun a => Nat.le_trans (bsL_le l 9 a) hl.len
 have h1 : (rg fs.length (funAsk l x c fs)).length ≤ fs.length * 20402 := rg_len (fun g hg => by
  unfold funAsk
  split
  ·simp
  ·have hp := (hs.f _ (rdF_mem hg)).1
   have h2 : (rg (rd_T44 fs (g : Int)).f1.length (parAsk l x (rd_T44 fs (g : Int)).f1)).length ≤ (rd_T44 fs (g : Int)).f1.length * 100 := rg_len (fun i hi => by
    unfold parAsk
    split
    ·rw [List.append_nil, askL_len]; exact hb _
    ·split
     ·rw [List.append_nil, askL_len]; exact hb _
     ·simp)
   have h3 := hb (rd_T44 fs (g : Int)).f3
   have h4 := hb (rd_T44 fs (g : Int)).f4
   have h5 := hx.tl
   simp only [List.length_append, askL_len, List.length_nil, List.length_singleton]
   omega)
 have h2 : ∀ t, (spareAsk l x c t).length ≤ 21000 := fun t => by
  unfold spareAsk
  have h3 : (rg x.args.length (argAsk l x t)).length ≤ x.args.length * 100 := rg_len (fun i hi => by
   unfold argAsk
   rw [List.append_nil, askL_len]; exact hb _)
  have h4 := hx.al
  have h5 := hx.tl
  have h6 := hb (t + 2)
  have h7 := hb (t + 3)
  have h8 : (if 0 ≤ x.each then askL 9 (t + 1) noS (bsL l 9 x.each) else []).length ≤ 100 := by
   split
   ·rw [askL_len]; exact hb _
   ·simp
  simp only [List.length_append, askL_len, List.length_nil, List.length_singleton]
  omega
 have h3 : (tailAsk s0 l x c).length ≤ 21000 := by
  unfold tailAsk
  split
  ·exact h2 _
  ·split
   ·exact h2 _
   ·simp
 have h4 := hs.fn.2
 show (rg fs.length (funAsk l x c fs) ++ tailAsk s0 l x c).length ≤ _
 rw [List.length_append]
 omega
end
end Go.Proofs.Ytngppcmdaanheaa.Lv
namespace Go.Proofs.Ytngppcmdaanheaa.Lv
open Go.RowKit Go.Proofs.Ytngppcmdaanheaa.ISet Go.Proofs.Ytngppcmdaanheaa.Pr Go.Proofs.Ytngppcmdaanheaa.Ls Go.Proofs.Ytngppcmdaanheaa.Ev Go.Proofs.YtngppcmdaanheaaW.PrintWords Go.Proofs.YtngppcmdaanheaaW.PrintMore
set_option linter.unusedVariables false
set_option linter.unusedSimpArgs false
section
variable {s0 : Int} {fs : List FunT} {rs : List RuT} {l : List Fa}
theorem isM_mk {m : Int} (h : isM m = true) : Mk m := by
 unfold isM at h
 split at h
 ·have := of_decide_eq_true h
  exact ⟨by omega, by omega⟩
 ·cases h
structure RuOk (s0 : Int) (nf : Nat) (x : RuT) : Prop where
 x2 : InS s0 x.f2
 k : kindB s0 nf x = true
theorem fitsB_ok {nf : Nat} {x : RuT} (h : fitsB s0 nf x = true) : RuOk s0 nf x := by
 unfold fitsB at h
 split at h
 ·cases h
 ·split at h
  ·cases h
  ·split at h
   ·rename_i hs
    exact ⟨setsB_iff.1 hs x.f2 (List.mem_singleton.2 rfl), h⟩
   ·cases h
theorem callB_ok {x : RuT} (h : callB s0 x = true) : Mk x.f6 ∧ InS s0 x.f3 ∧ InS s0 x.f5 := by
 unfold callB at h
 simp only [Bool.and_eq_true] at h
 obtain ⟨h1, h2, _⟩ := h
 exact ⟨isM_mk h1, setsB_iff.1 h2 _ (by simp), setsB_iff.1 h2 _ (by simp)⟩
theorem each_cases {nf : Nat} {x : RuT} (h : RuOk s0 nf x) : (x.f0 = 4 ∨ x.f0 = 5 ∨ x.f0 = 6 ∨ x.f0 = 7 ∨ x.f0 = 3 → InS s0 x.f3) ∧ (x.f0 = 8 ∨ x.f0 = 9 → Mk x.f6 ∧ InS s0 x.f3 ∧ InS s0 x.f5) := by
 have hk := h.k
 unfold kindB at hk
 constructor
 ·intro hx
  rw [if_neg (by omega), if_neg (by omega), if_neg (by omega), if_neg (by omega), if_pos (by omega)] at hk
  exact setsB_iff.1 hk _ (List.mem_singleton.2 rfl)
 ·rintro (hx | hx)
  ·rw [if_neg (by omega), if_neg (by omega), if_pos hx] at hk
   split at hk
   ·exact callB_ok hk
   ·split at hk
    ·exact callB_ok hk
    ·cases hk
  ·rw [if_neg (by omega), if_neg (by omega), if_neg (by omega), if_pos hx] at hk
   exact callB_ok hk
theorem clOk_rule (hs : SysOk s0 fs rs) (hl : FactsOk s0 fs.length l) {x : RuT} (h8 : x.f8.length ≤ 205) (h : Mk x.f6 ∧ InS s0 x.f3 ∧ InS s0 x.f5) {th : List Int} (ht : ∀ y ∈ th, Mk y) (htl : th.length ≤ 100) :
  ClOk s0 100 ⟨x.f6, th, x.f8, -1, x.f3, x.f5⟩ := ⟨h.1, ht, h.2.1.mk hs.s.2, h.2.2.mk hs.s.2, htl, h8⟩
theorem bsl100 (hl : FactsOk s0 fs.length l) (kind a : Int) : (bsL l kind a).length ≤ 100 := Nat.le_trans (bsL_le l kind a) hl.len
theorem each_all (hs : SysOk s0 fs rs) (hl : FactsOk s0 fs.length l) {x : RuT} (hx : x ∈ rs) {c : Int} (hc : Mk c) : All (eachL (roC s0 fs rs l) x c) := by
 obtain ⟨hf, h8, h7⟩ := hs.r x hx
 obtain ⟨e1, e2⟩ := each_cases (fitsB_ok hf)
 have hb : ∀ a, ∀ y ∈ bsL l 9 a, Mk y := fun a y hy => bs_mk hl hy
 have hs1 := hs.s.2
 unfold eachL
 by_cases h4 : x.f0 = 4
 ·rw [if_pos h4]
  exact All.ask (by omega) ((e1 (by omega)).mk hs1) noS_le (fun y hy => loads_mk hl hy)
 rw [if_neg h4]
 by_cases h5 : x.f0 = 5
 ·rw [if_pos h5]
  exact All.ask (by omega) ((e1 (by omega)).mk hs1) noS_le (fun y hy => loads_mk hl hy)
 rw [if_neg h5]
 by_cases h6 : x.f0 = 6
 ·rw [if_pos h6]
  exact All.ask (by omega) hc h7 (hb _)
 rw [if_neg h6]
 by_cases h7' : x.f0 = 7
 ·rw [if_pos h7']
  exact All.ask (by omega) hc noS_le (hb _)
 rw [if_neg h7']
 by_cases h8' : x.f0 = 8
 ·rw [if_pos h8']
  refine call_all hs hl (clOk_rule hs hl h8 (e2 (.inl h8')) ?_ ?_) hc
  ·split
   ·exact hb _
   ·intro y hy; cases hy
  ·split
   ·exact bsl100 hl _ _
   ·simp
 rw [if_neg h8']
 by_cases h9 : x.f0 = 9
 ·rw [if_pos h9]
  obtain ⟨m1, m2, m3⟩ := e2 (.inr h9)
  split
  ·exact All.app (All.ask (by omega) (m2.mk hs1) noS_le (fun y => one_mk m1)) (All.app (All.ask (by omega) m1 noS_le (fun y => one_mk ⟨by omega, by omega⟩)) (All.app (All.ask (by omega) m1 noS_le (fun y hy => loads_mk hl hy)) (call_all hs hl (clOk_rule hs hl h8 ⟨m1, m2, m3⟩ (fun y => one_mk m1) (by simp)) hc)))
  ·exact All.nil
 rw [if_neg h9]
 exact All.nil
theorem loads100 (hl : FactsOk s0 fs.length l) (p : ByteArray → Bool) (m : Int) : (loadsL l p m).length ≤ 100 := Nat.le_trans (loadsL_le l p m) hl.len
theorem each_len (hs : SysOk s0 fs rs) (hl : FactsOk s0 fs.length l) {x : RuT} (hx : x ∈ rs) (c : Int) : (eachL (roC s0 fs rs l) x c).length ≤ 500000 := by
 obtain ⟨hf, h8, h7⟩ := hs.r x hx
 obtain ⟨e1, e2⟩ := each_cases (fitsB_ok hf)
 have hs1 := hs.s.2
 unfold eachL
 by_cases h4 : x.f0 = 4
 ·rw [if_pos h4, askL_len]
  have := loads100 hl (fun k => decide (k = x.f7)) c
  simp only [roC]; omega
 rw [if_neg h4]
 by_cases h5 : x.f0 = 5
 ·rw [if_pos h5, askL_len]
  have := loads100 hl (fun _ => true) c
  simp only [roC]; omega
 rw [if_neg h5]
 by_cases h6 : x.f0 = 6
 ·rw [if_pos h6, askL_len]
  have := bsl100 hl 9 x.f3
  simp only [roC]; omega
 rw [if_neg h6]
 by_cases h7' : x.f0 = 7
 ·rw [if_pos h7', askL_len]
  have := bsl100 hl 9 x.f3
  simp only [roC]; omega
 rw [if_neg h7']
 by_cases h8' : x.f0 = 8
 ·rw [if_pos h8']
  refine Nat.le_trans (call_len hs hl (clOk_rule hs hl h8 (e2 (.inl h8')) ?_ ?_) c) (by omega)
  ·split
   ·exact fun y hy => bs_mk hl hy
   ·intro y hy; cases hy
  ·split
   ·exact bsl100 hl _ _
   ·simp
 rw [if_neg h8']
 by_cases h9 : x.f0 = 9
 ·rw [if_pos h9]
  obtain ⟨m1, m2, m3⟩ := e2 (.inr h9)
  split
  ·have h1 := call_len hs hl (clOk_rule hs hl h8 ⟨m1, m2, m3⟩ (th := [x.f6]) (fun y => one_mk m1) (by simp)) c
   have h2 := loads100 hl (fun k => decide (k = protoS)) c
   simp only [List.length_append, askL_len, List.length_singleton]
   simp only [roC] at h1 h2 ⊢
   omega
  ·simp
 rw [if_neg h9]
 simp
theorem mark_ok (hs : SysOk s0 fs rs) {x : RuT} (hx : x ∈ rs) (h2 : x.f0 = 2) : 0 ≤ x.f5 ∧ x.f5 < fs.length ∧ 0 ≤ markOf (roC s0 fs rs l) x ∧ markOf (roC s0 fs rs l) x ≤ 1000000 := by
 have hk := (fitsB_ok (hs.r x hx).1).k
 unfold kindB at hk
 rw [if_neg (by omega), if_pos h2] at hk
 split at hk
 ·have h3 := of_decide_eq_true hk
  have h4 := hs.fm x.f5.toNat (by omega) (by omega)
  rw [show ((x.f5.toNat : Nat) : Int) = x.f5 by omega] at h4
  refine ⟨by omega, h3, ?_, ?_⟩ <;> unfold markOf <;> simp only [roC] <;> omega
 ·cases hk
theorem rule_all (hs : SysOk s0 fs rs) (hl : FactsOk s0 fs.length l) {x : RuT} (hx : x ∈ rs) : All (ruleL (roC s0 fs rs l) x) := by
 have hs1 := hs.s.2
 obtain ⟨hf, h8, h7⟩ := hs.r x hx
 have hro := fitsB_ok hf
 have hk := hro.k
 unfold ruleL
 refine All.app ?_ (All.rg (fun i hi => each_all hs hl hx (bs_mk hl (rd_mem _ i hi))))
 unfold headL
 by_cases h1 : x.f0 = 1
 ·rw [if_pos h1]
  unfold kindB at hk
  rw [if_pos h1] at hk
  have hm := isM_mk hk
  exact All.app (All.ask (by omega) (hro.x2.mk hs1) noS_le (fun y => one_mk hm)) (All.ask (by omega) hm noS_le (fun y => one_mk ⟨by omega, by omega⟩))
 rw [if_neg h1]
 by_cases h2 : x.f0 = 2
 ·rw [if_pos h2]
  obtain ⟨_, _, m0, m1⟩ := mark_ok (l := l) hs hx h2
  have hm : Mk (markOf (roC s0 fs rs l) x) := ⟨m0, by omega⟩
  have hm1 : Mk (markOf (roC s0 fs rs l) x + 1) := ⟨by omega, by omega⟩
  exact All.app (All.ask (by omega) (hro.x2.mk hs1) noS_le (fun y => one_mk hm)) (All.app (All.ask (by omega) hm protoS_le (fun y => one_mk hm1)) (All.app (All.ask (by omega) hm noS_le (fun y => one_mk ⟨by omega, by omega⟩)) (All.ask (by omega) hm1 noS_le (fun y => one_mk ⟨by omega, by omega⟩))))
 rw [if_neg h2]
 by_cases h3 : x.f0 = 3
 ·rw [if_pos h3]
  exact All.ask (by omega) (((each_cases hro).1 (by omega)).mk hs1) noS_le (fun y hy => bs_mk hl hy)
 rw [if_neg h3]
 exact All.nil
theorem rule_len (hs : SysOk s0 fs rs) (hl : FactsOk s0 fs.length l) {x : RuT} (hx : x ∈ rs) : (ruleL (roC s0 fs rs l) x).length ≤ 60000000 := by
 have h1 : (rg (bsL l 9 x.f2).length (fun i => eachL (roC s0 fs rs l) x (rd (bsL l 9 x.f2) (i : Int)))).length ≤ (bsL l 9 x.f2).length * 500000 := rg_len (fun i hi => each_len hs hl hx _)
 have h2 := bsl100 hl 9 x.f2
 have h3 : (headL (roC s0 fs rs l) x).length ≤ 200 := by
  unfold headL
  split
  ·simp [askL_len]
  ·split
   ·simp [askL_len]
   ·split
    ·rw [askL_len]; simp only [roC]; omega
    ·simp
 unfold ruleL
 rw [List.length_append]
 have h4 : (rg (bsL (roC s0 fs rs l).l 9 x.f2).length (fun i => eachL (roC s0 fs rs l) x (rd (bsL (roC s0 fs rs l).l 9 x.f2) (i : Int)))).length ≤ (bsL l 9 x.f2).length * 500000 := h1
 omega
theorem built_all (hs : SysOk s0 fs rs) (hl : FactsOk s0 fs.length l) {f : Fa} (hf : f ∈ l) : All (builtL (roC s0 fs rs l) f) := by
 have h0 := hl.ok f hf
 have hb : ∀ a, ∀ y ∈ bsL l 9 a, Mk y := fun a y hy => bs_mk hl hy
 have hs1 := hs.s
 have hap : ∀ t ea, Mk (t + 2) → Mk (t + 3) → All (apL (roC s0 fs rs l) t ea f.f1) := fun t ea h2 h3 => by
  unfold apL
  exact All.rg (fun i hi => call_all (N := 100) hs hl ⟨h0.a, hb _, h2, h3, bsl100 hl _ _, by simp⟩ (hb _ _ (rd_mem _ i hi)))
 unfold builtL
 split
 ·exact hap _ _ ⟨by simp only [roC]; omega, by simp only [roC]; omega⟩ ⟨by simp only [roC]; omega, by simp only [roC]; omega⟩
 ·split
  ·refine All.app ?_ (hap _ _ ⟨by simp only [roC]; omega, by simp only [roC]; omega⟩ ⟨by simp only [roC]; omega, by simp only [roC]; omega⟩)
   unfold spreadL
   exact All.rg (fun i hi => All.app (All.ask (by omega) ⟨by simp only [roC]; omega, by simp only [roC]; omega⟩ noS_le (fun y hy => loads_mk hl hy)) All.nil)
  ·exact All.nil
theorem built_len (hs : SysOk s0 fs rs) (hl : FactsOk s0 fs.length l) {f : Fa} (hf : f ∈ l) : (builtL (roC s0 fs rs l) f).length ≤ 60000000 := by
 have h0 := hl.ok f hf
 have hb : ∀ a, ∀ y ∈ bsL l 9 a, Mk y := fun a y hy => bs_mk hl hy
 have hs1 := hs.s
 have hap : ∀ t ea, Mk (t + 2) → Mk (t + 3) → (apL (roC s0 fs rs l) t ea f.f1).length ≤ 40000000 := fun t ea h2 h3 => by
  have h1 : (apL (roC s0 fs rs l) t ea f.f1).length ≤ (bsL l 9 t).length * 400000 := rg_len (fun i hi => call_len hs hl ⟨h0.a, hb _, h2, h3, bsl100 hl _ _, by simp⟩ _)
  have h2 := bsl100 hl 9 t
  omega
 unfold builtL
 split
 ·refine Nat.le_trans (hap _ _ ⟨by simp only [roC]; omega, by simp only [roC]; omega⟩ ⟨by simp only [roC]; omega, by simp only [roC]; omega⟩) (by omega)
 ·split
  ·have h1 := hap (s0 - 9 + 4) (s0 - 9 + 8) ⟨by omega, by omega⟩ ⟨by omega, by omega⟩
   have h2 : (spreadL (roC s0 fs rs l) (s0 - 9 + 4) (s0 - 9 + 8)).length ≤ (bsL l 9 (s0 - 9 + 4 + 1)).length * 100 := rg_len (fun i hi => by
    rw [List.append_nil, askL_len]
    exact loads100 hl _ _)
   have h3 := bsl100 hl 9 (s0 - 9 + 4 + 1)
   rw [List.length_append]
   simp only [roC] at h1 h2 ⊢
   omega
  ·simp
theorem round_all (hs : SysOk s0 fs rs) (hl : FactsOk s0 fs.length l) : All (roundL (roC s0 fs rs l)) := by
 have c1 : callS.size ≤ maxLen := by decide
 have c2 : applyS.size ≤ maxLen := by decide
 have hk : ∀ z : Int, 0 ≤ z → z ≤ 3 → Mk z := fun z h0 h1 => ⟨h0, by omega⟩
 unfold roundL
 refine All.app (All.rg (fun i hi => ?_)) (All.app (All.ask (by omega) (hk _ (by omega) (by omega)) noS_le (fun y => one_mk (hk _ (by omega) (by omega)))) (All.app (All.ask (by omega) (hk _ (by omega) (by omega)) c1 (fun y => one_mk (hk _ (by omega) (by omega)))) (All.app (All.ask (by omega) (hk _ (by omega) (by omega)) c2 (fun y => one_mk (hk _ (by omega) (by omega)))) (All.app (All.ask (by omega) (hk _ (by omega) (by omega)) noS_le (fun y => one_mk (hk _ (by omega) (by omega)))) (All.app (All.ask (by omega) (hk _ (by omega) (by omega)) noS_le (fun y => one_mk (hk _ (by omega) (by omega)))) (All.app (All.ask (by omega) (hk _ (by omega) (by omega)) noS_le (fun y => one_mk (hk _ (by omega) (by omega)))) (All.rg (fun i hi => ?_))))))))
 ·have hm : rd_T41 l (i : Int) ∈ l := rdA_mem hi
  unfold oldL
  refine All.app (fun f hf => ?_) (built_all hs hl hm)
  rw [List.mem_singleton.1 hf]
  exact (hl.ok _ hm).inR (hl.sz _ hm)
 ·unfold newL
  split
  ·exact rule_all hs hl (rdR_mem hi)
  ·exact All.nil
theorem round_len (hs : SysOk s0 fs rs) (hl : FactsOk s0 fs.length l) : (roundL (roC s0 fs rs l)).length ≤ 10000000000 := by
 have h1 : (rg l.length (oldL (roC s0 fs rs l))).length ≤ l.length * 60000001 := rg_len (fun i hi => by
  have h := built_len hs hl (rdA_mem hi)
  unfold oldL
  rw [List.length_append, List.length_singleton]
  simp only [roC] at h ⊢
  omega)
 have h2 : (rg rs.length (newL (roC s0 fs rs l))).length ≤ rs.length * 60000000 := rg_len (fun i hi => by
  unfold newL
  split
  ·exact rule_len hs hl (rdR_mem hi)
  ·simp)
 have h3 := hs.rn
 have h4 := hl.len
 unfold roundL
 simp only [List.length_append, askL_len, List.length_singleton]
 simp only [roC] at h1 h2 ⊢
 omega
theorem round_ok (hs : SysOk s0 fs rs) (hl : FactsOk s0 fs.length l) : RoundOk (roC s0 fs rs l) :=
 ⟨⟨fun f hf => (round_all hs hl f hf).wf, by have := round_len hs hl; omega⟩, hl.srt, Nat.le_trans hl.len (by decide), ⟨hs.fn.1, Nat.le_trans hs.fn.2 (by decide)⟩, ⟨by have := hs.s; simp only [roC]; omega, by have := hs.s; simp only [roC]; omega⟩, fun x hx h2 => mark_ok hs hx h2⟩
theorem round_tells (hs : SysOk s0 fs rs) (hl : FactsOk s0 fs.length l) : e_round.f s0 fs rs l = some (factSet (roundL (roC s0 fs rs l))) := by
 unfold e_round.f
 rw [if_pos (round_ok hs hl)]
end
end Go.Proofs.Ytngppcmdaanheaa.Lv
namespace Go.Proofs.Ytngppcmdaanheaa.Pr
open Go.RowKit Go.Proofs.Ytngppcmdaanheaa.Ls Go.Proofs.Ytngppcmdaanheaa.Va Go.Proofs.YtngppcmdaanheaaW.PrintWords Go.Proofs.YtngppcmdaanheaaW.PrintLast Go.Proofs.YtngppcmdaanheaaW.PrintMore
attribute [local go_sem] max2_int min2_int max_two min_two
set_option linter.unusedVariables false
set_option linter.unusedSimpArgs false
/-! ### e_Right: function 17 -/
def e_Right.f (k : Nat) (a0_0 : Int) (l0_1 : List (S44)) (l0_2 : List (S46)) (l1 : List (S41)) : Option (Bool) := (v_Right.f a0_0 l0_1 l0_2).bind fun t213 => (if t213 = true then ((e_areRight.f k a0_0 l0_1 l0_2 l1).bind fun t214 => (some t214)) else (some false))
end Go.Proofs.Ytngppcmdaanheaa.Pr
namespace Go.Proofs.Ytngppcmdaanheaa.Lv
open Go.RowKit Go.Proofs.Ytngppcmdaanheaa.ISet Go.Proofs.Ytngppcmdaanheaa.Pr Go.Proofs.Ytngppcmdaanheaa.Ls Go.Proofs.Ytngppcmdaanheaa.Ev Go.Proofs.YtngppcmdaanheaaW.PrintWords Go.Proofs.YtngppcmdaanheaaW.PrintMore
set_option linter.unusedVariables false
set_option linter.unusedSimpArgs false
def FitP (s0 : Int) (nf : Nat) (f : Fa) : Prop := (0 ≤ f.f1 ∧ f.f1 ≤ 1000001 ∧ 0 ≤ f.f3 ∧ f.f3 ≤ 1000001) ∧ (f.f0 = 3 ∨ f.f2.toList = []) ∧ (f.f0 = 3 ∨ f.f0 = 4 ∨ f.f0 = 5 ∨ f.f0 = 8 ∨ (f.f0 = 6 ∧ f.f1 < (nf : Int) ∧ f.f3 = 0) ∨ (f.f0 = 9 ∧ f.f1 < s0))
instance decFit (s0 : Int) (nf : Nat) (f : Fa) : Decidable (FitP s0 nf f) := by unfold FitP; infer_instance
theorem noS_list : (⟨#[]⟩ : ByteArray).toList = [] := by rw [ByteArray.toList_eq]
theorem fitP_ok {s0 : Int} {nf : Nat} {f : Fa} : FitP s0 nf f ↔ FactOk s0 nf f := by
 constructor
 ·rintro ⟨⟨a1, a2, a3, a4⟩, h2, h3⟩
  refine ⟨⟨a1, a2⟩, ⟨a3, a4⟩, ?_, fun hne => bytes_ext ((h2.resolve_left hne).trans noS_list.symm)⟩
  rcases h3 with e | e | e | e | e | e
  ·exact .inl e
  ·exact .inr (.inl e)
  ·exact .inr (.inr (.inl e))
  ·exact .inr (.inr (.inr (.inr (.inl e))))
  ·exact .inr (.inr (.inr (.inl e)))
  ·exact .inr (.inr (.inr (.inr (.inr e))))
 ·rintro ⟨⟨a1, a2⟩, ⟨a3, a4⟩, h3, h2⟩
  refine ⟨⟨a1, a2, a3, a4⟩, ?_, ?_⟩
  ·by_cases e : f.f0 = 3
   ·exact .inl e
   ·exact .inr (by rw [h2 e]; exact noS_list)
  ·rcases h3 with e | e | e | e | e | e
   ·exact .inl e
   ·exact .inr (.inl e)
   ·exact .inr (.inr (.inl e))
   ·exact .inr (.inr (.inr (.inr (.inl e))))
   ·exact .inr (.inr (.inr (.inl e)))
   ·exact .inr (.inr (.inr (.inr (.inr e))))
theorem fit_j (s0 : Int) (fs : List FunT) (rs : List RuT) (f : Fa) (hA : 0 ≤ f.f1 ∧ f.f1 ≤ 1000001 ∧ 0 ≤ f.f3 ∧ f.f3 ≤ 1000001) (hB : f.f0 = 3 ∨ f.f2.toList = []) (k : Nat) :
  e_fits.j0 (k + 2) false s0 fs rs f.f0 f.f1 f.f2 f.f3 = some (decide (FitP s0 fs.length f)) := by
 have hj : ∀ b, e_fits.j1 (k + 1) f.f0 b s0 fs rs f.f0 f.f1 f.f2 f.f3 = if b = true then some true else (if f.f0 = 6 then (if f.f1 < (fs.length : Int) then (some (f.f3 == 0)) else (some false)) else (if f.f0 = 9 then (some (decide (f.f1 < s0))) else (some false))) := fun b => by rw [e_fits.j1]
 rw [e_fits.j0, if_neg (by decide), hj, hj, hj, hj]
 by_cases h3 : f.f0 = 3
 ·rw [if_pos h3, if_pos (by simp [h3]), decide_eq_true (show FitP s0 fs.length f from ⟨hA, hB, .inl h3⟩)]
 rw [if_neg h3]
 by_cases h4 : f.f0 = 4
 ·rw [if_pos h4, if_pos (by simp [h4]), decide_eq_true (show FitP s0 fs.length f from ⟨hA, hB, .inr (.inl h4)⟩)]
 rw [if_neg h4]
 by_cases h5 : f.f0 = 5
 ·rw [if_pos h5, if_pos (by simp [h5]), decide_eq_true (show FitP s0 fs.length f from ⟨hA, hB, .inr (.inr (.inl h5))⟩)]
 rw [if_neg h5]
 by_cases h8 : f.f0 = 8
 ·rw [if_pos (by simp [h8]), decide_eq_true (show FitP s0 fs.length f from ⟨hA, hB, .inr (.inr (.inr (.inl h8)))⟩)]
 rw [if_neg (by simpa using h8)]
 by_cases h6 : f.f0 = 6
 ·rw [if_pos h6]
  by_cases h1 : f.f1 < (fs.length : Int)
  ·rw [if_pos h1]
   by_cases hz : f.f3 = 0
   ·rw [decide_eq_true (show FitP s0 fs.length f from ⟨hA, hB, .inr (.inr (.inr (.inr (.inl ⟨h6, h1, hz⟩))))⟩)]
    simp [hz]
   ·rw [decide_eq_false (show ¬ FitP s0 fs.length f from fun h => by rcases h.2.2 with e | e | e | e | e | e <;> omega)]
    simp [hz]
  ·rw [if_neg h1, decide_eq_false (show ¬ FitP s0 fs.length f from fun h => by rcases h.2.2 with e | e | e | e | e | e <;> omega)]
 rw [if_neg h6]
 by_cases h9 : f.f0 = 9
 ·rw [if_pos h9]
  congr 1
  refine decide_eq_decide.2 ⟨fun h => ⟨hA, hB, .inr (.inr (.inr (.inr (.inr ⟨h9, h⟩))))⟩, fun h => ?_⟩
  rcases h.2.2 with e | e | e | e | e | e <;> omega
 ·rw [if_neg h9, decide_eq_false (show ¬ FitP s0 fs.length f from fun h => by rcases h.2.2 with e | e | e | e | e | e <;> omega)]
theorem fit_no (s0 : Int) (fs : List FunT) (rs : List RuT) (f : Fa) (h : ¬ FitP s0 fs.length f) (k : Nat) : e_fits.j0 (k + 1) true s0 fs rs f.f0 f.f1 f.f2 f.f3 = some (decide (FitP s0 fs.length f)) := by
 rw [e_fits.j0, if_pos rfl, decide_eq_false h]
theorem fit_tells (s0 : Int) (fs : List FunT) (rs : List RuT) (f : Fa) (k : Nat) : e_fits.f (k + 2) s0 fs rs f.f0 f.f1 f.f2 f.f3 = some (decide (FitP s0 fs.length f)) := by
 unfold e_fits.f
 by_cases h1 : mn f.f1 f.f3 < 0
 ·rw [if_pos h1]
  exact fit_no s0 fs rs f (fun h => by have := h.1; unfold mn at h1; split at h1 <;> omega) _
 rw [if_neg h1]
 by_cases h2 : mx f.f1 f.f3 > 1000001
 ·rw [if_pos h2]
  exact fit_no s0 fs rs f (fun h => by have := h.1; unfold mx at h2; split at h2 <;> omega) _
 rw [if_neg h2]
 have hA : 0 ≤ f.f1 ∧ f.f1 ≤ 1000001 ∧ 0 ≤ f.f3 ∧ f.f3 ≤ 1000001 := by
  unfold mn at h1
  unfold mx at h2
  split at h1 <;> split at h2 <;> omega
 by_cases h3 : f.f0 = 3
 ·rw [if_pos h3]
  exact fit_j s0 fs rs f hA (.inl h3) k
 rw [if_neg h3]
 by_cases he : f.f2.toList = []
 ·rw [show (f.f2.toList != ([] : List UInt8)) = false by simp [he]]
  exact fit_j s0 fs rs f hA (.inr he) k
 ·rw [show (f.f2.toList != ([] : List UInt8)) = true by simp [he]]
  exact fit_no s0 fs rs f (fun h => h.2.1.elim h3 he) _
theorem Ev.up {α : Type} {g : Nat → Option α} (hm : ∀ k, LeO (g k) (g (k + 1))) {n : Nat} {r : α} (h : g n = some r) : Ev fun k => g k = some r := by
 refine ⟨n, fun k hk => ?_⟩
 obtain ⟨d, rfl⟩ : ∃ d, k = n + d := ⟨k - n, by omega⟩
 induction d with
 | zero => exact h
 | succ d ih => exact hm (n + d) r (ih (by omega))
theorem compare_f (a b : Int) : Pr.cmp_Compare_int.f a b = some (cm a b) := by
 unfold Pr.cmp_Compare_int.f Pr.cmp_isNaN_int.f cm
 simp only [bne_self_eq_false, Option.bind_some, Bool.false_eq_true, if_false]
 by_cases h1 : a < b
 ·rw [if_pos h1, if_pos h1]
 ·rw [if_neg h1, if_neg h1]
  by_cases h2 : a > b
  ·rw [if_pos h2, if_pos h2]
  ·rw [if_neg h2, if_neg h2]
theorem or_f (a b c d : Int) : Pr.cmp_Or_int.f 9 [a, b, c, d] = some (if a ≠ 0 then a else if b ≠ 0 then b else if c ≠ 0 then c else d) := by
 have e0 : Go.Proofs.YtngppcmdaanheaaW.PrintWords.rd [a, b, c, d] 0 = a := rfl
 have e1 : Go.Proofs.YtngppcmdaanheaaW.PrintWords.rd [a, b, c, d] 1 = b := rfl
 have e2 : Go.Proofs.YtngppcmdaanheaaW.PrintWords.rd [a, b, c, d] 2 = c := rfl
 have e3 : Go.Proofs.YtngppcmdaanheaaW.PrintWords.rd [a, b, c, d] 3 = d := rfl
 by_cases ha : a = 0 <;> by_cases hb : b = 0 <;> by_cases hc : c = 0 <;> by_cases hd : d = 0 <;> simp [Pr.cmp_Or_int.f, Pr.cmp_Or_int.l0, e0, e1, e2, e3, ha, hb, hc, hd, wrap64] <;> simp_all
theorem order_f (x y : Fa) : Ev fun k => Pr.e_order.f k x.f0 x.f1 x.f2 x.f3 y.f0 y.f1 y.f2 y.f3 = some (cmpF x y) := by
 refine Ev.up (n := 9) (fun k => Pr.e_order.mono _ _ _ _ _ _ _ _ k) ?_
 have hs : Va.cmp_Compare_string.f x.f2 y.f2 = some (cmS x.f2 y.f2) := rfl
 unfold Pr.e_order.f cmpF
 simp only [compare_f, Option.bind_some, or_f, hs]
instance zLF (x y : Fa) : Decidable (LF x y) := decLF x y
theorem cmpF_ge (x y : Fa) : decide (cmpF x y ≥ 0) = decide (¬ LF x y) := by
 refine decide_eq_decide.2 ?_
 have h := lf_iff x y
 unfold ltOf at h
 rw [decide_eq_true_iff] at h
 rw [← h]
 omega
def AreAt (s0 : Int) (nf : Nat) (l : List Fa) (j : Nat) : Prop := FitP s0 nf (rd_T41 l (j : Int)) ∧ (0 < j → LF (rd_T41 l ((j - 1 : Nat) : Int)) (rd_T41 l (j : Int)))
instance decAre (s0 : Int) (nf : Nat) (l : List Fa) (j : Nat) : Decidable (AreAt s0 nf l j) := by unfold AreAt; infer_instance
def areB (s0 : Int) (nf : Nat) (l : List Fa) : Bool := (List.range l.length).all (fun j => decide (AreAt s0 nf l j))
theorem range_drop (n i : Nat) (h : i < n) : (List.range n).drop i = i :: (List.range n).drop (i + 1) := by
 rw [List.drop_eq_getElem_cons (by simpa using h), List.getElem_range]
theorem are_loop (s0 : Int) (fs : List FunT) (rs : List RuT) (l : List Fa) (hm : l.length ≤ 1000000) (d : Nat) : ∀ i, i + d = l.length →
  Ev fun k => e_areRight.l0 k l l (l.length : Int) (i : Int) s0 fs rs = some (((List.range l.length).drop i).all (fun j => decide (AreAt s0 fs.length l j))) := by
 induction d with
 | zero =>
  intro i h
  refine Ev.step fun k => ?_
  rw [e_areRight.l0, if_neg (by omega), drop_len _ i (by simp; omega)]
  rfl
 | succ d ih =>
  intro i h
  have hi : i < l.length := by omega
  rw [range_drop l.length i hi, List.all_cons]
  have hih := ih (i + 1) (by omega)
  have hf : Ev fun k => e_fits.f k s0 fs rs (rd_T41 l (i : Int)).f0 (rd_T41 l (i : Int)).f1 (rd_T41 l (i : Int)).f2 (rd_T41 l (i : Int)).f3 = some (decide (FitP s0 fs.length (rd_T41 l (i : Int)))) := ⟨2, fun k hk => by
   obtain ⟨k, rfl⟩ : ∃ j, k = j + 2 := ⟨k - 2, by omega⟩
   exact fit_tells s0 fs rs _ k⟩
  have hyes : Ev fun k => e_areRight.j1 k l l (l.length : Int) (i : Int) true s0 fs rs = some false := Ev.step fun k => by rw [e_areRight.j1, if_pos rfl]
  have hno : Ev fun k => e_areRight.j1 k l l (l.length : Int) (i : Int) false s0 fs rs = some (((List.range l.length).drop (i + 1)).all (fun j => decide (AreAt s0 fs.length l j))) := hih.succ fun k hk => by
   rw [e_areRight.j1, if_neg (by decide), wrap_nat i (by omega)]
   exact hk
  by_cases hfit : FitP s0 fs.length (rd_T41 l (i : Int))
  ·rw [decide_eq_true hfit] at hf
   by_cases h0 : i = 0
   ·have ha : AreAt s0 fs.length l i := ⟨hfit, fun h => by omega⟩
    refine (hf.and hno).succ fun k hk => ?_
    rw [e_areRight.l0, if_pos (by omega), if_pos (by omega), if_pos (by omega), hk.1, Option.bind_some, if_pos rfl, if_neg (by omega), hk.2, decide_eq_true ha, Bool.true_and]
   ·have hw : wrap64 ((i : Int) - 1) = ((i - 1 : Nat) : Int) := by unfold wrap64; omega
    have ho := order_f (rd_T41 l ((i - 1 : Nat) : Int)) (rd_T41 l (i : Int))
    by_cases hlf : LF (rd_T41 l ((i - 1 : Nat) : Int)) (rd_T41 l (i : Int))
    ·have ha : AreAt s0 fs.length l i := ⟨hfit, fun _ => hlf⟩
     refine ((hf.and ho).and hno).succ fun k hk => ?_
     rw [e_areRight.l0, if_pos (by omega), if_pos (by omega), if_pos (by omega), hk.1.1, Option.bind_some, if_pos rfl, if_pos (by omega), hw, if_pos (by omega), if_pos (by omega), hk.1.2, Option.bind_some, cmpF_ge, decide_eq_false (by simpa using hlf), hk.2, decide_eq_true ha, Bool.true_and]
    ·have ha : ¬ AreAt s0 fs.length l i := fun h => hlf (h.2 (by omega))
     refine ((hf.and ho).and hyes).succ fun k hk => ?_
     rw [e_areRight.l0, if_pos (by omega), if_pos (by omega), if_pos (by omega), hk.1.1, Option.bind_some, if_pos rfl, if_pos (by omega), hw, if_pos (by omega), if_pos (by omega), hk.1.2, Option.bind_some, cmpF_ge, decide_eq_true hlf, hk.2, decide_eq_false ha, Bool.false_and]
  ·rw [decide_eq_false hfit] at hf
   have ha : ¬ AreAt s0 fs.length l i := fun h => hfit h.1
   refine (hf.and hyes).succ fun k hk => ?_
   rw [e_areRight.l0, if_pos (by omega), if_pos (by omega), if_pos (by omega), hk.1, Option.bind_some, if_neg (by decide), hk.2, decide_eq_false ha, Bool.false_and]
theorem are_tells (s0 : Int) (fs : List FunT) (rs : List RuT) (l : List Fa) (hm : l.length ≤ 1000000) : Ev fun k => e_areRight.f k s0 fs rs l = some (areB s0 fs.length l) :=
 (are_loop s0 fs rs l hm l.length 0 (by omega)).mono fun k hk => hk
theorem rdK_get {l : List Fa} {i : Nat} (h : i < l.length) : rd_T41 l (i : Int) = l[i] := by
 unfold rd_T41
 rw [Int.toNat_natCast, List.getD_eq_getElem?_getD, List.getElem?_eq_getElem h]
 rfl
theorem pw_of_next {l : List Fa} (h : ∀ j, 0 < j → ∀ hj : j < l.length, LF (l[j - 1]'(by omega)) l[j]) : l.Pairwise LF := by
 rw [List.pairwise_iff_getElem]
 intro i j hi hj hij
 induction j with
 | zero => omega
 | succ j ih =>
  have h1 := h (j + 1) (by omega) hj
  rcases Nat.lt_or_eq_of_le (Nat.le_of_lt_succ hij) with h2 | h2
  ·exact LF.trans (ih (by omega) h2) h1
  ·subst h2
   exact h1
theorem areB_ok {s0 : Int} {nf : Nat} {l : List Fa} : areB s0 nf l = true ↔ (∀ f ∈ l, FactOk s0 nf f) ∧ l.Pairwise LF := by
 unfold areB
 rw [List.all_eq_true]
 constructor
 ·intro h
  have h' : ∀ j, j < l.length → AreAt s0 nf l j := fun j hj => of_decide_eq_true (h j (List.mem_range.2 hj))
  refine ⟨fun f hf => ?_, pw_of_next (fun j h0 hj => ?_)⟩
  ·obtain ⟨i, hi, rfl⟩ := List.getElem_of_mem hf
   have h1 := (h' i hi).1
   rw [rdK_get hi] at h1
   exact fitP_ok.1 h1
  ·have h1 := (h' j hj).2 h0
   rw [rdK_get hj, rdK_get (by omega : j - 1 < l.length)] at h1
   exact h1
 ·rintro ⟨h1, h2⟩ j hj
  have hj' := List.mem_range.1 hj
  refine decide_eq_true ⟨?_, fun h0 => ?_⟩
  ·rw [rdK_get hj']
   exact fitP_ok.2 (h1 _ (List.getElem_mem _))
  ·rw [rdK_get hj', rdK_get (by omega : j - 1 < l.length)]
   exact List.pairwise_iff_getElem.1 h2 _ _ _ _ (by omega)
end Go.Proofs.Ytngppcmdaanheaa.Lv
namespace Go.Proofs.Ytngppcmdaanheaa.Lv
open Go.RowKit Go.Proofs.Ytngppcmdaanheaa.ISet Go.Proofs.Ytngppcmdaanheaa.Pr Go.Proofs.Ytngppcmdaanheaa.Ls Go.Proofs.Ytngppcmdaanheaa.Ev Go.Proofs.YtngppcmdaanheaaW.PrintWords Go.Proofs.YtngppcmdaanheaaW.PrintMore
set_option linter.unusedVariables false
set_option linter.unusedSimpArgs false
def SmallP (s0 : Int) (fs : List FunT) (rs : List RuT) : Prop := fs.length ≤ 15 ∧ rs.length ≤ 40 ∧ s0 ≤ 300 ∧ (∀ f ∈ fs, f.f1.length ≤ 205) ∧ ∀ x ∈ rs, x.f8.length ≤ 205 ∧ x.f7.size ≤ 100
theorem all_get {α : Type} {l : List α} {P : α → Prop} (h : ∀ j, ∀ hj : j < l.length, P l[j]) : ∀ x ∈ l, P x := fun x hx => by
 obtain ⟨i, hi, rfl⟩ := List.getElem_of_mem hx
 exact h i hi
theorem rdF_get {l : List FunT} {i : Nat} (h : i < l.length) : rd_T44 l (i : Int) = l[i] := by
 unfold rd_T44
 rw [Int.toNat_natCast, List.getD_eq_getElem?_getD, List.getElem?_eq_getElem h]
 rfl
theorem rdR_get {l : List RuT} {i : Nat} (h : i < l.length) : rd_T46 l (i : Int) = l[i] := by
 unfold rd_T46
 rw [Int.toNat_natCast, List.getD_eq_getElem?_getD, List.getElem?_eq_getElem h]
 rfl
section
variable (s0 : Int) (fs : List FunT) (rs : List RuT)
theorem small_rules (hr : rs.length ≤ 40) (d : Nat) : ∀ i, i + d = rs.length → (Ev fun k => l3_Small.l1 k (i : Int) s0 fs rs = some 0) ∨ ((∀ j, i ≤ j → ∀ hj : j < rs.length, rs[j].f8.length ≤ 205 ∧ rs[j].f7.size ≤ 100) ∧ Ev fun k => l3_Small.l1 k (i : Int) s0 fs rs = some 1) := by
 induction d with
 | zero =>
  intro i h
  refine .inr ⟨fun j h1 hj => by omega, Ev.step fun k => ?_⟩
  rw [l3_Small.l1, if_neg (by omega)]
 | succ d ih =>
  intro i h
  have hi : i < rs.length := by omega
  have hget := rdR_get hi
  have hstep : ∀ (b : Bool) (r : Int), (Ev fun k => l3_Small.j3 k (i : Int) b s0 fs rs = some r) → ((rd_T46 rs (i : Int)).f8.length : Int) > 205 ∧ b = true ∨ ¬ ((rd_T46 rs (i : Int)).f8.length : Int) > 205 ∧ b = decide (((rd_T46 rs (i : Int)).f7.size : Int) > 100) →
    Ev fun k => l3_Small.l1 k (i : Int) s0 fs rs = some r := fun b r hk hb => hk.succ fun k hk => by
   rw [l3_Small.l1, if_pos (by omega), if_pos (by omega)]
   rcases hb with ⟨h1, h2⟩ | ⟨h1, h2⟩
   ·rw [if_pos h1, ← h2]; exact hk
   ·rw [if_neg h1, ← h2]; exact hk
  have hT : Ev fun k => l3_Small.j3 k (i : Int) true s0 fs rs = some 0 := Ev.step fun k => by rw [l3_Small.j3, if_pos rfl]
  by_cases h1 : ((rd_T46 rs (i : Int)).f8.length : Int) > 205
  ·exact .inl (hstep true 0 hT (.inl ⟨h1, rfl⟩))
  by_cases h2 : ((rd_T46 rs (i : Int)).f7.size : Int) > 100
  ·exact .inl (hstep true 0 hT (.inr ⟨h1, (decide_eq_true h2).symm⟩))
  have hF : ∀ r, (Ev fun k => l3_Small.l1 k ((i + 1 : Nat) : Int) s0 fs rs = some r) → Ev fun k => l3_Small.l1 k (i : Int) s0 fs rs = some r := fun r hk => hstep false r (hk.succ fun k hk => by
   rw [l3_Small.j3, if_neg (by decide), wrap_nat i (by omega)]
   exact hk) (.inr ⟨h1, (decide_eq_false h2).symm⟩)
  rcases ih (i + 1) (by omega) with hz | ⟨ha, ho⟩
  ·exact .inl (hF 0 hz)
  ·refine .inr ⟨fun j h3 hj => ?_, hF 1 ho⟩
   rcases Nat.lt_or_eq_of_le h3 with h4 | h4
   ·exact ha j h4 hj
   ·subst h4
    rw [hget] at h1 h2
    exact ⟨by omega, by omega⟩
theorem small_funs (hf : fs.length ≤ 15) (hr : rs.length ≤ 40) (d : Nat) : ∀ i, i + d = fs.length → (Ev fun k => l3_Small.l0 k (i : Int) s0 fs rs = some 0) ∨ (((∀ j, i ≤ j → ∀ hj : j < fs.length, fs[j].f1.length ≤ 205) ∧ ∀ x ∈ rs, x.f8.length ≤ 205 ∧ x.f7.size ≤ 100) ∧ Ev fun k => l3_Small.l0 k (i : Int) s0 fs rs = some 1) := by
 induction d with
 | zero =>
  intro i h
  have hs : ∀ r, (Ev fun k => l3_Small.l1 k ((0 : Nat) : Int) s0 fs rs = some r) → Ev fun k => l3_Small.l0 k (i : Int) s0 fs rs = some r := fun r hk => hk.succ fun k hk => by
   rw [l3_Small.l0, if_neg (by omega)]
   exact hk
  rcases small_rules s0 fs rs hr rs.length 0 (by omega) with hz | ⟨ha, ho⟩
  ·exact .inl (hs 0 hz)
  ·exact .inr ⟨⟨fun j h1 hj => by omega, all_get (fun j hj => ha j (by omega) hj)⟩, hs 1 ho⟩
 | succ d ih =>
  intro i h
  have hi : i < fs.length := by omega
  have hget := rdF_get hi
  by_cases h1 : ((rd_T44 fs (i : Int)).f1.length : Int) > 205
  ·exact .inl (Ev.step fun k => by rw [l3_Small.l0, if_pos (by omega), if_pos (by omega), if_pos h1])
  have hs : ∀ r, (Ev fun k => l3_Small.l0 k ((i + 1 : Nat) : Int) s0 fs rs = some r) → Ev fun k => l3_Small.l0 k (i : Int) s0 fs rs = some r := fun r hk => hk.succ fun k hk => by
   rw [l3_Small.l0, if_pos (by omega), if_pos (by omega), if_neg h1, wrap_nat i (by omega)]
   exact hk
  rcases ih (i + 1) (by omega) with hz | ⟨⟨ha, hb⟩, ho⟩
  ·exact .inl (hs 0 hz)
  ·refine .inr ⟨⟨fun j h3 hj => ?_, hb⟩, hs 1 ho⟩
   rcases Nat.lt_or_eq_of_le h3 with h4 | h4
   ·exact ha j h4 hj
   ·subst h4
    rw [hget] at h1
    omega
theorem small_tells : (Ev fun k => l3_Small.f k s0 fs rs = some 0) ∨ (SmallP s0 fs rs ∧ Ev fun k => l3_Small.f k s0 fs rs = some 1) := by
 have hT : Ev fun k => l3_Small.j0 k true s0 fs rs = some 0 := Ev.step fun k => by rw [l3_Small.j0, if_pos rfl]
 by_cases h1 : (fs.length : Int) > 15
 ·exact .inl (hT.mono fun k hk => by rw [l3_Small.f, if_pos h1]; exact hk)
 by_cases h2 : (rs.length : Int) > 40
 ·exact .inl (hT.mono fun k hk => by rw [l3_Small.f, if_neg h1, if_pos h2]; exact hk)
 by_cases h3 : s0 > 300
 ·exact .inl (hT.mono fun k hk => by rw [l3_Small.f, if_neg h1, if_neg h2, decide_eq_true h3]; exact hk)
 have hs : ∀ r, (Ev fun k => l3_Small.l0 k ((0 : Nat) : Int) s0 fs rs = some r) → Ev fun k => l3_Small.f k s0 fs rs = some r := fun r hk => (hk.succ (q := fun k => l3_Small.j0 k false s0 fs rs = some r) fun k hk => by
  rw [l3_Small.j0, if_neg (by decide)]
  exact hk).mono fun k hk => by rw [l3_Small.f, if_neg h1, if_neg h2, decide_eq_false h3]; exact hk
 rcases small_funs s0 fs rs (by omega) (by omega) fs.length 0 (by omega) with hz | ⟨⟨ha, hb⟩, ho⟩
 ·exact .inl (hs 0 hz)
 ·exact .inr ⟨⟨by omega, by omega, by omega, all_get (fun j hj => ha j (by omega) hj), hb⟩, hs 1 ho⟩
end
theorem few_tells (l : List Fa) : l4_few.f l = some (l.take 60) := by
 unfold l4_few.f
 have h1 : mn (l.length : Int) 60 = ((min l.length 60 : Nat) : Int) := by
  unfold mn
  split <;> omega
 rw [h1, if_pos (by omega), if_pos (by omega), Int.toNat_natCast]
 congr 1
 rcases Nat.le_total l.length 60 with h | h
 ·rw [Nat.min_eq_left h, List.take_of_length_le (Nat.le_refl _), List.take_of_length_le h]
 ·rw [Nat.min_eq_right h]
section
variable {s0 : Int} {fs : List FunT} {rs : List RuT} {l : List Fa}
theorem small_s (h : SmallP s0 fs rs) : SmallS s0 fs rs := ⟨fun f hf => Nat.le_trans (h.2.2.2.1 f hf) (by decide), fun x hx => Nat.le_trans (h.2.2.2.2 x hx).1 (by decide), Nat.le_trans h.2.1 (by decide)⟩
theorem right_f (h : SmallP s0 fs rs) : v_Right.f s0 fs rs = some (rightB s0 fs rs) := by
 unfold v_Right.f
 rw [if_pos (small_s h)]
theorem sys_of (h : SmallP s0 fs rs) (hr : rightB s0 fs rs = true) : SysOk s0 fs rs := by
 unfold rightB at hr
 simp only [Bool.and_eq_true, decide_eq_true_iff, Bool.not_eq_true'] at hr
 obtain ⟨⟨h1, h2, h3⟩, h4, h5⟩ := hr
 have hf : ∀ j, ∀ hj : j < fs.length, funB s0 j fs[j] = true := fun j hj => by
  unfold funsB at h4
  rw [List.all_eq_true] at h4
  have := h4 j (List.mem_range.2 hj)
  rwa [rdF_get hj] at this
 have hm : (100 : Nat) ≤ maxLen := by decide
 refine ⟨⟨h1, h2⟩, ⟨h3, h.1⟩, h.2.1, all_get (fun j hj => ?_), fun i h0 hi => ?_, fun x hx => ⟨?_, (h.2.2.2.2 x hx).1, Nat.le_trans (h.2.2.2.2 x hx).2 hm⟩⟩
 ·have h6 := hf j hj
  unfold funB at h6
  simp only [Bool.and_eq_true, decide_eq_true_iff] at h6
  obtain ⟨a, b, c, _⟩ := h6
  have hc := setsB_iff.1 c
  exact ⟨by omega, setsB_iff.1 b, hc _ (by simp), hc _ (by simp), hc _ (by simp)⟩
 ·have h6 := hf i hi
  unfold funB at h6
  simp only [Bool.and_eq_true, Bool.or_eq_true, decide_eq_true_iff] at h6
  rw [rdF_get hi]
  rcases h6.2.2.2 with h7 | h7
  ·omega
  ·exact h7
 ·have h6 := List.any_eq_false.1 h5 x hx
  simpa using h6
theorem facts_of (ha : areB s0 fs.length l = true) (hl : l.length ≤ 100) (hz : ∀ f ∈ l, f.f2.size ≤ maxLen) : FactsOk s0 fs.length l := ⟨(areB_ok.1 ha).1, (areB_ok.1 ha).2, hl, hz⟩
theorem check_tells (h : SmallP s0 fs rs) (hl : l.length ≤ 100) : Ev fun k => e_check.f k s0 fs rs l = some (if rightB s0 fs rs = true then (if areB s0 fs.length l = true then 0 else 140) else 100) := by
 refine (are_tells s0 fs rs l (by omega)).mono fun k hk => ?_
 unfold e_check.f
 rw [right_f h, Option.bind_some]
 cases rightB s0 fs rs
 ·rfl
 ·rw [if_pos rfl, hk, Option.bind_some, if_pos rfl]
  cases areB s0 fs.length l <;> rfl
theorem Round_tells (h : SmallP s0 fs rs) (hl : l.length ≤ 100) (hz : ∀ f ∈ l, f.f2.size ≤ maxLen) (hr : rightB s0 fs rs = true) (ha : areB s0 fs.length l = true) :
  Ev fun k => e_Round.f k s0 fs rs l = some (factSet (roundL (roC s0 fs rs l)), 0) := by
 refine (check_tells (l := l) h hl).mono fun k hk => ?_
 rw [if_pos hr, if_pos ha] at hk
 unfold e_Round.f
 rw [hk, Option.bind_some, if_pos rfl, round_tells (sys_of h hr) (facts_of ha hl hz), Option.bind_some]
theorem Round_no (h : SmallP s0 fs rs) (hl : l.length ≤ 100) (hn : ¬ (rightB s0 fs rs = true ∧ areB s0 fs.length l = true)) :
  Ev fun k => e_Round.f k s0 fs rs l = some ([], if rightB s0 fs rs = true then 140 else 100) := by
 refine (check_tells (l := l) h hl).mono fun k hk => ?_
 unfold e_Round.f
 by_cases hr : rightB s0 fs rs = true
 ·rw [if_pos hr, if_neg (fun ha => hn ⟨hr, ha⟩)] at hk
  rw [hk, Option.bind_some, if_neg (by decide), if_pos hr]
 ·rw [if_neg hr] at hk
  rw [hk, Option.bind_some, if_neg (by decide), if_neg hr]
theorem Closed_tells (h : SmallP s0 fs rs) (hl : l.length ≤ 100) (hz : ∀ f ∈ l, f.f2.size ≤ maxLen) (hr : rightB s0 fs rs = true) (ha : areB s0 fs.length l = true) :
  Ev fun k => e_Closed.f k s0 fs rs l = some (((factSet (roundL (roC s0 fs rs l))).length : Int) == (l.length : Int), 0) := by
 refine (check_tells (l := l) h hl).mono fun k hk => ?_
 rw [if_pos hr, if_pos ha] at hk
 unfold e_Closed.f
 rw [hk, Option.bind_some, if_pos rfl, round_tells (sys_of h hr) (facts_of ha hl hz), Option.bind_some]
theorem Closed_no (h : SmallP s0 fs rs) (hl : l.length ≤ 100) (hn : ¬ (rightB s0 fs rs = true ∧ areB s0 fs.length l = true)) :
  Ev fun k => e_Closed.f k s0 fs rs l = some (false, if rightB s0 fs rs = true then 140 else 100) := by
 refine (check_tells (l := l) h hl).mono fun k hk => ?_
 unfold e_Closed.f
 by_cases hr : rightB s0 fs rs = true
 ·rw [if_pos hr, if_neg (fun ha => hn ⟨hr, ha⟩)] at hk
  rw [hk, Option.bind_some, if_neg (by decide), if_pos hr]
 ·rw [if_neg hr] at hk
  rw [hk, Option.bind_some, if_neg (by decide), if_neg hr]
end
end Go.Proofs.Ytngppcmdaanheaa.Lv
namespace Go.Proofs.Ytngppcmdaanheaa.Lv
open Go.RowKit Go.Proofs.Ytngppcmdaanheaa.ISet Go.Proofs.Ytngppcmdaanheaa.Pr Go.Proofs.Ytngppcmdaanheaa.Ls Go.Proofs.Ytngppcmdaanheaa.Ev Go.Proofs.YtngppcmdaanheaaW.PrintWords Go.Proofs.YtngppcmdaanheaaW.PrintMore
set_option linter.unusedVariables false
set_option linter.unusedSimpArgs false
def fs0 : List FunT := [⟨0, [], 0, 0, 0⟩]
def rs0 : List RuT := [⟨3, 0, 0, 1, 0, 0, 0, ⟨#[]⟩, []⟩]
def la : List Fa := [⟨6, 0, ⟨#[]⟩, 0⟩, ⟨9, 0, ⟨#[]⟩, 4⟩]
def lT : List Fa := [⟨3, 1, applyS, 3⟩, ⟨3, 1, callS, 2⟩, ⟨4, 1, ⟨#[]⟩, 0⟩, ⟨4, 2, ⟨#[]⟩, 1⟩, ⟨4, 3, ⟨#[]⟩, 1⟩, ⟨6, 0, ⟨#[]⟩, 0⟩, ⟨9, 0, ⟨#[]⟩, 4⟩, ⟨9, 1, ⟨#[]⟩, 4⟩]
theorem small0 : SmallP 20 fs0 rs0 := by
 refine ⟨by decide, by decide, by decide, ?_, ?_⟩
 ·intro f hf
  obtain rfl := List.mem_singleton.1 hf
  decide
 ·intro x hx
  obtain rfl := List.mem_singleton.1 hx
  decide
theorem right0 : rightB 20 fs0 rs0 = true := by rfl
theorem apply_call : SL applyS callS := by
 unfold SL
 rw [ByteArray.toList_eq, ByteArray.toList_eq]
 decide
theorem la_are : areB 20 fs0.length la = true := by
 refine areB_ok.2 ⟨?_, ?_⟩
 ·intro f hf
  rcases List.mem_cons.1 hf with rfl | hf
  ·exact ⟨⟨by decide, by decide⟩, ⟨by decide, by decide⟩, .inr (.inr (.inr (.inl ⟨rfl, by decide, rfl⟩))), fun _ => rfl⟩
  ·obtain rfl := List.mem_singleton.1 hf
   exact ⟨⟨by decide, by decide⟩, ⟨by decide, by decide⟩, .inr (.inr (.inr (.inr (.inr ⟨rfl, by decide⟩)))), fun _ => rfl⟩
 ·refine pw_of_next (fun j h0 hj => ?_)
  obtain rfl : j = 1 := by
   have : j < 2 := hj
   omega
  exact .inl (show (6 : Int) < 9 by decide)
theorem lT_pw : lT.Pairwise LF := by
 refine pw_of_next (fun j h0 hj => ?_)
 have h8 : j < 8 := hj
 rcases (show j = 1 ∨ j = 2 ∨ j = 3 ∨ j = 4 ∨ j = 5 ∨ j = 6 ∨ j = 7 by omega) with rfl | rfl | rfl | rfl | rfl | rfl | rfl
 ·exact .inr ⟨rfl, .inr ⟨rfl, .inl apply_call⟩⟩
 ·exact .inl (show (3 : Int) < 4 by decide)
 ·exact .inr ⟨rfl, .inl (show (1 : Int) < 2 by decide)⟩
 ·exact .inr ⟨rfl, .inl (show (2 : Int) < 3 by decide)⟩
 ·exact .inl (show (4 : Int) < 6 by decide)
 ·exact .inl (show (6 : Int) < 9 by decide)
 ·exact .inr ⟨rfl, .inl (show (0 : Int) < 1 by decide)⟩
theorem lT_are : areB 20 fs0.length lT = true := by
 refine areB_ok.2 ⟨?_, lT_pw⟩
 intro f hf
 unfold lT at hf
 simp only [List.mem_cons, List.not_mem_nil, or_false] at hf
 rcases hf with rfl | rfl | rfl | rfl | rfl | rfl | rfl | rfl
 ·exact ⟨⟨by decide, by decide⟩, ⟨by decide, by decide⟩, .inl rfl, fun h => absurd rfl h⟩
 ·exact ⟨⟨by decide, by decide⟩, ⟨by decide, by decide⟩, .inl rfl, fun h => absurd rfl h⟩
 ·exact ⟨⟨by decide, by decide⟩, ⟨by decide, by decide⟩, .inr (.inl rfl), fun _ => rfl⟩
 ·exact ⟨⟨by decide, by decide⟩, ⟨by decide, by decide⟩, .inr (.inl rfl), fun _ => rfl⟩
 ·exact ⟨⟨by decide, by decide⟩, ⟨by decide, by decide⟩, .inr (.inl rfl), fun _ => rfl⟩
 ·exact ⟨⟨by decide, by decide⟩, ⟨by decide, by decide⟩, .inr (.inr (.inr (.inl ⟨rfl, by decide, rfl⟩))), fun _ => rfl⟩
 ·exact ⟨⟨by decide, by decide⟩, ⟨by decide, by decide⟩, .inr (.inr (.inr (.inr (.inr ⟨rfl, by decide⟩)))), fun _ => rfl⟩
 ·exact ⟨⟨by decide, by decide⟩, ⟨by decide, by decide⟩, .inr (.inr (.inr (.inr (.inr ⟨rfl, by decide⟩)))), fun _ => rfl⟩
theorem round_la : roundL (roC 20 fs0 rs0 la) = [⟨6, 0, ⟨#[]⟩, 0⟩, ⟨9, 0, ⟨#[]⟩, 4⟩, ⟨6, 0, ⟨#[]⟩, 0⟩, ⟨3, 1, callS, 2⟩, ⟨3, 1, applyS, 3⟩, ⟨4, 1, ⟨#[]⟩, 0⟩, ⟨4, 2, ⟨#[]⟩, 1⟩, ⟨4, 3, ⟨#[]⟩, 1⟩, ⟨9, 1, ⟨#[]⟩, 4⟩] := by kernel_rfl
theorem round_lT : roundL (roC 20 fs0 rs0 lT) = lT ++ [⟨6, 0, ⟨#[]⟩, 0⟩, ⟨3, 1, callS, 2⟩, ⟨3, 1, applyS, 3⟩, ⟨4, 1, ⟨#[]⟩, 0⟩, ⟨4, 2, ⟨#[]⟩, 1⟩, ⟨4, 3, ⟨#[]⟩, 1⟩, ⟨9, 1, ⟨#[]⟩, 4⟩] := by kernel_rfl
theorem set_la : factSet (roundL (roC 20 fs0 rs0 la)) = lT := by
 refine Ls.rise_unique (factSet_rises _).1 lT_pw (fun x => ?_)
 rw [(factSet_rises _).2, round_la]
 unfold lT
 simp only [List.mem_cons, List.not_mem_nil, or_false]
 constructor
 ·rintro (h | h | h | h | h | h | h | h | h) <;> simp [h]
 ·rintro (h | h | h | h | h | h | h | h) <;> simp [h]
theorem set_lT : factSet (roundL (roC 20 fs0 rs0 lT)) = lT := by
 refine Ls.rise_unique (factSet_rises _).1 lT_pw (fun x => ?_)
 rw [(factSet_rises _).2, round_lT, List.mem_append]
 refine ⟨fun h => h.elim id (fun h => ?_), .inl⟩
 unfold lT
 simp only [List.mem_cons, List.not_mem_nil, or_false] at h ⊢
 rcases h with h | h | h | h | h | h | h <;> simp [h]
theorem zero_not : ¬ (rightB 20 fs0 rs0 = true ∧ areB 20 fs0.length [(⟨0, 0, ⟨#[]⟩, 0⟩ : Fa)] = true) := fun h => by
 have h1 := (areB_ok.1 h.2).1 ⟨0, 0, ⟨#[]⟩, 0⟩ (List.mem_singleton.2 rfl)
 rcases h1.k with e | e | e | ⟨e, _⟩ | e | ⟨e, _⟩ <;> simp at e
theorem size0 : (⟨#[]⟩ : ByteArray).size ≤ maxLen := by decide
theorem la_size : ∀ f ∈ la, f.f2.size ≤ maxLen := fun f hf => by
 rcases List.mem_cons.1 hf with rfl | hf
 ·exact size0
 ·obtain rfl := List.mem_singleton.1 hf
  exact size0
theorem lT_size : ∀ f ∈ lT, f.f2.size ≤ maxLen := fun f hf => by
 unfold lT at hf
 simp only [List.mem_cons, List.not_mem_nil, or_false] at hf
 rcases hf with rfl | rfl | rfl | rfl | rfl | rfl | rfl | rfl
 ·show applyS.size ≤ maxLen
  decide
 ·show callS.size ≤ maxLen
  decide
 all_goals exact size0
theorem shown_tells : Ev fun k => l4_shown.f k = some true := by
 have h1 := Round_tells small0 (l := la) (by decide) la_size right0 la_are
 have h2 := Closed_tells small0 (l := lT) (by decide) lT_size right0 lT_are
 have h3 := Round_no small0 (l := [(⟨0, 0, ⟨#[]⟩, 0⟩ : Fa)]) (by decide) zero_not
 rw [set_la] at h1
 rw [set_lT] at h2
 rw [if_pos right0] at h3
 refine ((h1.and h2).and h3).mono fun k hk => ?_
 obtain ⟨⟨k1, k2⟩, k3⟩ := hk
 unfold l4_shown.f
 simp only [Option.bind_some]
 have k1' : e_Round.f k 20 [(⟨0, ([] : List Int), 0, 0, 0⟩ : FunT)] [(⟨3, 0, 0, 1, 0, 0, 0, (⟨#[]⟩ : ByteArray), ([] : List Int)⟩ : RuT)] [(⟨6, 0, (⟨#[]⟩ : ByteArray), 0⟩ : Fa), (⟨9, 0, (⟨#[]⟩ : ByteArray), 4⟩ : Fa)] = some (lT, 0) := k1
 have k2' : e_Closed.f k 20 [(⟨0, ([] : List Int), 0, 0, 0⟩ : FunT)] [(⟨3, 0, 0, 1, 0, 0, 0, (⟨#[]⟩ : ByteArray), ([] : List Int)⟩ : RuT)] lT = some ((lT.length : Int) == (lT.length : Int), 0) := k2
 have k3' : e_Round.f k 20 [(⟨0, ([] : List Int), 0, 0, 0⟩ : FunT)] [(⟨3, 0, 0, 1, 0, 0, 0, (⟨#[]⟩ : ByteArray), ([] : List Int)⟩ : RuT)] [(⟨0, 0, (⟨#[]⟩ : ByteArray), 0⟩ : Fa)] = some ([], 140) := k3
 rw [k1', Option.bind_some, k2', Option.bind_some, k3', Option.bind_some, if_pos rfl, if_pos rfl, if_pos (by simp), if_pos rfl, if_pos (show (((lT, (0 : Int)).1.length : Nat) : Int) = 8 from rfl), if_pos (show (7 : Int) < (((lT, (0 : Int)).1.length : Nat) : Int) by decide)]
 have e : rd_T41 lT 7 = ⟨9, 1, ⟨#[]⟩, 4⟩ := rfl
 show some ((rd_T41 lT 7).f0 == 9 && ((rd_T41 lT 7).f1 == 1 && ((rd_T41 lT 7).f2.toList == [] && (rd_T41 lT 7).f3 == 4))) = some true
 rw [e]
 simp [noS_list]
end Go.Proofs.Ytngppcmdaanheaa.Lv
namespace Go.Proofs.Ytngppcmdaanheaa.Lv
open Go.RowKit Go.Proofs.Ytngppcmdaanheaa.ISet Go.Proofs.Ytngppcmdaanheaa.Pr Go.Proofs.Ytngppcmdaanheaa.Ls Go.Proofs.Ytngppcmdaanheaa.Ev Go.Proofs.YtngppcmdaanheaaW.PrintWords Go.Proofs.YtngppcmdaanheaaW.PrintMore
open Go.Proofs.Ytngppcmdaanheaa.Lu (before_tells)
set_option linter.unusedVariables false
set_option linter.unusedSimpArgs false
section
variable {s0 : Int} {fs : List FunT} {rs : List RuT}
theorem setsB_cons (x : Int) (l : List Int) : setsB s0 (x :: l) = (!isNo s0 x && setsB s0 l) := by
 unfold setsB
 rw [List.any_cons, Bool.not_or]
theorem sets_loop (l : List Int) (hm : l.length ≤ 1000000) (d : Nat) : ∀ i, i + d = l.length → Ev fun k => q3_sets.l0 k l (i : Int) s0 fs rs = some (setsB s0 (l.drop i) && decide ((l.length : Int) ≤ 200)) := by
 induction d with
 | zero =>
  intro i h
  refine Ev.step fun k => ?_
  rw [q3_sets.l0, if_neg (by omega), drop_len l i (by omega)]
  rfl
 | succ d ih =>
  intro i h
  have hi : i < l.length := by omega
  have hd := drop_at l i 0 hi
  have hno : Ev fun k => q3_sets.j1 k l (i : Int) false s0 fs rs = some (setsB s0 (l.drop (i + 1)) && decide ((l.length : Int) ≤ 200)) := (ih (i + 1) (by omega)).succ fun k hk => by
   rw [q3_sets.j1, if_neg (by decide), wrap_nat i (by omega), hk]
  have hyes : Ev fun k => q3_sets.j1 k l (i : Int) true s0 fs rs = some false := Ev.step fun k => by rw [q3_sets.j1, if_pos rfl]
  rw [hd, setsB_cons]
  by_cases h1 : l.getD i 0 < 0
  ·refine hyes.succ fun k hk => ?_
   rw [q3_sets.l0, if_pos (by omega), if_pos (by omega), rd_nat, if_pos h1, hk]
   simp only [isNo, decide_eq_true h1, Bool.true_or, Bool.not_true, Bool.false_and]
  ·by_cases h2 : l.getD i 0 ≥ s0
   ·refine hyes.succ fun k hk => ?_
    rw [q3_sets.l0, if_pos (by omega), if_pos (by omega), rd_nat, if_neg h1, decide_eq_true h2, hk]
    simp only [isNo, decide_eq_true h2, Bool.or_true, Bool.not_true, Bool.false_and]
   ·refine hno.succ fun k hk => ?_
    rw [q3_sets.l0, if_pos (by omega), if_pos (by omega), rd_nat, if_neg h1, decide_eq_false h2, hk]
    simp only [isNo, decide_eq_false h2, decide_eq_false h1, Bool.or_false, Bool.not_false, Bool.true_and]
theorem sets_tells (l : List Int) (hm : l.length ≤ 1000000) : Ev fun k => q3_sets.f k l s0 fs rs = some (setsB s0 l && decide ((l.length : Int) ≤ 200)) :=
 (sets_loop l hm l.length 0 (by omega)).mono fun k hk => by
  rw [q3_sets.f]
  exact hk
def qn (s0 : Int) (l : List Int) : Int := if setsB s0 l = true then 1 else 0
theorem one_set (a : Int) : setsB s0 [a] = decide (0 ≤ a ∧ a < s0) := by
 rw [Bool.eq_iff_iff, setsB_iff, decide_eq_true_iff]
 simp [InS]
theorem two_set (a b : Int) : setsB s0 [a, b] = decide ((0 ≤ a ∧ a < s0) ∧ (0 ≤ b ∧ b < s0)) := by
 rw [Bool.eq_iff_iff, setsB_iff, decide_eq_true_iff]
 simp [InS]
def FitR (s0 : Int) (nf : Nat) (x : RuT) (q : Int) : Prop :=
 (0 ≤ x.f1 ∧ x.f1 < (nf : Int)) ∧ (0 ≤ x.f2 ∧ x.f2 < s0) ∧
 ((x.f0 = 1 ∧ 4 ≤ x.f6 ∧ x.f6 ≤ 1000000) ∨ (x.f0 = 2 ∧ 0 < x.f5 ∧ x.f5 < (nf : Int)) ∨
   ((x.f0 = 9 ∨ (x.f0 = 8 ∧ (x.f4 = -1 ∨ (0 ≤ x.f4 ∧ x.f4 < s0)))) ∧ (4 ≤ x.f6 ∧ x.f6 ≤ 1000000) ∧ (0 ≤ x.f3 ∧ x.f3 < s0) ∧ (0 ≤ x.f5 ∧ x.f5 < s0) ∧ q = 1 ∧ (x.f8.length : Int) ≤ 200) ∨
   ((3 ≤ x.f0 ∧ x.f0 ≤ 7) ∧ (0 ≤ x.f3 ∧ x.f3 < s0)))
instance decFitR (s0 : Int) (nf : Nat) (x : RuT) (q : Int) : Decidable (FitR s0 nf x q) := by unfold FitR; infer_instance
theorem isM_eq (m : Int) : isM m = decide (4 ≤ m ∧ m ≤ 1000000) := by
 unfold isM
 split
 ·rename_i h
  refine decide_eq_decide.2 ⟨fun k => ⟨h, k⟩, fun k => k.2⟩
 ·rename_i h
  exact (decide_eq_false (fun k => h k.1)).symm
theorem callB_eq (x : RuT) : callB s0 x = decide ((4 ≤ x.f6 ∧ x.f6 ≤ 1000000) ∧ (0 ≤ x.f3 ∧ x.f3 < s0) ∧ (0 ≤ x.f5 ∧ x.f5 < s0) ∧ qn s0 x.f8 = 1 ∧ (x.f8.length : Int) ≤ 200) := by
 unfold callB
 rw [isM_eq, two_set]
 have hq : setsB s0 x.f8 = decide (qn s0 x.f8 = 1) := by
  unfold qn
  cases setsB s0 x.f8 <;> rfl
 rw [hq, Bool.eq_iff_iff]
 simp only [Bool.and_eq_true, decide_eq_true_iff]
 constructor
 ·rintro ⟨a, ⟨b, c⟩, d, e⟩; exact ⟨a, b, c, d, e⟩
 ·rintro ⟨a, b, c, d, e⟩; exact ⟨a, ⟨b, c⟩, d, e⟩
theorem fitsB_eq (nf : Nat) (x : RuT) : fitsB s0 nf x = decide (FitR s0 nf x (qn s0 x.f8)) := by
 rw [Bool.eq_iff_iff, decide_eq_true_iff]
 unfold fitsB kindB FitR
 rw [isM_eq, one_set, one_set, one_set, callB_eq]
 generalize qn s0 x.f8 = q
 generalize (x.f8.length : Int) = n8
 simp only [decide_eq_true_iff]
 by_cases h1 : x.f1 < 0
 ·rw [if_pos h1]
  constructor
  ·intro h; cases h
  ·intro h; omega
 rw [if_neg h1]
 by_cases h2 : x.f1 ≥ (nf : Int)
 ·rw [if_pos h2]
  constructor
  ·intro h; cases h
  ·intro h; omega
 rw [if_neg h2]
 by_cases h3 : 0 ≤ x.f2 ∧ x.f2 < s0
 ·rw [if_pos h3]
  by_cases k1 : x.f0 = 1
  ·rw [if_pos k1, decide_eq_true_iff]; omega
  rw [if_neg k1]
  by_cases k2 : x.f0 = 2
  ·rw [if_pos k2]
   by_cases k5 : x.f5 > 0
   ·rw [if_pos k5, decide_eq_true_iff]; omega
   ·rw [if_neg k5]
    constructor
    ·intro h; cases h
    ·intro h; omega
  rw [if_neg k2]
  by_cases k8 : x.f0 = 8
  ·rw [if_pos k8]
   by_cases kz : x.f4 = -1
   ·rw [if_pos kz, decide_eq_true_iff]; omega
   ·rw [if_neg kz]
    by_cases kz2 : 0 ≤ x.f4 ∧ x.f4 < s0
    ·rw [if_pos kz2, decide_eq_true_iff]; omega
    ·rw [if_neg kz2]
     constructor
     ·intro h; cases h
     ·intro h; omega
  rw [if_neg k8]
  by_cases k9 : x.f0 = 9
  ·rw [if_pos k9, decide_eq_true_iff]; omega
  rw [if_neg k9]
  by_cases k37 : 3 ≤ x.f0 ∧ x.f0 ≤ 7
  ·rw [if_pos k37, decide_eq_true_iff]; omega
  ·rw [if_neg k37]
   constructor
   ·intro h; cases h
   ·intro h; omega
 ·rw [if_neg h3]
  constructor
  ·intro h; cases h
  ·intro h; omega
variable (s0 fs rs)
theorem rule_tells (x : RuT) (hx : x.f8.length ≤ 1000000) : Ev fun k => q3_rule.f k x.f0 x.f1 x.f2 x.f3 x.f4 x.f5 x.f6 x.f7 x.f8 s0 fs rs = some (fitsB s0 fs.length x) := by
 rw [fitsB_eq]
 have hq : setsB s0 x.f8 = decide (qn s0 x.f8 = 1) := by
  unfold qn
  cases setsB s0 x.f8 <;> rfl
 have hS := sets_tells (s0 := s0) (fs := fs) (rs := rs) x.f8 hx
 rw [hq] at hS
 have hF : ∀ b : Bool, b = true → ¬ FitR s0 fs.length x (qn s0 x.f8) → Ev fun k => q3_rule.j0 k b x.f0 x.f1 x.f2 x.f3 x.f4 x.f5 x.f6 x.f7 x.f8 s0 fs rs = some (decide (FitR s0 fs.length x (qn s0 x.f8))) := fun b hb hn => Ev.step fun k => by
  rw [q3_rule.j0, if_pos hb, decide_eq_false hn]
 generalize qn s0 x.f8 = q at *
 -- the end: a call's sets
 have h3T : ∀ b5 : Bool, Ev fun k => q3_rule.j3 k b5 true x.f0 x.f1 x.f2 x.f3 x.f4 x.f5 x.f6 x.f7 x.f8 s0 fs rs = some false := fun b5 => Ev.step fun k => by rw [q3_rule.j3, if_pos rfl]
 have h3N : Ev fun k => q3_rule.j3 k false false x.f0 x.f1 x.f2 x.f3 x.f4 x.f5 x.f6 x.f7 x.f8 s0 fs rs = some true := Ev.step fun k => by rw [q3_rule.j3, if_neg (by decide), if_neg (by decide)]
 have h3C : Ev fun k => q3_rule.j3 k true false x.f0 x.f1 x.f2 x.f3 x.f4 x.f5 x.f6 x.f7 x.f8 s0 fs rs = some (decide ((q = 1 ∧ (x.f8.length : Int) ≤ 200) ∧ (0 ≤ x.f5 ∧ x.f5 < s0) ∧ (x.f0 = 9 ∨ (-1 ≤ x.f4 ∧ x.f4 < s0)))) := hS.succ fun k hk => by
  rw [q3_rule.j3, if_neg (by decide), if_pos rfl, hk, Option.bind_some]
  by_cases a1 : q = 1 ∧ (x.f8.length : Int) ≤ 200
  ·rw [if_pos (by simp [a1.1, a1.2])]
   by_cases a2 : x.f5 ≥ 0
   ·rw [if_pos a2]
    by_cases a3 : x.f5 < s0
    ·rw [if_pos a3]
     by_cases a4 : x.f0 = 9
     ·rw [if_pos a4, decide_eq_true ⟨a1, ⟨a2, a3⟩, .inl a4⟩]
     ·rw [if_neg a4]
      by_cases a5 : x.f4 ≥ -1
      ·rw [if_pos a5]
       congr 1
       exact decide_eq_decide.2 (by omega)
      ·rw [if_neg a5, decide_eq_false (by omega)]
    ·rw [if_neg a3, decide_eq_false (by omega)]
   ·rw [if_neg a2, decide_eq_false (by omega)]
  ·rw [if_neg (by simp; omega), decide_eq_false (by omega)]
 have h2T : ∀ b5 : Bool, Ev fun k => q3_rule.j2 k b5 true x.f0 x.f1 x.f2 x.f3 x.f4 x.f5 x.f6 x.f7 x.f8 s0 fs rs = some false := fun b5 => Ev.step fun k => by rw [q3_rule.j2, if_pos rfl]
 have h2 : ∀ (b5 : Bool) (r : Bool), (Ev fun k => q3_rule.j3 k b5 false x.f0 x.f1 x.f2 x.f3 x.f4 x.f5 x.f6 x.f7 x.f8 s0 fs rs = some r) → x.f0 ≠ 1 → x.f0 ≠ 2 → Ev fun k => q3_rule.j2 k b5 false x.f0 x.f1 x.f2 x.f3 x.f4 x.f5 x.f6 x.f7 x.f8 s0 fs rs = some (decide (0 ≤ x.f3 ∧ x.f3 < s0) && r) := fun b5 r hr n1 n2 => by
  by_cases y0 : x.f3 < 0
  ·refine (h3T b5).succ fun k hk => ?_
   rw [q3_rule.j2, if_neg (by decide), if_neg n2, if_neg n1, if_pos y0, hk, decide_eq_false (by omega), Bool.false_and]
  ·by_cases y1 : x.f3 ≥ s0
   ·refine (h3T b5).succ fun k hk => ?_
    rw [q3_rule.j2, if_neg (by decide), if_neg n2, if_neg n1, if_neg y0, decide_eq_true y1, hk, decide_eq_false (by omega), Bool.false_and]
   ·refine hr.succ fun k hk => ?_
    rw [q3_rule.j2, if_neg (by decide), if_neg n2, if_neg n1, if_neg y0, decide_eq_false y1, hk, decide_eq_true (by omega), Bool.true_and]
 by_cases e1 : x.f0 < 1
 ·exact (hF true rfl (by unfold FitR; omega)).mono fun k hk => by rw [q3_rule.f, if_pos e1]; exact hk
 by_cases e2 : x.f0 > 9
 ·exact (hF true rfl (by unfold FitR; omega)).mono fun k hk => by rw [q3_rule.f, if_neg e1, if_pos e2]; exact hk
 by_cases e3 : x.f1 < 0
 ·exact (hF true rfl (by unfold FitR; omega)).mono fun k hk => by rw [q3_rule.f, if_neg e1, if_neg e2, if_pos e3]; exact hk
 by_cases e4 : x.f1 ≥ (fs.length : Int)
 ·exact (hF true rfl (by unfold FitR; omega)).mono fun k hk => by rw [q3_rule.f, if_neg e1, if_neg e2, if_neg e3, if_pos e4]; exact hk
 by_cases e5 : x.f2 < 0
 ·exact (hF true rfl (by unfold FitR; omega)).mono fun k hk => by rw [q3_rule.f, if_neg e1, if_neg e2, if_neg e3, if_neg e4, if_pos e5]; exact hk
 by_cases e6 : x.f2 ≥ s0
 ·exact (hF true rfl (by unfold FitR; omega)).mono fun k hk => by rw [q3_rule.f, if_neg e1, if_neg e2, if_neg e3, if_neg e4, if_neg e5, decide_eq_true e6]; exact hk
 have hgo : ∀ r, (Ev fun k => q3_rule.j0 k false x.f0 x.f1 x.f2 x.f3 x.f4 x.f5 x.f6 x.f7 x.f8 s0 fs rs = some r) → Ev fun k => q3_rule.f k x.f0 x.f1 x.f2 x.f3 x.f4 x.f5 x.f6 x.f7 x.f8 s0 fs rs = some r := fun r hr => hr.mono fun k hk => by
  rw [q3_rule.f, if_neg e1, if_neg e2, if_neg e3, if_neg e4, if_neg e5, decide_eq_false e6]; exact hk
 apply hgo
 -- kind 1
 by_cases k1 : x.f0 = 1
 ·have hj : ∀ r, (Ev fun k => q3_rule.j1 k false x.f0 x.f1 x.f2 x.f3 x.f4 x.f5 x.f6 x.f7 x.f8 s0 fs rs = some r) → Ev fun k => q3_rule.j0 k false x.f0 x.f1 x.f2 x.f3 x.f4 x.f5 x.f6 x.f7 x.f8 s0 fs rs = some r := fun r hr => hr.succ fun k hk => by
   rw [q3_rule.j0, if_neg (by decide), if_neg (by omega), show (x.f0 == 9) = false by simp [k1]]; exact hk
  apply hj
  by_cases m0 : x.f6 < 4
  ·refine (h2T false).succ fun k hk => ?_
   rw [q3_rule.j1, if_pos k1, if_pos m0, hk, decide_eq_false (show ¬ FitR s0 fs.length x q by unfold FitR; omega)]
  by_cases m1 : x.f6 > 1000000
  ·refine (h2T false).succ fun k hk => ?_
   rw [q3_rule.j1, if_pos k1, if_neg m0, decide_eq_true m1, hk, decide_eq_false (show ¬ FitR s0 fs.length x q by unfold FitR; omega)]
  ·refine (Ev.step (q := fun k => q3_rule.j2 k false false x.f0 x.f1 x.f2 x.f3 x.f4 x.f5 x.f6 x.f7 x.f8 s0 fs rs = some true) fun k => by rw [q3_rule.j2, if_neg (by decide), if_neg (by omega), if_pos k1]).succ fun k hk => ?_
   rw [q3_rule.j1, if_pos k1, if_neg m0, decide_eq_false m1, hk, decide_eq_true (show FitR s0 fs.length x q by unfold FitR; omega)]
 by_cases k89 : x.f0 = 8 ∨ x.f0 = 9
 ·have hj : ∀ r, (Ev fun k => q3_rule.j1 k true x.f0 x.f1 x.f2 x.f3 x.f4 x.f5 x.f6 x.f7 x.f8 s0 fs rs = some r) → Ev fun k => q3_rule.j0 k false x.f0 x.f1 x.f2 x.f3 x.f4 x.f5 x.f6 x.f7 x.f8 s0 fs rs = some r := fun r hr => hr.succ fun k hk => by
   rw [q3_rule.j0, if_neg (by decide)]
   by_cases k8 : x.f0 = 8
   ·rw [if_pos k8]; exact hk
   ·rw [if_neg k8, show (x.f0 == 9) = true by simp; omega]; exact hk
  apply hj
  by_cases m0 : x.f6 < 4
  ·refine (h2T true).succ fun k hk => ?_
   rw [q3_rule.j1, if_neg k1, if_pos rfl, if_pos m0, hk, decide_eq_false (show ¬ FitR s0 fs.length x q by unfold FitR; omega)]
  by_cases m1 : x.f6 > 1000000
  ·refine (h2T true).succ fun k hk => ?_
   rw [q3_rule.j1, if_neg k1, if_pos rfl, if_neg m0, decide_eq_true m1, hk, decide_eq_false (show ¬ FitR s0 fs.length x q by unfold FitR; omega)]
  ·refine (h2 true _ h3C (by omega) (by omega)).succ fun k hk => ?_
   rw [q3_rule.j1, if_neg k1, if_pos rfl, if_neg m0, decide_eq_false m1, hk]
   congr 1
   rw [Bool.eq_iff_iff, Bool.and_eq_true, decide_eq_true_iff, decide_eq_true_iff, decide_eq_true_iff]
   unfold FitR
   omega
 ·have hj : ∀ r, (Ev fun k => q3_rule.j1 k false x.f0 x.f1 x.f2 x.f3 x.f4 x.f5 x.f6 x.f7 x.f8 s0 fs rs = some r) → Ev fun k => q3_rule.j0 k false x.f0 x.f1 x.f2 x.f3 x.f4 x.f5 x.f6 x.f7 x.f8 s0 fs rs = some r := fun r hr => hr.succ fun k hk => by
   rw [q3_rule.j0, if_neg (by decide), if_neg (by omega), show (x.f0 == 9) = false by simp; omega]; exact hk
  apply hj
  by_cases k2 : x.f0 = 2
  ·have h22 : Ev fun k => q3_rule.j2 k false false x.f0 x.f1 x.f2 x.f3 x.f4 x.f5 x.f6 x.f7 x.f8 s0 fs rs = some (decide (0 < x.f5 ∧ x.f5 < (fs.length : Int))) := Ev.step fun k => by
    rw [q3_rule.j2, if_neg (by decide), if_pos k2]
    by_cases a : x.f5 > 0
    ·rw [if_pos a]
     congr 1
     exact decide_eq_decide.2 (by omega)
    ·rw [if_neg a, decide_eq_false (by omega)]
   refine h22.succ fun k hk => ?_
   rw [q3_rule.j1, if_neg k1, if_neg (by decide), hk]
   congr 1
   exact decide_eq_decide.2 (by unfold FitR; omega)
  ·refine (h2 false _ h3N k1 k2).succ fun k hk => ?_
   rw [q3_rule.j1, if_neg k1, if_neg (by decide), hk, Bool.and_true]
   congr 1
   exact decide_eq_decide.2 (by unfold FitR; omega)
end
end Go.Proofs.Ytngppcmdaanheaa.Lv
namespace Go.Proofs.Ytngppcmdaanheaa.Lv
open Go.RowKit Go.Proofs.Ytngppcmdaanheaa.ISet Go.Proofs.Ytngppcmdaanheaa.Pr Go.Proofs.Ytngppcmdaanheaa.Ls Go.Proofs.Ytngppcmdaanheaa.Ev Go.Proofs.YtngppcmdaanheaaW.PrintWords Go.Proofs.YtngppcmdaanheaaW.PrintMore
open Go.Proofs.Ytngppcmdaanheaa.Lu (before_tells)
set_option linter.unusedVariables false
set_option linter.unusedSimpArgs false
section
variable (s0 : Int) (fs : List FunT) (rs : List RuT)
theorem rules_loop (hr : rs.length ≤ 1000) (hx : ∀ x ∈ rs, x.f8.length ≤ 1000000) (d : Nat) : ∀ i, i + d = rs.length → Ev fun k => q3_Right.l1 k (i : Int) s0 fs rs = some (!((rs.drop i).any (fun x => !fitsB s0 fs.length x))) := by
 induction d with
 | zero =>
  intro i h
  refine Ev.step fun k => ?_
  rw [q3_Right.l1, if_neg (by omega), drop_len rs i (by omega)]
  rfl
 | succ d ih =>
  intro i h
  have hi : i < rs.length := by omega
  have hg := rdR_get hi
  have hd : rs.drop i = rs[i] :: rs.drop (i + 1) := List.drop_eq_getElem_cons hi
  have hT := rule_tells s0 fs rs rs[i] (hx _ (List.getElem_mem hi))
  rw [hd, List.any_cons]
  refine (hT.and (ih (i + 1) (by omega))).succ fun k hk => ?_
  rw [q3_Right.l1, if_pos (by omega), if_pos (by omega), hg, hk.1, Option.bind_some, wrap_nat i (by omega), hk.2]
  cases fitsB s0 fs.length rs[i] <;> simp
theorem funs_loop (hf : fs.length ≤ 1000) (hp : ∀ f ∈ fs, f.f1.length ≤ 1000000) (r : Bool) (hR : Ev fun k => q3_Right.l1 k ((0 : Nat) : Int) s0 fs rs = some r) (d : Nat) : ∀ i, i + d = fs.length →
  Ev fun k => q3_Right.l0 k (i : Int) s0 fs rs = some (((List.range fs.length).drop i).all (fun j => funB s0 j (rd_T44 fs (j : Int))) && r) := by
 induction d with
 | zero =>
  intro i h
  refine hR.succ fun k hk => ?_
  rw [q3_Right.l0, if_neg (by omega), drop_len _ i (by simp; omega)]
  exact hk
 | succ d ih =>
  intro i h
  have hi : i < fs.length := by omega
  rw [range_drop fs.length i hi, List.all_cons]
  have hm : rd_T44 fs (i : Int) ∈ fs := rdF_mem hi
  have hS1 := sets_tells (s0 := s0) (fs := fs) (rs := rs) (rd_T44 fs (i : Int)).f1 (hp _ hm)
  have hS2 := sets_tells (s0 := s0) (fs := fs) (rs := rs) [(rd_T44 fs (i : Int)).f2, (rd_T44 fs (i : Int)).f3, (rd_T44 fs (i : Int)).f4] (by simp)
  have hih := ih (i + 1) (by omega)
  generalize HFE : rd_T44 fs (i : Int) = f at *
  generalize ((List.range fs.length).drop (i + 1)).all (fun j => funB s0 j (rd_T44 fs (j : Int))) = q at *
  have e3 : decide ((([f.f2, f.f3, f.f4] : List Int).length : Int) ≤ 200) = true := decide_eq_true (by simp)
  rw [e3, Bool.and_true] at hS2
  have hno : Ev fun k => q3_Right.j2 k (i : Int) false s0 fs rs = some (q && r) := hih.succ fun k hk => by
   rw [q3_Right.j2, if_neg (by decide), wrap_nat i (by omega), hk]
  have hyes : Ev fun k => q3_Right.j2 k (i : Int) true s0 fs rs = some false := Ev.step fun k => by rw [q3_Right.j2, if_pos rfl]
  have hfb : funB s0 i f = ((setsB s0 f.f1 && decide ((f.f1.length : Int) ≤ 200)) && (setsB s0 [f.f2, f.f3, f.f4] && (decide (i = 0) || (decide (4 ≤ f.f0) && decide (f.f0 < 1000000))))) := by
   unfold funB
   cases setsB s0 f.f1 <;> cases decide ((f.f1.length : Int) ≤ 200) <;> rfl
  rw [hfb]
  generalize (setsB s0 f.f1 && decide ((f.f1.length : Int) ≤ 200)) = a1 at *
  generalize setsB s0 [f.f2, f.f3, f.f4] = a2 at *
  have hgo : ∀ (b : Bool) (v : Bool), (Ev fun k => q3_Right.j2 k (i : Int) b s0 fs rs = some v) → (∀ k, (if a1 = true then (if a2 = true then (if (i : Int) > 0 then (if f.f0 < 4 then (q3_Right.j2 k (i : Int) true s0 fs rs) else (q3_Right.j2 k (i : Int) (decide (f.f0 ≥ 1000000)) s0 fs rs)) else (q3_Right.j2 k (i : Int) false s0 fs rs)) else (q3_Right.j2 k (i : Int) true s0 fs rs)) else (q3_Right.j2 k (i : Int) true s0 fs rs)) = q3_Right.j2 k (i : Int) b s0 fs rs) → Ev fun k => q3_Right.l0 k (i : Int) s0 fs rs = some v := fun b v hv hb => ((hS1.and hS2).and hv).succ fun k hk => by
   rw [q3_Right.l0, if_pos (by omega), if_pos (by omega)]
   have hf : rd_T44 fs (i : Int) = f := HFE
   rw [hf, hk.1.1, Option.bind_some, hk.1.2, Option.bind_some, hb k]
   exact hk.2
  cases a1
  ·exact (hgo true false hyes (fun k => by rw [if_neg (by decide)])).mono fun k hk => by rw [hk]; rfl
  cases a2
  ·exact (hgo true false hyes (fun k => by rw [if_pos rfl, if_neg (by decide)])).mono fun k hk => by rw [hk]; rfl
  by_cases h0 : i = 0
  ·exact (hgo false (q && r) hno (fun k => by rw [if_pos rfl, if_pos rfl, if_neg (by omega)])).mono fun k hk => by rw [hk, decide_eq_true h0]; rfl
  by_cases h4 : f.f0 < 4
  ·exact (hgo true false hyes (fun k => by rw [if_pos rfl, if_pos rfl, if_pos (by omega), if_pos h4])).mono fun k hk => by rw [hk, decide_eq_false h0, decide_eq_false (show ¬ 4 ≤ f.f0 by omega)]; rfl
  by_cases h5 : f.f0 ≥ 1000000
  ·exact (hgo true false hyes (fun k => by rw [if_pos rfl, if_pos rfl, if_pos (by omega), if_neg h4, decide_eq_true h5])).mono fun k hk => by rw [hk, decide_eq_false h0, decide_eq_true (show 4 ≤ f.f0 by omega), decide_eq_false (show ¬ f.f0 < 1000000 by omega)]; rfl
  ·exact (hgo false (q && r) hno (fun k => by rw [if_pos rfl, if_pos rfl, if_pos (by omega), if_neg h4, decide_eq_false h5])).mono fun k hk => by rw [hk, decide_eq_false h0, decide_eq_true (show 4 ≤ f.f0 by omega), decide_eq_true (show f.f0 < 1000000 by omega)]; rfl
theorem right13_tells (hf : fs.length ≤ 1000) (hr : rs.length ≤ 1000) (hp : ∀ f ∈ fs, f.f1.length ≤ 1000000) (hx : ∀ x ∈ rs, x.f8.length ≤ 1000000) : Ev fun k => q3_Right.f k s0 fs rs = some (rightB s0 fs rs) := by
 have hR := rules_loop s0 fs rs hr hx rs.length 0 (by omega)
 rw [List.drop_zero] at hR
 have hF := funs_loop s0 fs rs hf hp _ hR fs.length 0 (by omega)
 rw [List.drop_zero] at hF
 have hT : ¬ (9 ≤ s0 ∧ s0 ≤ 100000 ∧ 0 < fs.length) → Ev fun k => q3_Right.j0 k true s0 fs rs = some (rightB s0 fs rs) := fun hn => Ev.step fun k => by rw [q3_Right.j0, if_pos rfl, rightB_no hn]
 by_cases h1 : s0 < 9
 ·exact (hT (by omega)).mono fun k hk => by rw [q3_Right.f, if_pos h1]; exact hk
 by_cases h2 : s0 > 100000
 ·exact (hT (by omega)).mono fun k hk => by rw [q3_Right.f, if_neg h1, if_pos h2]; exact hk
 by_cases h3 : fs.length = 0
 ·exact (hT (by omega)).mono fun k hk => by rw [q3_Right.f, if_neg h1, if_neg h2, show ((fs.length : Int) == 0) = true by simp [h3]]; exact hk
 ·refine (hF.succ (q := fun k => q3_Right.j0 k false s0 fs rs = some (rightB s0 fs rs)) fun k hk => ?_).mono fun k hk => ?_
  ·rw [q3_Right.j0, if_neg (by decide), show (0 : Int) = ((0 : Nat) : Int) from rfl, hk]
   unfold rightB funsB
   rw [decide_eq_true (show 9 ≤ s0 ∧ s0 ≤ 100000 ∧ 0 < fs.length by omega), Bool.true_and]
  ·rw [q3_Right.f, if_neg h1, if_neg h2, show ((fs.length : Int) == 0) = false by simp; intro h; rw [h] at h3; exact h3 rfl]
   exact hk
/-! ### facts -/
theorem fact_one (l : List Fa) (i : Nat) (hi : i + 1 ≤ 9223372036854775807) (f : Fa) (r : Bool) (hih : Ev fun k => q4_Right.l0 k l ((i + 1 : Nat) : Int) s0 fs rs = some r) :
  Ev fun k => q4_Right.j1 k l (i : Int) false s0 fs rs f.f0 f.f1 f.f2 f.f3 = some (decide (FitP s0 fs.length f) && r) := by
 have h4T : Ev fun k => q4_Right.j4 k l (i : Int) true s0 fs rs = some false := Ev.step fun k => by rw [q4_Right.j4, if_pos rfl]
 have h4F : Ev fun k => q4_Right.j4 k l (i : Int) false s0 fs rs = some r := hih.succ fun k hk => by rw [q4_Right.j4, if_neg (by decide), wrap_nat i hi, hk]
 have h3T : Ev fun k => q4_Right.j3 k l (i : Int) f.f0 true s0 fs rs f.f0 f.f1 f.f2 f.f3 = some r := hih.succ fun k hk => by rw [q4_Right.j3, if_pos rfl, wrap_nat i hi, hk]
 have h2T : Ev fun k => q4_Right.j2 k l (i : Int) true s0 fs rs f.f0 f.f1 f.f2 f.f3 = some false := Ev.step fun k => by rw [q4_Right.j2, if_pos rfl]
 have hKind : ∀ hA : 0 ≤ f.f1 ∧ f.f1 ≤ 1000001 ∧ 0 ≤ f.f3 ∧ f.f3 ≤ 1000001, ∀ hB : f.f0 = 3 ∨ f.f2.toList = [], Ev fun k => q4_Right.j2 k l (i : Int) false s0 fs rs f.f0 f.f1 f.f2 f.f3 = some (decide (FitP s0 fs.length f) && r) := fun hA hB => by
  by_cases k3 : f.f0 = 3
  ·refine h3T.succ fun k hk => ?_
   rw [q4_Right.j2, if_neg (by decide), if_pos k3, show (f.f0 == 3) = true by simp [k3], hk, decide_eq_true (show FitP s0 fs.length f from ⟨hA, hB, .inl k3⟩), Bool.true_and]
  by_cases k4 : f.f0 = 4
  ·refine h3T.succ fun k hk => ?_
   rw [q4_Right.j2, if_neg (by decide), if_neg k3, if_pos k4, show (f.f0 == 4) = true by simp [k4], hk, decide_eq_true (show FitP s0 fs.length f from ⟨hA, hB, .inr (.inl k4)⟩), Bool.true_and]
  by_cases k5 : f.f0 = 5
  ·refine h3T.succ fun k hk => ?_
   rw [q4_Right.j2, if_neg (by decide), if_neg k3, if_neg k4, if_pos k5, show (f.f0 == 5) = true by simp [k5], hk, decide_eq_true (show FitP s0 fs.length f from ⟨hA, hB, .inr (.inr (.inl k5))⟩), Bool.true_and]
  by_cases k8 : f.f0 = 8
  ·refine h3T.succ fun k hk => ?_
   rw [q4_Right.j2, if_neg (by decide), if_neg k3, if_neg k4, if_neg k5, show (f.f0 == 8) = true by simp [k8], hk, decide_eq_true (show FitP s0 fs.length f from ⟨hA, hB, .inr (.inr (.inr (.inl k8)))⟩), Bool.true_and]
  have h3F : Ev fun k => q4_Right.j3 k l (i : Int) f.f0 false s0 fs rs f.f0 f.f1 f.f2 f.f3 = some (decide (FitP s0 fs.length f) && r) := by
   by_cases k6 : f.f0 = 6
   ·by_cases a : f.f1 ≥ (fs.length : Int)
    ·refine h4T.succ fun k hk => ?_
     rw [q4_Right.j3, if_neg (by decide), if_pos k6, if_pos a, hk, decide_eq_false (show ¬ FitP s0 fs.length f from fun h => by rcases h.2.2 with e | e | e | e | e | e <;> omega), Bool.false_and]
    ·by_cases b : f.f3 = 0
     ·refine h4F.succ fun k hk => ?_
      rw [q4_Right.j3, if_neg (by decide), if_pos k6, if_neg a, show (f.f3 != 0) = false by simp [b], hk, decide_eq_true (show FitP s0 fs.length f from ⟨hA, hB, .inr (.inr (.inr (.inr (.inl ⟨k6, by omega, b⟩))))⟩), Bool.true_and]
     ·refine h4T.succ fun k hk => ?_
      rw [q4_Right.j3, if_neg (by decide), if_pos k6, if_neg a, show (f.f3 != 0) = true by simp [b], hk, decide_eq_false (show ¬ FitP s0 fs.length f from fun h => by rcases h.2.2 with e | e | e | e | e | e <;> omega), Bool.false_and]
   by_cases k9 : f.f0 = 9
   ·by_cases a : f.f1 ≥ s0
    ·refine Ev.step fun k => ?_
     rw [q4_Right.j3, if_neg (by decide), if_neg k6, if_pos k9, if_pos a, decide_eq_false (show ¬ FitP s0 fs.length f from fun h => by rcases h.2.2 with e | e | e | e | e | e <;> omega), Bool.false_and]
    ·refine hih.succ fun k hk => ?_
     rw [q4_Right.j3, if_neg (by decide), if_neg k6, if_pos k9, if_neg a, wrap_nat i hi, hk, decide_eq_true (show FitP s0 fs.length f from ⟨hA, hB, .inr (.inr (.inr (.inr (.inr ⟨k9, by omega⟩))))⟩), Bool.true_and]
   ·refine Ev.step fun k => ?_
    rw [q4_Right.j3, if_neg (by decide), if_neg k6, if_neg k9, decide_eq_false (show ¬ FitP s0 fs.length f from fun h => by rcases h.2.2 with e | e | e | e | e | e <;> omega), Bool.false_and]
  refine h3F.succ fun k hk => ?_
  rw [q4_Right.j2, if_neg (by decide), if_neg k3, if_neg k4, if_neg k5, show (f.f0 == 8) = false by simpa using k8, hk]
 have hNo : ¬ FitP s0 fs.length f → Ev fun k => q4_Right.j2 k l (i : Int) true s0 fs rs f.f0 f.f1 f.f2 f.f3 = some (decide (FitP s0 fs.length f) && r) := fun hn => h2T.mono fun k hk => by rw [hk, decide_eq_false hn, Bool.false_and]
 by_cases a1 : f.f1 < 0
 ·exact (hNo (fun h => by have := h.1; omega)).succ fun k hk => by rw [q4_Right.j1, if_neg (by decide), if_pos a1]; exact hk
 by_cases a2 : f.f1 > 1000001
 ·exact (hNo (fun h => by have := h.1; omega)).succ fun k hk => by rw [q4_Right.j1, if_neg (by decide), if_neg a1, if_pos a2]; exact hk
 by_cases a3 : f.f3 < 0
 ·exact (hNo (fun h => by have := h.1; omega)).succ fun k hk => by rw [q4_Right.j1, if_neg (by decide), if_neg a1, if_neg a2, if_pos a3]; exact hk
 by_cases a4 : f.f3 > 1000001
 ·exact (hNo (fun h => by have := h.1; omega)).succ fun k hk => by rw [q4_Right.j1, if_neg (by decide), if_neg a1, if_neg a2, if_neg a3, if_pos a4]; exact hk
 have hA : 0 ≤ f.f1 ∧ f.f1 ≤ 1000001 ∧ 0 ≤ f.f3 ∧ f.f3 ≤ 1000001 := by omega
 by_cases k3 : f.f0 = 3
 ·exact (hKind hA (.inl k3)).succ fun k hk => by rw [q4_Right.j1, if_neg (by decide), if_neg a1, if_neg a2, if_neg a3, if_neg a4, if_pos k3]; exact hk
 by_cases he : f.f2.toList = []
 ·exact (hKind hA (.inr he)).succ fun k hk => by rw [q4_Right.j1, if_neg (by decide), if_neg a1, if_neg a2, if_neg a3, if_neg a4, if_neg k3, show (f.f2.toList != ([] : List UInt8)) = false by simp [he]]; exact hk
 ·exact (hNo (fun h => h.2.1.elim k3 he)).succ fun k hk => by rw [q4_Right.j1, if_neg (by decide), if_neg a1, if_neg a2, if_neg a3, if_neg a4, if_neg k3, show (f.f2.toList != ([] : List UInt8)) = true by simp [he]]; exact hk
theorem facts_loop (l : List Fa) (hm : l.length ≤ 1000000) (d : Nat) : ∀ i, i + d = l.length →
  Ev fun k => q4_Right.l0 k l (i : Int) s0 fs rs = some (((List.range l.length).drop i).all (fun j => decide (AreAt s0 fs.length l j))) := by
 induction d with
 | zero =>
  intro i h
  refine Ev.step fun k => ?_
  rw [q4_Right.l0, if_neg (by omega), drop_len _ i (by simp; omega)]
  rfl
 | succ d ih =>
  intro i h
  have hi : i < l.length := by omega
  rw [range_drop l.length i hi, List.all_cons]
  have hone := fact_one s0 fs rs l i (by omega) (rd_T41 l (i : Int)) _ (ih (i + 1) (by omega))
  by_cases h0 : i = 0
  ·refine hone.succ fun k hk => ?_
   rw [q4_Right.l0, if_pos (by omega), if_pos (by omega), if_neg (by omega), hk]
   congr 2
   exact decide_eq_decide.2 ⟨fun h => ⟨h, fun h1 => by omega⟩, fun h => h.1⟩
  ·have hw : wrap64 ((i : Int) - 1) = ((i - 1 : Nat) : Int) := by unfold wrap64; omega
   have hb := before_tells (rd_T41 l ((i - 1 : Nat) : Int)) (rd_T41 l (i : Int))
   by_cases hlf : LF (rd_T41 l ((i - 1 : Nat) : Int)) (rd_T41 l (i : Int))
   ·refine hone.succ fun k hk => ?_
    rw [q4_Right.l0, if_pos (by omega), if_pos (by omega), if_pos (by omega), hw, if_pos (by omega), if_pos (by omega), hb, Option.bind_some, @decide_eq_true _ (Lu.lfDec _ _) hlf, show (!true) = false from rfl, hk]
    congr 2
    exact decide_eq_decide.2 ⟨fun h => ⟨h, fun _ => hlf⟩, fun h => h.1⟩
   ·have hyes : Ev fun k => q4_Right.j1 k l (i : Int) true s0 fs rs (rd_T41 l (i : Int)).f0 (rd_T41 l (i : Int)).f1 (rd_T41 l (i : Int)).f2 (rd_T41 l (i : Int)).f3 = some false := Ev.step fun k => by rw [q4_Right.j1, if_pos rfl]
    refine hyes.succ fun k hk => ?_
    rw [q4_Right.l0, if_pos (by omega), if_pos (by omega), if_pos (by omega), hw, if_pos (by omega), if_pos (by omega), hb, Option.bind_some, @decide_eq_false _ (Lu.lfDec _ _) hlf, show (!false) = true from rfl, hk, decide_eq_false (show ¬ AreAt s0 fs.length l i from fun h => hlf (h.2 (by omega))), Bool.false_and]
theorem right14_tells (l : List Fa) (hm : l.length ≤ 1000000) (hf : fs.length ≤ 1000) (hr : rs.length ≤ 1000) (hp : ∀ f ∈ fs, f.f1.length ≤ 1000000) (hx : ∀ x ∈ rs, x.f8.length ≤ 1000000) :
  Ev fun k => q4_Right.f k s0 fs rs l = some (rightB s0 fs rs && areB s0 fs.length l) := by
 refine ((right13_tells s0 fs rs hf hr hp hx).and (facts_loop s0 fs rs l hm l.length 0 (by omega))).mono fun k hk => ?_
 obtain ⟨k1, k2⟩ := hk
 rw [q4_Right.f, k1, Option.bind_some]
 cases rightB s0 fs rs
 ·rw [if_neg (by decide), Bool.false_and]
 ·rw [if_pos rfl, show (0 : Int) = ((0 : Nat) : Int) from rfl, k2, Bool.true_and, List.drop_zero]
  rfl
end
end Go.Proofs.Ytngppcmdaanheaa.Lv
namespace Go.Proofs.Ytngppcmdaanheaa.Pure
open Go.RowKit Go.Proofs.Ytngppcmdaanheaa.Pr Go.Proofs.Ytngppcmdaanheaa.Ls Go.Proofs.Ytngppcmdaanheaa.Lv Go.Proofs.Ytngppcmdaanheaa.Ev Go.Proofs.YtngppcmdaanheaaW.PrintWords Go.Proofs.YtngppcmdaanheaaW.PrintMore
set_option linter.unusedVariables false
set_option linter.unusedSimpArgs false
theorem same_loop (l : List S41) (hm : l.length ≤ 9000000000000000000) (d : Nat) : ∀ i : Nat, i + d = l.length → Ev fun k => q8_SameFacts.l0 k l l (i : Int) = some true := by
 induction d with
 | zero =>
  intro i h
  refine Ev.step fun k => ?_
  rw [q8_SameFacts.l0, if_neg (by omega)]
 | succ d ih =>
  intro i h
  refine (ih (i + 1) (by omega)).succ fun k hk => ?_
  have hw : wrap64 ((i : Int) + 1) = ((i + 1 : Nat) : Int) := by unfold wrap64; omega
  rw [q8_SameFacts.l0, if_pos (by omega), if_pos (by omega), if_pos (by omega), if_neg (by simp), hw, hk]
theorem same_self (l : List S41) (hm : l.length ≤ 9000000000000000000) : Ev fun k => q8_SameFacts.f k l l = some true :=
 (same_loop l hm l.length 0 (by omega)).mono fun k hk => by rw [q8_SameFacts.f, if_pos rfl]; exact hk
theorem key_of {s0 : Int} {nf : Nat} {l : List S41} (h : FactsOk s0 nf l) : Lu.keyOk l := fun f hf h3 => (h.ok f hf).s h3
theorem ref_tells {s0 : Int} {fs : List S44} {rs : List S46} {l : List Fa} (hs : SysOk s0 fs rs) (hl : FactsOk s0 fs.length l) : q4_Round.f s0 fs rs l = some (factSet (roundL (roC s0 fs rs l))) := by
 unfold q4_Round.f
 rw [if_pos ⟨round_ok hs hl, key_of hl⟩]
theorem LeastRounds (s : Int) (fs : List S44) (rs : List S46)
  (h0 : (Lit.int .i64 s).wf = true ∧ (∀ a ∈ fs, (Lit.int .i64 a.f0).wf = true ∧ (∀ y ∈ a.f1, (Lit.int .i64 y).wf = true) ∧ (Lit.int .i64 a.f2).wf = true ∧ (Lit.int .i64 a.f3).wf = true ∧ (Lit.int .i64 a.f4).wf = true) ∧
   ∀ a ∈ rs, (Lit.int .i64 a.f0).wf = true ∧ (Lit.int .i64 a.f1).wf = true ∧ (Lit.int .i64 a.f2).wf = true ∧ (Lit.int .i64 a.f3).wf = true ∧ (Lit.int .i64 a.f4).wf = true ∧ (Lit.int .i64 a.f5).wf = true ∧ (Lit.int .i64 a.f6).wf = true ∧ a.f7.size ≤ maxLen ∧ ∀ y ∈ a.f8, (Lit.int .i64 y).wf = true)
  (l1 : List S41) (h1 : ∀ a ∈ l1, (Lit.int .i64 a.f0).wf = true ∧ (Lit.int .i64 a.f1).wf = true ∧ a.f2.size ≤ maxLen ∧ (Lit.int .i64 a.f3).wf = true) :
  ∃ k, l4_LeastRounds.f k s fs rs l1 = some true := by
 have hln : (l1.take 60).length ≤ 60 := by rw [List.length_take]; omega
 rcases small_tells s fs rs with h | ⟨hsm, h⟩
 ·refine (shown_tells.and h).mono (fun k hk => ?_) |>.ex
  obtain ⟨k1, k2⟩ := hk
  unfold l4_LeastRounds.f
  rw [k1, Option.bind_some, k2, Option.bind_some, if_pos rfl]
 ·have hz : ∀ f ∈ l1.take 60, f.f2.size ≤ maxLen := fun f hf => (h1 f (List.mem_of_mem_take hf)).2.2.1
  have hp : ∀ f ∈ fs, f.f1.length ≤ 1000000 := fun f hf => Nat.le_trans (hsm.2.2.2.1 f hf) (by decide)
  have hx : ∀ x ∈ rs, x.f8.length ≤ 1000000 := fun x hx => Nat.le_trans (hsm.2.2.2.2 x hx).1 (by decide)
  have hR := right13_tells s fs rs (Nat.le_trans hsm.1 (by decide)) (Nat.le_trans hsm.2.1 (by decide)) hp hx
  have hT := right14_tells s fs rs (l1.take 60) (by omega) (Nat.le_trans hsm.1 (by decide)) (Nat.le_trans hsm.2.1 (by decide)) hp hx
  by_cases hb : rightB s fs rs = true ∧ areB s fs.length (l1.take 60) = true
  ·obtain ⟨hr, ha⟩ := hb
   have hA := Round_tells hsm (by omega) hz hr ha
   have hB := Closed_tells hsm (by omega) hz hr ha
   have hrf := ref_tells (sys_of hsm hr) (facts_of ha (by omega) hz)
   have hn : (factSet (roundL (roC s fs rs (l1.take 60)))).length ≤ 9000000000000000000 := by
    have h3 := factSet_rises (roundL (roC s fs rs (l1.take 60)))
    have hn : (factSet (roundL (roC s fs rs (l1.take 60)))).Nodup := h3.1.imp (fun {a b} hab e => by subst e; exact LF.irrefl _ hab)
    have h4 := hn.length_le_of_subset (fun x hx => (h3.2 x).1 hx)
    have h5 := (round_ok (sys_of hsm hr) (facts_of ha (by omega) hz)).good.2
    rw [Nat.zero_add] at h5
    exact Nat.le_trans h4 (Nat.le_trans h5 (by decide))
   refine ((((((shown_tells.and h).and hA).and hB).and hR).and hT).and (same_self _ hn)).mono (fun k hk => ?_) |>.ex
   obtain ⟨⟨⟨⟨⟨⟨k1, k2⟩, k3⟩, k4⟩, k5⟩, k6⟩, k7⟩ := hk
   unfold l4_LeastRounds.f
   rw [k1, Option.bind_some, k2, Option.bind_some, if_neg (by decide)]
   simp only [Lv.few_tells, Option.bind_some]
   rw [k3, Option.bind_some, k4, Option.bind_some, k5, Option.bind_some, k6, Option.bind_some, hr, ha]
   simp [hrf, k7]
  ·have hA := Round_no hsm (by omega) hb
   have hB := Closed_no hsm (by omega) hb
   refine (((((shown_tells.and h).and hA).and hB).and hR).and hT).mono (fun k hk => ?_) |>.ex
   obtain ⟨⟨⟨⟨⟨k1, k2⟩, k3⟩, k4⟩, k5⟩, k6⟩ := hk
   unfold l4_LeastRounds.f
   rw [k1, Option.bind_some, k2, Option.bind_some, if_neg (by decide)]
   simp only [Lv.few_tells, Option.bind_some]
   rw [k3, Option.bind_some, k4, Option.bind_some, k5, Option.bind_some, k6, Option.bind_some]
   by_cases hr : rightB s fs rs = true
   ·have ha : areB s fs.length (l1.take 60) = false := by simpa using fun h => hb ⟨hr, h⟩
    rw [hr, ha]
    simp
   ·have hr' : rightB s fs rs = false := by simpa using hr
    rw [hr']
    simp
end Go.Proofs.Ytngppcmdaanheaa.Pure
namespace Go.Proofs.Ytngppcmdaanheaa.Opens
open Go.RowKit Go.Deep Go.ChangeShapes Go.WideShapes Go.Proofs.YtngppcmdaanheaaW.PrintWords
set_option linter.unusedVariables false
def OpensTo {α : Type} (P : Program) (t : TypeId) (K : World → α → List Value → Prop) (Wf : α → Prop) : Prop :=
 ∀ (H : Type) (enc : TypeId × Value → H) (w : World) (base : Nat) (sp : Nat → Bool) (held : Bool) (fuel : Nat) (cs : List Value) (x : DataW H × List MemPlace), DataW.trod enc P w base sp held fuel t cs = some x → ∃ a, K w a cs ∧ Wf a
variable {P : Program} {t e : TypeId}
theorem opens_int {k : IntKind} (ht : P.underlying t = some (.int k)) : OpensTo P t (Kd.int k).K (fun n => (Lit.int k n).wf = true) := by
 intro H enc w base sp held fuel cs x h
 cases fuel with
 | zero => simp [DataW.trod] at h
 | succ fuel =>
  unfold DataW.trod at h
  rw [ht] at h
  split at h <;> first | (rename_i heq; cases heq; done) | (cases h; done) | skip
  rename_i heq
  injection heq with heq
  injection heq with heq
  subst heq
  split at h
  ·rename_i hk
   obtain ⟨rfl, hk⟩ := hk
   exact ⟨_, rfl, hk⟩
  ·exact absurd h (by simp)
theorem opens_string (ht : P.underlying t = some .string) : OpensTo P t Kd.string.K (fun s => s.size ≤ maxLen) := by
 intro H enc w base sp held fuel cs x h
 cases fuel with
 | zero => simp [DataW.trod] at h
 | succ fuel =>
  unfold DataW.trod at h
  rw [ht] at h
  split at h <;> first | (rename_i heq; cases heq; done) | (cases h; done) | skip
  split at h
  ·rename_i hk
   exact ⟨_, rfl, hk⟩
  ·exact absurd h (by simp)
theorem opens_slice {α : Type} [Inhabited α] {d : Kd α} {Wf : α → Prop} (ht : P.underlying t = some (.slice e)) (hc : P.cellsOf e = d.sz) (he : OpensTo P e d.K Wf) : OpensTo P t (Kd.slice e d).K (fun l => ∀ a ∈ l, Wf a) := by
 intro H enc w base sp held fuel cs x h
 rcases open_slice ht h with ⟨rfl, _⟩ | ⟨a, len, cap, m, n, D, Pl, rfl, hb, hl, hcap, hm, _, hel⟩
 ·exact ⟨[], ⟨none, 0, rfl, Nat.le_refl _, rfl, by simp, fun h => by simp at h⟩, by simp⟩
 ·have hmm : len ≤ m := by rw [hm]; split <;> omega
  have hx : ∀ i, i < len → ∃ (y : α) (cs' : List Value), w.cells? base (a.add (i * d.sz)) d.sz = some cs' ∧ d.K w y cs' ∧ Wf y := by
   intro i hi
   obtain ⟨cs', h1, h2⟩ := hel i (by omega)
   rw [hc] at h1
   obtain ⟨y, h3, h4⟩ := he H enc w base sp held n cs' _ h2
   exact ⟨y, cs', h1, h3, h4⟩
  let f : Nat → α := fun i => if h : i < len then Classical.choose (hx i h) else default
  have hf : ∀ i, i < len → ∃ cs', w.cells? base (a.add (i * d.sz)) d.sz = some cs' ∧ d.K w (f i) cs' ∧ Wf (f i) := by
   intro i hi
   have : f i = Classical.choose (hx i hi) := dif_pos hi
   rw [this]
   exact Classical.choose_spec (hx i hi)
  have hlen : ((List.range len).map f).length = len := by simp
  refine ⟨(List.range len).map f, ⟨some a, cap, by rw [hlen], by rw [hlen]; exact hl, ?_⟩, ?_⟩
  ·refine ⟨rfl, by rw [hlen]; simp only [maxLen] at hcap; omega, fun _ => ⟨a, rfl, fun j p hj => ?_⟩⟩
   have hj' : j < len := by
    have := (List.getElem?_eq_some_iff.1 hj).1
    omega
   have hp : p = f j := by simp [hj'] at hj; exact hj.symm
   subst hp
   obtain ⟨cs', h1, h2, _⟩ := hf j hj'
   refine ⟨cs', d.K_len h2, h2, fun i u hu => ?_⟩
   obtain ⟨_, h3, h4⟩ := World.cells?_some h1
   have hi : i < d.sz := by have := (List.getElem?_eq_some_iff.1 hu).1; have := d.K_len h2; omega
   have h5 := h4 i hi
   rw [show (a.add (j * d.sz + i)) = (a.add (j * d.sz)).add i from ?_, h5, hu]
   unfold Addr.add
   by_cases e1 : j * d.sz = 0 <;> by_cases e2 : i = 0 <;> simp [e1, e2, Nat.add_assoc]
  ·intro y hy
   rw [List.mem_map] at hy
   obtain ⟨i, hi, rfl⟩ := hy
   obtain ⟨_, _, _, h⟩ := hf i (List.mem_range.1 hi)
   exact h
theorem slice_of_K {α : Type} {d : Kd α} {w : World} {l : List α} {v : Value} {A : Option Addr} {n c : Nat} (hv : v = .slice A n c) (h : (Kd.slice e d).K w l v.cells.toList) : n = l.length ∧ l.length ≤ c ∧ d.C w A l.length l := by
 subst hv
 obtain ⟨A', c', h1, h2, h3⟩ := h
 simp [Value.cells] at h1
 obtain ⟨rfl, rfl, rfl⟩ := h1
 exact ⟨rfl, h2, h3⟩
/-! ### structs -/
def OpensFs {β : Type} (P : Program) (fs : List Field) (o sz : Nat) (K : World → β → List Value → Prop) (Wf : β → Prop) : Prop :=
 ∀ (H : Type) (enc : TypeId × Value → H) (w : World) (base : Nat) (sp : Nat → Bool) (held : Bool) (fuel : Nat) (cs : List Value) (xs : List (DataW H × List MemPlace)), cs.length = o + sz →
  (fs.mapM fun f => DataW.trod enc P w base sp held fuel f.type ((cs.drop f.offset).take (P.cellsOf f.type))) = some xs → ∃ b, K w b (cs.drop o) ∧ Wf b
theorem opensFs_last {β : Type} {K : World → β → List Value → Prop} {Wf : β → Prop} {f : Field} {o sz : Nat} (ho : f.offset = o) (hc : P.cellsOf f.type = sz) (h : OpensTo P f.type K Wf) : OpensFs P [f] o sz K Wf := by
 intro H enc w base sp held fuel cs xs hl hx
 rw [List.mapM_cons] at hx
 cases hq : DataW.trod enc P w base sp held fuel f.type ((cs.drop f.offset).take (P.cellsOf f.type)) with
 | none => rw [hq] at hx; cases hx
 | some y =>
  obtain ⟨b, h1, h2⟩ := h H enc w base sp held fuel _ _ hq
  rw [ho, hc, List.take_of_length_le (by rw [List.length_drop]; omega)] at h1
  exact ⟨b, h1, h2⟩
theorem opensFs_cons {α β : Type} {da : Kd α} {db : Kd β} {Wa : α → Prop} {Wb : β → Prop} {f : Field} {fs : List Field} {o sz : Nat} (ho : f.offset = o) (hc : P.cellsOf f.type = da.sz) (h : OpensTo P f.type da.K Wa) (hs : OpensFs P fs (o + da.sz) sz db.K Wb) :
  OpensFs P (f :: fs) o (da.sz + sz) (Kd.pair da db).K (fun x => Wa x.1 ∧ Wb x.2) := by
 intro H enc w base sp held fuel cs xs hl hx
 rw [List.mapM_cons] at hx
 cases hq : DataW.trod enc P w base sp held fuel f.type ((cs.drop f.offset).take (P.cellsOf f.type)) with
 | none => rw [hq] at hx; cases hx
 | some y =>
  rw [hq] at hx
  cases hr : (fs.mapM fun f => DataW.trod enc P w base sp held fuel f.type ((cs.drop f.offset).take (P.cellsOf f.type))) with
  | none => rw [hr] at hx; cases hx
  | some ys =>
   obtain ⟨a, h1, h2⟩ := h H enc w base sp held fuel _ _ hq
   obtain ⟨b, h3, h4⟩ := hs H enc w base sp held fuel cs ys (by omega) hr
   rw [ho, hc] at h1
   refine ⟨(a, b), ⟨_, _, ?_, h1, h3⟩, h2, h4⟩
   rw [← List.drop_drop, List.take_append_drop]
theorem opens_struct {α : Type} {d : Kd α} {Wf : α → Prop} {fs : Array Field} (ht : P.underlying t = some (.struct fs)) (hc : P.cellsOf t = d.sz) (h : OpensFs P fs.toList 0 d.sz d.K Wf) : OpensTo P t d.K Wf := by
 intro H enc w base sp held fuel cs x hx
 cases fuel with
 | zero => simp [DataW.trod] at hx
 | succ fuel =>
  unfold DataW.trod at hx
  rw [ht] at hx
  dsimp only at hx
  split at hx
  ·rename_i hl
   rw [Option.map_eq_some_iff] at hx
   obtain ⟨xs, hxs, _⟩ := hx
   have := h H enc w base sp held fuel _ _ (by rw [hl, hc, Nat.zero_add]) hxs
   simpa using this
  ·cases hx
theorem opens_iso {α β : Type} {d : Kd α} (f : β → α) (g : α → β) (hfg : ∀ x, f (g x) = x) {Wf : α → Prop} (h : OpensTo P t d.K Wf) : OpensTo P t (Kd.iso d f).K (fun x => Wf (f x)) := by
 intro H enc w base sp held fuel cs x hx
 obtain ⟨a, h1, h2⟩ := h H enc w base sp held fuel cs x hx
 refine ⟨g a, ?_, ?_⟩
 ·show d.K w (f (g a)) cs
  rw [hfg]; exact h1
 ·show Wf (f (g a))
  rw [hfg]; exact h2
end Go.Proofs.Ytngppcmdaanheaa.Opens
/- The row of LeastRounds, out of its contract and its plain law. No condition. -/
namespace Go.Proofs.Ytngppcmdaanheaa.leastRounds
open Go.ChangeShapes Go.WideShapes Go.ChangeAt Go.RowKit
open Go.ChangeMaps (open_string shut_string)
open Go.Proofs.Ytngppcmdaanheaa Go.Proofs.YtngppcmdaanheaaW.PrintWords
set_option linter.unusedVariables false
theorem own : ownKnob Try.prog.godebug = none := by kernel_rfl
theorem laidOut : laidOutB Try.prog = true := by kernel_rfl
instance : Inhabited Pr.S44 := ⟨Pr.z44⟩
instance : Inhabited Pr.S46 := ⟨Pr.z46⟩
instance : Inhabited Pr.S41 := ⟨Pr.z41⟩
set_option maxRecDepth 100000 in
theorem lifted (os : Os) (started : os.Started) (H : Type) (enc : TypeId × Value → H) :
    ReturnsInHanded {} Try.checked os 3 .any (Rows.leastRoundsSpec.pre6 enc Try.prog Try.f3 Rows.leastRoundsRow.domain false) (Rows.leastRoundsSpec.post enc Try.prog Try.f3 false true false false) := by
  refine returnsInHanded_of_change_sized (C := Try.checked) own started (by kernel_rfl) Try.func3
    (ChangeSpec.witness6 (enc := enc) (C := Try.checked) false ⟨#[], #[.agg #[.int .i64 0, .slice none 0 0, .slice none 0 0], .slice none 0 0], []⟩ 8 (by kernel_rfl) (by kernel_rfl) (by kernel_rfl) (by kernel_rfl)) ?_
  intro W base args ds gs before hval0 hW hcnd hsz0 _
  have hsz : (DataW.weightsEach Try.prog (Try.f3.params.toList ++ Rows.leastRoundsSpec.plain.varTypes Try.prog) (ds ++ gs)).all (· ≤ reachBytes) = true := hsz0
  have hval : ∀ (j : Nat) t v, Try.f3.params[j]? = some t → args[j]? = some v → Value.okWide Try.prog W .any base t v := hval0
  have hW' := hW
  obtain ⟨p, q, hA0, hV, rfl, hfz, hnd⟩ := hW
  have hA : DataW.TrodAll enc Try.prog W 0 (fun _ => true) true Try.f3.params.toList args.toList ds p := hA0
  rw [Try.params3] at hA hval hsz
  obtain ⟨v0, vs0, d0, ds0, p0, q0, hargs, rfl, rfl, h0, r0⟩ := trodAll_cons hA
  obtain ⟨v1, vs1, d1, ds1, p1, q1, rfl, rfl, rfl, h1, r1⟩ := trodAll_cons r0
  obtain ⟨rfl, rfl, rfl⟩ := trodAll_nil r1
  obtain rfl : args = #[v0, v1] := by cases args; simp_all
  obtain ⟨rfl, rfl⟩ := trodVars_none hV
  obtain ⟨cs0, rfl, _⟩ := okWide_struct Try.underlying25 (hval 0 25 v0 rfl rfl)
  have k0 := h0
  have lt0 : ∀ x ∈ p0, x.block < W.heap.size := by obtain ⟨m, hm⟩ := k0; exact DataW.trod_lt m _ _ _ hm
  obtain ⟨m0, hm0⟩ := h0
  obtain ⟨x0, hK0, hw0⟩ := (Opens.opens_struct (d := Kd.pair (Kd.int .i64) (Kd.pair (Kd.slice 44 (Pr.k44)) (Kd.slice 46 (Pr.k46)))) Try.underlying25 (by kernel_rfl) (Opens.opensFs_cons (da := Kd.int .i64) rfl (by kernel_rfl) (Opens.opens_int Try.underlying3) (Opens.opensFs_cons (da := Kd.slice 44 (Pr.k44)) rfl (by kernel_rfl) (Opens.opens_slice (d := Pr.k44) Try.underlying22 (by kernel_rfl) (Opens.opens_iso (fun x : Pr.S44 => (x.f0, x.f1, x.f2, x.f3, x.f4)) (fun y => (⟨y.1, y.2.1, y.2.2.1, y.2.2.2.1, y.2.2.2.2⟩ : Pr.S44)) (fun _ => rfl) (Opens.opens_struct Try.underlying44 (by kernel_rfl) (Opens.opensFs_cons (da := Kd.int .i64) rfl (by kernel_rfl) (Opens.opens_int Try.underlying3) (Opens.opensFs_cons (da := Kd.slice 3 (Kd.int .i64)) rfl (by kernel_rfl) (Opens.opens_slice (d := Kd.int .i64) Try.underlying42 (by kernel_rfl) (Opens.opens_int Try.underlying3)) (Opens.opensFs_cons (da := Kd.int .i64) rfl (by kernel_rfl) (Opens.opens_int Try.underlying3) (Opens.opensFs_cons (da := Kd.int .i64) rfl (by kernel_rfl) (Opens.opens_int Try.underlying3) (Opens.opensFs_last rfl (by kernel_rfl) (Opens.opens_int Try.underlying3))))))))) (Opens.opensFs_last rfl (by kernel_rfl) (Opens.opens_slice (d := Pr.k46) Try.underlying23 (by kernel_rfl) (Opens.opens_iso (fun x : Pr.S46 => (x.f0, x.f1, x.f2, x.f3, x.f4, x.f5, x.f6, x.f7, x.f8)) (fun y => (⟨y.1, y.2.1, y.2.2.1, y.2.2.2.1, y.2.2.2.2.1, y.2.2.2.2.2.1, y.2.2.2.2.2.2.1, y.2.2.2.2.2.2.2.1, y.2.2.2.2.2.2.2.2⟩ : Pr.S46)) (fun _ => rfl) (Opens.opens_struct Try.underlying46 (by kernel_rfl) (Opens.opensFs_cons (da := Kd.int .i64) rfl (by kernel_rfl) (Opens.opens_int Try.underlying3) (Opens.opensFs_cons (da := Kd.int .i64) rfl (by kernel_rfl) (Opens.opens_int Try.underlying3) (Opens.opensFs_cons (da := Kd.int .i64) rfl (by kernel_rfl) (Opens.opens_int Try.underlying3) (Opens.opensFs_cons (da := Kd.int .i64) rfl (by kernel_rfl) (Opens.opens_int Try.underlying3) (Opens.opensFs_cons (da := Kd.int .i64) rfl (by kernel_rfl) (Opens.opens_int Try.underlying3) (Opens.opensFs_cons (da := Kd.int .i64) rfl (by kernel_rfl) (Opens.opens_int Try.underlying3) (Opens.opensFs_cons (da := Kd.int .i64) rfl (by kernel_rfl) (Opens.opens_int Try.underlying3) (Opens.opensFs_cons (da := Kd.string) rfl (by kernel_rfl) (Opens.opens_string Try.underlying9) (Opens.opensFs_last rfl (by kernel_rfl) (Opens.opens_slice (d := Kd.int .i64) Try.underlying42 (by kernel_rfl) (Opens.opens_int Try.underlying3)))))))))))))))))) H enc W 0 _ true m0 _ _ hm0
  obtain ⟨_, _, e0, q0_0, _, _, rfl, q0_1, q0_2⟩ := hK0
  obtain rfl := q0_0
  obtain ⟨A0_1, c0_1, rfl, hc0_1, hr0_1⟩ := q0_1
  obtain ⟨A0_2, c0_2, rfl, hc0_2, hr0_2⟩ := q0_2
  obtain rfl : cs0 = #[.int .i64 x0.1, .slice A0_1 x0.2.1.length c0_1, .slice A0_2 x0.2.2.length c0_2] := by have e0' := congrArg List.toArray e0; simpa [Value.cells] using e0'
  obtain ⟨a1, len1, cap1, rfl⟩ := okWide_slice Try.underlying26 (hval 1 26 v1 rfl rfl)
  have k1 := h1
  have lt1 : ∀ x ∈ p1, x.block < W.heap.size := by obtain ⟨m, hm⟩ := k1; exact DataW.trod_lt m _ _ _ hm
  obtain ⟨m1, hm1⟩ := h1
  obtain ⟨l1, hK1, hw1⟩ := (Opens.opens_slice (d := Pr.k41) Try.underlying26 (by kernel_rfl) (Opens.opens_iso (fun x : Pr.S41 => (x.f0, x.f1, x.f2, x.f3)) (fun y => (⟨y.1, y.2.1, y.2.2.1, y.2.2.2⟩ : Pr.S41)) (fun _ => rfl) (Opens.opens_struct Try.underlying41 (by kernel_rfl) (Opens.opensFs_cons (da := Kd.int .i64) rfl (by kernel_rfl) (Opens.opens_int Try.underlying3) (Opens.opensFs_cons (da := Kd.int .i64) rfl (by kernel_rfl) (Opens.opens_int Try.underlying3) (Opens.opensFs_cons (da := Kd.string) rfl (by kernel_rfl) (Opens.opens_string Try.underlying9) (Opens.opensFs_last rfl (by kernel_rfl) (Opens.opens_int Try.underlying3)))))))) H enc W 0 _ true m1 _ _ hm1
  obtain ⟨hn1, hc1, hr1⟩ := Opens.slice_of_K rfl hK1
  subst hn1
  clear hA0 hval0 hsz0 hsz
  have hP := Pure.LeastRounds x0.1 x0.2.1 x0.2.2 hw0 l1 hw1
  obtain ⟨k, hP⟩ := hP
  refine (Pr.l4_LeastRounds.calls k x0.1 _ _ x0.2.1 _ _ x0.2.2 _ _ l1 true W hr0_1 hc0_1 hr0_2 hc0_2 hr1 hc1 hP).mono fun e W' ⟨he, bel⟩ => ?_
  subst he
  exact ⟨_, rfl, _, _, _, [], _, [], hW', trodAll_mk1 (shut_bool Try.underlying4 _), (trodAll_cons_mk (Below.trod laidOut (by kernel_rfl) (of_decide_eq_true (by kernel_rfl)) k0 bel lt0) (trodAll_cons_mk (Below.trod laidOut (by kernel_rfl) (of_decide_eq_true (by kernel_rfl)) k1 bel lt1) trodAll_mk0)), rfl, bel.frame _, fun h => by cases h⟩
theorem over : Rows.leastRoundsRow.holds Try.pinned (OpenSpec.ofChange Rows.leastRoundsSpec) :=
  OpenClaim.holds_of_wide 3 Try.f3 rfl rfl rfl rfl rfl rfl rfl ⟨rfl, rfl, rfl, rfl, rfl⟩ rfl rfl rfl rfl rfl (by kernel_rfl) Try.func3 (by kernel_rfl)
    (of_decide_eq_true (by kernel_rfl)) (by unfold Func.isWrapper; first | (rw [if_pos (by decide +kernel)]; kernel_rfl) | (rw [if_neg (by decide +kernel)]; exact ⟨rfl, rfl⟩))
    (fun os started H enc _ => lifted os started H enc)
theorem proved : Rows.LeastRoundsSaid := over
end Go.Proofs.Ytngppcmdaanheaa.leastRounds
namespace Go.Proofs.Ytngppcmdaanheaa
theorem leastRounds_holds : Rows.LeastRoundsSaid := leastRounds.proved
end Go.Proofs.Ytngppcmdaanheaa
