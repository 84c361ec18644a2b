/- Lemmas for the claims of this seat (own texts, packed; what the claims do not use is left out). No condition. -/
import Derived.Test.YtngppcmdaanheaaMn0
import Derived.Test.YtngppcmdaanheaaMn1
import Derived.Test.YtngppcmdaanheaaMn3
import Derived.Test.YtngppcmdaanheaaMn4
namespace Go.Proofs.Ytngppcmdaanheaa.Pr
open Go.RowKit Go.Proofs.Ytngppcmdaanheaa.Ls Go.Proofs.Ytngppcmdaanheaa.Va Go.Proofs.YtngppcmdaanheaaW.PrintWords Go.Proofs.YtngppcmdaanheaaW.PrintLast Go.Proofs.YtngppcmdaanheaaW.PrintMore
attribute [local go_sem] max2_int min2_int max_two min_two
set_option linter.unusedVariables false
set_option linter.unusedSimpArgs false
/-! ### e_check: function 20 -/
def e_check.f (k : Nat) (a0_0 : Int) (l0_1 : List (S44)) (l0_2 : List (S46)) (l1 : List (S41)) : Option (Int) := (v_Right.f a0_0 l0_1 l0_2).bind fun t123 => (if t123 = true then ((e_areRight.f k a0_0 l0_1 l0_2 l1).bind fun t124 => (if t124 = true then (some 0) else (some 140))) else (some 100))
set_option maxHeartbeats 8000000 in
set_option maxRecDepth 100000 in
theorem e_check.calls (k : Nat) (a0_0 : Int) (A0_1 : Option Addr) (c0_1 : Nat) (l0_1 : List (S44)) (A0_2 : Option Addr) (c0_2 : Nat) (l0_2 : List (S46)) (A1 : Option Addr) (c1 : Nat) (l1 : List (S41)) (r : Int) (w : World) (hr0_1 : Kd.C k44 w A0_1 l0_1.length l0_1) (hc0_1 : l0_1.length ≤ c0_1) (hr0_2 : Kd.C k46 w A0_2 l0_2.length l0_2) (hc0_2 : l0_2.length ≤ c0_2) (hr1 : Kd.C k41 w A1 l1.length l1) (hc1 : l1.length ≤ c1) (h : e_check.f k a0_0 l0_1 l0_2 l1 = some r) :
  Calls Try.prog 20 #[.agg #[.int .i64 a0_0, .slice A0_1 l0_1.length c0_1, .slice A0_2 l0_2.length c0_2], .slice A1 l1.length c1] w fun e w' => e = .returned (.int .i64 r) ∧ Below w.heap.size w w' := by
 have hu25 := Try.underlying25
 have HR0_1 := zm hr0_1
 have HC0_1 := zm hc0_1
 clear hr0_1 hc0_1
 have HR0_2 := zm hr0_2
 have HC0_2 := zm hc0_2
 clear hr0_2 hc0_2
 have HR1 := zm hr1
 have HC1 := zm hc1
 clear hr1 hc1
 have HB := zm (Below.refl w.heap.size w)
 have H : ((v_Right.f a0_0 l0_1 l0_2).bind fun t123 => (if t123 = true then ((e_areRight.f k a0_0 l0_1 l0_2 l1).bind fun t124 => (if t124 = true then (some 0) else (some 140))) else (some 100))) = some r := h
 clear h
 obtain ⟨t123, A3, H⟩ := zO H
 by_cases c4 : t123 = true
 ·subst c4
  rw [if_pos rfl] at H
  obtain ⟨t124, A5, H⟩ := zO H
  by_cases c6 : t124 = true
  ·subst c6
   rw [if_pos rfl] at H
   obtain rfl := Option.some.inj H
   go_enter Try.func20, Try.ntmps20
   go_wp2_with (first | ((with_reducible refine gate_dst (N := 2) rfl ?_); refine zX (N := 2) (cs := #[.int .i64 a0_0, .slice A0_1 l0_1.length c0_1, .slice A0_2 l0_2.length c0_2]) (t := 25) (h := ?_); intro gb122 hg w7 hbox hb; have BK122 := zm hbox; have GW122 := zm ((zS : w.heap.size ≤ gb122)); have GE122 := zm ((zS : w.heap.size ≤ gb122)); replace HB := zm (below_step zB hb); clear hb hbox hg; obtain ⟨hcz8_0, hcz8_1, hcz8_2, hfz8_0, hfz8_1, hfz8_2⟩ := zd3 BK122.out (.int .i64 a0_0) (.slice A0_1 l0_1.length c0_1) (.slice A0_2 l0_2.length c0_2)) | ((with_reducible refine gate_callee (f := 32) rfl ?_); refine goesL_ (some 7) rfl rfl Try.func32 (by kernel_rfl) rfl #[.agg #[.int .i64 a0_0, .slice A0_1 l0_1.length c0_1, .slice A0_2 l0_2.length c0_2]] rfl zP ?_; (with_reducible refine (v_Right.calls a0_0 _ _ l0_1 _ _ l0_2 true _ ?side1 ?side2 ?side3 ?side4 A3.out).mono ?_); (case side1 => exact zC (Kd.C_below HR0_1.out HB.out)); (case side2 => exact HC0_1.out); (case side3 => exact zC (Kd.C_below HR0_2.out HB.out)); (case side4 => exact HC0_2.out); rintro e w9 ⟨rfl, hb⟩; refine ⟨_, rfl, ?_⟩; replace BK122 := zm (blk_below (g := gb122) zK hb); replace HB := zm (below_step zG hb); (try clear hb); obtain ⟨hcz10_0, hcz10_1, hcz10_2, hfz10_0, hfz10_1, hfz10_2⟩ := zd3 BK122.out (.int .i64 a0_0) (.slice A0_1 l0_1.length c0_1) (.slice A0_2 l0_2.length c0_2)) | ((with_reducible refine gate_callee (f := 33) rfl ?_); refine goesL_ (some 12) rfl rfl Try.func33 (by kernel_rfl) rfl #[.agg #[.int .i64 a0_0, .slice A0_1 l0_1.length c0_1, .slice A0_2 l0_2.length c0_2], .slice A1 l1.length c1] rfl zP ?_; (with_reducible refine (e_areRight.calls k a0_0 _ _ l0_1 _ _ l0_2 _ _ l1 true _ ?side1 ?side2 ?side3 ?side4 ?side5 ?side6 A5.out).mono ?_); (case side1 => exact zC (Kd.C_below HR0_1.out HB.out)); (case side2 => exact HC0_1.out); (case side3 => exact zC (Kd.C_below HR0_2.out HB.out)); (case side4 => exact HC0_2.out); (case side5 => exact zC (Kd.C_below HR1.out HB.out)); (case side6 => exact HC1.out); rintro e w11 ⟨rfl, hb⟩; refine ⟨_, rfl, ?_⟩; replace BK122 := zm (blk_below (g := gb122) zK hb); replace HB := zm (below_step zG hb); (try clear hb)))
   go_ret
   exact ⟨zE, zG⟩
  ·replace c6 := Bool.eq_false_iff.mpr c6
   subst c6
   rw [if_neg (show ¬ (false = true) by decide)] at H
   obtain rfl := Option.some.inj H
   go_enter Try.func20, Try.ntmps20
   go_wp2_with (first | ((with_reducible refine gate_dst (N := 2) rfl ?_); refine zX (N := 2) (cs := #[.int .i64 a0_0, .slice A0_1 l0_1.length c0_1, .slice A0_2 l0_2.length c0_2]) (t := 25) (h := ?_); intro gb122 hg w12 hbox hb; have BK122 := zm hbox; have GW122 := zm ((zS : w.heap.size ≤ gb122)); have GE122 := zm ((zS : w.heap.size ≤ gb122)); replace HB := zm (below_step zB hb); clear hb hbox hg; obtain ⟨hcz13_0, hcz13_1, hcz13_2, hfz13_0, hfz13_1, hfz13_2⟩ := zd3 BK122.out (.int .i64 a0_0) (.slice A0_1 l0_1.length c0_1) (.slice A0_2 l0_2.length c0_2)) | ((with_reducible refine gate_callee (f := 32) rfl ?_); refine goesL_ (some 7) rfl rfl Try.func32 (by kernel_rfl) rfl #[.agg #[.int .i64 a0_0, .slice A0_1 l0_1.length c0_1, .slice A0_2 l0_2.length c0_2]] rfl zP ?_; (with_reducible refine (v_Right.calls a0_0 _ _ l0_1 _ _ l0_2 true _ ?side1 ?side2 ?side3 ?side4 A3.out).mono ?_); (case side1 => exact zC (Kd.C_below HR0_1.out HB.out)); (case side2 => exact HC0_1.out); (case side3 => exact zC (Kd.C_below HR0_2.out HB.out)); (case side4 => exact HC0_2.out); rintro e w14 ⟨rfl, hb⟩; refine ⟨_, rfl, ?_⟩; replace BK122 := zm (blk_below (g := gb122) zK hb); replace HB := zm (below_step zG hb); (try clear hb); obtain ⟨hcz15_0, hcz15_1, hcz15_2, hfz15_0, hfz15_1, hfz15_2⟩ := zd3 BK122.out (.int .i64 a0_0) (.slice A0_1 l0_1.length c0_1) (.slice A0_2 l0_2.length c0_2)) | ((with_reducible refine gate_callee (f := 33) rfl ?_); refine goesL_ (some 12) rfl rfl Try.func33 (by kernel_rfl) rfl #[.agg #[.int .i64 a0_0, .slice A0_1 l0_1.length c0_1, .slice A0_2 l0_2.length c0_2], .slice A1 l1.length c1] rfl zP ?_; (with_reducible refine (e_areRight.calls k a0_0 _ _ l0_1 _ _ l0_2 _ _ l1 false _ ?side1 ?side2 ?side3 ?side4 ?side5 ?side6 A5.out).mono ?_); (case side1 => exact zC (Kd.C_below HR0_1.out HB.out)); (case side2 => exact HC0_1.out); (case side3 => exact zC (Kd.C_below HR0_2.out HB.out)); (case side4 => exact HC0_2.out); (case side5 => exact zC (Kd.C_below HR1.out HB.out)); (case side6 => exact HC1.out); rintro e w16 ⟨rfl, hb⟩; refine ⟨_, rfl, ?_⟩; replace BK122 := zm (blk_below (g := gb122) zK hb); replace HB := zm (below_step zG hb); (try clear hb)))
   go_ret
   exact ⟨zE, zG⟩
 ·replace c4 := Bool.eq_false_iff.mpr c4
  subst c4
  rw [if_neg (show ¬ (false = true) by decide)] at H
  obtain rfl := Option.some.inj H
  go_enter Try.func20, Try.ntmps20
  go_wp2_with (first | ((with_reducible refine gate_dst (N := 2) rfl ?_); refine zX (N := 2) (cs := #[.int .i64 a0_0, .slice A0_1 l0_1.length c0_1, .slice A0_2 l0_2.length c0_2]) (t := 25) (h := ?_); intro gb122 hg w17 hbox hb; have BK122 := zm hbox; have GW122 := zm ((zS : w.heap.size ≤ gb122)); have GE122 := zm ((zS : w.heap.size ≤ gb122)); replace HB := zm (below_step zB hb); clear hb hbox hg; obtain ⟨hcz18_0, hcz18_1, hcz18_2, hfz18_0, hfz18_1, hfz18_2⟩ := zd3 BK122.out (.int .i64 a0_0) (.slice A0_1 l0_1.length c0_1) (.slice A0_2 l0_2.length c0_2)) | ((with_reducible refine gate_callee (f := 32) rfl ?_); refine goesL_ (some 7) rfl rfl Try.func32 (by kernel_rfl) rfl #[.agg #[.int .i64 a0_0, .slice A0_1 l0_1.length c0_1, .slice A0_2 l0_2.length c0_2]] rfl zP ?_; (with_reducible refine (v_Right.calls a0_0 _ _ l0_1 _ _ l0_2 false _ ?side1 ?side2 ?side3 ?side4 A3.out).mono ?_); (case side1 => exact zC (Kd.C_below HR0_1.out HB.out)); (case side2 => exact HC0_1.out); (case side3 => exact zC (Kd.C_below HR0_2.out HB.out)); (case side4 => exact HC0_2.out); rintro e w19 ⟨rfl, hb⟩; refine ⟨_, rfl, ?_⟩; replace BK122 := zm (blk_below (g := gb122) zK hb); replace HB := zm (below_step zG hb); (try clear hb)))
  go_ret
  exact ⟨zE, zG⟩
end Go.Proofs.Ytngppcmdaanheaa.Pr
namespace Go.Proofs.Ytngppcmdaanheaa.Pr
open Go.RowKit Go.Proofs.Ytngppcmdaanheaa.Ls Go.Proofs.Ytngppcmdaanheaa.Va Go.Proofs.YtngppcmdaanheaaW.PrintWords Go.Proofs.YtngppcmdaanheaaW.PrintLast Go.Proofs.YtngppcmdaanheaaW.PrintMore
attribute [local go_sem] max2_int min2_int max_two min_two
set_option linter.unusedVariables false
set_option linter.unusedSimpArgs false
/-! ### e_Round: function 11 -/
def e_Round.f (k : Nat) (a0_0 : Int) (l0_1 : List (S44)) (l0_2 : List (S46)) (l1 : List (S41)) : Option ((List (S41)) × Int) := (e_check.f k a0_0 l0_1 l0_2 l1).bind fun t126 => (if t126 = 0 then ((e_round.f a0_0 l0_1 l0_2 l1).bind fun t127 => (some (t127, 0))) else (some (([] : List (S41)), t126)))
set_option maxHeartbeats 8000000 in
set_option maxRecDepth 100000 in
theorem e_Round.calls (k : Nat) (a0_0 : Int) (A0_1 : Option Addr) (c0_1 : Nat) (l0_1 : List (S44)) (A0_2 : Option Addr) (c0_2 : Nat) (l0_2 : List (S46)) (A1 : Option Addr) (c1 : Nat) (l1 : List (S41)) (r1 : List (S41)) (r2 : Int) (w : World) (hr0_1 : Kd.C k44 w A0_1 l0_1.length l0_1) (hc0_1 : l0_1.length ≤ c0_1) (hr0_2 : Kd.C k46 w A0_2 l0_2.length l0_2) (hc0_2 : l0_2.length ≤ c0_2) (hr1 : Kd.C k41 w A1 l1.length l1) (hc1 : l1.length ≤ c1) (h : e_Round.f k a0_0 l0_1 l0_2 l1 = some (r1, r2)) :
  Calls Try.prog 11 #[.agg #[.int .i64 a0_0, .slice A0_1 l0_1.length c0_1, .slice A0_2 l0_2.length c0_2], .slice A1 l1.length c1] w fun e w' => ∃ v0_ : Value, e = .returned (.tuple #[v0_, .int .i64 r2]) ∧ Kd.V k41 41 w' w.heap.size (fun k_ => (w.heap.size ≤ k_)) v0_ r1 ∧ Below w.heap.size w w' := by
 have hu25 := Try.underlying25
 have HR0_1 := zm hr0_1
 have HC0_1 := zm hc0_1
 clear hr0_1 hc0_1
 have HR0_2 := zm hr0_2
 have HC0_2 := zm hc0_2
 clear hr0_2 hc0_2
 have HR1 := zm hr1
 have HC1 := zm hc1
 clear hr1 hc1
 have HB := zm (Below.refl w.heap.size w)
 have H : ((e_check.f k a0_0 l0_1 l0_2 l1).bind fun t126 => (if t126 = 0 then ((e_round.f a0_0 l0_1 l0_2 l1).bind fun t127 => (some (t127, 0))) else (some (([] : List (S41)), t126)))) = some (r1, r2) := h
 clear h
 obtain ⟨t126, A3, H⟩ := zO H
 by_cases c4 : t126 = 0
 ·rw [if_pos c4] at H
  have c4b0 : (t126 == 0) = true := beq_iff_eq.mpr c4
  have c4b1 : (t126 != 0) = false := bne_eq_false_iff_eq.mpr c4
  clear c4
  obtain ⟨t127, A5, H⟩ := zO H
  simp only [Option.some.injEq, Prod.mk.injEq] at H
  obtain ⟨rfl, rfl⟩ := H
  go_enter Try.func11, Try.ntmps11
  go_wp2_with (first | ((with_reducible refine gate_dst (N := 2) rfl ?_); refine zX (N := 2) (cs := #[.int .i64 a0_0, .slice A0_1 l0_1.length c0_1, .slice A0_2 l0_2.length c0_2]) (t := 25) (h := ?_); intro gb125 hg w6 hbox hb; have BK125 := zm hbox; have GW125 := zm ((zS : w.heap.size ≤ gb125)); have GE125 := zm ((zS : w.heap.size ≤ gb125)); replace HB := zm (below_step zB hb); clear hb hbox hg; obtain ⟨hcz7_0, hcz7_1, hcz7_2, hfz7_0, hfz7_1, hfz7_2⟩ := zd3 BK125.out (.int .i64 a0_0) (.slice A0_1 l0_1.length c0_1) (.slice A0_2 l0_2.length c0_2)) | ((with_reducible refine gate_callee (f := 20) rfl ?_); refine goesL_ (some 9) rfl rfl Try.func20 (by kernel_rfl) rfl #[.agg #[.int .i64 a0_0, .slice A0_1 l0_1.length c0_1, .slice A0_2 l0_2.length c0_2], .slice A1 l1.length c1] rfl zP ?_; (with_reducible refine (e_check.calls k a0_0 _ _ l0_1 _ _ l0_2 _ _ l1 t126 _ ?side1 ?side2 ?side3 ?side4 ?side5 ?side6 A3.out).mono ?_); (case side1 => exact zC (Kd.C_below HR0_1.out HB.out)); (case side2 => exact HC0_1.out); (case side3 => exact zC (Kd.C_below HR0_2.out HB.out)); (case side4 => exact HC0_2.out); (case side5 => exact zC (Kd.C_below HR1.out HB.out)); (case side6 => exact HC1.out); rintro e w8 ⟨rfl, hb⟩; refine ⟨_, rfl, ?_⟩; replace BK125 := zm (blk_below (g := gb125) zK hb); replace HB := zm (below_step zG hb); (try clear hb); obtain ⟨hcz9_0, hcz9_1, hcz9_2, hfz9_0, hfz9_1, hfz9_2⟩ := zd3 BK125.out (.int .i64 a0_0) (.slice A0_1 l0_1.length c0_1) (.slice A0_2 l0_2.length c0_2)) | ((with_reducible refine gate_callee (f := 21) rfl ?_); refine goesL_ (some 15) rfl rfl Try.func21 (by kernel_rfl) rfl #[.agg #[.int .i64 a0_0, .slice A0_1 l0_1.length c0_1, .slice A0_2 l0_2.length c0_2], .slice A1 l1.length c1] rfl zP ?_; (with_reducible refine (e_round.calls a0_0 _ _ l0_1 _ _ l0_2 _ _ l1 t127 _ ?side1 ?side2 ?side3 ?side4 ?side5 ?side6 A5.out).mono ?_); (case side1 => exact zC (Kd.C_below HR0_1.out HB.out)); (case side2 => exact HC0_1.out); (case side3 => exact zC (Kd.C_below HR0_2.out HB.out)); (case side4 => exact HC0_2.out); (case side5 => exact zC (Kd.C_below HR1.out HB.out)); (case side6 => exact HC1.out); rintro e w10 ⟨v128, rfl, ho0, hb⟩; refine ⟨_, rfl, ?_⟩; have HO129 := zm (Kd.V_lower (Kd.V_mono (ok' := fun k_ => (w.heap.size ≤ k_) ∧ k_ ≠ gb125) ho0 (fun k_ hk_ => ⟨(Nat.le_trans (below_size zG) hk_), (Kd.freshB (g := gb125) (o := .cells #[.int .i64 a0_0, .slice A0_1 l0_1.length c0_1, .slice A0_2 l0_2.length c0_2] 25 (0, 0)) zK k_ hk_)⟩)) (below_size zG)); replace BK125 := zm (blk_below (g := gb125) zK hb); replace HB := zm (below_step zG hb); (try clear hb); (try clear ho0)))
  go_ret2
  exact ⟨_, zE, by (with_reducible repeat (first | apply Kd.V_alloc | apply Kd.V_drewN | apply Kd.V_drew)); exact Kd.V_mono HO129.out (fun _ hk => hk.1), zG⟩
 ·rw [if_neg c4] at H
  have c4b0 : (t126 == 0) = false := beq_eq_false_iff_ne.mpr c4
  have c4b1 : (t126 != 0) = true := bne_iff_ne.mpr c4
  simp only [Option.some.injEq, Prod.mk.injEq] at H
  obtain ⟨rfl, rfl⟩ := H
  go_enter Try.func11, Try.ntmps11
  go_wp2_with (first | ((with_reducible refine gate_dst (N := 2) rfl ?_); refine zX (N := 2) (cs := #[.int .i64 a0_0, .slice A0_1 l0_1.length c0_1, .slice A0_2 l0_2.length c0_2]) (t := 25) (h := ?_); intro gb125 hg w11 hbox hb; have BK125 := zm hbox; have GW125 := zm ((zS : w.heap.size ≤ gb125)); have GE125 := zm ((zS : w.heap.size ≤ gb125)); replace HB := zm (below_step zB hb); clear hb hbox hg; obtain ⟨hcz12_0, hcz12_1, hcz12_2, hfz12_0, hfz12_1, hfz12_2⟩ := zd3 BK125.out (.int .i64 a0_0) (.slice A0_1 l0_1.length c0_1) (.slice A0_2 l0_2.length c0_2)) | ((with_reducible refine gate_callee (f := 20) rfl ?_); refine goesL_ (some 9) rfl rfl Try.func20 (by kernel_rfl) rfl #[.agg #[.int .i64 a0_0, .slice A0_1 l0_1.length c0_1, .slice A0_2 l0_2.length c0_2], .slice A1 l1.length c1] rfl zP ?_; (with_reducible refine (e_check.calls k a0_0 _ _ l0_1 _ _ l0_2 _ _ l1 t126 _ ?side1 ?side2 ?side3 ?side4 ?side5 ?side6 A3.out).mono ?_); (case side1 => exact zC (Kd.C_below HR0_1.out HB.out)); (case side2 => exact HC0_1.out); (case side3 => exact zC (Kd.C_below HR0_2.out HB.out)); (case side4 => exact HC0_2.out); (case side5 => exact zC (Kd.C_below HR1.out HB.out)); (case side6 => exact HC1.out); rintro e w13 ⟨rfl, hb⟩; refine ⟨_, rfl, ?_⟩; replace BK125 := zm (blk_below (g := gb125) zK hb); replace HB := zm (below_step zG hb); (try clear hb)))
  go_ret2
  exact ⟨_, zE, Kd.R_V (base := w.heap.size) (by first | exact Kd.R_nil _ _ _ _ _ | exact Kd.N_nil _ _ _ _ _ | exact Kd.V_nil _ _ _ _ _ | exact Kd.Q_nil _ _ _ _ _ | exact Kd.S_nil _ _ _ _ _), zG⟩
end Go.Proofs.Ytngppcmdaanheaa.Pr
namespace Go.Proofs.Ytngppcmdaanheaa.Pr
open Go.RowKit Go.Proofs.Ytngppcmdaanheaa.Ls Go.Proofs.Ytngppcmdaanheaa.Va Go.Proofs.YtngppcmdaanheaaW.PrintWords Go.Proofs.YtngppcmdaanheaaW.PrintLast Go.Proofs.YtngppcmdaanheaaW.PrintMore
attribute [local go_sem] max2_int min2_int max_two min_two
set_option linter.unusedVariables false
set_option linter.unusedSimpArgs false
/-! ### e_Closed: function 12 -/
def e_Closed.f (k : Nat) (a0_0 : Int) (l0_1 : List (S44)) (l0_2 : List (S46)) (l1 : List (S41)) : Option (Bool × Int) := (e_check.f k a0_0 l0_1 l0_2 l1).bind fun t131 => (if t131 = 0 then ((e_round.f a0_0 l0_1 l0_2 l1).bind fun t132 => (some (((t132.length : Int) == (l1.length : Int)), 0))) else (some (false, t131)))
set_option maxHeartbeats 8000000 in
set_option maxRecDepth 100000 in
theorem e_Closed.calls (k : Nat) (a0_0 : Int) (A0_1 : Option Addr) (c0_1 : Nat) (l0_1 : List (S44)) (A0_2 : Option Addr) (c0_2 : Nat) (l0_2 : List (S46)) (A1 : Option Addr) (c1 : Nat) (l1 : List (S41)) (r1 : Bool) (r2 : Int) (w : World) (hr0_1 : Kd.C k44 w A0_1 l0_1.length l0_1) (hc0_1 : l0_1.length ≤ c0_1) (hr0_2 : Kd.C k46 w A0_2 l0_2.length l0_2) (hc0_2 : l0_2.length ≤ c0_2) (hr1 : Kd.C k41 w A1 l1.length l1) (hc1 : l1.length ≤ c1) (h : e_Closed.f k a0_0 l0_1 l0_2 l1 = some (r1, r2)) :
  Calls Try.prog 12 #[.agg #[.int .i64 a0_0, .slice A0_1 l0_1.length c0_1, .slice A0_2 l0_2.length c0_2], .slice A1 l1.length c1] w fun e w' => e = .returned (.tuple #[.bool r1, .int .i64 r2]) ∧ Below w.heap.size w w' := by
 have hu25 := Try.underlying25
 have HR0_1 := zm hr0_1
 have HC0_1 := zm hc0_1
 clear hr0_1 hc0_1
 have HR0_2 := zm hr0_2
 have HC0_2 := zm hc0_2
 clear hr0_2 hc0_2
 have HR1 := zm hr1
 have HC1 := zm hc1
 clear hr1 hc1
 have HB := zm (Below.refl w.heap.size w)
 have H : ((e_check.f k a0_0 l0_1 l0_2 l1).bind fun t131 => (if t131 = 0 then ((e_round.f a0_0 l0_1 l0_2 l1).bind fun t132 => (some (((t132.length : Int) == (l1.length : Int)), 0))) else (some (false, t131)))) = some (r1, r2) := h
 clear h
 obtain ⟨t131, A3, H⟩ := zO H
 by_cases c4 : t131 = 0
 ·rw [if_pos c4] at H
  have c4b0 : (t131 == 0) = true := beq_iff_eq.mpr c4
  have c4b1 : (t131 != 0) = false := bne_eq_false_iff_eq.mpr c4
  clear c4
  obtain ⟨t132, A5, H⟩ := zO H
  simp only [Option.some.injEq, Prod.mk.injEq] at H
  obtain ⟨rfl, rfl⟩ := H
  go_enter Try.func12, Try.ntmps12
  go_wp2_with (first | ((with_reducible refine gate_dst (N := 2) rfl ?_); refine zX (N := 2) (cs := #[.int .i64 a0_0, .slice A0_1 l0_1.length c0_1, .slice A0_2 l0_2.length c0_2]) (t := 25) (h := ?_); intro gb130 hg w6 hbox hb; have BK130 := zm hbox; have GW130 := zm ((zS : w.heap.size ≤ gb130)); have GE130 := zm ((zS : w.heap.size ≤ gb130)); replace HB := zm (below_step zB hb); clear hb hbox hg; obtain ⟨hcz7_0, hcz7_1, hcz7_2, hfz7_0, hfz7_1, hfz7_2⟩ := zd3 BK130.out (.int .i64 a0_0) (.slice A0_1 l0_1.length c0_1) (.slice A0_2 l0_2.length c0_2)) | ((with_reducible refine gate_callee (f := 20) rfl ?_); refine goesL_ (some 9) rfl rfl Try.func20 (by kernel_rfl) rfl #[.agg #[.int .i64 a0_0, .slice A0_1 l0_1.length c0_1, .slice A0_2 l0_2.length c0_2], .slice A1 l1.length c1] rfl zP ?_; (with_reducible refine (e_check.calls k a0_0 _ _ l0_1 _ _ l0_2 _ _ l1 t131 _ ?side1 ?side2 ?side3 ?side4 ?side5 ?side6 A3.out).mono ?_); (case side1 => exact zC (Kd.C_below HR0_1.out HB.out)); (case side2 => exact HC0_1.out); (case side3 => exact zC (Kd.C_below HR0_2.out HB.out)); (case side4 => exact HC0_2.out); (case side5 => exact zC (Kd.C_below HR1.out HB.out)); (case side6 => exact HC1.out); rintro e w8 ⟨rfl, hb⟩; refine ⟨_, rfl, ?_⟩; replace BK130 := zm (blk_below (g := gb130) zK hb); replace HB := zm (below_step zG hb); (try clear hb); obtain ⟨hcz9_0, hcz9_1, hcz9_2, hfz9_0, hfz9_1, hfz9_2⟩ := zd3 BK130.out (.int .i64 a0_0) (.slice A0_1 l0_1.length c0_1) (.slice A0_2 l0_2.length c0_2)) | ((with_reducible refine gate_callee (f := 21) rfl ?_); refine goesL_ (some 15) rfl rfl Try.func21 (by kernel_rfl) rfl #[.agg #[.int .i64 a0_0, .slice A0_1 l0_1.length c0_1, .slice A0_2 l0_2.length c0_2], .slice A1 l1.length c1] rfl zP ?_; (with_reducible refine (e_round.calls a0_0 _ _ l0_1 _ _ l0_2 _ _ l1 t132 _ ?side1 ?side2 ?side3 ?side4 ?side5 ?side6 A5.out).mono ?_); (case side1 => exact zC (Kd.C_below HR0_1.out HB.out)); (case side2 => exact HC0_1.out); (case side3 => exact zC (Kd.C_below HR0_2.out HB.out)); (case side4 => exact HC0_2.out); (case side5 => exact zC (Kd.C_below HR1.out HB.out)); (case side6 => exact HC1.out); rintro e w10 ⟨v133, rfl, ho0, hb⟩; refine ⟨_, rfl, ?_⟩; have HO134 := zm (Kd.V_lower (Kd.V_mono (ok' := fun k_ => k_ ≠ gb130) ho0 (fun k_ hk_ => (Kd.freshB (g := gb130) (o := .cells #[.int .i64 a0_0, .slice A0_1 l0_1.length c0_1, .slice A0_2 l0_2.length c0_2] 25 (0, 0)) zK k_ hk_))) (below_size zG)); replace BK130 := zm (blk_below (g := gb130) zK hb); replace HB := zm (below_step zG hb); (try clear hb); (try clear ho0); obtain ⟨Ao11, co11, eo11⟩ := Kd.V_slice HO134.out; subst eo11))
  go_ret2
  exact ⟨zE, zG⟩
 ·rw [if_neg c4] at H
  have c4b0 : (t131 == 0) = false := beq_eq_false_iff_ne.mpr c4
  have c4b1 : (t131 != 0) = true := bne_iff_ne.mpr c4
  simp only [Option.some.injEq, Prod.mk.injEq] at H
  obtain ⟨rfl, rfl⟩ := H
  go_enter Try.func12, Try.ntmps12
  go_wp2_with (first | ((with_reducible refine gate_dst (N := 2) rfl ?_); refine zX (N := 2) (cs := #[.int .i64 a0_0, .slice A0_1 l0_1.length c0_1, .slice A0_2 l0_2.length c0_2]) (t := 25) (h := ?_); intro gb130 hg w12 hbox hb; have BK130 := zm hbox; have GW130 := zm ((zS : w.heap.size ≤ gb130)); have GE130 := zm ((zS : w.heap.size ≤ gb130)); replace HB := zm (below_step zB hb); clear hb hbox hg; obtain ⟨hcz13_0, hcz13_1, hcz13_2, hfz13_0, hfz13_1, hfz13_2⟩ := zd3 BK130.out (.int .i64 a0_0) (.slice A0_1 l0_1.length c0_1) (.slice A0_2 l0_2.length c0_2)) | ((with_reducible refine gate_callee (f := 20) rfl ?_); refine goesL_ (some 9) rfl rfl Try.func20 (by kernel_rfl) rfl #[.agg #[.int .i64 a0_0, .slice A0_1 l0_1.length c0_1, .slice A0_2 l0_2.length c0_2], .slice A1 l1.length c1] rfl zP ?_; (with_reducible refine (e_check.calls k a0_0 _ _ l0_1 _ _ l0_2 _ _ l1 t131 _ ?side1 ?side2 ?side3 ?side4 ?side5 ?side6 A3.out).mono ?_); (case side1 => exact zC (Kd.C_below HR0_1.out HB.out)); (case side2 => exact HC0_1.out); (case side3 => exact zC (Kd.C_below HR0_2.out HB.out)); (case side4 => exact HC0_2.out); (case side5 => exact zC (Kd.C_below HR1.out HB.out)); (case side6 => exact HC1.out); rintro e w14 ⟨rfl, hb⟩; refine ⟨_, rfl, ?_⟩; replace BK130 := zm (blk_below (g := gb130) zK hb); replace HB := zm (below_step zG hb); (try clear hb)))
  go_ret2
  exact ⟨zE, zG⟩
end Go.Proofs.Ytngppcmdaanheaa.Pr
namespace Go.Proofs.Ytngppcmdaanheaa.Pr
open Go.RowKit Go.Proofs.YtngppcmdaanheaaW.PrintWords Go.Proofs.YtngppcmdaanheaaW.PrintLast Go.Proofs.YtngppcmdaanheaaW.PrintMore
attribute [local go_sem] max2_int min2_int max_two min_two
set_option linter.unusedVariables false
set_option linter.unusedSimpArgs false
attribute [local go_sem high] eqA41
/-! ### l4_shown: function 8 -/
def l4_shown.f (k : Nat)  : Option (Bool) := (some (([(⟨0, ([] : List Int), 0, 0, 0⟩ : S44)] : List (S44)) : List (S44))).bind fun y135 => ((some (([(⟨3, 0, 0, 1, 0, 0, 0, (⟨#[]⟩ : ByteArray), ([] : List Int)⟩ : S46)] : List (S46)) : List (S46))).bind fun y138 => ((e_Round.f k 20 y135 y138 (([(⟨6, 0, (⟨#[]⟩ : ByteArray), 0⟩ : S41), (⟨9, 0, (⟨#[]⟩ : ByteArray), 4⟩ : S41)] : List (S41)))).bind fun bt145 => ((e_Closed.f k 20 y135 y138 bt145.1).bind fun bt149 => ((e_Round.f k 20 y135 y138 (([(⟨0, 0, (⟨#[]⟩ : ByteArray), 0⟩ : S41)] : List (S41)))).bind fun bt154 => (if bt145.2 = 0 then (if bt149.2 = 0 then (if bt149.1 = true then (if bt154.2 = 140 then (if (bt145.1.length : Int) = 8 then (if 7 < (bt145.1.length : Int) then (some (((rd_T41 bt145.1 7).f0) == 9 && (((rd_T41 bt145.1 7).f1) == 1 && ((((rd_T41 bt145.1 7).f2).toList) == ([] : List UInt8) && (((rd_T41 bt145.1 7).f3) == 4))))) else (none)) else (none)) else (none)) else (none)) else (none)) else (none))))))
set_option maxHeartbeats 8000000 in
set_option maxRecDepth 100000 in
theorem l4_shown.calls (k : Nat)  (r : Bool) (w : World) (h : l4_shown.f k  = some r) :
  Calls Try.prog 8 #[] w fun e w' => e = .returned (.bool r) ∧ Below w.heap.size w w' := by
 have hu44 := Try.underlying44
 have hu46 := Try.underlying46
 have hu25 := Try.underlying25
 have hu41 := Try.underlying41
 have HB := zm (Below.refl w.heap.size w)
 have H : ((some (([(⟨0, ([] : List Int), 0, 0, 0⟩ : S44)] : List (S44)) : List (S44))).bind fun y135 => ((some (([(⟨3, 0, 0, 1, 0, 0, 0, (⟨#[]⟩ : ByteArray), ([] : List Int)⟩ : S46)] : List (S46)) : List (S46))).bind fun y138 => ((e_Round.f k 20 y135 y138 (([(⟨6, 0, (⟨#[]⟩ : ByteArray), 0⟩ : S41), (⟨9, 0, (⟨#[]⟩ : ByteArray), 4⟩ : S41)] : List (S41)))).bind fun bt145 => ((e_Closed.f k 20 y135 y138 bt145.1).bind fun bt149 => ((e_Round.f k 20 y135 y138 (([(⟨0, 0, (⟨#[]⟩ : ByteArray), 0⟩ : S41)] : List (S41)))).bind fun bt154 => (if bt145.2 = 0 then (if bt149.2 = 0 then (if bt149.1 = true then (if bt154.2 = 140 then (if (bt145.1.length : Int) = 8 then (if 7 < (bt145.1.length : Int) then (some (((rd_T41 bt145.1 7).f0) == 9 && (((rd_T41 bt145.1 7).f1) == 1 && ((((rd_T41 bt145.1 7).f2).toList) == ([] : List UInt8) && (((rd_T41 bt145.1 7).f3) == 4))))) else (none)) else (none)) else (none)) else (none)) else (none)) else (none))))))) = some r := h
 clear h
 obtain ⟨y135, hy135⟩ : ∃ y_ : List (S44), y_ = (([(⟨0, ([] : List Int), 0, 0, 0⟩ : S44)] : List (S44))) := ⟨_, rfl⟩
 replace H : ((some (([(⟨3, 0, 0, 1, 0, 0, 0, (⟨#[]⟩ : ByteArray), ([] : List Int)⟩ : S46)] : List (S46)) : List (S46))).bind fun y138 => ((e_Round.f k 20 y135 y138 (([(⟨6, 0, (⟨#[]⟩ : ByteArray), 0⟩ : S41), (⟨9, 0, (⟨#[]⟩ : ByteArray), 4⟩ : S41)] : List (S41)))).bind fun bt145 => ((e_Closed.f k 20 y135 y138 bt145.1).bind fun bt149 => ((e_Round.f k 20 y135 y138 (([(⟨0, 0, (⟨#[]⟩ : ByteArray), 0⟩ : S41)] : List (S41)))).bind fun bt154 => (if bt145.2 = 0 then (if bt149.2 = 0 then (if bt149.1 = true then (if bt154.2 = 140 then (if (bt145.1.length : Int) = 8 then (if 7 < (bt145.1.length : Int) then (some (((rd_T41 bt145.1 7).f0) == 9 && (((rd_T41 bt145.1 7).f1) == 1 && ((((rd_T41 bt145.1 7).f2).toList) == ([] : List UInt8) && (((rd_T41 bt145.1 7).f3) == 4))))) else (none)) else (none)) else (none)) else (none)) else (none)) else (none)))))) = some r := by first | (rw [hy135]; with_reducible exact H) | (have H2_ := (Option.bind_some _ _).symm.trans H; rw [hy135]; with_reducible exact H2_) | (have H2_ := (Option.bind_some _ _).symm.trans H; with_reducible exact H2_) | with_reducible exact H | (rw [hy135]; exact H) | exact H
 have Ny135 := zm hy135
 clear hy135
 obtain ⟨y138, hy138⟩ : ∃ y_ : List (S46), y_ = (([(⟨3, 0, 0, 1, 0, 0, 0, (⟨#[]⟩ : ByteArray), ([] : List Int)⟩ : S46)] : List (S46))) := ⟨_, rfl⟩
 replace H : ((e_Round.f k 20 y135 y138 (([(⟨6, 0, (⟨#[]⟩ : ByteArray), 0⟩ : S41), (⟨9, 0, (⟨#[]⟩ : ByteArray), 4⟩ : S41)] : List (S41)))).bind fun bt145 => ((e_Closed.f k 20 y135 y138 bt145.1).bind fun bt149 => ((e_Round.f k 20 y135 y138 (([(⟨0, 0, (⟨#[]⟩ : ByteArray), 0⟩ : S41)] : List (S41)))).bind fun bt154 => (if bt145.2 = 0 then (if bt149.2 = 0 then (if bt149.1 = true then (if bt154.2 = 140 then (if (bt145.1.length : Int) = 8 then (if 7 < (bt145.1.length : Int) then (some (((rd_T41 bt145.1 7).f0) == 9 && (((rd_T41 bt145.1 7).f1) == 1 && ((((rd_T41 bt145.1 7).f2).toList) == ([] : List UInt8) && (((rd_T41 bt145.1 7).f3) == 4))))) else (none)) else (none)) else (none)) else (none)) else (none)) else (none))))) = some r := by first | (rw [hy138]; with_reducible exact H) | (have H2_ := (Option.bind_some _ _).symm.trans H; rw [hy138]; with_reducible exact H2_) | (have H2_ := (Option.bind_some _ _).symm.trans H; with_reducible exact H2_) | with_reducible exact H | (rw [hy138]; exact H) | exact H
 have Ny138 := zm hy138
 clear hy138
 obtain ⟨y142, hy142⟩ : ∃ y_ : List (S41), y_ = (([(⟨6, 0, (⟨#[]⟩ : ByteArray), 0⟩ : S41), (⟨9, 0, (⟨#[]⟩ : ByteArray), 4⟩ : S41)] : List (S41))) := ⟨_, rfl⟩
 replace H : ((e_Round.f k 20 y135 y138 y142).bind fun bt145 => ((e_Closed.f k 20 y135 y138 bt145.1).bind fun bt149 => ((e_Round.f k 20 y135 y138 (([(⟨0, 0, (⟨#[]⟩ : ByteArray), 0⟩ : S41)] : List (S41)))).bind fun bt154 => (if bt145.2 = 0 then (if bt149.2 = 0 then (if bt149.1 = true then (if bt154.2 = 140 then (if (bt145.1.length : Int) = 8 then (if 7 < (bt145.1.length : Int) then (some (((rd_T41 bt145.1 7).f0) == 9 && (((rd_T41 bt145.1 7).f1) == 1 && ((((rd_T41 bt145.1 7).f2).toList) == ([] : List UInt8) && (((rd_T41 bt145.1 7).f3) == 4))))) else (none)) else (none)) else (none)) else (none)) else (none)) else (none))))) = some r := by first | (rw [hy142]; with_reducible exact H) | (have H2_ := (Option.bind_some _ _).symm.trans H; rw [hy142]; with_reducible exact H2_) | (have H2_ := (Option.bind_some _ _).symm.trans H; with_reducible exact H2_) | with_reducible exact H | (rw [hy142]; exact H) | exact H
 have Ny142 := zm hy142
 clear hy142
 replace H := Option.bind_eq_some_iff.mp H
 obtain ⟨⟨t145, t148⟩, A10, H⟩ := H
 replace H : ((e_Closed.f k 20 y135 y138 t145).bind fun bt149 => ((e_Round.f k 20 y135 y138 (([(⟨0, 0, (⟨#[]⟩ : ByteArray), 0⟩ : S41)] : List (S41)))).bind fun bt154 => (if t148 = 0 then (if bt149.2 = 0 then (if bt149.1 = true then (if bt154.2 = 140 then (if (t145.length : Int) = 8 then (if 7 < (t145.length : Int) then (some (((rd_T41 t145 7).f0) == 9 && (((rd_T41 t145 7).f1) == 1 && ((((rd_T41 t145 7).f2).toList) == ([] : List UInt8) && (((rd_T41 t145 7).f3) == 4))))) else (none)) else (none)) else (none)) else (none)) else (none)) else (none)))) = some r := H
 have A1 := zm A10
 clear A10
 replace H := Option.bind_eq_some_iff.mp H
 obtain ⟨⟨t149, t150⟩, A20, H⟩ := H
 replace H : ((e_Round.f k 20 y135 y138 (([(⟨0, 0, (⟨#[]⟩ : ByteArray), 0⟩ : S41)] : List (S41)))).bind fun bt154 => (if t148 = 0 then (if t150 = 0 then (if t149 = true then (if bt154.2 = 140 then (if (t145.length : Int) = 8 then (if 7 < (t145.length : Int) then (some (((rd_T41 t145 7).f0) == 9 && (((rd_T41 t145 7).f1) == 1 && ((((rd_T41 t145 7).f2).toList) == ([] : List UInt8) && (((rd_T41 t145 7).f3) == 4))))) else (none)) else (none)) else (none)) else (none)) else (none)) else (none))) = some r := H
 have A2 := zm A20
 clear A20
 obtain ⟨y151, hy151⟩ : ∃ y_ : List (S41), y_ = (([(⟨0, 0, (⟨#[]⟩ : ByteArray), 0⟩ : S41)] : List (S41))) := ⟨_, rfl⟩
 replace H : ((e_Round.f k 20 y135 y138 y151).bind fun bt154 => (if t148 = 0 then (if t150 = 0 then (if t149 = true then (if bt154.2 = 140 then (if (t145.length : Int) = 8 then (if 7 < (t145.length : Int) then (some (((rd_T41 t145 7).f0) == 9 && (((rd_T41 t145 7).f1) == 1 && ((((rd_T41 t145 7).f2).toList) == ([] : List UInt8) && (((rd_T41 t145 7).f3) == 4))))) else (none)) else (none)) else (none)) else (none)) else (none)) else (none))) = some r := by first | (rw [hy151]; with_reducible exact H) | (have H2_ := (Option.bind_some _ _).symm.trans H; rw [hy151]; with_reducible exact H2_) | (have H2_ := (Option.bind_some _ _).symm.trans H; with_reducible exact H2_) | with_reducible exact H | (rw [hy151]; exact H) | exact H
 have Ny151 := zm hy151
 clear hy151
 replace H := Option.bind_eq_some_iff.mp H
 obtain ⟨⟨t154, t157⟩, A30, H⟩ := H
 replace H : (if t148 = 0 then (if t150 = 0 then (if t149 = true then (if t157 = 140 then (if (t145.length : Int) = 8 then (if 7 < (t145.length : Int) then (some (((rd_T41 t145 7).f0) == 9 && (((rd_T41 t145 7).f1) == 1 && ((((rd_T41 t145 7).f2).toList) == ([] : List UInt8) && (((rd_T41 t145 7).f3) == 4))))) else (none)) else (none)) else (none)) else (none)) else (none)) else (none)) = some r := H
 have A3 := zm A30
 clear A30
 by_cases c4 : t148 = 0
 ·rw [if_pos c4] at H
  have c4b0 : (t148 == 0) = true := beq_iff_eq.mpr c4
  have c4b1 : (t148 != 0) = false := bne_eq_false_iff_eq.mpr c4
  clear c4
  by_cases c5 : t150 = 0
  ·rw [if_pos c5] at H
   have c5b0 : (t150 == 0) = true := beq_iff_eq.mpr c5
   have c5b1 : (t150 != 0) = false := bne_eq_false_iff_eq.mpr c5
   clear c5
   by_cases c6 : t149 = true
   ·subst c6
    rw [if_pos rfl] at H
    by_cases c7 : t157 = 140
    ·rw [if_pos c7] at H
     have c7b0 : (t157 == 140) = true := beq_iff_eq.mpr c7
     have c7b1 : (t157 != 140) = false := bne_eq_false_iff_eq.mpr c7
     clear c7
     by_cases c8 : (t145.length : Int) = 8
     ·rw [if_pos c8] at H
      have c8b0 : ((t145.length : Int) == 8) = true := beq_iff_eq.mpr c8
      have c8b1 : ((t145.length : Int) != 8) = false := bne_eq_false_iff_eq.mpr c8
      clear c8
      by_cases c9 : 7 < (t145.length : Int)
      ·rw [if_pos c9] at H
       have c9b0 : decide (7 < (t145.length : Int)) = true := decide_eq_true c9
       have c9b1 : decide (7 < t145.length) = true := decide_eq_true (by omega)
       clear c9
       obtain rfl := Option.some.inj H
       go_enter Try.func8, Try.ntmps8
       go_wp2_with (first | ((with_reducible refine gate_callee (f := 11) rfl ?_); refine goesL_ (some 31) rfl rfl Try.func11 (by kernel_rfl) rfl #[.agg #[.int .i64 20, .slice Ao15 y135.length co15, .slice Ao14 y138.length co14], .slice Ao28 y151.length co28] rfl zP ?_; (with_reducible refine (e_Round.calls k 20 _ _ y135 _ _ y138 _ _ y151 t154 t157 _ ?side1 ?side2 ?side3 ?side4 ?side5 ?side6 A3.out).mono ?_); (case side1 => exact zC ((Kd.S_reads' HO137.out).2.2)); (case side2 => exact (Kd.S_reads' HO137.out).2.1); (case side3 => exact zC ((Kd.S_reads' HO140.out).2.2)); (case side4 => exact (Kd.S_reads' HO140.out).2.1); (case side5 => exact zC ((Kd.R_reads' HO153.out).2.2)); (case side6 => exact (Kd.R_reads' HO153.out).2.1); rintro e w29 ⟨v155, rfl, ho0, hb⟩; refine ⟨_, rfl, ?_⟩; have HO156 := zm (Kd.V_lower (Kd.V_mono (ok' := fun k_ => some k_ ≠ (.slice Ao15 y135.length co15 : Value).ownBlock ∧ some k_ ≠ (.slice Ao14 y138.length co14 : Value).ownBlock ∧ some k_ ≠ (.slice Ao20 y142.length co20 : Value).ownBlock ∧ some k_ ≠ (.slice Ao28 y151.length co28 : Value).ownBlock ∧ k_ ≠ gb141) ho0 (fun k_ hk_ => ⟨(Kd.fresh' (Kd.S_lt (by (with_reducible repeat (first | apply Kd.S_alloc | apply Kd.S_drewN | apply Kd.S_drew)); exact HO137.out)) k_ hk_), (Kd.fresh' (Kd.S_lt (by (with_reducible repeat (first | apply Kd.S_alloc | apply Kd.S_drewN | apply Kd.S_drew)); exact HO140.out)) k_ hk_), (Kd.fresh' (Kd.R_lt (by (with_reducible repeat (first | apply Kd.R_alloc | apply Kd.R_drewN | apply Kd.R_drew)); exact HO144.out)) k_ hk_), (Kd.fresh' (Kd.R_lt (by (with_reducible repeat (first | apply Kd.R_alloc | apply Kd.R_drewN | apply Kd.R_drew)); exact HO153.out)) k_ hk_), (Kd.freshB (g := gb141) (o := .cells #[.int .i64 20, .slice Ao15 y135.length co15, .slice Ao14 y138.length co14] 25 (0, 0)) zK k_ hk_)⟩)) (below_size zG)); replace HO137 := zm (Kd.S_below (by (with_reducible repeat (first | apply Kd.S_alloc | apply Kd.S_drewN | apply Kd.S_drew)); exact HO137.out) hb); replace HO140 := zm (Kd.S_below (by (with_reducible repeat (first | apply Kd.S_alloc | apply Kd.S_drewN | apply Kd.S_drew)); exact HO140.out) hb); replace HO144 := zm (Kd.R_below (by (with_reducible repeat (first | apply Kd.R_alloc | apply Kd.R_drewN | apply Kd.R_drew)); exact HO144.out) hb); replace HO147 := zm (Kd.V_below (by (with_reducible repeat (first | apply Kd.V_alloc | apply Kd.V_drewN | apply Kd.V_drew)); exact HO147.out) hb); replace HO153 := zm (Kd.R_below (by (with_reducible repeat (first | apply Kd.R_alloc | apply Kd.R_drewN | apply Kd.R_drew)); exact HO153.out) hb); replace BK141 := zm (blk_below (g := gb141) zK hb); replace HB := zm (below_step zG hb); (try clear hb); (try clear ho0); have p158 : 0 ≤ (7 : Int) := (by omega); have q158 : 7 < (t145.length : Int) := of_decide_eq_true zA; obtain ⟨ad158, e158, hx158_0, hx158_1, hx158_2, hx158_3⟩ := at_T41 (Kd.V_reads' HO147.out).2.2 7 p158 q158; cases e158; (try simp only [show (7 : Int).toNat = 7 from rfl, Nat.reduceMul, Nat.reduceEqDiff, Go.Addr.add, ↓reduceIte] at hx158_0); (try simp only [show (7 : Int).toNat = 7 from rfl, Nat.reduceMul, Nat.reduceEqDiff, Go.Addr.add, ↓reduceIte] at hx158_1); (try simp only [show (7 : Int).toNat = 7 from rfl, Nat.reduceMul, Nat.reduceEqDiff, Go.Addr.add, ↓reduceIte] at hx158_2); (try simp only [show (7 : Int).toNat = 7 from rfl, Nat.reduceMul, Nat.reduceEqDiff, Go.Addr.add, ↓reduceIte] at hx158_3); have qi158 : (7 < t145.length) = True := eq_true (by omega); (try rw [show ((7 : Int)).toNat = 7 from rfl] at hx158_0); (try rw [show 7 * 4 = 28 from rfl] at hx158_0); (try rw [show ((7 : Int)).toNat = 7 from rfl] at hx158_1); (try rw [show 7 * 4 = 28 from rfl] at hx158_1); (try rw [show ((7 : Int)).toNat = 7 from rfl] at hx158_2); (try rw [show 7 * 4 = 28 from rfl] at hx158_2); (try rw [show ((7 : Int)).toNat = 7 from rfl] at hx158_3); (try rw [show 7 * 4 = 28 from rfl] at hx158_3); replace p158 := eq_true p158; replace q158 := eq_true q158) | ((with_reducible refine gate_dst (N := 30) rfl ?_); (try (refine gate_guard (by rfl) ?_; dsimp only)); refine Kd.R_lit k41 _ 41 ?hg (N := 30) ?hd (xs := ([(⟨0, 0, (⟨#[]⟩ : ByteArray), 0⟩ : S41)] : List (S41))) (inner := [.int .i64 0, .int .i64 0, .string (⟨#[]⟩ : ByteArray), .int .i64 0]) (ok := fun _ => True) (okp := fun _ => True) ?hr ?hp (fun _ hk => hk) trivial (Below.refl _ _) (Nat.le_refl _) (by simp) ?_; (case hd => rfl); (case hg => rfl); (case hr => first | (go_simp; done) | (go_simp; rfl)); (case hp => exact (Reps.c4 (show Kd.M k41 _ _ _ (⟨0, 0, (⟨#[]⟩ : ByteArray), 0⟩ : S41) [.int .i64 0, .int .i64 0, .string (⟨#[]⟩ : ByteArray), .int .i64 0] from (k41_mkM _ _ _ (⟨0, 0, (⟨#[]⟩ : ByteArray), 0⟩ : S41) )) (Reps.none _ _))); intro v152 w26 ho27 hb hg_ hnew_; clear hg_ hnew_; (first | rw [← Ny151.out] at ho27 | (simp only [Int.reduceToNat] at ho27; rw [← Ny151.out] at ho27)); have HO153 := zm (Kd.R_lower (Kd.R_new' ho27 (Kd.R_lt (by (with_reducible repeat (first | apply Kd.R_alloc | apply Kd.R_drewN | apply Kd.R_drew)); exact HO144.out))) (below_size zG)); replace HO137 := zm (Kd.S_below (by (with_reducible repeat (first | apply Kd.S_alloc | apply Kd.S_drewN | apply Kd.S_drew)); exact HO137.out) hb); replace HO140 := zm (Kd.S_below (by (with_reducible repeat (first | apply Kd.S_alloc | apply Kd.S_drewN | apply Kd.S_drew)); exact HO140.out) hb); replace HO144 := zm (Kd.R_elder' (by (with_reducible repeat (first | apply Kd.R_alloc | apply Kd.R_drewN | apply Kd.R_drew)); exact HO144.out) (Kd.R_base ho27) hb); replace HO147 := zm (Kd.V_elder' (by (with_reducible repeat (first | apply Kd.V_alloc | apply Kd.V_drewN | apply Kd.V_drew)); exact HO147.out) (Kd.R_base ho27) hb); replace BK141 := zm (blk_below (g := gb141) zK hb); replace HB := zm (below_step zG hb); clear hb ho27; obtain ⟨Ao28, co28, eo28⟩ := Kd.R_slice HO153.out; subst eo28) | ((with_reducible refine gate_callee (f := 12) rfl ?_); refine goesL_ (some 24) rfl rfl Try.func12 (by kernel_rfl) rfl #[.agg #[.int .i64 20, .slice Ao15 y135.length co15, .slice Ao14 y138.length co14], .slice Ao23 t145.length co23] rfl zP ?_; (with_reducible refine (e_Closed.calls k 20 _ _ y135 _ _ y138 _ _ t145 true t150 _ ?side1 ?side2 ?side3 ?side4 ?side5 ?side6 A2.out).mono ?_); (case side1 => exact zC ((Kd.S_reads' HO137.out).2.2)); (case side2 => exact (Kd.S_reads' HO137.out).2.1); (case side3 => exact zC ((Kd.S_reads' HO140.out).2.2)); (case side4 => exact (Kd.S_reads' HO140.out).2.1); (case side5 => exact zC ((Kd.V_reads' HO147.out).2.2)); (case side6 => exact (Kd.V_reads' HO147.out).2.1); rintro e w24 ⟨rfl, hb⟩; refine ⟨_, rfl, ?_⟩; replace HO137 := zm (Kd.S_below (by (with_reducible repeat (first | apply Kd.S_alloc | apply Kd.S_drewN | apply Kd.S_drew)); exact HO137.out) hb); replace HO140 := zm (Kd.S_below (by (with_reducible repeat (first | apply Kd.S_alloc | apply Kd.S_drewN | apply Kd.S_drew)); exact HO140.out) hb); replace HO144 := zm (Kd.R_below (by (with_reducible repeat (first | apply Kd.R_alloc | apply Kd.R_drewN | apply Kd.R_drew)); exact HO144.out) hb); replace HO147 := zm (Kd.V_below (by (with_reducible repeat (first | apply Kd.V_alloc | apply Kd.V_drewN | apply Kd.V_drew)); exact HO147.out) hb); replace BK141 := zm (blk_below (g := gb141) zK hb); replace HB := zm (below_step zG hb); (try clear hb); obtain ⟨hcz25_0, hcz25_1, hcz25_2, hfz25_0, hfz25_1, hfz25_2⟩ := zd3 BK141.out (.int .i64 20) (.slice Ao15 y135.length co15) (.slice Ao14 y138.length co14)) | ((with_reducible refine gate_callee (f := 11) rfl ?_); refine goesL_ (some 18) rfl rfl Try.func11 (by kernel_rfl) rfl #[.agg #[.int .i64 20, .slice Ao15 y135.length co15, .slice Ao14 y138.length co14], .slice Ao20 y142.length co20] rfl zP ?_; (with_reducible refine (e_Round.calls k 20 _ _ y135 _ _ y138 _ _ y142 t145 t148 _ ?side1 ?side2 ?side3 ?side4 ?side5 ?side6 A1.out).mono ?_); (case side1 => exact zC ((Kd.S_reads' HO137.out).2.2)); (case side2 => exact (Kd.S_reads' HO137.out).2.1); (case side3 => exact zC ((Kd.S_reads' HO140.out).2.2)); (case side4 => exact (Kd.S_reads' HO140.out).2.1); (case side5 => exact zC ((Kd.R_reads' HO144.out).2.2)); (case side6 => exact (Kd.R_reads' HO144.out).2.1); rintro e w21 ⟨v146, rfl, ho0, hb⟩; refine ⟨_, rfl, ?_⟩; have HO147 := zm (Kd.V_lower (Kd.V_mono (ok' := fun k_ => some k_ ≠ (.slice Ao15 y135.length co15 : Value).ownBlock ∧ some k_ ≠ (.slice Ao14 y138.length co14 : Value).ownBlock ∧ some k_ ≠ (.slice Ao20 y142.length co20 : Value).ownBlock ∧ k_ ≠ gb141) ho0 (fun k_ hk_ => ⟨(Kd.fresh' (Kd.S_lt (by (with_reducible repeat (first | apply Kd.S_alloc | apply Kd.S_drewN | apply Kd.S_drew)); exact HO137.out)) k_ hk_), (Kd.fresh' (Kd.S_lt (by (with_reducible repeat (first | apply Kd.S_alloc | apply Kd.S_drewN | apply Kd.S_drew)); exact HO140.out)) k_ hk_), (Kd.fresh' (Kd.R_lt (by (with_reducible repeat (first | apply Kd.R_alloc | apply Kd.R_drewN | apply Kd.R_drew)); exact HO144.out)) k_ hk_), (Kd.freshB (g := gb141) (o := .cells #[.int .i64 20, .slice Ao15 y135.length co15, .slice Ao14 y138.length co14] 25 (0, 0)) zK k_ hk_)⟩)) (below_size zG)); replace HO137 := zm (Kd.S_below (by (with_reducible repeat (first | apply Kd.S_alloc | apply Kd.S_drewN | apply Kd.S_drew)); exact HO137.out) hb); replace HO140 := zm (Kd.S_below (by (with_reducible repeat (first | apply Kd.S_alloc | apply Kd.S_drewN | apply Kd.S_drew)); exact HO140.out) hb); replace HO144 := zm (Kd.R_below (by (with_reducible repeat (first | apply Kd.R_alloc | apply Kd.R_drewN | apply Kd.R_drew)); exact HO144.out) hb); replace BK141 := zm (blk_below (g := gb141) zK hb); replace HB := zm (below_step zG hb); (try clear hb); (try clear ho0); obtain ⟨hcz22_0, hcz22_1, hcz22_2, hfz22_0, hfz22_1, hfz22_2⟩ := zd3 BK141.out (.int .i64 20) (.slice Ao15 y135.length co15) (.slice Ao14 y138.length co14); obtain ⟨Ao23, co23, eo23⟩ := Kd.V_slice HO147.out; subst eo23) | ((with_reducible refine gate_dst (N := 17) rfl ?_); (try (refine gate_guard (by rfl) ?_; dsimp only)); refine Kd.R_lit k41 _ 41 ?hg (N := 17) ?hd (xs := ([(⟨6, 0, (⟨#[]⟩ : ByteArray), 0⟩ : S41), (⟨9, 0, (⟨#[]⟩ : ByteArray), 4⟩ : S41)] : List (S41))) (inner := [.int .i64 6, .int .i64 0, .string (⟨#[]⟩ : ByteArray), .int .i64 0, .int .i64 9, .int .i64 0, .string (⟨#[]⟩ : ByteArray), .int .i64 4]) (ok := fun _ => True) (okp := fun _ => True) ?hr ?hp (fun _ hk => hk) trivial (Below.refl _ _) (Nat.le_refl _) (by simp) ?_; (case hd => rfl); (case hg => rfl); (case hr => first | (go_simp; done) | (go_simp; rfl)); (case hp => exact (Reps.c4 (show Kd.M k41 _ _ _ (⟨6, 0, (⟨#[]⟩ : ByteArray), 0⟩ : S41) [.int .i64 6, .int .i64 0, .string (⟨#[]⟩ : ByteArray), .int .i64 0] from (k41_mkM _ _ _ (⟨6, 0, (⟨#[]⟩ : ByteArray), 0⟩ : S41) )) (Reps.c4 (show Kd.M k41 _ _ _ (⟨9, 0, (⟨#[]⟩ : ByteArray), 4⟩ : S41) [.int .i64 9, .int .i64 0, .string (⟨#[]⟩ : ByteArray), .int .i64 4] from (k41_mkM _ _ _ (⟨9, 0, (⟨#[]⟩ : ByteArray), 4⟩ : S41) )) (Reps.none _ _)))); intro v143 w18 ho19 hb hg_ hnew_; clear hg_ hnew_; (first | rw [← Ny142.out] at ho19 | (simp only [Int.reduceToNat] at ho19; rw [← Ny142.out] at ho19)); have HO144 := zm (Kd.R_lower ho19 (below_size zG)); replace HO137 := zm (Kd.S_below (by (with_reducible repeat (first | apply Kd.S_alloc | apply Kd.S_drewN | apply Kd.S_drew)); exact (Kd.S_mono (Kd.S_far (p := ⟨gb141, 2, none⟩) (Kd.S_far (p := ⟨gb141, 1, none⟩) (Kd.S_far (p := ⟨gb141, 0, none⟩) (Kd.S_types HO137.out BK141.out (by decide)) (fun _ hk => hk.2) (.int .i64 20)) (fun _ hk => hk.2) (.slice Ao15 y135.length co15)) (fun _ hk => hk.2) (.slice Ao14 y138.length co14)) (fun _ h_ => h_.1))) hb); replace HO140 := zm (Kd.S_below (by (with_reducible repeat (first | apply Kd.S_alloc | apply Kd.S_drewN | apply Kd.S_drew)); exact (Kd.S_mono (Kd.S_far (p := ⟨gb141, 2, none⟩) (Kd.S_far (p := ⟨gb141, 1, none⟩) (Kd.S_far (p := ⟨gb141, 0, none⟩) (Kd.S_types HO140.out BK141.out (by decide)) (fun _ hk => hk.2) (.int .i64 20)) (fun _ hk => hk.2) (.slice Ao15 y135.length co15)) (fun _ hk => hk.2) (.slice Ao14 y138.length co14)) (fun _ h_ => h_.1))) hb); replace BK141 := zm (blk_below (g := gb141) (o := .cells #[.int .i64 20, .slice Ao15 y135.length co15, .slice Ao14 y138.length co14] 25 (0, 0)) (by (with_reducible repeat (first | refine blk_drewN ?_ _ | refine blk_drew ?_ | refine blk_alloc ?_ _)); refine blk_put (cs := #[.int .i64 20, .slice Ao15 y135.length co15, .slice none 0 0]) ?_ 2 _ rfl; (with_reducible repeat (first | refine blk_drewN ?_ _ | refine blk_drew ?_ | refine blk_alloc ?_ _)); refine blk_put (cs := #[.int .i64 20, .slice none 0 0, .slice none 0 0]) ?_ 1 _ rfl; (with_reducible repeat (first | refine blk_drewN ?_ _ | refine blk_drew ?_ | refine blk_alloc ?_ _)); refine blk_put (cs := #[.int .i64 0, .slice none 0 0, .slice none 0 0]) ?_ 0 _ rfl; (with_reducible repeat (first | refine blk_drewN ?_ _ | refine blk_drew ?_ | refine blk_alloc ?_ _)); exact BK141.out) hb); replace HB := zm (below_step zG hb); clear hb ho19; obtain ⟨Ao20, co20, eo20⟩ := Kd.R_slice HO144.out; subst eo20) | ((with_reducible refine gate_dst (N := 1) rfl ?_); (try (refine gate_guard (by rfl) ?_; dsimp only)); refine zX (N := 1) (cs := #[.int .i64 0, .slice none 0 0, .slice none 0 0]) (t := 25) (h := ?_); intro gb141 hg w16 hbox hb; have BK141 := zm hbox; have GW141 := zm ((zS : w.heap.size ≤ gb141)); have GE141 := zm ((zS : w.heap.size ≤ gb141)); replace HO137 := zm (Kd.S_below (by (with_reducible repeat (first | apply Kd.S_alloc | apply Kd.S_drewN | apply Kd.S_drew)); exact HO137.out) hb); replace HO140 := zm (Kd.S_below (by (with_reducible repeat (first | apply Kd.S_alloc | apply Kd.S_drewN | apply Kd.S_drew)); exact HO140.out) hb); replace HB := zm (below_step zB hb); clear hb hbox hg; obtain ⟨hcz17_0, hcz17_1, hcz17_2, hfz17_0, hfz17_1, hfz17_2⟩ := zd3 BK141.out (.int .i64 0) (.slice none 0 0) (.slice none 0 0)) | ((with_reducible refine gate_dst (N := 11) rfl ?_); (try (refine gate_guard (by rfl) ?_; dsimp only)); refine Kd.S_lit k46 _ 46 ?hg (N := 11) ?hd (xs := ([(⟨3, 0, 0, 1, 0, 0, 0, (⟨#[]⟩ : ByteArray), ([] : List Int)⟩ : S46)] : List (S46))) (inner := [.int .i64 3, .int .i64 0, .int .i64 0, .int .i64 1, .int .i64 0, .int .i64 0, .int .i64 0, .string (⟨#[]⟩ : ByteArray), .slice none 0 0]) (ok := fun _ => True) (okp := fun _ => True) ?hr ?hp (fun _ hk => hk) trivial (Below.refl _ _) (Nat.le_refl _) (by simp) ?_; (case hd => rfl); (case hg => rfl); (case hr => first | (go_simp; done) | (go_simp; rfl)); (case hp => exact (Reps.c9 (show Kd.M k46 _ _ _ (⟨3, 0, 0, 1, 0, 0, 0, (⟨#[]⟩ : ByteArray), ([] : List Int)⟩ : S46) [.int .i64 3, .int .i64 0, .int .i64 0, .int .i64 1, .int .i64 0, .int .i64 0, .int .i64 0, .string (⟨#[]⟩ : ByteArray), .slice none 0 0] from (k46_mkM _ _ _ (⟨3, 0, 0, 1, 0, 0, 0, (⟨#[]⟩ : ByteArray), ([] : List Int)⟩ : S46) (Kd.R_nil _ _ _ _ _))) (Reps.none _ _))); intro v139 w12 ho13 hb hg_ hnew_; clear hg_ hnew_; (first | rw [← Ny138.out] at ho13 | (simp only [Int.reduceToNat] at ho13; rw [← Ny138.out] at ho13)); have HO140 := zm (Kd.S_lower ho13 (below_size zB)); replace HO137 := zm (Kd.S_below (by (with_reducible repeat (first | apply Kd.S_alloc | apply Kd.S_drewN | apply Kd.S_drew)); exact HO137.out) hb); replace HB := zm (below_step zB hb); clear hb ho13; obtain ⟨Ao14, co14, eo14⟩ := Kd.S_slice HO140.out; subst eo14; obtain ⟨Ao15, co15, eo15⟩ := Kd.S_slice HO137.out; subst eo15) | ((with_reducible refine gate_dst (N := 9) rfl ?_); (try (refine gate_guard (by rfl) ?_; dsimp only)); refine Kd.S_lit k44 _ 44 ?hg (N := 9) ?hd (xs := ([(⟨0, ([] : List Int), 0, 0, 0⟩ : S44)] : List (S44))) (inner := [.int .i64 0, .slice none 0 0, .int .i64 0, .int .i64 0, .int .i64 0]) (ok := fun _ => True) (okp := fun _ => True) ?hr ?hp (fun _ hk => hk) trivial (Below.refl _ _) (Nat.le_refl _) (by simp) ?_; (case hd => rfl); (case hg => rfl); (case hr => first | (go_simp; done) | (go_simp; rfl)); (case hp => exact (Reps.c5 (show Kd.M k44 _ _ _ (⟨0, ([] : List Int), 0, 0, 0⟩ : S44) [.int .i64 0, .slice none 0 0, .int .i64 0, .int .i64 0, .int .i64 0] from (k44_mkM _ _ _ (⟨0, ([] : List Int), 0, 0, 0⟩ : S44) (Kd.R_nil _ _ _ _ _))) (Reps.none _ _))); intro v136 w10 ho11 hb hg_ hnew_; clear hg_ hnew_; (first | rw [← Ny135.out] at ho11 | (simp only [Int.reduceToNat] at ho11; rw [← Ny135.out] at ho11)); have HO137 := zm (Kd.S_lower ho11 (below_size zB)); replace HB := zm (below_step zB hb); clear hb ho11))
       go_ret
       exact ⟨zE, zG⟩
      ·rw [if_neg c9] at H
       exact absurd H (by simp)
     ·rw [if_neg c8] at H
      exact absurd H (by simp)
    ·rw [if_neg c7] at H
     exact absurd H (by simp)
   ·replace c6 := Bool.eq_false_iff.mpr c6
    subst c6
    rw [if_neg (show ¬ (false = true) by decide)] at H
    exact absurd H (by simp)
  ·rw [if_neg c5] at H
   exact absurd H (by simp)
 ·rw [if_neg c4] at H
  exact absurd H (by simp)
end Go.Proofs.Ytngppcmdaanheaa.Pr
namespace Go.Proofs.Ytngppcmdaanheaa.Pr
open Go.RowKit Go.Proofs.YtngppcmdaanheaaW.PrintWords Go.Proofs.YtngppcmdaanheaaW.PrintLast Go.Proofs.YtngppcmdaanheaaW.PrintMore
attribute [local go_sem] max2_int min2_int max_two min_two
set_option linter.unusedVariables false
set_option linter.unusedSimpArgs false
/-! ### l3_Small: function 9 -/
mutual
def l3_Small.j0 : Nat → Bool → Int → List (S44) → List (S46) → Option (Int)
 | 0, _, _, _, _ => none
 | k + 1, x19, x160000, x160001, x160002 => if x19 = true then (some 0) else (l3_Small.l0 k 0 x160000 x160001 x160002)
def l3_Small.l0 : Nat → Int → Int → List (S44) → List (S46) → Option (Int)
 | 0, _, _, _, _ => none
 | k + 1, x3, x160000, x160001, x160002 => if x3 < (x160001.length : Int) then (if 0 ≤ x3 then (if (((rd_T44 x160001 x3).f1).length : Int) > 205 then (some 0) else (l3_Small.l0 k (wrap64 (x3 + 1)) x160000 x160001 x160002)) else (none)) else (l3_Small.l1 k 0 x160000 x160001 x160002)
def l3_Small.l1 : Nat → Int → Int → List (S44) → List (S46) → Option (Int)
 | 0, _, _, _, _ => none
 | k + 1, x4, x160000, x160001, x160002 => if x4 < (x160002.length : Int) then (if 0 ≤ x4 then (if (((rd_T46 x160002 x4).f8).length : Int) > 205 then (l3_Small.j3 k x4 true x160000 x160001 x160002) else (l3_Small.j3 k x4 (decide ((((rd_T46 x160002 x4).f7).size : Int) > 100)) x160000 x160001 x160002)) else (none)) else (some 1)
def l3_Small.j3 : Nat → Int → Bool → Int → List (S44) → List (S46) → Option (Int)
 | 0, _, _, _, _, _ => none
 | k + 1, x4, x59, x160000, x160001, x160002 => if x59 = true then (some 0) else (l3_Small.l1 k (wrap64 (x4 + 1)) x160000 x160001 x160002)
end
def l3_Small.f (k : Nat) (a0_0 : Int) (l0_1 : List (S44)) (l0_2 : List (S46)) : Option (Int) := if (l0_1.length : Int) > 15 then (l3_Small.j0 k true a0_0 l0_1 l0_2) else (if (l0_2.length : Int) > 40 then (l3_Small.j0 k true a0_0 l0_1 l0_2) else (l3_Small.j0 k (decide (a0_0 > 300)) a0_0 l0_1 l0_2))
set_option maxHeartbeats 8000000 in
set_option maxRecDepth 100000 in
theorem l3_Small.calls (k : Nat) (a0_0 : Int) (A0_1 : Option Addr) (c0_1 : Nat) (l0_1 : List (S44)) (A0_2 : Option Addr) (c0_2 : Nat) (l0_2 : List (S46)) (r : Int) (w : World) (hr0_1 : Kd.C k44 w A0_1 l0_1.length l0_1) (hc0_1 : l0_1.length ≤ c0_1) (hr0_2 : Kd.C k46 w A0_2 l0_2.length l0_2) (hc0_2 : l0_2.length ≤ c0_2) (h : l3_Small.f k a0_0 l0_1 l0_2 = some r) :
  Calls Try.prog 9 #[.agg #[.int .i64 a0_0, .slice A0_1 l0_1.length c0_1, .slice A0_2 l0_2.length c0_2]] w fun e w' => e = .returned (.int .i64 r) ∧ Below w.heap.size w w' := by
 have hu25 := Try.underlying25
 have HR0_1 := zm hr0_1
 have HC0_1 := zm hc0_1
 clear hr0_1 hc0_1
 have HR0_2 := zm hr0_2
 have HC0_2 := zm hc0_2
 clear hr0_2 hc0_2
 have HB := zm (Below.refl w.heap.size w)
 have H : (if (l0_1.length : Int) > 15 then (l3_Small.j0 k true a0_0 l0_1 l0_2) else (if (l0_2.length : Int) > 40 then (l3_Small.j0 k true a0_0 l0_1 l0_2) else (l3_Small.j0 k (decide (a0_0 > 300)) a0_0 l0_1 l0_2))) = some r := h
 clear h
 have HC2 := zm H
 clear H
 go_enter Try.func9, Try.ntmps9
 go_upto_region 1 with (first | ((with_reducible refine gate_dst (N := 1) rfl ?_); (try (refine gate_guard (by rfl) ?_; dsimp only)); refine zX (N := 1) (cs := #[.int .i64 a0_0, .slice A0_1 l0_1.length c0_1, .slice A0_2 l0_2.length c0_2]) (t := 25) (h := ?_); intro gb159 hg w3 hbox hb; have BK159 := zm hbox; have GW159 := zm ((zS : w.heap.size ≤ gb159)); have GE159 := zm ((zS : w.heap.size ≤ gb159)); replace HB := zm (below_step zB hb); clear hb hbox hg))
 (try simp only [Act.put, List.setIfInBounds_toArray, List.set_cons_zero, List.set_cons_succ])
 go_cut [19] (fun v19 wc => ∃ (kq : Nat) (x19_1 : Bool), v19 = .bool x19_1 ∧ Aside0 (l3_Small.j0 kq x19_1 a0_0 l0_1 l0_2 = some r) ∧ Aside0 (kq ≤ k) ∧ Aside0 (wc.heap[gb159]? = some (.cells #[.int .i64 a0_0, (.slice A0_1 l0_1.length c0_1), (.slice A0_2 l0_2.length c0_2)] 25 (0, 0))) ∧ Aside0 (Below w.heap.size w wc))
 case first =>
  have H := HC2.out
  clear HC2
  by_cases c4 : (l0_1.length : Int) > 15
  ·rw [if_pos c4] at H
   have c4b0 : decide (15 < (l0_1.length : Int)) = true := decide_eq_true c4
   have c4b1 : decide (15 < l0_1.length) = true := decide_eq_true (by omega)
   clear c4
   (first | rw [c4b0] | (simp only [i64_w, i32_w]; rw [c4b0]) | skip)
   have H' := zm H
   clear H
   obtain ⟨hcz5_0, hcz5_1, hcz5_2, hfz5_0, hfz5_1, hfz5_2⟩ := zd3 BK159.out (.int .i64 a0_0) (.slice A0_1 l0_1.length c0_1) (.slice A0_2 l0_2.length c0_2)
   go_wp2
   go_meet
   case rel => exact ⟨_, (true), zR, H', ⟨by first | omega | exact Nat.le_refl _⟩, ⟨zK⟩, ⟨zG⟩⟩
  ·rw [if_neg c4] at H
   have c4b0 : decide (15 < (l0_1.length : Int)) = false := decide_eq_false c4
   have c4b1 : decide (15 < l0_1.length) = false := decide_eq_false (by omega)
   clear c4
   (first | rw [c4b0] | (simp only [i64_w, i32_w]; rw [c4b0]) | skip)
   by_cases c6 : (l0_2.length : Int) > 40
   ·rw [if_pos c6] at H
    have c6b0 : decide (40 < (l0_2.length : Int)) = true := decide_eq_true c6
    have c6b1 : decide (40 < l0_2.length) = true := decide_eq_true (by omega)
    clear c6
    have H' := zm H
    clear H
    obtain ⟨hcz7_0, hcz7_1, hcz7_2, hfz7_0, hfz7_1, hfz7_2⟩ := zd3 BK159.out (.int .i64 a0_0) (.slice A0_1 l0_1.length c0_1) (.slice A0_2 l0_2.length c0_2)
    go_wp2
    go_meet
    case rel => exact ⟨_, (true), zR, H', ⟨by first | omega | exact Nat.le_refl _⟩, ⟨zK⟩, ⟨zG⟩⟩
   ·rw [if_neg c6] at H
    have c6b0 : decide (40 < (l0_2.length : Int)) = false := decide_eq_false c6
    have c6b1 : decide (40 < l0_2.length) = false := decide_eq_false (by omega)
    clear c6
    have H' := zm H
    clear H
    obtain ⟨hcz8_0, hcz8_1, hcz8_2, hfz8_0, hfz8_1, hfz8_2⟩ := zd3 BK159.out (.int .i64 a0_0) (.slice A0_1 l0_1.length c0_1) (.slice A0_2 l0_2.length c0_2)
    go_wp2
    go_meet
    case rel => exact ⟨_, (decide (a0_0 > 300)), zR, H', ⟨by first | omega | exact Nat.le_refl _⟩, ⟨zK⟩, ⟨zG⟩⟩
 case rest =>
  clear HC2
  obtain ⟨kq, x19_1, rfl, HA, HJ1, BK159, HB⟩ := hcut
  cases kq with
  | zero => exact absurd HA.out (by simp [l3_Small.j0])
  | succ kj1 =>
   have H := HA.out
   clear HA
   simp only [l3_Small.j0] at H
   by_cases c9 : x19_1 = true
   ·subst c9
    rw [if_pos rfl] at H
    obtain rfl := Option.some.inj H
    go_wp2
    go_ret
    exact ⟨zE, zG⟩
   ·replace c9 := Bool.eq_false_iff.mpr c9
    subst c9
    rw [if_neg (show ¬ (false = true) by decide)] at H
    have H' := zm H
    clear H
    go_wp2
    go_loopg [3] kj1 (fun kq v3 w' => ∃ (x3_2 : Int), v3 = .int .i64 x3_2 ∧ Aside0 (l3_Small.l0 kq x3_2 a0_0 l0_1 l0_2 = some r) ∧ Aside0 (kq ≤ kj1) ∧ Aside0 (w'.heap[gb159]? = some (.cells #[.int .i64 a0_0, (.slice A0_1 l0_1.length c0_1), (.slice A0_2 l0_2.length c0_2)] 25 (0, 0))) ∧ Aside0 (Below w.heap.size w w'))
    case atStart => exact ⟨(0), zR, H', ⟨Nat.le_refl _⟩, ⟨zK⟩, ⟨zG⟩⟩
    case round =>
     clear H'
     obtain ⟨x3_2, rfl, HA, HK2, BK159, HB⟩ := hrel
     cases gk with
     | zero => exact absurd HA.out (by simp [l3_Small.l0])
     | succ k2 =>
      have H := HA.out
      clear HA
      simp only [l3_Small.l0] at H
      by_cases c10 : x3_2 < (l0_1.length : Int)
      ·rw [if_pos c10] at H
       have c10b0 : decide (x3_2 < (l0_1.length : Int)) = true := decide_eq_true c10
       clear c10
       by_cases c11 : 0 ≤ x3_2
       ·rw [if_pos c11] at H
        have c11b0 : decide (0 ≤ x3_2) = true := decide_eq_true c11
        clear c11
        by_cases c12 : (((rd_T44 l0_1 x3_2).f1).length : Int) > 205
        ·rw [if_pos c12] at H
         have c12b0 : decide (205 < (((rd_T44 l0_1 x3_2).f1).length : Int)) = true := decide_eq_true c12
         have c12b1 : decide (205 < ((rd_T44 l0_1 x3_2).f1).length) = true := decide_eq_true (by omega)
         clear c12
         obtain rfl := Option.some.inj H
         obtain ⟨hcz13_0, hcz13_1, hcz13_2, hfz13_0, hfz13_1, hfz13_2⟩ := zd3 BK159.out (.int .i64 a0_0) (.slice A0_1 l0_1.length c0_1) (.slice A0_2 l0_2.length c0_2)
         have p160 : 0 ≤ (x3_2 : Int) := of_decide_eq_true zA
         have q160 : x3_2 < (l0_1.length : Int) := of_decide_eq_true zA
         obtain ⟨ad160, A160_1, c160_1, e160, hx160_0, hx160_1, hx160_2, hx160_3, hx160_4, hl160_1, hi160_1⟩ := at_T44 HR0_1.out x3_2 p160 q160
         cases e160
         replace hx160_0 := zH HB.out hx160_0
         replace hx160_1 := zH HB.out hx160_1
         replace hx160_2 := zH HB.out hx160_2
         replace hx160_3 := zH HB.out hx160_3
         replace hx160_4 := zH HB.out hx160_4
         have HR160_1 := zm hi160_1
         have HC160_1 := zm hl160_1
         clear hi160_1 hl160_1
         replace p160 := eq_true p160
         replace q160 := eq_true q160
         go_wp2
         go_ret
         exact ⟨zE, zG⟩
        ·rw [if_neg c12] at H
         have c12b0 : decide (205 < (((rd_T44 l0_1 x3_2).f1).length : Int)) = false := decide_eq_false c12
         have c12b1 : decide (205 < ((rd_T44 l0_1 x3_2).f1).length) = false := decide_eq_false (by omega)
         clear c12
         have H' := zm H
         clear H
         obtain ⟨hcz14_0, hcz14_1, hcz14_2, hfz14_0, hfz14_1, hfz14_2⟩ := zd3 BK159.out (.int .i64 a0_0) (.slice A0_1 l0_1.length c0_1) (.slice A0_2 l0_2.length c0_2)
         have p160 : 0 ≤ (x3_2 : Int) := of_decide_eq_true zA
         have q160 : x3_2 < (l0_1.length : Int) := of_decide_eq_true zA
         obtain ⟨ad160, A160_1, c160_1, e160, hx160_0, hx160_1, hx160_2, hx160_3, hx160_4, hl160_1, hi160_1⟩ := at_T44 HR0_1.out x3_2 p160 q160
         cases e160
         replace hx160_0 := zH HB.out hx160_0
         replace hx160_1 := zH HB.out hx160_1
         replace hx160_2 := zH HB.out hx160_2
         replace hx160_3 := zH HB.out hx160_3
         replace hx160_4 := zH HB.out hx160_4
         have HR160_1 := zm hi160_1
         have HC160_1 := zm hl160_1
         clear hi160_1 hl160_1
         replace p160 := eq_true p160
         replace q160 := eq_true q160
         go_wp2
         go_roundg k2
         case measure => have := HJ1.out; have := HK2.out; omega
         case rel => exact ⟨(wrap64 (x3_2 + 1)), zR, H', ⟨by have := HJ1.out; have := HK2.out; omega⟩, ⟨zK⟩, ⟨zG⟩⟩
       ·rw [if_neg c11] at H
        exact absurd H (by simp)
      ·rw [if_neg c10] at H
       have c10b0 : decide (x3_2 < (l0_1.length : Int)) = false := decide_eq_false c10
       clear c10
       have H' := zm H
       clear H
       obtain ⟨hcz15_0, hcz15_1, hcz15_2, hfz15_0, hfz15_1, hfz15_2⟩ := zd3 BK159.out (.int .i64 a0_0) (.slice A0_1 l0_1.length c0_1) (.slice A0_2 l0_2.length c0_2)
       go_wp2
       go_loopg [4] k2 (fun kq v4 w' => ∃ (x4_3 : Int), v4 = .int .i64 x4_3 ∧ Aside0 (l3_Small.l1 kq x4_3 a0_0 l0_1 l0_2 = some r) ∧ Aside0 (kq ≤ k2) ∧ Aside0 (w'.heap[gb159]? = some (.cells #[.int .i64 a0_0, (.slice A0_1 l0_1.length c0_1), (.slice A0_2 l0_2.length c0_2)] 25 (0, 0))) ∧ Aside0 (Below w.heap.size w w'))
       case atStart => exact ⟨(0), zR, H', ⟨Nat.le_refl _⟩, ⟨zK⟩, ⟨zG⟩⟩
       case round =>
        clear H'
        clear c10b0 hcz15_0 hcz15_1 hcz15_2 hfz15_0 hfz15_1 hfz15_2
        obtain ⟨x4_3, rfl, HA, HK3, BK159, HB⟩ := hrel
        cases gk with
        | zero => exact absurd HA.out (by simp [l3_Small.l1])
        | succ k3 =>
         have H := HA.out
         clear HA
         simp only [l3_Small.l1] at H
         by_cases c16 : x4_3 < (l0_2.length : Int)
         ·rw [if_pos c16] at H
          have c16b0 : decide (x4_3 < (l0_2.length : Int)) = true := decide_eq_true c16
          clear c16
          have HC17 := zm H
          clear H
          obtain ⟨hcz18_0, hcz18_1, hcz18_2, hfz18_0, hfz18_1, hfz18_2⟩ := zd3 BK159.out (.int .i64 a0_0) (.slice A0_1 l0_1.length c0_1) (.slice A0_2 l0_2.length c0_2)
          go_upto_region 11 with (fail)
          go_cut [59] (fun v59 wc => ∃ (kq : Nat) (x59_16 : Bool), v59 = .bool x59_16 ∧ Aside0 (l3_Small.j3 kq x4_3 x59_16 a0_0 l0_1 l0_2 = some r) ∧ Aside0 (kq ≤ k3) ∧ Aside0 (wc.heap[gb159]? = some (.cells #[.int .i64 a0_0, (.slice A0_1 l0_1.length c0_1), (.slice A0_2 l0_2.length c0_2)] 25 (0, 0))) ∧ Aside0 (Below w.heap.size w wc))
          case first =>
           have H := HC17.out
           clear HC17
           by_cases c19 : 0 ≤ x4_3
           ·rw [if_pos c19] at H
            have c19b0 : decide (0 ≤ x4_3) = true := decide_eq_true c19
            clear c19
            (first | rw [c19b0] | (simp only [i64_w, i32_w]; rw [c19b0]) | skip)
            by_cases c20 : (((rd_T46 l0_2 x4_3).f8).length : Int) > 205
            ·rw [if_pos c20] at H
             have c20b0 : decide (205 < (((rd_T46 l0_2 x4_3).f8).length : Int)) = true := decide_eq_true c20
             have c20b1 : decide (205 < ((rd_T46 l0_2 x4_3).f8).length) = true := decide_eq_true (by omega)
             clear c20
             have H' := zm H
             clear H
             obtain ⟨hcz21_0, hcz21_1, hcz21_2, hfz21_0, hfz21_1, hfz21_2⟩ := zd3 BK159.out (.int .i64 a0_0) (.slice A0_1 l0_1.length c0_1) (.slice A0_2 l0_2.length c0_2)
             have p161 : 0 ≤ (x4_3 : Int) := of_decide_eq_true zA
             have q161 : x4_3 < (l0_2.length : Int) := of_decide_eq_true zA
             obtain ⟨ad161, A161_8, c161_8, e161, hx161_0, hx161_1, hx161_2, hx161_3, hx161_4, hx161_5, hx161_6, hx161_7, hx161_8, hl161_8, hi161_8⟩ := at_T46 HR0_2.out x4_3 p161 q161
             cases e161
             replace hx161_0 := zH HB.out hx161_0
             replace hx161_1 := zH HB.out hx161_1
             replace hx161_2 := zH HB.out hx161_2
             replace hx161_3 := zH HB.out hx161_3
             replace hx161_4 := zH HB.out hx161_4
             replace hx161_5 := zH HB.out hx161_5
             replace hx161_6 := zH HB.out hx161_6
             replace hx161_7 := zH HB.out hx161_7
             replace hx161_8 := zH HB.out hx161_8
             have HR161_8 := zm hi161_8
             have HC161_8 := zm hl161_8
             clear hi161_8 hl161_8
             replace p161 := eq_true p161
             replace q161 := eq_true q161
             go_wp2
             go_meet
             case rel => exact ⟨_, (true), zR, H', ⟨by have := HJ1.out; have := HK2.out; have := HK3.out; first | omega | exact Nat.le_refl _⟩, ⟨zK⟩, ⟨zG⟩⟩
            ·rw [if_neg c20] at H
             have c20b0 : decide (205 < (((rd_T46 l0_2 x4_3).f8).length : Int)) = false := decide_eq_false c20
             have c20b1 : decide (205 < ((rd_T46 l0_2 x4_3).f8).length) = false := decide_eq_false (by omega)
             clear c20
             have H' := zm H
             clear H
             obtain ⟨hcz22_0, hcz22_1, hcz22_2, hfz22_0, hfz22_1, hfz22_2⟩ := zd3 BK159.out (.int .i64 a0_0) (.slice A0_1 l0_1.length c0_1) (.slice A0_2 l0_2.length c0_2)
             have p161 : 0 ≤ (x4_3 : Int) := of_decide_eq_true zA
             have q161 : x4_3 < (l0_2.length : Int) := of_decide_eq_true zA
             obtain ⟨ad161, A161_8, c161_8, e161, hx161_0, hx161_1, hx161_2, hx161_3, hx161_4, hx161_5, hx161_6, hx161_7, hx161_8, hl161_8, hi161_8⟩ := at_T46 HR0_2.out x4_3 p161 q161
             cases e161
             replace hx161_0 := zH HB.out hx161_0
             replace hx161_1 := zH HB.out hx161_1
             replace hx161_2 := zH HB.out hx161_2
             replace hx161_3 := zH HB.out hx161_3
             replace hx161_4 := zH HB.out hx161_4
             replace hx161_5 := zH HB.out hx161_5
             replace hx161_6 := zH HB.out hx161_6
             replace hx161_7 := zH HB.out hx161_7
             replace hx161_8 := zH HB.out hx161_8
             have HR161_8 := zm hi161_8
             have HC161_8 := zm hl161_8
             clear hi161_8 hl161_8
             replace p161 := eq_true p161
             replace q161 := eq_true q161
             have p162 : 0 ≤ (x4_3 : Int) := of_decide_eq_true zA
             have q162 : x4_3 < (l0_2.length : Int) := of_decide_eq_true zA
             obtain ⟨ad162, A162_8, c162_8, e162, hx162_0, hx162_1, hx162_2, hx162_3, hx162_4, hx162_5, hx162_6, hx162_7, hx162_8, hl162_8, hi162_8⟩ := at_T46 HR0_2.out x4_3 p162 q162
             obtain rfl : ad161 = ad162 := (by injection e162)
             replace hx162_0 := zH HB.out hx162_0
             replace hx162_1 := zH HB.out hx162_1
             replace hx162_2 := zH HB.out hx162_2
             replace hx162_3 := zH HB.out hx162_3
             replace hx162_4 := zH HB.out hx162_4
             replace hx162_5 := zH HB.out hx162_5
             replace hx162_6 := zH HB.out hx162_6
             replace hx162_7 := zH HB.out hx162_7
             replace hx162_8 := zH HB.out hx162_8
             have HR162_8 := zm hi162_8
             have HC162_8 := zm hl162_8
             clear hi162_8 hl162_8
             replace p162 := eq_true p162
             replace q162 := eq_true q162
             have ea_ := Option.some.inj (hx161_8.symm.trans hx162_8)
             injection ea_ with ea_ en_ ec_
             subst ea_
             subst ec_
             clear en_
             go_wp2
             go_meet
             case rel => exact ⟨_, (decide ((((rd_T46 l0_2 x4_3).f7).size : Int) > 100)), zR, H', ⟨by have := HJ1.out; have := HK2.out; have := HK3.out; first | omega | exact Nat.le_refl _⟩, ⟨zK⟩, ⟨zG⟩⟩
           ·rw [if_neg c19] at H
            exact absurd H (by simp)
          case rest =>
           clear HC17
           clear c16b0 hcz18_0 hcz18_1 hcz18_2 hfz18_0 hfz18_1 hfz18_2
           obtain ⟨kq, x59_16, rfl, HA, HJ16, BK159, HB⟩ := hcut
           cases kq with
           | zero => exact absurd HA.out (by simp [l3_Small.j3])
           | succ kj16 =>
            have H := HA.out
            clear HA
            simp only [l3_Small.j3] at H
            by_cases c23 : x59_16 = true
            ·subst c23
             rw [if_pos rfl] at H
             obtain rfl := Option.some.inj H
             go_wp2
             go_ret
             exact ⟨zE, zG⟩
            ·replace c23 := Bool.eq_false_iff.mpr c23
             subst c23
             rw [if_neg (show ¬ (false = true) by decide)] at H
             have H' := zm H
             clear H
             go_wp2
             go_roundg kj16
             case measure => have := HJ1.out; have := HK2.out; have := HK3.out; have := HJ16.out; omega
             case rel => exact ⟨(wrap64 (x4_3 + 1)), zR, H', ⟨by have := HJ1.out; have := HK2.out; have := HK3.out; have := HJ16.out; omega⟩, ⟨zK⟩, ⟨zG⟩⟩
         ·rw [if_neg c16] at H
          have c16b0 : decide (x4_3 < (l0_2.length : Int)) = false := decide_eq_false c16
          clear c16
          obtain rfl := Option.some.inj H
          obtain ⟨hcz24_0, hcz24_1, hcz24_2, hfz24_0, hfz24_1, hfz24_2⟩ := zd3 BK159.out (.int .i64 a0_0) (.slice A0_1 l0_1.length c0_1) (.slice A0_2 l0_2.length c0_2)
          go_wp2
          go_ret
          exact ⟨zE, zG⟩
end Go.Proofs.Ytngppcmdaanheaa.Pr
namespace Go.Proofs.Ytngppcmdaanheaa.Pr
open Go.RowKit Go.Proofs.YtngppcmdaanheaaW.PrintWords Go.Proofs.YtngppcmdaanheaaW.PrintLast Go.Proofs.YtngppcmdaanheaaW.PrintMore
attribute [local go_sem] max2_int min2_int max_two min_two
set_option linter.unusedVariables false
set_option linter.unusedSimpArgs false
/-! ### l4_few: function 10 -/
def l4_few.f (l0 : List (S41)) : Option ((List (S41))) := if 0 ≤ (mn (l0.length : Int) 60) then (if (mn (l0.length : Int) 60) ≤ (l0.length : Int) then (some (l0.take ((mn (l0.length : Int) 60) : Int).toNat)) else (none)) else (none)
set_option maxHeartbeats 8000000 in
set_option maxRecDepth 100000 in
theorem l4_few.calls (P0_ : Nat → Prop) (A0 : Option Addr) (c0 : Nat) (l0 : List (S41)) (r : List (S41)) (w : World) (hs0 : Kd.V k41 41 w w.heap.size (fun k_ => P0_ k_) (.slice A0 l0.length c0) l0) (h : l4_few.f l0 = some r) :
  Calls Try.prog 10 #[.slice A0 l0.length c0] w fun e w' => ∃ v0_ : Value, e = .returned (v0_) ∧ Kd.V k41 41 w' w.heap.size (fun k_ => (P0_ k_ ∨ w.heap.size ≤ k_)) v0_ r ∧ Below w.heap.size w w' := by
 have HO0 := zm (show Kd.V k41 41 w w.heap.size (fun k_ => (P0_ k_ ∨ w.heap.size ≤ k_)) (.slice A0 l0.length c0) l0 from Kd.V_mono hs0 (fun k_ hk => .inl hk))
 have HB := zm (Below.refl w.heap.size w)
 have H : (if 0 ≤ (mn (l0.length : Int) 60) then (if (mn (l0.length : Int) 60) ≤ (l0.length : Int) then (some (l0.take ((mn (l0.length : Int) 60) : Int).toNat)) else (none)) else (none)) = some r := h
 clear h
 obtain ⟨ji2, hji2⟩ : ∃ j_ : Int, (mn (l0.length : Int) 60) = j_ := ⟨_, rfl⟩
 replace H : (if 0 ≤ (ji2) then (if (ji2) ≤ (l0.length : Int) then (some (l0.take ((ji2) : Int).toNat)) else (none)) else (none)) = some r := by first | (rw [hji2] at H; exact H) | (simp only [hji2] at H ⊢; exact H)
 (try (have hji2h : ji2 ≤ 60 := by (rw [← hji2]; unfold mn; (repeat' split) <;> omega)))
 (try (have hji2g : ji2 ≤ 64 := by omega))
 (try (have hji2l : 0 ≤ ji2 := by (rw [← hji2]; unfold mn; (repeat' split) <;> omega)))
 (try (have hji2m : 0 ≤ ji2 := by omega))
 have hji2_ : (if 60 < (l0.length : Int) then 60 else (l0.length : Int)) = ji2 := hji2
 by_cases c3 : 0 ≤ (ji2)
 ·rw [if_pos c3] at H
  have c3b0 := eq_true c3
  have c3b1 : decide (0 ≤ (ji2)) = true := decide_eq_true c3
  clear c3
  by_cases c4 : (ji2) ≤ (l0.length : Int)
  ·rw [if_pos c4] at H
   have c4b0 := eq_true c4
   have c4b1 : decide ((ji2) ≤ (l0.length : Int)) = true := decide_eq_true c4
   clear c4
   obtain ⟨y163, hy163⟩ : ∃ y_ : List (S41), y_ = (l0.take ((ji2) : Int).toNat) := ⟨_, rfl⟩
   replace H : (some y163) = some r := by first | (rw [hy163]; with_reducible exact H) | (have H2_ := (Option.bind_some _ _).symm.trans H; rw [hy163]; with_reducible exact H2_) | (have H2_ := (Option.bind_some _ _).symm.trans H; with_reducible exact H2_) | with_reducible exact H | (rw [hy163]; exact H) | exact H
   have Ny163 := zm hy163
   clear hy163
   obtain rfl := Option.some.inj H
   have q5 : ((ji2) : Int) ≤ ((l0.length : Int) : Int) := of_decide_eq_true zA
   obtain ⟨i05, hi05, _, hsz5, _⟩ := info_parts info41
   have hroom5 : l0.length ≤ c0 := (Kd.V_reads' HO0.out).2.1
   have hC5 : Kd.F k41 _ _ A0 l0.length l0 := (Kd.V_at (base := w.heap.size) HO0.out).2.2
   have hcut5 := cut_to (P := Try.prog) 26 41 .i64 Try.underlying26 hi05 A0 l0.length c0 (ji2) (of_decide_eq_true zA) q5 hroom5
   have hr5 := Kd.F_take (m := ((ji2) : Int).toNat) hC5 (by omega)
   have hy5 : y163.length = ((ji2) : Int).toNat := (by rw [Ny163.out, List.length_take]; omega)
   rw [← Ny163.out] at hr5
   rw [← hy5] at hcut5
   have HO167 := zm (show Kd.V k41 41 _ w.heap.size _ (.slice A0 y163.length c0) y163 from Kd.V_mk (by omega) hr5)
   have HC167 := zm (show y163.length ≤ c0 from by omega)
   clear hr5 hC5 hroom5 hi05 hsz5
   have KY5 := zm hy5
   clear hy5
   replace q5 := eq_true q5
   go_enter Try.func10, Try.ntmps10
   go_wp2
   go_ret
   exact ⟨_, by first | rfl | (simp [errW_none, errW_some] <;> rfl) | (simp only [← hji2]; first | rfl | (simp [errW_none, errW_some] <;> rfl)) | (simp [*, errW_none, errW_some] <;> rfl) | (simp [*, errW_none, errW_some]; exact (fun (l_ : List UInt8) => (by cases l_ <;> rfl : l_.isEmpty = !(l_ != []))) _), by (with_reducible repeat (first | apply Kd.V_alloc | apply Kd.V_drewN | apply Kd.V_drew)); exact HO167.out, zB⟩
  ·rw [if_neg c4] at H
   exact absurd H (by simp)
 ·rw [if_neg c3] at H
  exact absurd H (by simp)
end Go.Proofs.Ytngppcmdaanheaa.Pr
namespace Go.Proofs.Ytngppcmdaanheaa.Pr
open Go.RowKit Go.Proofs.YtngppcmdaanheaaW.PrintWords Go.Proofs.YtngppcmdaanheaaW.PrintLast Go.Proofs.YtngppcmdaanheaaW.PrintMore
attribute [local go_sem] max2_int min2_int max_two min_two
set_option linter.unusedVariables false
set_option linter.unusedSimpArgs false
/-! ### q3_sets: function 22 -/
mutual
def q3_sets.l0 : Nat → List Int → Int → Int → List (S44) → List (S46) → Option (Bool)
 | 0, _, _, _, _, _ => none
 | k + 1, x0, x5, x169000, x169001, x169002 => if x5 < (x0.length : Int) then (if 0 ≤ x5 then (if (rd x0 x5) < 0 then (q3_sets.j1 k x0 x5 true x169000 x169001 x169002) else (q3_sets.j1 k x0 x5 (decide ((rd x0 x5) ≥ x169000)) x169000 x169001 x169002)) else (none)) else (some (decide ((x0.length : Int) ≤ 200)))
def q3_sets.j1 : Nat → List Int → Int → Bool → Int → List (S44) → List (S46) → Option (Bool)
 | 0, _, _, _, _, _, _ => none
 | k + 1, x0, x5, x25, x169000, x169001, x169002 => if x25 = true then (some false) else (q3_sets.l0 k x0 (wrap64 (x5 + 1)) x169000 x169001 x169002)
end
def q3_sets.f (k : Nat) (l0 : List Int) (a1_0 : Int) (l1_1 : List (S44)) (l1_2 : List (S46)) : Option (Bool) := q3_sets.l0 k l0 0 a1_0 l1_1 l1_2
set_option maxHeartbeats 8000000 in
set_option maxRecDepth 100000 in
theorem q3_sets.calls (k : Nat) (A0 : Option Addr) (c0 : Nat) (l0 : List Int) (a1_0 : Int) (A1_1 : Option Addr) (c1_1 : Nat) (l1_1 : List (S44)) (A1_2 : Option Addr) (c1_2 : Nat) (l1_2 : List (S46)) (r : Bool) (w : World) (hr0 : Kd.C (Kd.int .i64) w A0 l0.length l0) (hc0 : l0.length ≤ c0) (hr1_1 : Kd.C k44 w A1_1 l1_1.length l1_1) (hc1_1 : l1_1.length ≤ c1_1) (hr1_2 : Kd.C k46 w A1_2 l1_2.length l1_2) (hc1_2 : l1_2.length ≤ c1_2) (h : q3_sets.f k l0 a1_0 l1_1 l1_2 = some r) :
  Calls Try.prog 22 #[.slice A0 l0.length c0, .agg #[.int .i64 a1_0, .slice A1_1 l1_1.length c1_1, .slice A1_2 l1_2.length c1_2]] w fun e w' => e = .returned (.bool r) ∧ Below w.heap.size w w' := by
 have hu25 := Try.underlying25
 have HR0 := zm hr0
 have HC0 := zm hc0
 clear hr0 hc0
 have HR1_1 := zm hr1_1
 have HC1_1 := zm hc1_1
 clear hr1_1 hc1_1
 have HR1_2 := zm hr1_2
 have HC1_2 := zm hc1_2
 clear hr1_2 hc1_2
 have HB := zm (Below.refl w.heap.size w)
 have H : (q3_sets.l0 k l0 0 a1_0 l1_1 l1_2) = some r := h
 clear h
 have H' := zm H
 clear H
 go_enter Try.func22, Try.ntmps22
 go_wp2_with (first | ((with_reducible refine gate_dst (N := 3) rfl ?_); refine zX (N := 3) (cs := #[.int .i64 a1_0, .slice A1_1 l1_1.length c1_1, .slice A1_2 l1_2.length c1_2]) (t := 25) (h := ?_); intro gb168 hg w3 hbox hb; have BK168 := zm hbox; have GW168 := zm ((zS : w.heap.size ≤ gb168)); have GE168 := zm ((zS : w.heap.size ≤ gb168)); replace HB := zm (below_step zB hb); clear hb hbox hg))
 repeat (go_quiet (first | ((with_reducible refine gate_dst (N := 3) rfl ?_); refine zX (N := 3) (cs := #[.int .i64 a1_0, .slice A1_1 l1_1.length c1_1, .slice A1_2 l1_2.length c1_2]) (t := 25) (h := ?_); intro gb168 hg w3 hbox hb; have BK168 := zm hbox; have GW168 := zm ((zS : w.heap.size ≤ gb168)); have GE168 := zm ((zS : w.heap.size ≤ gb168)); replace HB := zm (below_step zB hb); clear hb hbox hg)); try go_wp2_with (first | ((with_reducible refine gate_dst (N := 3) rfl ?_); refine zX (N := 3) (cs := #[.int .i64 a1_0, .slice A1_1 l1_1.length c1_1, .slice A1_2 l1_2.length c1_2]) (t := 25) (h := ?_); intro gb168 hg w3 hbox hb; have BK168 := zm hbox; have GW168 := zm ((zS : w.heap.size ≤ gb168)); have GE168 := zm ((zS : w.heap.size ≤ gb168)); replace HB := zm (below_step zB hb); clear hb hbox hg)))
 go_loopg [5] k (fun kq v5 w' => ∃ (x5_1 : Int), v5 = .int .i64 x5_1 ∧ Aside0 (q3_sets.l0 kq l0 x5_1 a1_0 l1_1 l1_2 = some r) ∧ Aside0 (kq ≤ k) ∧ Aside0 (w'.heap[gb168]? = some (.cells #[.int .i64 a1_0, (.slice A1_1 l1_1.length c1_1), (.slice A1_2 l1_2.length c1_2)] 25 (0, 0))) ∧ Aside0 (Below w.heap.size w w'))
 case atStart => exact ⟨(0), zR, H', ⟨Nat.le_refl _⟩, ⟨zK⟩, ⟨zG⟩⟩
 case round =>
  clear H'
  obtain ⟨x5_1, rfl, HA, HK1, BK168, HB⟩ := hrel
  cases gk with
  | zero => exact absurd HA.out (by simp [q3_sets.l0])
  | succ k1 =>
   have H := HA.out
   clear HA
   simp only [q3_sets.l0] at H
   by_cases c4 : x5_1 < (l0.length : Int)
   ·rw [if_pos c4] at H
    have c4b0 : decide (x5_1 < (l0.length : Int)) = true := decide_eq_true c4
    clear c4
    have HC5 := zm H
    clear H
    go_upto_region 4 with (fail)
    repeat (go_quiet (fail); go_upto_region 4 with (fail))
    go_cut [25] (fun v25 wc => ∃ (kq : Nat) (x25_4 : Bool), v25 = .bool x25_4 ∧ Aside0 (q3_sets.j1 kq l0 x5_1 x25_4 a1_0 l1_1 l1_2 = some r) ∧ Aside0 (kq ≤ k1) ∧ Aside0 (wc.heap[gb168]? = some (.cells #[.int .i64 a1_0, (.slice A1_1 l1_1.length c1_1), (.slice A1_2 l1_2.length c1_2)] 25 (0, 0))) ∧ Aside0 (Below w.heap.size w wc))
    case first =>
     have H := HC5.out
     clear HC5
     by_cases c6 : 0 ≤ x5_1
     ·rw [if_pos c6] at H
      have c6b0 : decide (0 ≤ x5_1) = true := decide_eq_true c6
      clear c6
      (first | rw [c6b0] | (simp only [i64_w, i32_w]; rw [c6b0]) | skip)
      by_cases c7 : (rd l0 x5_1) < 0
      ·rw [if_pos c7] at H
       have c7b0 : decide ((rd l0 x5_1) < 0) = true := decide_eq_true c7
       clear c7
       have H' := zm H
       clear H
       have p169 : 0 ≤ (x5_1 : Int) := of_decide_eq_true zA
       have q169 : x5_1 < (l0.length : Int) := of_decide_eq_true zA
       obtain ⟨ad169, e169, hx169_0⟩ := Kd.at_int HR0.out x5_1 p169 q169
       cases e169
       replace hx169_0 := zH HB.out hx169_0
       replace p169 := eq_true p169
       replace q169 := eq_true q169
       go_wp2
       repeat (go_quiet (fail); try go_wp2)
       go_meet
       case rel => exact ⟨_, (true), zR, H', ⟨by have := HK1.out; first | omega | exact Nat.le_refl _⟩, ⟨zK⟩, ⟨zG⟩⟩
      ·rw [if_neg c7] at H
       have c7b0 : decide ((rd l0 x5_1) < 0) = false := decide_eq_false c7
       clear c7
       have H' := zm H
       clear H
       have p169 : 0 ≤ (x5_1 : Int) := of_decide_eq_true zA
       have q169 : x5_1 < (l0.length : Int) := of_decide_eq_true zA
       obtain ⟨ad169, e169, hx169_0⟩ := Kd.at_int HR0.out x5_1 p169 q169
       cases e169
       replace hx169_0 := zH HB.out hx169_0
       replace p169 := eq_true p169
       replace q169 := eq_true q169
       have p170 : 0 ≤ (x5_1 : Int) := of_decide_eq_true zA
       have q170 : x5_1 < (l0.length : Int) := of_decide_eq_true zA
       obtain ⟨ad170, e170, hx170_0⟩ := Kd.at_int HR0.out x5_1 p170 q170
       obtain rfl : ad169 = ad170 := (by injection e170)
       replace hx170_0 := zH HB.out hx170_0
       replace p170 := eq_true p170
       replace q170 := eq_true q170
       obtain ⟨hcz8_0, hcz8_1, hcz8_2, hfz8_0, hfz8_1, hfz8_2⟩ := zd3 BK168.out (.int .i64 a1_0) (.slice A1_1 l1_1.length c1_1) (.slice A1_2 l1_2.length c1_2)
       go_wp2
       repeat (go_quiet (fail); try go_wp2)
       go_meet
       case rel => exact ⟨_, (decide ((rd l0 x5_1) ≥ a1_0)), zR, H', ⟨by have := HK1.out; first | omega | exact Nat.le_refl _⟩, ⟨zK⟩, ⟨zG⟩⟩
     ·rw [if_neg c6] at H
      exact absurd H (by simp)
    case rest =>
     clear HC5
     clear c4b0
     obtain ⟨kq, x25_4, rfl, HA, HJ4, BK168, HB⟩ := hcut
     cases kq with
     | zero => exact absurd HA.out (by simp [q3_sets.j1])
     | succ kj4 =>
      have H := HA.out
      clear HA
      simp only [q3_sets.j1] at H
      by_cases c9 : x25_4 = true
      ·subst c9
       rw [if_pos rfl] at H
       obtain rfl := Option.some.inj H
       go_wp2
       repeat (go_quiet (fail); try go_wp2)
       go_ret
       exact ⟨zE, zG⟩
      ·replace c9 := Bool.eq_false_iff.mpr c9
       subst c9
       rw [if_neg (show ¬ (false = true) by decide)] at H
       have H' := zm H
       clear H
       go_wp2
       repeat (go_quiet (fail); try go_wp2)
       go_roundg kj4
       case measure => have := HK1.out; have := HJ4.out; omega
       case rel => exact ⟨(wrap64 (x5_1 + 1)), zR, H', ⟨by have := HK1.out; have := HJ4.out; omega⟩, ⟨zK⟩, ⟨zG⟩⟩
   ·rw [if_neg c4] at H
    have c4b0 : decide (x5_1 < (l0.length : Int)) = false := decide_eq_false c4
    clear c4
    obtain rfl := Option.some.inj H
    go_wp2
    repeat (go_quiet (fail); try go_wp2)
    go_ret
    exact ⟨zE, zG⟩
end Go.Proofs.Ytngppcmdaanheaa.Pr
namespace Go.Proofs.Ytngppcmdaanheaa.Pr
open Go.RowKit Go.Proofs.YtngppcmdaanheaaW.PrintWords Go.Proofs.YtngppcmdaanheaaW.PrintLast Go.Proofs.YtngppcmdaanheaaW.PrintMore
attribute [local go_sem] max2_int min2_int max_two min_two
set_option linter.unusedVariables false
set_option linter.unusedSimpArgs false
/-! ### q3_rule: function 23 -/
mutual
def q3_rule.j0 : Nat → Bool → Int → Int → Int → Int → Int → Int → Int → ByteArray → List Int → Int → List (S44) → List (S46) → Option (Bool)
 | 0, _, _, _, _, _, _, _, _, _, _, _, _, _ => none
 | k + 1, x39, x172000, x172001, x172002, x172003, x172004, x172005, x172006, x172007, x172008, x173000, x173001, x173002 => if x39 = true then (some false) else (if x172000 = 8 then (q3_rule.j1 k true x172000 x172001 x172002 x172003 x172004 x172005 x172006 x172007 x172008 x173000 x173001 x173002) else (q3_rule.j1 k (x172000 == 9) x172000 x172001 x172002 x172003 x172004 x172005 x172006 x172007 x172008 x173000 x173001 x173002))
def q3_rule.j1 : Nat → Bool → Int → Int → Int → Int → Int → Int → Int → ByteArray → List Int → Int → List (S44) → List (S46) → Option (Bool)
 | 0, _, _, _, _, _, _, _, _, _, _, _, _, _ => none
 | k + 1, x5, x172000, x172001, x172002, x172003, x172004, x172005, x172006, x172007, x172008, x173000, x173001, x173002 => if x172000 = 1 then (if x172006 < 4 then (q3_rule.j2 k x5 true x172000 x172001 x172002 x172003 x172004 x172005 x172006 x172007 x172008 x173000 x173001 x173002) else (q3_rule.j2 k x5 (decide (x172006 > 1000000)) x172000 x172001 x172002 x172003 x172004 x172005 x172006 x172007 x172008 x173000 x173001 x173002)) else (if x5 = true then (if x172006 < 4 then (q3_rule.j2 k x5 true x172000 x172001 x172002 x172003 x172004 x172005 x172006 x172007 x172008 x173000 x173001 x173002) else (q3_rule.j2 k x5 (decide (x172006 > 1000000)) x172000 x172001 x172002 x172003 x172004 x172005 x172006 x172007 x172008 x173000 x173001 x173002)) else (q3_rule.j2 k x5 false x172000 x172001 x172002 x172003 x172004 x172005 x172006 x172007 x172008 x173000 x173001 x173002))
def q3_rule.j2 : Nat → Bool → Bool → Int → Int → Int → Int → Int → Int → Int → ByteArray → List Int → Int → List (S44) → List (S46) → Option (Bool)
 | 0, _, _, _, _, _, _, _, _, _, _, _, _, _, _ => none
 | k + 1, x5, x63, x172000, x172001, x172002, x172003, x172004, x172005, x172006, x172007, x172008, x173000, x173001, x173002 => if x63 = true then (some false) else (if x172000 = 2 then (if x172005 > 0 then (some (decide (x172005 < (x173001.length : Int)))) else (some false)) else (if x172000 = 1 then (some true) else (if x172003 < 0 then (q3_rule.j3 k x5 true x172000 x172001 x172002 x172003 x172004 x172005 x172006 x172007 x172008 x173000 x173001 x173002) else (q3_rule.j3 k x5 (decide (x172003 ≥ x173000)) x172000 x172001 x172002 x172003 x172004 x172005 x172006 x172007 x172008 x173000 x173001 x173002))))
def q3_rule.j3 : Nat → Bool → Bool → Int → Int → Int → Int → Int → Int → Int → ByteArray → List Int → Int → List (S44) → List (S46) → Option (Bool)
 | 0, _, _, _, _, _, _, _, _, _, _, _, _, _, _ => none
 | k + 1, x5, x90, x172000, x172001, x172002, x172003, x172004, x172005, x172006, x172007, x172008, x173000, x173001, x173002 => if x90 = true then (some false) else (if x5 = true then ((q3_sets.f k x172008 x173000 x173001 x173002).bind fun t173 => (if t173 = true then (if x172005 ≥ 0 then (if x172005 < x173000 then (if x172000 = 9 then (some true) else (if x172004 ≥ (-1) then (some (decide (x172004 < x173000))) else (some false))) else (some false)) else (some false)) else (some false))) else (some true))
end
def q3_rule.f (k : Nat) (a0_0 : Int) (a0_1 : Int) (a0_2 : Int) (a0_3 : Int) (a0_4 : Int) (a0_5 : Int) (a0_6 : Int) (a0_7 : ByteArray) (l0_8 : List Int) (a1_0 : Int) (l1_1 : List (S44)) (l1_2 : List (S46)) : Option (Bool) := if a0_0 < 1 then (q3_rule.j0 k true a0_0 a0_1 a0_2 a0_3 a0_4 a0_5 a0_6 a0_7 l0_8 a1_0 l1_1 l1_2) else (if a0_0 > 9 then (q3_rule.j0 k true a0_0 a0_1 a0_2 a0_3 a0_4 a0_5 a0_6 a0_7 l0_8 a1_0 l1_1 l1_2) else (if a0_1 < 0 then (q3_rule.j0 k true a0_0 a0_1 a0_2 a0_3 a0_4 a0_5 a0_6 a0_7 l0_8 a1_0 l1_1 l1_2) else (if a0_1 ≥ (l1_1.length : Int) then (q3_rule.j0 k true a0_0 a0_1 a0_2 a0_3 a0_4 a0_5 a0_6 a0_7 l0_8 a1_0 l1_1 l1_2) else (if a0_2 < 0 then (q3_rule.j0 k true a0_0 a0_1 a0_2 a0_3 a0_4 a0_5 a0_6 a0_7 l0_8 a1_0 l1_1 l1_2) else (q3_rule.j0 k (decide (a0_2 ≥ a1_0)) a0_0 a0_1 a0_2 a0_3 a0_4 a0_5 a0_6 a0_7 l0_8 a1_0 l1_1 l1_2)))))
set_option maxHeartbeats 8000000 in
set_option maxRecDepth 100000 in
theorem q3_rule.calls (k : Nat) (a0_0 : Int) (a0_1 : Int) (a0_2 : Int) (a0_3 : Int) (a0_4 : Int) (a0_5 : Int) (a0_6 : Int) (a0_7 : ByteArray) (A0_8 : Option Addr) (c0_8 : Nat) (l0_8 : List Int) (a1_0 : Int) (A1_1 : Option Addr) (c1_1 : Nat) (l1_1 : List (S44)) (A1_2 : Option Addr) (c1_2 : Nat) (l1_2 : List (S46)) (r : Bool) (w : World) (hr0_8 : Kd.C (Kd.int .i64) w A0_8 l0_8.length l0_8) (hc0_8 : l0_8.length ≤ c0_8) (hr1_1 : Kd.C k44 w A1_1 l1_1.length l1_1) (hc1_1 : l1_1.length ≤ c1_1) (hr1_2 : Kd.C k46 w A1_2 l1_2.length l1_2) (hc1_2 : l1_2.length ≤ c1_2) (h : q3_rule.f k a0_0 a0_1 a0_2 a0_3 a0_4 a0_5 a0_6 a0_7 l0_8 a1_0 l1_1 l1_2 = some r) :
  Calls Try.prog 23 #[.agg #[.int .i64 a0_0, .int .i64 a0_1, .int .i64 a0_2, .int .i64 a0_3, .int .i64 a0_4, .int .i64 a0_5, .int .i64 a0_6, .string a0_7, .slice A0_8 l0_8.length c0_8], .agg #[.int .i64 a1_0, .slice A1_1 l1_1.length c1_1, .slice A1_2 l1_2.length c1_2]] w fun e w' => e = .returned (.bool r) ∧ Below w.heap.size w w' := by
 have hu46 := Try.underlying46
 have hu25 := Try.underlying25
 have HR0_8 := zm hr0_8
 have HC0_8 := zm hc0_8
 clear hr0_8 hc0_8
 have HR1_1 := zm hr1_1
 have HC1_1 := zm hc1_1
 clear hr1_1 hc1_1
 have HR1_2 := zm hr1_2
 have HC1_2 := zm hc1_2
 clear hr1_2 hc1_2
 have HB := zm (Below.refl w.heap.size w)
 have H : (if a0_0 < 1 then (q3_rule.j0 k true a0_0 a0_1 a0_2 a0_3 a0_4 a0_5 a0_6 a0_7 l0_8 a1_0 l1_1 l1_2) else (if a0_0 > 9 then (q3_rule.j0 k true a0_0 a0_1 a0_2 a0_3 a0_4 a0_5 a0_6 a0_7 l0_8 a1_0 l1_1 l1_2) else (if a0_1 < 0 then (q3_rule.j0 k true a0_0 a0_1 a0_2 a0_3 a0_4 a0_5 a0_6 a0_7 l0_8 a1_0 l1_1 l1_2) else (if a0_1 ≥ (l1_1.length : Int) then (q3_rule.j0 k true a0_0 a0_1 a0_2 a0_3 a0_4 a0_5 a0_6 a0_7 l0_8 a1_0 l1_1 l1_2) else (if a0_2 < 0 then (q3_rule.j0 k true a0_0 a0_1 a0_2 a0_3 a0_4 a0_5 a0_6 a0_7 l0_8 a1_0 l1_1 l1_2) else (q3_rule.j0 k (decide (a0_2 ≥ a1_0)) a0_0 a0_1 a0_2 a0_3 a0_4 a0_5 a0_6 a0_7 l0_8 a1_0 l1_1 l1_2)))))) = some r := h
 clear h
 have HC3 := zm H
 clear H
 go_enter Try.func23, Try.ntmps23
 go_upto_region 1 with (first | ((with_reducible refine gate_dst (N := 2) rfl ?_); (try (refine gate_guard (by rfl) ?_; dsimp only)); refine zX (N := 2) (cs := #[.int .i64 a0_0, .int .i64 a0_1, .int .i64 a0_2, .int .i64 a0_3, .int .i64 a0_4, .int .i64 a0_5, .int .i64 a0_6, .string a0_7, .slice A0_8 l0_8.length c0_8]) (t := 46) (h := ?_); intro gb171 hg w4 hbox hb; have BK171 := zm hbox; have GW171 := zm ((zS : w.heap.size ≤ gb171)); have GE171 := zm ((zS : w.heap.size ≤ gb171)); replace HB := zm (below_step zB hb); clear hb hbox hg) | ((with_reducible refine gate_dst (N := 3) rfl ?_); (try (refine gate_guard (by rfl) ?_; dsimp only)); refine zX (N := 3) (cs := #[.int .i64 a1_0, .slice A1_1 l1_1.length c1_1, .slice A1_2 l1_2.length c1_2]) (t := 25) (h := ?_); intro gb172 hg w5 hbox hb; have BK172 := zm hbox; have GW172 := zm ((zT : w.heap.size ≤ gb172)); have GE172 := zm ((zT : w.heap.size ≤ gb172)); have NB171_172 := zm ((zL : gb171 ≠ gb172)); have NB172_171 := zm ((zM : gb172 ≠ gb171)); replace BK171 := zm (blk_below (g := gb171) zK hb); replace HB := zm (below_step zG hb); clear hb hbox hg))
 (try simp only [Act.put, List.setIfInBounds_toArray, List.set_cons_zero, List.set_cons_succ])
 go_cut [39] (fun v39 wc => ∃ (kq : Nat) (x39_2 : Bool), v39 = .bool x39_2 ∧ Aside0 (q3_rule.j0 kq x39_2 a0_0 a0_1 a0_2 a0_3 a0_4 a0_5 a0_6 a0_7 l0_8 a1_0 l1_1 l1_2 = some r) ∧ Aside0 (kq ≤ k) ∧ Aside0 (wc.heap[gb171]? = some (.cells #[.int .i64 a0_0, .int .i64 a0_1, .int .i64 a0_2, .int .i64 a0_3, .int .i64 a0_4, .int .i64 a0_5, .int .i64 a0_6, .string a0_7, (.slice A0_8 l0_8.length c0_8)] 46 (0, 0))) ∧ Aside0 (wc.heap[gb172]? = some (.cells #[.int .i64 a1_0, (.slice A1_1 l1_1.length c1_1), (.slice A1_2 l1_2.length c1_2)] 25 (0, 0))) ∧ Aside0 (Below w.heap.size w wc))
 case first =>
  have H := HC3.out
  clear HC3
  by_cases c6 : a0_0 < 1
  ·rw [if_pos c6] at H
   have c6b0 : decide (a0_0 < 1) = true := decide_eq_true c6
   clear c6
   (first | rw [c6b0] | (simp only [i64_w, i32_w]; rw [c6b0]) | skip)
   have H' := zm H
   clear H
   have hnb7 := NB171_172.out
   have hnc7 := NB172_171.out
   obtain ⟨hcz8_0, hcz8_1, hcz8_2, hcz8_3, hcz8_4, hcz8_5, hcz8_6, hcz8_7, hcz8_8, hfz8_0, hfz8_1, hfz8_2, hfz8_3, hfz8_4, hfz8_5, hfz8_6, hfz8_7, hfz8_8⟩ := zd9 BK171.out (.int .i64 a0_0) (.int .i64 a0_1) (.int .i64 a0_2) (.int .i64 a0_3) (.int .i64 a0_4) (.int .i64 a0_5) (.int .i64 a0_6) (.string a0_7) (.slice A0_8 l0_8.length c0_8)
   go_wp2
   go_meet
   case rel => exact ⟨_, (true), zR, H', ⟨by first | omega | exact Nat.le_refl _⟩, ⟨zK⟩, ⟨zK⟩, ⟨zG⟩⟩
  ·rw [if_neg c6] at H
   have c6b0 : decide (a0_0 < 1) = false := decide_eq_false c6
   clear c6
   (first | rw [c6b0] | (simp only [i64_w, i32_w]; rw [c6b0]) | skip)
   by_cases c9 : a0_0 > 9
   ·rw [if_pos c9] at H
    have c9b0 : decide (9 < a0_0) = true := decide_eq_true c9
    clear c9
    have H' := zm H
    clear H
    have hnb10 := NB171_172.out
    have hnc10 := NB172_171.out
    obtain ⟨hcz11_0, hcz11_1, hcz11_2, hcz11_3, hcz11_4, hcz11_5, hcz11_6, hcz11_7, hcz11_8, hfz11_0, hfz11_1, hfz11_2, hfz11_3, hfz11_4, hfz11_5, hfz11_6, hfz11_7, hfz11_8⟩ := zd9 BK171.out (.int .i64 a0_0) (.int .i64 a0_1) (.int .i64 a0_2) (.int .i64 a0_3) (.int .i64 a0_4) (.int .i64 a0_5) (.int .i64 a0_6) (.string a0_7) (.slice A0_8 l0_8.length c0_8)
    go_wp2
    go_meet
    case rel => exact ⟨_, (true), zR, H', ⟨by first | omega | exact Nat.le_refl _⟩, ⟨zK⟩, ⟨zK⟩, ⟨zG⟩⟩
   ·rw [if_neg c9] at H
    have c9b0 : decide (9 < a0_0) = false := decide_eq_false c9
    clear c9
    by_cases c12 : a0_1 < 0
    ·rw [if_pos c12] at H
     have c12b0 : decide (a0_1 < 0) = true := decide_eq_true c12
     clear c12
     have H' := zm H
     clear H
     have hnb13 := NB171_172.out
     have hnc13 := NB172_171.out
     obtain ⟨hcz14_0, hcz14_1, hcz14_2, hcz14_3, hcz14_4, hcz14_5, hcz14_6, hcz14_7, hcz14_8, hfz14_0, hfz14_1, hfz14_2, hfz14_3, hfz14_4, hfz14_5, hfz14_6, hfz14_7, hfz14_8⟩ := zd9 BK171.out (.int .i64 a0_0) (.int .i64 a0_1) (.int .i64 a0_2) (.int .i64 a0_3) (.int .i64 a0_4) (.int .i64 a0_5) (.int .i64 a0_6) (.string a0_7) (.slice A0_8 l0_8.length c0_8)
     go_wp2
     go_meet
     case rel => exact ⟨_, (true), zR, H', ⟨by first | omega | exact Nat.le_refl _⟩, ⟨zK⟩, ⟨zK⟩, ⟨zG⟩⟩
    ·rw [if_neg c12] at H
     have c12b0 : decide (a0_1 < 0) = false := decide_eq_false c12
     clear c12
     by_cases c15 : a0_1 ≥ (l1_1.length : Int)
     ·rw [if_pos c15] at H
      have c15b0 : decide ((l1_1.length : Int) ≤ a0_1) = true := decide_eq_true c15
      clear c15
      have H' := zm H
      clear H
      have hnb16 := NB171_172.out
      have hnc16 := NB172_171.out
      obtain ⟨hcz17_0, hcz17_1, hcz17_2, hcz17_3, hcz17_4, hcz17_5, hcz17_6, hcz17_7, hcz17_8, hfz17_0, hfz17_1, hfz17_2, hfz17_3, hfz17_4, hfz17_5, hfz17_6, hfz17_7, hfz17_8⟩ := zd9 BK171.out (.int .i64 a0_0) (.int .i64 a0_1) (.int .i64 a0_2) (.int .i64 a0_3) (.int .i64 a0_4) (.int .i64 a0_5) (.int .i64 a0_6) (.string a0_7) (.slice A0_8 l0_8.length c0_8)
      obtain ⟨hcz18_0, hcz18_1, hcz18_2, hfz18_0, hfz18_1, hfz18_2⟩ := zd3 BK172.out (.int .i64 a1_0) (.slice A1_1 l1_1.length c1_1) (.slice A1_2 l1_2.length c1_2)
      go_wp2
      go_meet
      case rel => exact ⟨_, (true), zR, H', ⟨by first | omega | exact Nat.le_refl _⟩, ⟨zK⟩, ⟨zK⟩, ⟨zG⟩⟩
     ·rw [if_neg c15] at H
      have c15b0 : decide ((l1_1.length : Int) ≤ a0_1) = false := decide_eq_false c15
      clear c15
      by_cases c19 : a0_2 < 0
      ·rw [if_pos c19] at H
       have c19b0 : decide (a0_2 < 0) = true := decide_eq_true c19
       clear c19
       have H' := zm H
       clear H
       have hnb20 := NB171_172.out
       have hnc20 := NB172_171.out
       obtain ⟨hcz21_0, hcz21_1, hcz21_2, hcz21_3, hcz21_4, hcz21_5, hcz21_6, hcz21_7, hcz21_8, hfz21_0, hfz21_1, hfz21_2, hfz21_3, hfz21_4, hfz21_5, hfz21_6, hfz21_7, hfz21_8⟩ := zd9 BK171.out (.int .i64 a0_0) (.int .i64 a0_1) (.int .i64 a0_2) (.int .i64 a0_3) (.int .i64 a0_4) (.int .i64 a0_5) (.int .i64 a0_6) (.string a0_7) (.slice A0_8 l0_8.length c0_8)
       obtain ⟨hcz22_0, hcz22_1, hcz22_2, hfz22_0, hfz22_1, hfz22_2⟩ := zd3 BK172.out (.int .i64 a1_0) (.slice A1_1 l1_1.length c1_1) (.slice A1_2 l1_2.length c1_2)
       go_wp2
       go_meet
       case rel => exact ⟨_, (true), zR, H', ⟨by first | omega | exact Nat.le_refl _⟩, ⟨zK⟩, ⟨zK⟩, ⟨zG⟩⟩
      ·rw [if_neg c19] at H
       have c19b0 : decide (a0_2 < 0) = false := decide_eq_false c19
       clear c19
       have H' := zm H
       clear H
       have hnb23 := NB171_172.out
       have hnc23 := NB172_171.out
       obtain ⟨hcz24_0, hcz24_1, hcz24_2, hcz24_3, hcz24_4, hcz24_5, hcz24_6, hcz24_7, hcz24_8, hfz24_0, hfz24_1, hfz24_2, hfz24_3, hfz24_4, hfz24_5, hfz24_6, hfz24_7, hfz24_8⟩ := zd9 BK171.out (.int .i64 a0_0) (.int .i64 a0_1) (.int .i64 a0_2) (.int .i64 a0_3) (.int .i64 a0_4) (.int .i64 a0_5) (.int .i64 a0_6) (.string a0_7) (.slice A0_8 l0_8.length c0_8)
       obtain ⟨hcz25_0, hcz25_1, hcz25_2, hfz25_0, hfz25_1, hfz25_2⟩ := zd3 BK172.out (.int .i64 a1_0) (.slice A1_1 l1_1.length c1_1) (.slice A1_2 l1_2.length c1_2)
       go_wp2
       go_meet
       case rel => exact ⟨_, (decide (a0_2 ≥ a1_0)), zR, H', ⟨by first | omega | exact Nat.le_refl _⟩, ⟨zK⟩, ⟨zK⟩, ⟨zG⟩⟩
 case rest =>
  clear HC3
  obtain ⟨kq, x39_2, rfl, HA, HJ2, BK171, BK172, HB⟩ := hcut
  cases kq with
  | zero => exact absurd HA.out (by simp [q3_rule.j0])
  | succ kj2 =>
   have H := HA.out
   clear HA
   simp only [q3_rule.j0] at H
   by_cases c26 : x39_2 = true
   ·subst c26
    rw [if_pos rfl] at H
    obtain rfl := Option.some.inj H
    go_wp2
    go_ret
    exact ⟨zE, zG⟩
   ·replace c26 := Bool.eq_false_iff.mpr c26
    subst c26
    rw [if_neg (show ¬ (false = true) by decide)] at H
    have HC27 := zm H
    clear H
    go_upto_region 3 with (fail)
    go_cut [5] (fun v5 wc => ∃ (kq : Nat) (x5_26 : Bool), v5 = .bool x5_26 ∧ Aside0 (q3_rule.j1 kq x5_26 a0_0 a0_1 a0_2 a0_3 a0_4 a0_5 a0_6 a0_7 l0_8 a1_0 l1_1 l1_2 = some r) ∧ Aside0 (kq ≤ kj2) ∧ Aside0 (wc.heap[gb171]? = some (.cells #[.int .i64 a0_0, .int .i64 a0_1, .int .i64 a0_2, .int .i64 a0_3, .int .i64 a0_4, .int .i64 a0_5, .int .i64 a0_6, .string a0_7, (.slice A0_8 l0_8.length c0_8)] 46 (0, 0))) ∧ Aside0 (wc.heap[gb172]? = some (.cells #[.int .i64 a1_0, (.slice A1_1 l1_1.length c1_1), (.slice A1_2 l1_2.length c1_2)] 25 (0, 0))) ∧ Aside0 (Below w.heap.size w wc))
    case first =>
     have H := HC27.out
     clear HC27
     by_cases c28 : a0_0 = 8
     ·rw [if_pos c28] at H
      have c28b0 : (a0_0 == 8) = true := beq_iff_eq.mpr c28
      have c28b1 : (a0_0 != 8) = false := bne_eq_false_iff_eq.mpr c28
      clear c28
      (first | rw [c28b0] | (simp only [i64_w, i32_w]; rw [c28b0]) | skip)
      have H' := zm H
      clear H
      have hnb29 := NB171_172.out
      have hnc29 := NB172_171.out
      obtain ⟨hcz30_0, hcz30_1, hcz30_2, hcz30_3, hcz30_4, hcz30_5, hcz30_6, hcz30_7, hcz30_8, hfz30_0, hfz30_1, hfz30_2, hfz30_3, hfz30_4, hfz30_5, hfz30_6, hfz30_7, hfz30_8⟩ := zd9 BK171.out (.int .i64 a0_0) (.int .i64 a0_1) (.int .i64 a0_2) (.int .i64 a0_3) (.int .i64 a0_4) (.int .i64 a0_5) (.int .i64 a0_6) (.string a0_7) (.slice A0_8 l0_8.length c0_8)
      go_wp2
      go_meet
      case rel => exact ⟨_, (true), zR, H', ⟨by have := HJ2.out; first | omega | exact Nat.le_refl _⟩, ⟨zK⟩, ⟨zK⟩, ⟨zG⟩⟩
     ·rw [if_neg c28] at H
      have c28b0 : (a0_0 == 8) = false := beq_eq_false_iff_ne.mpr c28
      have c28b1 : (a0_0 != 8) = true := bne_iff_ne.mpr c28
      (first | rw [c28b0] | (simp only [i64_w, i32_w]; rw [c28b0]) | skip)
      have H' := zm H
      clear H
      have hnb31 := NB171_172.out
      have hnc31 := NB172_171.out
      obtain ⟨hcz32_0, hcz32_1, hcz32_2, hcz32_3, hcz32_4, hcz32_5, hcz32_6, hcz32_7, hcz32_8, hfz32_0, hfz32_1, hfz32_2, hfz32_3, hfz32_4, hfz32_5, hfz32_6, hfz32_7, hfz32_8⟩ := zd9 BK171.out (.int .i64 a0_0) (.int .i64 a0_1) (.int .i64 a0_2) (.int .i64 a0_3) (.int .i64 a0_4) (.int .i64 a0_5) (.int .i64 a0_6) (.string a0_7) (.slice A0_8 l0_8.length c0_8)
      go_wp2
      go_meet
      case rel => exact ⟨_, ((a0_0 == 9)), zR, H', ⟨by have := HJ2.out; first | omega | exact Nat.le_refl _⟩, ⟨zK⟩, ⟨zK⟩, ⟨zG⟩⟩
    case rest =>
     clear HC27
     obtain ⟨kq, x5_26, rfl, HA, HJ26, BK171, BK172, HB⟩ := hcut
     cases kq with
     | zero => exact absurd HA.out (by simp [q3_rule.j1])
     | succ kj26 =>
      have H := HA.out
      clear HA
      simp only [q3_rule.j1] at H
      have HC33 := zm H
      clear H
      go_upto_region 4 with (fail)
      go_cut [63] (fun v63 wc => ∃ (kq : Nat) (x63_32 : Bool), v63 = .bool x63_32 ∧ Aside0 (q3_rule.j2 kq x5_26 x63_32 a0_0 a0_1 a0_2 a0_3 a0_4 a0_5 a0_6 a0_7 l0_8 a1_0 l1_1 l1_2 = some r) ∧ Aside0 (kq ≤ kj26) ∧ Aside0 (wc.heap[gb171]? = some (.cells #[.int .i64 a0_0, .int .i64 a0_1, .int .i64 a0_2, .int .i64 a0_3, .int .i64 a0_4, .int .i64 a0_5, .int .i64 a0_6, .string a0_7, (.slice A0_8 l0_8.length c0_8)] 46 (0, 0))) ∧ Aside0 (wc.heap[gb172]? = some (.cells #[.int .i64 a1_0, (.slice A1_1 l1_1.length c1_1), (.slice A1_2 l1_2.length c1_2)] 25 (0, 0))) ∧ Aside0 (Below w.heap.size w wc))
      case first =>
       have H := HC33.out
       clear HC33
       by_cases c34 : a0_0 = 1
       ·rw [if_pos c34] at H
        have c34b0 : (a0_0 == 1) = true := beq_iff_eq.mpr c34
        have c34b1 : (a0_0 != 1) = false := bne_eq_false_iff_eq.mpr c34
        clear c34
        (first | rw [c34b0] | (simp only [i64_w, i32_w]; rw [c34b0]) | skip)
        by_cases c35 : a0_6 < 4
        ·rw [if_pos c35] at H
         have c35b0 : decide (a0_6 < 4) = true := decide_eq_true c35
         clear c35
         have H' := zm H
         clear H
         have hnb36 := NB171_172.out
         have hnc36 := NB172_171.out
         obtain ⟨hcz37_0, hcz37_1, hcz37_2, hcz37_3, hcz37_4, hcz37_5, hcz37_6, hcz37_7, hcz37_8, hfz37_0, hfz37_1, hfz37_2, hfz37_3, hfz37_4, hfz37_5, hfz37_6, hfz37_7, hfz37_8⟩ := zd9 BK171.out (.int .i64 a0_0) (.int .i64 a0_1) (.int .i64 a0_2) (.int .i64 a0_3) (.int .i64 a0_4) (.int .i64 a0_5) (.int .i64 a0_6) (.string a0_7) (.slice A0_8 l0_8.length c0_8)
         go_wp2
         go_meet
         case rel => exact ⟨_, (true), zR, H', ⟨by have := HJ2.out; have := HJ26.out; first | omega | exact Nat.le_refl _⟩, ⟨zK⟩, ⟨zK⟩, ⟨zG⟩⟩
        ·rw [if_neg c35] at H
         have c35b0 : decide (a0_6 < 4) = false := decide_eq_false c35
         clear c35
         have H' := zm H
         clear H
         have hnb38 := NB171_172.out
         have hnc38 := NB172_171.out
         obtain ⟨hcz39_0, hcz39_1, hcz39_2, hcz39_3, hcz39_4, hcz39_5, hcz39_6, hcz39_7, hcz39_8, hfz39_0, hfz39_1, hfz39_2, hfz39_3, hfz39_4, hfz39_5, hfz39_6, hfz39_7, hfz39_8⟩ := zd9 BK171.out (.int .i64 a0_0) (.int .i64 a0_1) (.int .i64 a0_2) (.int .i64 a0_3) (.int .i64 a0_4) (.int .i64 a0_5) (.int .i64 a0_6) (.string a0_7) (.slice A0_8 l0_8.length c0_8)
         go_wp2
         go_meet
         case rel => exact ⟨_, (decide (a0_6 > 1000000)), zR, H', ⟨by have := HJ2.out; have := HJ26.out; first | omega | exact Nat.le_refl _⟩, ⟨zK⟩, ⟨zK⟩, ⟨zG⟩⟩
       ·rw [if_neg c34] at H
        have c34b0 : (a0_0 == 1) = false := beq_eq_false_iff_ne.mpr c34
        have c34b1 : (a0_0 != 1) = true := bne_iff_ne.mpr c34
        (first | rw [c34b0] | (simp only [i64_w, i32_w]; rw [c34b0]) | skip)
        by_cases c40 : x5_26 = true
        ·subst c40
         rw [if_pos rfl] at H
         by_cases c41 : a0_6 < 4
         ·rw [if_pos c41] at H
          have c41b0 : decide (a0_6 < 4) = true := decide_eq_true c41
          clear c41
          have H' := zm H
          clear H
          have hnb42 := NB171_172.out
          have hnc42 := NB172_171.out
          obtain ⟨hcz43_0, hcz43_1, hcz43_2, hcz43_3, hcz43_4, hcz43_5, hcz43_6, hcz43_7, hcz43_8, hfz43_0, hfz43_1, hfz43_2, hfz43_3, hfz43_4, hfz43_5, hfz43_6, hfz43_7, hfz43_8⟩ := zd9 BK171.out (.int .i64 a0_0) (.int .i64 a0_1) (.int .i64 a0_2) (.int .i64 a0_3) (.int .i64 a0_4) (.int .i64 a0_5) (.int .i64 a0_6) (.string a0_7) (.slice A0_8 l0_8.length c0_8)
          go_wp2
          go_meet
          case rel => exact ⟨_, (true), zR, H', ⟨by have := HJ2.out; have := HJ26.out; first | omega | exact Nat.le_refl _⟩, ⟨zK⟩, ⟨zK⟩, ⟨zG⟩⟩
         ·rw [if_neg c41] at H
          have c41b0 : decide (a0_6 < 4) = false := decide_eq_false c41
          clear c41
          have H' := zm H
          clear H
          have hnb44 := NB171_172.out
          have hnc44 := NB172_171.out
          obtain ⟨hcz45_0, hcz45_1, hcz45_2, hcz45_3, hcz45_4, hcz45_5, hcz45_6, hcz45_7, hcz45_8, hfz45_0, hfz45_1, hfz45_2, hfz45_3, hfz45_4, hfz45_5, hfz45_6, hfz45_7, hfz45_8⟩ := zd9 BK171.out (.int .i64 a0_0) (.int .i64 a0_1) (.int .i64 a0_2) (.int .i64 a0_3) (.int .i64 a0_4) (.int .i64 a0_5) (.int .i64 a0_6) (.string a0_7) (.slice A0_8 l0_8.length c0_8)
          go_wp2
          go_meet
          case rel => exact ⟨_, (decide (a0_6 > 1000000)), zR, H', ⟨by have := HJ2.out; have := HJ26.out; first | omega | exact Nat.le_refl _⟩, ⟨zK⟩, ⟨zK⟩, ⟨zG⟩⟩
        ·replace c40 := Bool.eq_false_iff.mpr c40
         subst c40
         rw [if_neg (show ¬ (false = true) by decide)] at H
         have H' := zm H
         clear H
         have hnb46 := NB171_172.out
         have hnc46 := NB172_171.out
         obtain ⟨hcz47_0, hcz47_1, hcz47_2, hcz47_3, hcz47_4, hcz47_5, hcz47_6, hcz47_7, hcz47_8, hfz47_0, hfz47_1, hfz47_2, hfz47_3, hfz47_4, hfz47_5, hfz47_6, hfz47_7, hfz47_8⟩ := zd9 BK171.out (.int .i64 a0_0) (.int .i64 a0_1) (.int .i64 a0_2) (.int .i64 a0_3) (.int .i64 a0_4) (.int .i64 a0_5) (.int .i64 a0_6) (.string a0_7) (.slice A0_8 l0_8.length c0_8)
         go_wp2
         go_meet
         case rel => exact ⟨_, (false), zR, H', ⟨by have := HJ2.out; have := HJ26.out; first | omega | exact Nat.le_refl _⟩, ⟨zK⟩, ⟨zK⟩, ⟨zG⟩⟩
      case rest =>
       clear HC33
       obtain ⟨kq, x63_32, rfl, HA, HJ32, BK171, BK172, HB⟩ := hcut
       cases kq with
       | zero => exact absurd HA.out (by simp [q3_rule.j2])
       | succ kj32 =>
        have H := HA.out
        clear HA
        simp only [q3_rule.j2] at H
        by_cases c48 : x63_32 = true
        ·subst c48
         rw [if_pos rfl] at H
         obtain rfl := Option.some.inj H
         go_wp2
         go_ret
         exact ⟨zE, zG⟩
        ·replace c48 := Bool.eq_false_iff.mpr c48
         subst c48
         rw [if_neg (show ¬ (false = true) by decide)] at H
         by_cases c49 : a0_0 = 2
         ·rw [if_pos c49] at H
          have c49b0 : (a0_0 == 2) = true := beq_iff_eq.mpr c49
          have c49b1 : (a0_0 != 2) = false := bne_eq_false_iff_eq.mpr c49
          clear c49
          by_cases c50 : a0_5 > 0
          ·rw [if_pos c50] at H
           have c50b0 : decide (0 < a0_5) = true := decide_eq_true c50
           clear c50
           obtain rfl := Option.some.inj H
           have hnb51 := NB171_172.out
           have hnc51 := NB172_171.out
           obtain ⟨hcz52_0, hcz52_1, hcz52_2, hcz52_3, hcz52_4, hcz52_5, hcz52_6, hcz52_7, hcz52_8, hfz52_0, hfz52_1, hfz52_2, hfz52_3, hfz52_4, hfz52_5, hfz52_6, hfz52_7, hfz52_8⟩ := zd9 BK171.out (.int .i64 a0_0) (.int .i64 a0_1) (.int .i64 a0_2) (.int .i64 a0_3) (.int .i64 a0_4) (.int .i64 a0_5) (.int .i64 a0_6) (.string a0_7) (.slice A0_8 l0_8.length c0_8)
           obtain ⟨hcz53_0, hcz53_1, hcz53_2, hfz53_0, hfz53_1, hfz53_2⟩ := zd3 BK172.out (.int .i64 a1_0) (.slice A1_1 l1_1.length c1_1) (.slice A1_2 l1_2.length c1_2)
           go_wp2
           go_ret
           exact ⟨zE, zG⟩
          ·rw [if_neg c50] at H
           have c50b0 : decide (0 < a0_5) = false := decide_eq_false c50
           clear c50
           obtain rfl := Option.some.inj H
           have hnb54 := NB171_172.out
           have hnc54 := NB172_171.out
           obtain ⟨hcz55_0, hcz55_1, hcz55_2, hcz55_3, hcz55_4, hcz55_5, hcz55_6, hcz55_7, hcz55_8, hfz55_0, hfz55_1, hfz55_2, hfz55_3, hfz55_4, hfz55_5, hfz55_6, hfz55_7, hfz55_8⟩ := zd9 BK171.out (.int .i64 a0_0) (.int .i64 a0_1) (.int .i64 a0_2) (.int .i64 a0_3) (.int .i64 a0_4) (.int .i64 a0_5) (.int .i64 a0_6) (.string a0_7) (.slice A0_8 l0_8.length c0_8)
           go_wp2
           go_ret
           exact ⟨zE, zG⟩
         ·rw [if_neg c49] at H
          have c49b0 : (a0_0 == 2) = false := beq_eq_false_iff_ne.mpr c49
          have c49b1 : (a0_0 != 2) = true := bne_iff_ne.mpr c49
          by_cases c56 : a0_0 = 1
          ·rw [if_pos c56] at H
           have c56b0 : (a0_0 == 1) = true := beq_iff_eq.mpr c56
           have c56b1 : (a0_0 != 1) = false := bne_eq_false_iff_eq.mpr c56
           clear c56
           obtain rfl := Option.some.inj H
           have hnb57 := NB171_172.out
           have hnc57 := NB172_171.out
           obtain ⟨hcz58_0, hcz58_1, hcz58_2, hcz58_3, hcz58_4, hcz58_5, hcz58_6, hcz58_7, hcz58_8, hfz58_0, hfz58_1, hfz58_2, hfz58_3, hfz58_4, hfz58_5, hfz58_6, hfz58_7, hfz58_8⟩ := zd9 BK171.out (.int .i64 a0_0) (.int .i64 a0_1) (.int .i64 a0_2) (.int .i64 a0_3) (.int .i64 a0_4) (.int .i64 a0_5) (.int .i64 a0_6) (.string a0_7) (.slice A0_8 l0_8.length c0_8)
           go_wp2
           go_ret
           exact ⟨zE, zG⟩
          ·rw [if_neg c56] at H
           have c56b0 : (a0_0 == 1) = false := beq_eq_false_iff_ne.mpr c56
           have c56b1 : (a0_0 != 1) = true := bne_iff_ne.mpr c56
           have HC59 := zm H
           clear H
           have hnb60 := NB171_172.out
           have hnc60 := NB172_171.out
           obtain ⟨hcz61_0, hcz61_1, hcz61_2, hcz61_3, hcz61_4, hcz61_5, hcz61_6, hcz61_7, hcz61_8, hfz61_0, hfz61_1, hfz61_2, hfz61_3, hfz61_4, hfz61_5, hfz61_6, hfz61_7, hfz61_8⟩ := zd9 BK171.out (.int .i64 a0_0) (.int .i64 a0_1) (.int .i64 a0_2) (.int .i64 a0_3) (.int .i64 a0_4) (.int .i64 a0_5) (.int .i64 a0_6) (.string a0_7) (.slice A0_8 l0_8.length c0_8)
           go_upto_region 10 with (fail)
           go_cut [90] (fun v90 wc => ∃ (kq : Nat) (x90_58 : Bool), v90 = .bool x90_58 ∧ Aside0 (q3_rule.j3 kq x5_26 x90_58 a0_0 a0_1 a0_2 a0_3 a0_4 a0_5 a0_6 a0_7 l0_8 a1_0 l1_1 l1_2 = some r) ∧ Aside0 (kq ≤ kj32) ∧ Aside0 (wc.heap[gb171]? = some (.cells #[.int .i64 a0_0, .int .i64 a0_1, .int .i64 a0_2, .int .i64 a0_3, .int .i64 a0_4, .int .i64 a0_5, .int .i64 a0_6, .string a0_7, (.slice A0_8 l0_8.length c0_8)] 46 (0, 0))) ∧ Aside0 (wc.heap[gb172]? = some (.cells #[.int .i64 a1_0, (.slice A1_1 l1_1.length c1_1), (.slice A1_2 l1_2.length c1_2)] 25 (0, 0))) ∧ Aside0 (Below w.heap.size w wc))
           case first =>
            have H := HC59.out
            clear HC59
            by_cases c62 : a0_3 < 0
            ·rw [if_pos c62] at H
             have c62b0 : decide (a0_3 < 0) = true := decide_eq_true c62
             clear c62
             (first | rw [c62b0] | (simp only [i64_w, i32_w]; rw [c62b0]) | skip)
             have H' := zm H
             clear H
             have hnb63 := NB171_172.out
             have hnc63 := NB172_171.out
             obtain ⟨hcz64_0, hcz64_1, hcz64_2, hcz64_3, hcz64_4, hcz64_5, hcz64_6, hcz64_7, hcz64_8, hfz64_0, hfz64_1, hfz64_2, hfz64_3, hfz64_4, hfz64_5, hfz64_6, hfz64_7, hfz64_8⟩ := zd9 BK171.out (.int .i64 a0_0) (.int .i64 a0_1) (.int .i64 a0_2) (.int .i64 a0_3) (.int .i64 a0_4) (.int .i64 a0_5) (.int .i64 a0_6) (.string a0_7) (.slice A0_8 l0_8.length c0_8)
             go_wp2
             go_meet
             case rel => exact ⟨_, (true), zR, H', ⟨by have := HJ2.out; have := HJ26.out; have := HJ32.out; first | omega | exact Nat.le_refl _⟩, ⟨zK⟩, ⟨zK⟩, ⟨zG⟩⟩
            ·rw [if_neg c62] at H
             have c62b0 : decide (a0_3 < 0) = false := decide_eq_false c62
             clear c62
             (first | rw [c62b0] | (simp only [i64_w, i32_w]; rw [c62b0]) | skip)
             have H' := zm H
             clear H
             have hnb65 := NB171_172.out
             have hnc65 := NB172_171.out
             obtain ⟨hcz66_0, hcz66_1, hcz66_2, hcz66_3, hcz66_4, hcz66_5, hcz66_6, hcz66_7, hcz66_8, hfz66_0, hfz66_1, hfz66_2, hfz66_3, hfz66_4, hfz66_5, hfz66_6, hfz66_7, hfz66_8⟩ := zd9 BK171.out (.int .i64 a0_0) (.int .i64 a0_1) (.int .i64 a0_2) (.int .i64 a0_3) (.int .i64 a0_4) (.int .i64 a0_5) (.int .i64 a0_6) (.string a0_7) (.slice A0_8 l0_8.length c0_8)
             obtain ⟨hcz67_0, hcz67_1, hcz67_2, hfz67_0, hfz67_1, hfz67_2⟩ := zd3 BK172.out (.int .i64 a1_0) (.slice A1_1 l1_1.length c1_1) (.slice A1_2 l1_2.length c1_2)
             go_wp2
             go_meet
             case rel => exact ⟨_, (decide (a0_3 ≥ a1_0)), zR, H', ⟨by have := HJ2.out; have := HJ26.out; have := HJ32.out; first | omega | exact Nat.le_refl _⟩, ⟨zK⟩, ⟨zK⟩, ⟨zG⟩⟩
           case rest =>
            clear HC59
            clear c49 c49b0 c49b1 c56 c56b0 c56b1 hcz61_0 hcz61_1 hcz61_2 hcz61_3 hcz61_4 hcz61_5 hcz61_6 hcz61_7 hcz61_8 hfz61_0 hfz61_1 hfz61_2 hfz61_3 hfz61_4 hfz61_5 hfz61_6 hfz61_7 hfz61_8
            obtain ⟨kq, x90_58, rfl, HA, HJ58, BK171, BK172, HB⟩ := hcut
            cases kq with
            | zero => exact absurd HA.out (by simp [q3_rule.j3])
            | succ kj58 =>
             have H := HA.out
             clear HA
             simp only [q3_rule.j3] at H
             by_cases c68 : x90_58 = true
             ·subst c68
              rw [if_pos rfl] at H
              obtain rfl := Option.some.inj H
              go_wp2
              go_ret
              exact ⟨zE, zG⟩
             ·replace c68 := Bool.eq_false_iff.mpr c68
              subst c68
              rw [if_neg (show ¬ (false = true) by decide)] at H
              by_cases c69 : x5_26 = true
              ·subst c69
               rw [if_pos rfl] at H
               obtain ⟨t173, A70, H⟩ := zO H
               by_cases c71 : t173 = true
               ·subst c71
                rw [if_pos rfl] at H
                by_cases c72 : a0_5 ≥ 0
                ·rw [if_pos c72] at H
                 have c72b0 : decide (0 ≤ a0_5) = true := decide_eq_true c72
                 clear c72
                 by_cases c73 : a0_5 < a1_0
                 ·rw [if_pos c73] at H
                  have c73b0 : decide (a0_5 < a1_0) = true := decide_eq_true c73
                  clear c73
                  by_cases c74 : a0_0 = 9
                  ·rw [if_pos c74] at H
                   have c74b0 : (a0_0 == 9) = true := beq_iff_eq.mpr c74
                   have c74b1 : (a0_0 != 9) = false := bne_eq_false_iff_eq.mpr c74
                   clear c74
                   obtain rfl := Option.some.inj H
                   have hnb75 := NB171_172.out
                   have hnc75 := NB172_171.out
                   obtain ⟨hcz76_0, hcz76_1, hcz76_2, hcz76_3, hcz76_4, hcz76_5, hcz76_6, hcz76_7, hcz76_8, hfz76_0, hfz76_1, hfz76_2, hfz76_3, hfz76_4, hfz76_5, hfz76_6, hfz76_7, hfz76_8⟩ := zd9 BK171.out (.int .i64 a0_0) (.int .i64 a0_1) (.int .i64 a0_2) (.int .i64 a0_3) (.int .i64 a0_4) (.int .i64 a0_5) (.int .i64 a0_6) (.string a0_7) (.slice A0_8 l0_8.length c0_8)
                   obtain ⟨hcz77_0, hcz77_1, hcz77_2, hfz77_0, hfz77_1, hfz77_2⟩ := zd3 BK172.out (.int .i64 a1_0) (.slice A1_1 l1_1.length c1_1) (.slice A1_2 l1_2.length c1_2)
                   go_wp2_with (first | ((with_reducible refine gate_callee (f := 22) rfl ?_); refine goesL_ (some 96) rfl rfl Try.func22 (by kernel_rfl) rfl #[.slice A0_8 l0_8.length c0_8, .agg #[.int .i64 a1_0, .slice A1_1 l1_1.length c1_1, .slice A1_2 l1_2.length c1_2]] rfl zP ?_; (with_reducible refine (q3_sets.calls kj58 _ _ l0_8 a1_0 _ _ l1_1 _ _ l1_2 true _ ?side1 ?side2 ?side3 ?side4 ?side5 ?side6 A70.out).mono ?_); (case side1 => exact zC (Kd.C_below HR0_8.out HB.out)); (case side2 => exact HC0_8.out); (case side3 => exact zC (Kd.C_below HR1_1.out HB.out)); (case side4 => exact HC1_1.out); (case side5 => exact zC (Kd.C_below HR1_2.out HB.out)); (case side6 => exact HC1_2.out); rintro e w78 ⟨rfl, hb⟩; refine ⟨_, rfl, ?_⟩; replace BK171 := zm (blk_below (g := gb171) zK hb); replace BK172 := zm (blk_below (g := gb172) zK hb); replace HB := zm (below_step zG hb); (try clear hb); obtain ⟨hcz79_0, hcz79_1, hcz79_2, hcz79_3, hcz79_4, hcz79_5, hcz79_6, hcz79_7, hcz79_8, hfz79_0, hfz79_1, hfz79_2, hfz79_3, hfz79_4, hfz79_5, hfz79_6, hfz79_7, hfz79_8⟩ := zd9 BK171.out (.int .i64 a0_0) (.int .i64 a0_1) (.int .i64 a0_2) (.int .i64 a0_3) (.int .i64 a0_4) (.int .i64 a0_5) (.int .i64 a0_6) (.string a0_7) (.slice A0_8 l0_8.length c0_8); obtain ⟨hcz80_0, hcz80_1, hcz80_2, hfz80_0, hfz80_1, hfz80_2⟩ := zd3 BK172.out (.int .i64 a1_0) (.slice A1_1 l1_1.length c1_1) (.slice A1_2 l1_2.length c1_2)))
                   go_ret
                   exact ⟨zE, zG⟩
                  ·rw [if_neg c74] at H
                   have c74b0 : (a0_0 == 9) = false := beq_eq_false_iff_ne.mpr c74
                   have c74b1 : (a0_0 != 9) = true := bne_iff_ne.mpr c74
                   by_cases c81 : a0_4 ≥ (-1)
                   ·rw [if_pos c81] at H
                    have c81b0 : decide ((-1) ≤ a0_4) = true := decide_eq_true c81
                    clear c81
                    obtain rfl := Option.some.inj H
                    have hnb82 := NB171_172.out
                    have hnc82 := NB172_171.out
                    obtain ⟨hcz83_0, hcz83_1, hcz83_2, hcz83_3, hcz83_4, hcz83_5, hcz83_6, hcz83_7, hcz83_8, hfz83_0, hfz83_1, hfz83_2, hfz83_3, hfz83_4, hfz83_5, hfz83_6, hfz83_7, hfz83_8⟩ := zd9 BK171.out (.int .i64 a0_0) (.int .i64 a0_1) (.int .i64 a0_2) (.int .i64 a0_3) (.int .i64 a0_4) (.int .i64 a0_5) (.int .i64 a0_6) (.string a0_7) (.slice A0_8 l0_8.length c0_8)
                    obtain ⟨hcz84_0, hcz84_1, hcz84_2, hfz84_0, hfz84_1, hfz84_2⟩ := zd3 BK172.out (.int .i64 a1_0) (.slice A1_1 l1_1.length c1_1) (.slice A1_2 l1_2.length c1_2)
                    go_wp2_with (first | ((with_reducible refine gate_callee (f := 22) rfl ?_); refine goesL_ (some 96) rfl rfl Try.func22 (by kernel_rfl) rfl #[.slice A0_8 l0_8.length c0_8, .agg #[.int .i64 a1_0, .slice A1_1 l1_1.length c1_1, .slice A1_2 l1_2.length c1_2]] rfl zP ?_; (with_reducible refine (q3_sets.calls kj58 _ _ l0_8 a1_0 _ _ l1_1 _ _ l1_2 true _ ?side1 ?side2 ?side3 ?side4 ?side5 ?side6 A70.out).mono ?_); (case side1 => exact zC (Kd.C_below HR0_8.out HB.out)); (case side2 => exact HC0_8.out); (case side3 => exact zC (Kd.C_below HR1_1.out HB.out)); (case side4 => exact HC1_1.out); (case side5 => exact zC (Kd.C_below HR1_2.out HB.out)); (case side6 => exact HC1_2.out); rintro e w85 ⟨rfl, hb⟩; refine ⟨_, rfl, ?_⟩; replace BK171 := zm (blk_below (g := gb171) zK hb); replace BK172 := zm (blk_below (g := gb172) zK hb); replace HB := zm (below_step zG hb); (try clear hb); obtain ⟨hcz86_0, hcz86_1, hcz86_2, hcz86_3, hcz86_4, hcz86_5, hcz86_6, hcz86_7, hcz86_8, hfz86_0, hfz86_1, hfz86_2, hfz86_3, hfz86_4, hfz86_5, hfz86_6, hfz86_7, hfz86_8⟩ := zd9 BK171.out (.int .i64 a0_0) (.int .i64 a0_1) (.int .i64 a0_2) (.int .i64 a0_3) (.int .i64 a0_4) (.int .i64 a0_5) (.int .i64 a0_6) (.string a0_7) (.slice A0_8 l0_8.length c0_8); obtain ⟨hcz87_0, hcz87_1, hcz87_2, hfz87_0, hfz87_1, hfz87_2⟩ := zd3 BK172.out (.int .i64 a1_0) (.slice A1_1 l1_1.length c1_1) (.slice A1_2 l1_2.length c1_2)))
                    go_ret
                    exact ⟨zE, zG⟩
                   ·rw [if_neg c81] at H
                    have c81b0 : decide ((-1) ≤ a0_4) = false := decide_eq_false c81
                    clear c81
                    obtain rfl := Option.some.inj H
                    have hnb88 := NB171_172.out
                    have hnc88 := NB172_171.out
                    obtain ⟨hcz89_0, hcz89_1, hcz89_2, hcz89_3, hcz89_4, hcz89_5, hcz89_6, hcz89_7, hcz89_8, hfz89_0, hfz89_1, hfz89_2, hfz89_3, hfz89_4, hfz89_5, hfz89_6, hfz89_7, hfz89_8⟩ := zd9 BK171.out (.int .i64 a0_0) (.int .i64 a0_1) (.int .i64 a0_2) (.int .i64 a0_3) (.int .i64 a0_4) (.int .i64 a0_5) (.int .i64 a0_6) (.string a0_7) (.slice A0_8 l0_8.length c0_8)
                    obtain ⟨hcz90_0, hcz90_1, hcz90_2, hfz90_0, hfz90_1, hfz90_2⟩ := zd3 BK172.out (.int .i64 a1_0) (.slice A1_1 l1_1.length c1_1) (.slice A1_2 l1_2.length c1_2)
                    go_wp2_with (first | ((with_reducible refine gate_callee (f := 22) rfl ?_); refine goesL_ (some 96) rfl rfl Try.func22 (by kernel_rfl) rfl #[.slice A0_8 l0_8.length c0_8, .agg #[.int .i64 a1_0, .slice A1_1 l1_1.length c1_1, .slice A1_2 l1_2.length c1_2]] rfl zP ?_; (with_reducible refine (q3_sets.calls kj58 _ _ l0_8 a1_0 _ _ l1_1 _ _ l1_2 true _ ?side1 ?side2 ?side3 ?side4 ?side5 ?side6 A70.out).mono ?_); (case side1 => exact zC (Kd.C_below HR0_8.out HB.out)); (case side2 => exact HC0_8.out); (case side3 => exact zC (Kd.C_below HR1_1.out HB.out)); (case side4 => exact HC1_1.out); (case side5 => exact zC (Kd.C_below HR1_2.out HB.out)); (case side6 => exact HC1_2.out); rintro e w91 ⟨rfl, hb⟩; refine ⟨_, rfl, ?_⟩; replace BK171 := zm (blk_below (g := gb171) zK hb); replace BK172 := zm (blk_below (g := gb172) zK hb); replace HB := zm (below_step zG hb); (try clear hb); obtain ⟨hcz92_0, hcz92_1, hcz92_2, hcz92_3, hcz92_4, hcz92_5, hcz92_6, hcz92_7, hcz92_8, hfz92_0, hfz92_1, hfz92_2, hfz92_3, hfz92_4, hfz92_5, hfz92_6, hfz92_7, hfz92_8⟩ := zd9 BK171.out (.int .i64 a0_0) (.int .i64 a0_1) (.int .i64 a0_2) (.int .i64 a0_3) (.int .i64 a0_4) (.int .i64 a0_5) (.int .i64 a0_6) (.string a0_7) (.slice A0_8 l0_8.length c0_8); obtain ⟨hcz93_0, hcz93_1, hcz93_2, hfz93_0, hfz93_1, hfz93_2⟩ := zd3 BK172.out (.int .i64 a1_0) (.slice A1_1 l1_1.length c1_1) (.slice A1_2 l1_2.length c1_2)))
                    go_ret
                    exact ⟨zE, zG⟩
                 ·rw [if_neg c73] at H
                  have c73b0 : decide (a0_5 < a1_0) = false := decide_eq_false c73
                  clear c73
                  obtain rfl := Option.some.inj H
                  have hnb94 := NB171_172.out
                  have hnc94 := NB172_171.out
                  obtain ⟨hcz95_0, hcz95_1, hcz95_2, hcz95_3, hcz95_4, hcz95_5, hcz95_6, hcz95_7, hcz95_8, hfz95_0, hfz95_1, hfz95_2, hfz95_3, hfz95_4, hfz95_5, hfz95_6, hfz95_7, hfz95_8⟩ := zd9 BK171.out (.int .i64 a0_0) (.int .i64 a0_1) (.int .i64 a0_2) (.int .i64 a0_3) (.int .i64 a0_4) (.int .i64 a0_5) (.int .i64 a0_6) (.string a0_7) (.slice A0_8 l0_8.length c0_8)
                  obtain ⟨hcz96_0, hcz96_1, hcz96_2, hfz96_0, hfz96_1, hfz96_2⟩ := zd3 BK172.out (.int .i64 a1_0) (.slice A1_1 l1_1.length c1_1) (.slice A1_2 l1_2.length c1_2)
                  go_wp2_with (first | ((with_reducible refine gate_callee (f := 22) rfl ?_); refine goesL_ (some 96) rfl rfl Try.func22 (by kernel_rfl) rfl #[.slice A0_8 l0_8.length c0_8, .agg #[.int .i64 a1_0, .slice A1_1 l1_1.length c1_1, .slice A1_2 l1_2.length c1_2]] rfl zP ?_; (with_reducible refine (q3_sets.calls kj58 _ _ l0_8 a1_0 _ _ l1_1 _ _ l1_2 true _ ?side1 ?side2 ?side3 ?side4 ?side5 ?side6 A70.out).mono ?_); (case side1 => exact zC (Kd.C_below HR0_8.out HB.out)); (case side2 => exact HC0_8.out); (case side3 => exact zC (Kd.C_below HR1_1.out HB.out)); (case side4 => exact HC1_1.out); (case side5 => exact zC (Kd.C_below HR1_2.out HB.out)); (case side6 => exact HC1_2.out); rintro e w97 ⟨rfl, hb⟩; refine ⟨_, rfl, ?_⟩; replace BK171 := zm (blk_below (g := gb171) zK hb); replace BK172 := zm (blk_below (g := gb172) zK hb); replace HB := zm (below_step zG hb); (try clear hb); obtain ⟨hcz98_0, hcz98_1, hcz98_2, hcz98_3, hcz98_4, hcz98_5, hcz98_6, hcz98_7, hcz98_8, hfz98_0, hfz98_1, hfz98_2, hfz98_3, hfz98_4, hfz98_5, hfz98_6, hfz98_7, hfz98_8⟩ := zd9 BK171.out (.int .i64 a0_0) (.int .i64 a0_1) (.int .i64 a0_2) (.int .i64 a0_3) (.int .i64 a0_4) (.int .i64 a0_5) (.int .i64 a0_6) (.string a0_7) (.slice A0_8 l0_8.length c0_8); obtain ⟨hcz99_0, hcz99_1, hcz99_2, hfz99_0, hfz99_1, hfz99_2⟩ := zd3 BK172.out (.int .i64 a1_0) (.slice A1_1 l1_1.length c1_1) (.slice A1_2 l1_2.length c1_2)))
                  go_ret
                  exact ⟨zE, zG⟩
                ·rw [if_neg c72] at H
                 have c72b0 : decide (0 ≤ a0_5) = false := decide_eq_false c72
                 clear c72
                 obtain rfl := Option.some.inj H
                 have hnb100 := NB171_172.out
                 have hnc100 := NB172_171.out
                 obtain ⟨hcz101_0, hcz101_1, hcz101_2, hcz101_3, hcz101_4, hcz101_5, hcz101_6, hcz101_7, hcz101_8, hfz101_0, hfz101_1, hfz101_2, hfz101_3, hfz101_4, hfz101_5, hfz101_6, hfz101_7, hfz101_8⟩ := zd9 BK171.out (.int .i64 a0_0) (.int .i64 a0_1) (.int .i64 a0_2) (.int .i64 a0_3) (.int .i64 a0_4) (.int .i64 a0_5) (.int .i64 a0_6) (.string a0_7) (.slice A0_8 l0_8.length c0_8)
                 obtain ⟨hcz102_0, hcz102_1, hcz102_2, hfz102_0, hfz102_1, hfz102_2⟩ := zd3 BK172.out (.int .i64 a1_0) (.slice A1_1 l1_1.length c1_1) (.slice A1_2 l1_2.length c1_2)
                 go_wp2_with (first | ((with_reducible refine gate_callee (f := 22) rfl ?_); refine goesL_ (some 96) rfl rfl Try.func22 (by kernel_rfl) rfl #[.slice A0_8 l0_8.length c0_8, .agg #[.int .i64 a1_0, .slice A1_1 l1_1.length c1_1, .slice A1_2 l1_2.length c1_2]] rfl zP ?_; (with_reducible refine (q3_sets.calls kj58 _ _ l0_8 a1_0 _ _ l1_1 _ _ l1_2 true _ ?side1 ?side2 ?side3 ?side4 ?side5 ?side6 A70.out).mono ?_); (case side1 => exact zC (Kd.C_below HR0_8.out HB.out)); (case side2 => exact HC0_8.out); (case side3 => exact zC (Kd.C_below HR1_1.out HB.out)); (case side4 => exact HC1_1.out); (case side5 => exact zC (Kd.C_below HR1_2.out HB.out)); (case side6 => exact HC1_2.out); rintro e w103 ⟨rfl, hb⟩; refine ⟨_, rfl, ?_⟩; replace BK171 := zm (blk_below (g := gb171) zK hb); replace BK172 := zm (blk_below (g := gb172) zK hb); replace HB := zm (below_step zG hb); (try clear hb); obtain ⟨hcz104_0, hcz104_1, hcz104_2, hcz104_3, hcz104_4, hcz104_5, hcz104_6, hcz104_7, hcz104_8, hfz104_0, hfz104_1, hfz104_2, hfz104_3, hfz104_4, hfz104_5, hfz104_6, hfz104_7, hfz104_8⟩ := zd9 BK171.out (.int .i64 a0_0) (.int .i64 a0_1) (.int .i64 a0_2) (.int .i64 a0_3) (.int .i64 a0_4) (.int .i64 a0_5) (.int .i64 a0_6) (.string a0_7) (.slice A0_8 l0_8.length c0_8)))
                 go_ret
                 exact ⟨zE, zG⟩
               ·replace c71 := Bool.eq_false_iff.mpr c71
                subst c71
                rw [if_neg (show ¬ (false = true) by decide)] at H
                obtain rfl := Option.some.inj H
                have hnb105 := NB171_172.out
                have hnc105 := NB172_171.out
                obtain ⟨hcz106_0, hcz106_1, hcz106_2, hcz106_3, hcz106_4, hcz106_5, hcz106_6, hcz106_7, hcz106_8, hfz106_0, hfz106_1, hfz106_2, hfz106_3, hfz106_4, hfz106_5, hfz106_6, hfz106_7, hfz106_8⟩ := zd9 BK171.out (.int .i64 a0_0) (.int .i64 a0_1) (.int .i64 a0_2) (.int .i64 a0_3) (.int .i64 a0_4) (.int .i64 a0_5) (.int .i64 a0_6) (.string a0_7) (.slice A0_8 l0_8.length c0_8)
                obtain ⟨hcz107_0, hcz107_1, hcz107_2, hfz107_0, hfz107_1, hfz107_2⟩ := zd3 BK172.out (.int .i64 a1_0) (.slice A1_1 l1_1.length c1_1) (.slice A1_2 l1_2.length c1_2)
                go_wp2_with (first | ((with_reducible refine gate_callee (f := 22) rfl ?_); refine goesL_ (some 96) rfl rfl Try.func22 (by kernel_rfl) rfl #[.slice A0_8 l0_8.length c0_8, .agg #[.int .i64 a1_0, .slice A1_1 l1_1.length c1_1, .slice A1_2 l1_2.length c1_2]] rfl zP ?_; (with_reducible refine (q3_sets.calls kj58 _ _ l0_8 a1_0 _ _ l1_1 _ _ l1_2 false _ ?side1 ?side2 ?side3 ?side4 ?side5 ?side6 A70.out).mono ?_); (case side1 => exact zC (Kd.C_below HR0_8.out HB.out)); (case side2 => exact HC0_8.out); (case side3 => exact zC (Kd.C_below HR1_1.out HB.out)); (case side4 => exact HC1_1.out); (case side5 => exact zC (Kd.C_below HR1_2.out HB.out)); (case side6 => exact HC1_2.out); rintro e w108 ⟨rfl, hb⟩; refine ⟨_, rfl, ?_⟩; replace BK171 := zm (blk_below (g := gb171) zK hb); replace BK172 := zm (blk_below (g := gb172) zK hb); replace HB := zm (below_step zG hb); (try clear hb)))
                go_ret
                exact ⟨zE, zG⟩
              ·replace c69 := Bool.eq_false_iff.mpr c69
               subst c69
               rw [if_neg (show ¬ (false = true) by decide)] at H
               obtain rfl := Option.some.inj H
               go_wp2
               go_ret
               exact ⟨zE, zG⟩
end Go.Proofs.Ytngppcmdaanheaa.Pr
namespace Go.Proofs.Ytngppcmdaanheaa.Pr
open Go.RowKit Go.Proofs.YtngppcmdaanheaaW.PrintWords Go.Proofs.YtngppcmdaanheaaW.PrintLast Go.Proofs.YtngppcmdaanheaaW.PrintMore
attribute [local go_sem] max2_int min2_int max_two min_two
set_option linter.unusedVariables false
set_option linter.unusedSimpArgs false
/-! ### q3_Right: function 13 -/
mutual
def q3_Right.j0 : Nat → Bool → Int → List (S44) → List (S46) → Option (Bool)
 | 0, _, _, _, _ => none
 | k + 1, x22, x175000, x175001, x175002 => if x22 = true then (some false) else (q3_Right.l0 k 0 x175000 x175001 x175002)
def q3_Right.l0 : Nat → Int → Int → List (S44) → List (S46) → Option (Bool)
 | 0, _, _, _, _ => none
 | k + 1, x3, x175000, x175001, x175002 => if x3 < (x175001.length : Int) then (if 0 ≤ x3 then ((q3_sets.f k ((rd_T44 x175001 x3).f1) x175000 x175001 x175002).bind fun t177 => ((q3_sets.f k (([(rd_T44 x175001 x3).f2, (rd_T44 x175001 x3).f3, (rd_T44 x175001 x3).f4] : List Int)) x175000 x175001 x175002).bind fun t181 => (if t177 = true then (if t181 = true then (if x3 > 0 then (if ((rd_T44 x175001 x3).f0) < 4 then (q3_Right.j2 k x3 true x175000 x175001 x175002) else (q3_Right.j2 k x3 (decide (((rd_T44 x175001 x3).f0) ≥ 1000000)) x175000 x175001 x175002)) else (q3_Right.j2 k x3 false x175000 x175001 x175002)) else (q3_Right.j2 k x3 true x175000 x175001 x175002)) else (q3_Right.j2 k x3 true x175000 x175001 x175002)))) else (none)) else (q3_Right.l1 k 0 x175000 x175001 x175002)
def q3_Right.j2 : Nat → Int → Bool → Int → List (S44) → List (S46) → Option (Bool)
 | 0, _, _, _, _, _ => none
 | k + 1, x3, x67, x175000, x175001, x175002 => if x67 = true then (some false) else (q3_Right.l0 k (wrap64 (x3 + 1)) x175000 x175001 x175002)
def q3_Right.l1 : Nat → Int → Int → List (S44) → List (S46) → Option (Bool)
 | 0, _, _, _, _ => none
 | k + 1, x7, x175000, x175001, x175002 => if x7 < (x175002.length : Int) then (if 0 ≤ x7 then ((q3_rule.f k ((rd_T46 x175002 x7).f0) ((rd_T46 x175002 x7).f1) ((rd_T46 x175002 x7).f2) ((rd_T46 x175002 x7).f3) ((rd_T46 x175002 x7).f4) ((rd_T46 x175002 x7).f5) ((rd_T46 x175002 x7).f6) ((rd_T46 x175002 x7).f7) ((rd_T46 x175002 x7).f8) x175000 x175001 x175002).bind fun t183 => (if t183 = true then (q3_Right.l1 k (wrap64 (x7 + 1)) x175000 x175001 x175002) else (some false))) else (none)) else (some true)
end
def q3_Right.f (k : Nat) (a0_0 : Int) (l0_1 : List (S44)) (l0_2 : List (S46)) : Option (Bool) := if a0_0 < 9 then (q3_Right.j0 k true a0_0 l0_1 l0_2) else (if a0_0 > 100000 then (q3_Right.j0 k true a0_0 l0_1 l0_2) else (q3_Right.j0 k ((l0_1.length : Int) == 0) a0_0 l0_1 l0_2))
def q3_Right.T14 : Bool × List (List Nat × List Nat) := (true, [([], []), ([0], [0]), ([], []), ([1, 2], [1, 2]), ([3], [3]), ([], []), ([4, 5], [4, 5]), ([6, 6, 0, 1, 2, 3, 4, 5, 6], [6])])
def q3_Right.B14 : List Nat := [0, 1, 0, 7, 15, 0, 63, 127]
theorem q3_Right.tab14 : rtab .any (opsOf Try.f13 14) = q3_Right.T14 := by kernel_rfl
theorem q3_Right.bits14 : waitsOk q3_Right.T14.2 q3_Right.B14 = true := by kernel_rfl
set_option maxHeartbeats 8000000 in
set_option maxRecDepth 100000 in
theorem q3_Right.calls (k : Nat) (a0_0 : Int) (A0_1 : Option Addr) (c0_1 : Nat) (l0_1 : List (S44)) (A0_2 : Option Addr) (c0_2 : Nat) (l0_2 : List (S46)) (r : Bool) (w : World) (hr0_1 : Kd.C k44 w A0_1 l0_1.length l0_1) (hc0_1 : l0_1.length ≤ c0_1) (hr0_2 : Kd.C k46 w A0_2 l0_2.length l0_2) (hc0_2 : l0_2.length ≤ c0_2) (h : q3_Right.f k a0_0 l0_1 l0_2 = some r) :
  Calls Try.prog 13 #[.agg #[.int .i64 a0_0, .slice A0_1 l0_1.length c0_1, .slice A0_2 l0_2.length c0_2]] w fun e w' => e = .returned (.bool r) ∧ Below w.heap.size w w' := by
 have hu25 := Try.underlying25
 have hu44 := Try.underlying44
 have hu46 := Try.underlying46
 have HR0_1 := zm hr0_1
 have HC0_1 := zm hc0_1
 clear hr0_1 hc0_1
 have HR0_2 := zm hr0_2
 have HC0_2 := zm hc0_2
 clear hr0_2 hc0_2
 have HB := zm (Below.refl w.heap.size w)
 have H : (if a0_0 < 9 then (q3_Right.j0 k true a0_0 l0_1 l0_2) else (if a0_0 > 100000 then (q3_Right.j0 k true a0_0 l0_1 l0_2) else (q3_Right.j0 k ((l0_1.length : Int) == 0) a0_0 l0_1 l0_2))) = some r := h
 clear h
 have HC2 := zm H
 clear H
 go_enter Try.func13, Try.ntmps13
 go_upto_region 1 with (first | ((with_reducible refine gate_dst (N := 1) rfl ?_); (try (refine gate_guard (by rfl) ?_; dsimp only)); refine zX (N := 1) (cs := #[.int .i64 a0_0, .slice A0_1 l0_1.length c0_1, .slice A0_2 l0_2.length c0_2]) (t := 25) (h := ?_); intro gb174 hg w3 hbox hb; have BK174 := zm hbox; have GW174 := zm ((zS : w.heap.size ≤ gb174)); have GE174 := zm ((zS : w.heap.size ≤ gb174)); replace HB := zm (below_step zB hb); clear hb hbox hg))
 (try simp only [Act.put, List.setIfInBounds_toArray, List.set_cons_zero, List.set_cons_succ])
 go_cut [22] (fun v22 wc => ∃ (kq : Nat) (x22_1 : Bool), v22 = .bool x22_1 ∧ Aside0 (q3_Right.j0 kq x22_1 a0_0 l0_1 l0_2 = some r) ∧ Aside0 (kq ≤ k) ∧ Aside0 (wc.heap[gb174]? = some (.cells #[.int .i64 a0_0, (.slice A0_1 l0_1.length c0_1), (.slice A0_2 l0_2.length c0_2)] 25 (0, 0))) ∧ Aside0 (Below w.heap.size w wc))
 case first =>
  have H := HC2.out
  clear HC2
  by_cases c4 : a0_0 < 9
  ·rw [if_pos c4] at H
   have c4b0 : decide (a0_0 < 9) = true := decide_eq_true c4
   clear c4
   (first | rw [c4b0] | (simp only [i64_w, i32_w]; rw [c4b0]) | skip)
   have H' := zm H
   clear H
   obtain ⟨hcz5_0, hcz5_1, hcz5_2, hfz5_0, hfz5_1, hfz5_2⟩ := zd3 BK174.out (.int .i64 a0_0) (.slice A0_1 l0_1.length c0_1) (.slice A0_2 l0_2.length c0_2)
   go_wp2
   go_meet
   case rel => exact ⟨_, (true), zR, H', ⟨by first | omega | exact Nat.le_refl _⟩, ⟨zK⟩, ⟨zG⟩⟩
  ·rw [if_neg c4] at H
   have c4b0 : decide (a0_0 < 9) = false := decide_eq_false c4
   clear c4
   (first | rw [c4b0] | (simp only [i64_w, i32_w]; rw [c4b0]) | skip)
   by_cases c6 : a0_0 > 100000
   ·rw [if_pos c6] at H
    have c6b0 : decide (100000 < a0_0) = true := decide_eq_true c6
    clear c6
    have H' := zm H
    clear H
    obtain ⟨hcz7_0, hcz7_1, hcz7_2, hfz7_0, hfz7_1, hfz7_2⟩ := zd3 BK174.out (.int .i64 a0_0) (.slice A0_1 l0_1.length c0_1) (.slice A0_2 l0_2.length c0_2)
    go_wp2
    go_meet
    case rel => exact ⟨_, (true), zR, H', ⟨by first | omega | exact Nat.le_refl _⟩, ⟨zK⟩, ⟨zG⟩⟩
   ·rw [if_neg c6] at H
    have c6b0 : decide (100000 < a0_0) = false := decide_eq_false c6
    clear c6
    have H' := zm H
    clear H
    obtain ⟨hcz8_0, hcz8_1, hcz8_2, hfz8_0, hfz8_1, hfz8_2⟩ := zd3 BK174.out (.int .i64 a0_0) (.slice A0_1 l0_1.length c0_1) (.slice A0_2 l0_2.length c0_2)
    go_wp2
    go_meet
    case rel => exact ⟨_, (((l0_1.length : Int) == 0)), zR, H', ⟨by first | omega | exact Nat.le_refl _⟩, ⟨zK⟩, ⟨zG⟩⟩
 case rest =>
  clear HC2
  obtain ⟨kq, x22_1, rfl, HA, HJ1, BK174, HB⟩ := hcut
  cases kq with
  | zero => exact absurd HA.out (by simp [q3_Right.j0])
  | succ kj1 =>
   have H := HA.out
   clear HA
   simp only [q3_Right.j0] at H
   by_cases c9 : x22_1 = true
   ·subst c9
    rw [if_pos rfl] at H
    obtain rfl := Option.some.inj H
    go_wp2
    go_ret
    exact ⟨zE, zG⟩
   ·replace c9 := Bool.eq_false_iff.mpr c9
    subst c9
    rw [if_neg (show ¬ (false = true) by decide)] at H
    have H' := zm H
    clear H
    go_wp2
    go_loopg [3] kj1 (fun kq v3 w' => ∃ (x3_2 : Int), v3 = .int .i64 x3_2 ∧ Aside0 (q3_Right.l0 kq x3_2 a0_0 l0_1 l0_2 = some r) ∧ Aside0 (kq ≤ kj1) ∧ Aside0 (w'.heap[gb174]? = some (.cells #[.int .i64 a0_0, (.slice A0_1 l0_1.length c0_1), (.slice A0_2 l0_2.length c0_2)] 25 (0, 0))) ∧ Aside0 (Below w.heap.size w w'))
    case atStart => exact ⟨(0), zR, H', ⟨Nat.le_refl _⟩, ⟨zK⟩, ⟨zG⟩⟩
    case round =>
     clear H'
     obtain ⟨x3_2, rfl, HA, HK2, BK174, HB⟩ := hrel
     cases gk with
     | zero => exact absurd HA.out (by simp [q3_Right.l0])
     | succ k2 =>
      have H := HA.out
      clear HA
      simp only [q3_Right.l0] at H
      by_cases c10 : x3_2 < (l0_1.length : Int)
      ·rw [if_pos c10] at H
       have c10b0 : decide (x3_2 < (l0_1.length : Int)) = true := decide_eq_true c10
       clear c10
       by_cases c11 : 0 ≤ x3_2
       ·rw [if_pos c11] at H
        have c11b0 : decide (0 ≤ x3_2) = true := decide_eq_true c11
        clear c11
        obtain ⟨t177, A12, H⟩ := zO H
        obtain ⟨y178, hy178⟩ : ∃ y_ : List Int, y_ = (([(rd_T44 l0_1 x3_2).f2, (rd_T44 l0_1 x3_2).f3, (rd_T44 l0_1 x3_2).f4] : List Int)) := ⟨_, rfl⟩
        replace H : ((q3_sets.f k2 y178 a0_0 l0_1 l0_2).bind fun t181 => (if t177 = true then (if t181 = true then (if x3_2 > 0 then (if ((rd_T44 l0_1 x3_2).f0) < 4 then (q3_Right.j2 k2 x3_2 true a0_0 l0_1 l0_2) else (q3_Right.j2 k2 x3_2 (decide (((rd_T44 l0_1 x3_2).f0) ≥ 1000000)) a0_0 l0_1 l0_2)) else (q3_Right.j2 k2 x3_2 false a0_0 l0_1 l0_2)) else (q3_Right.j2 k2 x3_2 true a0_0 l0_1 l0_2)) else (q3_Right.j2 k2 x3_2 true a0_0 l0_1 l0_2))) = some r := by first | (rw [hy178]; with_reducible exact H) | (have H2_ := (Option.bind_some _ _).symm.trans H; rw [hy178]; with_reducible exact H2_) | (have H2_ := (Option.bind_some _ _).symm.trans H; with_reducible exact H2_) | with_reducible exact H | (rw [hy178]; exact H) | exact H
        have Ny178 := zm hy178
        clear hy178
        obtain ⟨t181, A13, H⟩ := zO H
        have HC14 := zm H
        clear H
        obtain ⟨hcz15_0, hcz15_1, hcz15_2, hfz15_0, hfz15_1, hfz15_2⟩ := zd3 BK174.out (.int .i64 a0_0) (.slice A0_1 l0_1.length c0_1) (.slice A0_2 l0_2.length c0_2)
        have p175 : 0 ≤ (x3_2 : Int) := of_decide_eq_true zA
        have q175 : x3_2 < (l0_1.length : Int) := of_decide_eq_true zA
        obtain ⟨ad175, A175_1, c175_1, e175, hx175_0, hx175_1, hx175_2, hx175_3, hx175_4, hl175_1, hi175_1⟩ := at_T44 HR0_1.out x3_2 p175 q175
        cases e175
        replace hx175_0 := zH HB.out hx175_0
        replace hx175_1 := zH HB.out hx175_1
        replace hx175_2 := zH HB.out hx175_2
        replace hx175_3 := zH HB.out hx175_3
        replace hx175_4 := zH HB.out hx175_4
        have HR175_1 := zm hi175_1
        have HC175_1 := zm hl175_1
        clear hi175_1 hl175_1
        replace p175 := eq_true p175
        replace q175 := eq_true q175
        go_upto_region 9 with (first | ((with_reducible refine gate_dst (N := 4) rfl ?_); (try (refine gate_guard (by rfl) ?_; dsimp only)); refine zX (N := 4) (cs := #[.int .i64 0, .slice none 0 0, .int .i64 0, .int .i64 0, .int .i64 0]) (t := 44) (h := ?_); intro gb176 hg w16 hbox hb; have BK176 := zm hbox; have GW176 := zm ((zT : w.heap.size ≤ gb176)); have GE176 := zm ((zT : w.heap.size ≤ gb176)); have NB174_176 := zm ((zL : gb174 ≠ gb176)); have NB176_174 := zm ((zM : gb176 ≠ gb174)); replace BK174 := zm (blk_below (g := gb174) zK hb); replace HB := zm (below_step zG hb); clear hb hbox hg; have hnb17 := NB176_174.out; have hnc17 := NB174_176.out; obtain ⟨hcz18_0, hcz18_1, hcz18_2, hcz18_3, hcz18_4, hfz18_0, hfz18_1, hfz18_2, hfz18_3, hfz18_4⟩ := zd5 BK176.out (.int .i64 0) (.slice none 0 0) (.int .i64 0) (.int .i64 0) (.int .i64 0); obtain ⟨hcz19_0, hcz19_1, hcz19_2, hfz19_0, hfz19_1, hfz19_2⟩ := zd3 BK174.out (.int .i64 a0_0) (.slice (some ad175) l0_1.length c0_1) (.slice A0_2 l0_2.length c0_2)) | ((with_reducible refine gate_callee (f := 22) rfl ?_); refine goesL_ (some 38) rfl rfl Try.func22 (by kernel_rfl) rfl #[.slice A175_1 ((rd_T44 l0_1 x3_2).f1).length c175_1, .agg #[.int .i64 a0_0, .slice (some ad175) l0_1.length c0_1, .slice A0_2 l0_2.length c0_2]] rfl zP ?_; (with_reducible refine (q3_sets.calls k2 _ _ ((rd_T44 l0_1 x3_2).f1) a0_0 _ _ l0_1 _ _ l0_2 t177 _ ?side1 ?side2 ?side3 ?side4 ?side5 ?side6 A12.out).mono ?_); (case side1 => exact Kd.C_below HR175_1.out zG); (case side2 => exact HC175_1.out); (case side3 => exact Kd.C_below HR0_1.out zG); (case side4 => exact HC0_1.out); (case side5 => exact Kd.C_below HR0_2.out zG); (case side6 => exact HC0_2.out); rintro e w20 ⟨rfl, hb⟩; refine ⟨_, rfl, ?_⟩; replace BK174 := zm (blk_below (g := gb174) (o := .cells #[.int .i64 a0_0, .slice (some ad175) l0_1.length c0_1, .slice A0_2 l0_2.length c0_2] 25 (0, 0)) (by (with_reducible repeat (first | refine blk_drewN ?_ _ | refine blk_drew ?_ | refine blk_alloc ?_ _)); refine blk_far ?_ NB174_176.out _; (with_reducible repeat (first | refine blk_drewN ?_ _ | refine blk_drew ?_ | refine blk_alloc ?_ _)); refine blk_far ?_ NB174_176.out _; (with_reducible repeat (first | refine blk_drewN ?_ _ | refine blk_drew ?_ | refine blk_alloc ?_ _)); refine blk_far ?_ NB174_176.out _; (with_reducible repeat (first | refine blk_drewN ?_ _ | refine blk_drew ?_ | refine blk_alloc ?_ _)); refine blk_far ?_ NB174_176.out _; (with_reducible repeat (first | refine blk_drewN ?_ _ | refine blk_drew ?_ | refine blk_alloc ?_ _)); refine blk_far ?_ NB174_176.out _; (with_reducible repeat (first | refine blk_drewN ?_ _ | refine blk_drew ?_ | refine blk_alloc ?_ _)); exact BK174.out) hb); replace BK176 := zm (blk_below (g := gb176) (o := .cells #[.int .i64 ((rd_T44 l0_1 x3_2).f0), .slice A175_1 ((rd_T44 l0_1 x3_2).f1).length c175_1, .int .i64 ((rd_T44 l0_1 x3_2).f2), .int .i64 ((rd_T44 l0_1 x3_2).f3), .int .i64 ((rd_T44 l0_1 x3_2).f4)] 44 (0, 0)) (by (with_reducible repeat (first | refine blk_drewN ?_ _ | refine blk_drew ?_ | refine blk_alloc ?_ _)); refine blk_put (cs := #[.int .i64 ((rd_T44 l0_1 x3_2).f0), .slice A175_1 ((rd_T44 l0_1 x3_2).f1).length c175_1, .int .i64 ((rd_T44 l0_1 x3_2).f2), .int .i64 ((rd_T44 l0_1 x3_2).f3), .int .i64 0]) ?_ 4 _ rfl; (with_reducible repeat (first | refine blk_drewN ?_ _ | refine blk_drew ?_ | refine blk_alloc ?_ _)); refine blk_put (cs := #[.int .i64 ((rd_T44 l0_1 x3_2).f0), .slice A175_1 ((rd_T44 l0_1 x3_2).f1).length c175_1, .int .i64 ((rd_T44 l0_1 x3_2).f2), .int .i64 0, .int .i64 0]) ?_ 3 _ rfl; (with_reducible repeat (first | refine blk_drewN ?_ _ | refine blk_drew ?_ | refine blk_alloc ?_ _)); refine blk_put (cs := #[.int .i64 ((rd_T44 l0_1 x3_2).f0), .slice A175_1 ((rd_T44 l0_1 x3_2).f1).length c175_1, .int .i64 0, .int .i64 0, .int .i64 0]) ?_ 2 _ rfl; (with_reducible repeat (first | refine blk_drewN ?_ _ | refine blk_drew ?_ | refine blk_alloc ?_ _)); refine blk_put (cs := #[.int .i64 ((rd_T44 l0_1 x3_2).f0), .slice none 0 0, .int .i64 0, .int .i64 0, .int .i64 0]) ?_ 1 _ rfl; (with_reducible repeat (first | refine blk_drewN ?_ _ | refine blk_drew ?_ | refine blk_alloc ?_ _)); refine blk_put (cs := #[.int .i64 0, .slice none 0 0, .int .i64 0, .int .i64 0, .int .i64 0]) ?_ 0 _ rfl; (with_reducible repeat (first | refine blk_drewN ?_ _ | refine blk_drew ?_ | refine blk_alloc ?_ _)); exact BK176.out) hb); replace HB := zm (below_step zG hb); (try clear hb); obtain ⟨hcz21_0, hcz21_1, hcz21_2, hcz21_3, hcz21_4, hfz21_0, hfz21_1, hfz21_2, hfz21_3, hfz21_4⟩ := zd5 BK176.out (.int .i64 ((rd_T44 l0_1 x3_2).f0)) (.slice A175_1 ((rd_T44 l0_1 x3_2).f1).length c175_1) (.int .i64 ((rd_T44 l0_1 x3_2).f2)) (.int .i64 ((rd_T44 l0_1 x3_2).f3)) (.int .i64 ((rd_T44 l0_1 x3_2).f4))) | ((with_reducible refine gate_dst (N := 45) rfl ?_); (try (refine gate_guard (by rfl) ?_; dsimp only)); refine Kd.R_lit (Kd.int .i64) _ 3 ?hg (N := 45) ?hd (xs := ([(rd_T44 l0_1 x3_2).f2, (rd_T44 l0_1 x3_2).f3, (rd_T44 l0_1 x3_2).f4] : List Int)) (inner := [.int .i64 ((rd_T44 l0_1 x3_2).f2), .int .i64 ((rd_T44 l0_1 x3_2).f3), .int .i64 ((rd_T44 l0_1 x3_2).f4)]) (ok := fun _ => True) (okp := fun _ => True) ?hr ?hp (fun _ hk => hk) trivial (Below.refl _ _) (Nat.le_refl _) (by simp) ?_; (case hd => rfl); (case hg => rfl); (case hr => first | (go_simp; done) | (go_simp; rfl)); (case hp => exact (Reps.one (show Kd.M (Kd.int .i64) _ _ _ ((rd_T44 l0_1 x3_2).f2) [.int .i64 ((rd_T44 l0_1 x3_2).f2)] from rfl) (Reps.one (show Kd.M (Kd.int .i64) _ _ _ ((rd_T44 l0_1 x3_2).f3) [.int .i64 ((rd_T44 l0_1 x3_2).f3)] from rfl) (Reps.one (show Kd.M (Kd.int .i64) _ _ _ ((rd_T44 l0_1 x3_2).f4) [.int .i64 ((rd_T44 l0_1 x3_2).f4)] from rfl) (Reps.none _ _))))); intro v179 w22 ho23 hb hg_ hnew_; clear hg_ hnew_; (first | rw [← Ny178.out] at ho23 | (simp only [Int.reduceToNat] at ho23; rw [← Ny178.out] at ho23)); have HO180 := zm (Kd.R_lower ho23 (below_size zG)); replace BK174 := zm (blk_below (g := gb174) zK hb); replace BK176 := zm (blk_below (g := gb176) zK hb); replace HB := zm (below_step zG hb); clear hb ho23; obtain ⟨hcz24_0, hcz24_1, hcz24_2, hfz24_0, hfz24_1, hfz24_2⟩ := zd3 BK174.out (.int .i64 a0_0) (.slice (some ad175) l0_1.length c0_1) (.slice A0_2 l0_2.length c0_2); obtain ⟨Ao25, co25, eo25⟩ := Kd.R_slice HO180.out; subst eo25) | ((with_reducible refine gate_callee (f := 22) rfl ?_); refine goesL_ (some 47) rfl rfl Try.func22 (by kernel_rfl) rfl #[.slice Ao25 y178.length co25, .agg #[.int .i64 a0_0, .slice (some ad175) l0_1.length c0_1, .slice A0_2 l0_2.length c0_2]] rfl zP ?_; (with_reducible refine (q3_sets.calls k2 _ _ y178 a0_0 _ _ l0_1 _ _ l0_2 t181 _ ?side1 ?side2 ?side3 ?side4 ?side5 ?side6 A13.out).mono ?_); (case side1 => exact zC ((Kd.R_reads' HO180.out).2.2)); (case side2 => exact (Kd.R_reads' HO180.out).2.1); (case side3 => exact zC (Kd.C_below HR0_1.out HB.out)); (case side4 => exact HC0_1.out); (case side5 => exact zC (Kd.C_below HR0_2.out HB.out)); (case side6 => exact HC0_2.out); rintro e w26 ⟨rfl, hb⟩; refine ⟨_, rfl, ?_⟩; replace HO180 := zm (Kd.R_below (by (with_reducible repeat (first | apply Kd.R_alloc | apply Kd.R_drewN | apply Kd.R_drew)); exact HO180.out) hb); replace BK174 := zm (blk_below (g := gb174) zK hb); replace BK176 := zm (blk_below (g := gb176) zK hb); replace HB := zm (below_step zG hb); (try clear hb)))
        (try simp only [Act.put, List.setIfInBounds_toArray, List.set_cons_zero, List.set_cons_succ])
        go_cut [67] (fun v67 wc => ∃ (kq : Nat) (x67_13 : Bool), v67 = .bool x67_13 ∧ Aside0 (q3_Right.j2 kq x3_2 x67_13 a0_0 l0_1 l0_2 = some r) ∧ Aside0 (kq ≤ k2) ∧ Aside0 (wc.heap[gb174]? = some (.cells #[.int .i64 a0_0, (.slice (some ad175) l0_1.length c0_1), (.slice A0_2 l0_2.length c0_2)] 25 (0, 0))) ∧ Aside0 (wc.heap[gb176]? = some (.cells #[.int .i64 ((rd_T44 l0_1 x3_2).f0), (.slice A175_1 ((rd_T44 l0_1 x3_2).f1).length c175_1), .int .i64 ((rd_T44 l0_1 x3_2).f2), .int .i64 ((rd_T44 l0_1 x3_2).f3), .int .i64 ((rd_T44 l0_1 x3_2).f4)] 44 (0, 0))) ∧ Aside0 (Below w.heap.size w wc))
        case first =>
         have H := HC14.out
         clear HC14
         by_cases c27 : t177 = true
         ·subst c27
          rw [if_pos rfl] at H
          by_cases c28 : t181 = true
          ·subst c28
           rw [if_pos rfl] at H
           by_cases c29 : x3_2 > 0
           ·rw [if_pos c29] at H
            have c29b0 : decide (0 < x3_2) = true := decide_eq_true c29
            clear c29
            (first | rw [c29b0] | (simp only [i64_w, i32_w]; rw [c29b0]) | skip)
            by_cases c30 : ((rd_T44 l0_1 x3_2).f0) < 4
            ·rw [if_pos c30] at H
             have c30b0 : decide (((rd_T44 l0_1 x3_2).f0) < 4) = true := decide_eq_true c30
             clear c30
             have H' := zm H
             clear H
             have hnb31 := NB176_174.out
             have hnc31 := NB174_176.out
             obtain ⟨hcz32_0, hcz32_1, hcz32_2, hcz32_3, hcz32_4, hfz32_0, hfz32_1, hfz32_2, hfz32_3, hfz32_4⟩ := zd5 BK176.out (.int .i64 ((rd_T44 l0_1 x3_2).f0)) (.slice A175_1 ((rd_T44 l0_1 x3_2).f1).length c175_1) (.int .i64 ((rd_T44 l0_1 x3_2).f2)) (.int .i64 ((rd_T44 l0_1 x3_2).f3)) (.int .i64 ((rd_T44 l0_1 x3_2).f4))
             go_wp2
             go_meet
             case rel => exact ⟨_, (true), zR, H', ⟨by have := HJ1.out; have := HK2.out; first | omega | exact Nat.le_refl _⟩, ⟨zK⟩, ⟨zK⟩, ⟨zG⟩⟩
            ·rw [if_neg c30] at H
             have c30b0 : decide (((rd_T44 l0_1 x3_2).f0) < 4) = false := decide_eq_false c30
             clear c30
             have H' := zm H
             clear H
             have hnb33 := NB176_174.out
             have hnc33 := NB174_176.out
             obtain ⟨hcz34_0, hcz34_1, hcz34_2, hcz34_3, hcz34_4, hfz34_0, hfz34_1, hfz34_2, hfz34_3, hfz34_4⟩ := zd5 BK176.out (.int .i64 ((rd_T44 l0_1 x3_2).f0)) (.slice A175_1 ((rd_T44 l0_1 x3_2).f1).length c175_1) (.int .i64 ((rd_T44 l0_1 x3_2).f2)) (.int .i64 ((rd_T44 l0_1 x3_2).f3)) (.int .i64 ((rd_T44 l0_1 x3_2).f4))
             go_wp2
             go_meet
             case rel => exact ⟨_, (decide (((rd_T44 l0_1 x3_2).f0) ≥ 1000000)), zR, H', ⟨by have := HJ1.out; have := HK2.out; first | omega | exact Nat.le_refl _⟩, ⟨zK⟩, ⟨zK⟩, ⟨zG⟩⟩
           ·rw [if_neg c29] at H
            have c29b0 : decide (0 < x3_2) = false := decide_eq_false c29
            clear c29
            (first | rw [c29b0] | (simp only [i64_w, i32_w]; rw [c29b0]) | skip)
            have H' := zm H
            clear H
            go_wp2
            go_meet
            case rel => exact ⟨_, (false), zR, H', ⟨by have := HJ1.out; have := HK2.out; first | omega | exact Nat.le_refl _⟩, ⟨zK⟩, ⟨zK⟩, ⟨zG⟩⟩
          ·replace c28 := Bool.eq_false_iff.mpr c28
           subst c28
           rw [if_neg (show ¬ (false = true) by decide)] at H
           have H' := zm H
           clear H
           go_wp2
           go_meet
           case rel => exact ⟨_, (true), zR, H', ⟨by have := HJ1.out; have := HK2.out; first | omega | exact Nat.le_refl _⟩, ⟨zK⟩, ⟨zK⟩, ⟨zG⟩⟩
         ·replace c27 := Bool.eq_false_iff.mpr c27
          subst c27
          rw [if_neg (show ¬ (false = true) by decide)] at H
          have H' := zm H
          clear H
          go_wp2
          go_meet
          case rel => exact ⟨_, (true), zR, H', ⟨by have := HJ1.out; have := HK2.out; first | omega | exact Nat.le_refl _⟩, ⟨zK⟩, ⟨zK⟩, ⟨zG⟩⟩
        case rest =>
         clear HC14
         clear c10b0 c11b0 hcz15_0 hcz15_1 hcz15_2 hcz18_0 hcz18_1 hcz18_2 hcz18_3 hcz18_4 hcz19_0 hcz19_1 hcz19_2 hcz21_0 hcz21_1 hcz21_2 hcz21_3 hcz21_4 hcz24_0 hcz24_1 hcz24_2 hfz15_0 hfz15_1 hfz15_2 hfz18_0 hfz18_1 hfz18_2 hfz18_3 hfz18_4 hfz19_0 hfz19_1 hfz19_2 hfz21_0 hfz21_1 hfz21_2 hfz21_3 hfz21_4 hfz24_0 hfz24_1 hfz24_2 hx175_0 hx175_1 hx175_2 hx175_3 hx175_4 p175 q175
         obtain ⟨kq, x67_13, rfl, HA, HJ13, BK174, BK176, HB⟩ := hcut
         cases kq with
         | zero => exact absurd HA.out (by simp [q3_Right.j2])
         | succ kj13 =>
          have H := HA.out
          clear HA
          simp only [q3_Right.j2] at H
          by_cases c35 : x67_13 = true
          ·subst c35
           rw [if_pos rfl] at H
           obtain rfl := Option.some.inj H
           go_wp2
           go_ret
           exact ⟨zE, zG⟩
          ·replace c35 := Bool.eq_false_iff.mpr c35
           subst c35
           rw [if_neg (show ¬ (false = true) by decide)] at H
           have H' := zm H
           clear H
           go_wp2
           go_roundg kj13
           case measure => have := HJ1.out; have := HK2.out; have := HJ13.out; omega
           case rel => exact ⟨(wrap64 (x3_2 + 1)), zR, H', ⟨by have := HJ1.out; have := HK2.out; have := HJ13.out; omega⟩, ⟨zK⟩, ⟨zG⟩⟩
       ·rw [if_neg c11] at H
        exact absurd H (by simp)
      ·rw [if_neg c10] at H
       have c10b0 : decide (x3_2 < (l0_1.length : Int)) = false := decide_eq_false c10
       clear c10
       have H' := zm H
       clear H
       obtain ⟨hcz36_0, hcz36_1, hcz36_2, hfz36_0, hfz36_1, hfz36_2⟩ := zd3 BK174.out (.int .i64 a0_0) (.slice A0_1 l0_1.length c0_1) (.slice A0_2 l0_2.length c0_2)
       go_wp2
       go_loopg [7] k2 (fun kq v7 w' => ∃ (x7_3 : Int), v7 = .int .i64 x7_3 ∧ Aside0 (q3_Right.l1 kq x7_3 a0_0 l0_1 l0_2 = some r) ∧ Aside0 (kq ≤ k2) ∧ Aside0 (w'.heap[gb174]? = some (.cells #[.int .i64 a0_0, (.slice A0_1 l0_1.length c0_1), (.slice A0_2 l0_2.length c0_2)] 25 (0, 0))) ∧ Aside0 (Below w.heap.size w w'))
       case atStart => exact ⟨(0), zR, H', ⟨Nat.le_refl _⟩, ⟨zK⟩, ⟨zG⟩⟩
       case round =>
        clear H'
        clear c10b0 hcz36_0 hcz36_1 hcz36_2 hfz36_0 hfz36_1 hfz36_2
        obtain ⟨x7_3, rfl, HA, HK3, BK174, HB⟩ := hrel
        cases gk with
        | zero => exact absurd HA.out (by simp [q3_Right.l1])
        | succ k3 =>
         have H := HA.out
         clear HA
         simp only [q3_Right.l1] at H
         by_cases c37 : x7_3 < (l0_2.length : Int)
         ·rw [if_pos c37] at H
          have c37b0 : decide (x7_3 < (l0_2.length : Int)) = true := decide_eq_true c37
          clear c37
          by_cases c38 : 0 ≤ x7_3
          ·rw [if_pos c38] at H
           have c38b0 : decide (0 ≤ x7_3) = true := decide_eq_true c38
           clear c38
           obtain ⟨t183, A39, H⟩ := zO H
           by_cases c40 : t183 = true
           ·subst c40
            rw [if_pos rfl] at H
            have H' := zm H
            clear H
            obtain ⟨hcz41_0, hcz41_1, hcz41_2, hfz41_0, hfz41_1, hfz41_2⟩ := zd3 BK174.out (.int .i64 a0_0) (.slice A0_1 l0_1.length c0_1) (.slice A0_2 l0_2.length c0_2)
            try go_wp2
            have n0_ := zm (blk_drew BK174.out)
            have n1_ := zm (below_drew1 HB.out)
            clear BK174
            clear HB
            have BK174 := n0_
            have HB := n1_
            clear n0_ n1_
            have p182 : 0 ≤ (x7_3 : Int) := of_decide_eq_true zA
            have q182 : x7_3 < (l0_2.length : Int) := of_decide_eq_true zA
            obtain ⟨ad182, A182_8, c182_8, e182, hx182_0, hx182_1, hx182_2, hx182_3, hx182_4, hx182_5, hx182_6, hx182_7, hx182_8, hl182_8, hi182_8⟩ := at_T46 HR0_2.out x7_3 p182 q182
            have hw182_8 := hx182_8
            have hw182_7 := hx182_7
            have hw182_6 := hx182_6
            have hw182_5 := hx182_5
            have hw182_4 := hx182_4
            have hw182_3 := hx182_3
            have hw182_2 := hx182_2
            have hw182_1 := hx182_1
            have hw182_0 := hx182_0
            cases e182
            replace hx182_0 := zH HB.out hx182_0
            replace hx182_1 := zH HB.out hx182_1
            replace hx182_2 := zH HB.out hx182_2
            replace hx182_3 := zH HB.out hx182_3
            replace hx182_4 := zH HB.out hx182_4
            replace hx182_5 := zH HB.out hx182_5
            replace hx182_6 := zH HB.out hx182_6
            replace hx182_7 := zH HB.out hx182_7
            replace hx182_8 := zH HB.out hx182_8
            have HR182_8 := zm hi182_8
            have HC182_8 := zm hl182_8
            clear hi182_8 hl182_8
            replace p182 := eq_true p182
            replace q182 := eq_true q182
            refine start_ (n := 8) (S := fun w' => w'.cell? ⟨gb174, 0, none⟩ = some (.int .i64 a0_0) ∧ w'.cell? ⟨gb174, 1, none⟩ = some (.slice A0_1 l0_1.length c0_1) ∧ w'.cell? ⟨gb174, 2, none⟩ = some (.slice (some ad182) l0_2.length c0_2) ∧ w'.cell? (ad182.add ((x7_3).toNat * 9)) = some (.int .i64 ((rd_T46 l0_2 x7_3).f0)) ∧ w'.cell? ⟨(ad182.add ((x7_3).toNat * 9)).block, (ad182.add ((x7_3).toNat * 9)).off + 1, none⟩ = some (.int .i64 ((rd_T46 l0_2 x7_3).f1)) ∧ w'.cell? ⟨(ad182.add ((x7_3).toNat * 9)).block, (ad182.add ((x7_3).toNat * 9)).off + 2, none⟩ = some (.int .i64 ((rd_T46 l0_2 x7_3).f2)) ∧ w'.cell? ⟨(ad182.add ((x7_3).toNat * 9)).block, (ad182.add ((x7_3).toNat * 9)).off + 3, none⟩ = some (.int .i64 ((rd_T46 l0_2 x7_3).f3)) ∧ w'.cell? ⟨(ad182.add ((x7_3).toNat * 9)).block, (ad182.add ((x7_3).toNat * 9)).off + 4, none⟩ = some (.int .i64 ((rd_T46 l0_2 x7_3).f4)) ∧ w'.cell? ⟨(ad182.add ((x7_3).toNat * 9)).block, (ad182.add ((x7_3).toNat * 9)).off + 5, none⟩ = some (.int .i64 ((rd_T46 l0_2 x7_3).f5)) ∧ w'.cell? ⟨(ad182.add ((x7_3).toNat * 9)).block, (ad182.add ((x7_3).toNat * 9)).off + 6, none⟩ = some (.int .i64 ((rd_T46 l0_2 x7_3).f6)) ∧ w'.cell? ⟨(ad182.add ((x7_3).toNat * 9)).block, (ad182.add ((x7_3).toNat * 9)).off + 7, none⟩ = some (.string ((rd_T46 l0_2 x7_3).f7)) ∧ w'.cell? ⟨(ad182.add ((x7_3).toNat * 9)).block, (ad182.add ((x7_3).toNat * 9)).off + 8, none⟩ = some (.slice A182_8 ((rd_T46 l0_2 x7_3).f8).length c182_8)) (ds := []) #[false, false, false, false, false, false, false, false] (by kernel_rfl) rfl rfl ⟨zj BK174.out 0, zj BK174.out 1, zj BK174.out 2, (zH HB.out hw182_0), (zH HB.out hw182_1), (zH HB.out hw182_2), (zH HB.out hw182_3), (zH HB.out hw182_4), (zH HB.out hw182_5), (zH HB.out hw182_6), (zH HB.out hw182_7), (zH HB.out hw182_8)⟩ (fun hHeld => ?_); refine with_tabW q3_Right.tab14 q3_Right.bits14 (fun HT_ HW_ => ?_)
            generalize wr.drew = w42 at BK174 HB HR182_8 hx182_0 hx182_1 hx182_2 hx182_3 hx182_4 hx182_5 hx182_6 hx182_7 hx182_8 hHeld ⊢
            refine zp 0 75 (hy := by
              intro w'
              go_simp
              with_reducible rfl) (h := ?_)
            refine zp 2 77 (hy := by
              intro w'
              go_simp
              with_reducible rfl) (h := ?_)
            refine zt 1 76 (hy := by
              rintro w' ⟨s0, s1, s2, s3, s4, s5, s6, s7, s8, s9, s10, s11⟩
              go_simp
              with_reducible rfl) (h := ?_)
            refine zp 3 78 (hy := by
              intro w'
              go_simp
              with_reducible rfl) (h := ?_)
            refine zt 4 79 (hy := by
              rintro w' ⟨s0, s1, s2, s3, s4, s5, s6, s7, s8, s9, s10, s11⟩
              go_simp
              with_reducible rfl) (h := ?_)
            refine zt 5 80 (hy := by
              rintro w' ⟨s0, s1, s2, s3, s4, s5, s6, s7, s8, s9, s10, s11⟩
              go_simp
              with_reducible rfl) (h := ?_)
            refine zo 6 81 (h := fun K hK => ?_)
            refine goes_ Try.func23 (by kernel_rfl) rfl #[.agg #[.int .i64 ((rd_T46 l0_2 x7_3).f0), .int .i64 ((rd_T46 l0_2 x7_3).f1), .int .i64 ((rd_T46 l0_2 x7_3).f2), .int .i64 ((rd_T46 l0_2 x7_3).f3), .int .i64 ((rd_T46 l0_2 x7_3).f4), .int .i64 ((rd_T46 l0_2 x7_3).f5), .int .i64 ((rd_T46 l0_2 x7_3).f6), .string ((rd_T46 l0_2 x7_3).f7), .slice A182_8 ((rd_T46 l0_2 x7_3).f8).length c182_8], .agg #[.int .i64 a0_0, .slice A0_1 l0_1.length c0_1, .slice (some ad182) l0_2.length c0_2]] (by rfl) rfl rfl zP ?_
            with_reducible refine (q3_rule.calls k3 ((rd_T46 l0_2 x7_3).f0) ((rd_T46 l0_2 x7_3).f1) ((rd_T46 l0_2 x7_3).f2) ((rd_T46 l0_2 x7_3).f3) ((rd_T46 l0_2 x7_3).f4) ((rd_T46 l0_2 x7_3).f5) ((rd_T46 l0_2 x7_3).f6) ((rd_T46 l0_2 x7_3).f7) _ _ ((rd_T46 l0_2 x7_3).f8) a0_0 _ _ l0_1 _ _ l0_2 true _ ?side1 ?side2 ?side3 ?side4 ?side5 ?side6 A39.out).mono ?_
            (case side1 => exact zC (Kd.C_below HR182_8.out HB.out))
            (case side2 => exact HC182_8.out)
            (case side3 => exact zC (Kd.C_below HR0_1.out HB.out))
            (case side4 => exact HC0_1.out)
            (case side5 => exact zC (Kd.C_below HR0_2.out HB.out))
            (case side6 => exact HC0_2.out)
            rintro e w43 ⟨rfl, hb⟩
            refine ⟨_, rfl, ?_⟩
            have n0_ := zm (blk_below (g := gb174) zK hb)
            have n1_ := zm (below_step zG hb)
            clear BK174
            clear HB
            have BK174 := n0_
            have HB := n1_
            clear n0_ n1_
            (try clear hb)
            (try clear hb2)
            (try clear hk)
            (try clear hi)
            refine hK.out _ _ ⟨zj BK174.out 0, zj BK174.out 1, zj BK174.out 2, (zH HB.out hw182_0), (zH HB.out hw182_1), (zH HB.out hw182_2), (zH HB.out hw182_3), (zH HB.out hw182_4), (zH HB.out hw182_5), (zH HB.out hw182_6), (zH HB.out hw182_7), (zH HB.out hw182_8)⟩ (fun hHeld => ?_)
            clear hK K
            refine zn (h := ?_)
            refine zp 7 8 (hy := by
              intro w'
              go_simp
              with_reducible rfl) (h := ?_)
            refine done_ (done_of HT_.out (by kernel_rfl)) ?_
            try go_wp2
            go_roundg k3
            case measure => have := HJ1.out; have := HK2.out; have := HK3.out; omega
            case rel => exact ⟨(wrap64 (x7_3 + 1)), zR, H', ⟨by have := HJ1.out; have := HK2.out; have := HK3.out; omega⟩, ⟨zK⟩, ⟨zG⟩⟩
           ·replace c40 := Bool.eq_false_iff.mpr c40
            subst c40
            rw [if_neg (show ¬ (false = true) by decide)] at H
            obtain rfl := Option.some.inj H
            obtain ⟨hcz44_0, hcz44_1, hcz44_2, hfz44_0, hfz44_1, hfz44_2⟩ := zd3 BK174.out (.int .i64 a0_0) (.slice A0_1 l0_1.length c0_1) (.slice A0_2 l0_2.length c0_2)
            try go_wp2
            have n0_ := zm (blk_drew BK174.out)
            have n1_ := zm (below_drew1 HB.out)
            clear BK174
            clear HB
            have BK174 := n0_
            have HB := n1_
            clear n0_ n1_
            have p182 : 0 ≤ (x7_3 : Int) := of_decide_eq_true zA
            have q182 : x7_3 < (l0_2.length : Int) := of_decide_eq_true zA
            obtain ⟨ad182, A182_8, c182_8, e182, hx182_0, hx182_1, hx182_2, hx182_3, hx182_4, hx182_5, hx182_6, hx182_7, hx182_8, hl182_8, hi182_8⟩ := at_T46 HR0_2.out x7_3 p182 q182
            have hw182_8 := hx182_8
            have hw182_7 := hx182_7
            have hw182_6 := hx182_6
            have hw182_5 := hx182_5
            have hw182_4 := hx182_4
            have hw182_3 := hx182_3
            have hw182_2 := hx182_2
            have hw182_1 := hx182_1
            have hw182_0 := hx182_0
            cases e182
            replace hx182_0 := zH HB.out hx182_0
            replace hx182_1 := zH HB.out hx182_1
            replace hx182_2 := zH HB.out hx182_2
            replace hx182_3 := zH HB.out hx182_3
            replace hx182_4 := zH HB.out hx182_4
            replace hx182_5 := zH HB.out hx182_5
            replace hx182_6 := zH HB.out hx182_6
            replace hx182_7 := zH HB.out hx182_7
            replace hx182_8 := zH HB.out hx182_8
            have HR182_8 := zm hi182_8
            have HC182_8 := zm hl182_8
            clear hi182_8 hl182_8
            replace p182 := eq_true p182
            replace q182 := eq_true q182
            refine start_ (n := 8) (S := fun w' => w'.cell? ⟨gb174, 0, none⟩ = some (.int .i64 a0_0) ∧ w'.cell? ⟨gb174, 1, none⟩ = some (.slice A0_1 l0_1.length c0_1) ∧ w'.cell? ⟨gb174, 2, none⟩ = some (.slice (some ad182) l0_2.length c0_2) ∧ w'.cell? (ad182.add ((x7_3).toNat * 9)) = some (.int .i64 ((rd_T46 l0_2 x7_3).f0)) ∧ w'.cell? ⟨(ad182.add ((x7_3).toNat * 9)).block, (ad182.add ((x7_3).toNat * 9)).off + 1, none⟩ = some (.int .i64 ((rd_T46 l0_2 x7_3).f1)) ∧ w'.cell? ⟨(ad182.add ((x7_3).toNat * 9)).block, (ad182.add ((x7_3).toNat * 9)).off + 2, none⟩ = some (.int .i64 ((rd_T46 l0_2 x7_3).f2)) ∧ w'.cell? ⟨(ad182.add ((x7_3).toNat * 9)).block, (ad182.add ((x7_3).toNat * 9)).off + 3, none⟩ = some (.int .i64 ((rd_T46 l0_2 x7_3).f3)) ∧ w'.cell? ⟨(ad182.add ((x7_3).toNat * 9)).block, (ad182.add ((x7_3).toNat * 9)).off + 4, none⟩ = some (.int .i64 ((rd_T46 l0_2 x7_3).f4)) ∧ w'.cell? ⟨(ad182.add ((x7_3).toNat * 9)).block, (ad182.add ((x7_3).toNat * 9)).off + 5, none⟩ = some (.int .i64 ((rd_T46 l0_2 x7_3).f5)) ∧ w'.cell? ⟨(ad182.add ((x7_3).toNat * 9)).block, (ad182.add ((x7_3).toNat * 9)).off + 6, none⟩ = some (.int .i64 ((rd_T46 l0_2 x7_3).f6)) ∧ w'.cell? ⟨(ad182.add ((x7_3).toNat * 9)).block, (ad182.add ((x7_3).toNat * 9)).off + 7, none⟩ = some (.string ((rd_T46 l0_2 x7_3).f7)) ∧ w'.cell? ⟨(ad182.add ((x7_3).toNat * 9)).block, (ad182.add ((x7_3).toNat * 9)).off + 8, none⟩ = some (.slice A182_8 ((rd_T46 l0_2 x7_3).f8).length c182_8)) (ds := []) #[false, false, false, false, false, false, false, false] (by kernel_rfl) rfl rfl ⟨zj BK174.out 0, zj BK174.out 1, zj BK174.out 2, (zH HB.out hw182_0), (zH HB.out hw182_1), (zH HB.out hw182_2), (zH HB.out hw182_3), (zH HB.out hw182_4), (zH HB.out hw182_5), (zH HB.out hw182_6), (zH HB.out hw182_7), (zH HB.out hw182_8)⟩ (fun hHeld => ?_); refine with_tabW q3_Right.tab14 q3_Right.bits14 (fun HT_ HW_ => ?_)
            generalize wr.drew = w45 at BK174 HB HR182_8 hx182_0 hx182_1 hx182_2 hx182_3 hx182_4 hx182_5 hx182_6 hx182_7 hx182_8 hHeld ⊢
            refine zp 0 75 (hy := by
              intro w'
              go_simp
              with_reducible rfl) (h := ?_)
            refine zp 2 77 (hy := by
              intro w'
              go_simp
              with_reducible rfl) (h := ?_)
            refine zt 1 76 (hy := by
              rintro w' ⟨s0, s1, s2, s3, s4, s5, s6, s7, s8, s9, s10, s11⟩
              go_simp
              with_reducible rfl) (h := ?_)
            refine zp 3 78 (hy := by
              intro w'
              go_simp
              with_reducible rfl) (h := ?_)
            refine zt 4 79 (hy := by
              rintro w' ⟨s0, s1, s2, s3, s4, s5, s6, s7, s8, s9, s10, s11⟩
              go_simp
              with_reducible rfl) (h := ?_)
            refine zt 5 80 (hy := by
              rintro w' ⟨s0, s1, s2, s3, s4, s5, s6, s7, s8, s9, s10, s11⟩
              go_simp
              with_reducible rfl) (h := ?_)
            refine zo 6 81 (h := fun K hK => ?_)
            refine goes_ Try.func23 (by kernel_rfl) rfl #[.agg #[.int .i64 ((rd_T46 l0_2 x7_3).f0), .int .i64 ((rd_T46 l0_2 x7_3).f1), .int .i64 ((rd_T46 l0_2 x7_3).f2), .int .i64 ((rd_T46 l0_2 x7_3).f3), .int .i64 ((rd_T46 l0_2 x7_3).f4), .int .i64 ((rd_T46 l0_2 x7_3).f5), .int .i64 ((rd_T46 l0_2 x7_3).f6), .string ((rd_T46 l0_2 x7_3).f7), .slice A182_8 ((rd_T46 l0_2 x7_3).f8).length c182_8], .agg #[.int .i64 a0_0, .slice A0_1 l0_1.length c0_1, .slice (some ad182) l0_2.length c0_2]] (by rfl) rfl rfl zP ?_
            with_reducible refine (q3_rule.calls k3 ((rd_T46 l0_2 x7_3).f0) ((rd_T46 l0_2 x7_3).f1) ((rd_T46 l0_2 x7_3).f2) ((rd_T46 l0_2 x7_3).f3) ((rd_T46 l0_2 x7_3).f4) ((rd_T46 l0_2 x7_3).f5) ((rd_T46 l0_2 x7_3).f6) ((rd_T46 l0_2 x7_3).f7) _ _ ((rd_T46 l0_2 x7_3).f8) a0_0 _ _ l0_1 _ _ l0_2 false _ ?side1 ?side2 ?side3 ?side4 ?side5 ?side6 A39.out).mono ?_
            (case side1 => exact zC (Kd.C_below HR182_8.out HB.out))
            (case side2 => exact HC182_8.out)
            (case side3 => exact zC (Kd.C_below HR0_1.out HB.out))
            (case side4 => exact HC0_1.out)
            (case side5 => exact zC (Kd.C_below HR0_2.out HB.out))
            (case side6 => exact HC0_2.out)
            rintro e w46 ⟨rfl, hb⟩
            refine ⟨_, rfl, ?_⟩
            have n0_ := zm (blk_below (g := gb174) zK hb)
            have n1_ := zm (below_step zG hb)
            clear BK174
            clear HB
            have BK174 := n0_
            have HB := n1_
            clear n0_ n1_
            (try clear hb)
            (try clear hb2)
            (try clear hk)
            (try clear hi)
            refine hK.out _ _ ⟨zj BK174.out 0, zj BK174.out 1, zj BK174.out 2, (zH HB.out hw182_0), (zH HB.out hw182_1), (zH HB.out hw182_2), (zH HB.out hw182_3), (zH HB.out hw182_4), (zH HB.out hw182_5), (zH HB.out hw182_6), (zH HB.out hw182_7), (zH HB.out hw182_8)⟩ (fun hHeld => ?_)
            clear hK K
            refine zn (h := ?_)
            refine zp 7 8 (hy := by
              intro w'
              go_simp
              with_reducible rfl) (h := ?_)
            refine done_ (done_of HT_.out (by kernel_rfl)) ?_
            try go_wp2
            go_ret
            exact ⟨zE, zG⟩
          ·rw [if_neg c38] at H
           exact absurd H (by simp)
         ·rw [if_neg c37] at H
          have c37b0 : decide (x7_3 < (l0_2.length : Int)) = false := decide_eq_false c37
          clear c37
          obtain rfl := Option.some.inj H
          obtain ⟨hcz47_0, hcz47_1, hcz47_2, hfz47_0, hfz47_1, hfz47_2⟩ := zd3 BK174.out (.int .i64 a0_0) (.slice A0_1 l0_1.length c0_1) (.slice A0_2 l0_2.length c0_2)
          go_wp2
          go_ret
          exact ⟨zE, zG⟩
end Go.Proofs.Ytngppcmdaanheaa.Pr
namespace Go.Proofs.Ytngppcmdaanheaa.Pr
open Go.RowKit Go.Proofs.YtngppcmdaanheaaW.PrintWords Go.Proofs.YtngppcmdaanheaaW.PrintLast Go.Proofs.YtngppcmdaanheaaW.PrintMore
attribute [local go_sem] max2_int min2_int max_two min_two
set_option linter.unusedVariables false
set_option linter.unusedSimpArgs false
/-! ### q4_Right: function 14 -/
mutual
def q4_Right.l0 : Nat → List (S41) → Int → Int → List (S44) → List (S46) → Option (Bool)
 | 0, _, _, _, _, _ => none
 | k + 1, x1, x6, x187000, x187001, x187002 => if x6 < (x1.length : Int) then (if 0 ≤ x6 then (if x6 > 0 then (if 0 ≤ (wrap64 (x6 - 1)) then (if (wrap64 (x6 - 1)) < (x1.length : Int) then ((q8_Before.f ((rd_T41 x1 (wrap64 (x6 - 1))).f0) ((rd_T41 x1 (wrap64 (x6 - 1))).f1) ((rd_T41 x1 (wrap64 (x6 - 1))).f2) ((rd_T41 x1 (wrap64 (x6 - 1))).f3) ((rd_T41 x1 x6).f0) ((rd_T41 x1 x6).f1) ((rd_T41 x1 x6).f2) ((rd_T41 x1 x6).f3)).bind fun t191 => (q4_Right.j1 k x1 x6 (!t191) x187000 x187001 x187002 ((rd_T41 x1 x6).f0) ((rd_T41 x1 x6).f1) ((rd_T41 x1 x6).f2) ((rd_T41 x1 x6).f3))) else (none)) else (none)) else (q4_Right.j1 k x1 x6 false x187000 x187001 x187002 ((rd_T41 x1 x6).f0) ((rd_T41 x1 x6).f1) ((rd_T41 x1 x6).f2) ((rd_T41 x1 x6).f3))) else (none)) else (some true)
def q4_Right.j1 : Nat → List (S41) → Int → Bool → Int → List (S44) → List (S46) → Int → Int → ByteArray → Int → Option (Bool)
 | 0, _, _, _, _, _, _, _, _, _, _ => none
 | k + 1, x1, x6, x33, x187000, x187001, x187002, x190000, x190001, x190002, x190003 => if x33 = true then (some false) else (if x190001 < 0 then (q4_Right.j2 k x1 x6 true x187000 x187001 x187002 x190000 x190001 x190002 x190003) else (if x190001 > 1000001 then (q4_Right.j2 k x1 x6 true x187000 x187001 x187002 x190000 x190001 x190002 x190003) else (if x190003 < 0 then (q4_Right.j2 k x1 x6 true x187000 x187001 x187002 x190000 x190001 x190002 x190003) else (if x190003 > 1000001 then (q4_Right.j2 k x1 x6 true x187000 x187001 x187002 x190000 x190001 x190002 x190003) else (if x190000 = 3 then (q4_Right.j2 k x1 x6 false x187000 x187001 x187002 x190000 x190001 x190002 x190003) else (q4_Right.j2 k x1 x6 (x190002.toList != ([] : List UInt8)) x187000 x187001 x187002 x190000 x190001 x190002 x190003))))))
def q4_Right.j2 : Nat → List (S41) → Int → Bool → Int → List (S44) → List (S46) → Int → Int → ByteArray → Int → Option (Bool)
 | 0, _, _, _, _, _, _, _, _, _, _ => none
 | k + 1, x1, x6, x61, x187000, x187001, x187002, x190000, x190001, x190002, x190003 => if x61 = true then (some false) else (if x190000 = 3 then (q4_Right.j3 k x1 x6 x190000 (x190000 == 3) x187000 x187001 x187002 x190000 x190001 x190002 x190003) else (if x190000 = 4 then (q4_Right.j3 k x1 x6 x190000 (x190000 == 4) x187000 x187001 x187002 x190000 x190001 x190002 x190003) else (if x190000 = 5 then (q4_Right.j3 k x1 x6 x190000 (x190000 == 5) x187000 x187001 x187002 x190000 x190001 x190002 x190003) else (q4_Right.j3 k x1 x6 x190000 (x190000 == 8) x187000 x187001 x187002 x190000 x190001 x190002 x190003))))
def q4_Right.j3 : Nat → List (S41) → Int → Int → Bool → Int → List (S44) → List (S46) → Int → Int → ByteArray → Int → Option (Bool)
 | 0, _, _, _, _, _, _, _, _, _, _, _ => none
 | k + 1, x1, x6, x63, x64, x187000, x187001, x187002, x190000, x190001, x190002, x190003 => if x64 = true then (q4_Right.l0 k x1 (wrap64 (x6 + 1)) x187000 x187001 x187002) else (if x63 = 6 then (if x190001 ≥ (x187001.length : Int) then (q4_Right.j4 k x1 x6 true x187000 x187001 x187002) else (q4_Right.j4 k x1 x6 (x190003 != 0) x187000 x187001 x187002)) else (if x63 = 9 then (if x190001 ≥ x187000 then (some false) else (q4_Right.l0 k x1 (wrap64 (x6 + 1)) x187000 x187001 x187002)) else (some false)))
def q4_Right.j4 : Nat → List (S41) → Int → Bool → Int → List (S44) → List (S46) → Option (Bool)
 | 0, _, _, _, _, _, _ => none
 | k + 1, x1, x6, x81, x187000, x187001, x187002 => if x81 = true then (some false) else (q4_Right.l0 k x1 (wrap64 (x6 + 1)) x187000 x187001 x187002)
end
def q4_Right.f (k : Nat) (a0_0 : Int) (l0_1 : List (S44)) (l0_2 : List (S46)) (l1 : List (S41)) : Option (Bool) := (q3_Right.f k a0_0 l0_1 l0_2).bind fun t187 => (if t187 = true then (q4_Right.l0 k l1 0 a0_0 l0_1 l0_2) else (some false))
def q4_Right.T8 : Bool × List (List Nat × List Nat) := (true, [([], []), ([0], [0]), ([1], [1]), ([2], [2]), ([2], [2]), ([4, 2], [2, 4]), ([3, 5, 2], [2, 3, 5]), ([6, 2], [2, 6]), ([2], [2]), ([7, 8, 2, 2], [2, 7, 8]), ([9, 2], [2, 9]), ([2, 10], [2, 10])])
def q4_Right.B8 : List Nat := [0, 1, 3, 7, 7, 23, 63, 127, 7, 511, 1023, 2047]
theorem q4_Right.tab8 : rtab .any (opsOf Try.f14 8) = q4_Right.T8 := by kernel_rfl
theorem q4_Right.bits8 : waitsOk q4_Right.T8.2 q4_Right.B8 = true := by kernel_rfl
set_option maxHeartbeats 8000000 in
set_option maxRecDepth 100000 in
theorem q4_Right.calls (k : Nat) (a0_0 : Int) (A0_1 : Option Addr) (c0_1 : Nat) (l0_1 : List (S44)) (A0_2 : Option Addr) (c0_2 : Nat) (l0_2 : List (S46)) (A1 : Option Addr) (c1 : Nat) (l1 : List (S41)) (r : Bool) (w : World) (hr0_1 : Kd.C k44 w A0_1 l0_1.length l0_1) (hc0_1 : l0_1.length ≤ c0_1) (hr0_2 : Kd.C k46 w A0_2 l0_2.length l0_2) (hc0_2 : l0_2.length ≤ c0_2) (hr1 : Kd.C k41 w A1 l1.length l1) (hc1 : l1.length ≤ c1) (h : q4_Right.f k a0_0 l0_1 l0_2 l1 = some r) :
  Calls Try.prog 14 #[.agg #[.int .i64 a0_0, .slice A0_1 l0_1.length c0_1, .slice A0_2 l0_2.length c0_2], .slice A1 l1.length c1] w fun e w' => e = .returned (.bool r) ∧ Below w.heap.size w w' := by
 have hu25 := Try.underlying25
 have hu41 := Try.underlying41
 have HR0_1 := zm hr0_1
 have HC0_1 := zm hc0_1
 clear hr0_1 hc0_1
 have HR0_2 := zm hr0_2
 have HC0_2 := zm hc0_2
 clear hr0_2 hc0_2
 have HR1 := zm hr1
 have HC1 := zm hc1
 clear hr1 hc1
 have HB := zm (Below.refl w.heap.size w)
 have H : ((q3_Right.f k a0_0 l0_1 l0_2).bind fun t187 => (if t187 = true then (q4_Right.l0 k l1 0 a0_0 l0_1 l0_2) else (some false))) = some r := h
 clear h
 obtain ⟨t187, A3, H⟩ := zO H
 by_cases c4 : t187 = true
 ·subst c4
  rw [if_pos rfl] at H
  have H' := zm H
  clear H
  go_enter Try.func14, Try.ntmps14
  go_wp2_with (first | ((with_reducible refine gate_dst (N := 2) rfl ?_); refine zX (N := 2) (cs := #[.int .i64 a0_0, .slice A0_1 l0_1.length c0_1, .slice A0_2 l0_2.length c0_2]) (t := 25) (h := ?_); intro gb186 hg w5 hbox hb; have BK186 := zm hbox; have GW186 := zm ((zS : w.heap.size ≤ gb186)); have GE186 := zm ((zS : w.heap.size ≤ gb186)); replace HB := zm (below_step zB hb); clear hb hbox hg; obtain ⟨hcz6_0, hcz6_1, hcz6_2, hfz6_0, hfz6_1, hfz6_2⟩ := zd3 BK186.out (.int .i64 a0_0) (.slice A0_1 l0_1.length c0_1) (.slice A0_2 l0_2.length c0_2)) | ((with_reducible refine gate_callee (f := 13) rfl ?_); refine goesL_ (some 9) rfl rfl Try.func13 (by kernel_rfl) rfl #[.agg #[.int .i64 a0_0, .slice A0_1 l0_1.length c0_1, .slice A0_2 l0_2.length c0_2]] rfl zP ?_; (with_reducible refine (q3_Right.calls k a0_0 _ _ l0_1 _ _ l0_2 true _ ?side1 ?side2 ?side3 ?side4 A3.out).mono ?_); (case side1 => exact zC (Kd.C_below HR0_1.out HB.out)); (case side2 => exact HC0_1.out); (case side3 => exact zC (Kd.C_below HR0_2.out HB.out)); (case side4 => exact HC0_2.out); rintro e w7 ⟨rfl, hb⟩; refine ⟨_, rfl, ?_⟩; replace BK186 := zm (blk_below (g := gb186) zK hb); replace HB := zm (below_step zG hb); (try clear hb)))
  go_loopg [6] k (fun kq v6 w' => ∃ (x6_1 : Int), v6 = .int .i64 x6_1 ∧ Aside0 (q4_Right.l0 kq l1 x6_1 a0_0 l0_1 l0_2 = some r) ∧ Aside0 (kq ≤ k) ∧ Aside0 (w'.heap[gb186]? = some (.cells #[.int .i64 a0_0, (.slice A0_1 l0_1.length c0_1), (.slice A0_2 l0_2.length c0_2)] 25 (0, 0))) ∧ Aside0 (Below w.heap.size w w'))
  case atStart => exact ⟨(0), zR, H', ⟨Nat.le_refl _⟩, ⟨zK⟩, ⟨zG⟩⟩
  case round =>
   clear H'
   clear hcz6_0 hcz6_1 hcz6_2 hfz6_0 hfz6_1 hfz6_2
   obtain ⟨x6_1, rfl, HA, HK1, BK186, HB⟩ := hrel
   cases gk with
   | zero => exact absurd HA.out (by simp [q4_Right.l0])
   | succ k1 =>
    have H := HA.out
    clear HA
    simp only [q4_Right.l0] at H
    by_cases c8 : x6_1 < (l1.length : Int)
    ·rw [if_pos c8] at H
     have c8b0 : decide (x6_1 < (l1.length : Int)) = true := decide_eq_true c8
     clear c8
     by_cases c9 : 0 ≤ x6_1
     ·rw [if_pos c9] at H
      have c9b0 : decide (0 ≤ x6_1) = true := decide_eq_true c9
      clear c9
      have HC10 := zm H
      clear H
      have p188 : 0 ≤ (x6_1 : Int) := of_decide_eq_true zA
      have q188 : x6_1 < (l1.length : Int) := of_decide_eq_true zA
      obtain ⟨ad188, e188, hx188_0, hx188_1, hx188_2, hx188_3⟩ := at_T41 HR1.out x6_1 p188 q188
      cases e188
      replace hx188_0 := zH HB.out hx188_0
      replace hx188_1 := zH HB.out hx188_1
      replace hx188_2 := zH HB.out hx188_2
      replace hx188_3 := zH HB.out hx188_3
      replace p188 := eq_true p188
      replace q188 := eq_true q188
      go_upto_region 8 with (first | ((with_reducible refine gate_dst (N := 7) rfl ?_); refine zX (N := 7) (cs := #[.int .i64 0, .int .i64 0, .string (⟨#[]⟩ : ByteArray), .int .i64 0]) (t := 41) (h := ?_); intro gb189 hg w11 hbox hb; have BK189 := zm hbox; have GW189 := zm ((zT : w.heap.size ≤ gb189)); have GE189 := zm ((zT : w.heap.size ≤ gb189)); have NB186_189 := zm ((zL : gb186 ≠ gb189)); have NB189_186 := zm ((zM : gb189 ≠ gb186)); replace BK186 := zm (blk_below (g := gb186) zK hb); replace HB := zm (below_step zG hb); clear hb hbox hg; have hnb12 := NB189_186.out; have hnc12 := NB186_189.out; obtain ⟨hcz13_0, hcz13_1, hcz13_2, hcz13_3, hfz13_0, hfz13_1, hfz13_2, hfz13_3⟩ := zd4 BK189.out (.int .i64 0) (.int .i64 0) (.string (⟨#[]⟩ : ByteArray)) (.int .i64 0)))
      (try simp only [Act.put, List.setIfInBounds_toArray, List.set_cons_zero, List.set_cons_succ])
      go_cut [33] (fun v33 wc => ∃ (kq : Nat) (x33_9 : Bool), v33 = .bool x33_9 ∧ Aside0 (q4_Right.j1 kq l1 x6_1 x33_9 a0_0 l0_1 l0_2 ((rd_T41 l1 x6_1).f0) ((rd_T41 l1 x6_1).f1) ((rd_T41 l1 x6_1).f2) ((rd_T41 l1 x6_1).f3) = some r) ∧ Aside0 (kq ≤ k1) ∧ Aside0 (wc.heap[gb186]? = some (.cells #[.int .i64 a0_0, (.slice A0_1 l0_1.length c0_1), (.slice A0_2 l0_2.length c0_2)] 25 (0, 0))) ∧ Aside0 (wc.heap[gb189]? = some (.cells #[.int .i64 ((rd_T41 l1 x6_1).f0), .int .i64 ((rd_T41 l1 x6_1).f1), .string ((rd_T41 l1 x6_1).f2), .int .i64 ((rd_T41 l1 x6_1).f3)] 41 (0, 0))) ∧ Aside0 (Below w.heap.size w wc))
      case first =>
       have H := HC10.out
       clear HC10
       by_cases c14 : x6_1 > 0
       ·rw [if_pos c14] at H
        have c14b0 : decide (0 < x6_1) = true := decide_eq_true c14
        clear c14
        (first | rw [c14b0] | (simp only [i64_w, i32_w]; rw [c14b0]) | skip)
        obtain ⟨ji15, hji15⟩ : ∃ j_ : Int, (wrap64 (x6_1 - 1)) = j_ := ⟨_, rfl⟩
        replace H : (if 0 ≤ (ji15) then (if (ji15) < (l1.length : Int) then ((q8_Before.f ((rd_T41 l1 (ji15)).f0) ((rd_T41 l1 (ji15)).f1) ((rd_T41 l1 (ji15)).f2) ((rd_T41 l1 (ji15)).f3) ((rd_T41 l1 x6_1).f0) ((rd_T41 l1 x6_1).f1) ((rd_T41 l1 x6_1).f2) ((rd_T41 l1 x6_1).f3)).bind fun t191 => (q4_Right.j1 k1 l1 x6_1 (!t191) a0_0 l0_1 l0_2 ((rd_T41 l1 x6_1).f0) ((rd_T41 l1 x6_1).f1) ((rd_T41 l1 x6_1).f2) ((rd_T41 l1 x6_1).f3))) else (none)) else (none)) = some r := by first | (rw [hji15] at H; exact H) | (simp only [hji15] at H ⊢; exact H)
        have hji15w : (IntKind.i64.wrap (x6_1 - 1)) = ji15 := (i64_w _).trans hji15
        by_cases c16 : 0 ≤ (ji15)
        ·rw [if_pos c16] at H
         have c16b0 : decide (0 ≤ (ji15)) = true := decide_eq_true c16
         clear c16
         by_cases c17 : (ji15) < (l1.length : Int)
         ·rw [if_pos c17] at H
          have c17b0 : decide ((ji15) < (l1.length : Int)) = true := decide_eq_true c17
          clear c17
          obtain ⟨t191, A18, H⟩ := zO H
          have H' := zm H
          clear H
          try go_wp2
          have n0_ : Aside0 (((((w11.setCell ⟨gb189, 0, none⟩ (.int .i64 ((rd_T41 l1 x6_1).f0))).setCell ⟨gb189, 1, none⟩ (.int .i64 ((rd_T41 l1 x6_1).f1))).setCell ⟨gb189, 2, none⟩ (.string ((rd_T41 l1 x6_1).f2))).setCell ⟨gb189, 3, none⟩ (.int .i64 ((rd_T41 l1 x6_1).f3))).heap[gb186]? = some (.cells #[.int .i64 a0_0, .slice A0_1 l0_1.length c0_1, .slice A0_2 l0_2.length c0_2] 25 (0, 0))) := ⟨by (with_reducible repeat (first | refine blk_drewN ?_ _ | refine blk_drew ?_ | refine blk_alloc ?_ _)); refine blk_far ?_ NB186_189.out _; (with_reducible repeat (first | refine blk_drewN ?_ _ | refine blk_drew ?_ | refine blk_alloc ?_ _)); refine blk_far ?_ NB186_189.out _; (with_reducible repeat (first | refine blk_drewN ?_ _ | refine blk_drew ?_ | refine blk_alloc ?_ _)); refine blk_far ?_ NB186_189.out _; (with_reducible repeat (first | refine blk_drewN ?_ _ | refine blk_drew ?_ | refine blk_alloc ?_ _)); refine blk_far ?_ NB186_189.out _; (with_reducible repeat (first | refine blk_drewN ?_ _ | refine blk_drew ?_ | refine blk_alloc ?_ _)); exact BK186.out⟩
          have n1_ : Aside0 (((((w11.setCell ⟨gb189, 0, none⟩ (.int .i64 ((rd_T41 l1 x6_1).f0))).setCell ⟨gb189, 1, none⟩ (.int .i64 ((rd_T41 l1 x6_1).f1))).setCell ⟨gb189, 2, none⟩ (.string ((rd_T41 l1 x6_1).f2))).setCell ⟨gb189, 3, none⟩ (.int .i64 ((rd_T41 l1 x6_1).f3))).heap[gb189]? = some (.cells #[.int .i64 ((rd_T41 l1 x6_1).f0), .int .i64 ((rd_T41 l1 x6_1).f1), .string ((rd_T41 l1 x6_1).f2), .int .i64 ((rd_T41 l1 x6_1).f3)] 41 (0, 0))) := ⟨by (with_reducible repeat (first | refine blk_drewN ?_ _ | refine blk_drew ?_ | refine blk_alloc ?_ _)); refine blk_put (cs := #[.int .i64 ((rd_T41 l1 x6_1).f0), .int .i64 ((rd_T41 l1 x6_1).f1), .string ((rd_T41 l1 x6_1).f2), .int .i64 0]) ?_ 3 _ rfl; (with_reducible repeat (first | refine blk_drewN ?_ _ | refine blk_drew ?_ | refine blk_alloc ?_ _)); refine blk_put (cs := #[.int .i64 ((rd_T41 l1 x6_1).f0), .int .i64 ((rd_T41 l1 x6_1).f1), .string (⟨#[]⟩ : ByteArray), .int .i64 0]) ?_ 2 _ rfl; (with_reducible repeat (first | refine blk_drewN ?_ _ | refine blk_drew ?_ | refine blk_alloc ?_ _)); refine blk_put (cs := #[.int .i64 ((rd_T41 l1 x6_1).f0), .int .i64 0, .string (⟨#[]⟩ : ByteArray), .int .i64 0]) ?_ 1 _ rfl; (with_reducible repeat (first | refine blk_drewN ?_ _ | refine blk_drew ?_ | refine blk_alloc ?_ _)); refine blk_put (cs := #[.int .i64 0, .int .i64 0, .string (⟨#[]⟩ : ByteArray), .int .i64 0]) ?_ 0 _ rfl; (with_reducible repeat (first | refine blk_drewN ?_ _ | refine blk_drew ?_ | refine blk_alloc ?_ _)); exact BK189.out⟩
          have n2_ : Aside0 (Below w.heap.size w ((((w11.setCell ⟨gb189, 0, none⟩ (.int .i64 ((rd_T41 l1 x6_1).f0))).setCell ⟨gb189, 1, none⟩ (.int .i64 ((rd_T41 l1 x6_1).f1))).setCell ⟨gb189, 2, none⟩ (.string ((rd_T41 l1 x6_1).f2))).setCell ⟨gb189, 3, none⟩ (.int .i64 ((rd_T41 l1 x6_1).f3)))) := ⟨zG⟩
          (try clear BK186)
          (try clear BK189)
          (try clear HB)
          generalize ((((w11.setCell ⟨gb189, 0, none⟩ (.int .i64 ((rd_T41 l1 x6_1).f0))).setCell ⟨gb189, 1, none⟩ (.int .i64 ((rd_T41 l1 x6_1).f1))).setCell ⟨gb189, 2, none⟩ (.string ((rd_T41 l1 x6_1).f2))).setCell ⟨gb189, 3, none⟩ (.int .i64 ((rd_T41 l1 x6_1).f3))) = w19 at n0_ n1_ n2_ ⊢
          have BK186 := n0_
          have BK189 := n1_
          have HB := n2_
          clear n0_ n1_ n2_
          have n0_ := zm (blk_drew BK186.out)
          have n1_ := zm (blk_drew BK189.out)
          have n2_ := zm (below_drew1 HB.out)
          clear BK186
          clear BK189
          clear HB
          have BK186 := n0_
          have BK189 := n1_
          have HB := n2_
          clear n0_ n1_ n2_
          have p190 : 0 ≤ ((ji15) : Int) := of_decide_eq_true zA
          have q190 : (ji15) < (l1.length : Int) := of_decide_eq_true zA
          obtain ⟨ad190, e190, hx190_0, hx190_1, hx190_2, hx190_3⟩ := at_T41 HR1.out (ji15) p190 q190
          have hw190_3 := hx190_3
          have hw190_2 := hx190_2
          have hw190_1 := hx190_1
          have hw190_0 := hx190_0
          obtain rfl : ad188 = ad190 := (by injection e190)
          replace hx190_0 := zH HB.out hx190_0
          replace hx190_1 := zH HB.out hx190_1
          replace hx190_2 := zH HB.out hx190_2
          replace hx190_3 := zH HB.out hx190_3
          replace p190 := eq_true p190
          replace q190 := eq_true q190
          refine start_ (n := 12) (S := fun w' => w'.cell? ⟨gb189, 0, none⟩ = some (.int .i64 ((rd_T41 l1 x6_1).f0)) ∧ w'.cell? ⟨gb189, 1, none⟩ = some (.int .i64 ((rd_T41 l1 x6_1).f1)) ∧ w'.cell? ⟨gb189, 2, none⟩ = some (.string ((rd_T41 l1 x6_1).f2)) ∧ w'.cell? ⟨gb189, 3, none⟩ = some (.int .i64 ((rd_T41 l1 x6_1).f3)) ∧ w'.cell? (ad188.add (((ji15)).toNat * 4)) = some (.int .i64 ((rd_T41 l1 (ji15)).f0)) ∧ w'.cell? ⟨(ad188.add (((ji15)).toNat * 4)).block, (ad188.add (((ji15)).toNat * 4)).off + 1, none⟩ = some (.int .i64 ((rd_T41 l1 (ji15)).f1)) ∧ w'.cell? ⟨(ad188.add (((ji15)).toNat * 4)).block, (ad188.add (((ji15)).toNat * 4)).off + 2, none⟩ = some (.string ((rd_T41 l1 (ji15)).f2)) ∧ w'.cell? ⟨(ad188.add (((ji15)).toNat * 4)).block, (ad188.add (((ji15)).toNat * 4)).off + 3, none⟩ = some (.int .i64 ((rd_T41 l1 (ji15)).f3))) (ds := []) #[false, false, false, false, false, false, false, false, false, false, false, false] (by kernel_rfl) rfl rfl ⟨zj BK189.out 0, zj BK189.out 1, zj BK189.out 2, zj BK189.out 3, (zH HB.out hw190_0), (zH HB.out hw190_1), (zH HB.out hw190_2), (zH HB.out hw190_3)⟩ (fun hHeld => ?_); refine with_tabW q4_Right.tab8 q4_Right.bits8 (fun HT_ HW_ => ?_)
          generalize w19.drew = w20 at BK186 BK189 HB hx190_0 hx190_1 hx190_2 hx190_3 hHeld ⊢
          refine zp 0 22 (hy := by
            intro w'
            go_simp
            with_reducible rfl) (h := ?_)
          refine zp 1 23 (hy := by
            intro w'
            go_simp
            with_reducible rfl) (h := ?_)
          refine zp 2 24 (hy := by
            intro w'
            go_simp
            with_reducible rfl) (h := ?_)
          refine zp 3 25 (hy := by
            intro w'
            go_simp
            with_reducible rfl) (h := ?_)
          refine zp 4 26 (hy := by
            intro w'
            go_simp
            with_reducible rfl) (h := ?_)
          refine zp 5 27 (hy := by
            intro w'
            go_simp
            with_reducible rfl) (h := ?_)
          refine zp 6 28 (hy := by
            intro w'
            go_simp
            with_reducible rfl) (h := ?_)
          refine zt 7 29 (hy := by
            rintro w' ⟨s0, s1, s2, s3, s4, s5, s6, s7⟩
            go_simp
            with_reducible rfl) (h := ?_)
          refine zt 8 30 (hy := by
            rintro w' ⟨s0, s1, s2, s3, s4, s5, s6, s7⟩
            go_simp
            with_reducible rfl) (h := ?_)
          refine zo 9 31 (h := fun K hK => ?_)
          refine goes_ Try.func24 (by kernel_rfl) rfl #[.agg #[.int .i64 ((rd_T41 l1 (ji15)).f0), .int .i64 ((rd_T41 l1 (ji15)).f1), .string ((rd_T41 l1 (ji15)).f2), .int .i64 ((rd_T41 l1 (ji15)).f3)], .agg #[.int .i64 ((rd_T41 l1 x6_1).f0), .int .i64 ((rd_T41 l1 x6_1).f1), .string ((rd_T41 l1 x6_1).f2), .int .i64 ((rd_T41 l1 x6_1).f3)]] (by rfl) rfl rfl (by (try simp only [List.map_toArray, List.map_cons, List.map_nil]); first | done | (simp only [hji15]; rfl) | rfl | (simp only [List.length_drop, List.length_take]; rfl)) ?_
          with_reducible refine (q8_Before.calls ((rd_T41 l1 (ji15)).f0) ((rd_T41 l1 (ji15)).f1) ((rd_T41 l1 (ji15)).f2) ((rd_T41 l1 (ji15)).f3) ((rd_T41 l1 x6_1).f0) ((rd_T41 l1 x6_1).f1) ((rd_T41 l1 x6_1).f2) ((rd_T41 l1 x6_1).f3) t191 _ A18.out).mono ?_
          rintro e w21 ⟨rfl, hb⟩
          refine ⟨_, rfl, ?_⟩
          have n0_ := zm (blk_below (g := gb186) zK hb)
          have n1_ := zm (blk_below (g := gb189) zK hb)
          have n2_ := zm (below_step zG hb)
          clear BK186
          clear BK189
          clear HB
          have BK186 := n0_
          have BK189 := n1_
          have HB := n2_
          clear n0_ n1_ n2_
          (try clear hb)
          (try clear hb2)
          (try clear hk)
          (try clear hi)
          refine hK.out _ _ ⟨zj BK189.out 0, zj BK189.out 1, zj BK189.out 2, zj BK189.out 3, (zH HB.out hw190_0), (zH HB.out hw190_1), (zH HB.out hw190_2), (zH HB.out hw190_3)⟩ (fun hHeld => ?_)
          clear hK K
          refine zn (h := ?_)
          refine zp 10 32 (hy := by
            intro w'
            go_simp
            with_reducible rfl) (h := ?_)
          refine zp 11 33 (hy := by
            intro w'
            go_simp
            with_reducible rfl) (h := ?_)
          refine done_ (done_of HT_.out (by kernel_rfl)) ?_
          try go_wp2
          go_meet
          case rel => exact ⟨_, (!t191), zR, H', ⟨by have := HK1.out; first | omega | exact Nat.le_refl _⟩, ⟨zK⟩, ⟨zK⟩, ⟨zG⟩⟩
         ·rw [if_neg c17] at H
          exact absurd H (by simp)
        ·rw [if_neg c16] at H
         exact absurd H (by simp)
       ·rw [if_neg c14] at H
        have c14b0 : decide (0 < x6_1) = false := decide_eq_false c14
        clear c14
        (first | rw [c14b0] | (simp only [i64_w, i32_w]; rw [c14b0]) | skip)
        have H' := zm H
        clear H
        try go_wp2
        have n0_ : Aside0 (((((w11.setCell ⟨gb189, 0, none⟩ (.int .i64 ((rd_T41 l1 x6_1).f0))).setCell ⟨gb189, 1, none⟩ (.int .i64 ((rd_T41 l1 x6_1).f1))).setCell ⟨gb189, 2, none⟩ (.string ((rd_T41 l1 x6_1).f2))).setCell ⟨gb189, 3, none⟩ (.int .i64 ((rd_T41 l1 x6_1).f3))).heap[gb186]? = some (.cells #[.int .i64 a0_0, .slice A0_1 l0_1.length c0_1, .slice A0_2 l0_2.length c0_2] 25 (0, 0))) := ⟨by (with_reducible repeat (first | refine blk_drewN ?_ _ | refine blk_drew ?_ | refine blk_alloc ?_ _)); refine blk_far ?_ NB186_189.out _; (with_reducible repeat (first | refine blk_drewN ?_ _ | refine blk_drew ?_ | refine blk_alloc ?_ _)); refine blk_far ?_ NB186_189.out _; (with_reducible repeat (first | refine blk_drewN ?_ _ | refine blk_drew ?_ | refine blk_alloc ?_ _)); refine blk_far ?_ NB186_189.out _; (with_reducible repeat (first | refine blk_drewN ?_ _ | refine blk_drew ?_ | refine blk_alloc ?_ _)); refine blk_far ?_ NB186_189.out _; (with_reducible repeat (first | refine blk_drewN ?_ _ | refine blk_drew ?_ | refine blk_alloc ?_ _)); exact BK186.out⟩
        have n1_ : Aside0 (((((w11.setCell ⟨gb189, 0, none⟩ (.int .i64 ((rd_T41 l1 x6_1).f0))).setCell ⟨gb189, 1, none⟩ (.int .i64 ((rd_T41 l1 x6_1).f1))).setCell ⟨gb189, 2, none⟩ (.string ((rd_T41 l1 x6_1).f2))).setCell ⟨gb189, 3, none⟩ (.int .i64 ((rd_T41 l1 x6_1).f3))).heap[gb189]? = some (.cells #[.int .i64 ((rd_T41 l1 x6_1).f0), .int .i64 ((rd_T41 l1 x6_1).f1), .string ((rd_T41 l1 x6_1).f2), .int .i64 ((rd_T41 l1 x6_1).f3)] 41 (0, 0))) := ⟨by (with_reducible repeat (first | refine blk_drewN ?_ _ | refine blk_drew ?_ | refine blk_alloc ?_ _)); refine blk_put (cs := #[.int .i64 ((rd_T41 l1 x6_1).f0), .int .i64 ((rd_T41 l1 x6_1).f1), .string ((rd_T41 l1 x6_1).f2), .int .i64 0]) ?_ 3 _ rfl; (with_reducible repeat (first | refine blk_drewN ?_ _ | refine blk_drew ?_ | refine blk_alloc ?_ _)); refine blk_put (cs := #[.int .i64 ((rd_T41 l1 x6_1).f0), .int .i64 ((rd_T41 l1 x6_1).f1), .string (⟨#[]⟩ : ByteArray), .int .i64 0]) ?_ 2 _ rfl; (with_reducible repeat (first | refine blk_drewN ?_ _ | refine blk_drew ?_ | refine blk_alloc ?_ _)); refine blk_put (cs := #[.int .i64 ((rd_T41 l1 x6_1).f0), .int .i64 0, .string (⟨#[]⟩ : ByteArray), .int .i64 0]) ?_ 1 _ rfl; (with_reducible repeat (first | refine blk_drewN ?_ _ | refine blk_drew ?_ | refine blk_alloc ?_ _)); refine blk_put (cs := #[.int .i64 0, .int .i64 0, .string (⟨#[]⟩ : ByteArray), .int .i64 0]) ?_ 0 _ rfl; (with_reducible repeat (first | refine blk_drewN ?_ _ | refine blk_drew ?_ | refine blk_alloc ?_ _)); exact BK189.out⟩
        have n2_ : Aside0 (Below w.heap.size w ((((w11.setCell ⟨gb189, 0, none⟩ (.int .i64 ((rd_T41 l1 x6_1).f0))).setCell ⟨gb189, 1, none⟩ (.int .i64 ((rd_T41 l1 x6_1).f1))).setCell ⟨gb189, 2, none⟩ (.string ((rd_T41 l1 x6_1).f2))).setCell ⟨gb189, 3, none⟩ (.int .i64 ((rd_T41 l1 x6_1).f3)))) := ⟨zG⟩
        (try clear BK186)
        (try clear BK189)
        (try clear HB)
        generalize ((((w11.setCell ⟨gb189, 0, none⟩ (.int .i64 ((rd_T41 l1 x6_1).f0))).setCell ⟨gb189, 1, none⟩ (.int .i64 ((rd_T41 l1 x6_1).f1))).setCell ⟨gb189, 2, none⟩ (.string ((rd_T41 l1 x6_1).f2))).setCell ⟨gb189, 3, none⟩ (.int .i64 ((rd_T41 l1 x6_1).f3))) = w22 at n0_ n1_ n2_ ⊢
        have BK186 := n0_
        have BK189 := n1_
        have HB := n2_
        clear n0_ n1_ n2_
        have n0_ := zm (blk_drew BK186.out)
        have n1_ := zm (blk_drew BK189.out)
        have n2_ := zm (below_drew1 HB.out)
        clear BK186
        clear BK189
        clear HB
        have BK186 := n0_
        have BK189 := n1_
        have HB := n2_
        clear n0_ n1_ n2_
        refine start_ (n := 12) (S := fun w' => True) (ds := []) #[false, false, false, false, false, false, false, false, false, false, false, false] (by kernel_rfl) rfl rfl trivial (fun hHeld => ?_); refine with_tabW q4_Right.tab8 q4_Right.bits8 (fun HT_ HW_ => ?_)
        generalize w22.drew = w23 at BK186 BK189 HB hHeld ⊢
        refine zp 0 22 (hy := by
          intro w'
          go_simp
          with_reducible rfl) (h := ?_)
        refine zp 1 23 (hy := by
          intro w'
          go_simp
          with_reducible rfl) (h := ?_)
        refine zp 2 24 (hy := by
          intro w'
          go_simp
          with_reducible rfl) (h := ?_)
        refine zu 3 25 (h := ?_)
        refine zu 4 26 (h := ?_)
        refine zu 5 27 (h := ?_)
        refine zu 6 28 (h := ?_)
        refine zu 7 29 (h := ?_)
        refine zu 8 30 (h := ?_)
        refine zu 9 31 (h := ?_)
        refine zu 10 32 (h := ?_)
        refine zp 11 33 (hy := by
          intro w'
          go_simp
          with_reducible rfl) (h := ?_)
        refine done_ (done_of HT_.out (by kernel_rfl)) ?_
        try go_wp2
        go_meet
        case rel => exact ⟨_, (false), zR, H', ⟨by have := HK1.out; first | omega | exact Nat.le_refl _⟩, ⟨zK⟩, ⟨zK⟩, ⟨zG⟩⟩
      case rest =>
       clear HC10
       clear c8b0 c9b0 hcz13_0 hcz13_1 hcz13_2 hcz13_3 hfz13_0 hfz13_1 hfz13_2 hfz13_3 hx188_0 hx188_1 hx188_2 hx188_3 p188 q188
       obtain ⟨kq, x33_9, rfl, HA, HJ9, BK186, BK189, HB⟩ := hcut
       cases kq with
       | zero => exact absurd HA.out (by simp [q4_Right.j1])
       | succ kj9 =>
        have H := HA.out
        clear HA
        simp only [q4_Right.j1] at H
        by_cases c24 : x33_9 = true
        ·subst c24
         rw [if_pos rfl] at H
         obtain rfl := Option.some.inj H
         go_wp2
         go_ret
         exact ⟨zE, zG⟩
        ·replace c24 := Bool.eq_false_iff.mpr c24
         subst c24
         rw [if_neg (show ¬ (false = true) by decide)] at H
         have HC25 := zm H
         clear H
         go_upto_region 10 with (fail)
         go_cut [61] (fun v61 wc => ∃ (kq : Nat) (x61_24 : Bool), v61 = .bool x61_24 ∧ Aside0 (q4_Right.j2 kq l1 x6_1 x61_24 a0_0 l0_1 l0_2 ((rd_T41 l1 x6_1).f0) ((rd_T41 l1 x6_1).f1) ((rd_T41 l1 x6_1).f2) ((rd_T41 l1 x6_1).f3) = some r) ∧ Aside0 (kq ≤ kj9) ∧ Aside0 (wc.heap[gb186]? = some (.cells #[.int .i64 a0_0, (.slice A0_1 l0_1.length c0_1), (.slice A0_2 l0_2.length c0_2)] 25 (0, 0))) ∧ Aside0 (wc.heap[gb189]? = some (.cells #[.int .i64 ((rd_T41 l1 x6_1).f0), .int .i64 ((rd_T41 l1 x6_1).f1), .string ((rd_T41 l1 x6_1).f2), .int .i64 ((rd_T41 l1 x6_1).f3)] 41 (0, 0))) ∧ Aside0 (Below w.heap.size w wc))
         case first =>
          have H := HC25.out
          clear HC25
          by_cases c26 : ((rd_T41 l1 x6_1).f1) < 0
          ·rw [if_pos c26] at H
           have c26b0 : decide (((rd_T41 l1 x6_1).f1) < 0) = true := decide_eq_true c26
           clear c26
           (first | rw [c26b0] | (simp only [i64_w, i32_w]; rw [c26b0]) | skip)
           have H' := zm H
           clear H
           have hnb27 := NB189_186.out
           have hnc27 := NB186_189.out
           obtain ⟨hcz28_0, hcz28_1, hcz28_2, hcz28_3, hfz28_0, hfz28_1, hfz28_2, hfz28_3⟩ := zd4 BK189.out (.int .i64 ((rd_T41 l1 x6_1).f0)) (.int .i64 ((rd_T41 l1 x6_1).f1)) (.string ((rd_T41 l1 x6_1).f2)) (.int .i64 ((rd_T41 l1 x6_1).f3))
           go_wp2
           go_meet
           case rel => exact ⟨_, (true), zR, H', ⟨by have := HK1.out; have := HJ9.out; first | omega | exact Nat.le_refl _⟩, ⟨zK⟩, ⟨zK⟩, ⟨zG⟩⟩
          ·rw [if_neg c26] at H
           have c26b0 : decide (((rd_T41 l1 x6_1).f1) < 0) = false := decide_eq_false c26
           clear c26
           (first | rw [c26b0] | (simp only [i64_w, i32_w]; rw [c26b0]) | skip)
           by_cases c29 : ((rd_T41 l1 x6_1).f1) > 1000001
           ·rw [if_pos c29] at H
            have c29b0 : decide (1000001 < ((rd_T41 l1 x6_1).f1)) = true := decide_eq_true c29
            clear c29
            have H' := zm H
            clear H
            have hnb30 := NB189_186.out
            have hnc30 := NB186_189.out
            obtain ⟨hcz31_0, hcz31_1, hcz31_2, hcz31_3, hfz31_0, hfz31_1, hfz31_2, hfz31_3⟩ := zd4 BK189.out (.int .i64 ((rd_T41 l1 x6_1).f0)) (.int .i64 ((rd_T41 l1 x6_1).f1)) (.string ((rd_T41 l1 x6_1).f2)) (.int .i64 ((rd_T41 l1 x6_1).f3))
            go_wp2
            go_meet
            case rel => exact ⟨_, (true), zR, H', ⟨by have := HK1.out; have := HJ9.out; first | omega | exact Nat.le_refl _⟩, ⟨zK⟩, ⟨zK⟩, ⟨zG⟩⟩
           ·rw [if_neg c29] at H
            have c29b0 : decide (1000001 < ((rd_T41 l1 x6_1).f1)) = false := decide_eq_false c29
            clear c29
            by_cases c32 : ((rd_T41 l1 x6_1).f3) < 0
            ·rw [if_pos c32] at H
             have c32b0 : decide (((rd_T41 l1 x6_1).f3) < 0) = true := decide_eq_true c32
             clear c32
             have H' := zm H
             clear H
             have hnb33 := NB189_186.out
             have hnc33 := NB186_189.out
             obtain ⟨hcz34_0, hcz34_1, hcz34_2, hcz34_3, hfz34_0, hfz34_1, hfz34_2, hfz34_3⟩ := zd4 BK189.out (.int .i64 ((rd_T41 l1 x6_1).f0)) (.int .i64 ((rd_T41 l1 x6_1).f1)) (.string ((rd_T41 l1 x6_1).f2)) (.int .i64 ((rd_T41 l1 x6_1).f3))
             go_wp2
             go_meet
             case rel => exact ⟨_, (true), zR, H', ⟨by have := HK1.out; have := HJ9.out; first | omega | exact Nat.le_refl _⟩, ⟨zK⟩, ⟨zK⟩, ⟨zG⟩⟩
            ·rw [if_neg c32] at H
             have c32b0 : decide (((rd_T41 l1 x6_1).f3) < 0) = false := decide_eq_false c32
             clear c32
             by_cases c35 : ((rd_T41 l1 x6_1).f3) > 1000001
             ·rw [if_pos c35] at H
              have c35b0 : decide (1000001 < ((rd_T41 l1 x6_1).f3)) = true := decide_eq_true c35
              clear c35
              have H' := zm H
              clear H
              have hnb36 := NB189_186.out
              have hnc36 := NB186_189.out
              obtain ⟨hcz37_0, hcz37_1, hcz37_2, hcz37_3, hfz37_0, hfz37_1, hfz37_2, hfz37_3⟩ := zd4 BK189.out (.int .i64 ((rd_T41 l1 x6_1).f0)) (.int .i64 ((rd_T41 l1 x6_1).f1)) (.string ((rd_T41 l1 x6_1).f2)) (.int .i64 ((rd_T41 l1 x6_1).f3))
              go_wp2
              go_meet
              case rel => exact ⟨_, (true), zR, H', ⟨by have := HK1.out; have := HJ9.out; first | omega | exact Nat.le_refl _⟩, ⟨zK⟩, ⟨zK⟩, ⟨zG⟩⟩
             ·rw [if_neg c35] at H
              have c35b0 : decide (1000001 < ((rd_T41 l1 x6_1).f3)) = false := decide_eq_false c35
              clear c35
              by_cases c38 : ((rd_T41 l1 x6_1).f0) = 3
              ·rw [if_pos c38] at H
               have c38b0 : (((rd_T41 l1 x6_1).f0) == 3) = true := beq_iff_eq.mpr c38
               have c38b1 : (((rd_T41 l1 x6_1).f0) != 3) = false := bne_eq_false_iff_eq.mpr c38
               clear c38
               have H' := zm H
               clear H
               have hnb39 := NB189_186.out
               have hnc39 := NB186_189.out
               obtain ⟨hcz40_0, hcz40_1, hcz40_2, hcz40_3, hfz40_0, hfz40_1, hfz40_2, hfz40_3⟩ := zd4 BK189.out (.int .i64 ((rd_T41 l1 x6_1).f0)) (.int .i64 ((rd_T41 l1 x6_1).f1)) (.string ((rd_T41 l1 x6_1).f2)) (.int .i64 ((rd_T41 l1 x6_1).f3))
               go_wp2
               go_meet
               case rel => exact ⟨_, (false), zR, H', ⟨by have := HK1.out; have := HJ9.out; first | omega | exact Nat.le_refl _⟩, ⟨zK⟩, ⟨zK⟩, ⟨zG⟩⟩
              ·rw [if_neg c38] at H
               have c38b0 : (((rd_T41 l1 x6_1).f0) == 3) = false := beq_eq_false_iff_ne.mpr c38
               have c38b1 : (((rd_T41 l1 x6_1).f0) != 3) = true := bne_iff_ne.mpr c38
               have H' := zm H
               clear H
               have hnb41 := NB189_186.out
               have hnc41 := NB186_189.out
               obtain ⟨hcz42_0, hcz42_1, hcz42_2, hcz42_3, hfz42_0, hfz42_1, hfz42_2, hfz42_3⟩ := zd4 BK189.out (.int .i64 ((rd_T41 l1 x6_1).f0)) (.int .i64 ((rd_T41 l1 x6_1).f1)) (.string ((rd_T41 l1 x6_1).f2)) (.int .i64 ((rd_T41 l1 x6_1).f3))
               go_wp2
               go_meet
               case rel => exact ⟨_, ((((rd_T41 l1 x6_1).f2).toList != ([] : List UInt8))), zR, H', ⟨by have := HK1.out; have := HJ9.out; first | omega | exact Nat.le_refl _⟩, ⟨zK⟩, ⟨zK⟩, ⟨zG⟩⟩
         case rest =>
          clear HC25
          obtain ⟨kq, x61_24, rfl, HA, HJ24, BK186, BK189, HB⟩ := hcut
          cases kq with
          | zero => exact absurd HA.out (by simp [q4_Right.j2])
          | succ kj24 =>
           have H := HA.out
           clear HA
           simp only [q4_Right.j2] at H
           by_cases c43 : x61_24 = true
           ·subst c43
            rw [if_pos rfl] at H
            obtain rfl := Option.some.inj H
            go_wp2
            go_ret
            exact ⟨zE, zG⟩
           ·replace c43 := Bool.eq_false_iff.mpr c43
            subst c43
            rw [if_neg (show ¬ (false = true) by decide)] at H
            have HC44 := zm H
            clear H
            have hnb45 := NB189_186.out
            have hnc45 := NB186_189.out
            obtain ⟨hcz46_0, hcz46_1, hcz46_2, hcz46_3, hfz46_0, hfz46_1, hfz46_2, hfz46_3⟩ := zd4 BK189.out (.int .i64 ((rd_T41 l1 x6_1).f0)) (.int .i64 ((rd_T41 l1 x6_1).f1)) (.string ((rd_T41 l1 x6_1).f2)) (.int .i64 ((rd_T41 l1 x6_1).f3))
            go_upto_if 64 with (fail)
            go_cut [64] (fun v64 wc => ∃ (kq : Nat) (x64_43 : Bool), v64 = .bool x64_43 ∧ Aside0 (q4_Right.j3 kq l1 x6_1 ((rd_T41 l1 x6_1).f0) x64_43 a0_0 l0_1 l0_2 ((rd_T41 l1 x6_1).f0) ((rd_T41 l1 x6_1).f1) ((rd_T41 l1 x6_1).f2) ((rd_T41 l1 x6_1).f3) = some r) ∧ Aside0 (kq ≤ kj24) ∧ Aside0 (wc.heap[gb186]? = some (.cells #[.int .i64 a0_0, (.slice A0_1 l0_1.length c0_1), (.slice A0_2 l0_2.length c0_2)] 25 (0, 0))) ∧ Aside0 (wc.heap[gb189]? = some (.cells #[.int .i64 ((rd_T41 l1 x6_1).f0), .int .i64 ((rd_T41 l1 x6_1).f1), .string ((rd_T41 l1 x6_1).f2), .int .i64 ((rd_T41 l1 x6_1).f3)] 41 (0, 0))) ∧ Aside0 (Below w.heap.size w wc))
            case first =>
             have H := HC44.out
             clear HC44
             by_cases c47 : ((rd_T41 l1 x6_1).f0) = 3
             ·rw [if_pos c47] at H
              have c47b0 : (((rd_T41 l1 x6_1).f0) == 3) = true := beq_iff_eq.mpr c47
              have c47b1 : (((rd_T41 l1 x6_1).f0) != 3) = false := bne_eq_false_iff_eq.mpr c47
              clear c47
              (first | rw [c47b0] | (simp only [i64_w, i32_w]; rw [c47b0]) | skip)
              have H' := zm H
              clear H
              go_wp2
              go_meet
              case rel => exact ⟨_, ((((rd_T41 l1 x6_1).f0) == 3)), zR, H', ⟨by have := HK1.out; have := HJ9.out; have := HJ24.out; first | omega | exact Nat.le_refl _⟩, ⟨zK⟩, ⟨zK⟩, ⟨zG⟩⟩
             ·rw [if_neg c47] at H
              have c47b0 : (((rd_T41 l1 x6_1).f0) == 3) = false := beq_eq_false_iff_ne.mpr c47
              have c47b1 : (((rd_T41 l1 x6_1).f0) != 3) = true := bne_iff_ne.mpr c47
              (first | rw [c47b0] | (simp only [i64_w, i32_w]; rw [c47b0]) | skip)
              by_cases c48 : ((rd_T41 l1 x6_1).f0) = 4
              ·rw [if_pos c48] at H
               have c48b0 : (((rd_T41 l1 x6_1).f0) == 4) = true := beq_iff_eq.mpr c48
               have c48b1 : (((rd_T41 l1 x6_1).f0) != 4) = false := bne_eq_false_iff_eq.mpr c48
               clear c48
               have H' := zm H
               clear H
               go_wp2
               go_meet
               case rel => exact ⟨_, ((((rd_T41 l1 x6_1).f0) == 4)), zR, H', ⟨by have := HK1.out; have := HJ9.out; have := HJ24.out; first | omega | exact Nat.le_refl _⟩, ⟨zK⟩, ⟨zK⟩, ⟨zG⟩⟩
              ·rw [if_neg c48] at H
               have c48b0 : (((rd_T41 l1 x6_1).f0) == 4) = false := beq_eq_false_iff_ne.mpr c48
               have c48b1 : (((rd_T41 l1 x6_1).f0) != 4) = true := bne_iff_ne.mpr c48
               by_cases c49 : ((rd_T41 l1 x6_1).f0) = 5
               ·rw [if_pos c49] at H
                have c49b0 : (((rd_T41 l1 x6_1).f0) == 5) = true := beq_iff_eq.mpr c49
                have c49b1 : (((rd_T41 l1 x6_1).f0) != 5) = false := bne_eq_false_iff_eq.mpr c49
                clear c49
                have H' := zm H
                clear H
                go_wp2
                go_meet
                case rel => exact ⟨_, ((((rd_T41 l1 x6_1).f0) == 5)), zR, H', ⟨by have := HK1.out; have := HJ9.out; have := HJ24.out; first | omega | exact Nat.le_refl _⟩, ⟨zK⟩, ⟨zK⟩, ⟨zG⟩⟩
               ·rw [if_neg c49] at H
                have c49b0 : (((rd_T41 l1 x6_1).f0) == 5) = false := beq_eq_false_iff_ne.mpr c49
                have c49b1 : (((rd_T41 l1 x6_1).f0) != 5) = true := bne_iff_ne.mpr c49
                have H' := zm H
                clear H
                go_wp2
                go_meet
                case rel => exact ⟨_, ((((rd_T41 l1 x6_1).f0) == 8)), zR, H', ⟨by have := HK1.out; have := HJ9.out; have := HJ24.out; first | omega | exact Nat.le_refl _⟩, ⟨zK⟩, ⟨zK⟩, ⟨zG⟩⟩
            case rest =>
             clear HC44
             clear hcz46_0 hcz46_1 hcz46_2 hcz46_3 hfz46_0 hfz46_1 hfz46_2 hfz46_3
             obtain ⟨kq, x64_43, rfl, HA, HJ43, BK186, BK189, HB⟩ := hcut
             cases kq with
             | zero => exact absurd HA.out (by simp [q4_Right.j3])
             | succ kj43 =>
              have H := HA.out
              clear HA
              simp only [q4_Right.j3] at H
              by_cases c50 : x64_43 = true
              ·subst c50
               rw [if_pos rfl] at H
               have H' := zm H
               clear H
               go_wp2
               go_roundg kj43
               case measure => have := HK1.out; have := HJ9.out; have := HJ24.out; have := HJ43.out; omega
               case rel => exact ⟨(wrap64 (x6_1 + 1)), zR, H', ⟨by have := HK1.out; have := HJ9.out; have := HJ24.out; have := HJ43.out; omega⟩, ⟨zK⟩, ⟨zG⟩⟩
              ·replace c50 := Bool.eq_false_iff.mpr c50
               subst c50
               rw [if_neg (show ¬ (false = true) by decide)] at H
               by_cases c51 : ((rd_T41 l1 x6_1).f0) = 6
               ·rw [if_pos c51] at H
                have c51b0 : (((rd_T41 l1 x6_1).f0) == 6) = true := beq_iff_eq.mpr c51
                have c51b1 : (((rd_T41 l1 x6_1).f0) != 6) = false := bne_eq_false_iff_eq.mpr c51
                clear c51
                have HC52 := zm H
                clear H
                go_upto_region 19 with (fail)
                go_cut [81] (fun v81 wc => ∃ (kq : Nat) (x81_51 : Bool), v81 = .bool x81_51 ∧ Aside0 (q4_Right.j4 kq l1 x6_1 x81_51 a0_0 l0_1 l0_2 = some r) ∧ Aside0 (kq ≤ kj43) ∧ Aside0 (wc.heap[gb186]? = some (.cells #[.int .i64 a0_0, (.slice A0_1 l0_1.length c0_1), (.slice A0_2 l0_2.length c0_2)] 25 (0, 0))) ∧ Aside0 (wc.heap[gb189]? = some (.cells #[.int .i64 ((rd_T41 l1 x6_1).f0), .int .i64 ((rd_T41 l1 x6_1).f1), .string ((rd_T41 l1 x6_1).f2), .int .i64 ((rd_T41 l1 x6_1).f3)] 41 (0, 0))) ∧ Aside0 (Below w.heap.size w wc))
                case first =>
                 have H := HC52.out
                 clear HC52
                 by_cases c53 : ((rd_T41 l1 x6_1).f1) ≥ (l0_1.length : Int)
                 ·rw [if_pos c53] at H
                  have c53b0 : decide ((l0_1.length : Int) ≤ ((rd_T41 l1 x6_1).f1)) = true := decide_eq_true c53
                  clear c53
                  (first | rw [c53b0] | (simp only [i64_w, i32_w]; rw [c53b0]) | skip)
                  have H' := zm H
                  clear H
                  have hnb54 := NB189_186.out
                  have hnc54 := NB186_189.out
                  obtain ⟨hcz55_0, hcz55_1, hcz55_2, hcz55_3, hfz55_0, hfz55_1, hfz55_2, hfz55_3⟩ := zd4 BK189.out (.int .i64 ((rd_T41 l1 x6_1).f0)) (.int .i64 ((rd_T41 l1 x6_1).f1)) (.string ((rd_T41 l1 x6_1).f2)) (.int .i64 ((rd_T41 l1 x6_1).f3))
                  obtain ⟨hcz56_0, hcz56_1, hcz56_2, hfz56_0, hfz56_1, hfz56_2⟩ := zd3 BK186.out (.int .i64 a0_0) (.slice A0_1 l0_1.length c0_1) (.slice A0_2 l0_2.length c0_2)
                  go_wp2
                  go_meet
                  case rel => exact ⟨_, (true), zR, H', ⟨by have := HK1.out; have := HJ9.out; have := HJ24.out; have := HJ43.out; first | omega | exact Nat.le_refl _⟩, ⟨zK⟩, ⟨zK⟩, ⟨zG⟩⟩
                 ·rw [if_neg c53] at H
                  have c53b0 : decide ((l0_1.length : Int) ≤ ((rd_T41 l1 x6_1).f1)) = false := decide_eq_false c53
                  clear c53
                  (first | rw [c53b0] | (simp only [i64_w, i32_w]; rw [c53b0]) | skip)
                  have H' := zm H
                  clear H
                  have hnb57 := NB189_186.out
                  have hnc57 := NB186_189.out
                  obtain ⟨hcz58_0, hcz58_1, hcz58_2, hcz58_3, hfz58_0, hfz58_1, hfz58_2, hfz58_3⟩ := zd4 BK189.out (.int .i64 ((rd_T41 l1 x6_1).f0)) (.int .i64 ((rd_T41 l1 x6_1).f1)) (.string ((rd_T41 l1 x6_1).f2)) (.int .i64 ((rd_T41 l1 x6_1).f3))
                  obtain ⟨hcz59_0, hcz59_1, hcz59_2, hfz59_0, hfz59_1, hfz59_2⟩ := zd3 BK186.out (.int .i64 a0_0) (.slice A0_1 l0_1.length c0_1) (.slice A0_2 l0_2.length c0_2)
                  go_wp2
                  go_meet
                  case rel => exact ⟨_, ((((rd_T41 l1 x6_1).f3) != 0)), zR, H', ⟨by have := HK1.out; have := HJ9.out; have := HJ24.out; have := HJ43.out; first | omega | exact Nat.le_refl _⟩, ⟨zK⟩, ⟨zK⟩, ⟨zG⟩⟩
                case rest =>
                 clear HC52
                 clear c51b0 c51b1
                 obtain ⟨kq, x81_51, rfl, HA, HJ51, BK186, BK189, HB⟩ := hcut
                 cases kq with
                 | zero => exact absurd HA.out (by simp [q4_Right.j4])
                 | succ kj51 =>
                  have H := HA.out
                  clear HA
                  simp only [q4_Right.j4] at H
                  by_cases c60 : x81_51 = true
                  ·subst c60
                   rw [if_pos rfl] at H
                   obtain rfl := Option.some.inj H
                   go_wp2
                   go_ret
                   exact ⟨zE, zG⟩
                  ·replace c60 := Bool.eq_false_iff.mpr c60
                   subst c60
                   rw [if_neg (show ¬ (false = true) by decide)] at H
                   have H' := zm H
                   clear H
                   go_wp2
                   go_roundg kj51
                   case measure => have := HK1.out; have := HJ9.out; have := HJ24.out; have := HJ43.out; have := HJ51.out; omega
                   case rel => exact ⟨(wrap64 (x6_1 + 1)), zR, H', ⟨by have := HK1.out; have := HJ9.out; have := HJ24.out; have := HJ43.out; have := HJ51.out; omega⟩, ⟨zK⟩, ⟨zG⟩⟩
               ·rw [if_neg c51] at H
                have c51b0 : (((rd_T41 l1 x6_1).f0) == 6) = false := beq_eq_false_iff_ne.mpr c51
                have c51b1 : (((rd_T41 l1 x6_1).f0) != 6) = true := bne_iff_ne.mpr c51
                by_cases c61 : ((rd_T41 l1 x6_1).f0) = 9
                ·rw [if_pos c61] at H
                 have c61b0 : (((rd_T41 l1 x6_1).f0) == 9) = true := beq_iff_eq.mpr c61
                 have c61b1 : (((rd_T41 l1 x6_1).f0) != 9) = false := bne_eq_false_iff_eq.mpr c61
                 clear c61
                 by_cases c62 : ((rd_T41 l1 x6_1).f1) ≥ a0_0
                 ·rw [if_pos c62] at H
                  have c62b0 : decide (a0_0 ≤ ((rd_T41 l1 x6_1).f1)) = true := decide_eq_true c62
                  clear c62
                  obtain rfl := Option.some.inj H
                  have hnb63 := NB189_186.out
                  have hnc63 := NB186_189.out
                  obtain ⟨hcz64_0, hcz64_1, hcz64_2, hcz64_3, hfz64_0, hfz64_1, hfz64_2, hfz64_3⟩ := zd4 BK189.out (.int .i64 ((rd_T41 l1 x6_1).f0)) (.int .i64 ((rd_T41 l1 x6_1).f1)) (.string ((rd_T41 l1 x6_1).f2)) (.int .i64 ((rd_T41 l1 x6_1).f3))
                  obtain ⟨hcz65_0, hcz65_1, hcz65_2, hfz65_0, hfz65_1, hfz65_2⟩ := zd3 BK186.out (.int .i64 a0_0) (.slice A0_1 l0_1.length c0_1) (.slice A0_2 l0_2.length c0_2)
                  go_wp2
                  go_ret
                  exact ⟨zE, zG⟩
                 ·rw [if_neg c62] at H
                  have c62b0 : decide (a0_0 ≤ ((rd_T41 l1 x6_1).f1)) = false := decide_eq_false c62
                  clear c62
                  have H' := zm H
                  clear H
                  have hnb66 := NB189_186.out
                  have hnc66 := NB186_189.out
                  obtain ⟨hcz67_0, hcz67_1, hcz67_2, hcz67_3, hfz67_0, hfz67_1, hfz67_2, hfz67_3⟩ := zd4 BK189.out (.int .i64 ((rd_T41 l1 x6_1).f0)) (.int .i64 ((rd_T41 l1 x6_1).f1)) (.string ((rd_T41 l1 x6_1).f2)) (.int .i64 ((rd_T41 l1 x6_1).f3))
                  obtain ⟨hcz68_0, hcz68_1, hcz68_2, hfz68_0, hfz68_1, hfz68_2⟩ := zd3 BK186.out (.int .i64 a0_0) (.slice A0_1 l0_1.length c0_1) (.slice A0_2 l0_2.length c0_2)
                  go_wp2
                  go_roundg kj43
                  case measure => have := HK1.out; have := HJ9.out; have := HJ24.out; have := HJ43.out; omega
                  case rel => exact ⟨(wrap64 (x6_1 + 1)), zR, H', ⟨by have := HK1.out; have := HJ9.out; have := HJ24.out; have := HJ43.out; omega⟩, ⟨zK⟩, ⟨zG⟩⟩
                ·rw [if_neg c61] at H
                 have c61b0 : (((rd_T41 l1 x6_1).f0) == 9) = false := beq_eq_false_iff_ne.mpr c61
                 have c61b1 : (((rd_T41 l1 x6_1).f0) != 9) = true := bne_iff_ne.mpr c61
                 obtain rfl := Option.some.inj H
                 go_wp2
                 go_ret
                 exact ⟨zE, zG⟩
     ·rw [if_neg c9] at H
      exact absurd H (by simp)
    ·rw [if_neg c8] at H
     have c8b0 : decide (x6_1 < (l1.length : Int)) = false := decide_eq_false c8
     clear c8
     obtain rfl := Option.some.inj H
     go_wp2
     go_ret
     exact ⟨zE, zG⟩
 ·replace c4 := Bool.eq_false_iff.mpr c4
  subst c4
  rw [if_neg (show ¬ (false = true) by decide)] at H
  obtain rfl := Option.some.inj H
  go_enter Try.func14, Try.ntmps14
  go_wp2_with (first | ((with_reducible refine gate_dst (N := 2) rfl ?_); refine zX (N := 2) (cs := #[.int .i64 a0_0, .slice A0_1 l0_1.length c0_1, .slice A0_2 l0_2.length c0_2]) (t := 25) (h := ?_); intro gb186 hg w69 hbox hb; have BK186 := zm hbox; have GW186 := zm ((zS : w.heap.size ≤ gb186)); have GE186 := zm ((zS : w.heap.size ≤ gb186)); replace HB := zm (below_step zB hb); clear hb hbox hg; obtain ⟨hcz70_0, hcz70_1, hcz70_2, hfz70_0, hfz70_1, hfz70_2⟩ := zd3 BK186.out (.int .i64 a0_0) (.slice A0_1 l0_1.length c0_1) (.slice A0_2 l0_2.length c0_2)) | ((with_reducible refine gate_callee (f := 13) rfl ?_); refine goesL_ (some 9) rfl rfl Try.func13 (by kernel_rfl) rfl #[.agg #[.int .i64 a0_0, .slice A0_1 l0_1.length c0_1, .slice A0_2 l0_2.length c0_2]] rfl zP ?_; (with_reducible refine (q3_Right.calls k a0_0 _ _ l0_1 _ _ l0_2 false _ ?side1 ?side2 ?side3 ?side4 A3.out).mono ?_); (case side1 => exact zC (Kd.C_below HR0_1.out HB.out)); (case side2 => exact HC0_1.out); (case side3 => exact zC (Kd.C_below HR0_2.out HB.out)); (case side4 => exact HC0_2.out); rintro e w71 ⟨rfl, hb⟩; refine ⟨_, rfl, ?_⟩; replace BK186 := zm (blk_below (g := gb186) zK hb); replace HB := zm (below_step zG hb); (try clear hb)))
  go_ret
  exact ⟨zE, zG⟩
end Go.Proofs.Ytngppcmdaanheaa.Pr
namespace Go.Proofs.Ytngppcmdaanheaa.Pr
open Go.RowKit Go.Proofs.YtngppcmdaanheaaW.PrintWords Go.Proofs.YtngppcmdaanheaaW.PrintLast Go.Proofs.YtngppcmdaanheaaW.PrintMore
attribute [local go_sem] max2_int min2_int max_two min_two
set_option linter.unusedVariables false
set_option linter.unusedSimpArgs false
attribute [local go_sem high] eqA41
/-! ### q8_SameFacts: function 16 -/
def q8_SameFacts.l0 : Nat → List (S41) → List (S41) → Int → Option (Bool)
 | 0, _, _, _ => none
 | k + 1, x0, x1, x5 => if x5 < (x0.length : Int) then (if 0 ≤ x5 then (if x5 < (x1.length : Int) then (if (!(((rd_T41 x0 x5).f0) == ((rd_T41 x1 x5).f0)) || (!(((rd_T41 x0 x5).f1) == ((rd_T41 x1 x5).f1)) || (!((((rd_T41 x0 x5).f2).toList) == (((rd_T41 x1 x5).f2).toList)) || (!(((rd_T41 x0 x5).f3) == ((rd_T41 x1 x5).f3)))))) = true then (some false) else (q8_SameFacts.l0 k x0 x1 (wrap64 (x5 + 1)))) else (none)) else (none)) else (some true)
def q8_SameFacts.f (k : Nat) (l0 : List (S41)) (l1 : List (S41)) : Option (Bool) := if (l0.length : Int) = (l1.length : Int) then (q8_SameFacts.l0 k l0 l1 0) else (some false)
set_option maxHeartbeats 8000000 in
set_option maxRecDepth 100000 in
theorem q8_SameFacts.calls (k : Nat) (A0 : Option Addr) (c0 : Nat) (l0 : List (S41)) (A1 : Option Addr) (c1 : Nat) (l1 : List (S41)) (r : Bool) (w : World) (hr0 : Kd.C k41 w A0 l0.length l0) (hc0 : l0.length ≤ c0) (hr1 : Kd.C k41 w A1 l1.length l1) (hc1 : l1.length ≤ c1) (h : q8_SameFacts.f k l0 l1 = some r) :
  Calls Try.prog 16 #[.slice A0 l0.length c0, .slice A1 l1.length c1] w fun e w' => e = .returned (.bool r) ∧ Drawn0 w w' := by
 have hu41 := Try.underlying41
 have HR0 := zm hr0
 have HC0 := zm hc0
 clear hr0 hc0
 have HR1 := zm hr1
 have HC1 := zm hc1
 clear hr1 hc1
 have H : (if (l0.length : Int) = (l1.length : Int) then (q8_SameFacts.l0 k l0 l1 0) else (some false)) = some r := h
 clear h
 by_cases c3 : (l0.length : Int) = (l1.length : Int)
 ·rw [if_pos c3] at H
  have c3b0 : ((l0.length : Int) == (l1.length : Int)) = true := beq_iff_eq.mpr c3
  have c3b1 : ((l0.length : Int) != (l1.length : Int)) = false := bne_eq_false_iff_eq.mpr c3
  have c3b2 : (l0.length == l1.length) = true := by first | simpa using c3 | (simp at c3 ⊢; omega)
  clear c3
  have H' := zm H
  clear H
  go_enter Try.func16, Try.ntmps16
  go_wp2
  repeat (go_quiet (fail); try go_wp2)
  go_loopg [5] k (fun kq v5 w' => ∃ (x5_1 : Int), v5 = .int .i64 x5_1 ∧ Aside0 (q8_SameFacts.l0 kq l0 l1 x5_1 = some r) ∧ Aside0 (kq ≤ k) ∧ Drawn0 w w')
  case atStart => exact ⟨(0), zR, H', ⟨Nat.le_refl _⟩, by repeat (first | exact Drawn0.refl _ | apply Drawn0.step)⟩
  case round =>
   clear H'
   clear c3b0 c3b1 c3b2
   obtain ⟨x5_1, rfl, HA, HK1, ⟨m1, rfl⟩⟩ := hrel
   cases gk with
   | zero => exact absurd HA.out (by simp [q8_SameFacts.l0])
   | succ k1 =>
    have H := HA.out
    clear HA
    simp only [q8_SameFacts.l0] at H
    by_cases c4 : x5_1 < (l0.length : Int)
    ·rw [if_pos c4] at H
     have c4b0 : decide (x5_1 < (l0.length : Int)) = true := decide_eq_true c4
     clear c4
     by_cases c5 : 0 ≤ x5_1
     ·rw [if_pos c5] at H
      have c5b0 : decide (0 ≤ x5_1) = true := decide_eq_true c5
      clear c5
      by_cases c6 : x5_1 < (l1.length : Int)
      ·rw [if_pos c6] at H
       have c6b0 : decide (x5_1 < (l1.length : Int)) = true := decide_eq_true c6
       clear c6
       by_cases c7 : (!(((rd_T41 l0 x5_1).f0) == ((rd_T41 l1 x5_1).f0)) || (!(((rd_T41 l0 x5_1).f1) == ((rd_T41 l1 x5_1).f1)) || (!((((rd_T41 l0 x5_1).f2).toList) == (((rd_T41 l1 x5_1).f2).toList)) || (!(((rd_T41 l0 x5_1).f3) == ((rd_T41 l1 x5_1).f3)))))) = true
       ·rw [if_pos c7] at H
        have c7b0 : (!(((rd_T41 l0 x5_1).f0) == ((rd_T41 l1 x5_1).f0)) || (!(((rd_T41 l0 x5_1).f1) == ((rd_T41 l1 x5_1).f1)) || (!((((rd_T41 l0 x5_1).f2).toList) == (((rd_T41 l1 x5_1).f2).toList)) || (!(((rd_T41 l0 x5_1).f3) == ((rd_T41 l1 x5_1).f3)))))) = true := c7
        clear c7
        obtain rfl := Option.some.inj H
        have p192 : 0 ≤ (x5_1 : Int) := of_decide_eq_true zA
        have q192 : x5_1 < (l0.length : Int) := of_decide_eq_true zA
        obtain ⟨ad192, e192, hx192_0, hx192_1, hx192_2, hx192_3⟩ := at_T41 HR0.out x5_1 p192 q192
        cases e192
        replace p192 := eq_true p192
        replace q192 := eq_true q192
        have p193 : 0 ≤ (x5_1 : Int) := of_decide_eq_true zA
        have q193 : x5_1 < (l1.length : Int) := of_decide_eq_true zA
        obtain ⟨ad193, e193, hx193_0, hx193_1, hx193_2, hx193_3⟩ := at_T41 HR1.out x5_1 p193 q193
        cases e193
        replace p193 := eq_true p193
        replace q193 := eq_true q193
        go_wp2
        repeat (go_quiet (fail); try go_wp2)
        go_ret
        exact ⟨zR, by repeat (first | exact Drawn0.refl _ | apply Drawn0.step)⟩
       ·rw [if_neg c7] at H
        have c7b0 : (!(((rd_T41 l0 x5_1).f0) == ((rd_T41 l1 x5_1).f0)) || (!(((rd_T41 l0 x5_1).f1) == ((rd_T41 l1 x5_1).f1)) || (!((((rd_T41 l0 x5_1).f2).toList) == (((rd_T41 l1 x5_1).f2).toList)) || (!(((rd_T41 l0 x5_1).f3) == ((rd_T41 l1 x5_1).f3)))))) = false := by simpa using c7
        clear c7
        have H' := zm H
        clear H
        have p192 : 0 ≤ (x5_1 : Int) := of_decide_eq_true zA
        have q192 : x5_1 < (l0.length : Int) := of_decide_eq_true zA
        obtain ⟨ad192, e192, hx192_0, hx192_1, hx192_2, hx192_3⟩ := at_T41 HR0.out x5_1 p192 q192
        cases e192
        replace p192 := eq_true p192
        replace q192 := eq_true q192
        have p193 : 0 ≤ (x5_1 : Int) := of_decide_eq_true zA
        have q193 : x5_1 < (l1.length : Int) := of_decide_eq_true zA
        obtain ⟨ad193, e193, hx193_0, hx193_1, hx193_2, hx193_3⟩ := at_T41 HR1.out x5_1 p193 q193
        cases e193
        replace p193 := eq_true p193
        replace q193 := eq_true q193
        go_wp2
        repeat (go_quiet (fail); try go_wp2)
        go_roundg k1
        case measure => have := HK1.out; omega
        case rel => exact ⟨(wrap64 (x5_1 + 1)), zR, H', ⟨by have := HK1.out; omega⟩, by repeat (first | exact Drawn0.refl _ | apply Drawn0.step)⟩
      ·rw [if_neg c6] at H
       exact absurd H (by simp)
     ·rw [if_neg c5] at H
      exact absurd H (by simp)
    ·rw [if_neg c4] at H
     have c4b0 : decide (x5_1 < (l0.length : Int)) = false := decide_eq_false c4
     clear c4
     obtain rfl := Option.some.inj H
     go_wp2
     repeat (go_quiet (fail); try go_wp2)
     go_ret
     exact ⟨zR, by repeat (first | exact Drawn0.refl _ | apply Drawn0.step)⟩
 ·rw [if_neg c3] at H
  have c3b0 : ((l0.length : Int) == (l1.length : Int)) = false := beq_eq_false_iff_ne.mpr c3
  have c3b1 : ((l0.length : Int) != (l1.length : Int)) = true := bne_iff_ne.mpr c3
  have c3b2 : (l0.length == l1.length) = false := by first | simpa using c3 | (simp at c3 ⊢; omega)
  obtain rfl := Option.some.inj H
  go_enter Try.func16, Try.ntmps16
  go_wp2
  repeat (go_quiet (fail); try go_wp2)
  go_ret
  exact ⟨zR, by repeat (first | exact Drawn0.refl _ | apply Drawn0.step)⟩
end Go.Proofs.Ytngppcmdaanheaa.Pr
