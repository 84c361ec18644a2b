/- Lemmas for the claims of this seat (own texts, packed; what the claims do not use is left out). No condition. -/
import Derived.Deep.Slices
import Derived.ChangeSlices
import Derived.DataReads
import Derived.Test.YtngppcmdaanheaaRows
import Derived.WalkKit
import Derived.ProofKit
import Derived.OpenShut
import Derived.ShutString
import Derived.ChangeOld
import Derived.Below
import Derived.SizedLaws
import Derived.Test.YtngppcmdaanheaaMp0
import Derived.Test.YtngppcmdaanheaaMp1
import Derived.Test.YtngppcmdaanheaaMp3
namespace Go.Proofs.Ytngppcmdaanheaa.Pr
open Go.RowKit Go.Proofs.YtngppcmdaanheaaW.PrintWords Go.Proofs.YtngppcmdaanheaaW.PrintLast Go.Proofs.YtngppcmdaanheaaW.PrintMore
attribute [local go_sem] max2_int min2_int max_two min_two
set_option linter.unusedVariables false
set_option linter.unusedSimpArgs false
attribute [local go_sem high] eqA41
/-! ### l4_shown: function 8 -/
def l4_shown.f (k : Nat)  : Option (Bool) := (some (([(⟨0, ([] : List Int), 0, 0, 0⟩ : S44)] : List (S44)) : List (S44))).bind fun y135 => ((some (([(⟨3, 0, 0, 1, 0, 0, 0, (⟨#[]⟩ : ByteArray), ([] : List Int)⟩ : S46)] : List (S46)) : List (S46))).bind fun y138 => ((e_Round.f k 20 y135 y138 (([(⟨6, 0, (⟨#[]⟩ : ByteArray), 0⟩ : S41), (⟨9, 0, (⟨#[]⟩ : ByteArray), 4⟩ : S41)] : List (S41)))).bind fun bt145 => ((e_Closed.f k 20 y135 y138 bt145.1).bind fun bt149 => ((e_Round.f k 20 y135 y138 (([(⟨0, 0, (⟨#[]⟩ : ByteArray), 0⟩ : S41)] : List (S41)))).bind fun bt154 => (if bt145.2 = 0 then (if bt149.2 = 0 then (if bt149.1 = true then (if bt154.2 = 140 then (if (bt145.1.length : Int) = 8 then (if 7 < (bt145.1.length : Int) then (some (((rd_T41 bt145.1 7).f0) == 9 && (((rd_T41 bt145.1 7).f1) == 1 && ((((rd_T41 bt145.1 7).f2).toList) == ([] : List UInt8) && (((rd_T41 bt145.1 7).f3) == 4))))) else (none)) else (none)) else (none)) else (none)) else (none)) else (none))))))
set_option maxHeartbeats 8000000 in
set_option maxRecDepth 100000 in
theorem l4_shown.calls (k : Nat)  (r : Bool) (w : World) (h : l4_shown.f k  = some r) :
  Calls Try.prog 8 #[] w fun e w' => e = .returned (.bool r) ∧ Below w.heap.size w w' := by
 have hu44 := Try.underlying44
 have hu46 := Try.underlying46
 have hu25 := Try.underlying25
 have hu41 := Try.underlying41
 have HB := zm (Below.refl w.heap.size w)
 have H : ((some (([(⟨0, ([] : List Int), 0, 0, 0⟩ : S44)] : List (S44)) : List (S44))).bind fun y135 => ((some (([(⟨3, 0, 0, 1, 0, 0, 0, (⟨#[]⟩ : ByteArray), ([] : List Int)⟩ : S46)] : List (S46)) : List (S46))).bind fun y138 => ((e_Round.f k 20 y135 y138 (([(⟨6, 0, (⟨#[]⟩ : ByteArray), 0⟩ : S41), (⟨9, 0, (⟨#[]⟩ : ByteArray), 4⟩ : S41)] : List (S41)))).bind fun bt145 => ((e_Closed.f k 20 y135 y138 bt145.1).bind fun bt149 => ((e_Round.f k 20 y135 y138 (([(⟨0, 0, (⟨#[]⟩ : ByteArray), 0⟩ : S41)] : List (S41)))).bind fun bt154 => (if bt145.2 = 0 then (if bt149.2 = 0 then (if bt149.1 = true then (if bt154.2 = 140 then (if (bt145.1.length : Int) = 8 then (if 7 < (bt145.1.length : Int) then (some (((rd_T41 bt145.1 7).f0) == 9 && (((rd_T41 bt145.1 7).f1) == 1 && ((((rd_T41 bt145.1 7).f2).toList) == ([] : List UInt8) && (((rd_T41 bt145.1 7).f3) == 4))))) else (none)) else (none)) else (none)) else (none)) else (none)) else (none))))))) = some r := h
 clear h
 obtain ⟨y135, hy135⟩ : ∃ y_ : List (S44), y_ = (([(⟨0, ([] : List Int), 0, 0, 0⟩ : S44)] : List (S44))) := ⟨_, rfl⟩
 replace H : ((some (([(⟨3, 0, 0, 1, 0, 0, 0, (⟨#[]⟩ : ByteArray), ([] : List Int)⟩ : S46)] : List (S46)) : List (S46))).bind fun y138 => ((e_Round.f k 20 y135 y138 (([(⟨6, 0, (⟨#[]⟩ : ByteArray), 0⟩ : S41), (⟨9, 0, (⟨#[]⟩ : ByteArray), 4⟩ : S41)] : List (S41)))).bind fun bt145 => ((e_Closed.f k 20 y135 y138 bt145.1).bind fun bt149 => ((e_Round.f k 20 y135 y138 (([(⟨0, 0, (⟨#[]⟩ : ByteArray), 0⟩ : S41)] : List (S41)))).bind fun bt154 => (if bt145.2 = 0 then (if bt149.2 = 0 then (if bt149.1 = true then (if bt154.2 = 140 then (if (bt145.1.length : Int) = 8 then (if 7 < (bt145.1.length : Int) then (some (((rd_T41 bt145.1 7).f0) == 9 && (((rd_T41 bt145.1 7).f1) == 1 && ((((rd_T41 bt145.1 7).f2).toList) == ([] : List UInt8) && (((rd_T41 bt145.1 7).f3) == 4))))) else (none)) else (none)) else (none)) else (none)) else (none)) else (none)))))) = some r := by first | (rw [hy135]; with_reducible exact H) | (have H2_ := (Option.bind_some _ _).symm.trans H; rw [hy135]; with_reducible exact H2_) | (have H2_ := (Option.bind_some _ _).symm.trans H; with_reducible exact H2_) | with_reducible exact H | (rw [hy135]; exact H) | exact H
 have Ny135 := zm hy135
 clear hy135
 obtain ⟨y138, hy138⟩ : ∃ y_ : List (S46), y_ = (([(⟨3, 0, 0, 1, 0, 0, 0, (⟨#[]⟩ : ByteArray), ([] : List Int)⟩ : S46)] : List (S46))) := ⟨_, rfl⟩
 replace H : ((e_Round.f k 20 y135 y138 (([(⟨6, 0, (⟨#[]⟩ : ByteArray), 0⟩ : S41), (⟨9, 0, (⟨#[]⟩ : ByteArray), 4⟩ : S41)] : List (S41)))).bind fun bt145 => ((e_Closed.f k 20 y135 y138 bt145.1).bind fun bt149 => ((e_Round.f k 20 y135 y138 (([(⟨0, 0, (⟨#[]⟩ : ByteArray), 0⟩ : S41)] : List (S41)))).bind fun bt154 => (if bt145.2 = 0 then (if bt149.2 = 0 then (if bt149.1 = true then (if bt154.2 = 140 then (if (bt145.1.length : Int) = 8 then (if 7 < (bt145.1.length : Int) then (some (((rd_T41 bt145.1 7).f0) == 9 && (((rd_T41 bt145.1 7).f1) == 1 && ((((rd_T41 bt145.1 7).f2).toList) == ([] : List UInt8) && (((rd_T41 bt145.1 7).f3) == 4))))) else (none)) else (none)) else (none)) else (none)) else (none)) else (none))))) = some r := by first | (rw [hy138]; with_reducible exact H) | (have H2_ := (Option.bind_some _ _).symm.trans H; rw [hy138]; with_reducible exact H2_) | (have H2_ := (Option.bind_some _ _).symm.trans H; with_reducible exact H2_) | with_reducible exact H | (rw [hy138]; exact H) | exact H
 have Ny138 := zm hy138
 clear hy138
 obtain ⟨y142, hy142⟩ : ∃ y_ : List (S41), y_ = (([(⟨6, 0, (⟨#[]⟩ : ByteArray), 0⟩ : S41), (⟨9, 0, (⟨#[]⟩ : ByteArray), 4⟩ : S41)] : List (S41))) := ⟨_, rfl⟩
 replace H : ((e_Round.f k 20 y135 y138 y142).bind fun bt145 => ((e_Closed.f k 20 y135 y138 bt145.1).bind fun bt149 => ((e_Round.f k 20 y135 y138 (([(⟨0, 0, (⟨#[]⟩ : ByteArray), 0⟩ : S41)] : List (S41)))).bind fun bt154 => (if bt145.2 = 0 then (if bt149.2 = 0 then (if bt149.1 = true then (if bt154.2 = 140 then (if (bt145.1.length : Int) = 8 then (if 7 < (bt145.1.length : Int) then (some (((rd_T41 bt145.1 7).f0) == 9 && (((rd_T41 bt145.1 7).f1) == 1 && ((((rd_T41 bt145.1 7).f2).toList) == ([] : List UInt8) && (((rd_T41 bt145.1 7).f3) == 4))))) else (none)) else (none)) else (none)) else (none)) else (none)) else (none))))) = some r := by first | (rw [hy142]; with_reducible exact H) | (have H2_ := (Option.bind_some _ _).symm.trans H; rw [hy142]; with_reducible exact H2_) | (have H2_ := (Option.bind_some _ _).symm.trans H; with_reducible exact H2_) | with_reducible exact H | (rw [hy142]; exact H) | exact H
 have Ny142 := zm hy142
 clear hy142
 replace H := Option.bind_eq_some_iff.mp H
 obtain ⟨⟨t145, t148⟩, A10, H⟩ := H
 replace H : ((e_Closed.f k 20 y135 y138 t145).bind fun bt149 => ((e_Round.f k 20 y135 y138 (([(⟨0, 0, (⟨#[]⟩ : ByteArray), 0⟩ : S41)] : List (S41)))).bind fun bt154 => (if t148 = 0 then (if bt149.2 = 0 then (if bt149.1 = true then (if bt154.2 = 140 then (if (t145.length : Int) = 8 then (if 7 < (t145.length : Int) then (some (((rd_T41 t145 7).f0) == 9 && (((rd_T41 t145 7).f1) == 1 && ((((rd_T41 t145 7).f2).toList) == ([] : List UInt8) && (((rd_T41 t145 7).f3) == 4))))) else (none)) else (none)) else (none)) else (none)) else (none)) else (none)))) = some r := H
 have A1 := zm A10
 clear A10
 replace H := Option.bind_eq_some_iff.mp H
 obtain ⟨⟨t149, t150⟩, A20, H⟩ := H
 replace H : ((e_Round.f k 20 y135 y138 (([(⟨0, 0, (⟨#[]⟩ : ByteArray), 0⟩ : S41)] : List (S41)))).bind fun bt154 => (if t148 = 0 then (if t150 = 0 then (if t149 = true then (if bt154.2 = 140 then (if (t145.length : Int) = 8 then (if 7 < (t145.length : Int) then (some (((rd_T41 t145 7).f0) == 9 && (((rd_T41 t145 7).f1) == 1 && ((((rd_T41 t145 7).f2).toList) == ([] : List UInt8) && (((rd_T41 t145 7).f3) == 4))))) else (none)) else (none)) else (none)) else (none)) else (none)) else (none))) = some r := H
 have A2 := zm A20
 clear A20
 obtain ⟨y151, hy151⟩ : ∃ y_ : List (S41), y_ = (([(⟨0, 0, (⟨#[]⟩ : ByteArray), 0⟩ : S41)] : List (S41))) := ⟨_, rfl⟩
 replace H : ((e_Round.f k 20 y135 y138 y151).bind fun bt154 => (if t148 = 0 then (if t150 = 0 then (if t149 = true then (if bt154.2 = 140 then (if (t145.length : Int) = 8 then (if 7 < (t145.length : Int) then (some (((rd_T41 t145 7).f0) == 9 && (((rd_T41 t145 7).f1) == 1 && ((((rd_T41 t145 7).f2).toList) == ([] : List UInt8) && (((rd_T41 t145 7).f3) == 4))))) else (none)) else (none)) else (none)) else (none)) else (none)) else (none))) = some r := by first | (rw [hy151]; with_reducible exact H) | (have H2_ := (Option.bind_some _ _).symm.trans H; rw [hy151]; with_reducible exact H2_) | (have H2_ := (Option.bind_some _ _).symm.trans H; with_reducible exact H2_) | with_reducible exact H | (rw [hy151]; exact H) | exact H
 have Ny151 := zm hy151
 clear hy151
 replace H := Option.bind_eq_some_iff.mp H
 obtain ⟨⟨t154, t157⟩, A30, H⟩ := H
 replace H : (if t148 = 0 then (if t150 = 0 then (if t149 = true then (if t157 = 140 then (if (t145.length : Int) = 8 then (if 7 < (t145.length : Int) then (some (((rd_T41 t145 7).f0) == 9 && (((rd_T41 t145 7).f1) == 1 && ((((rd_T41 t145 7).f2).toList) == ([] : List UInt8) && (((rd_T41 t145 7).f3) == 4))))) else (none)) else (none)) else (none)) else (none)) else (none)) else (none)) = some r := H
 have A3 := zm A30
 clear A30
 by_cases c4 : t148 = 0
 ·rw [if_pos c4] at H
  have c4b0 : (t148 == 0) = true := beq_iff_eq.mpr c4
  have c4b1 : (t148 != 0) = false := bne_eq_false_iff_eq.mpr c4
  clear c4
  by_cases c5 : t150 = 0
  ·rw [if_pos c5] at H
   have c5b0 : (t150 == 0) = true := beq_iff_eq.mpr c5
   have c5b1 : (t150 != 0) = false := bne_eq_false_iff_eq.mpr c5
   clear c5
   by_cases c6 : t149 = true
   ·subst c6
    rw [if_pos rfl] at H
    by_cases c7 : t157 = 140
    ·rw [if_pos c7] at H
     have c7b0 : (t157 == 140) = true := beq_iff_eq.mpr c7
     have c7b1 : (t157 != 140) = false := bne_eq_false_iff_eq.mpr c7
     clear c7
     by_cases c8 : (t145.length : Int) = 8
     ·rw [if_pos c8] at H
      have c8b0 : ((t145.length : Int) == 8) = true := beq_iff_eq.mpr c8
      have c8b1 : ((t145.length : Int) != 8) = false := bne_eq_false_iff_eq.mpr c8
      clear c8
      by_cases c9 : 7 < (t145.length : Int)
      ·rw [if_pos c9] at H
       have c9b0 : decide (7 < (t145.length : Int)) = true := decide_eq_true c9
       have c9b1 : decide (7 < t145.length) = true := decide_eq_true (by omega)
       clear c9
       obtain rfl := Option.some.inj H
       go_enter Try.func8, Try.ntmps8
       go_wp2_with (first | ((with_reducible refine gate_callee (f := 11) rfl ?_); refine goesL_ (some 31) rfl rfl Try.func11 (by kernel_rfl) rfl #[.agg #[.int .i64 20, .slice Ao15 y135.length co15, .slice Ao14 y138.length co14], .slice Ao28 y151.length co28] rfl zP ?_; (with_reducible refine (e_Round.calls k 20 _ _ y135 _ _ y138 _ _ y151 t154 t157 _ ?side1 ?side2 ?side3 ?side4 ?side5 ?side6 A3.out).mono ?_); (case side1 => exact zC ((Kd.S_reads' HO137.out).2.2)); (case side2 => exact (Kd.S_reads' HO137.out).2.1); (case side3 => exact zC ((Kd.S_reads' HO140.out).2.2)); (case side4 => exact (Kd.S_reads' HO140.out).2.1); (case side5 => exact zC ((Kd.R_reads' HO153.out).2.2)); (case side6 => exact (Kd.R_reads' HO153.out).2.1); rintro e w29 ⟨v155, rfl, ho0, hb⟩; refine ⟨_, rfl, ?_⟩; have HO156 := zm (Kd.V_lower (Kd.V_mono (ok' := fun k_ => some k_ ≠ (.slice Ao15 y135.length co15 : Value).ownBlock ∧ some k_ ≠ (.slice Ao14 y138.length co14 : Value).ownBlock ∧ some k_ ≠ (.slice Ao20 y142.length co20 : Value).ownBlock ∧ some k_ ≠ (.slice Ao28 y151.length co28 : Value).ownBlock ∧ k_ ≠ gb141) ho0 (fun k_ hk_ => ⟨(Kd.fresh' (Kd.S_lt (by (with_reducible repeat (first | apply Kd.S_alloc | apply Kd.S_drewN | apply Kd.S_drew)); exact HO137.out)) k_ hk_), (Kd.fresh' (Kd.S_lt (by (with_reducible repeat (first | apply Kd.S_alloc | apply Kd.S_drewN | apply Kd.S_drew)); exact HO140.out)) k_ hk_), (Kd.fresh' (Kd.R_lt (by (with_reducible repeat (first | apply Kd.R_alloc | apply Kd.R_drewN | apply Kd.R_drew)); exact HO144.out)) k_ hk_), (Kd.fresh' (Kd.R_lt (by (with_reducible repeat (first | apply Kd.R_alloc | apply Kd.R_drewN | apply Kd.R_drew)); exact HO153.out)) k_ hk_), (Kd.freshB (g := gb141) (o := .cells #[.int .i64 20, .slice Ao15 y135.length co15, .slice Ao14 y138.length co14] 25 (0, 0)) zK k_ hk_)⟩)) (below_size zG)); replace HO137 := zm (Kd.S_below (by (with_reducible repeat (first | apply Kd.S_alloc | apply Kd.S_drewN | apply Kd.S_drew)); exact HO137.out) hb); replace HO140 := zm (Kd.S_below (by (with_reducible repeat (first | apply Kd.S_alloc | apply Kd.S_drewN | apply Kd.S_drew)); exact HO140.out) hb); replace HO144 := zm (Kd.R_below (by (with_reducible repeat (first | apply Kd.R_alloc | apply Kd.R_drewN | apply Kd.R_drew)); exact HO144.out) hb); replace HO147 := zm (Kd.V_below (by (with_reducible repeat (first | apply Kd.V_alloc | apply Kd.V_drewN | apply Kd.V_drew)); exact HO147.out) hb); replace HO153 := zm (Kd.R_below (by (with_reducible repeat (first | apply Kd.R_alloc | apply Kd.R_drewN | apply Kd.R_drew)); exact HO153.out) hb); replace BK141 := zm (blk_below (g := gb141) zK hb); replace HB := zm (below_step zG hb); (try clear hb); (try clear ho0); have p158 : 0 ≤ (7 : Int) := (by omega); have q158 : 7 < (t145.length : Int) := of_decide_eq_true zA; obtain ⟨ad158, e158, hx158_0, hx158_1, hx158_2, hx158_3⟩ := at_T41 (Kd.V_reads' HO147.out).2.2 7 p158 q158; cases e158; (try simp only [show (7 : Int).toNat = 7 from rfl, Nat.reduceMul, Nat.reduceEqDiff, Go.Addr.add, ↓reduceIte] at hx158_0); (try simp only [show (7 : Int).toNat = 7 from rfl, Nat.reduceMul, Nat.reduceEqDiff, Go.Addr.add, ↓reduceIte] at hx158_1); (try simp only [show (7 : Int).toNat = 7 from rfl, Nat.reduceMul, Nat.reduceEqDiff, Go.Addr.add, ↓reduceIte] at hx158_2); (try simp only [show (7 : Int).toNat = 7 from rfl, Nat.reduceMul, Nat.reduceEqDiff, Go.Addr.add, ↓reduceIte] at hx158_3); have qi158 : (7 < t145.length) = True := eq_true (by omega); (try rw [show ((7 : Int)).toNat = 7 from rfl] at hx158_0); (try rw [show 7 * 4 = 28 from rfl] at hx158_0); (try rw [show ((7 : Int)).toNat = 7 from rfl] at hx158_1); (try rw [show 7 * 4 = 28 from rfl] at hx158_1); (try rw [show ((7 : Int)).toNat = 7 from rfl] at hx158_2); (try rw [show 7 * 4 = 28 from rfl] at hx158_2); (try rw [show ((7 : Int)).toNat = 7 from rfl] at hx158_3); (try rw [show 7 * 4 = 28 from rfl] at hx158_3); replace p158 := eq_true p158; replace q158 := eq_true q158) | ((with_reducible refine gate_dst (N := 30) rfl ?_); (try (refine gate_guard (by rfl) ?_; dsimp only)); refine Kd.R_lit k41 _ 41 ?hg (N := 30) ?hd (xs := ([(⟨0, 0, (⟨#[]⟩ : ByteArray), 0⟩ : S41)] : List (S41))) (inner := [.int .i64 0, .int .i64 0, .string (⟨#[]⟩ : ByteArray), .int .i64 0]) (ok := fun _ => True) (okp := fun _ => True) ?hr ?hp (fun _ hk => hk) trivial (Below.refl _ _) (Nat.le_refl _) (by simp) ?_; (case hd => rfl); (case hg => rfl); (case hr => first | (go_simp; done) | (go_simp; rfl)); (case hp => exact (Reps.c4 (show Kd.M k41 _ _ _ (⟨0, 0, (⟨#[]⟩ : ByteArray), 0⟩ : S41) [.int .i64 0, .int .i64 0, .string (⟨#[]⟩ : ByteArray), .int .i64 0] from (k41_mkM _ _ _ (⟨0, 0, (⟨#[]⟩ : ByteArray), 0⟩ : S41) )) (Reps.none _ _))); intro v152 w26 ho27 hb hg_ hnew_; clear hg_ hnew_; (first | rw [← Ny151.out] at ho27 | (simp only [Int.reduceToNat] at ho27; rw [← Ny151.out] at ho27)); have HO153 := zm (Kd.R_lower (Kd.R_new' ho27 (Kd.R_lt (by (with_reducible repeat (first | apply Kd.R_alloc | apply Kd.R_drewN | apply Kd.R_drew)); exact HO144.out))) (below_size zG)); replace HO137 := zm (Kd.S_below (by (with_reducible repeat (first | apply Kd.S_alloc | apply Kd.S_drewN | apply Kd.S_drew)); exact HO137.out) hb); replace HO140 := zm (Kd.S_below (by (with_reducible repeat (first | apply Kd.S_alloc | apply Kd.S_drewN | apply Kd.S_drew)); exact HO140.out) hb); replace HO144 := zm (Kd.R_elder' (by (with_reducible repeat (first | apply Kd.R_alloc | apply Kd.R_drewN | apply Kd.R_drew)); exact HO144.out) (Kd.R_base ho27) hb); replace HO147 := zm (Kd.V_elder' (by (with_reducible repeat (first | apply Kd.V_alloc | apply Kd.V_drewN | apply Kd.V_drew)); exact HO147.out) (Kd.R_base ho27) hb); replace BK141 := zm (blk_below (g := gb141) zK hb); replace HB := zm (below_step zG hb); clear hb ho27; obtain ⟨Ao28, co28, eo28⟩ := Kd.R_slice HO153.out; subst eo28) | ((with_reducible refine gate_callee (f := 12) rfl ?_); refine goesL_ (some 24) rfl rfl Try.func12 (by kernel_rfl) rfl #[.agg #[.int .i64 20, .slice Ao15 y135.length co15, .slice Ao14 y138.length co14], .slice Ao23 t145.length co23] rfl zP ?_; (with_reducible refine (e_Closed.calls k 20 _ _ y135 _ _ y138 _ _ t145 true t150 _ ?side1 ?side2 ?side3 ?side4 ?side5 ?side6 A2.out).mono ?_); (case side1 => exact zC ((Kd.S_reads' HO137.out).2.2)); (case side2 => exact (Kd.S_reads' HO137.out).2.1); (case side3 => exact zC ((Kd.S_reads' HO140.out).2.2)); (case side4 => exact (Kd.S_reads' HO140.out).2.1); (case side5 => exact zC ((Kd.V_reads' HO147.out).2.2)); (case side6 => exact (Kd.V_reads' HO147.out).2.1); rintro e w24 ⟨rfl, hb⟩; refine ⟨_, rfl, ?_⟩; replace HO137 := zm (Kd.S_below (by (with_reducible repeat (first | apply Kd.S_alloc | apply Kd.S_drewN | apply Kd.S_drew)); exact HO137.out) hb); replace HO140 := zm (Kd.S_below (by (with_reducible repeat (first | apply Kd.S_alloc | apply Kd.S_drewN | apply Kd.S_drew)); exact HO140.out) hb); replace HO144 := zm (Kd.R_below (by (with_reducible repeat (first | apply Kd.R_alloc | apply Kd.R_drewN | apply Kd.R_drew)); exact HO144.out) hb); replace HO147 := zm (Kd.V_below (by (with_reducible repeat (first | apply Kd.V_alloc | apply Kd.V_drewN | apply Kd.V_drew)); exact HO147.out) hb); replace BK141 := zm (blk_below (g := gb141) zK hb); replace HB := zm (below_step zG hb); (try clear hb); obtain ⟨hcz25_0, hcz25_1, hcz25_2, hfz25_0, hfz25_1, hfz25_2⟩ := zd3 BK141.out (.int .i64 20) (.slice Ao15 y135.length co15) (.slice Ao14 y138.length co14)) | ((with_reducible refine gate_callee (f := 11) rfl ?_); refine goesL_ (some 18) rfl rfl Try.func11 (by kernel_rfl) rfl #[.agg #[.int .i64 20, .slice Ao15 y135.length co15, .slice Ao14 y138.length co14], .slice Ao20 y142.length co20] rfl zP ?_; (with_reducible refine (e_Round.calls k 20 _ _ y135 _ _ y138 _ _ y142 t145 t148 _ ?side1 ?side2 ?side3 ?side4 ?side5 ?side6 A1.out).mono ?_); (case side1 => exact zC ((Kd.S_reads' HO137.out).2.2)); (case side2 => exact (Kd.S_reads' HO137.out).2.1); (case side3 => exact zC ((Kd.S_reads' HO140.out).2.2)); (case side4 => exact (Kd.S_reads' HO140.out).2.1); (case side5 => exact zC ((Kd.R_reads' HO144.out).2.2)); (case side6 => exact (Kd.R_reads' HO144.out).2.1); rintro e w21 ⟨v146, rfl, ho0, hb⟩; refine ⟨_, rfl, ?_⟩; have HO147 := zm (Kd.V_lower (Kd.V_mono (ok' := fun k_ => some k_ ≠ (.slice Ao15 y135.length co15 : Value).ownBlock ∧ some k_ ≠ (.slice Ao14 y138.length co14 : Value).ownBlock ∧ some k_ ≠ (.slice Ao20 y142.length co20 : Value).ownBlock ∧ k_ ≠ gb141) ho0 (fun k_ hk_ => ⟨(Kd.fresh' (Kd.S_lt (by (with_reducible repeat (first | apply Kd.S_alloc | apply Kd.S_drewN | apply Kd.S_drew)); exact HO137.out)) k_ hk_), (Kd.fresh' (Kd.S_lt (by (with_reducible repeat (first | apply Kd.S_alloc | apply Kd.S_drewN | apply Kd.S_drew)); exact HO140.out)) k_ hk_), (Kd.fresh' (Kd.R_lt (by (with_reducible repeat (first | apply Kd.R_alloc | apply Kd.R_drewN | apply Kd.R_drew)); exact HO144.out)) k_ hk_), (Kd.freshB (g := gb141) (o := .cells #[.int .i64 20, .slice Ao15 y135.length co15, .slice Ao14 y138.length co14] 25 (0, 0)) zK k_ hk_)⟩)) (below_size zG)); replace HO137 := zm (Kd.S_below (by (with_reducible repeat (first | apply Kd.S_alloc | apply Kd.S_drewN | apply Kd.S_drew)); exact HO137.out) hb); replace HO140 := zm (Kd.S_below (by (with_reducible repeat (first | apply Kd.S_alloc | apply Kd.S_drewN | apply Kd.S_drew)); exact HO140.out) hb); replace HO144 := zm (Kd.R_below (by (with_reducible repeat (first | apply Kd.R_alloc | apply Kd.R_drewN | apply Kd.R_drew)); exact HO144.out) hb); replace BK141 := zm (blk_below (g := gb141) zK hb); replace HB := zm (below_step zG hb); (try clear hb); (try clear ho0); obtain ⟨hcz22_0, hcz22_1, hcz22_2, hfz22_0, hfz22_1, hfz22_2⟩ := zd3 BK141.out (.int .i64 20) (.slice Ao15 y135.length co15) (.slice Ao14 y138.length co14); obtain ⟨Ao23, co23, eo23⟩ := Kd.V_slice HO147.out; subst eo23) | ((with_reducible refine gate_dst (N := 17) rfl ?_); (try (refine gate_guard (by rfl) ?_; dsimp only)); refine Kd.R_lit k41 _ 41 ?hg (N := 17) ?hd (xs := ([(⟨6, 0, (⟨#[]⟩ : ByteArray), 0⟩ : S41), (⟨9, 0, (⟨#[]⟩ : ByteArray), 4⟩ : S41)] : List (S41))) (inner := [.int .i64 6, .int .i64 0, .string (⟨#[]⟩ : ByteArray), .int .i64 0, .int .i64 9, .int .i64 0, .string (⟨#[]⟩ : ByteArray), .int .i64 4]) (ok := fun _ => True) (okp := fun _ => True) ?hr ?hp (fun _ hk => hk) trivial (Below.refl _ _) (Nat.le_refl _) (by simp) ?_; (case hd => rfl); (case hg => rfl); (case hr => first | (go_simp; done) | (go_simp; rfl)); (case hp => exact (Reps.c4 (show Kd.M k41 _ _ _ (⟨6, 0, (⟨#[]⟩ : ByteArray), 0⟩ : S41) [.int .i64 6, .int .i64 0, .string (⟨#[]⟩ : ByteArray), .int .i64 0] from (k41_mkM _ _ _ (⟨6, 0, (⟨#[]⟩ : ByteArray), 0⟩ : S41) )) (Reps.c4 (show Kd.M k41 _ _ _ (⟨9, 0, (⟨#[]⟩ : ByteArray), 4⟩ : S41) [.int .i64 9, .int .i64 0, .string (⟨#[]⟩ : ByteArray), .int .i64 4] from (k41_mkM _ _ _ (⟨9, 0, (⟨#[]⟩ : ByteArray), 4⟩ : S41) )) (Reps.none _ _)))); intro v143 w18 ho19 hb hg_ hnew_; clear hg_ hnew_; (first | rw [← Ny142.out] at ho19 | (simp only [Int.reduceToNat] at ho19; rw [← Ny142.out] at ho19)); have HO144 := zm (Kd.R_lower ho19 (below_size zG)); replace HO137 := zm (Kd.S_below (by (with_reducible repeat (first | apply Kd.S_alloc | apply Kd.S_drewN | apply Kd.S_drew)); exact (Kd.S_mono (Kd.S_far (p := ⟨gb141, 2, none⟩) (Kd.S_far (p := ⟨gb141, 1, none⟩) (Kd.S_far (p := ⟨gb141, 0, none⟩) (Kd.S_types HO137.out BK141.out (by decide)) (fun _ hk => hk.2) (.int .i64 20)) (fun _ hk => hk.2) (.slice Ao15 y135.length co15)) (fun _ hk => hk.2) (.slice Ao14 y138.length co14)) (fun _ h_ => h_.1))) hb); replace HO140 := zm (Kd.S_below (by (with_reducible repeat (first | apply Kd.S_alloc | apply Kd.S_drewN | apply Kd.S_drew)); exact (Kd.S_mono (Kd.S_far (p := ⟨gb141, 2, none⟩) (Kd.S_far (p := ⟨gb141, 1, none⟩) (Kd.S_far (p := ⟨gb141, 0, none⟩) (Kd.S_types HO140.out BK141.out (by decide)) (fun _ hk => hk.2) (.int .i64 20)) (fun _ hk => hk.2) (.slice Ao15 y135.length co15)) (fun _ hk => hk.2) (.slice Ao14 y138.length co14)) (fun _ h_ => h_.1))) hb); replace BK141 := zm (blk_below (g := gb141) (o := .cells #[.int .i64 20, .slice Ao15 y135.length co15, .slice Ao14 y138.length co14] 25 (0, 0)) (by (with_reducible repeat (first | refine blk_drewN ?_ _ | refine blk_drew ?_ | refine blk_alloc ?_ _)); refine blk_put (cs := #[.int .i64 20, .slice Ao15 y135.length co15, .slice none 0 0]) ?_ 2 _ rfl; (with_reducible repeat (first | refine blk_drewN ?_ _ | refine blk_drew ?_ | refine blk_alloc ?_ _)); refine blk_put (cs := #[.int .i64 20, .slice none 0 0, .slice none 0 0]) ?_ 1 _ rfl; (with_reducible repeat (first | refine blk_drewN ?_ _ | refine blk_drew ?_ | refine blk_alloc ?_ _)); refine blk_put (cs := #[.int .i64 0, .slice none 0 0, .slice none 0 0]) ?_ 0 _ rfl; (with_reducible repeat (first | refine blk_drewN ?_ _ | refine blk_drew ?_ | refine blk_alloc ?_ _)); exact BK141.out) hb); replace HB := zm (below_step zG hb); clear hb ho19; obtain ⟨Ao20, co20, eo20⟩ := Kd.R_slice HO144.out; subst eo20) | ((with_reducible refine gate_dst (N := 1) rfl ?_); (try (refine gate_guard (by rfl) ?_; dsimp only)); refine zX (N := 1) (cs := #[.int .i64 0, .slice none 0 0, .slice none 0 0]) (t := 25) (h := ?_); intro gb141 hg w16 hbox hb; have BK141 := zm hbox; have GW141 := zm ((zS : w.heap.size ≤ gb141)); have GE141 := zm ((zS : w.heap.size ≤ gb141)); replace HO137 := zm (Kd.S_below (by (with_reducible repeat (first | apply Kd.S_alloc | apply Kd.S_drewN | apply Kd.S_drew)); exact HO137.out) hb); replace HO140 := zm (Kd.S_below (by (with_reducible repeat (first | apply Kd.S_alloc | apply Kd.S_drewN | apply Kd.S_drew)); exact HO140.out) hb); replace HB := zm (below_step zB hb); clear hb hbox hg; obtain ⟨hcz17_0, hcz17_1, hcz17_2, hfz17_0, hfz17_1, hfz17_2⟩ := zd3 BK141.out (.int .i64 0) (.slice none 0 0) (.slice none 0 0)) | ((with_reducible refine gate_dst (N := 11) rfl ?_); (try (refine gate_guard (by rfl) ?_; dsimp only)); refine Kd.S_lit k46 _ 46 ?hg (N := 11) ?hd (xs := ([(⟨3, 0, 0, 1, 0, 0, 0, (⟨#[]⟩ : ByteArray), ([] : List Int)⟩ : S46)] : List (S46))) (inner := [.int .i64 3, .int .i64 0, .int .i64 0, .int .i64 1, .int .i64 0, .int .i64 0, .int .i64 0, .string (⟨#[]⟩ : ByteArray), .slice none 0 0]) (ok := fun _ => True) (okp := fun _ => True) ?hr ?hp (fun _ hk => hk) trivial (Below.refl _ _) (Nat.le_refl _) (by simp) ?_; (case hd => rfl); (case hg => rfl); (case hr => first | (go_simp; done) | (go_simp; rfl)); (case hp => exact (Reps.c9 (show Kd.M k46 _ _ _ (⟨3, 0, 0, 1, 0, 0, 0, (⟨#[]⟩ : ByteArray), ([] : List Int)⟩ : S46) [.int .i64 3, .int .i64 0, .int .i64 0, .int .i64 1, .int .i64 0, .int .i64 0, .int .i64 0, .string (⟨#[]⟩ : ByteArray), .slice none 0 0] from (k46_mkM _ _ _ (⟨3, 0, 0, 1, 0, 0, 0, (⟨#[]⟩ : ByteArray), ([] : List Int)⟩ : S46) (Kd.R_nil _ _ _ _ _))) (Reps.none _ _))); intro v139 w12 ho13 hb hg_ hnew_; clear hg_ hnew_; (first | rw [← Ny138.out] at ho13 | (simp only [Int.reduceToNat] at ho13; rw [← Ny138.out] at ho13)); have HO140 := zm (Kd.S_lower ho13 (below_size zB)); replace HO137 := zm (Kd.S_below (by (with_reducible repeat (first | apply Kd.S_alloc | apply Kd.S_drewN | apply Kd.S_drew)); exact HO137.out) hb); replace HB := zm (below_step zB hb); clear hb ho13; obtain ⟨Ao14, co14, eo14⟩ := Kd.S_slice HO140.out; subst eo14; obtain ⟨Ao15, co15, eo15⟩ := Kd.S_slice HO137.out; subst eo15) | ((with_reducible refine gate_dst (N := 9) rfl ?_); (try (refine gate_guard (by rfl) ?_; dsimp only)); refine Kd.S_lit k44 _ 44 ?hg (N := 9) ?hd (xs := ([(⟨0, ([] : List Int), 0, 0, 0⟩ : S44)] : List (S44))) (inner := [.int .i64 0, .slice none 0 0, .int .i64 0, .int .i64 0, .int .i64 0]) (ok := fun _ => True) (okp := fun _ => True) ?hr ?hp (fun _ hk => hk) trivial (Below.refl _ _) (Nat.le_refl _) (by simp) ?_; (case hd => rfl); (case hg => rfl); (case hr => first | (go_simp; done) | (go_simp; rfl)); (case hp => exact (Reps.c5 (show Kd.M k44 _ _ _ (⟨0, ([] : List Int), 0, 0, 0⟩ : S44) [.int .i64 0, .slice none 0 0, .int .i64 0, .int .i64 0, .int .i64 0] from (k44_mkM _ _ _ (⟨0, ([] : List Int), 0, 0, 0⟩ : S44) (Kd.R_nil _ _ _ _ _))) (Reps.none _ _))); intro v136 w10 ho11 hb hg_ hnew_; clear hg_ hnew_; (first | rw [← Ny135.out] at ho11 | (simp only [Int.reduceToNat] at ho11; rw [← Ny135.out] at ho11)); have HO137 := zm (Kd.S_lower ho11 (below_size zB)); replace HB := zm (below_step zB hb); clear hb ho11))
       go_ret
       exact ⟨zE, zG⟩
      ·rw [if_neg c9] at H
       exact absurd H (by simp)
     ·rw [if_neg c8] at H
      exact absurd H (by simp)
    ·rw [if_neg c7] at H
     exact absurd H (by simp)
   ·replace c6 := Bool.eq_false_iff.mpr c6
    subst c6
    rw [if_neg (show ¬ (false = true) by decide)] at H
    exact absurd H (by simp)
  ·rw [if_neg c5] at H
   exact absurd H (by simp)
 ·rw [if_neg c4] at H
  exact absurd H (by simp)
end Go.Proofs.Ytngppcmdaanheaa.Pr
namespace Go.Proofs.Ytngppcmdaanheaa.Pr
open Go.RowKit Go.Proofs.YtngppcmdaanheaaW.PrintWords Go.Proofs.YtngppcmdaanheaaW.PrintLast Go.Proofs.YtngppcmdaanheaaW.PrintMore
attribute [local go_sem] max2_int min2_int max_two min_two
set_option linter.unusedVariables false
set_option linter.unusedSimpArgs false
/-! ### l3_Small: function 9 -/
mutual
def l3_Small.j0 : Nat → Bool → Int → List (S44) → List (S46) → Option (Int)
 | 0, _, _, _, _ => none
 | k + 1, x19, x160000, x160001, x160002 => if x19 = true then (some 0) else (l3_Small.l0 k 0 x160000 x160001 x160002)
def l3_Small.l0 : Nat → Int → Int → List (S44) → List (S46) → Option (Int)
 | 0, _, _, _, _ => none
 | k + 1, x3, x160000, x160001, x160002 => if x3 < (x160001.length : Int) then (if 0 ≤ x3 then (if (((rd_T44 x160001 x3).f1).length : Int) > 205 then (some 0) else (l3_Small.l0 k (wrap64 (x3 + 1)) x160000 x160001 x160002)) else (none)) else (l3_Small.l1 k 0 x160000 x160001 x160002)
def l3_Small.l1 : Nat → Int → Int → List (S44) → List (S46) → Option (Int)
 | 0, _, _, _, _ => none
 | k + 1, x4, x160000, x160001, x160002 => if x4 < (x160002.length : Int) then (if 0 ≤ x4 then (if (((rd_T46 x160002 x4).f8).length : Int) > 205 then (l3_Small.j3 k x4 true x160000 x160001 x160002) else (l3_Small.j3 k x4 (decide ((((rd_T46 x160002 x4).f7).size : Int) > 100)) x160000 x160001 x160002)) else (none)) else (some 1)
def l3_Small.j3 : Nat → Int → Bool → Int → List (S44) → List (S46) → Option (Int)
 | 0, _, _, _, _, _ => none
 | k + 1, x4, x59, x160000, x160001, x160002 => if x59 = true then (some 0) else (l3_Small.l1 k (wrap64 (x4 + 1)) x160000 x160001 x160002)
end
def l3_Small.f (k : Nat) (a0_0 : Int) (l0_1 : List (S44)) (l0_2 : List (S46)) : Option (Int) := if (l0_1.length : Int) > 15 then (l3_Small.j0 k true a0_0 l0_1 l0_2) else (if (l0_2.length : Int) > 40 then (l3_Small.j0 k true a0_0 l0_1 l0_2) else (l3_Small.j0 k (decide (a0_0 > 300)) a0_0 l0_1 l0_2))
set_option maxHeartbeats 8000000 in
set_option maxRecDepth 100000 in
theorem l3_Small.calls (k : Nat) (a0_0 : Int) (A0_1 : Option Addr) (c0_1 : Nat) (l0_1 : List (S44)) (A0_2 : Option Addr) (c0_2 : Nat) (l0_2 : List (S46)) (r : Int) (w : World) (hr0_1 : Kd.C k44 w A0_1 l0_1.length l0_1) (hc0_1 : l0_1.length ≤ c0_1) (hr0_2 : Kd.C k46 w A0_2 l0_2.length l0_2) (hc0_2 : l0_2.length ≤ c0_2) (h : l3_Small.f k a0_0 l0_1 l0_2 = some r) :
  Calls Try.prog 9 #[.agg #[.int .i64 a0_0, .slice A0_1 l0_1.length c0_1, .slice A0_2 l0_2.length c0_2]] w fun e w' => e = .returned (.int .i64 r) ∧ Below w.heap.size w w' := by
 have hu25 := Try.underlying25
 have HR0_1 := zm hr0_1
 have HC0_1 := zm hc0_1
 clear hr0_1 hc0_1
 have HR0_2 := zm hr0_2
 have HC0_2 := zm hc0_2
 clear hr0_2 hc0_2
 have HB := zm (Below.refl w.heap.size w)
 have H : (if (l0_1.length : Int) > 15 then (l3_Small.j0 k true a0_0 l0_1 l0_2) else (if (l0_2.length : Int) > 40 then (l3_Small.j0 k true a0_0 l0_1 l0_2) else (l3_Small.j0 k (decide (a0_0 > 300)) a0_0 l0_1 l0_2))) = some r := h
 clear h
 have HC2 := zm H
 clear H
 go_enter Try.func9, Try.ntmps9
 go_upto_region 1 with (first | ((with_reducible refine gate_dst (N := 1) rfl ?_); (try (refine gate_guard (by rfl) ?_; dsimp only)); refine zX (N := 1) (cs := #[.int .i64 a0_0, .slice A0_1 l0_1.length c0_1, .slice A0_2 l0_2.length c0_2]) (t := 25) (h := ?_); intro gb159 hg w3 hbox hb; have BK159 := zm hbox; have GW159 := zm ((zS : w.heap.size ≤ gb159)); have GE159 := zm ((zS : w.heap.size ≤ gb159)); replace HB := zm (below_step zB hb); clear hb hbox hg))
 (try simp only [Act.put, List.setIfInBounds_toArray, List.set_cons_zero, List.set_cons_succ])
 go_cut [19] (fun v19 wc => ∃ (kq : Nat) (x19_1 : Bool), v19 = .bool x19_1 ∧ Aside0 (l3_Small.j0 kq x19_1 a0_0 l0_1 l0_2 = some r) ∧ Aside0 (kq ≤ k) ∧ Aside0 (wc.heap[gb159]? = some (.cells #[.int .i64 a0_0, (.slice A0_1 l0_1.length c0_1), (.slice A0_2 l0_2.length c0_2)] 25 (0, 0))) ∧ Aside0 (Below w.heap.size w wc))
 case first =>
  have H := HC2.out
  clear HC2
  by_cases c4 : (l0_1.length : Int) > 15
  ·rw [if_pos c4] at H
   have c4b0 : decide (15 < (l0_1.length : Int)) = true := decide_eq_true c4
   have c4b1 : decide (15 < l0_1.length) = true := decide_eq_true (by omega)
   clear c4
   (first | rw [c4b0] | (simp only [i64_w, i32_w]; rw [c4b0]) | skip)
   have H' := zm H
   clear H
   obtain ⟨hcz5_0, hcz5_1, hcz5_2, hfz5_0, hfz5_1, hfz5_2⟩ := zd3 BK159.out (.int .i64 a0_0) (.slice A0_1 l0_1.length c0_1) (.slice A0_2 l0_2.length c0_2)
   go_wp2
   go_meet
   case rel => exact ⟨_, (true), zR, H', ⟨by first | omega | exact Nat.le_refl _⟩, ⟨zK⟩, ⟨zG⟩⟩
  ·rw [if_neg c4] at H
   have c4b0 : decide (15 < (l0_1.length : Int)) = false := decide_eq_false c4
   have c4b1 : decide (15 < l0_1.length) = false := decide_eq_false (by omega)
   clear c4
   (first | rw [c4b0] | (simp only [i64_w, i32_w]; rw [c4b0]) | skip)
   by_cases c6 : (l0_2.length : Int) > 40
   ·rw [if_pos c6] at H
    have c6b0 : decide (40 < (l0_2.length : Int)) = true := decide_eq_true c6
    have c6b1 : decide (40 < l0_2.length) = true := decide_eq_true (by omega)
    clear c6
    have H' := zm H
    clear H
    obtain ⟨hcz7_0, hcz7_1, hcz7_2, hfz7_0, hfz7_1, hfz7_2⟩ := zd3 BK159.out (.int .i64 a0_0) (.slice A0_1 l0_1.length c0_1) (.slice A0_2 l0_2.length c0_2)
    go_wp2
    go_meet
    case rel => exact ⟨_, (true), zR, H', ⟨by first | omega | exact Nat.le_refl _⟩, ⟨zK⟩, ⟨zG⟩⟩
   ·rw [if_neg c6] at H
    have c6b0 : decide (40 < (l0_2.length : Int)) = false := decide_eq_false c6
    have c6b1 : decide (40 < l0_2.length) = false := decide_eq_false (by omega)
    clear c6
    have H' := zm H
    clear H
    obtain ⟨hcz8_0, hcz8_1, hcz8_2, hfz8_0, hfz8_1, hfz8_2⟩ := zd3 BK159.out (.int .i64 a0_0) (.slice A0_1 l0_1.length c0_1) (.slice A0_2 l0_2.length c0_2)
    go_wp2
    go_meet
    case rel => exact ⟨_, (decide (a0_0 > 300)), zR, H', ⟨by first | omega | exact Nat.le_refl _⟩, ⟨zK⟩, ⟨zG⟩⟩
 case rest =>
  clear HC2
  obtain ⟨kq, x19_1, rfl, HA, HJ1, BK159, HB⟩ := hcut
  cases kq with
  | zero => exact absurd HA.out (by simp [l3_Small.j0])
  | succ kj1 =>
   have H := HA.out
   clear HA
   simp only [l3_Small.j0] at H
   by_cases c9 : x19_1 = true
   ·subst c9
    rw [if_pos rfl] at H
    obtain rfl := Option.some.inj H
    go_wp2
    go_ret
    exact ⟨zE, zG⟩
   ·replace c9 := Bool.eq_false_iff.mpr c9
    subst c9
    rw [if_neg (show ¬ (false = true) by decide)] at H
    have H' := zm H
    clear H
    go_wp2
    go_loopg [3] kj1 (fun kq v3 w' => ∃ (x3_2 : Int), v3 = .int .i64 x3_2 ∧ Aside0 (l3_Small.l0 kq x3_2 a0_0 l0_1 l0_2 = some r) ∧ Aside0 (kq ≤ kj1) ∧ Aside0 (w'.heap[gb159]? = some (.cells #[.int .i64 a0_0, (.slice A0_1 l0_1.length c0_1), (.slice A0_2 l0_2.length c0_2)] 25 (0, 0))) ∧ Aside0 (Below w.heap.size w w'))
    case atStart => exact ⟨(0), zR, H', ⟨Nat.le_refl _⟩, ⟨zK⟩, ⟨zG⟩⟩
    case round =>
     clear H'
     obtain ⟨x3_2, rfl, HA, HK2, BK159, HB⟩ := hrel
     cases gk with
     | zero => exact absurd HA.out (by simp [l3_Small.l0])
     | succ k2 =>
      have H := HA.out
      clear HA
      simp only [l3_Small.l0] at H
      by_cases c10 : x3_2 < (l0_1.length : Int)
      ·rw [if_pos c10] at H
       have c10b0 : decide (x3_2 < (l0_1.length : Int)) = true := decide_eq_true c10
       clear c10
       by_cases c11 : 0 ≤ x3_2
       ·rw [if_pos c11] at H
        have c11b0 : decide (0 ≤ x3_2) = true := decide_eq_true c11
        clear c11
        by_cases c12 : (((rd_T44 l0_1 x3_2).f1).length : Int) > 205
        ·rw [if_pos c12] at H
         have c12b0 : decide (205 < (((rd_T44 l0_1 x3_2).f1).length : Int)) = true := decide_eq_true c12
         have c12b1 : decide (205 < ((rd_T44 l0_1 x3_2).f1).length) = true := decide_eq_true (by omega)
         clear c12
         obtain rfl := Option.some.inj H
         obtain ⟨hcz13_0, hcz13_1, hcz13_2, hfz13_0, hfz13_1, hfz13_2⟩ := zd3 BK159.out (.int .i64 a0_0) (.slice A0_1 l0_1.length c0_1) (.slice A0_2 l0_2.length c0_2)
         have p160 : 0 ≤ (x3_2 : Int) := of_decide_eq_true zA
         have q160 : x3_2 < (l0_1.length : Int) := of_decide_eq_true zA
         obtain ⟨ad160, A160_1, c160_1, e160, hx160_0, hx160_1, hx160_2, hx160_3, hx160_4, hl160_1, hi160_1⟩ := at_T44 HR0_1.out x3_2 p160 q160
         cases e160
         replace hx160_0 := zH HB.out hx160_0
         replace hx160_1 := zH HB.out hx160_1
         replace hx160_2 := zH HB.out hx160_2
         replace hx160_3 := zH HB.out hx160_3
         replace hx160_4 := zH HB.out hx160_4
         have HR160_1 := zm hi160_1
         have HC160_1 := zm hl160_1
         clear hi160_1 hl160_1
         replace p160 := eq_true p160
         replace q160 := eq_true q160
         go_wp2
         go_ret
         exact ⟨zE, zG⟩
        ·rw [if_neg c12] at H
         have c12b0 : decide (205 < (((rd_T44 l0_1 x3_2).f1).length : Int)) = false := decide_eq_false c12
         have c12b1 : decide (205 < ((rd_T44 l0_1 x3_2).f1).length) = false := decide_eq_false (by omega)
         clear c12
         have H' := zm H
         clear H
         obtain ⟨hcz14_0, hcz14_1, hcz14_2, hfz14_0, hfz14_1, hfz14_2⟩ := zd3 BK159.out (.int .i64 a0_0) (.slice A0_1 l0_1.length c0_1) (.slice A0_2 l0_2.length c0_2)
         have p160 : 0 ≤ (x3_2 : Int) := of_decide_eq_true zA
         have q160 : x3_2 < (l0_1.length : Int) := of_decide_eq_true zA
         obtain ⟨ad160, A160_1, c160_1, e160, hx160_0, hx160_1, hx160_2, hx160_3, hx160_4, hl160_1, hi160_1⟩ := at_T44 HR0_1.out x3_2 p160 q160
         cases e160
         replace hx160_0 := zH HB.out hx160_0
         replace hx160_1 := zH HB.out hx160_1
         replace hx160_2 := zH HB.out hx160_2
         replace hx160_3 := zH HB.out hx160_3
         replace hx160_4 := zH HB.out hx160_4
         have HR160_1 := zm hi160_1
         have HC160_1 := zm hl160_1
         clear hi160_1 hl160_1
         replace p160 := eq_true p160
         replace q160 := eq_true q160
         go_wp2
         go_roundg k2
         case measure => have := HJ1.out; have := HK2.out; omega
         case rel => exact ⟨(wrap64 (x3_2 + 1)), zR, H', ⟨by have := HJ1.out; have := HK2.out; omega⟩, ⟨zK⟩, ⟨zG⟩⟩
       ·rw [if_neg c11] at H
        exact absurd H (by simp)
      ·rw [if_neg c10] at H
       have c10b0 : decide (x3_2 < (l0_1.length : Int)) = false := decide_eq_false c10
       clear c10
       have H' := zm H
       clear H
       obtain ⟨hcz15_0, hcz15_1, hcz15_2, hfz15_0, hfz15_1, hfz15_2⟩ := zd3 BK159.out (.int .i64 a0_0) (.slice A0_1 l0_1.length c0_1) (.slice A0_2 l0_2.length c0_2)
       go_wp2
       go_loopg [4] k2 (fun kq v4 w' => ∃ (x4_3 : Int), v4 = .int .i64 x4_3 ∧ Aside0 (l3_Small.l1 kq x4_3 a0_0 l0_1 l0_2 = some r) ∧ Aside0 (kq ≤ k2) ∧ Aside0 (w'.heap[gb159]? = some (.cells #[.int .i64 a0_0, (.slice A0_1 l0_1.length c0_1), (.slice A0_2 l0_2.length c0_2)] 25 (0, 0))) ∧ Aside0 (Below w.heap.size w w'))
       case atStart => exact ⟨(0), zR, H', ⟨Nat.le_refl _⟩, ⟨zK⟩, ⟨zG⟩⟩
       case round =>
        clear H'
        clear c10b0 hcz15_0 hcz15_1 hcz15_2 hfz15_0 hfz15_1 hfz15_2
        obtain ⟨x4_3, rfl, HA, HK3, BK159, HB⟩ := hrel
        cases gk with
        | zero => exact absurd HA.out (by simp [l3_Small.l1])
        | succ k3 =>
         have H := HA.out
         clear HA
         simp only [l3_Small.l1] at H
         by_cases c16 : x4_3 < (l0_2.length : Int)
         ·rw [if_pos c16] at H
          have c16b0 : decide (x4_3 < (l0_2.length : Int)) = true := decide_eq_true c16
          clear c16
          have HC17 := zm H
          clear H
          obtain ⟨hcz18_0, hcz18_1, hcz18_2, hfz18_0, hfz18_1, hfz18_2⟩ := zd3 BK159.out (.int .i64 a0_0) (.slice A0_1 l0_1.length c0_1) (.slice A0_2 l0_2.length c0_2)
          go_upto_region 11 with (fail)
          go_cut [59] (fun v59 wc => ∃ (kq : Nat) (x59_16 : Bool), v59 = .bool x59_16 ∧ Aside0 (l3_Small.j3 kq x4_3 x59_16 a0_0 l0_1 l0_2 = some r) ∧ Aside0 (kq ≤ k3) ∧ Aside0 (wc.heap[gb159]? = some (.cells #[.int .i64 a0_0, (.slice A0_1 l0_1.length c0_1), (.slice A0_2 l0_2.length c0_2)] 25 (0, 0))) ∧ Aside0 (Below w.heap.size w wc))
          case first =>
           have H := HC17.out
           clear HC17
           by_cases c19 : 0 ≤ x4_3
           ·rw [if_pos c19] at H
            have c19b0 : decide (0 ≤ x4_3) = true := decide_eq_true c19
            clear c19
            (first | rw [c19b0] | (simp only [i64_w, i32_w]; rw [c19b0]) | skip)
            by_cases c20 : (((rd_T46 l0_2 x4_3).f8).length : Int) > 205
            ·rw [if_pos c20] at H
             have c20b0 : decide (205 < (((rd_T46 l0_2 x4_3).f8).length : Int)) = true := decide_eq_true c20
             have c20b1 : decide (205 < ((rd_T46 l0_2 x4_3).f8).length) = true := decide_eq_true (by omega)
             clear c20
             have H' := zm H
             clear H
             obtain ⟨hcz21_0, hcz21_1, hcz21_2, hfz21_0, hfz21_1, hfz21_2⟩ := zd3 BK159.out (.int .i64 a0_0) (.slice A0_1 l0_1.length c0_1) (.slice A0_2 l0_2.length c0_2)
             have p161 : 0 ≤ (x4_3 : Int) := of_decide_eq_true zA
             have q161 : x4_3 < (l0_2.length : Int) := of_decide_eq_true zA
             obtain ⟨ad161, A161_8, c161_8, e161, hx161_0, hx161_1, hx161_2, hx161_3, hx161_4, hx161_5, hx161_6, hx161_7, hx161_8, hl161_8, hi161_8⟩ := at_T46 HR0_2.out x4_3 p161 q161
             cases e161
             replace hx161_0 := zH HB.out hx161_0
             replace hx161_1 := zH HB.out hx161_1
             replace hx161_2 := zH HB.out hx161_2
             replace hx161_3 := zH HB.out hx161_3
             replace hx161_4 := zH HB.out hx161_4
             replace hx161_5 := zH HB.out hx161_5
             replace hx161_6 := zH HB.out hx161_6
             replace hx161_7 := zH HB.out hx161_7
             replace hx161_8 := zH HB.out hx161_8
             have HR161_8 := zm hi161_8
             have HC161_8 := zm hl161_8
             clear hi161_8 hl161_8
             replace p161 := eq_true p161
             replace q161 := eq_true q161
             go_wp2
             go_meet
             case rel => exact ⟨_, (true), zR, H', ⟨by have := HJ1.out; have := HK2.out; have := HK3.out; first | omega | exact Nat.le_refl _⟩, ⟨zK⟩, ⟨zG⟩⟩
            ·rw [if_neg c20] at H
             have c20b0 : decide (205 < (((rd_T46 l0_2 x4_3).f8).length : Int)) = false := decide_eq_false c20
             have c20b1 : decide (205 < ((rd_T46 l0_2 x4_3).f8).length) = false := decide_eq_false (by omega)
             clear c20
             have H' := zm H
             clear H
             obtain ⟨hcz22_0, hcz22_1, hcz22_2, hfz22_0, hfz22_1, hfz22_2⟩ := zd3 BK159.out (.int .i64 a0_0) (.slice A0_1 l0_1.length c0_1) (.slice A0_2 l0_2.length c0_2)
             have p161 : 0 ≤ (x4_3 : Int) := of_decide_eq_true zA
             have q161 : x4_3 < (l0_2.length : Int) := of_decide_eq_true zA
             obtain ⟨ad161, A161_8, c161_8, e161, hx161_0, hx161_1, hx161_2, hx161_3, hx161_4, hx161_5, hx161_6, hx161_7, hx161_8, hl161_8, hi161_8⟩ := at_T46 HR0_2.out x4_3 p161 q161
             cases e161
             replace hx161_0 := zH HB.out hx161_0
             replace hx161_1 := zH HB.out hx161_1
             replace hx161_2 := zH HB.out hx161_2
             replace hx161_3 := zH HB.out hx161_3
             replace hx161_4 := zH HB.out hx161_4
             replace hx161_5 := zH HB.out hx161_5
             replace hx161_6 := zH HB.out hx161_6
             replace hx161_7 := zH HB.out hx161_7
             replace hx161_8 := zH HB.out hx161_8
             have HR161_8 := zm hi161_8
             have HC161_8 := zm hl161_8
             clear hi161_8 hl161_8
             replace p161 := eq_true p161
             replace q161 := eq_true q161
             have p162 : 0 ≤ (x4_3 : Int) := of_decide_eq_true zA
             have q162 : x4_3 < (l0_2.length : Int) := of_decide_eq_true zA
             obtain ⟨ad162, A162_8, c162_8, e162, hx162_0, hx162_1, hx162_2, hx162_3, hx162_4, hx162_5, hx162_6, hx162_7, hx162_8, hl162_8, hi162_8⟩ := at_T46 HR0_2.out x4_3 p162 q162
             obtain rfl : ad161 = ad162 := (by injection e162)
             replace hx162_0 := zH HB.out hx162_0
             replace hx162_1 := zH HB.out hx162_1
             replace hx162_2 := zH HB.out hx162_2
             replace hx162_3 := zH HB.out hx162_3
             replace hx162_4 := zH HB.out hx162_4
             replace hx162_5 := zH HB.out hx162_5
             replace hx162_6 := zH HB.out hx162_6
             replace hx162_7 := zH HB.out hx162_7
             replace hx162_8 := zH HB.out hx162_8
             have HR162_8 := zm hi162_8
             have HC162_8 := zm hl162_8
             clear hi162_8 hl162_8
             replace p162 := eq_true p162
             replace q162 := eq_true q162
             have ea_ := Option.some.inj (hx161_8.symm.trans hx162_8)
             injection ea_ with ea_ en_ ec_
             subst ea_
             subst ec_
             clear en_
             go_wp2
             go_meet
             case rel => exact ⟨_, (decide ((((rd_T46 l0_2 x4_3).f7).size : Int) > 100)), zR, H', ⟨by have := HJ1.out; have := HK2.out; have := HK3.out; first | omega | exact Nat.le_refl _⟩, ⟨zK⟩, ⟨zG⟩⟩
           ·rw [if_neg c19] at H
            exact absurd H (by simp)
          case rest =>
           clear HC17
           clear c16b0 hcz18_0 hcz18_1 hcz18_2 hfz18_0 hfz18_1 hfz18_2
           obtain ⟨kq, x59_16, rfl, HA, HJ16, BK159, HB⟩ := hcut
           cases kq with
           | zero => exact absurd HA.out (by simp [l3_Small.j3])
           | succ kj16 =>
            have H := HA.out
            clear HA
            simp only [l3_Small.j3] at H
            by_cases c23 : x59_16 = true
            ·subst c23
             rw [if_pos rfl] at H
             obtain rfl := Option.some.inj H
             go_wp2
             go_ret
             exact ⟨zE, zG⟩
            ·replace c23 := Bool.eq_false_iff.mpr c23
             subst c23
             rw [if_neg (show ¬ (false = true) by decide)] at H
             have H' := zm H
             clear H
             go_wp2
             go_roundg kj16
             case measure => have := HJ1.out; have := HK2.out; have := HK3.out; have := HJ16.out; omega
             case rel => exact ⟨(wrap64 (x4_3 + 1)), zR, H', ⟨by have := HJ1.out; have := HK2.out; have := HK3.out; have := HJ16.out; omega⟩, ⟨zK⟩, ⟨zG⟩⟩
         ·rw [if_neg c16] at H
          have c16b0 : decide (x4_3 < (l0_2.length : Int)) = false := decide_eq_false c16
          clear c16
          obtain rfl := Option.some.inj H
          obtain ⟨hcz24_0, hcz24_1, hcz24_2, hfz24_0, hfz24_1, hfz24_2⟩ := zd3 BK159.out (.int .i64 a0_0) (.slice A0_1 l0_1.length c0_1) (.slice A0_2 l0_2.length c0_2)
          go_wp2
          go_ret
          exact ⟨zE, zG⟩
end Go.Proofs.Ytngppcmdaanheaa.Pr
namespace Go.Proofs.Ytngppcmdaanheaa.Pr
open Go.RowKit Go.Proofs.YtngppcmdaanheaaW.PrintWords Go.Proofs.YtngppcmdaanheaaW.PrintLast Go.Proofs.YtngppcmdaanheaaW.PrintMore
attribute [local go_sem] max2_int min2_int max_two min_two
set_option linter.unusedVariables false
set_option linter.unusedSimpArgs false
/-! ### l4_few: function 10 -/
def l4_few.f (l0 : List (S41)) : Option ((List (S41))) := if 0 ≤ (mn (l0.length : Int) 60) then (if (mn (l0.length : Int) 60) ≤ (l0.length : Int) then (some (l0.take ((mn (l0.length : Int) 60) : Int).toNat)) else (none)) else (none)
set_option maxHeartbeats 8000000 in
set_option maxRecDepth 100000 in
theorem l4_few.calls (P0_ : Nat → Prop) (A0 : Option Addr) (c0 : Nat) (l0 : List (S41)) (r : List (S41)) (w : World) (hs0 : Kd.V k41 41 w w.heap.size (fun k_ => P0_ k_) (.slice A0 l0.length c0) l0) (h : l4_few.f l0 = some r) :
  Calls Try.prog 10 #[.slice A0 l0.length c0] w fun e w' => ∃ v0_ : Value, e = .returned (v0_) ∧ Kd.V k41 41 w' w.heap.size (fun k_ => (P0_ k_ ∨ w.heap.size ≤ k_)) v0_ r ∧ Below w.heap.size w w' := by
 have HO0 := zm (show Kd.V k41 41 w w.heap.size (fun k_ => (P0_ k_ ∨ w.heap.size ≤ k_)) (.slice A0 l0.length c0) l0 from Kd.V_mono hs0 (fun k_ hk => .inl hk))
 have HB := zm (Below.refl w.heap.size w)
 have H : (if 0 ≤ (mn (l0.length : Int) 60) then (if (mn (l0.length : Int) 60) ≤ (l0.length : Int) then (some (l0.take ((mn (l0.length : Int) 60) : Int).toNat)) else (none)) else (none)) = some r := h
 clear h
 obtain ⟨ji2, hji2⟩ : ∃ j_ : Int, (mn (l0.length : Int) 60) = j_ := ⟨_, rfl⟩
 replace H : (if 0 ≤ (ji2) then (if (ji2) ≤ (l0.length : Int) then (some (l0.take ((ji2) : Int).toNat)) else (none)) else (none)) = some r := by first | (rw [hji2] at H; exact H) | (simp only [hji2] at H ⊢; exact H)
 (try (have hji2h : ji2 ≤ 60 := by (rw [← hji2]; unfold mn; (repeat' split) <;> omega)))
 (try (have hji2g : ji2 ≤ 64 := by omega))
 (try (have hji2l : 0 ≤ ji2 := by (rw [← hji2]; unfold mn; (repeat' split) <;> omega)))
 (try (have hji2m : 0 ≤ ji2 := by omega))
 have hji2_ : (if 60 < (l0.length : Int) then 60 else (l0.length : Int)) = ji2 := hji2
 by_cases c3 : 0 ≤ (ji2)
 ·rw [if_pos c3] at H
  have c3b0 := eq_true c3
  have c3b1 : decide (0 ≤ (ji2)) = true := decide_eq_true c3
  clear c3
  by_cases c4 : (ji2) ≤ (l0.length : Int)
  ·rw [if_pos c4] at H
   have c4b0 := eq_true c4
   have c4b1 : decide ((ji2) ≤ (l0.length : Int)) = true := decide_eq_true c4
   clear c4
   obtain ⟨y163, hy163⟩ : ∃ y_ : List (S41), y_ = (l0.take ((ji2) : Int).toNat) := ⟨_, rfl⟩
   replace H : (some y163) = some r := by first | (rw [hy163]; with_reducible exact H) | (have H2_ := (Option.bind_some _ _).symm.trans H; rw [hy163]; with_reducible exact H2_) | (have H2_ := (Option.bind_some _ _).symm.trans H; with_reducible exact H2_) | with_reducible exact H | (rw [hy163]; exact H) | exact H
   have Ny163 := zm hy163
   clear hy163
   obtain rfl := Option.some.inj H
   have q5 : ((ji2) : Int) ≤ ((l0.length : Int) : Int) := of_decide_eq_true zA
   obtain ⟨i05, hi05, _, hsz5, _⟩ := info_parts info41
   have hroom5 : l0.length ≤ c0 := (Kd.V_reads' HO0.out).2.1
   have hC5 : Kd.F k41 _ _ A0 l0.length l0 := (Kd.V_at (base := w.heap.size) HO0.out).2.2
   have hcut5 := cut_to (P := Try.prog) 26 41 .i64 Try.underlying26 hi05 A0 l0.length c0 (ji2) (of_decide_eq_true zA) q5 hroom5
   have hr5 := Kd.F_take (m := ((ji2) : Int).toNat) hC5 (by omega)
   have hy5 : y163.length = ((ji2) : Int).toNat := (by rw [Ny163.out, List.length_take]; omega)
   rw [← Ny163.out] at hr5
   rw [← hy5] at hcut5
   have HO167 := zm (show Kd.V k41 41 _ w.heap.size _ (.slice A0 y163.length c0) y163 from Kd.V_mk (by omega) hr5)
   have HC167 := zm (show y163.length ≤ c0 from by omega)
   clear hr5 hC5 hroom5 hi05 hsz5
   have KY5 := zm hy5
   clear hy5
   replace q5 := eq_true q5
   go_enter Try.func10, Try.ntmps10
   go_wp2
   go_ret
   exact ⟨_, by first | rfl | (simp [errW_none, errW_some] <;> rfl) | (simp only [← hji2]; first | rfl | (simp [errW_none, errW_some] <;> rfl)) | (simp [*, errW_none, errW_some] <;> rfl) | (simp [*, errW_none, errW_some]; exact (fun (l_ : List UInt8) => (by cases l_ <;> rfl : l_.isEmpty = !(l_ != []))) _), by (with_reducible repeat (first | apply Kd.V_alloc | apply Kd.V_drewN | apply Kd.V_drew)); exact HO167.out, zB⟩
  ·rw [if_neg c4] at H
   exact absurd H (by simp)
 ·rw [if_neg c3] at H
  exact absurd H (by simp)
end Go.Proofs.Ytngppcmdaanheaa.Pr
namespace Go.Proofs.Ytngppcmdaanheaa.Pr
open Go.RowKit Go.Proofs.Ytngppcmdaanheaa.Ls Go.Proofs.Ytngppcmdaanheaa.Va Go.Proofs.YtngppcmdaanheaaW.PrintWords Go.Proofs.YtngppcmdaanheaaW.PrintLast Go.Proofs.YtngppcmdaanheaaW.PrintMore
attribute [local go_sem] max2_int min2_int max_two min_two
set_option linter.unusedVariables false
set_option linter.unusedSimpArgs false
/-! ### e_Right: function 17 -/
def e_Right.f (k : Nat) (a0_0 : Int) (l0_1 : List (S44)) (l0_2 : List (S46)) (l1 : List (S41)) : Option (Bool) := (v_Right.f a0_0 l0_1 l0_2).bind fun t213 => (if t213 = true then ((e_areRight.f k a0_0 l0_1 l0_2 l1).bind fun t214 => (some t214)) else (some false))
set_option maxHeartbeats 8000000 in
set_option maxRecDepth 100000 in
theorem e_Right.calls (k : Nat) (a0_0 : Int) (A0_1 : Option Addr) (c0_1 : Nat) (l0_1 : List (S44)) (A0_2 : Option Addr) (c0_2 : Nat) (l0_2 : List (S46)) (A1 : Option Addr) (c1 : Nat) (l1 : List (S41)) (r : Bool) (w : World) (hr0_1 : Kd.C k44 w A0_1 l0_1.length l0_1) (hc0_1 : l0_1.length ≤ c0_1) (hr0_2 : Kd.C k46 w A0_2 l0_2.length l0_2) (hc0_2 : l0_2.length ≤ c0_2) (hr1 : Kd.C k41 w A1 l1.length l1) (hc1 : l1.length ≤ c1) (h : e_Right.f k a0_0 l0_1 l0_2 l1 = some r) :
  Calls Try.prog 17 #[.agg #[.int .i64 a0_0, .slice A0_1 l0_1.length c0_1, .slice A0_2 l0_2.length c0_2], .slice A1 l1.length c1] w fun e w' => e = .returned (.bool r) ∧ Below w.heap.size w w' := by
 have hu25 := Try.underlying25
 have HR0_1 := zm hr0_1
 have HC0_1 := zm hc0_1
 clear hr0_1 hc0_1
 have HR0_2 := zm hr0_2
 have HC0_2 := zm hc0_2
 clear hr0_2 hc0_2
 have HR1 := zm hr1
 have HC1 := zm hc1
 clear hr1 hc1
 have HB := zm (Below.refl w.heap.size w)
 have H : ((v_Right.f a0_0 l0_1 l0_2).bind fun t213 => (if t213 = true then ((e_areRight.f k a0_0 l0_1 l0_2 l1).bind fun t214 => (some t214)) else (some false))) = some r := h
 clear h
 obtain ⟨t213, A3, H⟩ := zO H
 by_cases c4 : t213 = true
 ·subst c4
  rw [if_pos rfl] at H
  obtain ⟨t214, A5, H⟩ := zO H
  obtain rfl := Option.some.inj H
  go_enter Try.func17, Try.ntmps17
  go_wp2_with (first | ((with_reducible refine gate_dst (N := 2) rfl ?_); refine zX (N := 2) (cs := #[.int .i64 a0_0, .slice A0_1 l0_1.length c0_1, .slice A0_2 l0_2.length c0_2]) (t := 25) (h := ?_); intro gb212 hg w6 hbox hb; have BK212 := zm hbox; have GW212 := zm ((zS : w.heap.size ≤ gb212)); have GE212 := zm ((zS : w.heap.size ≤ gb212)); replace HB := zm (below_step zB hb); clear hb hbox hg; obtain ⟨hcz7_0, hcz7_1, hcz7_2, hfz7_0, hfz7_1, hfz7_2⟩ := zd3 BK212.out (.int .i64 a0_0) (.slice A0_1 l0_1.length c0_1) (.slice A0_2 l0_2.length c0_2)) | ((with_reducible refine gate_callee (f := 32) rfl ?_); refine goesL_ (some 6) rfl rfl Try.func32 (by kernel_rfl) rfl #[.agg #[.int .i64 a0_0, .slice A0_1 l0_1.length c0_1, .slice A0_2 l0_2.length c0_2]] rfl zP ?_; (with_reducible refine (v_Right.calls a0_0 _ _ l0_1 _ _ l0_2 true _ ?side1 ?side2 ?side3 ?side4 A3.out).mono ?_); (case side1 => exact zC (Kd.C_below HR0_1.out HB.out)); (case side2 => exact HC0_1.out); (case side3 => exact zC (Kd.C_below HR0_2.out HB.out)); (case side4 => exact HC0_2.out); rintro e w8 ⟨rfl, hb⟩; refine ⟨_, rfl, ?_⟩; replace BK212 := zm (blk_below (g := gb212) zK hb); replace HB := zm (below_step zG hb); (try clear hb); obtain ⟨hcz9_0, hcz9_1, hcz9_2, hfz9_0, hfz9_1, hfz9_2⟩ := zd3 BK212.out (.int .i64 a0_0) (.slice A0_1 l0_1.length c0_1) (.slice A0_2 l0_2.length c0_2)) | (go_at_call 33; (with_reducible refine (e_areRight.calls k a0_0 _ _ l0_1 _ _ l0_2 _ _ l1 t214 _ ?side1 ?side2 ?side3 ?side4 ?side5 ?side6 A5.out).mono ?_); (case side1 => exact zC (Kd.C_below HR0_1.out HB.out)); (case side2 => exact HC0_1.out); (case side3 => exact zC (Kd.C_below HR0_2.out HB.out)); (case side4 => exact HC0_2.out); (case side5 => exact zC (Kd.C_below HR1.out HB.out)); (case side6 => exact HC1.out); rintro e w10 ⟨rfl, hb⟩; replace BK212 := zm (blk_below (g := gb212) zK hb); replace HB := zm (below_step zG hb); (try clear hb)))
  go_ret
  exact ⟨zE, zG⟩
 ·replace c4 := Bool.eq_false_iff.mpr c4
  subst c4
  rw [if_neg (show ¬ (false = true) by decide)] at H
  obtain rfl := Option.some.inj H
  go_enter Try.func17, Try.ntmps17
  go_wp2_with (first | ((with_reducible refine gate_dst (N := 2) rfl ?_); refine zX (N := 2) (cs := #[.int .i64 a0_0, .slice A0_1 l0_1.length c0_1, .slice A0_2 l0_2.length c0_2]) (t := 25) (h := ?_); intro gb212 hg w11 hbox hb; have BK212 := zm hbox; have GW212 := zm ((zS : w.heap.size ≤ gb212)); have GE212 := zm ((zS : w.heap.size ≤ gb212)); replace HB := zm (below_step zB hb); clear hb hbox hg; obtain ⟨hcz12_0, hcz12_1, hcz12_2, hfz12_0, hfz12_1, hfz12_2⟩ := zd3 BK212.out (.int .i64 a0_0) (.slice A0_1 l0_1.length c0_1) (.slice A0_2 l0_2.length c0_2)) | ((with_reducible refine gate_callee (f := 32) rfl ?_); refine goesL_ (some 6) rfl rfl Try.func32 (by kernel_rfl) rfl #[.agg #[.int .i64 a0_0, .slice A0_1 l0_1.length c0_1, .slice A0_2 l0_2.length c0_2]] rfl zP ?_; (with_reducible refine (v_Right.calls a0_0 _ _ l0_1 _ _ l0_2 false _ ?side1 ?side2 ?side3 ?side4 A3.out).mono ?_); (case side1 => exact zC (Kd.C_below HR0_1.out HB.out)); (case side2 => exact HC0_1.out); (case side3 => exact zC (Kd.C_below HR0_2.out HB.out)); (case side4 => exact HC0_2.out); rintro e w13 ⟨rfl, hb⟩; refine ⟨_, rfl, ?_⟩; replace BK212 := zm (blk_below (g := gb212) zK hb); replace HB := zm (below_step zG hb); (try clear hb)))
  go_ret
  exact ⟨zE, zG⟩
end Go.Proofs.Ytngppcmdaanheaa.Pr
namespace Go.Proofs.Ytngppcmdaanheaa.Pr
open Go.RowKit Go.Proofs.Ytngppcmdaanheaa.Ls Go.Proofs.Ytngppcmdaanheaa.Va Go.Proofs.YtngppcmdaanheaaW.PrintWords Go.Proofs.YtngppcmdaanheaaW.PrintLast Go.Proofs.YtngppcmdaanheaaW.PrintMore
attribute [local go_sem] max2_int min2_int max_two min_two
set_option linter.unusedVariables false
set_option linter.unusedSimpArgs false
/-! ### l4_LeastAdds: function 7 -/
mutual
def l4_LeastAdds.j0 : Nat → List (S41) → Bool → Bool → Int → List (S44) → List (S46) → Option (Bool)
 | 0, _, _, _, _, _, _ => none
 | k + 1, x1, x5, x27, x272000, x272001, x272002 => if x27 = true then (some x5) else ((e_Round.f k x272000 x272001 ([] : List (S46)) ([] : List (S41))).bind fun bt279 => (l4_LeastAdds.l0 k x1 x5 bt279.1 bt279.2 ([] : List (S41)) 0 x272000 x272001 x272002 x272000 x272001))
def l4_LeastAdds.l0 : Nat → List (S41) → Bool → List (S41) → Int → List (S41) → Int → Int → List (S44) → List (S46) → Int → List (S44) → Option (Bool)
 | 0, _, _, _, _, _, _, _, _, _, _, _ => none
 | k + 1, x1, x5, x7, x8, x9, x10, x272000, x272001, x272002, x279000, x279001 => if x10 < (x1.length : Int) then (if 0 ≤ x10 then (if ((rd_T41 x1 x10).f0) = 5 then (l4_LeastAdds.l0 k x1 x5 x7 x8 x9 (wrap64 (x10 + 1)) x272000 x272001 x272002 x279000 x279001) else (if x9.length < 3518437208883 then (l4_LeastAdds.l0 k x1 x5 x7 x8 (x9 ++ [(⟨(rd_T41 x1 x10).f0, (rd_T41 x1 x10).f1, (rd_T41 x1 x10).f2, (rd_T41 x1 x10).f3⟩ : S41)]) (wrap64 (x10 + 1)) x272000 x272001 x272002 x279000 x279001) else (none))) else (none)) else ((e_Round.f k x279000 x279001 ([] : List (S46)) x9).bind fun bt288 => ((e_Round.f k x272000 x272001 x272002 x9).bind fun bt292 => (if x8 = 0 then (if bt288.2 = 0 then (if bt292.2 = 0 then (if (x7.length : Int) = 6 then ((e_Within.f x9 bt288.1).bind fun t296 => (if t296 = true then ((e_Within.f x7 bt288.1).bind fun t297 => (if t297 = true then ((e_Within.f bt288.1 bt292.1).bind fun t298 => (l4_LeastAdds.j2 k x5 x7 x9 bt288.1 (!t298))) else (l4_LeastAdds.j2 k x5 x7 x9 bt288.1 true))) else (l4_LeastAdds.j2 k x5 x7 x9 bt288.1 true))) else (l4_LeastAdds.j2 k x5 x7 x9 bt288.1 true)) else (l4_LeastAdds.j2 k x5 x7 x9 bt288.1 true)) else (l4_LeastAdds.j2 k x5 x7 x9 bt288.1 true)) else (l4_LeastAdds.j2 k x5 x7 x9 bt288.1 true))))
def l4_LeastAdds.j2 : Nat → Bool → List (S41) → List (S41) → List (S41) → Bool → Option (Bool)
 | 0, _, _, _, _, _ => none
 | k + 1, x5, x7, x9, x11, x99 => if x99 = true then (some false) else (l4_LeastAdds.l1 k x5 x7 x9 x11 0)
def l4_LeastAdds.l1 : Nat → Bool → List (S41) → List (S41) → List (S41) → Int → Option (Bool)
 | 0, _, _, _, _, _ => none
 | k + 1, x5, x7, x9, x11, x15 => if x15 < (x11.length : Int) then (if 0 ≤ x15 then (if x15 ≤ (wrap64 (x15 + 1)) then (if (wrap64 (x15 + 1)) ≤ (x11.length : Int) then ((e_Within.f ((x11.take ((wrap64 (x15 + 1)) : Int).toNat).drop (x15 : Int).toNat) x9).bind fun t304 => (if t304 = true then (l4_LeastAdds.j4 k x5 x7 x9 x11 x15 false) else ((e_Within.f ((x11.take ((wrap64 (x15 + 1)) : Int).toNat).drop (x15 : Int).toNat) x7).bind fun t310 => (l4_LeastAdds.j4 k x5 x7 x9 x11 x15 (!t310))))) else (none)) else (none)) else (none)) else (some x5)
def l4_LeastAdds.j4 : Nat → Bool → List (S41) → List (S41) → List (S41) → Int → Bool → Option (Bool)
 | 0, _, _, _, _, _, _ => none
 | k + 1, x5, x7, x9, x11, x15, x123 => if x123 = true then (some false) else (l4_LeastAdds.l1 k x5 x7 x9 x11 (wrap64 (x15 + 1)))
end
def l4_LeastAdds.f (k : Nat) (a0_0 : Int) (l0_1 : List (S44)) (l0_2 : List (S46)) (l1 : List (S41)) : Option (Bool) := (l4_shown.f k).bind fun t272 => ((l4_few.f l1).bind fun t273 => ((l3_Small.f k a0_0 l0_1 l0_2).bind fun t276 => (if t276 = 0 then (l4_LeastAdds.j0 k t273 t272 true a0_0 l0_1 l0_2) else ((e_Right.f k a0_0 l0_1 l0_2 t273).bind fun t277 => (l4_LeastAdds.j0 k t273 t272 (!t277) a0_0 l0_1 l0_2)))))
set_option maxHeartbeats 8000000 in
set_option maxRecDepth 100000 in
theorem l4_LeastAdds.calls (k : Nat) (a0_0 : Int) (A0_1 : Option Addr) (c0_1 : Nat) (l0_1 : List (S44)) (A0_2 : Option Addr) (c0_2 : Nat) (l0_2 : List (S46)) (A1 : Option Addr) (c1 : Nat) (l1 : List (S41)) (r : Bool) (w : World) (hr0_1 : Kd.C k44 w A0_1 l0_1.length l0_1) (hc0_1 : l0_1.length ≤ c0_1) (hr0_2 : Kd.C k46 w A0_2 l0_2.length l0_2) (hc0_2 : l0_2.length ≤ c0_2) (hr1 : Kd.C k41 w A1 l1.length l1) (hc1 : l1.length ≤ c1) (h : l4_LeastAdds.f k a0_0 l0_1 l0_2 l1 = some r) :
  Calls Try.prog 7 #[.agg #[.int .i64 a0_0, .slice A0_1 l0_1.length c0_1, .slice A0_2 l0_2.length c0_2], .slice A1 l1.length c1] w fun e w' => e = .returned (.bool r) ∧ Below w.heap.size w w' := by
 have hu25 := Try.underlying25
 have hu41 := Try.underlying41
 have HR0_1 := zm hr0_1
 have HC0_1 := zm hc0_1
 clear hr0_1 hc0_1
 have HR0_2 := zm hr0_2
 have HC0_2 := zm hc0_2
 clear hr0_2 hc0_2
 have HR1 := zm hr1
 have HC1 := zm hc1
 clear hr1 hc1
 have HB := zm (Below.refl w.heap.size w)
 have H : ((l4_shown.f k).bind fun t272 => ((l4_few.f l1).bind fun t273 => ((l3_Small.f k a0_0 l0_1 l0_2).bind fun t276 => (if t276 = 0 then (l4_LeastAdds.j0 k t273 t272 true a0_0 l0_1 l0_2) else ((e_Right.f k a0_0 l0_1 l0_2 t273).bind fun t277 => (l4_LeastAdds.j0 k t273 t272 (!t277) a0_0 l0_1 l0_2)))))) = some r := h
 clear h
 obtain ⟨t272, A3, H⟩ := zO H
 obtain ⟨t273, A4, H⟩ := zO H
 have HC5 := zm H
 clear H
 go_enter Try.func7, Try.ntmps7
 go_upto_region 3 with (first | ((with_reducible refine gate_dst (N := 2) rfl ?_); (try (refine gate_guard (by rfl) ?_; dsimp only)); refine zX (N := 2) (cs := #[.int .i64 a0_0, .slice A0_1 l0_1.length c0_1, .slice A0_2 l0_2.length c0_2]) (t := 25) (h := ?_); intro gb271 hg w6 hbox hb; have BK271 := zm hbox; have GW271 := zm ((zS : w.heap.size ≤ gb271)); have GE271 := zm ((zS : w.heap.size ≤ gb271)); replace HB := zm (below_step zB hb); clear hb hbox hg) | ((with_reducible refine gate_callee (f := 8) rfl ?_); refine goesL_ (some 16) rfl rfl Try.func8 (by kernel_rfl) rfl #[] rfl zP ?_; (with_reducible refine (l4_shown.calls k  t272 _ A3.out).mono ?_); rintro e w7 ⟨rfl, hb⟩; refine ⟨_, rfl, ?_⟩; replace BK271 := zm (blk_below (g := gb271) zK hb); replace HB := zm (below_step zG hb); (try clear hb)) | ((with_reducible refine gate_callee (f := 10) rfl ?_); refine goesL_ (some 18) rfl rfl Try.func10 (by kernel_rfl) rfl #[.slice A1 l1.length c1] rfl zP ?_; (with_reducible refine (l4_few.calls (fun k_ => k_ < w.heap.size) _ _ l1 t273 _ ?side1 A4.out).mono ?_); (case side1 => exact Kd.V_mk HC1.out (Kd.F_below (Kd.C_F k41_heap HR1.out) zG)); rintro e w8 ⟨v274, rfl, ho0, hb⟩; refine ⟨_, rfl, ?_⟩; have HO275 := zm (Kd.V_lower (Kd.V_mono (ok' := fun k_ => k_ ≠ gb271) ho0 (fun k_ hk_ => Or.elim hk_ (fun hs_ => fun e_ => Nat.not_le.2 hs_ (by rw [e_]; exact GW271.out)) (fun hn_ => (Kd.freshB (g := gb271) (o := .cells #[.int .i64 a0_0, .slice A0_1 l0_1.length c0_1, .slice A0_2 l0_2.length c0_2] 25 (0, 0)) zK k_ hn_)))) (below_size zG)); replace BK271 := zm (blk_below (g := gb271) zK hb); replace HB := zm (below_step zG hb); (try clear hb); (try clear ho0)))
 (try simp only [Act.put, List.setIfInBounds_toArray, List.set_cons_zero, List.set_cons_succ])
 go_cut [27] (fun v27 wc => ∃ (kq : Nat) (x27_4 : Bool), v27 = .bool x27_4 ∧ Aside0 (l4_LeastAdds.j0 kq t273 t272 x27_4 a0_0 l0_1 l0_2 = some r) ∧ Aside0 (kq ≤ k) ∧ Aside0 (Kd.V k41 41 wc w.heap.size (fun k_ => k_ ≠ gb271) v274 t273) ∧ Aside0 (wc.heap[gb271]? = some (.cells #[.int .i64 a0_0, (.slice A0_1 l0_1.length c0_1), (.slice A0_2 l0_2.length c0_2)] 25 (0, 0))) ∧ Aside0 (Below w.heap.size w wc))
 case first =>
  have H := HC5.out
  clear HC5
  obtain ⟨t276, A9, H⟩ := zO H
  by_cases c10 : t276 = 0
  ·rw [if_pos c10] at H
   have c10b0 : (t276 == 0) = true := beq_iff_eq.mpr c10
   have c10b1 : (t276 != 0) = false := bne_eq_false_iff_eq.mpr c10
   clear c10
   (first | rw [c10b0] | (simp only [i64_w, i32_w]; rw [c10b0]) | skip)
   have H' := zm H
   clear H
   obtain ⟨hcz11_0, hcz11_1, hcz11_2, hfz11_0, hfz11_1, hfz11_2⟩ := zd3 BK271.out (.int .i64 a0_0) (.slice A0_1 l0_1.length c0_1) (.slice A0_2 l0_2.length c0_2)
   go_wp2_with (first | ((with_reducible refine gate_callee (f := 9) rfl ?_); refine goesL_ (some 20) rfl rfl Try.func9 (by kernel_rfl) rfl #[.agg #[.int .i64 a0_0, .slice A0_1 l0_1.length c0_1, .slice A0_2 l0_2.length c0_2]] rfl zP ?_; (with_reducible refine (l3_Small.calls k a0_0 _ _ l0_1 _ _ l0_2 t276 _ ?side1 ?side2 ?side3 ?side4 A9.out).mono ?_); (case side1 => exact zC (Kd.C_below HR0_1.out HB.out)); (case side2 => exact HC0_1.out); (case side3 => exact zC (Kd.C_below HR0_2.out HB.out)); (case side4 => exact HC0_2.out); rintro e w12 ⟨rfl, hb⟩; refine ⟨_, rfl, ?_⟩; replace HO275 := zm (Kd.V_below (by (with_reducible repeat (first | apply Kd.V_alloc | apply Kd.V_drewN | apply Kd.V_drew)); exact HO275.out) hb); replace BK271 := zm (blk_below (g := gb271) zK hb); replace HB := zm (below_step zG hb); (try clear hb)))
   go_meet
   case rel => exact ⟨_, (true), zR, H', ⟨by first | omega | exact Nat.le_refl _⟩, ⟨by (with_reducible repeat (first | apply Kd.V_alloc | apply Kd.V_drewN | apply Kd.V_drew)); exact HO275.out⟩, ⟨zK⟩, ⟨zG⟩⟩
  ·rw [if_neg c10] at H
   have c10b0 : (t276 == 0) = false := beq_eq_false_iff_ne.mpr c10
   have c10b1 : (t276 != 0) = true := bne_iff_ne.mpr c10
   (first | rw [c10b0] | (simp only [i64_w, i32_w]; rw [c10b0]) | skip)
   obtain ⟨t277, A13, H⟩ := zO H
   have H' := zm H
   clear H
   obtain ⟨hcz14_0, hcz14_1, hcz14_2, hfz14_0, hfz14_1, hfz14_2⟩ := zd3 BK271.out (.int .i64 a0_0) (.slice A0_1 l0_1.length c0_1) (.slice A0_2 l0_2.length c0_2)
   go_wp2_with (first | ((with_reducible refine gate_callee (f := 9) rfl ?_); refine goesL_ (some 20) rfl rfl Try.func9 (by kernel_rfl) rfl #[.agg #[.int .i64 a0_0, .slice A0_1 l0_1.length c0_1, .slice A0_2 l0_2.length c0_2]] rfl zP ?_; (with_reducible refine (l3_Small.calls k a0_0 _ _ l0_1 _ _ l0_2 t276 _ ?side1 ?side2 ?side3 ?side4 A9.out).mono ?_); (case side1 => exact zC (Kd.C_below HR0_1.out HB.out)); (case side2 => exact HC0_1.out); (case side3 => exact zC (Kd.C_below HR0_2.out HB.out)); (case side4 => exact HC0_2.out); rintro e w15 ⟨rfl, hb⟩; refine ⟨_, rfl, ?_⟩; replace HO275 := zm (Kd.V_below (by (with_reducible repeat (first | apply Kd.V_alloc | apply Kd.V_drewN | apply Kd.V_drew)); exact HO275.out) hb); replace BK271 := zm (blk_below (g := gb271) zK hb); replace HB := zm (below_step zG hb); (try clear hb); obtain ⟨hcz16_0, hcz16_1, hcz16_2, hfz16_0, hfz16_1, hfz16_2⟩ := zd3 BK271.out (.int .i64 a0_0) (.slice A0_1 l0_1.length c0_1) (.slice A0_2 l0_2.length c0_2); obtain ⟨Ao17, co17, eo17⟩ := Kd.V_slice HO275.out; subst eo17) | (go_at_call 17; (with_reducible refine (e_Right.calls k a0_0 _ _ l0_1 _ _ l0_2 _ _ t273 t277 _ ?side1 ?side2 ?side3 ?side4 ?side5 ?side6 A13.out).mono ?_); (case side1 => exact zC (Kd.C_below HR0_1.out HB.out)); (case side2 => exact HC0_1.out); (case side3 => exact zC (Kd.C_below HR0_2.out HB.out)); (case side4 => exact HC0_2.out); (case side5 => exact zC ((Kd.V_reads' HO275.out).2.2)); (case side6 => exact (Kd.V_reads' HO275.out).2.1); rintro e w18 ⟨rfl, hb⟩; replace HO275 := zm (Kd.V_below (by (with_reducible repeat (first | apply Kd.V_alloc | apply Kd.V_drewN | apply Kd.V_drew)); exact HO275.out) hb); replace BK271 := zm (blk_below (g := gb271) zK hb); replace HB := zm (below_step zG hb); (try clear hb)))
   go_meet
   case rel => exact ⟨_, (!t277), zR, H', ⟨by first | omega | exact Nat.le_refl _⟩, ⟨by (with_reducible repeat (first | apply Kd.V_alloc | apply Kd.V_drewN | apply Kd.V_drew)); exact HO275.out⟩, ⟨zK⟩, ⟨zG⟩⟩
 case rest =>
  clear HC5
  obtain ⟨kq, x27_4, rfl, HA, HJ4, HO_1, BK271, HB⟩ := hcut
  cases kq with
  | zero => exact absurd HA.out (by simp [l4_LeastAdds.j0])
  | succ kj4 =>
   have H := HA.out
   clear HA
   simp only [l4_LeastAdds.j0] at H
   by_cases c19 : x27_4 = true
   ·subst c19
    rw [if_pos rfl] at H
    obtain rfl := Option.some.inj H
    go_wp2
    go_ret
    exact ⟨zE, zG⟩
   ·replace c19 := Bool.eq_false_iff.mpr c19
    subst c19
    rw [if_neg (show ¬ (false = true) by decide)] at H
    replace H := Option.bind_eq_some_iff.mp H
    obtain ⟨⟨t279, t282⟩, A200, H⟩ := H
    replace H : (l4_LeastAdds.l0 kj4 t273 t272 t279 t282 ([] : List (S41)) 0 a0_0 l0_1 l0_2 a0_0 l0_1) = some r := H
    have A20 := zm A200
    clear A200
    have H' := zm H
    clear H
    obtain ⟨hcz21_0, hcz21_1, hcz21_2, hfz21_0, hfz21_1, hfz21_2⟩ := zd3 BK271.out (.int .i64 a0_0) (.slice A0_1 l0_1.length c0_1) (.slice A0_2 l0_2.length c0_2)
    go_wp2_with (first | ((with_reducible refine gate_dst (N := 6) rfl ?_); (try (refine gate_guard (by rfl) ?_; dsimp only)); refine zX (N := 6) (cs := #[.int .i64 0, .slice none 0 0, .slice none 0 0]) (t := 25) (h := ?_); intro gb278 hg w22 hbox hb; have BK278 := zm hbox; have GW278 := zm ((zT : w.heap.size ≤ gb278)); have GE278 := zm ((zT : w.heap.size ≤ gb278)); have NB271_278 := zm ((zL : gb271 ≠ gb278)); have NB278_271 := zm ((zM : gb278 ≠ gb271)); replace HO_1 := zm (Kd.V_below (Kd.V_elderB (by (with_reducible repeat (first | apply Kd.V_alloc | apply Kd.V_drewN | apply Kd.V_drew)); exact HO_1.out) gb278 (Nat.le_of_eq hg.symm)) hb); replace BK271 := zm (blk_below (g := gb271) zK hb); replace HB := zm (below_step zG hb); clear hb hbox hg; have hnb23 := NB278_271.out; have hnc23 := NB271_278.out; obtain ⟨hcz24_0, hcz24_1, hcz24_2, hfz24_0, hfz24_1, hfz24_2⟩ := zd3 BK278.out (.int .i64 0) (.slice none 0 0) (.slice none 0 0)) | ((with_reducible refine gate_store (t := 25) (p := 6) rfl ?_); refine store_event (t := 25) (p := 6) (v := ?vo_w25) (w1 := (((w22.setCell ⟨gb278, 0, none⟩ (.int .i64 a0_0)).setCell ⟨gb278, 1, none⟩ (.slice A0_1 l0_1.length c0_1)).setCell ⟨gb278, 2, none⟩ (.slice A0_2 l0_2.length c0_2))) ?hg ?ho ?hn ?hr ?_; (case ho => rfl); (case hg => rfl); (case hn => rfl); (case hr => first | (go_simp; done) | (go_simp; rfl)); intro w25 hw; have n0_ : Aside0 (Kd.V k41 41 w25 w.heap.size (fun k_ => k_ ≠ gb271 ∧ k_ ≠ gb278) v274 t273) := ⟨(by rw [hw]; exact (by (with_reducible repeat (first | apply Kd.V_alloc | apply Kd.V_drewN | apply Kd.V_drew)); exact Kd.V_mono (Kd.V_far (p := ⟨gb278, 2, none⟩) (Kd.V_far (p := ⟨gb278, 1, none⟩) (Kd.V_far (p := ⟨gb278, 0, none⟩) (Kd.V_mono HO_1.out (fun k_ hk => (⟨hk, hk.2⟩ : _ ∧ k_ ≠ gb278))) (fun _ hk => hk.2) (.int .i64 a0_0)) (fun _ hk => hk.2) (.slice A0_1 l0_1.length c0_1)) (fun _ hk => hk.2) (.slice A0_2 l0_2.length c0_2)) (fun _ hk => ⟨hk.1.1, hk.1.2⟩)))⟩; have n1_ : Aside0 (w25.heap[gb271]? = some (.cells #[.int .i64 a0_0, .slice A0_1 l0_1.length c0_1, .slice A0_2 l0_2.length c0_2] 25 (0, 0))) := ⟨(by rw [hw]; exact (by (with_reducible repeat (first | refine blk_drewN ?_ _ | refine blk_drew ?_ | refine blk_alloc ?_ _)); refine blk_far ?_ NB271_278.out _; (with_reducible repeat (first | refine blk_drewN ?_ _ | refine blk_drew ?_ | refine blk_alloc ?_ _)); refine blk_far ?_ NB271_278.out _; (with_reducible repeat (first | refine blk_drewN ?_ _ | refine blk_drew ?_ | refine blk_alloc ?_ _)); refine blk_far ?_ NB271_278.out _; (with_reducible repeat (first | refine blk_drewN ?_ _ | refine blk_drew ?_ | refine blk_alloc ?_ _)); exact BK271.out))⟩; have n2_ : Aside0 (w25.heap[gb278]? = some (.cells #[.int .i64 a0_0, .slice A0_1 l0_1.length c0_1, .slice A0_2 l0_2.length c0_2] 25 (0, 0))) := ⟨(by rw [hw]; exact (by (with_reducible repeat (first | refine blk_drewN ?_ _ | refine blk_drew ?_ | refine blk_alloc ?_ _)); refine blk_put (cs := #[.int .i64 a0_0, .slice A0_1 l0_1.length c0_1, .slice none 0 0]) ?_ 2 _ rfl; (with_reducible repeat (first | refine blk_drewN ?_ _ | refine blk_drew ?_ | refine blk_alloc ?_ _)); refine blk_put (cs := #[.int .i64 a0_0, .slice none 0 0, .slice none 0 0]) ?_ 1 _ rfl; (with_reducible repeat (first | refine blk_drewN ?_ _ | refine blk_drew ?_ | refine blk_alloc ?_ _)); refine blk_put (cs := #[.int .i64 0, .slice none 0 0, .slice none 0 0]) ?_ 0 _ rfl; (with_reducible repeat (first | refine blk_drewN ?_ _ | refine blk_drew ?_ | refine blk_alloc ?_ _)); exact BK278.out))⟩; have n3_ : Aside0 (Below w.heap.size w w25) := ⟨(by rw [hw]; exact zG)⟩; clear hw; clear HO_1; clear BK271; clear BK278; clear HB; have HO_1 := n0_; have BK271 := n1_; have BK278 := n2_; have HB := n3_; clear n0_ n1_ n2_ n3_; obtain ⟨hcz26_0, hcz26_1, hcz26_2, hfz26_0, hfz26_1, hfz26_2⟩ := zd3 BK278.out (.int .i64 a0_0) (.slice A0_1 l0_1.length c0_1) (.slice A0_2 l0_2.length c0_2)) | ((with_reducible refine gate_store (t := 23) (p := 30) rfl ?_); refine store_event (t := 23) (p := 30) (v := ?vo_w27) (w1 := (w25.setCell ⟨gb278, 2, none⟩ (.slice none 0 0))) ?hg ?ho ?hn ?hr ?_; (case ho => rfl); (case hg => rfl); (case hn => rfl); (case hr => first | (go_simp; done) | (go_simp; rfl)); intro w27 hw; have n0_ : Aside0 (Kd.V k41 41 w27 w.heap.size (fun k_ => k_ ≠ gb271 ∧ k_ ≠ gb278) v274 t273) := ⟨(by rw [hw]; exact (by (with_reducible repeat (first | apply Kd.V_alloc | apply Kd.V_drewN | apply Kd.V_drew)); exact Kd.V_mono (Kd.V_far (p := ⟨gb278, 2, none⟩) (Kd.V_mono HO_1.out (fun k_ hk => (⟨hk, hk.2⟩ : _ ∧ k_ ≠ gb278))) (fun _ hk => hk.2) (.slice none 0 0)) (fun _ hk => ⟨hk.1.1, hk.1.2⟩)))⟩; have n1_ : Aside0 (w27.heap[gb271]? = some (.cells #[.int .i64 a0_0, .slice A0_1 l0_1.length c0_1, .slice A0_2 l0_2.length c0_2] 25 (0, 0))) := ⟨(by rw [hw]; exact (by (with_reducible repeat (first | refine blk_drewN ?_ _ | refine blk_drew ?_ | refine blk_alloc ?_ _)); refine blk_far ?_ NB271_278.out _; (with_reducible repeat (first | refine blk_drewN ?_ _ | refine blk_drew ?_ | refine blk_alloc ?_ _)); exact BK271.out))⟩; have n2_ : Aside0 (w27.heap[gb278]? = some (.cells #[.int .i64 a0_0, .slice A0_1 l0_1.length c0_1, .slice none 0 0] 25 (0, 0))) := ⟨(by rw [hw]; exact (by (with_reducible repeat (first | refine blk_drewN ?_ _ | refine blk_drew ?_ | refine blk_alloc ?_ _)); refine blk_put (cs := #[.int .i64 a0_0, .slice A0_1 l0_1.length c0_1, .slice A0_2 l0_2.length c0_2]) ?_ 2 _ rfl; (with_reducible repeat (first | refine blk_drewN ?_ _ | refine blk_drew ?_ | refine blk_alloc ?_ _)); exact BK278.out))⟩; have n3_ : Aside0 (Below w.heap.size w w27) := ⟨(by rw [hw]; exact zG)⟩; clear hw; clear HO_1; clear BK271; clear BK278; clear HB; have HO_1 := n0_; have BK271 := n1_; have BK278 := n2_; have HB := n3_; clear n0_ n1_ n2_ n3_; obtain ⟨hcz28_0, hcz28_1, hcz28_2, hfz28_0, hfz28_1, hfz28_2⟩ := zd3 BK278.out (.int .i64 a0_0) (.slice A0_1 l0_1.length c0_1) (.slice none 0 0)) | ((with_reducible refine gate_callee (f := 11) rfl ?_); refine goesL_ (some 33) rfl rfl Try.func11 (by kernel_rfl) rfl #[.agg #[.int .i64 a0_0, .slice A0_1 l0_1.length c0_1, .slice none 0 0], .slice none 0 0] rfl zP ?_; (refine (e_Round.calls kj4 a0_0 _ _ l0_1 _ _ ([] : List (S46)) _ _ ([] : List (S41)) t279 t282 _ ?side1 ?side2 ?side3 ?side4 ?side5 ?side6 A20.out).mono ?_); (case side1 => exact zC (Kd.C_below HR0_1.out HB.out)); (case side2 => exact HC0_1.out); (case side3 => exact Kd.C_nil _ _); (case side4 => exact Nat.le_refl _); (case side5 => exact Kd.C_nil _ _); (case side6 => exact Nat.le_refl _); rintro e w29 ⟨v280, rfl, ho0, hb⟩; refine ⟨_, rfl, ?_⟩; have HO281 := zm (Kd.V_lower (Kd.V_mono (ok' := fun k_ => k_ ≠ gb271 ∧ k_ ≠ gb278) ho0 (fun k_ hk_ => ⟨(Kd.freshB (g := gb271) (o := .cells #[.int .i64 a0_0, .slice A0_1 l0_1.length c0_1, .slice A0_2 l0_2.length c0_2] 25 (0, 0)) zK k_ hk_), (Kd.freshB (g := gb278) (o := .cells #[.int .i64 a0_0, .slice A0_1 l0_1.length c0_1, .slice none 0 0] 25 (0, 0)) zK k_ hk_)⟩)) (below_size zG)); replace HO_1 := zm (Kd.V_below (by (with_reducible repeat (first | apply Kd.V_alloc | apply Kd.V_drewN | apply Kd.V_drew)); exact HO_1.out) hb); replace BK271 := zm (blk_below (g := gb271) zK hb); replace BK278 := zm (blk_below (g := gb278) zK hb); replace HB := zm (below_step zG hb); (try clear hb); (try clear ho0)))
    go_loopg [9, 10] kj4 (fun kq v9 v10 w' => ∃ (x9_2 : List (S41)) (x10_2 : Int), v10 = .int .i64 x10_2 ∧ Aside0 (l4_LeastAdds.l0 kq t273 t272 t279 t282 x9_2 x10_2 a0_0 l0_1 l0_2 a0_0 l0_1 = some r) ∧ Aside0 (kq ≤ kj4) ∧ Aside0 (Kd.V k41 41 w' w.heap.size (fun k_ => some k_ ≠ (v9 : Value).ownBlock ∧ k_ ≠ gb271 ∧ k_ ≠ gb278) v274 t273) ∧ Aside0 (Kd.V k41 41 w' w.heap.size (fun k_ => some k_ ≠ (v9 : Value).ownBlock ∧ k_ ≠ gb271 ∧ k_ ≠ gb278) v280 t279) ∧ Aside0 (Kd.R k41 41 w' w.heap.size (fun _ => True) v9 x9_2) ∧ Aside0 (w'.heap[gb271]? = some (.cells #[.int .i64 a0_0, (.slice A0_1 l0_1.length c0_1), (.slice A0_2 l0_2.length c0_2)] 25 (0, 0))) ∧ Aside0 (w'.heap[gb278]? = some (.cells #[.int .i64 a0_0, (.slice A0_1 l0_1.length c0_1), (.slice none 0 0)] 25 (0, 0))) ∧ Aside0 (Below w.heap.size w w'))
    case atStart => exact ⟨(([] : List (S41))), (0), zR, H', ⟨Nat.le_refl _⟩, ⟨by (with_reducible repeat (first | apply Kd.V_alloc | apply Kd.V_drewN | apply Kd.V_drew)); exact Kd.V_mono HO_1.out (fun _ hk => ⟨(by simp [Value.ownBlock]), ⟨hk.1, hk.2⟩⟩)⟩, ⟨by (with_reducible repeat (first | apply Kd.V_alloc | apply Kd.V_drewN | apply Kd.V_drew)); exact Kd.V_mono HO281.out (fun _ hk => ⟨(by simp [Value.ownBlock]), ⟨hk.1, hk.2⟩⟩)⟩, ⟨by first | exact Kd.R_nil _ _ _ _ _ | exact Kd.N_nil _ _ _ _ _ | exact Kd.V_nil _ _ _ _ _ | exact Kd.Q_nil _ _ _ _ _ | exact Kd.S_nil _ _ _ _ _⟩, ⟨zK⟩, ⟨zK⟩, ⟨zG⟩⟩
    case round =>
     clear H'
     clear hcz21_0 hcz21_1 hcz21_2 hcz24_0 hcz24_1 hcz24_2 hcz26_0 hcz26_1 hcz26_2 hcz28_0 hcz28_1 hcz28_2 hfz21_0 hfz21_1 hfz21_2 hfz24_0 hfz24_1 hfz24_2 hfz26_0 hfz26_1 hfz26_2 hfz28_0 hfz28_1 hfz28_2
     obtain ⟨x9_2, x10_2, rfl, HA, HK2, HO_1, HO_7, HO_9, BK271, BK278, HB⟩ := hrel
     cases gk with
     | zero => exact absurd HA.out (by simp [l4_LeastAdds.l0])
     | succ k2 =>
      have H := HA.out
      clear HA
      simp only [l4_LeastAdds.l0] at H
      by_cases c30 : x10_2 < (t273.length : Int)
      ·rw [if_pos c30] at H
       have c30b0 : decide (x10_2 < (t273.length : Int)) = true := decide_eq_true c30
       clear c30
       by_cases c31 : 0 ≤ x10_2
       ·rw [if_pos c31] at H
        have c31b0 : decide (0 ≤ x10_2) = true := decide_eq_true c31
        clear c31
        by_cases c32 : ((rd_T41 t273 x10_2).f0) = 5
        ·rw [if_pos c32] at H
         have c32b0 : (((rd_T41 t273 x10_2).f0) == 5) = true := beq_iff_eq.mpr c32
         have c32b1 : (((rd_T41 t273 x10_2).f0) != 5) = false := bne_eq_false_iff_eq.mpr c32
         clear c32
         have H' := zm H
         clear H
         obtain ⟨Ao33, co33, eo33⟩ := Kd.V_slice HO_1.out
         subst eo33
         have p283 : 0 ≤ (x10_2 : Int) := of_decide_eq_true zA
         have q283 : x10_2 < (t273.length : Int) := of_decide_eq_true zA
         obtain ⟨ad283, e283, hx283_0, hx283_1, hx283_2, hx283_3⟩ := at_T41 (Kd.V_reads' HO_1.out).2.2 x10_2 p283 q283
         cases e283
         replace p283 := eq_true p283
         replace q283 := eq_true q283
         go_wp2
         go_roundg k2
         case measure => have := HJ4.out; have := HK2.out; omega
         case rel => exact ⟨(x9_2), (wrap64 (x10_2 + 1)), zR, H', ⟨by have := HJ4.out; have := HK2.out; omega⟩, ⟨by (with_reducible repeat (first | apply Kd.V_alloc | apply Kd.V_drewN | apply Kd.V_drew)); exact HO_1.out⟩, ⟨by (with_reducible repeat (first | apply Kd.V_alloc | apply Kd.V_drewN | apply Kd.V_drew)); exact HO_7.out⟩, ⟨by (with_reducible repeat (first | apply Kd.R_alloc | apply Kd.R_drewN | apply Kd.R_drew)); exact HO_9.out⟩, ⟨zK⟩, ⟨zK⟩, ⟨zG⟩⟩
        ·rw [if_neg c32] at H
         have c32b0 : (((rd_T41 t273 x10_2).f0) == 5) = false := beq_eq_false_iff_ne.mpr c32
         have c32b1 : (((rd_T41 t273 x10_2).f0) != 5) = true := bne_iff_ne.mpr c32
         by_cases c34 : x9_2.length < 3518437208883
         ·rw [if_pos c34] at H
          have LMc34 := zm c34
          clear c34
          obtain ⟨y285, hy285⟩ : ∃ y_ : List (S41), y_ = (x9_2 ++ [(⟨(rd_T41 t273 x10_2).f0, (rd_T41 t273 x10_2).f1, (rd_T41 t273 x10_2).f2, (rd_T41 t273 x10_2).f3⟩ : S41)]) := ⟨_, rfl⟩
          replace H : (l4_LeastAdds.l0 k2 t273 t272 t279 t282 y285 (wrap64 (x10_2 + 1)) a0_0 l0_1 l0_2 a0_0 l0_1) = some r := by first | (rw [hy285]; with_reducible exact H) | (have H2_ := (Option.bind_some _ _).symm.trans H; rw [hy285]; with_reducible exact H2_) | (have H2_ := (Option.bind_some _ _).symm.trans H; with_reducible exact H2_) | with_reducible exact H | (rw [hy285]; exact H) | exact H
          have Ny285 := zm hy285
          clear hy285
          have H' := zm H
          clear H
          obtain ⟨Ao35, co35, eo35⟩ := Kd.V_slice HO_1.out
          subst eo35
          have p283 : 0 ≤ (x10_2 : Int) := of_decide_eq_true zA
          have q283 : x10_2 < (t273.length : Int) := of_decide_eq_true zA
          obtain ⟨ad283, e283, hx283_0, hx283_1, hx283_2, hx283_3⟩ := at_T41 (Kd.V_reads' HO_1.out).2.2 x10_2 p283 q283
          cases e283
          replace p283 := eq_true p283
          replace q283 := eq_true q283
          have p284 : 0 ≤ (x10_2 : Int) := of_decide_eq_true zA
          have q284 : x10_2 < (t273.length : Int) := of_decide_eq_true zA
          obtain ⟨ad284, e284, hx284_0, hx284_1, hx284_2, hx284_3⟩ := at_T41 (Kd.V_reads' HO_1.out).2.2 x10_2 p284 q284
          obtain rfl : ad283 = ad284 := (by injection e284)
          replace p284 := eq_true p284
          replace q284 := eq_true q284
          go_wp2_with (first | ((with_reducible refine gate_builtin (b := .append) (xs := #[.tmp 48, .tmp 53]) rfl ?_); (try (refine gate_guard (by rfl) ?_; dsimp only)); at_builtin; refine Kd.R_append k41 (w0 := w) w.heap.size rfl (.tmp 48) (.tmp 53) 26 41 (.agg #[(.int .i64 0), (.int .i64 0), (.string ⟨#[]⟩), (.int .i64 0)]) 40 rfl Try.underlying26 info41 rfl (by decide) (by omega) u9 x9_2 (⟨(rd_T41 t273 x10_2).f0, (rd_T41 t273 x10_2).f1, (rd_T41 t273 x10_2).f2, (rd_T41 t273 x10_2).f3⟩ : S41) [.int .i64 ((rd_T41 t273 x10_2).f0), .int .i64 ((rd_T41 t273 x10_2).f1), .string ((rd_T41 t273 x10_2).f2), .int .i64 ((rd_T41 t273 x10_2).f3)] (fun _ => True) (fun _ => False) rfl rfl ?aP (fun _ hk => hk.elim) ?aF ?aO ?aB ?aS ?aL ?_; (case aP => exact k41_mkM _ _ _ (⟨(rd_T41 t273 x10_2).f0, (rd_T41 t273 x10_2).f1, (rd_T41 t273 x10_2).f2, (rd_T41 t273 x10_2).f3⟩ : S41)); (case aB => exact zG); (case aF => exact (fun _ _ => trivial)); (case aO => exact (by (with_reducible repeat (first | apply Kd.R_alloc | apply Kd.R_drewN | apply Kd.R_drew)); exact HO_9.out)); (case aS => exact (below_size zG)); (case aL => have := LMc34.out; omega); intro v286 w36 ho hb hg hat; rw [← Ny285.out] at ho; have n0_ := zm (Kd.V_afterv (ok := (fun k_ => k_ ≠ gb271 ∧ k_ ≠ gb278)) (by (with_reducible repeat (first | apply Kd.V_alloc | apply Kd.V_drewN | apply Kd.V_drew)); exact Kd.V_mono HO_1.out (fun _ hk => ⟨⟨hk.2.1, hk.2.2⟩, hk.1⟩)) hg hat); have n1_ := zm (Kd.V_afterv (ok := (fun k_ => k_ ≠ gb271 ∧ k_ ≠ gb278)) (by (with_reducible repeat (first | apply Kd.V_alloc | apply Kd.V_drewN | apply Kd.V_drew)); exact Kd.V_mono HO_7.out (fun _ hk => ⟨⟨hk.2.1, hk.2.2⟩, hk.1⟩)) hg hat); have n2_ := zm (blk_grown (g := gb271) (o := .cells #[.int .i64 a0_0, .slice A0_1 l0_1.length c0_1, .slice A0_2 l0_2.length c0_2] 25 (0, 0)) zK hg (Kd.R_ne HO_9.out BK271.out (by decide))); have n3_ := zm (blk_grown (g := gb278) (o := .cells #[.int .i64 a0_0, .slice A0_1 l0_1.length c0_1, .slice none 0 0] 25 (0, 0)) zK hg (Kd.R_ne HO_9.out BK278.out (by decide))); have n4_ := zm (hb); have n5_ := zm (ho); clear HO_1; clear HO_7; clear BK271; clear BK278; clear HB; clear HO_9; have HO_1 := n0_; have HO_7 := n1_; have BK271 := n2_; have BK278 := n3_; have HB := n4_; have HO287 := n5_; clear n0_ n1_ n2_ n3_ n4_ n5_; clear ho hb hg hat))
          go_roundg k2
          case measure => have := HJ4.out; have := HK2.out; omega
          case rel => exact ⟨(y285), (wrap64 (x10_2 + 1)), zR, H', ⟨by have := HJ4.out; have := HK2.out; omega⟩, ⟨by (with_reducible repeat (first | apply Kd.V_alloc | apply Kd.V_drewN | apply Kd.V_drew)); exact Kd.V_mono HO_1.out (fun _ hk => ⟨hk.2, ⟨hk.1.1, hk.1.2⟩⟩)⟩, ⟨by (with_reducible repeat (first | apply Kd.V_alloc | apply Kd.V_drewN | apply Kd.V_drew)); exact Kd.V_mono HO_7.out (fun _ hk => ⟨hk.2, ⟨hk.1.1, hk.1.2⟩⟩)⟩, ⟨by (with_reducible repeat (first | apply Kd.R_alloc | apply Kd.R_drewN | apply Kd.R_drew)); exact HO287.out⟩, ⟨zK⟩, ⟨zK⟩, ⟨zG⟩⟩
         ·rw [if_neg c34] at H
          exact absurd H (by simp)
       ·rw [if_neg c31] at H
        exact absurd H (by simp)
      ·rw [if_neg c30] at H
       have c30b0 : decide (x10_2 < (t273.length : Int)) = false := decide_eq_false c30
       clear c30
       replace H := Option.bind_eq_some_iff.mp H
       obtain ⟨⟨t288, t291⟩, A370, H⟩ := H
       replace H : ((e_Round.f k2 a0_0 l0_1 l0_2 x9_2).bind fun bt292 => (if t282 = 0 then (if t291 = 0 then (if bt292.2 = 0 then (if (t279.length : Int) = 6 then ((e_Within.f x9_2 t288).bind fun t296 => (if t296 = true then ((e_Within.f t279 t288).bind fun t297 => (if t297 = true then ((e_Within.f t288 bt292.1).bind fun t298 => (l4_LeastAdds.j2 k2 t272 t279 x9_2 t288 (!t298))) else (l4_LeastAdds.j2 k2 t272 t279 x9_2 t288 true))) else (l4_LeastAdds.j2 k2 t272 t279 x9_2 t288 true))) else (l4_LeastAdds.j2 k2 t272 t279 x9_2 t288 true)) else (l4_LeastAdds.j2 k2 t272 t279 x9_2 t288 true)) else (l4_LeastAdds.j2 k2 t272 t279 x9_2 t288 true)) else (l4_LeastAdds.j2 k2 t272 t279 x9_2 t288 true))) = some r := H
       have A37 := zm A370
       clear A370
       replace H := Option.bind_eq_some_iff.mp H
       obtain ⟨⟨t292, t295⟩, A380, H⟩ := H
       replace H : (if t282 = 0 then (if t291 = 0 then (if t295 = 0 then (if (t279.length : Int) = 6 then ((e_Within.f x9_2 t288).bind fun t296 => (if t296 = true then ((e_Within.f t279 t288).bind fun t297 => (if t297 = true then ((e_Within.f t288 t292).bind fun t298 => (l4_LeastAdds.j2 k2 t272 t279 x9_2 t288 (!t298))) else (l4_LeastAdds.j2 k2 t272 t279 x9_2 t288 true))) else (l4_LeastAdds.j2 k2 t272 t279 x9_2 t288 true))) else (l4_LeastAdds.j2 k2 t272 t279 x9_2 t288 true)) else (l4_LeastAdds.j2 k2 t272 t279 x9_2 t288 true)) else (l4_LeastAdds.j2 k2 t272 t279 x9_2 t288 true)) else (l4_LeastAdds.j2 k2 t272 t279 x9_2 t288 true)) = some r := H
       have A38 := zm A380
       clear A380
       have HC39 := zm H
       clear H
       obtain ⟨Ao40, co40, eo40⟩ := Kd.V_slice HO_1.out
       subst eo40
       have hnb41 := NB278_271.out
       have hnc41 := NB271_278.out
       obtain ⟨hcz42_0, hcz42_1, hcz42_2, hfz42_0, hfz42_1, hfz42_2⟩ := zd3 BK278.out (.int .i64 a0_0) (.slice A0_1 l0_1.length c0_1) (.slice none 0 0)
       obtain ⟨Ao43, co43, eo43⟩ := Kd.R_slice HO_9.out
       subst eo43
       go_upto_region 16 with (first | ((with_reducible refine gate_callee (f := 11) rfl ?_); refine goesL_ (some 58) rfl rfl Try.func11 (by kernel_rfl) rfl #[.agg #[.int .i64 a0_0, .slice A0_1 l0_1.length c0_1, .slice none 0 0], .slice Ao43 x9_2.length co43] rfl zP ?_; (refine (e_Round.calls k2 a0_0 _ _ l0_1 _ _ ([] : List (S46)) _ _ x9_2 t288 t291 _ ?side1 ?side2 ?side3 ?side4 ?side5 ?side6 A37.out).mono ?_); (case side1 => exact zC (Kd.C_below HR0_1.out HB.out)); (case side2 => exact HC0_1.out); (case side3 => exact Kd.C_nil _ _); (case side4 => exact Nat.le_refl _); (case side5 => exact zC ((Kd.R_reads' HO_9.out).2.2)); (case side6 => exact (Kd.R_reads' HO_9.out).2.1); rintro e w44 ⟨v289, rfl, ho0, hb⟩; refine ⟨_, rfl, ?_⟩; have HO290 := zm (Kd.V_lower (Kd.V_mono (ok' := fun k_ => some k_ ≠ (.slice Ao43 x9_2.length co43 : Value).ownBlock ∧ k_ ≠ gb271 ∧ k_ ≠ gb278) ho0 (fun k_ hk_ => ⟨(Kd.fresh' (Kd.R_lt (by (with_reducible repeat (first | apply Kd.R_alloc | apply Kd.R_drewN | apply Kd.R_drew)); exact HO_9.out)) k_ hk_), (Kd.freshB (g := gb271) (o := .cells #[.int .i64 a0_0, .slice A0_1 l0_1.length c0_1, .slice A0_2 l0_2.length c0_2] 25 (0, 0)) zK k_ hk_), (Kd.freshB (g := gb278) (o := .cells #[.int .i64 a0_0, .slice A0_1 l0_1.length c0_1, .slice none 0 0] 25 (0, 0)) zK k_ hk_)⟩)) (below_size zG)); replace HO_1 := zm (Kd.V_below (by (with_reducible repeat (first | apply Kd.V_alloc | apply Kd.V_drewN | apply Kd.V_drew)); exact HO_1.out) hb); replace HO_7 := zm (Kd.V_below (by (with_reducible repeat (first | apply Kd.V_alloc | apply Kd.V_drewN | apply Kd.V_drew)); exact HO_7.out) hb); replace HO_9 := zm (Kd.R_below (by (with_reducible repeat (first | apply Kd.R_alloc | apply Kd.R_drewN | apply Kd.R_drew)); exact HO_9.out) hb); replace BK271 := zm (blk_below (g := gb271) zK hb); replace BK278 := zm (blk_below (g := gb278) zK hb); replace HB := zm (below_step zG hb); (try clear hb); (try clear ho0); obtain ⟨hcz45_0, hcz45_1, hcz45_2, hfz45_0, hfz45_1, hfz45_2⟩ := zd3 BK271.out (.int .i64 a0_0) (.slice A0_1 l0_1.length c0_1) (.slice A0_2 l0_2.length c0_2)) | ((with_reducible refine gate_callee (f := 11) rfl ?_); refine goesL_ (some 64) rfl rfl Try.func11 (by kernel_rfl) rfl #[.agg #[.int .i64 a0_0, .slice A0_1 l0_1.length c0_1, .slice A0_2 l0_2.length c0_2], .slice Ao43 x9_2.length co43] rfl zP ?_; (with_reducible refine (e_Round.calls k2 a0_0 _ _ l0_1 _ _ l0_2 _ _ x9_2 t292 t295 _ ?side1 ?side2 ?side3 ?side4 ?side5 ?side6 A38.out).mono ?_); (case side1 => exact zC (Kd.C_below HR0_1.out HB.out)); (case side2 => exact HC0_1.out); (case side3 => exact zC (Kd.C_below HR0_2.out HB.out)); (case side4 => exact HC0_2.out); (case side5 => exact zC ((Kd.R_reads' HO_9.out).2.2)); (case side6 => exact (Kd.R_reads' HO_9.out).2.1); rintro e w46 ⟨v293, rfl, ho0, hb⟩; refine ⟨_, rfl, ?_⟩; have HO294 := zm (Kd.V_lower (Kd.V_mono (ok' := fun k_ => some k_ ≠ (.slice Ao43 x9_2.length co43 : Value).ownBlock ∧ k_ ≠ gb271 ∧ k_ ≠ gb278) ho0 (fun k_ hk_ => ⟨(Kd.fresh' (Kd.R_lt (by (with_reducible repeat (first | apply Kd.R_alloc | apply Kd.R_drewN | apply Kd.R_drew)); exact HO_9.out)) k_ hk_), (Kd.freshB (g := gb271) (o := .cells #[.int .i64 a0_0, .slice A0_1 l0_1.length c0_1, .slice A0_2 l0_2.length c0_2] 25 (0, 0)) zK k_ hk_), (Kd.freshB (g := gb278) (o := .cells #[.int .i64 a0_0, .slice A0_1 l0_1.length c0_1, .slice none 0 0] 25 (0, 0)) zK k_ hk_)⟩)) (below_size zG)); replace HO_1 := zm (Kd.V_below (by (with_reducible repeat (first | apply Kd.V_alloc | apply Kd.V_drewN | apply Kd.V_drew)); exact HO_1.out) hb); replace HO_7 := zm (Kd.V_below (by (with_reducible repeat (first | apply Kd.V_alloc | apply Kd.V_drewN | apply Kd.V_drew)); exact HO_7.out) hb); replace HO_9 := zm (Kd.R_below (by (with_reducible repeat (first | apply Kd.R_alloc | apply Kd.R_drewN | apply Kd.R_drew)); exact HO_9.out) hb); replace HO290 := zm (Kd.V_below (by (with_reducible repeat (first | apply Kd.V_alloc | apply Kd.V_drewN | apply Kd.V_drew)); exact HO290.out) hb); replace BK271 := zm (blk_below (g := gb271) zK hb); replace BK278 := zm (blk_below (g := gb278) zK hb); replace HB := zm (below_step zG hb); (try clear hb); (try clear ho0)))
       (try simp only [Act.put, List.setIfInBounds_toArray, List.set_cons_zero, List.set_cons_succ])
       go_cut [99] (fun v99 wc => ∃ (kq : Nat) (x99_38 : Bool), v99 = .bool x99_38 ∧ Aside0 (l4_LeastAdds.j2 kq t272 t279 x9_2 t288 x99_38 = some r) ∧ Aside0 (kq ≤ k2) ∧ Aside0 (Kd.V k41 41 wc w.heap.size (fun k_ => some k_ ≠ ((.slice Ao43 x9_2.length co43) : Value).ownBlock ∧ k_ ≠ gb271 ∧ k_ ≠ gb278) v280 t279) ∧ Aside0 (Kd.R k41 41 wc w.heap.size (fun _ => True) (.slice Ao43 x9_2.length co43) x9_2) ∧ Aside0 (Kd.V k41 41 wc w.heap.size (fun k_ => some k_ ≠ ((.slice Ao43 x9_2.length co43) : Value).ownBlock ∧ k_ ≠ gb271 ∧ k_ ≠ gb278) v289 t288) ∧ Aside0 (wc.heap[gb271]? = some (.cells #[.int .i64 a0_0, (.slice A0_1 l0_1.length c0_1), (.slice A0_2 l0_2.length c0_2)] 25 (0, 0))) ∧ Aside0 (wc.heap[gb278]? = some (.cells #[.int .i64 a0_0, (.slice A0_1 l0_1.length c0_1), (.slice none 0 0)] 25 (0, 0))) ∧ Aside0 (Below w.heap.size w wc))
       case first =>
        have H := HC39.out
        clear HC39
        by_cases c47 : t282 = 0
        ·rw [if_pos c47] at H
         have c47b0 : (t282 == 0) = true := beq_iff_eq.mpr c47
         have c47b1 : (t282 != 0) = false := bne_eq_false_iff_eq.mpr c47
         clear c47
         (first | rw [c47b0] | (simp only [i64_w, i32_w]; rw [c47b0]) | skip)
         by_cases c48 : t291 = 0
         ·rw [if_pos c48] at H
          have c48b0 : (t291 == 0) = true := beq_iff_eq.mpr c48
          have c48b1 : (t291 != 0) = false := bne_eq_false_iff_eq.mpr c48
          clear c48
          by_cases c49 : t295 = 0
          ·rw [if_pos c49] at H
           have c49b0 : (t295 == 0) = true := beq_iff_eq.mpr c49
           have c49b1 : (t295 != 0) = false := bne_eq_false_iff_eq.mpr c49
           clear c49
           by_cases c50 : (t279.length : Int) = 6
           ·rw [if_pos c50] at H
            have c50b0 : ((t279.length : Int) == 6) = true := beq_iff_eq.mpr c50
            have c50b1 : ((t279.length : Int) != 6) = false := bne_eq_false_iff_eq.mpr c50
            clear c50
            obtain ⟨t296, A51, H⟩ := zO H
            by_cases c52 : t296 = true
            ·subst c52
             rw [if_pos rfl] at H
             obtain ⟨t297, A53, H⟩ := zO H
             by_cases c54 : t297 = true
             ·subst c54
              rw [if_pos rfl] at H
              obtain ⟨t298, A55, H⟩ := zO H
              have H' := zm H
              clear H
              obtain ⟨Ao56, co56, eo56⟩ := Kd.V_slice HO_7.out
              subst eo56
              obtain ⟨Ao57, co57, eo57⟩ := Kd.V_slice HO290.out
              subst eo57
              go_wp2_with (first | (go_at_call 18; (with_reducible refine (e_Within.calls _ _ t288 _ _ t292 t298 _ ?side1 ?side2 ?side3 ?side4 A55.out).mono ?_); (case side1 => exact zC ((Kd.V_reads' HO290.out).2.2)); (case side2 => exact (Kd.V_reads' HO290.out).2.1); (case side3 => exact zC ((Kd.V_reads' HO294.out).2.2)); (case side4 => exact (Kd.V_reads' HO294.out).2.1); rintro e w61 ⟨rfl, hb⟩; replace HO_1 := zm (Kd.V_below (by (with_reducible repeat (first | apply Kd.V_alloc | apply Kd.V_drewN | apply Kd.V_drew)); exact HO_1.out) hb); replace HO_7 := zm (Kd.V_below (by (with_reducible repeat (first | apply Kd.V_alloc | apply Kd.V_drewN | apply Kd.V_drew)); exact HO_7.out) hb); replace HO_9 := zm (Kd.R_below (by (with_reducible repeat (first | apply Kd.R_alloc | apply Kd.R_drewN | apply Kd.R_drew)); exact HO_9.out) hb); replace HO290 := zm (Kd.V_below (by (with_reducible repeat (first | apply Kd.V_alloc | apply Kd.V_drewN | apply Kd.V_drew)); exact HO290.out) hb); replace HO294 := zm (Kd.V_below (by (with_reducible repeat (first | apply Kd.V_alloc | apply Kd.V_drewN | apply Kd.V_drew)); exact HO294.out) hb); replace BK271 := zm (blk_below (g := gb271) zK hb); replace BK278 := zm (blk_below (g := gb278) zK hb); replace HB := zm (below_step zG hb); (try clear hb)) | (go_at_call 18; (with_reducible refine (e_Within.calls _ _ t279 _ _ t288 true _ ?side1 ?side2 ?side3 ?side4 A53.out).mono ?_); (case side1 => exact zC ((Kd.V_reads' HO_7.out).2.2)); (case side2 => exact (Kd.V_reads' HO_7.out).2.1); (case side3 => exact zC ((Kd.V_reads' HO290.out).2.2)); (case side4 => exact (Kd.V_reads' HO290.out).2.1); rintro e w59 ⟨rfl, hb⟩; replace HO_1 := zm (Kd.V_below (by (with_reducible repeat (first | apply Kd.V_alloc | apply Kd.V_drewN | apply Kd.V_drew)); exact HO_1.out) hb); replace HO_7 := zm (Kd.V_below (by (with_reducible repeat (first | apply Kd.V_alloc | apply Kd.V_drewN | apply Kd.V_drew)); exact HO_7.out) hb); replace HO_9 := zm (Kd.R_below (by (with_reducible repeat (first | apply Kd.R_alloc | apply Kd.R_drewN | apply Kd.R_drew)); exact HO_9.out) hb); replace HO290 := zm (Kd.V_below (by (with_reducible repeat (first | apply Kd.V_alloc | apply Kd.V_drewN | apply Kd.V_drew)); exact HO290.out) hb); replace HO294 := zm (Kd.V_below (by (with_reducible repeat (first | apply Kd.V_alloc | apply Kd.V_drewN | apply Kd.V_drew)); exact HO294.out) hb); replace BK271 := zm (blk_below (g := gb271) zK hb); replace BK278 := zm (blk_below (g := gb278) zK hb); replace HB := zm (below_step zG hb); (try clear hb); obtain ⟨Ao60, co60, eo60⟩ := Kd.V_slice HO294.out; subst eo60) | (go_at_call 18; (with_reducible refine (e_Within.calls _ _ x9_2 _ _ t288 true _ ?side1 ?side2 ?side3 ?side4 A51.out).mono ?_); (case side1 => exact zC ((Kd.R_reads' HO_9.out).2.2)); (case side2 => exact (Kd.R_reads' HO_9.out).2.1); (case side3 => exact zC ((Kd.V_reads' HO290.out).2.2)); (case side4 => exact (Kd.V_reads' HO290.out).2.1); rintro e w58 ⟨rfl, hb⟩; replace HO_1 := zm (Kd.V_below (by (with_reducible repeat (first | apply Kd.V_alloc | apply Kd.V_drewN | apply Kd.V_drew)); exact HO_1.out) hb); replace HO_7 := zm (Kd.V_below (by (with_reducible repeat (first | apply Kd.V_alloc | apply Kd.V_drewN | apply Kd.V_drew)); exact HO_7.out) hb); replace HO_9 := zm (Kd.R_below (by (with_reducible repeat (first | apply Kd.R_alloc | apply Kd.R_drewN | apply Kd.R_drew)); exact HO_9.out) hb); replace HO290 := zm (Kd.V_below (by (with_reducible repeat (first | apply Kd.V_alloc | apply Kd.V_drewN | apply Kd.V_drew)); exact HO290.out) hb); replace HO294 := zm (Kd.V_below (by (with_reducible repeat (first | apply Kd.V_alloc | apply Kd.V_drewN | apply Kd.V_drew)); exact HO294.out) hb); replace BK271 := zm (blk_below (g := gb271) zK hb); replace BK278 := zm (blk_below (g := gb278) zK hb); replace HB := zm (below_step zG hb); (try clear hb)))
              go_meet
              case rel => exact ⟨_, (!t298), zR, H', ⟨by have := HJ4.out; have := HK2.out; first | omega | exact Nat.le_refl _⟩, ⟨by (with_reducible repeat (first | apply Kd.V_alloc | apply Kd.V_drewN | apply Kd.V_drew)); exact HO_7.out⟩, ⟨by (with_reducible repeat (first | apply Kd.R_alloc | apply Kd.R_drewN | apply Kd.R_drew)); exact HO_9.out⟩, ⟨by (with_reducible repeat (first | apply Kd.V_alloc | apply Kd.V_drewN | apply Kd.V_drew)); exact HO290.out⟩, ⟨zK⟩, ⟨zK⟩, ⟨zG⟩⟩
             ·replace c54 := Bool.eq_false_iff.mpr c54
              subst c54
              rw [if_neg (show ¬ (false = true) by decide)] at H
              have H' := zm H
              clear H
              obtain ⟨Ao62, co62, eo62⟩ := Kd.V_slice HO_7.out
              subst eo62
              obtain ⟨Ao63, co63, eo63⟩ := Kd.V_slice HO290.out
              subst eo63
              go_wp2_with (first | (go_at_call 18; (with_reducible refine (e_Within.calls _ _ t279 _ _ t288 false _ ?side1 ?side2 ?side3 ?side4 A53.out).mono ?_); (case side1 => exact zC ((Kd.V_reads' HO_7.out).2.2)); (case side2 => exact (Kd.V_reads' HO_7.out).2.1); (case side3 => exact zC ((Kd.V_reads' HO290.out).2.2)); (case side4 => exact (Kd.V_reads' HO290.out).2.1); rintro e w65 ⟨rfl, hb⟩; replace HO_1 := zm (Kd.V_below (by (with_reducible repeat (first | apply Kd.V_alloc | apply Kd.V_drewN | apply Kd.V_drew)); exact HO_1.out) hb); replace HO_7 := zm (Kd.V_below (by (with_reducible repeat (first | apply Kd.V_alloc | apply Kd.V_drewN | apply Kd.V_drew)); exact HO_7.out) hb); replace HO_9 := zm (Kd.R_below (by (with_reducible repeat (first | apply Kd.R_alloc | apply Kd.R_drewN | apply Kd.R_drew)); exact HO_9.out) hb); replace HO290 := zm (Kd.V_below (by (with_reducible repeat (first | apply Kd.V_alloc | apply Kd.V_drewN | apply Kd.V_drew)); exact HO290.out) hb); replace HO294 := zm (Kd.V_below (by (with_reducible repeat (first | apply Kd.V_alloc | apply Kd.V_drewN | apply Kd.V_drew)); exact HO294.out) hb); replace BK271 := zm (blk_below (g := gb271) zK hb); replace BK278 := zm (blk_below (g := gb278) zK hb); replace HB := zm (below_step zG hb); (try clear hb)) | (go_at_call 18; (with_reducible refine (e_Within.calls _ _ x9_2 _ _ t288 true _ ?side1 ?side2 ?side3 ?side4 A51.out).mono ?_); (case side1 => exact zC ((Kd.R_reads' HO_9.out).2.2)); (case side2 => exact (Kd.R_reads' HO_9.out).2.1); (case side3 => exact zC ((Kd.V_reads' HO290.out).2.2)); (case side4 => exact (Kd.V_reads' HO290.out).2.1); rintro e w64 ⟨rfl, hb⟩; replace HO_1 := zm (Kd.V_below (by (with_reducible repeat (first | apply Kd.V_alloc | apply Kd.V_drewN | apply Kd.V_drew)); exact HO_1.out) hb); replace HO_7 := zm (Kd.V_below (by (with_reducible repeat (first | apply Kd.V_alloc | apply Kd.V_drewN | apply Kd.V_drew)); exact HO_7.out) hb); replace HO_9 := zm (Kd.R_below (by (with_reducible repeat (first | apply Kd.R_alloc | apply Kd.R_drewN | apply Kd.R_drew)); exact HO_9.out) hb); replace HO290 := zm (Kd.V_below (by (with_reducible repeat (first | apply Kd.V_alloc | apply Kd.V_drewN | apply Kd.V_drew)); exact HO290.out) hb); replace HO294 := zm (Kd.V_below (by (with_reducible repeat (first | apply Kd.V_alloc | apply Kd.V_drewN | apply Kd.V_drew)); exact HO294.out) hb); replace BK271 := zm (blk_below (g := gb271) zK hb); replace BK278 := zm (blk_below (g := gb278) zK hb); replace HB := zm (below_step zG hb); (try clear hb)))
              go_meet
              case rel => exact ⟨_, (true), zR, H', ⟨by have := HJ4.out; have := HK2.out; first | omega | exact Nat.le_refl _⟩, ⟨by (with_reducible repeat (first | apply Kd.V_alloc | apply Kd.V_drewN | apply Kd.V_drew)); exact HO_7.out⟩, ⟨by (with_reducible repeat (first | apply Kd.R_alloc | apply Kd.R_drewN | apply Kd.R_drew)); exact HO_9.out⟩, ⟨by (with_reducible repeat (first | apply Kd.V_alloc | apply Kd.V_drewN | apply Kd.V_drew)); exact HO290.out⟩, ⟨zK⟩, ⟨zK⟩, ⟨zG⟩⟩
            ·replace c52 := Bool.eq_false_iff.mpr c52
             subst c52
             rw [if_neg (show ¬ (false = true) by decide)] at H
             have H' := zm H
             clear H
             obtain ⟨Ao66, co66, eo66⟩ := Kd.V_slice HO_7.out
             subst eo66
             obtain ⟨Ao67, co67, eo67⟩ := Kd.V_slice HO290.out
             subst eo67
             go_wp2_with (first | (go_at_call 18; (with_reducible refine (e_Within.calls _ _ x9_2 _ _ t288 false _ ?side1 ?side2 ?side3 ?side4 A51.out).mono ?_); (case side1 => exact zC ((Kd.R_reads' HO_9.out).2.2)); (case side2 => exact (Kd.R_reads' HO_9.out).2.1); (case side3 => exact zC ((Kd.V_reads' HO290.out).2.2)); (case side4 => exact (Kd.V_reads' HO290.out).2.1); rintro e w68 ⟨rfl, hb⟩; replace HO_1 := zm (Kd.V_below (by (with_reducible repeat (first | apply Kd.V_alloc | apply Kd.V_drewN | apply Kd.V_drew)); exact HO_1.out) hb); replace HO_7 := zm (Kd.V_below (by (with_reducible repeat (first | apply Kd.V_alloc | apply Kd.V_drewN | apply Kd.V_drew)); exact HO_7.out) hb); replace HO_9 := zm (Kd.R_below (by (with_reducible repeat (first | apply Kd.R_alloc | apply Kd.R_drewN | apply Kd.R_drew)); exact HO_9.out) hb); replace HO290 := zm (Kd.V_below (by (with_reducible repeat (first | apply Kd.V_alloc | apply Kd.V_drewN | apply Kd.V_drew)); exact HO290.out) hb); replace HO294 := zm (Kd.V_below (by (with_reducible repeat (first | apply Kd.V_alloc | apply Kd.V_drewN | apply Kd.V_drew)); exact HO294.out) hb); replace BK271 := zm (blk_below (g := gb271) zK hb); replace BK278 := zm (blk_below (g := gb278) zK hb); replace HB := zm (below_step zG hb); (try clear hb)))
             go_meet
             case rel => exact ⟨_, (true), zR, H', ⟨by have := HJ4.out; have := HK2.out; first | omega | exact Nat.le_refl _⟩, ⟨by (with_reducible repeat (first | apply Kd.V_alloc | apply Kd.V_drewN | apply Kd.V_drew)); exact HO_7.out⟩, ⟨by (with_reducible repeat (first | apply Kd.R_alloc | apply Kd.R_drewN | apply Kd.R_drew)); exact HO_9.out⟩, ⟨by (with_reducible repeat (first | apply Kd.V_alloc | apply Kd.V_drewN | apply Kd.V_drew)); exact HO290.out⟩, ⟨zK⟩, ⟨zK⟩, ⟨zG⟩⟩
           ·rw [if_neg c50] at H
            have c50b0 : ((t279.length : Int) == 6) = false := beq_eq_false_iff_ne.mpr c50
            have c50b1 : ((t279.length : Int) != 6) = true := bne_iff_ne.mpr c50
            have H' := zm H
            clear H
            obtain ⟨Ao69, co69, eo69⟩ := Kd.V_slice HO_7.out
            subst eo69
            go_wp2
            go_meet
            case rel => exact ⟨_, (true), zR, H', ⟨by have := HJ4.out; have := HK2.out; first | omega | exact Nat.le_refl _⟩, ⟨by (with_reducible repeat (first | apply Kd.V_alloc | apply Kd.V_drewN | apply Kd.V_drew)); exact HO_7.out⟩, ⟨by (with_reducible repeat (first | apply Kd.R_alloc | apply Kd.R_drewN | apply Kd.R_drew)); exact HO_9.out⟩, ⟨by (with_reducible repeat (first | apply Kd.V_alloc | apply Kd.V_drewN | apply Kd.V_drew)); exact HO290.out⟩, ⟨zK⟩, ⟨zK⟩, ⟨zG⟩⟩
          ·rw [if_neg c49] at H
           have c49b0 : (t295 == 0) = false := beq_eq_false_iff_ne.mpr c49
           have c49b1 : (t295 != 0) = true := bne_iff_ne.mpr c49
           have H' := zm H
           clear H
           go_wp2
           go_meet
           case rel => exact ⟨_, (true), zR, H', ⟨by have := HJ4.out; have := HK2.out; first | omega | exact Nat.le_refl _⟩, ⟨by (with_reducible repeat (first | apply Kd.V_alloc | apply Kd.V_drewN | apply Kd.V_drew)); exact HO_7.out⟩, ⟨by (with_reducible repeat (first | apply Kd.R_alloc | apply Kd.R_drewN | apply Kd.R_drew)); exact HO_9.out⟩, ⟨by (with_reducible repeat (first | apply Kd.V_alloc | apply Kd.V_drewN | apply Kd.V_drew)); exact HO290.out⟩, ⟨zK⟩, ⟨zK⟩, ⟨zG⟩⟩
         ·rw [if_neg c48] at H
          have c48b0 : (t291 == 0) = false := beq_eq_false_iff_ne.mpr c48
          have c48b1 : (t291 != 0) = true := bne_iff_ne.mpr c48
          have H' := zm H
          clear H
          go_wp2
          go_meet
          case rel => exact ⟨_, (true), zR, H', ⟨by have := HJ4.out; have := HK2.out; first | omega | exact Nat.le_refl _⟩, ⟨by (with_reducible repeat (first | apply Kd.V_alloc | apply Kd.V_drewN | apply Kd.V_drew)); exact HO_7.out⟩, ⟨by (with_reducible repeat (first | apply Kd.R_alloc | apply Kd.R_drewN | apply Kd.R_drew)); exact HO_9.out⟩, ⟨by (with_reducible repeat (first | apply Kd.V_alloc | apply Kd.V_drewN | apply Kd.V_drew)); exact HO290.out⟩, ⟨zK⟩, ⟨zK⟩, ⟨zG⟩⟩
        ·rw [if_neg c47] at H
         have c47b0 : (t282 == 0) = false := beq_eq_false_iff_ne.mpr c47
         have c47b1 : (t282 != 0) = true := bne_iff_ne.mpr c47
         (first | rw [c47b0] | (simp only [i64_w, i32_w]; rw [c47b0]) | skip)
         have H' := zm H
         clear H
         go_wp2
         go_meet
         case rel => exact ⟨_, (true), zR, H', ⟨by have := HJ4.out; have := HK2.out; first | omega | exact Nat.le_refl _⟩, ⟨by (with_reducible repeat (first | apply Kd.V_alloc | apply Kd.V_drewN | apply Kd.V_drew)); exact HO_7.out⟩, ⟨by (with_reducible repeat (first | apply Kd.R_alloc | apply Kd.R_drewN | apply Kd.R_drew)); exact HO_9.out⟩, ⟨by (with_reducible repeat (first | apply Kd.V_alloc | apply Kd.V_drewN | apply Kd.V_drew)); exact HO290.out⟩, ⟨zK⟩, ⟨zK⟩, ⟨zG⟩⟩
       case rest =>
        clear HC39
        clear c30b0 hcz42_0 hcz42_1 hcz42_2 hcz45_0 hcz45_1 hcz45_2 hfz42_0 hfz42_1 hfz42_2 hfz45_0 hfz45_1 hfz45_2
        obtain ⟨kq, x99_38, rfl, HA, HJ38, HO_7, HO_9, HO_11, BK271, BK278, HB⟩ := hcut
        cases kq with
        | zero => exact absurd HA.out (by simp [l4_LeastAdds.j2])
        | succ kj38 =>
         have H := HA.out
         clear HA
         simp only [l4_LeastAdds.j2] at H
         by_cases c70 : x99_38 = true
         ·subst c70
          rw [if_pos rfl] at H
          obtain rfl := Option.some.inj H
          go_wp2
          go_ret
          exact ⟨zE, zG⟩
         ·replace c70 := Bool.eq_false_iff.mpr c70
          subst c70
          rw [if_neg (show ¬ (false = true) by decide)] at H
          have H' := zm H
          clear H
          go_wp2
          go_loopg [15] kj38 (fun kq v15 w' => ∃ (x15_4 : Int), v15 = .int .i64 x15_4 ∧ Aside0 (l4_LeastAdds.l1 kq t272 t279 x9_2 t288 x15_4 = some r) ∧ Aside0 (kq ≤ kj38) ∧ Aside0 (Kd.V k41 41 w' w.heap.size (fun k_ => some k_ ≠ ((.slice Ao43 x9_2.length co43) : Value).ownBlock ∧ k_ ≠ gb271 ∧ k_ ≠ gb278) v280 t279) ∧ Aside0 (Kd.R k41 41 w' w.heap.size (fun _ => True) (.slice Ao43 x9_2.length co43) x9_2) ∧ Aside0 (Kd.V k41 41 w' w.heap.size (fun k_ => some k_ ≠ ((.slice Ao43 x9_2.length co43) : Value).ownBlock ∧ k_ ≠ gb271 ∧ k_ ≠ gb278) v289 t288) ∧ Aside0 (w'.heap[gb271]? = some (.cells #[.int .i64 a0_0, (.slice A0_1 l0_1.length c0_1), (.slice A0_2 l0_2.length c0_2)] 25 (0, 0))) ∧ Aside0 (w'.heap[gb278]? = some (.cells #[.int .i64 a0_0, (.slice A0_1 l0_1.length c0_1), (.slice none 0 0)] 25 (0, 0))) ∧ Aside0 (Below w.heap.size w w'))
          case atStart => exact ⟨(0), zR, H', ⟨Nat.le_refl _⟩, ⟨by (with_reducible repeat (first | apply Kd.V_alloc | apply Kd.V_drewN | apply Kd.V_drew)); exact HO_7.out⟩, ⟨by (with_reducible repeat (first | apply Kd.R_alloc | apply Kd.R_drewN | apply Kd.R_drew)); exact HO_9.out⟩, ⟨by (with_reducible repeat (first | apply Kd.V_alloc | apply Kd.V_drewN | apply Kd.V_drew)); exact HO_11.out⟩, ⟨zK⟩, ⟨zK⟩, ⟨zG⟩⟩
          case round =>
           clear H'
           obtain ⟨x15_4, rfl, HA, HK4, HO_7, HO_9, HO_11, BK271, BK278, HB⟩ := hrel
           cases gk with
           | zero => exact absurd HA.out (by simp [l4_LeastAdds.l1])
           | succ k4 =>
            have H := HA.out
            clear HA
            simp only [l4_LeastAdds.l1] at H
            by_cases c71 : x15_4 < (t288.length : Int)
            ·rw [if_pos c71] at H
             have c71b0 : decide (x15_4 < (t288.length : Int)) = true := decide_eq_true c71
             clear c71
             have HC72 := zm H
             clear H
             obtain ⟨Ao73, co73, eo73⟩ := Kd.V_slice HO_11.out
             subst eo73
             go_upto_region 21 with (fail)
             go_cut [123] (fun v123 wc => ∃ (kq : Nat) (x123_71 : Bool), v123 = .bool x123_71 ∧ Aside0 (l4_LeastAdds.j4 kq t272 t279 x9_2 t288 x15_4 x123_71 = some r) ∧ Aside0 (kq ≤ k4) ∧ Aside0 (Kd.V k41 41 wc w.heap.size (fun k_ => some k_ ≠ ((.slice Ao43 x9_2.length co43) : Value).ownBlock ∧ k_ ≠ gb271 ∧ k_ ≠ gb278) v280 t279) ∧ Aside0 (Kd.R k41 41 wc w.heap.size (fun _ => True) (.slice Ao43 x9_2.length co43) x9_2) ∧ Aside0 (Kd.V k41 41 wc w.heap.size (fun k_ => some k_ ≠ ((.slice Ao43 x9_2.length co43) : Value).ownBlock ∧ k_ ≠ gb271 ∧ k_ ≠ gb278) (.slice Ao73 t288.length co73) t288) ∧ Aside0 (wc.heap[gb271]? = some (.cells #[.int .i64 a0_0, (.slice A0_1 l0_1.length c0_1), (.slice A0_2 l0_2.length c0_2)] 25 (0, 0))) ∧ Aside0 (wc.heap[gb278]? = some (.cells #[.int .i64 a0_0, (.slice A0_1 l0_1.length c0_1), (.slice none 0 0)] 25 (0, 0))) ∧ Aside0 (Below w.heap.size w wc))
             case first =>
              have H := HC72.out
              clear HC72
              by_cases c74 : 0 ≤ x15_4
              ·rw [if_pos c74] at H
               have c74b0 := eq_true c74
               have c74b1 : decide (0 ≤ x15_4) = true := decide_eq_true c74
               clear c74
               by_cases c75 : x15_4 ≤ (wrap64 (x15_4 + 1))
               ·rw [if_pos c75] at H
                have c75b0 := eq_true c75
                have c75b1 : decide (x15_4 ≤ (wrap64 (x15_4 + 1))) = true := decide_eq_true c75
                by_cases c76 : (wrap64 (x15_4 + 1)) ≤ (t288.length : Int)
                ·rw [if_pos c76] at H
                 have c76b0 := eq_true c76
                 have c76b1 : decide ((wrap64 (x15_4 + 1)) ≤ (t288.length : Int)) = true := decide_eq_true c76
                 obtain ⟨y299, hy299⟩ : ∃ y_ : List (S41), y_ = ((t288.take ((wrap64 (x15_4 + 1)) : Int).toNat).drop (x15_4 : Int).toNat) := ⟨_, rfl⟩
                 replace H : ((e_Within.f y299 x9_2).bind fun t304 => (if t304 = true then (l4_LeastAdds.j4 k4 t272 t279 x9_2 t288 x15_4 false) else ((e_Within.f ((t288.take ((wrap64 (x15_4 + 1)) : Int).toNat).drop (x15_4 : Int).toNat) t279).bind fun t310 => (l4_LeastAdds.j4 k4 t272 t279 x9_2 t288 x15_4 (!t310))))) = some r := by first | (rw [hy299]; with_reducible exact H) | (have H2_ := (Option.bind_some _ _).symm.trans H; rw [hy299]; with_reducible exact H2_) | (have H2_ := (Option.bind_some _ _).symm.trans H; with_reducible exact H2_) | with_reducible exact H | (rw [hy299]; exact H) | exact H
                 have Ny299 := zm hy299
                 clear hy299
                 obtain ⟨t304, A77, H⟩ := zO H
                 by_cases c78 : t304 = true
                 ·subst c78
                  rw [if_pos rfl] at H
                  have H' := zm H
                  clear H
                  have q79 : ((wrap64 (x15_4 + 1)) : Int) ≤ ((t288.length : Int) : Int) := of_decide_eq_true zA
                  obtain ⟨i079, hi079, _, hsz79, _⟩ := info_parts info41
                  have hroom79 : t288.length ≤ co73 := (Kd.V_reads' HO_11.out).2.1
                  have hC79 : Kd.F k41 _ _ Ao73 t288.length t288 := (Kd.V_at (base := w.heap.size) HO_11.out).2.2
                  have ql79 : (x15_4 : Int) ≤ ((wrap64 (x15_4 + 1)) : Int) := of_decide_eq_true zA
                  have q079 : (0 : Int) ≤ (x15_4 : Int) := of_decide_eq_true zA
                  have hcut79 := cut_mid (P := Try.prog) 26 41 .i64 .i64 Try.underlying26 hi079 4 hsz79 Ao73 t288.length co73 x15_4 (wrap64 (x15_4 + 1)) q079 ql79 q79 hroom79
                  have hr79 := Kd.F_mid (lo := (x15_4 : Int).toNat) (hi := ((wrap64 (x15_4 + 1)) : Int).toNat) (c := co73) hC79 (by omega) (by omega) hroom79
                  obtain ⟨A79, hA79⟩ : ∃ A1, A1 = (if co73 = (x15_4 : Int).toNat then Ao73 else (Ao73 : Option Addr).map (·.add ((x15_4 : Int).toNat * 4))) := ⟨_, rfl⟩
                  obtain ⟨c79, hc79⟩ : ∃ c1, c1 = co73 - (x15_4 : Int).toNat := ⟨_, rfl⟩
                  have hy79 : y299.length = ((wrap64 (x15_4 + 1)) : Int).toNat - (x15_4 : Int).toNat := (by rw [Ny299.out, List.length_drop, List.length_take] <;> omega)
                  rw [show ((t288).take ((wrap64 (x15_4 + 1)) : Int).toNat).drop (x15_4 : Int).toNat = y299 from Ny299.out.symm] at hr79
                  replace hr79 : Kd.F k41 _ _ A79 y299.length y299 := (by rw [hA79]; exact hr79)
                  rw [← hy79, ← hA79, ← hc79] at hcut79
                  have HO303 := zm (show Kd.V k41 41 _ w.heap.size _ (.slice A79 y299.length c79) y299 from Kd.V_mk (by rw [hy79, hc79]; exact Nat.sub_le_sub_right (Nat.le_trans (by omega) hroom79) _) hr79)
                  have HC303 := zm (show y299.length ≤ c79 from by rw [hy79, hc79]; exact Nat.sub_le_sub_right (Nat.le_trans (by omega) hroom79) _)
                  clear hr79 hC79 hroom79 hi079 hsz79 hc79
                  have KY79 := zm hy79
                  have KA79 := zm hA79
                  clear hy79 hA79
                  replace q79 := eq_true q79
                  go_wp2_with (first | ((with_reducible refine gate_callee (f := 18) rfl ?_); refine goesL_ (some 112) rfl rfl Try.func18 (by kernel_rfl) rfl #[.slice A79 y299.length c79, .slice Ao43 x9_2.length co43] rfl zP ?_; (with_reducible refine (e_Within.calls _ _ y299 _ _ x9_2 true _ ?side1 ?side2 ?side3 ?side4 A77.out).mono ?_); (case side1 => exact zC ((Kd.V_reads' HO303.out).2.2)); (case side2 => exact (Kd.V_reads' HO303.out).2.1); (case side3 => exact zC ((Kd.R_reads' HO_9.out).2.2)); (case side4 => exact (Kd.R_reads' HO_9.out).2.1); rintro e w80 ⟨rfl, hb⟩; refine ⟨_, rfl, ?_⟩; replace HO_7 := zm (Kd.V_below (by (with_reducible repeat (first | apply Kd.V_alloc | apply Kd.V_drewN | apply Kd.V_drew)); exact HO_7.out) hb); replace HO_9 := zm (Kd.R_below (by (with_reducible repeat (first | apply Kd.R_alloc | apply Kd.R_drewN | apply Kd.R_drew)); exact HO_9.out) hb); replace HO_11 := zm (Kd.V_below (by (with_reducible repeat (first | apply Kd.V_alloc | apply Kd.V_drewN | apply Kd.V_drew)); exact HO_11.out) hb); replace HO303 := zm (Kd.V_below (by (with_reducible repeat (first | apply Kd.V_alloc | apply Kd.V_drewN | apply Kd.V_drew)); exact HO303.out) hb); replace BK271 := zm (blk_below (g := gb271) zK hb); replace BK278 := zm (blk_below (g := gb278) zK hb); replace HB := zm (below_step zG hb); (try clear hb)))
                  go_meet
                  case rel => exact ⟨_, (false), zR, H', ⟨by have := HJ4.out; have := HK2.out; have := HJ38.out; have := HK4.out; first | omega | exact Nat.le_refl _⟩, ⟨by (with_reducible repeat (first | apply Kd.V_alloc | apply Kd.V_drewN | apply Kd.V_drew)); exact HO_7.out⟩, ⟨by (with_reducible repeat (first | apply Kd.R_alloc | apply Kd.R_drewN | apply Kd.R_drew)); exact HO_9.out⟩, ⟨by (with_reducible repeat (first | apply Kd.V_alloc | apply Kd.V_drewN | apply Kd.V_drew)); exact HO_11.out⟩, ⟨zK⟩, ⟨zK⟩, ⟨zG⟩⟩
                 ·replace c78 := Bool.eq_false_iff.mpr c78
                  subst c78
                  rw [if_neg (show ¬ (false = true) by decide)] at H
                  have c81b0 := eq_true (of_decide_eq_true zA : 0 ≤ x15_4)
                  have c82b0 := eq_true (of_decide_eq_true zA : x15_4 ≤ (wrap64 (x15_4 + 1)))
                  have c83b0 := eq_true (of_decide_eq_true zA : (wrap64 (x15_4 + 1)) ≤ (t288.length : Int))
                  obtain ⟨y305, hy305⟩ : ∃ y_ : List (S41), y_ = ((t288.take ((wrap64 (x15_4 + 1)) : Int).toNat).drop (x15_4 : Int).toNat) := ⟨_, rfl⟩
                  replace H : ((e_Within.f y305 t279).bind fun t310 => (l4_LeastAdds.j4 k4 t272 t279 x9_2 t288 x15_4 (!t310))) = some r := by first | (rw [hy305]; with_reducible exact H) | (have H2_ := (Option.bind_some _ _).symm.trans H; rw [hy305]; with_reducible exact H2_) | (have H2_ := (Option.bind_some _ _).symm.trans H; with_reducible exact H2_) | with_reducible exact H | (rw [hy305]; exact H) | exact H
                  have Ny305 := zm hy305
                  clear hy305
                  obtain ⟨t310, A84, H⟩ := zO H
                  have H' := zm H
                  clear H
                  have q85 : ((wrap64 (x15_4 + 1)) : Int) ≤ ((t288.length : Int) : Int) := of_decide_eq_true zA
                  obtain ⟨i085, hi085, _, hsz85, _⟩ := info_parts info41
                  have hroom85 : t288.length ≤ co73 := (Kd.V_reads' HO_11.out).2.1
                  have hC85 : Kd.F k41 _ _ Ao73 t288.length t288 := (Kd.V_at (base := w.heap.size) HO_11.out).2.2
                  have ql85 : (x15_4 : Int) ≤ ((wrap64 (x15_4 + 1)) : Int) := of_decide_eq_true zA
                  have q085 : (0 : Int) ≤ (x15_4 : Int) := of_decide_eq_true zA
                  have hcut85 := cut_mid (P := Try.prog) 26 41 .i64 .i64 Try.underlying26 hi085 4 hsz85 Ao73 t288.length co73 x15_4 (wrap64 (x15_4 + 1)) q085 ql85 q85 hroom85
                  have hr85 := Kd.F_mid (lo := (x15_4 : Int).toNat) (hi := ((wrap64 (x15_4 + 1)) : Int).toNat) (c := co73) hC85 (by omega) (by omega) hroom85
                  obtain ⟨A85, hA85⟩ : ∃ A1, A1 = (if co73 = (x15_4 : Int).toNat then Ao73 else (Ao73 : Option Addr).map (·.add ((x15_4 : Int).toNat * 4))) := ⟨_, rfl⟩
                  obtain ⟨c85, hc85⟩ : ∃ c1, c1 = co73 - (x15_4 : Int).toNat := ⟨_, rfl⟩
                  have hy85 : y299.length = ((wrap64 (x15_4 + 1)) : Int).toNat - (x15_4 : Int).toNat := (by rw [Ny299.out, List.length_drop, List.length_take] <;> omega)
                  rw [show ((t288).take ((wrap64 (x15_4 + 1)) : Int).toNat).drop (x15_4 : Int).toNat = y299 from Ny299.out.symm] at hr85
                  replace hr85 : Kd.F k41 _ _ A85 y299.length y299 := (by rw [hA85]; exact hr85)
                  rw [← hy85, ← hA85, ← hc85] at hcut85
                  have HO303 := zm (show Kd.V k41 41 _ w.heap.size _ (.slice A85 y299.length c85) y299 from Kd.V_mk (by rw [hy85, hc85]; exact Nat.sub_le_sub_right (Nat.le_trans (by omega) hroom85) _) hr85)
                  have HC303 := zm (show y299.length ≤ c85 from by rw [hy85, hc85]; exact Nat.sub_le_sub_right (Nat.le_trans (by omega) hroom85) _)
                  clear hr85 hC85 hroom85 hi085 hsz85 hc85
                  have KY85 := zm hy85
                  have KA85 := zm hA85
                  clear hy85 hA85
                  replace q85 := eq_true q85
                  go_wp2_with (first | ((with_reducible refine gate_callee (f := 18) rfl ?_); refine goesL_ (some 112) rfl rfl Try.func18 (by kernel_rfl) rfl #[.slice A85 y299.length c85, .slice Ao43 x9_2.length co43] rfl zP ?_; (with_reducible refine (e_Within.calls _ _ y299 _ _ x9_2 false _ ?side1 ?side2 ?side3 ?side4 A77.out).mono ?_); (case side1 => exact zC ((Kd.V_reads' HO303.out).2.2)); (case side2 => exact (Kd.V_reads' HO303.out).2.1); (case side3 => exact zC ((Kd.R_reads' HO_9.out).2.2)); (case side4 => exact (Kd.R_reads' HO_9.out).2.1); rintro e w86 ⟨rfl, hb⟩; refine ⟨_, rfl, ?_⟩; replace HO_7 := zm (Kd.V_below (by (with_reducible repeat (first | apply Kd.V_alloc | apply Kd.V_drewN | apply Kd.V_drew)); exact HO_7.out) hb); replace HO_9 := zm (Kd.R_below (by (with_reducible repeat (first | apply Kd.R_alloc | apply Kd.R_drewN | apply Kd.R_drew)); exact HO_9.out) hb); replace HO_11 := zm (Kd.V_below (by (with_reducible repeat (first | apply Kd.V_alloc | apply Kd.V_drewN | apply Kd.V_drew)); exact HO_11.out) hb); replace HO303 := zm (Kd.V_below (by (with_reducible repeat (first | apply Kd.V_alloc | apply Kd.V_drewN | apply Kd.V_drew)); exact HO303.out) hb); replace BK271 := zm (blk_below (g := gb271) zK hb); replace BK278 := zm (blk_below (g := gb278) zK hb); replace HB := zm (below_step zG hb); (try clear hb); have q87 : ((wrap64 (x15_4 + 1)) : Int) ≤ ((t288.length : Int) : Int) := of_decide_eq_true zA; obtain ⟨i087, hi087, _, hsz87, _⟩ := info_parts info41; have hroom87 : t288.length ≤ co73 := (Kd.V_reads' HO_11.out).2.1; have hC87 : Kd.F k41 _ _ Ao73 t288.length t288 := (Kd.V_at (base := w.heap.size) HO_11.out).2.2; have ql87 : (x15_4 : Int) ≤ ((wrap64 (x15_4 + 1)) : Int) := of_decide_eq_true zA; have q087 : (0 : Int) ≤ (x15_4 : Int) := of_decide_eq_true zA; clear hcut85; have hcut87 := cut_mid (P := Try.prog) 26 41 .i64 .i64 Try.underlying26 hi087 4 hsz87 Ao73 t288.length co73 x15_4 (wrap64 (x15_4 + 1)) q087 ql87 q87 hroom87; have hr87 := Kd.F_mid (lo := (x15_4 : Int).toNat) (hi := ((wrap64 (x15_4 + 1)) : Int).toNat) (c := co73) hC87 (by omega) (by omega) hroom87; obtain ⟨A87, hA87⟩ : ∃ A1, A1 = (if co73 = (x15_4 : Int).toNat then Ao73 else (Ao73 : Option Addr).map (·.add ((x15_4 : Int).toNat * 4))) := ⟨_, rfl⟩; obtain ⟨c87, hc87⟩ : ∃ c1, c1 = co73 - (x15_4 : Int).toNat := ⟨_, rfl⟩; have hy87 : y305.length = ((wrap64 (x15_4 + 1)) : Int).toNat - (x15_4 : Int).toNat := (by rw [Ny305.out, List.length_drop, List.length_take] <;> omega); rw [show ((t288).take ((wrap64 (x15_4 + 1)) : Int).toNat).drop (x15_4 : Int).toNat = y305 from Ny305.out.symm] at hr87; replace hr87 : Kd.F k41 _ _ A87 y305.length y305 := (by rw [hA87]; exact hr87); rw [← hy87, ← hA87, ← hc87] at hcut87; have HO309 := zm (show Kd.V k41 41 _ w.heap.size _ (.slice A87 y305.length c87) y305 from Kd.V_mk (by rw [hy87, hc87]; exact Nat.sub_le_sub_right (Nat.le_trans (by omega) hroom87) _) hr87); have HC309 := zm (show y305.length ≤ c87 from by rw [hy87, hc87]; exact Nat.sub_le_sub_right (Nat.le_trans (by omega) hroom87) _); clear hr87 hC87 hroom87 hi087 hsz87 hc87; have KY87 := zm hy87; have KA87 := zm hA87; clear hy87 hA87; replace q87 := eq_true q87; obtain ⟨Ao88, co88, eo88⟩ := Kd.V_slice HO_7.out; subst eo88) | (go_at_call 18; (with_reducible refine (e_Within.calls _ _ y305 _ _ t279 t310 _ ?side1 ?side2 ?side3 ?side4 A84.out).mono ?_); (case side1 => exact zC ((Kd.V_reads' HO309.out).2.2)); (case side2 => exact (Kd.V_reads' HO309.out).2.1); (case side3 => exact zC ((Kd.V_reads' HO_7.out).2.2)); (case side4 => exact (Kd.V_reads' HO_7.out).2.1); rintro e w89 ⟨rfl, hb⟩; replace HO_7 := zm (Kd.V_below (by (with_reducible repeat (first | apply Kd.V_alloc | apply Kd.V_drewN | apply Kd.V_drew)); exact HO_7.out) hb); replace HO_9 := zm (Kd.R_below (by (with_reducible repeat (first | apply Kd.R_alloc | apply Kd.R_drewN | apply Kd.R_drew)); exact HO_9.out) hb); replace HO_11 := zm (Kd.V_below (by (with_reducible repeat (first | apply Kd.V_alloc | apply Kd.V_drewN | apply Kd.V_drew)); exact HO_11.out) hb); replace HO303 := zm (Kd.V_below (by (with_reducible repeat (first | apply Kd.V_alloc | apply Kd.V_drewN | apply Kd.V_drew)); exact HO303.out) hb); replace HO309 := zm (Kd.V_below (by (with_reducible repeat (first | apply Kd.V_alloc | apply Kd.V_drewN | apply Kd.V_drew)); exact HO309.out) hb); replace BK271 := zm (blk_below (g := gb271) zK hb); replace BK278 := zm (blk_below (g := gb278) zK hb); replace HB := zm (below_step zG hb); (try clear hb)))
                  go_meet
                  case rel => exact ⟨_, (!t310), zR, H', ⟨by have := HJ4.out; have := HK2.out; have := HJ38.out; have := HK4.out; first | omega | exact Nat.le_refl _⟩, ⟨by (with_reducible repeat (first | apply Kd.V_alloc | apply Kd.V_drewN | apply Kd.V_drew)); exact HO_7.out⟩, ⟨by (with_reducible repeat (first | apply Kd.R_alloc | apply Kd.R_drewN | apply Kd.R_drew)); exact HO_9.out⟩, ⟨by (with_reducible repeat (first | apply Kd.V_alloc | apply Kd.V_drewN | apply Kd.V_drew)); exact HO_11.out⟩, ⟨zK⟩, ⟨zK⟩, ⟨zG⟩⟩
                ·rw [if_neg c76] at H
                 exact absurd H (by simp)
               ·rw [if_neg c75] at H
                exact absurd H (by simp)
              ·rw [if_neg c74] at H
               exact absurd H (by simp)
             case rest =>
              clear HC72
              clear c71b0
              obtain ⟨kq, x123_71, rfl, HA, HJ71, HO_7, HO_9, HO_11, BK271, BK278, HB⟩ := hcut
              cases kq with
              | zero => exact absurd HA.out (by simp [l4_LeastAdds.j4])
              | succ kj71 =>
               have H := HA.out
               clear HA
               simp only [l4_LeastAdds.j4] at H
               by_cases c90 : x123_71 = true
               ·subst c90
                rw [if_pos rfl] at H
                obtain rfl := Option.some.inj H
                go_wp2
                go_ret
                exact ⟨zE, zG⟩
               ·replace c90 := Bool.eq_false_iff.mpr c90
                subst c90
                rw [if_neg (show ¬ (false = true) by decide)] at H
                have H' := zm H
                clear H
                go_wp2
                go_roundg kj71
                case measure => have := HJ4.out; have := HK2.out; have := HJ38.out; have := HK4.out; have := HJ71.out; omega
                case rel => exact ⟨(wrap64 (x15_4 + 1)), zR, H', ⟨by have := HJ4.out; have := HK2.out; have := HJ38.out; have := HK4.out; have := HJ71.out; omega⟩, ⟨by (with_reducible repeat (first | apply Kd.V_alloc | apply Kd.V_drewN | apply Kd.V_drew)); exact HO_7.out⟩, ⟨by (with_reducible repeat (first | apply Kd.R_alloc | apply Kd.R_drewN | apply Kd.R_drew)); exact HO_9.out⟩, ⟨by (with_reducible repeat (first | apply Kd.V_alloc | apply Kd.V_drewN | apply Kd.V_drew)); exact HO_11.out⟩, ⟨zK⟩, ⟨zK⟩, ⟨zG⟩⟩
            ·rw [if_neg c71] at H
             have c71b0 : decide (x15_4 < (t288.length : Int)) = false := decide_eq_false c71
             clear c71
             obtain rfl := Option.some.inj H
             obtain ⟨Ao91, co91, eo91⟩ := Kd.V_slice HO_11.out
             subst eo91
             go_wp2
             go_ret
             exact ⟨zE, zG⟩
end Go.Proofs.Ytngppcmdaanheaa.Pr
namespace Go.Proofs.Ytngppcmdaanheaa.Ev
open Go.RowKit Go.Proofs.YtngppcmdaanheaaW.PrintWords
def Ev (p : Nat → Prop) : Prop := ∃ K, ∀ k, K ≤ k → p k
theorem Ev.all {p : Nat → Prop} (h : ∀ k, p k) : Ev p := ⟨0, fun k _ => h k⟩
theorem Ev.ex {p : Nat → Prop} (h : Ev p) : ∃ k, p k := by obtain ⟨K, h⟩ := h; exact ⟨K, h K (Nat.le_refl _)⟩
theorem Ev.and {p q : Nat → Prop} (h : Ev p) (g : Ev q) : Ev fun k => p k ∧ q k := by
 obtain ⟨K, h⟩ := h
 obtain ⟨M, g⟩ := g
 exact ⟨K + M, fun k hk => ⟨h k (by omega), g k (by omega)⟩⟩
theorem Ev.mono {p q : Nat → Prop} (h : Ev p) (f : ∀ k, p k → q k) : Ev q := by
 obtain ⟨K, h⟩ := h
 exact ⟨K, fun k hk => f k (h k hk)⟩
theorem Ev.succ {p q : Nat → Prop} (h : Ev p) (f : ∀ k, p k → q (k + 1)) : Ev q := by
 obtain ⟨K, h⟩ := h
 refine ⟨K + 1, fun k hk => ?_⟩
 obtain ⟨k, rfl⟩ : ∃ j, k = j + 1 := ⟨k - 1, by omega⟩
 exact f k (h k (by omega))
theorem Ev.step {q : Nat → Prop} (f : ∀ k, q (k + 1)) : Ev q := (Ev.all (p := fun _ => True) fun _ => trivial).succ fun k _ => f k
theorem wrap_nat (i : Nat) (h : i + 1 ≤ 9223372036854775807) : wrap64 ((i : Int) + 1) = ((i + 1 : Nat) : Int) := by
 unfold wrap64
 omega
theorem drop_len {α : Type} (l : List α) (i : Nat) (h : l.length ≤ i) : l.drop i = [] := List.drop_eq_nil_of_le h
end Go.Proofs.Ytngppcmdaanheaa.Ev
namespace Go.Proofs.Ytngppcmdaanheaa.Lv
open Go.RowKit Go.Proofs.Ytngppcmdaanheaa.ISet Go.Proofs.Ytngppcmdaanheaa.Pr Go.Proofs.Ytngppcmdaanheaa.Ls Go.Proofs.Ytngppcmdaanheaa.Ev Go.Proofs.YtngppcmdaanheaaW.PrintWords Go.Proofs.YtngppcmdaanheaaW.PrintMore
set_option linter.unusedVariables false
set_option linter.unusedSimpArgs false
abbrev FunT := S44
abbrev RuT := S46
def Mk (x : Int) : Prop := 0 ≤ x ∧ x ≤ 1000001
def InR (f : Fa) : Prop := 3 ≤ f.f0 ∧ f.f0 ≤ 9 ∧ Mk f.f1 ∧ Mk f.f3 ∧ f.f2.size ≤ maxLen
theorem InR.wf {f : Fa} (h : InR f) : wfF f := by
 obtain ⟨h0, h1, ⟨h2, h3⟩, ⟨h4, h5⟩, h6⟩ := h
 have hw : ∀ x : Int, 0 ≤ x → x ≤ 1000001 → (Lit.int .i64 x).wf = true := fun x a b => by
  have h1 : IntKind.i64.min = -9223372036854775808 := by decide
  have h2 : IntKind.i64.max = 9223372036854775807 := by decide
  simp only [Lit.wf, Bool.and_eq_true, decide_eq_true_iff, h1, h2]
  omega
 exact ⟨hw _ (by omega) (by omega), hw _ h2 h3, h6, hw _ h4 h5⟩
def All (L : List Fa) : Prop := ∀ f ∈ L, InR f
theorem All.nil : All [] := fun f h => by cases h
theorem All.app {L M : List Fa} (h : All L) (k : All M) : All (L ++ M) := fun f hf => (List.mem_append.1 hf).elim (h f) (k f)
theorem All.rg {n : Nat} {F : Nat → List Fa} (h : ∀ i, i < n → All (F i)) : All (rg n F) := fun f hf => by
 obtain ⟨i, hi, hm⟩ := mem_rg.1 hf
 exact h i hi f hm
theorem noS_le : noS.size ≤ maxLen := by decide
theorem protoS_le : protoS.size ≤ maxLen := by decide
theorem All.ask {kind a : Int} {s : ByteArray} {xs : List Int} (hk : 3 ≤ kind ∧ kind ≤ 9) (ha : Mk a) (hs : s.size ≤ maxLen) (hx : ∀ x ∈ xs, Mk x) : All (askL kind a s xs) := fun f hf => by
 obtain ⟨x, h, rfl⟩ := List.mem_map.1 hf
 exact ⟨hk.1, hk.2, ha, hx x h, hs⟩
theorem one_mk {x y : Int} (h : Mk x) : y ∈ [x] → Mk y := fun k => by rw [List.mem_singleton.1 k]; exact h
theorem rg_len {n : Nat} {F : Nat → List Fa} {B : Nat} (h : ∀ i, i < n → (F i).length ≤ B) : (rg n F).length ≤ n * B := by
 induction n with
 | zero => simp [rg_zero]
 | succ n ih =>
  rw [rg_succ, List.length_append, Nat.succ_mul]
  have h1 := ih (fun i hi => h i (by omega))
  have h2 := h n (by omega)
  omega
theorem askL_len (kind a : Int) (s : ByteArray) (xs : List Int) : (askL kind a s xs).length = xs.length := by simp [askL]
/-! ### systems and facts that may be -/
def InS (s0 x : Int) : Prop := 0 ≤ x ∧ x < s0
theorem setsB_iff {s0 : Int} {l : List Int} : setsB s0 l = true ↔ ∀ x ∈ l, InS s0 x := by
 unfold setsB
 rw [Bool.not_eq_true', List.any_eq_false]
 refine ⟨fun h x hx => ?_, fun h x hx => ?_⟩
 ·have h1 := h x hx
  simp only [isNo, Bool.or_eq_true, decide_eq_true_iff, not_or] at h1
  exact ⟨by omega, by omega⟩
 ·have h1 := h x hx
  simp only [isNo, Bool.or_eq_true, decide_eq_true_iff, not_or]
  exact ⟨by have := h1.1; omega, by have := h1.2; omega⟩
structure SysOk (s0 : Int) (fs : List FunT) (rs : List RuT) : Prop where
 s : 9 ≤ s0 ∧ s0 ≤ 100000
 fn : 1 ≤ fs.length ∧ fs.length ≤ 15
 rn : rs.length ≤ 40
 f : ∀ f ∈ fs, f.f1.length ≤ 200 ∧ (∀ p ∈ f.f1, InS s0 p) ∧ InS s0 f.f2 ∧ InS s0 f.f3 ∧ InS s0 f.f4
 fm : ∀ i : Nat, 0 < i → i < fs.length → 4 ≤ (rd_T44 fs (i : Int)).f0 ∧ (rd_T44 fs (i : Int)).f0 < 1000000
 r : ∀ x ∈ rs, fitsB s0 fs.length x = true ∧ x.f8.length ≤ 205 ∧ x.f7.size ≤ maxLen
structure FactOk (s0 : Int) (nf : Nat) (f : Fa) : Prop where
 a : Mk f.f1
 b : Mk f.f3
 k : f.f0 = 3 ∨ f.f0 = 4 ∨ f.f0 = 5 ∨ f.f0 = 6 ∧ f.f1 < nf ∧ f.f3 = 0 ∨ f.f0 = 8 ∨ f.f0 = 9 ∧ f.f1 < s0
 s : f.f0 ≠ 3 → f.f2 = (⟨#[]⟩ : ByteArray)
structure FactsOk (s0 : Int) (nf : Nat) (l : List Fa) : Prop where
 ok : ∀ f ∈ l, FactOk s0 nf f
 srt : l.Pairwise LF
 len : l.length ≤ 100
 sz : ∀ f ∈ l, f.f2.size ≤ maxLen
theorem FactOk.inR {s0 : Int} {nf : Nat} {f : Fa} (h : FactOk s0 nf f) (hs : f.f2.size ≤ maxLen) : InR f := ⟨by rcases h.k with e | e | e | ⟨e, _⟩ | e | ⟨e, _⟩ <;> omega, by rcases h.k with e | e | e | ⟨e, _⟩ | e | ⟨e, _⟩ <;> omega, h.a, h.b, hs⟩
theorem InS.mk {s0 x : Int} (h : InS s0 x) (hs : s0 ≤ 100000) : Mk x := ⟨h.1, by have := h.2; omega⟩
section
variable {s0 : Int} {fs : List FunT} {rs : List RuT} {l : List Fa}
theorem bs_mk (hl : FactsOk s0 fs.length l) {kind a x : Int} (hx : x ∈ bsL l kind a) : Mk x := by
 unfold bsL toldR at hx
 obtain ⟨f, hf, rfl⟩ := List.mem_map.1 hx
 exact (hl.ok f (List.mem_filter.1 hf).1).b
theorem loads_mk (hl : FactsOk s0 fs.length l) {p : ByteArray → Bool} {m x : Int} (hx : x ∈ loadsL l p m) : Mk x := by
 unfold loadsL at hx
 obtain ⟨f, hf, rfl⟩ := List.mem_map.1 hx
 exact (hl.ok f (List.mem_filter.1 hf).1).b
theorem rdF_mem {i : Nat} (h : i < fs.length) : rd_T44 fs (i : Int) ∈ fs := by
 unfold rd_T44
 rw [Int.toNat_natCast, List.getD_eq_getElem?_getD, List.getElem?_eq_getElem h]
 exact List.getElem_mem h
theorem rdR_mem {i : Nat} (h : i < rs.length) : rd_T46 rs (i : Int) ∈ rs := by
 unfold rd_T46
 rw [Int.toNat_natCast, List.getD_eq_getElem?_getD, List.getElem?_eq_getElem h]
 exact List.getElem_mem h
theorem rdA_mem {i : Nat} (h : i < l.length) : rd_T41 l (i : Int) ∈ l := by
 unfold rd_T41
 rw [Int.toNat_natCast, List.getD_eq_getElem?_getD, List.getElem?_eq_getElem h]
 exact List.getElem_mem h
structure ClOk (s0 : Int) (N : Nat) (x : Cl) : Prop where
 mark : Mk x.mark
 this : ∀ y ∈ x.this, Mk y
 ret : Mk x.ret
 out : Mk x.out
 tl : x.this.length ≤ N
 al : x.args.length ≤ 205
theorem call_all (hs : SysOk s0 fs rs) (hl : FactsOk s0 fs.length l) {N : Nat} {x : Cl} (hx : ClOk s0 N x) {c : Int} (hc : Mk c) : All (callL (roC s0 fs rs l) x c) := by
 have hb : ∀ a, ∀ y ∈ bsL l 9 a, Mk y := fun a y hy => bs_mk hl hy
 have hspare : ∀ t, Mk t → Mk (t + 1) → Mk (t + 2) → Mk (t + 3) → All (spareAsk l x c t) := fun t h0 h1 h2 h3 => by
  unfold spareAsk
  refine All.app (All.ask (by omega) hx.mark noS_le (fun y => one_mk hc)) (All.app (All.ask (by omega) h0 noS_le hx.this) (All.app (All.rg (fun i _ => All.app (All.ask (by omega) h1 noS_le (hb _)) All.nil)) (All.app ?_ (All.app (All.ask (by omega) hx.ret noS_le (hb _)) (All.app (All.ask (by omega) hx.out noS_le (hb _)) All.nil)))))
  split
  ·exact All.ask (by omega) h1 noS_le (hb _)
  ·exact All.nil
 unfold callL
 refine All.app (All.rg (fun g hg => ?_)) ?_
 ·unfold funAsk
  split
  ·exact All.nil
  ·obtain ⟨_, hp, h2, h3, h4⟩ := hs.f _ (rdF_mem hg)
   have hs1 := hs.s.2
   refine All.app (All.ask (by omega) hx.mark noS_le (fun y => one_mk hc)) (All.app (All.ask (by omega) ⟨by omega, by have := hs.fn.2; have hg' : g < fs.length := hg; omega⟩ noS_le (fun y => one_mk ⟨by omega, by omega⟩)) (All.app (All.ask (by omega) (h2.mk hs1) noS_le hx.this) (All.app (All.rg (fun i hi => ?_)) (All.app (All.ask (by omega) hx.ret noS_le (hb _)) (All.app (All.ask (by omega) hx.out noS_le (hb _)) All.nil)))))
   have hpi : Mk (rd (rd_T44 fs (g : Int)).f1 (i : Int)) := (hp _ (rd_mem _ i hi)).mk hs1
   unfold parAsk
   split
   ·exact All.app (All.ask (by omega) hpi noS_le (hb _)) All.nil
   ·split
    ·exact All.app (All.ask (by omega) hpi noS_le (hb _)) All.nil
    ·exact All.nil
 ·have h1 := hs.s
  unfold tailAsk
  split
  ·exact hspare _ ⟨by simp only [roC]; omega, by simp only [roC]; omega⟩ ⟨by simp only [roC]; omega, by simp only [roC]; omega⟩ ⟨by simp only [roC]; omega, by simp only [roC]; omega⟩ ⟨by simp only [roC]; omega, by simp only [roC]; omega⟩
  ·split
   ·exact hspare _ ⟨by simp only [roC]; omega, by simp only [roC]; omega⟩ ⟨by simp only [roC]; omega, by simp only [roC]; omega⟩ ⟨by simp only [roC]; omega, by simp only [roC]; omega⟩ ⟨by simp only [roC]; omega, by simp only [roC]; omega⟩
   ·exact All.nil
theorem call_len (hs : SysOk s0 fs rs) (hl : FactsOk s0 fs.length l) {x : Cl} (hx : ClOk s0 100 x) (c : Int) : (callL (roC s0 fs rs l) x c).length ≤ 400000 := by
 have hb : ∀ a, (bsL l 9 a).length ≤ 100 := fun a => Nat.le_trans (bsL_le l 9 a) hl.len
 have h1 : (rg fs.length (funAsk l x c fs)).length ≤ fs.length * 20402 := rg_len (fun g hg => by
  unfold funAsk
  split
  ·simp
  ·have hp := (hs.f _ (rdF_mem hg)).1
   have h2 : (rg (rd_T44 fs (g : Int)).f1.length (parAsk l x (rd_T44 fs (g : Int)).f1)).length ≤ (rd_T44 fs (g : Int)).f1.length * 100 := rg_len (fun i hi => by
    unfold parAsk
    split
    ·rw [List.append_nil, askL_len]; exact hb _
    ·split
     ·rw [List.append_nil, askL_len]; exact hb _
     ·simp)
   have h3 := hb (rd_T44 fs (g : Int)).f3
   have h4 := hb (rd_T44 fs (g : Int)).f4
   have h5 := hx.tl
   simp only [List.length_append, askL_len, List.length_nil, List.length_singleton]
   omega)
 have h2 : ∀ t, (spareAsk l x c t).length ≤ 21000 := fun t => by
  unfold spareAsk
  have h3 : (rg x.args.length (argAsk l x t)).length ≤ x.args.length * 100 := rg_len (fun i hi => by
   unfold argAsk
   rw [List.append_nil, askL_len]; exact hb _)
  have h4 := hx.al
  have h5 := hx.tl
  have h6 := hb (t + 2)
  have h7 := hb (t + 3)
  have h8 : (if 0 ≤ x.each then askL 9 (t + 1) noS (bsL l 9 x.each) else []).length ≤ 100 := by
   split
   ·rw [askL_len]; exact hb _
   ·simp
  simp only [List.length_append, askL_len, List.length_nil, List.length_singleton]
  omega
 have h3 : (tailAsk s0 l x c).length ≤ 21000 := by
  unfold tailAsk
  split
  ·exact h2 _
  ·split
   ·exact h2 _
   ·simp
 have h4 := hs.fn.2
 show (rg fs.length (funAsk l x c fs) ++ tailAsk s0 l x c).length ≤ _
 rw [List.length_append]
 omega
end
end Go.Proofs.Ytngppcmdaanheaa.Lv
namespace Go.Proofs.Ytngppcmdaanheaa.Lv
open Go.RowKit Go.Proofs.Ytngppcmdaanheaa.ISet Go.Proofs.Ytngppcmdaanheaa.Pr Go.Proofs.Ytngppcmdaanheaa.Ls Go.Proofs.Ytngppcmdaanheaa.Ev Go.Proofs.YtngppcmdaanheaaW.PrintWords Go.Proofs.YtngppcmdaanheaaW.PrintMore
set_option linter.unusedVariables false
set_option linter.unusedSimpArgs false
section
variable {s0 : Int} {fs : List FunT} {rs : List RuT} {l : List Fa}
theorem isM_mk {m : Int} (h : isM m = true) : Mk m := by
 unfold isM at h
 split at h
 ·have := of_decide_eq_true h
  exact ⟨by omega, by omega⟩
 ·cases h
structure RuOk (s0 : Int) (nf : Nat) (x : RuT) : Prop where
 x2 : InS s0 x.f2
 k : kindB s0 nf x = true
theorem fitsB_ok {nf : Nat} {x : RuT} (h : fitsB s0 nf x = true) : RuOk s0 nf x := by
 unfold fitsB at h
 split at h
 ·cases h
 ·split at h
  ·cases h
  ·split at h
   ·rename_i hs
    exact ⟨setsB_iff.1 hs x.f2 (List.mem_singleton.2 rfl), h⟩
   ·cases h
theorem callB_ok {x : RuT} (h : callB s0 x = true) : Mk x.f6 ∧ InS s0 x.f3 ∧ InS s0 x.f5 := by
 unfold callB at h
 simp only [Bool.and_eq_true] at h
 obtain ⟨h1, h2, _⟩ := h
 exact ⟨isM_mk h1, setsB_iff.1 h2 _ (by simp), setsB_iff.1 h2 _ (by simp)⟩
theorem each_cases {nf : Nat} {x : RuT} (h : RuOk s0 nf x) : (x.f0 = 4 ∨ x.f0 = 5 ∨ x.f0 = 6 ∨ x.f0 = 7 ∨ x.f0 = 3 → InS s0 x.f3) ∧ (x.f0 = 8 ∨ x.f0 = 9 → Mk x.f6 ∧ InS s0 x.f3 ∧ InS s0 x.f5) := by
 have hk := h.k
 unfold kindB at hk
 constructor
 ·intro hx
  rw [if_neg (by omega), if_neg (by omega), if_neg (by omega), if_neg (by omega), if_pos (by omega)] at hk
  exact setsB_iff.1 hk _ (List.mem_singleton.2 rfl)
 ·rintro (hx | hx)
  ·rw [if_neg (by omega), if_neg (by omega), if_pos hx] at hk
   split at hk
   ·exact callB_ok hk
   ·split at hk
    ·exact callB_ok hk
    ·cases hk
  ·rw [if_neg (by omega), if_neg (by omega), if_neg (by omega), if_pos hx] at hk
   exact callB_ok hk
theorem clOk_rule (hs : SysOk s0 fs rs) (hl : FactsOk s0 fs.length l) {x : RuT} (h8 : x.f8.length ≤ 205) (h : Mk x.f6 ∧ InS s0 x.f3 ∧ InS s0 x.f5) {th : List Int} (ht : ∀ y ∈ th, Mk y) (htl : th.length ≤ 100) :
  ClOk s0 100 ⟨x.f6, th, x.f8, -1, x.f3, x.f5⟩ := ⟨h.1, ht, h.2.1.mk hs.s.2, h.2.2.mk hs.s.2, htl, h8⟩
theorem bsl100 (hl : FactsOk s0 fs.length l) (kind a : Int) : (bsL l kind a).length ≤ 100 := Nat.le_trans (bsL_le l kind a) hl.len
theorem each_all (hs : SysOk s0 fs rs) (hl : FactsOk s0 fs.length l) {x : RuT} (hx : x ∈ rs) {c : Int} (hc : Mk c) : All (eachL (roC s0 fs rs l) x c) := by
 obtain ⟨hf, h8, h7⟩ := hs.r x hx
 obtain ⟨e1, e2⟩ := each_cases (fitsB_ok hf)
 have hb : ∀ a, ∀ y ∈ bsL l 9 a, Mk y := fun a y hy => bs_mk hl hy
 have hs1 := hs.s.2
 unfold eachL
 by_cases h4 : x.f0 = 4
 ·rw [if_pos h4]
  exact All.ask (by omega) ((e1 (by omega)).mk hs1) noS_le (fun y hy => loads_mk hl hy)
 rw [if_neg h4]
 by_cases h5 : x.f0 = 5
 ·rw [if_pos h5]
  exact All.ask (by omega) ((e1 (by omega)).mk hs1) noS_le (fun y hy => loads_mk hl hy)
 rw [if_neg h5]
 by_cases h6 : x.f0 = 6
 ·rw [if_pos h6]
  exact All.ask (by omega) hc h7 (hb _)
 rw [if_neg h6]
 by_cases h7' : x.f0 = 7
 ·rw [if_pos h7']
  exact All.ask (by omega) hc noS_le (hb _)
 rw [if_neg h7']
 by_cases h8' : x.f0 = 8
 ·rw [if_pos h8']
  refine call_all hs hl (clOk_rule hs hl h8 (e2 (.inl h8')) ?_ ?_) hc
  ·split
   ·exact hb _
   ·intro y hy; cases hy
  ·split
   ·exact bsl100 hl _ _
   ·simp
 rw [if_neg h8']
 by_cases h9 : x.f0 = 9
 ·rw [if_pos h9]
  obtain ⟨m1, m2, m3⟩ := e2 (.inr h9)
  split
  ·exact All.app (All.ask (by omega) (m2.mk hs1) noS_le (fun y => one_mk m1)) (All.app (All.ask (by omega) m1 noS_le (fun y => one_mk ⟨by omega, by omega⟩)) (All.app (All.ask (by omega) m1 noS_le (fun y hy => loads_mk hl hy)) (call_all hs hl (clOk_rule hs hl h8 ⟨m1, m2, m3⟩ (fun y => one_mk m1) (by simp)) hc)))
  ·exact All.nil
 rw [if_neg h9]
 exact All.nil
theorem loads100 (hl : FactsOk s0 fs.length l) (p : ByteArray → Bool) (m : Int) : (loadsL l p m).length ≤ 100 := Nat.le_trans (loadsL_le l p m) hl.len
theorem each_len (hs : SysOk s0 fs rs) (hl : FactsOk s0 fs.length l) {x : RuT} (hx : x ∈ rs) (c : Int) : (eachL (roC s0 fs rs l) x c).length ≤ 500000 := by
 obtain ⟨hf, h8, h7⟩ := hs.r x hx
 obtain ⟨e1, e2⟩ := each_cases (fitsB_ok hf)
 have hs1 := hs.s.2
 unfold eachL
 by_cases h4 : x.f0 = 4
 ·rw [if_pos h4, askL_len]
  have := loads100 hl (fun k => decide (k = x.f7)) c
  simp only [roC]; omega
 rw [if_neg h4]
 by_cases h5 : x.f0 = 5
 ·rw [if_pos h5, askL_len]
  have := loads100 hl (fun _ => true) c
  simp only [roC]; omega
 rw [if_neg h5]
 by_cases h6 : x.f0 = 6
 ·rw [if_pos h6, askL_len]
  have := bsl100 hl 9 x.f3
  simp only [roC]; omega
 rw [if_neg h6]
 by_cases h7' : x.f0 = 7
 ·rw [if_pos h7', askL_len]
  have := bsl100 hl 9 x.f3
  simp only [roC]; omega
 rw [if_neg h7']
 by_cases h8' : x.f0 = 8
 ·rw [if_pos h8']
  refine Nat.le_trans (call_len hs hl (clOk_rule hs hl h8 (e2 (.inl h8')) ?_ ?_) c) (by omega)
  ·split
   ·exact fun y hy => bs_mk hl hy
   ·intro y hy; cases hy
  ·split
   ·exact bsl100 hl _ _
   ·simp
 rw [if_neg h8']
 by_cases h9 : x.f0 = 9
 ·rw [if_pos h9]
  obtain ⟨m1, m2, m3⟩ := e2 (.inr h9)
  split
  ·have h1 := call_len hs hl (clOk_rule hs hl h8 ⟨m1, m2, m3⟩ (th := [x.f6]) (fun y => one_mk m1) (by simp)) c
   have h2 := loads100 hl (fun k => decide (k = protoS)) c
   simp only [List.length_append, askL_len, List.length_singleton]
   simp only [roC] at h1 h2 ⊢
   omega
  ·simp
 rw [if_neg h9]
 simp
theorem mark_ok (hs : SysOk s0 fs rs) {x : RuT} (hx : x ∈ rs) (h2 : x.f0 = 2) : 0 ≤ x.f5 ∧ x.f5 < fs.length ∧ 0 ≤ markOf (roC s0 fs rs l) x ∧ markOf (roC s0 fs rs l) x ≤ 1000000 := by
 have hk := (fitsB_ok (hs.r x hx).1).k
 unfold kindB at hk
 rw [if_neg (by omega), if_pos h2] at hk
 split at hk
 ·have h3 := of_decide_eq_true hk
  have h4 := hs.fm x.f5.toNat (by omega) (by omega)
  rw [show ((x.f5.toNat : Nat) : Int) = x.f5 by omega] at h4
  refine ⟨by omega, h3, ?_, ?_⟩ <;> unfold markOf <;> simp only [roC] <;> omega
 ·cases hk
theorem rule_all (hs : SysOk s0 fs rs) (hl : FactsOk s0 fs.length l) {x : RuT} (hx : x ∈ rs) : All (ruleL (roC s0 fs rs l) x) := by
 have hs1 := hs.s.2
 obtain ⟨hf, h8, h7⟩ := hs.r x hx
 have hro := fitsB_ok hf
 have hk := hro.k
 unfold ruleL
 refine All.app ?_ (All.rg (fun i hi => each_all hs hl hx (bs_mk hl (rd_mem _ i hi))))
 unfold headL
 by_cases h1 : x.f0 = 1
 ·rw [if_pos h1]
  unfold kindB at hk
  rw [if_pos h1] at hk
  have hm := isM_mk hk
  exact All.app (All.ask (by omega) (hro.x2.mk hs1) noS_le (fun y => one_mk hm)) (All.ask (by omega) hm noS_le (fun y => one_mk ⟨by omega, by omega⟩))
 rw [if_neg h1]
 by_cases h2 : x.f0 = 2
 ·rw [if_pos h2]
  obtain ⟨_, _, m0, m1⟩ := mark_ok (l := l) hs hx h2
  have hm : Mk (markOf (roC s0 fs rs l) x) := ⟨m0, by omega⟩
  have hm1 : Mk (markOf (roC s0 fs rs l) x + 1) := ⟨by omega, by omega⟩
  exact All.app (All.ask (by omega) (hro.x2.mk hs1) noS_le (fun y => one_mk hm)) (All.app (All.ask (by omega) hm protoS_le (fun y => one_mk hm1)) (All.app (All.ask (by omega) hm noS_le (fun y => one_mk ⟨by omega, by omega⟩)) (All.ask (by omega) hm1 noS_le (fun y => one_mk ⟨by omega, by omega⟩))))
 rw [if_neg h2]
 by_cases h3 : x.f0 = 3
 ·rw [if_pos h3]
  exact All.ask (by omega) (((each_cases hro).1 (by omega)).mk hs1) noS_le (fun y hy => bs_mk hl hy)
 rw [if_neg h3]
 exact All.nil
theorem rule_len (hs : SysOk s0 fs rs) (hl : FactsOk s0 fs.length l) {x : RuT} (hx : x ∈ rs) : (ruleL (roC s0 fs rs l) x).length ≤ 60000000 := by
 have h1 : (rg (bsL l 9 x.f2).length (fun i => eachL (roC s0 fs rs l) x (rd (bsL l 9 x.f2) (i : Int)))).length ≤ (bsL l 9 x.f2).length * 500000 := rg_len (fun i hi => each_len hs hl hx _)
 have h2 := bsl100 hl 9 x.f2
 have h3 : (headL (roC s0 fs rs l) x).length ≤ 200 := by
  unfold headL
  split
  ·simp [askL_len]
  ·split
   ·simp [askL_len]
   ·split
    ·rw [askL_len]; simp only [roC]; omega
    ·simp
 unfold ruleL
 rw [List.length_append]
 have h4 : (rg (bsL (roC s0 fs rs l).l 9 x.f2).length (fun i => eachL (roC s0 fs rs l) x (rd (bsL (roC s0 fs rs l).l 9 x.f2) (i : Int)))).length ≤ (bsL l 9 x.f2).length * 500000 := h1
 omega
theorem built_all (hs : SysOk s0 fs rs) (hl : FactsOk s0 fs.length l) {f : Fa} (hf : f ∈ l) : All (builtL (roC s0 fs rs l) f) := by
 have h0 := hl.ok f hf
 have hb : ∀ a, ∀ y ∈ bsL l 9 a, Mk y := fun a y hy => bs_mk hl hy
 have hs1 := hs.s
 have hap : ∀ t ea, Mk (t + 2) → Mk (t + 3) → All (apL (roC s0 fs rs l) t ea f.f1) := fun t ea h2 h3 => by
  unfold apL
  exact All.rg (fun i hi => call_all (N := 100) hs hl ⟨h0.a, hb _, h2, h3, bsl100 hl _ _, by simp⟩ (hb _ _ (rd_mem _ i hi)))
 unfold builtL
 split
 ·exact hap _ _ ⟨by simp only [roC]; omega, by simp only [roC]; omega⟩ ⟨by simp only [roC]; omega, by simp only [roC]; omega⟩
 ·split
  ·refine All.app ?_ (hap _ _ ⟨by simp only [roC]; omega, by simp only [roC]; omega⟩ ⟨by simp only [roC]; omega, by simp only [roC]; omega⟩)
   unfold spreadL
   exact All.rg (fun i hi => All.app (All.ask (by omega) ⟨by simp only [roC]; omega, by simp only [roC]; omega⟩ noS_le (fun y hy => loads_mk hl hy)) All.nil)
  ·exact All.nil
theorem built_len (hs : SysOk s0 fs rs) (hl : FactsOk s0 fs.length l) {f : Fa} (hf : f ∈ l) : (builtL (roC s0 fs rs l) f).length ≤ 60000000 := by
 have h0 := hl.ok f hf
 have hb : ∀ a, ∀ y ∈ bsL l 9 a, Mk y := fun a y hy => bs_mk hl hy
 have hs1 := hs.s
 have hap : ∀ t ea, Mk (t + 2) → Mk (t + 3) → (apL (roC s0 fs rs l) t ea f.f1).length ≤ 40000000 := fun t ea h2 h3 => by
  have h1 : (apL (roC s0 fs rs l) t ea f.f1).length ≤ (bsL l 9 t).length * 400000 := rg_len (fun i hi => call_len hs hl ⟨h0.a, hb _, h2, h3, bsl100 hl _ _, by simp⟩ _)
  have h2 := bsl100 hl 9 t
  omega
 unfold builtL
 split
 ·refine Nat.le_trans (hap _ _ ⟨by simp only [roC]; omega, by simp only [roC]; omega⟩ ⟨by simp only [roC]; omega, by simp only [roC]; omega⟩) (by omega)
 ·split
  ·have h1 := hap (s0 - 9 + 4) (s0 - 9 + 8) ⟨by omega, by omega⟩ ⟨by omega, by omega⟩
   have h2 : (spreadL (roC s0 fs rs l) (s0 - 9 + 4) (s0 - 9 + 8)).length ≤ (bsL l 9 (s0 - 9 + 4 + 1)).length * 100 := rg_len (fun i hi => by
    rw [List.append_nil, askL_len]
    exact loads100 hl _ _)
   have h3 := bsl100 hl 9 (s0 - 9 + 4 + 1)
   rw [List.length_append]
   simp only [roC] at h1 h2 ⊢
   omega
  ·simp
theorem round_all (hs : SysOk s0 fs rs) (hl : FactsOk s0 fs.length l) : All (roundL (roC s0 fs rs l)) := by
 have c1 : callS.size ≤ maxLen := by decide
 have c2 : applyS.size ≤ maxLen := by decide
 have hk : ∀ z : Int, 0 ≤ z → z ≤ 3 → Mk z := fun z h0 h1 => ⟨h0, by omega⟩
 unfold roundL
 refine All.app (All.rg (fun i hi => ?_)) (All.app (All.ask (by omega) (hk _ (by omega) (by omega)) noS_le (fun y => one_mk (hk _ (by omega) (by omega)))) (All.app (All.ask (by omega) (hk _ (by omega) (by omega)) c1 (fun y => one_mk (hk _ (by omega) (by omega)))) (All.app (All.ask (by omega) (hk _ (by omega) (by omega)) c2 (fun y => one_mk (hk _ (by omega) (by omega)))) (All.app (All.ask (by omega) (hk _ (by omega) (by omega)) noS_le (fun y => one_mk (hk _ (by omega) (by omega)))) (All.app (All.ask (by omega) (hk _ (by omega) (by omega)) noS_le (fun y => one_mk (hk _ (by omega) (by omega)))) (All.app (All.ask (by omega) (hk _ (by omega) (by omega)) noS_le (fun y => one_mk (hk _ (by omega) (by omega)))) (All.rg (fun i hi => ?_))))))))
 ·have hm : rd_T41 l (i : Int) ∈ l := rdA_mem hi
  unfold oldL
  refine All.app (fun f hf => ?_) (built_all hs hl hm)
  rw [List.mem_singleton.1 hf]
  exact (hl.ok _ hm).inR (hl.sz _ hm)
 ·unfold newL
  split
  ·exact rule_all hs hl (rdR_mem hi)
  ·exact All.nil
theorem round_len (hs : SysOk s0 fs rs) (hl : FactsOk s0 fs.length l) : (roundL (roC s0 fs rs l)).length ≤ 10000000000 := by
 have h1 : (rg l.length (oldL (roC s0 fs rs l))).length ≤ l.length * 60000001 := rg_len (fun i hi => by
  have h := built_len hs hl (rdA_mem hi)
  unfold oldL
  rw [List.length_append, List.length_singleton]
  simp only [roC] at h ⊢
  omega)
 have h2 : (rg rs.length (newL (roC s0 fs rs l))).length ≤ rs.length * 60000000 := rg_len (fun i hi => by
  unfold newL
  split
  ·exact rule_len hs hl (rdR_mem hi)
  ·simp)
 have h3 := hs.rn
 have h4 := hl.len
 unfold roundL
 simp only [List.length_append, askL_len, List.length_singleton]
 simp only [roC] at h1 h2 ⊢
 omega
theorem round_ok (hs : SysOk s0 fs rs) (hl : FactsOk s0 fs.length l) : RoundOk (roC s0 fs rs l) :=
 ⟨⟨fun f hf => (round_all hs hl f hf).wf, by have := round_len hs hl; omega⟩, hl.srt, Nat.le_trans hl.len (by decide), ⟨hs.fn.1, Nat.le_trans hs.fn.2 (by decide)⟩, ⟨by have := hs.s; simp only [roC]; omega, by have := hs.s; simp only [roC]; omega⟩, fun x hx h2 => mark_ok hs hx h2⟩
theorem round_tells (hs : SysOk s0 fs rs) (hl : FactsOk s0 fs.length l) : e_round.f s0 fs rs l = some (factSet (roundL (roC s0 fs rs l))) := by
 unfold e_round.f
 rw [if_pos (round_ok hs hl)]
end
end Go.Proofs.Ytngppcmdaanheaa.Lv
namespace Go.Proofs.Ytngppcmdaanheaa.Lv
open Go.RowKit Go.Proofs.Ytngppcmdaanheaa.ISet Go.Proofs.Ytngppcmdaanheaa.Pr Go.Proofs.Ytngppcmdaanheaa.Ls Go.Proofs.Ytngppcmdaanheaa.Ev Go.Proofs.YtngppcmdaanheaaW.PrintWords Go.Proofs.YtngppcmdaanheaaW.PrintMore
set_option linter.unusedVariables false
set_option linter.unusedSimpArgs false
def FitP (s0 : Int) (nf : Nat) (f : Fa) : Prop := (0 ≤ f.f1 ∧ f.f1 ≤ 1000001 ∧ 0 ≤ f.f3 ∧ f.f3 ≤ 1000001) ∧ (f.f0 = 3 ∨ f.f2.toList = []) ∧ (f.f0 = 3 ∨ f.f0 = 4 ∨ f.f0 = 5 ∨ f.f0 = 8 ∨ (f.f0 = 6 ∧ f.f1 < (nf : Int) ∧ f.f3 = 0) ∨ (f.f0 = 9 ∧ f.f1 < s0))
instance decFit (s0 : Int) (nf : Nat) (f : Fa) : Decidable (FitP s0 nf f) := by unfold FitP; infer_instance
theorem noS_list : (⟨#[]⟩ : ByteArray).toList = [] := by rw [ByteArray.toList_eq]
theorem fitP_ok {s0 : Int} {nf : Nat} {f : Fa} : FitP s0 nf f ↔ FactOk s0 nf f := by
 constructor
 ·rintro ⟨⟨a1, a2, a3, a4⟩, h2, h3⟩
  refine ⟨⟨a1, a2⟩, ⟨a3, a4⟩, ?_, fun hne => bytes_ext ((h2.resolve_left hne).trans noS_list.symm)⟩
  rcases h3 with e | e | e | e | e | e
  ·exact .inl e
  ·exact .inr (.inl e)
  ·exact .inr (.inr (.inl e))
  ·exact .inr (.inr (.inr (.inr (.inl e))))
  ·exact .inr (.inr (.inr (.inl e)))
  ·exact .inr (.inr (.inr (.inr (.inr e))))
 ·rintro ⟨⟨a1, a2⟩, ⟨a3, a4⟩, h3, h2⟩
  refine ⟨⟨a1, a2, a3, a4⟩, ?_, ?_⟩
  ·by_cases e : f.f0 = 3
   ·exact .inl e
   ·exact .inr (by rw [h2 e]; exact noS_list)
  ·rcases h3 with e | e | e | e | e | e
   ·exact .inl e
   ·exact .inr (.inl e)
   ·exact .inr (.inr (.inl e))
   ·exact .inr (.inr (.inr (.inr (.inl e))))
   ·exact .inr (.inr (.inr (.inl e)))
   ·exact .inr (.inr (.inr (.inr (.inr e))))
theorem fit_j (s0 : Int) (fs : List FunT) (rs : List RuT) (f : Fa) (hA : 0 ≤ f.f1 ∧ f.f1 ≤ 1000001 ∧ 0 ≤ f.f3 ∧ f.f3 ≤ 1000001) (hB : f.f0 = 3 ∨ f.f2.toList = []) (k : Nat) :
  e_fits.j0 (k + 2) false s0 fs rs f.f0 f.f1 f.f2 f.f3 = some (decide (FitP s0 fs.length f)) := by
 have hj : ∀ b, e_fits.j1 (k + 1) f.f0 b s0 fs rs f.f0 f.f1 f.f2 f.f3 = if b = true then some true else (if f.f0 = 6 then (if f.f1 < (fs.length : Int) then (some (f.f3 == 0)) else (some false)) else (if f.f0 = 9 then (some (decide (f.f1 < s0))) else (some false))) := fun b => by rw [e_fits.j1]
 rw [e_fits.j0, if_neg (by decide), hj, hj, hj, hj]
 by_cases h3 : f.f0 = 3
 ·rw [if_pos h3, if_pos (by simp [h3]), decide_eq_true (show FitP s0 fs.length f from ⟨hA, hB, .inl h3⟩)]
 rw [if_neg h3]
 by_cases h4 : f.f0 = 4
 ·rw [if_pos h4, if_pos (by simp [h4]), decide_eq_true (show FitP s0 fs.length f from ⟨hA, hB, .inr (.inl h4)⟩)]
 rw [if_neg h4]
 by_cases h5 : f.f0 = 5
 ·rw [if_pos h5, if_pos (by simp [h5]), decide_eq_true (show FitP s0 fs.length f from ⟨hA, hB, .inr (.inr (.inl h5))⟩)]
 rw [if_neg h5]
 by_cases h8 : f.f0 = 8
 ·rw [if_pos (by simp [h8]), decide_eq_true (show FitP s0 fs.length f from ⟨hA, hB, .inr (.inr (.inr (.inl h8)))⟩)]
 rw [if_neg (by simpa using h8)]
 by_cases h6 : f.f0 = 6
 ·rw [if_pos h6]
  by_cases h1 : f.f1 < (fs.length : Int)
  ·rw [if_pos h1]
   by_cases hz : f.f3 = 0
   ·rw [decide_eq_true (show FitP s0 fs.length f from ⟨hA, hB, .inr (.inr (.inr (.inr (.inl ⟨h6, h1, hz⟩))))⟩)]
    simp [hz]
   ·rw [decide_eq_false (show ¬ FitP s0 fs.length f from fun h => by rcases h.2.2 with e | e | e | e | e | e <;> omega)]
    simp [hz]
  ·rw [if_neg h1, decide_eq_false (show ¬ FitP s0 fs.length f from fun h => by rcases h.2.2 with e | e | e | e | e | e <;> omega)]
 rw [if_neg h6]
 by_cases h9 : f.f0 = 9
 ·rw [if_pos h9]
  congr 1
  refine decide_eq_decide.2 ⟨fun h => ⟨hA, hB, .inr (.inr (.inr (.inr (.inr ⟨h9, h⟩))))⟩, fun h => ?_⟩
  rcases h.2.2 with e | e | e | e | e | e <;> omega
 ·rw [if_neg h9, decide_eq_false (show ¬ FitP s0 fs.length f from fun h => by rcases h.2.2 with e | e | e | e | e | e <;> omega)]
theorem fit_no (s0 : Int) (fs : List FunT) (rs : List RuT) (f : Fa) (h : ¬ FitP s0 fs.length f) (k : Nat) : e_fits.j0 (k + 1) true s0 fs rs f.f0 f.f1 f.f2 f.f3 = some (decide (FitP s0 fs.length f)) := by
 rw [e_fits.j0, if_pos rfl, decide_eq_false h]
theorem fit_tells (s0 : Int) (fs : List FunT) (rs : List RuT) (f : Fa) (k : Nat) : e_fits.f (k + 2) s0 fs rs f.f0 f.f1 f.f2 f.f3 = some (decide (FitP s0 fs.length f)) := by
 unfold e_fits.f
 by_cases h1 : mn f.f1 f.f3 < 0
 ·rw [if_pos h1]
  exact fit_no s0 fs rs f (fun h => by have := h.1; unfold mn at h1; split at h1 <;> omega) _
 rw [if_neg h1]
 by_cases h2 : mx f.f1 f.f3 > 1000001
 ·rw [if_pos h2]
  exact fit_no s0 fs rs f (fun h => by have := h.1; unfold mx at h2; split at h2 <;> omega) _
 rw [if_neg h2]
 have hA : 0 ≤ f.f1 ∧ f.f1 ≤ 1000001 ∧ 0 ≤ f.f3 ∧ f.f3 ≤ 1000001 := by
  unfold mn at h1
  unfold mx at h2
  split at h1 <;> split at h2 <;> omega
 by_cases h3 : f.f0 = 3
 ·rw [if_pos h3]
  exact fit_j s0 fs rs f hA (.inl h3) k
 rw [if_neg h3]
 by_cases he : f.f2.toList = []
 ·rw [show (f.f2.toList != ([] : List UInt8)) = false by simp [he]]
  exact fit_j s0 fs rs f hA (.inr he) k
 ·rw [show (f.f2.toList != ([] : List UInt8)) = true by simp [he]]
  exact fit_no s0 fs rs f (fun h => h.2.1.elim h3 he) _
theorem Ev.up {α : Type} {g : Nat → Option α} (hm : ∀ k, LeO (g k) (g (k + 1))) {n : Nat} {r : α} (h : g n = some r) : Ev fun k => g k = some r := by
 refine ⟨n, fun k hk => ?_⟩
 obtain ⟨d, rfl⟩ : ∃ d, k = n + d := ⟨k - n, by omega⟩
 induction d with
 | zero => exact h
 | succ d ih => exact hm (n + d) r (ih (by omega))
theorem compare_f (a b : Int) : Pr.cmp_Compare_int.f a b = some (cm a b) := by
 unfold Pr.cmp_Compare_int.f Pr.cmp_isNaN_int.f cm
 simp only [bne_self_eq_false, Option.bind_some, Bool.false_eq_true, if_false]
 by_cases h1 : a < b
 ·rw [if_pos h1, if_pos h1]
 ·rw [if_neg h1, if_neg h1]
  by_cases h2 : a > b
  ·rw [if_pos h2, if_pos h2]
  ·rw [if_neg h2, if_neg h2]
theorem or_f (a b c d : Int) : Pr.cmp_Or_int.f 9 [a, b, c, d] = some (if a ≠ 0 then a else if b ≠ 0 then b else if c ≠ 0 then c else d) := by
 have e0 : Go.Proofs.YtngppcmdaanheaaW.PrintWords.rd [a, b, c, d] 0 = a := rfl
 have e1 : Go.Proofs.YtngppcmdaanheaaW.PrintWords.rd [a, b, c, d] 1 = b := rfl
 have e2 : Go.Proofs.YtngppcmdaanheaaW.PrintWords.rd [a, b, c, d] 2 = c := rfl
 have e3 : Go.Proofs.YtngppcmdaanheaaW.PrintWords.rd [a, b, c, d] 3 = d := rfl
 by_cases ha : a = 0 <;> by_cases hb : b = 0 <;> by_cases hc : c = 0 <;> by_cases hd : d = 0 <;> simp [Pr.cmp_Or_int.f, Pr.cmp_Or_int.l0, e0, e1, e2, e3, ha, hb, hc, hd, wrap64] <;> simp_all
theorem order_f (x y : Fa) : Ev fun k => Pr.e_order.f k x.f0 x.f1 x.f2 x.f3 y.f0 y.f1 y.f2 y.f3 = some (cmpF x y) := by
 refine Ev.up (n := 9) (fun k => Pr.e_order.mono _ _ _ _ _ _ _ _ k) ?_
 have hs : Va.cmp_Compare_string.f x.f2 y.f2 = some (cmS x.f2 y.f2) := rfl
 unfold Pr.e_order.f cmpF
 simp only [compare_f, Option.bind_some, or_f, hs]
theorem cmpF_ge (x y : Fa) : decide (cmpF x y ≥ 0) = decide (¬ LF x y) := by
 refine decide_eq_decide.2 ?_
 have h := lf_iff x y
 unfold ltOf at h
 rw [decide_eq_true_iff] at h
 rw [← h]
 omega
def AreAt (s0 : Int) (nf : Nat) (l : List Fa) (j : Nat) : Prop := FitP s0 nf (rd_T41 l (j : Int)) ∧ (0 < j → LF (rd_T41 l ((j - 1 : Nat) : Int)) (rd_T41 l (j : Int)))
instance decAre (s0 : Int) (nf : Nat) (l : List Fa) (j : Nat) : Decidable (AreAt s0 nf l j) := by unfold AreAt; infer_instance
def areB (s0 : Int) (nf : Nat) (l : List Fa) : Bool := (List.range l.length).all (fun j => decide (AreAt s0 nf l j))
theorem range_drop (n i : Nat) (h : i < n) : (List.range n).drop i = i :: (List.range n).drop (i + 1) := by
 rw [List.drop_eq_getElem_cons (by simpa using h), List.getElem_range]
theorem are_loop (s0 : Int) (fs : List FunT) (rs : List RuT) (l : List Fa) (hm : l.length ≤ 1000000) (d : Nat) : ∀ i, i + d = l.length →
  Ev fun k => e_areRight.l0 k l l (l.length : Int) (i : Int) s0 fs rs = some (((List.range l.length).drop i).all (fun j => decide (AreAt s0 fs.length l j))) := by
 induction d with
 | zero =>
  intro i h
  refine Ev.step fun k => ?_
  rw [e_areRight.l0, if_neg (by omega), drop_len _ i (by simp; omega)]
  rfl
 | succ d ih =>
  intro i h
  have hi : i < l.length := by omega
  rw [range_drop l.length i hi, List.all_cons]
  have hih := ih (i + 1) (by omega)
  have hf : Ev fun k => e_fits.f k s0 fs rs (rd_T41 l (i : Int)).f0 (rd_T41 l (i : Int)).f1 (rd_T41 l (i : Int)).f2 (rd_T41 l (i : Int)).f3 = some (decide (FitP s0 fs.length (rd_T41 l (i : Int)))) := ⟨2, fun k hk => by
   obtain ⟨k, rfl⟩ : ∃ j, k = j + 2 := ⟨k - 2, by omega⟩
   exact fit_tells s0 fs rs _ k⟩
  have hyes : Ev fun k => e_areRight.j1 k l l (l.length : Int) (i : Int) true s0 fs rs = some false := Ev.step fun k => by rw [e_areRight.j1, if_pos rfl]
  have hno : Ev fun k => e_areRight.j1 k l l (l.length : Int) (i : Int) false s0 fs rs = some (((List.range l.length).drop (i + 1)).all (fun j => decide (AreAt s0 fs.length l j))) := hih.succ fun k hk => by
   rw [e_areRight.j1, if_neg (by decide), wrap_nat i (by omega)]
   exact hk
  by_cases hfit : FitP s0 fs.length (rd_T41 l (i : Int))
  ·rw [decide_eq_true hfit] at hf
   by_cases h0 : i = 0
   ·have ha : AreAt s0 fs.length l i := ⟨hfit, fun h => by omega⟩
    refine (hf.and hno).succ fun k hk => ?_
    rw [e_areRight.l0, if_pos (by omega), if_pos (by omega), if_pos (by omega), hk.1, Option.bind_some, if_pos rfl, if_neg (by omega), hk.2, decide_eq_true ha, Bool.true_and]
   ·have hw : wrap64 ((i : Int) - 1) = ((i - 1 : Nat) : Int) := by unfold wrap64; omega
    have ho := order_f (rd_T41 l ((i - 1 : Nat) : Int)) (rd_T41 l (i : Int))
    by_cases hlf : LF (rd_T41 l ((i - 1 : Nat) : Int)) (rd_T41 l (i : Int))
    ·have ha : AreAt s0 fs.length l i := ⟨hfit, fun _ => hlf⟩
     refine ((hf.and ho).and hno).succ fun k hk => ?_
     rw [e_areRight.l0, if_pos (by omega), if_pos (by omega), if_pos (by omega), hk.1.1, Option.bind_some, if_pos rfl, if_pos (by omega), hw, if_pos (by omega), if_pos (by omega), hk.1.2, Option.bind_some, cmpF_ge, decide_eq_false (by simpa using hlf), hk.2, decide_eq_true ha, Bool.true_and]
    ·have ha : ¬ AreAt s0 fs.length l i := fun h => hlf (h.2 (by omega))
     refine ((hf.and ho).and hyes).succ fun k hk => ?_
     rw [e_areRight.l0, if_pos (by omega), if_pos (by omega), if_pos (by omega), hk.1.1, Option.bind_some, if_pos rfl, if_pos (by omega), hw, if_pos (by omega), if_pos (by omega), hk.1.2, Option.bind_some, cmpF_ge, decide_eq_true hlf, hk.2, decide_eq_false ha, Bool.false_and]
  ·rw [decide_eq_false hfit] at hf
   have ha : ¬ AreAt s0 fs.length l i := fun h => hfit h.1
   refine (hf.and hyes).succ fun k hk => ?_
   rw [e_areRight.l0, if_pos (by omega), if_pos (by omega), if_pos (by omega), hk.1, Option.bind_some, if_neg (by decide), hk.2, decide_eq_false ha, Bool.false_and]
theorem are_tells (s0 : Int) (fs : List FunT) (rs : List RuT) (l : List Fa) (hm : l.length ≤ 1000000) : Ev fun k => e_areRight.f k s0 fs rs l = some (areB s0 fs.length l) :=
 (are_loop s0 fs rs l hm l.length 0 (by omega)).mono fun k hk => hk
theorem rdK_get {l : List Fa} {i : Nat} (h : i < l.length) : rd_T41 l (i : Int) = l[i] := by
 unfold rd_T41
 rw [Int.toNat_natCast, List.getD_eq_getElem?_getD, List.getElem?_eq_getElem h]
 rfl
theorem pw_of_next {l : List Fa} (h : ∀ j, 0 < j → ∀ hj : j < l.length, LF (l[j - 1]'(by omega)) l[j]) : l.Pairwise LF := by
 rw [List.pairwise_iff_getElem]
 intro i j hi hj hij
 induction j with
 | zero => omega
 | succ j ih =>
  have h1 := h (j + 1) (by omega) hj
  rcases Nat.lt_or_eq_of_le (Nat.le_of_lt_succ hij) with h2 | h2
  ·exact LF.trans (ih (by omega) h2) h1
  ·subst h2
   exact h1
theorem areB_ok {s0 : Int} {nf : Nat} {l : List Fa} : areB s0 nf l = true ↔ (∀ f ∈ l, FactOk s0 nf f) ∧ l.Pairwise LF := by
 unfold areB
 rw [List.all_eq_true]
 constructor
 ·intro h
  have h' : ∀ j, j < l.length → AreAt s0 nf l j := fun j hj => of_decide_eq_true (h j (List.mem_range.2 hj))
  refine ⟨fun f hf => ?_, pw_of_next (fun j h0 hj => ?_)⟩
  ·obtain ⟨i, hi, rfl⟩ := List.getElem_of_mem hf
   have h1 := (h' i hi).1
   rw [rdK_get hi] at h1
   exact fitP_ok.1 h1
  ·have h1 := (h' j hj).2 h0
   rw [rdK_get hj, rdK_get (by omega : j - 1 < l.length)] at h1
   exact h1
 ·rintro ⟨h1, h2⟩ j hj
  have hj' := List.mem_range.1 hj
  refine decide_eq_true ⟨?_, fun h0 => ?_⟩
  ·rw [rdK_get hj']
   exact fitP_ok.2 (h1 _ (List.getElem_mem _))
  ·rw [rdK_get hj', rdK_get (by omega : j - 1 < l.length)]
   exact List.pairwise_iff_getElem.1 h2 _ _ _ _ (by omega)
end Go.Proofs.Ytngppcmdaanheaa.Lv
namespace Go.Proofs.Ytngppcmdaanheaa.Lv
open Go.RowKit Go.Proofs.Ytngppcmdaanheaa.ISet Go.Proofs.Ytngppcmdaanheaa.Pr Go.Proofs.Ytngppcmdaanheaa.Ls Go.Proofs.Ytngppcmdaanheaa.Ev Go.Proofs.YtngppcmdaanheaaW.PrintWords Go.Proofs.YtngppcmdaanheaaW.PrintMore
set_option linter.unusedVariables false
set_option linter.unusedSimpArgs false
def SmallP (s0 : Int) (fs : List FunT) (rs : List RuT) : Prop := fs.length ≤ 15 ∧ rs.length ≤ 40 ∧ s0 ≤ 300 ∧ (∀ f ∈ fs, f.f1.length ≤ 205) ∧ ∀ x ∈ rs, x.f8.length ≤ 205 ∧ x.f7.size ≤ 100
theorem all_get {α : Type} {l : List α} {P : α → Prop} (h : ∀ j, ∀ hj : j < l.length, P l[j]) : ∀ x ∈ l, P x := fun x hx => by
 obtain ⟨i, hi, rfl⟩ := List.getElem_of_mem hx
 exact h i hi
theorem rdF_get {l : List FunT} {i : Nat} (h : i < l.length) : rd_T44 l (i : Int) = l[i] := by
 unfold rd_T44
 rw [Int.toNat_natCast, List.getD_eq_getElem?_getD, List.getElem?_eq_getElem h]
 rfl
theorem rdR_get {l : List RuT} {i : Nat} (h : i < l.length) : rd_T46 l (i : Int) = l[i] := by
 unfold rd_T46
 rw [Int.toNat_natCast, List.getD_eq_getElem?_getD, List.getElem?_eq_getElem h]
 rfl
section
variable (s0 : Int) (fs : List FunT) (rs : List RuT)
theorem small_rules (hr : rs.length ≤ 40) (d : Nat) : ∀ i, i + d = rs.length → (Ev fun k => l3_Small.l1 k (i : Int) s0 fs rs = some 0) ∨ ((∀ j, i ≤ j → ∀ hj : j < rs.length, rs[j].f8.length ≤ 205 ∧ rs[j].f7.size ≤ 100) ∧ Ev fun k => l3_Small.l1 k (i : Int) s0 fs rs = some 1) := by
 induction d with
 | zero =>
  intro i h
  refine .inr ⟨fun j h1 hj => by omega, Ev.step fun k => ?_⟩
  rw [l3_Small.l1, if_neg (by omega)]
 | succ d ih =>
  intro i h
  have hi : i < rs.length := by omega
  have hget := rdR_get hi
  have hstep : ∀ (b : Bool) (r : Int), (Ev fun k => l3_Small.j3 k (i : Int) b s0 fs rs = some r) → ((rd_T46 rs (i : Int)).f8.length : Int) > 205 ∧ b = true ∨ ¬ ((rd_T46 rs (i : Int)).f8.length : Int) > 205 ∧ b = decide (((rd_T46 rs (i : Int)).f7.size : Int) > 100) →
    Ev fun k => l3_Small.l1 k (i : Int) s0 fs rs = some r := fun b r hk hb => hk.succ fun k hk => by
   rw [l3_Small.l1, if_pos (by omega), if_pos (by omega)]
   rcases hb with ⟨h1, h2⟩ | ⟨h1, h2⟩
   ·rw [if_pos h1, ← h2]; exact hk
   ·rw [if_neg h1, ← h2]; exact hk
  have hT : Ev fun k => l3_Small.j3 k (i : Int) true s0 fs rs = some 0 := Ev.step fun k => by rw [l3_Small.j3, if_pos rfl]
  by_cases h1 : ((rd_T46 rs (i : Int)).f8.length : Int) > 205
  ·exact .inl (hstep true 0 hT (.inl ⟨h1, rfl⟩))
  by_cases h2 : ((rd_T46 rs (i : Int)).f7.size : Int) > 100
  ·exact .inl (hstep true 0 hT (.inr ⟨h1, (decide_eq_true h2).symm⟩))
  have hF : ∀ r, (Ev fun k => l3_Small.l1 k ((i + 1 : Nat) : Int) s0 fs rs = some r) → Ev fun k => l3_Small.l1 k (i : Int) s0 fs rs = some r := fun r hk => hstep false r (hk.succ fun k hk => by
   rw [l3_Small.j3, if_neg (by decide), wrap_nat i (by omega)]
   exact hk) (.inr ⟨h1, (decide_eq_false h2).symm⟩)
  rcases ih (i + 1) (by omega) with hz | ⟨ha, ho⟩
  ·exact .inl (hF 0 hz)
  ·refine .inr ⟨fun j h3 hj => ?_, hF 1 ho⟩
   rcases Nat.lt_or_eq_of_le h3 with h4 | h4
   ·exact ha j h4 hj
   ·subst h4
    rw [hget] at h1 h2
    exact ⟨by omega, by omega⟩
theorem small_funs (hf : fs.length ≤ 15) (hr : rs.length ≤ 40) (d : Nat) : ∀ i, i + d = fs.length → (Ev fun k => l3_Small.l0 k (i : Int) s0 fs rs = some 0) ∨ (((∀ j, i ≤ j → ∀ hj : j < fs.length, fs[j].f1.length ≤ 205) ∧ ∀ x ∈ rs, x.f8.length ≤ 205 ∧ x.f7.size ≤ 100) ∧ Ev fun k => l3_Small.l0 k (i : Int) s0 fs rs = some 1) := by
 induction d with
 | zero =>
  intro i h
  have hs : ∀ r, (Ev fun k => l3_Small.l1 k ((0 : Nat) : Int) s0 fs rs = some r) → Ev fun k => l3_Small.l0 k (i : Int) s0 fs rs = some r := fun r hk => hk.succ fun k hk => by
   rw [l3_Small.l0, if_neg (by omega)]
   exact hk
  rcases small_rules s0 fs rs hr rs.length 0 (by omega) with hz | ⟨ha, ho⟩
  ·exact .inl (hs 0 hz)
  ·exact .inr ⟨⟨fun j h1 hj => by omega, all_get (fun j hj => ha j (by omega) hj)⟩, hs 1 ho⟩
 | succ d ih =>
  intro i h
  have hi : i < fs.length := by omega
  have hget := rdF_get hi
  by_cases h1 : ((rd_T44 fs (i : Int)).f1.length : Int) > 205
  ·exact .inl (Ev.step fun k => by rw [l3_Small.l0, if_pos (by omega), if_pos (by omega), if_pos h1])
  have hs : ∀ r, (Ev fun k => l3_Small.l0 k ((i + 1 : Nat) : Int) s0 fs rs = some r) → Ev fun k => l3_Small.l0 k (i : Int) s0 fs rs = some r := fun r hk => hk.succ fun k hk => by
   rw [l3_Small.l0, if_pos (by omega), if_pos (by omega), if_neg h1, wrap_nat i (by omega)]
   exact hk
  rcases ih (i + 1) (by omega) with hz | ⟨⟨ha, hb⟩, ho⟩
  ·exact .inl (hs 0 hz)
  ·refine .inr ⟨⟨fun j h3 hj => ?_, hb⟩, hs 1 ho⟩
   rcases Nat.lt_or_eq_of_le h3 with h4 | h4
   ·exact ha j h4 hj
   ·subst h4
    rw [hget] at h1
    omega
theorem small_tells : (Ev fun k => l3_Small.f k s0 fs rs = some 0) ∨ (SmallP s0 fs rs ∧ Ev fun k => l3_Small.f k s0 fs rs = some 1) := by
 have hT : Ev fun k => l3_Small.j0 k true s0 fs rs = some 0 := Ev.step fun k => by rw [l3_Small.j0, if_pos rfl]
 by_cases h1 : (fs.length : Int) > 15
 ·exact .inl (hT.mono fun k hk => by rw [l3_Small.f, if_pos h1]; exact hk)
 by_cases h2 : (rs.length : Int) > 40
 ·exact .inl (hT.mono fun k hk => by rw [l3_Small.f, if_neg h1, if_pos h2]; exact hk)
 by_cases h3 : s0 > 300
 ·exact .inl (hT.mono fun k hk => by rw [l3_Small.f, if_neg h1, if_neg h2, decide_eq_true h3]; exact hk)
 have hs : ∀ r, (Ev fun k => l3_Small.l0 k ((0 : Nat) : Int) s0 fs rs = some r) → Ev fun k => l3_Small.f k s0 fs rs = some r := fun r hk => (hk.succ (q := fun k => l3_Small.j0 k false s0 fs rs = some r) fun k hk => by
  rw [l3_Small.j0, if_neg (by decide)]
  exact hk).mono fun k hk => by rw [l3_Small.f, if_neg h1, if_neg h2, decide_eq_false h3]; exact hk
 rcases small_funs s0 fs rs (by omega) (by omega) fs.length 0 (by omega) with hz | ⟨⟨ha, hb⟩, ho⟩
 ·exact .inl (hs 0 hz)
 ·exact .inr ⟨⟨by omega, by omega, by omega, all_get (fun j hj => ha j (by omega) hj), hb⟩, hs 1 ho⟩
end
theorem few_tells (l : List Fa) : l4_few.f l = some (l.take 60) := by
 unfold l4_few.f
 have h1 : mn (l.length : Int) 60 = ((min l.length 60 : Nat) : Int) := by
  unfold mn
  split <;> omega
 rw [h1, if_pos (by omega), if_pos (by omega), Int.toNat_natCast]
 congr 1
 rcases Nat.le_total l.length 60 with h | h
 ·rw [Nat.min_eq_left h, List.take_of_length_le (Nat.le_refl _), List.take_of_length_le h]
 ·rw [Nat.min_eq_right h]
section
variable {s0 : Int} {fs : List FunT} {rs : List RuT} {l : List Fa}
theorem small_s (h : SmallP s0 fs rs) : SmallS s0 fs rs := ⟨fun f hf => Nat.le_trans (h.2.2.2.1 f hf) (by decide), fun x hx => Nat.le_trans (h.2.2.2.2 x hx).1 (by decide), Nat.le_trans h.2.1 (by decide)⟩
theorem right_f (h : SmallP s0 fs rs) : v_Right.f s0 fs rs = some (rightB s0 fs rs) := by
 unfold v_Right.f
 rw [if_pos (small_s h)]
theorem sys_of (h : SmallP s0 fs rs) (hr : rightB s0 fs rs = true) : SysOk s0 fs rs := by
 unfold rightB at hr
 simp only [Bool.and_eq_true, decide_eq_true_iff, Bool.not_eq_true'] at hr
 obtain ⟨⟨h1, h2, h3⟩, h4, h5⟩ := hr
 have hf : ∀ j, ∀ hj : j < fs.length, funB s0 j fs[j] = true := fun j hj => by
  unfold funsB at h4
  rw [List.all_eq_true] at h4
  have := h4 j (List.mem_range.2 hj)
  rwa [rdF_get hj] at this
 have hm : (100 : Nat) ≤ maxLen := by decide
 refine ⟨⟨h1, h2⟩, ⟨h3, h.1⟩, h.2.1, all_get (fun j hj => ?_), fun i h0 hi => ?_, fun x hx => ⟨?_, (h.2.2.2.2 x hx).1, Nat.le_trans (h.2.2.2.2 x hx).2 hm⟩⟩
 ·have h6 := hf j hj
  unfold funB at h6
  simp only [Bool.and_eq_true, decide_eq_true_iff] at h6
  obtain ⟨a, b, c, _⟩ := h6
  have hc := setsB_iff.1 c
  exact ⟨by omega, setsB_iff.1 b, hc _ (by simp), hc _ (by simp), hc _ (by simp)⟩
 ·have h6 := hf i hi
  unfold funB at h6
  simp only [Bool.and_eq_true, Bool.or_eq_true, decide_eq_true_iff] at h6
  rw [rdF_get hi]
  rcases h6.2.2.2 with h7 | h7
  ·omega
  ·exact h7
 ·have h6 := List.any_eq_false.1 h5 x hx
  simpa using h6
theorem facts_of (ha : areB s0 fs.length l = true) (hl : l.length ≤ 100) (hz : ∀ f ∈ l, f.f2.size ≤ maxLen) : FactsOk s0 fs.length l := ⟨(areB_ok.1 ha).1, (areB_ok.1 ha).2, hl, hz⟩
theorem check_tells (h : SmallP s0 fs rs) (hl : l.length ≤ 100) : Ev fun k => e_check.f k s0 fs rs l = some (if rightB s0 fs rs = true then (if areB s0 fs.length l = true then 0 else 140) else 100) := by
 refine (are_tells s0 fs rs l (by omega)).mono fun k hk => ?_
 unfold e_check.f
 rw [right_f h, Option.bind_some]
 cases rightB s0 fs rs
 ·rfl
 ·rw [if_pos rfl, hk, Option.bind_some, if_pos rfl]
  cases areB s0 fs.length l <;> rfl
theorem Right_tells (h : SmallP s0 fs rs) (hl : l.length ≤ 100) : Ev fun k => e_Right.f k s0 fs rs l = some (rightB s0 fs rs && areB s0 fs.length l) := by
 refine (are_tells s0 fs rs l (by omega)).mono fun k hk => ?_
 unfold e_Right.f
 rw [right_f h, Option.bind_some]
 cases rightB s0 fs rs
 ·rfl
 ·rw [if_pos rfl, hk, Option.bind_some]
  rfl
theorem Round_tells (h : SmallP s0 fs rs) (hl : l.length ≤ 100) (hz : ∀ f ∈ l, f.f2.size ≤ maxLen) (hr : rightB s0 fs rs = true) (ha : areB s0 fs.length l = true) :
  Ev fun k => e_Round.f k s0 fs rs l = some (factSet (roundL (roC s0 fs rs l)), 0) := by
 refine (check_tells (l := l) h hl).mono fun k hk => ?_
 rw [if_pos hr, if_pos ha] at hk
 unfold e_Round.f
 rw [hk, Option.bind_some, if_pos rfl, round_tells (sys_of h hr) (facts_of ha hl hz), Option.bind_some]
theorem Round_no (h : SmallP s0 fs rs) (hl : l.length ≤ 100) (hn : ¬ (rightB s0 fs rs = true ∧ areB s0 fs.length l = true)) :
  Ev fun k => e_Round.f k s0 fs rs l = some ([], if rightB s0 fs rs = true then 140 else 100) := by
 refine (check_tells (l := l) h hl).mono fun k hk => ?_
 unfold e_Round.f
 by_cases hr : rightB s0 fs rs = true
 ·rw [if_pos hr, if_neg (fun ha => hn ⟨hr, ha⟩)] at hk
  rw [hk, Option.bind_some, if_neg (by decide), if_pos hr]
 ·rw [if_neg hr] at hk
  rw [hk, Option.bind_some, if_neg (by decide), if_neg hr]
theorem Closed_tells (h : SmallP s0 fs rs) (hl : l.length ≤ 100) (hz : ∀ f ∈ l, f.f2.size ≤ maxLen) (hr : rightB s0 fs rs = true) (ha : areB s0 fs.length l = true) :
  Ev fun k => e_Closed.f k s0 fs rs l = some (((factSet (roundL (roC s0 fs rs l))).length : Int) == (l.length : Int), 0) := by
 refine (check_tells (l := l) h hl).mono fun k hk => ?_
 rw [if_pos hr, if_pos ha] at hk
 unfold e_Closed.f
 rw [hk, Option.bind_some, if_pos rfl, round_tells (sys_of h hr) (facts_of ha hl hz), Option.bind_some]
end
end Go.Proofs.Ytngppcmdaanheaa.Lv
namespace Go.Proofs.Ytngppcmdaanheaa.Lv
open Go.RowKit Go.Proofs.Ytngppcmdaanheaa.ISet Go.Proofs.Ytngppcmdaanheaa.Pr Go.Proofs.Ytngppcmdaanheaa.Ls Go.Proofs.Ytngppcmdaanheaa.Ev Go.Proofs.YtngppcmdaanheaaW.PrintWords Go.Proofs.YtngppcmdaanheaaW.PrintMore
set_option linter.unusedVariables false
set_option linter.unusedSimpArgs false
def fs0 : List FunT := [⟨0, [], 0, 0, 0⟩]
def rs0 : List RuT := [⟨3, 0, 0, 1, 0, 0, 0, ⟨#[]⟩, []⟩]
def la : List Fa := [⟨6, 0, ⟨#[]⟩, 0⟩, ⟨9, 0, ⟨#[]⟩, 4⟩]
def lT : List Fa := [⟨3, 1, applyS, 3⟩, ⟨3, 1, callS, 2⟩, ⟨4, 1, ⟨#[]⟩, 0⟩, ⟨4, 2, ⟨#[]⟩, 1⟩, ⟨4, 3, ⟨#[]⟩, 1⟩, ⟨6, 0, ⟨#[]⟩, 0⟩, ⟨9, 0, ⟨#[]⟩, 4⟩, ⟨9, 1, ⟨#[]⟩, 4⟩]
theorem small0 : SmallP 20 fs0 rs0 := by
 refine ⟨by decide, by decide, by decide, ?_, ?_⟩
 ·intro f hf
  obtain rfl := List.mem_singleton.1 hf
  decide
 ·intro x hx
  obtain rfl := List.mem_singleton.1 hx
  decide
theorem right0 : rightB 20 fs0 rs0 = true := by rfl
theorem apply_call : SL applyS callS := by
 unfold SL
 rw [ByteArray.toList_eq, ByteArray.toList_eq]
 decide
theorem la_are : areB 20 fs0.length la = true := by
 refine areB_ok.2 ⟨?_, ?_⟩
 ·intro f hf
  rcases List.mem_cons.1 hf with rfl | hf
  ·exact ⟨⟨by decide, by decide⟩, ⟨by decide, by decide⟩, .inr (.inr (.inr (.inl ⟨rfl, by decide, rfl⟩))), fun _ => rfl⟩
  ·obtain rfl := List.mem_singleton.1 hf
   exact ⟨⟨by decide, by decide⟩, ⟨by decide, by decide⟩, .inr (.inr (.inr (.inr (.inr ⟨rfl, by decide⟩)))), fun _ => rfl⟩
 ·refine pw_of_next (fun j h0 hj => ?_)
  obtain rfl : j = 1 := by
   have : j < 2 := hj
   omega
  exact .inl (show (6 : Int) < 9 by decide)
theorem lT_pw : lT.Pairwise LF := by
 refine pw_of_next (fun j h0 hj => ?_)
 have h8 : j < 8 := hj
 rcases (show j = 1 ∨ j = 2 ∨ j = 3 ∨ j = 4 ∨ j = 5 ∨ j = 6 ∨ j = 7 by omega) with rfl | rfl | rfl | rfl | rfl | rfl | rfl
 ·exact .inr ⟨rfl, .inr ⟨rfl, .inl apply_call⟩⟩
 ·exact .inl (show (3 : Int) < 4 by decide)
 ·exact .inr ⟨rfl, .inl (show (1 : Int) < 2 by decide)⟩
 ·exact .inr ⟨rfl, .inl (show (2 : Int) < 3 by decide)⟩
 ·exact .inl (show (4 : Int) < 6 by decide)
 ·exact .inl (show (6 : Int) < 9 by decide)
 ·exact .inr ⟨rfl, .inl (show (0 : Int) < 1 by decide)⟩
theorem lT_are : areB 20 fs0.length lT = true := by
 refine areB_ok.2 ⟨?_, lT_pw⟩
 intro f hf
 unfold lT at hf
 simp only [List.mem_cons, List.not_mem_nil, or_false] at hf
 rcases hf with rfl | rfl | rfl | rfl | rfl | rfl | rfl | rfl
 ·exact ⟨⟨by decide, by decide⟩, ⟨by decide, by decide⟩, .inl rfl, fun h => absurd rfl h⟩
 ·exact ⟨⟨by decide, by decide⟩, ⟨by decide, by decide⟩, .inl rfl, fun h => absurd rfl h⟩
 ·exact ⟨⟨by decide, by decide⟩, ⟨by decide, by decide⟩, .inr (.inl rfl), fun _ => rfl⟩
 ·exact ⟨⟨by decide, by decide⟩, ⟨by decide, by decide⟩, .inr (.inl rfl), fun _ => rfl⟩
 ·exact ⟨⟨by decide, by decide⟩, ⟨by decide, by decide⟩, .inr (.inl rfl), fun _ => rfl⟩
 ·exact ⟨⟨by decide, by decide⟩, ⟨by decide, by decide⟩, .inr (.inr (.inr (.inl ⟨rfl, by decide, rfl⟩))), fun _ => rfl⟩
 ·exact ⟨⟨by decide, by decide⟩, ⟨by decide, by decide⟩, .inr (.inr (.inr (.inr (.inr ⟨rfl, by decide⟩)))), fun _ => rfl⟩
 ·exact ⟨⟨by decide, by decide⟩, ⟨by decide, by decide⟩, .inr (.inr (.inr (.inr (.inr ⟨rfl, by decide⟩)))), fun _ => rfl⟩
theorem round_la : roundL (roC 20 fs0 rs0 la) = [⟨6, 0, ⟨#[]⟩, 0⟩, ⟨9, 0, ⟨#[]⟩, 4⟩, ⟨6, 0, ⟨#[]⟩, 0⟩, ⟨3, 1, callS, 2⟩, ⟨3, 1, applyS, 3⟩, ⟨4, 1, ⟨#[]⟩, 0⟩, ⟨4, 2, ⟨#[]⟩, 1⟩, ⟨4, 3, ⟨#[]⟩, 1⟩, ⟨9, 1, ⟨#[]⟩, 4⟩] := by kernel_rfl
theorem round_lT : roundL (roC 20 fs0 rs0 lT) = lT ++ [⟨6, 0, ⟨#[]⟩, 0⟩, ⟨3, 1, callS, 2⟩, ⟨3, 1, applyS, 3⟩, ⟨4, 1, ⟨#[]⟩, 0⟩, ⟨4, 2, ⟨#[]⟩, 1⟩, ⟨4, 3, ⟨#[]⟩, 1⟩, ⟨9, 1, ⟨#[]⟩, 4⟩] := by kernel_rfl
theorem set_la : factSet (roundL (roC 20 fs0 rs0 la)) = lT := by
 refine Ls.rise_unique (factSet_rises _).1 lT_pw (fun x => ?_)
 rw [(factSet_rises _).2, round_la]
 unfold lT
 simp only [List.mem_cons, List.not_mem_nil, or_false]
 constructor
 ·rintro (h | h | h | h | h | h | h | h | h) <;> simp [h]
 ·rintro (h | h | h | h | h | h | h | h) <;> simp [h]
theorem set_lT : factSet (roundL (roC 20 fs0 rs0 lT)) = lT := by
 refine Ls.rise_unique (factSet_rises _).1 lT_pw (fun x => ?_)
 rw [(factSet_rises _).2, round_lT, List.mem_append]
 refine ⟨fun h => h.elim id (fun h => ?_), .inl⟩
 unfold lT
 simp only [List.mem_cons, List.not_mem_nil, or_false] at h ⊢
 rcases h with h | h | h | h | h | h | h <;> simp [h]
theorem zero_not : ¬ (rightB 20 fs0 rs0 = true ∧ areB 20 fs0.length [(⟨0, 0, ⟨#[]⟩, 0⟩ : Fa)] = true) := fun h => by
 have h1 := (areB_ok.1 h.2).1 ⟨0, 0, ⟨#[]⟩, 0⟩ (List.mem_singleton.2 rfl)
 rcases h1.k with e | e | e | ⟨e, _⟩ | e | ⟨e, _⟩ <;> simp at e
theorem size0 : (⟨#[]⟩ : ByteArray).size ≤ maxLen := by decide
theorem la_size : ∀ f ∈ la, f.f2.size ≤ maxLen := fun f hf => by
 rcases List.mem_cons.1 hf with rfl | hf
 ·exact size0
 ·obtain rfl := List.mem_singleton.1 hf
  exact size0
theorem lT_size : ∀ f ∈ lT, f.f2.size ≤ maxLen := fun f hf => by
 unfold lT at hf
 simp only [List.mem_cons, List.not_mem_nil, or_false] at hf
 rcases hf with rfl | rfl | rfl | rfl | rfl | rfl | rfl | rfl
 ·show applyS.size ≤ maxLen
  decide
 ·show callS.size ≤ maxLen
  decide
 all_goals exact size0
theorem shown_tells : Ev fun k => l4_shown.f k = some true := by
 have h1 := Round_tells small0 (l := la) (by decide) la_size right0 la_are
 have h2 := Closed_tells small0 (l := lT) (by decide) lT_size right0 lT_are
 have h3 := Round_no small0 (l := [(⟨0, 0, ⟨#[]⟩, 0⟩ : Fa)]) (by decide) zero_not
 rw [set_la] at h1
 rw [set_lT] at h2
 rw [if_pos right0] at h3
 refine ((h1.and h2).and h3).mono fun k hk => ?_
 obtain ⟨⟨k1, k2⟩, k3⟩ := hk
 unfold l4_shown.f
 simp only [Option.bind_some]
 have k1' : e_Round.f k 20 [(⟨0, ([] : List Int), 0, 0, 0⟩ : FunT)] [(⟨3, 0, 0, 1, 0, 0, 0, (⟨#[]⟩ : ByteArray), ([] : List Int)⟩ : RuT)] [(⟨6, 0, (⟨#[]⟩ : ByteArray), 0⟩ : Fa), (⟨9, 0, (⟨#[]⟩ : ByteArray), 4⟩ : Fa)] = some (lT, 0) := k1
 have k2' : e_Closed.f k 20 [(⟨0, ([] : List Int), 0, 0, 0⟩ : FunT)] [(⟨3, 0, 0, 1, 0, 0, 0, (⟨#[]⟩ : ByteArray), ([] : List Int)⟩ : RuT)] lT = some ((lT.length : Int) == (lT.length : Int), 0) := k2
 have k3' : e_Round.f k 20 [(⟨0, ([] : List Int), 0, 0, 0⟩ : FunT)] [(⟨3, 0, 0, 1, 0, 0, 0, (⟨#[]⟩ : ByteArray), ([] : List Int)⟩ : RuT)] [(⟨0, 0, (⟨#[]⟩ : ByteArray), 0⟩ : Fa)] = some ([], 140) := k3
 rw [k1', Option.bind_some, k2', Option.bind_some, k3', Option.bind_some, if_pos rfl, if_pos rfl, if_pos (by simp), if_pos rfl, if_pos (show (((lT, (0 : Int)).1.length : Nat) : Int) = 8 from rfl), if_pos (show (7 : Int) < (((lT, (0 : Int)).1.length : Nat) : Int) by decide)]
 have e : rd_T41 lT 7 = ⟨9, 1, ⟨#[]⟩, 4⟩ := rfl
 show some ((rd_T41 lT 7).f0 == 9 && ((rd_T41 lT 7).f1 == 1 && ((rd_T41 lT 7).f2.toList == [] && (rd_T41 lT 7).f3 == 4))) = some true
 rw [e]
 simp [noS_list]
end Go.Proofs.Ytngppcmdaanheaa.Lv
namespace Go.Proofs.Ytngppcmdaanheaa.Lv
open Go.RowKit Go.Proofs.Ytngppcmdaanheaa.ISet Go.Proofs.Ytngppcmdaanheaa.Pr Go.Proofs.Ytngppcmdaanheaa.Ls Go.Proofs.Ytngppcmdaanheaa.Ev Go.Proofs.YtngppcmdaanheaaW.PrintWords Go.Proofs.YtngppcmdaanheaaW.PrintMore
open Go.Proofs.Ytngppcmdaanheaa.Rm (Leads mem_reachL reachL)
set_option linter.unusedVariables false
set_option linter.unusedSimpArgs false
section
variable {s0 : Int} {fs : List FunT} {rs : List RuT} {l l' : List Fa}
theorem mem_old {f : Fa} : f ∈ rg l.length (oldL (roC s0 fs rs l)) ↔ ∃ g ∈ l, f = g ∨ f ∈ builtL (roC s0 fs rs l) g := by
 rw [mem_rg]
 constructor
 ·rintro ⟨i, hi, h⟩
  unfold oldL at h
  refine ⟨_, rdA_mem hi, ?_⟩
  rcases List.mem_append.1 h with h | h
  ·exact .inl (List.mem_singleton.1 h)
  ·exact .inr h
 ·rintro ⟨g, hg, h⟩
  obtain ⟨i, hi, rfl⟩ := List.getElem_of_mem hg
  refine ⟨i, hi, ?_⟩
  have e : rd_T41 l (i : Int) = l[i] := by
   unfold rd_T41
   rw [Int.toNat_natCast, List.getD_eq_getElem?_getD, List.getElem?_eq_getElem hi]
   rfl
  unfold oldL
  show f ∈ [rd_T41 l (i : Int)] ++ builtL (roC s0 fs rs l) (rd_T41 l (i : Int))
  rw [e]
  rcases h with h | h
  ·exact List.mem_append_left _ (List.mem_singleton.2 h)
  ·exact List.mem_append_right _ h
end
end Go.Proofs.Ytngppcmdaanheaa.Lv
namespace Go.Proofs.Ytngppcmdaanheaa.Lv
open Go.RowKit Go.Proofs.Ytngppcmdaanheaa.ISet Go.Proofs.Ytngppcmdaanheaa.Pr Go.Proofs.Ytngppcmdaanheaa.Ls Go.Proofs.Ytngppcmdaanheaa.Ev Go.Proofs.YtngppcmdaanheaaW.PrintWords Go.Proofs.YtngppcmdaanheaaW.PrintMore
set_option linter.unusedVariables false
set_option linter.unusedSimpArgs false
def base6 : List Fa := askL 6 0 noS [0] ++ (askL 3 1 callS [2] ++ (askL 3 1 applyS [3] ++ (askL 4 1 noS [0] ++ (askL 4 2 noS [1] ++ askL 4 3 noS [1]))))
theorem base6_len : base6.length = 6 := rfl
theorem base6_nodup : base6.Nodup := by decide +kernel
section
variable {s0 : Int} {fs : List FunT} {rs : List RuT} {l : List Fa}
theorem round_split : roundL (roC s0 fs rs l) = rg l.length (oldL (roC s0 fs rs l)) ++ (base6 ++ rg rs.length (newL (roC s0 fs rs l))) := by
 unfold roundL base6
 simp only [List.append_assoc]
 rfl
theorem mem_round0 {f : Fa} : f ∈ roundL (roC s0 fs [] l) ↔ (∃ g ∈ l, f = g ∨ f ∈ builtL (roC s0 fs rs l) g) ∨ f ∈ base6 := by
 rw [round_split, List.mem_append, mem_old, List.length_nil, rg_zero, List.append_nil]
 rfl
theorem round0_sub (f : Fa) (h : f ∈ roundL (roC s0 fs [] l)) : f ∈ roundL (roC s0 fs rs l) := by
 rw [mem_round0 (rs := rs)] at h
 rw [round_split, List.mem_append, List.mem_append, mem_old]
 exact h.imp id .inl
theorem built_none {g : Fa} (h : g.f0 ≠ 5) (r : Ro) : builtL r g = [] := by
 unfold builtL
 rw [if_neg (fun e => h e.1), if_neg (fun e => h e.1)]
theorem mem_plain (h : ∀ g ∈ l, g.f0 ≠ 5) {f : Fa} : f ∈ roundL (roC s0 fs [] l) ↔ f ∈ l ∨ f ∈ base6 := by
 rw [mem_round0 (rs := [])]
 refine or_congr ⟨fun ⟨g, hg, e⟩ => ?_, fun e => ⟨f, e, .inl rfl⟩⟩ Iff.rfl
 rcases e with rfl | e
 ·exact hg
 ·rw [built_none (h g hg)] at e
  cases e
theorem none_len : (factSet (roundL (roC s0 fs [] []))).length = 6 := by
 have h := factSet_rises (roundL (roC s0 fs [] []))
 have hn : (factSet (roundL (roC s0 fs [] []))).Nodup := h.1.imp (fun {a b} hab e => by subst e; exact LF.irrefl _ hab)
 have hm : ∀ f, f ∈ factSet (roundL (roC s0 fs [] [])) ↔ f ∈ base6 := fun f => by
  rw [h.2, mem_plain (by simp)]
  simp
 have h1 := hn.length_le_of_subset (fun x hx => (hm x).1 hx)
 have h2 := base6_nodup.length_le_of_subset (fun x hx => (hm x).2 hx)
 rw [base6_len] at h1 h2
 omega
end
end Go.Proofs.Ytngppcmdaanheaa.Lv
namespace Go.Proofs.Ytngppcmdaanheaa.Pure
open Go.RowKit Go.Proofs.Ytngppcmdaanheaa.Pr Go.Proofs.Ytngppcmdaanheaa.Ls Go.Proofs.Ytngppcmdaanheaa.Lv Go.Proofs.Ytngppcmdaanheaa.Ev Go.Proofs.YtngppcmdaanheaaW.PrintWords Go.Proofs.YtngppcmdaanheaaW.PrintMore
set_option linter.unusedVariables false
set_option linter.unusedSimpArgs false
theorem withinR {a b : List Fa} (ha : ∀ f ∈ a, wfF f) (hb : ∀ f ∈ b, wfF f) (h1 : a.length ≤ 1000000000000) (h2 : b.length ≤ 1000000000000) (hs : ∀ f ∈ a, f ∈ b) : e_Within.f a b = some true := by
 unfold e_Within.f
 rw [if_pos ⟨ha, hb, h1, h2⟩]
 congr 1
 unfold withinB
 rw [Bool.not_eq_true', List.any_eq_false]
 intro f hf
 simp [hs f hf]
theorem withinS {a b : List Fa} (ha : ∀ f ∈ a, wfF f) (hb : ∀ f ∈ b, wfF f) (h1 : a.length ≤ 1000000000000) (h2 : b.length ≤ 1000000000000) : ∃ t, e_Within.f a b = some t := by
 unfold e_Within.f
 rw [if_pos ⟨ha, hb, h1, h2⟩]
 exact ⟨_, rfl⟩
theorem set_wf {s0 : Int} {fs : List Lv.FunT} {rs : List Lv.RuT} {l : List Fa} (hs : SysOk s0 fs rs) (hl : FactsOk s0 fs.length l) : (∀ f ∈ factSet (roundL (roC s0 fs rs l)), wfF f) ∧ (factSet (roundL (roC s0 fs rs l))).length ≤ 1000000000000 := by
 have h := factSet_rises (roundL (roC s0 fs rs l))
 refine ⟨fun f hf => (round_all hs hl f ((h.2 f).1 hf)).wf, ?_⟩
 have hn : (factSet (roundL (roC s0 fs rs l))).Nodup := h.1.imp (fun {a b} hab e => by subst e; exact LF.irrefl _ hab)
 have h2 := hn.length_le_of_subset (fun x hx => (h.2 x).1 hx)
 have h3 := round_len hs hl
 omega
def pl (f : Fa) : Bool := decide (f.f0 ≠ 5)
theorem rdF_at {l : List Fa} {i : Nat} (h : i < l.length) : rd_T41 l (i : Int) = l[i] := by
 unfold rd_T41
 rw [Int.toNat_natCast, List.getD_eq_getElem?_getD, List.getElem?_eq_getElem h]
 rfl
theorem adds_loop (l : List Fa) (hl : l.length ≤ 60) {b : Bool} {x7 : List Fa} {x8 s s' : Int} {fs fs' : List Lv.FunT} {rs : List Lv.RuT} {r : Bool} (hE : Ev fun k => l4_LeastAdds.l0 k l b x7 x8 (l.filter pl) (l.length : Int) s fs rs s' fs' = some r) (d : Nat) :
  ∀ i : Nat, i + d = l.length → Ev fun k => l4_LeastAdds.l0 k l b x7 x8 ((l.take i).filter pl) (i : Int) s fs rs s' fs' = some r := by
 induction d with
 | zero =>
  intro i h
  obtain rfl : i = l.length := by omega
  rw [List.take_of_length_le (Nat.le_refl _)]
  exact hE
 | succ d ih =>
  intro i h
  have hi : i < l.length := by omega
  have hw : wrap64 ((i : Int) + 1) = ((i + 1 : Nat) : Int) := by unfold wrap64; omega
  have ht : l.take (i + 1) = l.take i ++ [l[i]] := by rw [List.take_add_one, List.getElem?_eq_getElem hi]; rfl
  have hlen : ((l.take i).filter pl).length ≤ 60 := Nat.le_trans (List.length_filter_le _ _) (by rw [List.length_take]; omega)
  refine (ih (i + 1) (by omega)).succ fun k hk => ?_
  rw [l4_LeastAdds.l0, if_pos (by omega), if_pos (by omega), rdF_at hi, hw]
  by_cases h5 : (l[i]).f0 = 5
  ·rw [if_pos h5]
   rw [ht, List.filter_append, List.filter_cons, if_neg (by simp [pl, h5]), List.filter_nil, List.append_nil] at hk
   exact hk
  ·rw [if_neg h5, if_pos (by omega)]
   rw [ht, List.filter_append, List.filter_cons, if_pos (by simp [pl, h5]), List.filter_nil] at hk
   exact hk
theorem one_at {l : List Fa} {i : Nat} (hi : i < l.length) (hl : l.length ≤ 1000000000000) : (l.take (wrap64 ((i : Int) + 1)).toNat).drop ((i : Int)).toNat = [l[i]] := by
 have hw : wrap64 ((i : Int) + 1) = ((i + 1 : Nat) : Int) := by unfold wrap64; omega
 rw [hw, Int.toNat_natCast, Int.toNat_natCast, List.take_add_one, List.getElem?_eq_getElem hi]
 rw [List.drop_append_of_le_length (by rw [List.length_take]; omega)]
 rw [List.drop_of_length_le (by rw [List.length_take]; omega)]
 rfl
theorem each_loop (none plain a : List Fa) (wn : ∀ f ∈ none, wfF f) (wp : ∀ f ∈ plain, wfF f) (wa : ∀ f ∈ a, wfF f) (ln : none.length ≤ 1000000000000) (lp : plain.length ≤ 1000000000000) (la : a.length ≤ 1000000000000)
  (hs : ∀ f ∈ a, f ∈ plain ∨ f ∈ none) (d : Nat) : ∀ i : Nat, i + d = a.length → Ev fun k => l4_LeastAdds.l1 k true none plain a (i : Int) = some true := by
 induction d with
 | zero =>
  intro i h
  refine Ev.step fun k => ?_
  rw [l4_LeastAdds.l1, if_neg (by omega)]
 | succ d ih =>
  intro i h
  have hi : i < a.length := by omega
  have hw : wrap64 ((i : Int) + 1) = ((i + 1 : Nat) : Int) := by unfold wrap64; omega
  have hm : a[i] ∈ a := List.getElem_mem hi
  have hw1 : ∀ f ∈ [a[i]], wfF f := fun f hf => by rw [List.mem_singleton.1 hf]; exact wa _ hm
  have hj : Ev fun k => l4_LeastAdds.j4 k true none plain a (i : Int) false = some true := (ih (i + 1) (by omega)).succ fun k hk => by
   rw [l4_LeastAdds.j4, if_neg (by decide), hw]
   exact hk
  refine hj.succ fun k hk => ?_
  rw [l4_LeastAdds.l1, if_pos (by omega), if_pos (by omega), if_pos (by rw [hw]; omega), if_pos (by rw [hw]; omega), one_at hi la]
  obtain ⟨t, ht⟩ := withinS hw1 wp (by simp) lp
  rw [ht, Option.bind_some]
  cases t
  ·have hn : a[i] ∈ none := (hs _ hm).resolve_left (fun hp => by
    have := withinR hw1 wp (by simp) lp (fun f hf => by rw [List.mem_singleton.1 hf]; exact hp)
    rw [ht] at this
    cases this)
   rw [if_neg (by decide), withinR hw1 wn (by simp) ln (fun f hf => by rw [List.mem_singleton.1 hf]; exact hn), Option.bind_some]
   exact hk
  ·rw [if_pos rfl]
   exact hk
theorem right_none {s : Int} {fs : List Lv.FunT} {rs : List Lv.RuT} (h : rightB s fs rs = true) : rightB s fs [] = true := by
 unfold rightB at h ⊢
 simp only [Bool.and_eq_true, decide_eq_true_iff, Bool.not_eq_true'] at h ⊢
 obtain ⟨h1, h2, h3⟩ := h
 exact ⟨h1, h2, rfl⟩
theorem LeastAdds (s : Int) (fs : List S44) (rs : List S46)
  (h0 : (Lit.int .i64 s).wf = true ∧ (∀ a ∈ fs, (Lit.int .i64 a.f0).wf = true ∧ (∀ y ∈ a.f1, (Lit.int .i64 y).wf = true) ∧ (Lit.int .i64 a.f2).wf = true ∧ (Lit.int .i64 a.f3).wf = true ∧ (Lit.int .i64 a.f4).wf = true) ∧
   ∀ a ∈ rs, (Lit.int .i64 a.f0).wf = true ∧ (Lit.int .i64 a.f1).wf = true ∧ (Lit.int .i64 a.f2).wf = true ∧ (Lit.int .i64 a.f3).wf = true ∧ (Lit.int .i64 a.f4).wf = true ∧ (Lit.int .i64 a.f5).wf = true ∧ (Lit.int .i64 a.f6).wf = true ∧ a.f7.size ≤ maxLen ∧ ∀ y ∈ a.f8, (Lit.int .i64 y).wf = true)
  (l1 : List S41) (h1 : ∀ a ∈ l1, (Lit.int .i64 a.f0).wf = true ∧ (Lit.int .i64 a.f1).wf = true ∧ a.f2.size ≤ maxLen ∧ (Lit.int .i64 a.f3).wf = true) :
  ∃ k, l4_LeastAdds.f k s fs rs l1 = some true := by
 obtain ⟨l, hl⟩ : ∃ l, l = l1.take 60 := ⟨_, rfl⟩
 have hln : l.length ≤ 60 := by rw [hl, List.length_take]; omega
 have hz : ∀ f ∈ l, f.f2.size ≤ maxLen := fun f hf => (h1 f (List.mem_of_mem_take (by rw [hl] at hf; exact hf))).2.2.1
 have hj : Ev fun k => l4_LeastAdds.j0 k l true true s fs rs = some true := Ev.step fun k => by rw [l4_LeastAdds.j0, if_pos rfl]
 rcases small_tells s fs rs with h | ⟨hsm, h⟩
 ·refine ((shown_tells.and h).and hj).mono (fun k hk => ?_) |>.ex
  obtain ⟨⟨k1, k2⟩, k3⟩ := hk
  unfold l4_LeastAdds.f
  rw [k1, Option.bind_some, Lv.few_tells, Option.bind_some, k2, Option.bind_some, if_pos rfl, ← hl, k3]
 ·have hR := Right_tells hsm (l := l) (by omega)
  by_cases hok : (rightB s fs rs && areB s fs.length l) = true
  ·rw [hok] at hR
   obtain ⟨hr, ha⟩ := Bool.and_eq_true_iff.1 hok
   have hsm0 : SmallP s fs [] := ⟨hsm.1, Nat.zero_le _, hsm.2.2.1, hsm.2.2.2.1, fun x hx => (by cases hx)⟩
   have hr0 := right_none hr
   have hsys := sys_of hsm hr
   have hsys0 := sys_of hsm0 hr0
   have hfo := facts_of ha (by omega) hz
   have hsub : ∀ f ∈ l.filter pl, f ∈ l := fun f hf => (List.mem_filter.1 hf).1
   have hplen : (l.filter pl).length ≤ 60 := Nat.le_trans (List.length_filter_le _ _) hln
   have hap : areB s fs.length (l.filter pl) = true := areB_ok.2 ⟨fun f hf => hfo.ok f (hsub f hf), hfo.srt.sublist List.filter_sublist⟩
   have hzp : ∀ f ∈ l.filter pl, f.f2.size ≤ maxLen := fun f hf => hz f (hsub f hf)
   have hp5 : ∀ f ∈ l.filter pl, f.f0 ≠ 5 := fun f hf => by
    have := (List.mem_filter.1 hf).2
    simpa [pl] using this
   have ha0 : areB s fs.length ([] : List Fa) = true := areB_ok.2 ⟨fun f hf => (by cases hf), List.Pairwise.nil⟩
   have fo0 := facts_of ha0 (by simp) (fun f hf => (by cases hf))
   have fop := facts_of hap (by omega) hzp
   have hN := Round_tells hsm0 (l := []) (by simp) (fun f hf => (by cases hf)) hr0 ha0
   have hA := Round_tells hsm0 (l := l.filter pl) (by omega) hzp hr0 hap
   have hM := Round_tells hsm (l := l.filter pl) (by omega) hzp hr hap
   have wN := set_wf hsys0 fo0
   have wA := set_wf hsys0 fop
   have wM := set_wf hsys fop
   have wP : ∀ f ∈ l.filter pl, wfF f := fun f hf => ((fop.ok f hf).inR (hzp f hf)).wf
   have mN : ∀ f, f ∈ factSet (roundL (roC s fs [] [])) ↔ f ∈ base6 := fun f => by rw [(factSet_rises _).2, mem_plain (by simp)]; simp
   have mA : ∀ f, f ∈ factSet (roundL (roC s fs [] (l.filter pl))) ↔ f ∈ l.filter pl ∨ f ∈ base6 := fun f => by rw [(factSet_rises _).2, mem_plain hp5]
   have hW1 := withinR wP wA.1 (by omega) wA.2 (fun f hf => (mA f).2 (.inl hf))
   have hW2 := withinR wN.1 wA.1 wN.2 wA.2 (fun f hf => (mA f).2 (.inr ((mN f).1 hf)))
   have hW3 := withinR wA.1 wM.1 wA.2 wM.2 (fun f hf => ((factSet_rises _).2 f).2 (round0_sub f (((factSet_rises _).2 f).1 hf)))
   have hE := each_loop (factSet (roundL (roC s fs [] []))) (l.filter pl) (factSet (roundL (roC s fs [] (l.filter pl)))) wN.1 wP wA.1 wN.2 (by omega) wA.2 (fun f hf => ((mA f).1 hf).imp id (mN f).2) _ 0 (by rw [Nat.zero_add])
   have hJ2 : Ev fun k => l4_LeastAdds.j2 k true (factSet (roundL (roC s fs [] []))) (l.filter pl) (factSet (roundL (roC s fs [] (l.filter pl)))) false = some true := hE.succ fun k hk => by
    rw [l4_LeastAdds.j2, if_neg (by decide)]
    exact hk
   have hlen : ((factSet (roundL (roC s fs [] []))).length : Int) = 6 := by rw [none_len]; rfl
   have hL : Ev fun k => l4_LeastAdds.l0 k l true (factSet (roundL (roC s fs [] []))) 0 (l.filter pl) (l.length : Int) s fs rs s fs = some true := ((hA.and hM).and hJ2).succ fun k hk => by
    obtain ⟨⟨k1, k2⟩, k3⟩ := hk
    rw [l4_LeastAdds.l0, if_neg (by omega), k1, Option.bind_some, k2, Option.bind_some, if_pos rfl, if_pos rfl, if_pos rfl, if_pos hlen, hW1, Option.bind_some, if_pos rfl, hW2, Option.bind_some, if_pos rfl, hW3, Option.bind_some]
    exact k3
   have hL0 := adds_loop l hln hL l.length 0 (by rw [Nat.zero_add])
   have hJ : Ev fun k => l4_LeastAdds.j0 k l true false s fs rs = some true := (hN.and hL0).succ fun k hk => by
    rw [l4_LeastAdds.j0, if_neg (by decide), hk.1, Option.bind_some]
    exact hk.2
   refine (((shown_tells.and h).and hR).and hJ).mono (fun k hk => ?_) |>.ex
   obtain ⟨⟨⟨k1, k2⟩, k3⟩, k4⟩ := hk
   unfold l4_LeastAdds.f
   rw [k1, Option.bind_some, Lv.few_tells, Option.bind_some, k2, Option.bind_some, if_neg (by decide), ← hl, k3, Option.bind_some]
   exact k4
  ·rw [Bool.eq_false_iff.2 hok] at hR
   refine (((shown_tells.and h).and hR).and hj).mono (fun k hk => ?_) |>.ex
   obtain ⟨⟨⟨k1, k2⟩, k3⟩, k4⟩ := hk
   unfold l4_LeastAdds.f
   rw [k1, Option.bind_some, Lv.few_tells, Option.bind_some, k2, Option.bind_some, if_neg (by decide), ← hl, k3, Option.bind_some]
   exact k4
end Go.Proofs.Ytngppcmdaanheaa.Pure
namespace Go.Proofs.Ytngppcmdaanheaa.Opens
open Go.RowKit Go.Deep Go.ChangeShapes Go.WideShapes Go.Proofs.YtngppcmdaanheaaW.PrintWords
set_option linter.unusedVariables false
def OpensTo {α : Type} (P : Program) (t : TypeId) (K : World → α → List Value → Prop) (Wf : α → Prop) : Prop :=
 ∀ (H : Type) (enc : TypeId × Value → H) (w : World) (base : Nat) (sp : Nat → Bool) (held : Bool) (fuel : Nat) (cs : List Value) (x : DataW H × List MemPlace), DataW.trod enc P w base sp held fuel t cs = some x → ∃ a, K w a cs ∧ Wf a
variable {P : Program} {t e : TypeId}
theorem opens_int {k : IntKind} (ht : P.underlying t = some (.int k)) : OpensTo P t (Kd.int k).K (fun n => (Lit.int k n).wf = true) := by
 intro H enc w base sp held fuel cs x h
 cases fuel with
 | zero => simp [DataW.trod] at h
 | succ fuel =>
  unfold DataW.trod at h
  rw [ht] at h
  split at h <;> first | (rename_i heq; cases heq; done) | (cases h; done) | skip
  rename_i heq
  injection heq with heq
  injection heq with heq
  subst heq
  split at h
  ·rename_i hk
   obtain ⟨rfl, hk⟩ := hk
   exact ⟨_, rfl, hk⟩
  ·exact absurd h (by simp)
theorem opens_string (ht : P.underlying t = some .string) : OpensTo P t Kd.string.K (fun s => s.size ≤ maxLen) := by
 intro H enc w base sp held fuel cs x h
 cases fuel with
 | zero => simp [DataW.trod] at h
 | succ fuel =>
  unfold DataW.trod at h
  rw [ht] at h
  split at h <;> first | (rename_i heq; cases heq; done) | (cases h; done) | skip
  split at h
  ·rename_i hk
   exact ⟨_, rfl, hk⟩
  ·exact absurd h (by simp)
theorem opens_slice {α : Type} [Inhabited α] {d : Kd α} {Wf : α → Prop} (ht : P.underlying t = some (.slice e)) (hc : P.cellsOf e = d.sz) (he : OpensTo P e d.K Wf) : OpensTo P t (Kd.slice e d).K (fun l => ∀ a ∈ l, Wf a) := by
 intro H enc w base sp held fuel cs x h
 rcases open_slice ht h with ⟨rfl, _⟩ | ⟨a, len, cap, m, n, D, Pl, rfl, hb, hl, hcap, hm, _, hel⟩
 ·exact ⟨[], ⟨none, 0, rfl, Nat.le_refl _, rfl, by simp, fun h => by simp at h⟩, by simp⟩
 ·have hmm : len ≤ m := by rw [hm]; split <;> omega
  have hx : ∀ i, i < len → ∃ (y : α) (cs' : List Value), w.cells? base (a.add (i * d.sz)) d.sz = some cs' ∧ d.K w y cs' ∧ Wf y := by
   intro i hi
   obtain ⟨cs', h1, h2⟩ := hel i (by omega)
   rw [hc] at h1
   obtain ⟨y, h3, h4⟩ := he H enc w base sp held n cs' _ h2
   exact ⟨y, cs', h1, h3, h4⟩
  let f : Nat → α := fun i => if h : i < len then Classical.choose (hx i h) else default
  have hf : ∀ i, i < len → ∃ cs', w.cells? base (a.add (i * d.sz)) d.sz = some cs' ∧ d.K w (f i) cs' ∧ Wf (f i) := by
   intro i hi
   have : f i = Classical.choose (hx i hi) := dif_pos hi
   rw [this]
   exact Classical.choose_spec (hx i hi)
  have hlen : ((List.range len).map f).length = len := by simp
  refine ⟨(List.range len).map f, ⟨some a, cap, by rw [hlen], by rw [hlen]; exact hl, ?_⟩, ?_⟩
  ·refine ⟨rfl, by rw [hlen]; simp only [maxLen] at hcap; omega, fun _ => ⟨a, rfl, fun j p hj => ?_⟩⟩
   have hj' : j < len := by
    have := (List.getElem?_eq_some_iff.1 hj).1
    omega
   have hp : p = f j := by simp [hj'] at hj; exact hj.symm
   subst hp
   obtain ⟨cs', h1, h2, _⟩ := hf j hj'
   refine ⟨cs', d.K_len h2, h2, fun i u hu => ?_⟩
   obtain ⟨_, h3, h4⟩ := World.cells?_some h1
   have hi : i < d.sz := by have := (List.getElem?_eq_some_iff.1 hu).1; have := d.K_len h2; omega
   have h5 := h4 i hi
   rw [show (a.add (j * d.sz + i)) = (a.add (j * d.sz)).add i from ?_, h5, hu]
   unfold Addr.add
   by_cases e1 : j * d.sz = 0 <;> by_cases e2 : i = 0 <;> simp [e1, e2, Nat.add_assoc]
  ·intro y hy
   rw [List.mem_map] at hy
   obtain ⟨i, hi, rfl⟩ := hy
   obtain ⟨_, _, _, h⟩ := hf i (List.mem_range.1 hi)
   exact h
theorem slice_of_K {α : Type} {d : Kd α} {w : World} {l : List α} {v : Value} {A : Option Addr} {n c : Nat} (hv : v = .slice A n c) (h : (Kd.slice e d).K w l v.cells.toList) : n = l.length ∧ l.length ≤ c ∧ d.C w A l.length l := by
 subst hv
 obtain ⟨A', c', h1, h2, h3⟩ := h
 simp [Value.cells] at h1
 obtain ⟨rfl, rfl, rfl⟩ := h1
 exact ⟨rfl, h2, h3⟩
/-! ### structs -/
def OpensFs {β : Type} (P : Program) (fs : List Field) (o sz : Nat) (K : World → β → List Value → Prop) (Wf : β → Prop) : Prop :=
 ∀ (H : Type) (enc : TypeId × Value → H) (w : World) (base : Nat) (sp : Nat → Bool) (held : Bool) (fuel : Nat) (cs : List Value) (xs : List (DataW H × List MemPlace)), cs.length = o + sz →
  (fs.mapM fun f => DataW.trod enc P w base sp held fuel f.type ((cs.drop f.offset).take (P.cellsOf f.type))) = some xs → ∃ b, K w b (cs.drop o) ∧ Wf b
theorem opensFs_last {β : Type} {K : World → β → List Value → Prop} {Wf : β → Prop} {f : Field} {o sz : Nat} (ho : f.offset = o) (hc : P.cellsOf f.type = sz) (h : OpensTo P f.type K Wf) : OpensFs P [f] o sz K Wf := by
 intro H enc w base sp held fuel cs xs hl hx
 rw [List.mapM_cons] at hx
 cases hq : DataW.trod enc P w base sp held fuel f.type ((cs.drop f.offset).take (P.cellsOf f.type)) with
 | none => rw [hq] at hx; cases hx
 | some y =>
  obtain ⟨b, h1, h2⟩ := h H enc w base sp held fuel _ _ hq
  rw [ho, hc, List.take_of_length_le (by rw [List.length_drop]; omega)] at h1
  exact ⟨b, h1, h2⟩
theorem opensFs_cons {α β : Type} {da : Kd α} {db : Kd β} {Wa : α → Prop} {Wb : β → Prop} {f : Field} {fs : List Field} {o sz : Nat} (ho : f.offset = o) (hc : P.cellsOf f.type = da.sz) (h : OpensTo P f.type da.K Wa) (hs : OpensFs P fs (o + da.sz) sz db.K Wb) :
  OpensFs P (f :: fs) o (da.sz + sz) (Kd.pair da db).K (fun x => Wa x.1 ∧ Wb x.2) := by
 intro H enc w base sp held fuel cs xs hl hx
 rw [List.mapM_cons] at hx
 cases hq : DataW.trod enc P w base sp held fuel f.type ((cs.drop f.offset).take (P.cellsOf f.type)) with
 | none => rw [hq] at hx; cases hx
 | some y =>
  rw [hq] at hx
  cases hr : (fs.mapM fun f => DataW.trod enc P w base sp held fuel f.type ((cs.drop f.offset).take (P.cellsOf f.type))) with
  | none => rw [hr] at hx; cases hx
  | some ys =>
   obtain ⟨a, h1, h2⟩ := h H enc w base sp held fuel _ _ hq
   obtain ⟨b, h3, h4⟩ := hs H enc w base sp held fuel cs ys (by omega) hr
   rw [ho, hc] at h1
   refine ⟨(a, b), ⟨_, _, ?_, h1, h3⟩, h2, h4⟩
   rw [← List.drop_drop, List.take_append_drop]
theorem opens_struct {α : Type} {d : Kd α} {Wf : α → Prop} {fs : Array Field} (ht : P.underlying t = some (.struct fs)) (hc : P.cellsOf t = d.sz) (h : OpensFs P fs.toList 0 d.sz d.K Wf) : OpensTo P t d.K Wf := by
 intro H enc w base sp held fuel cs x hx
 cases fuel with
 | zero => simp [DataW.trod] at hx
 | succ fuel =>
  unfold DataW.trod at hx
  rw [ht] at hx
  dsimp only at hx
  split at hx
  ·rename_i hl
   rw [Option.map_eq_some_iff] at hx
   obtain ⟨xs, hxs, _⟩ := hx
   have := h H enc w base sp held fuel _ _ (by rw [hl, hc, Nat.zero_add]) hxs
   simpa using this
  ·cases hx
theorem opens_iso {α β : Type} {d : Kd α} (f : β → α) (g : α → β) (hfg : ∀ x, f (g x) = x) {Wf : α → Prop} (h : OpensTo P t d.K Wf) : OpensTo P t (Kd.iso d f).K (fun x => Wf (f x)) := by
 intro H enc w base sp held fuel cs x hx
 obtain ⟨a, h1, h2⟩ := h H enc w base sp held fuel cs x hx
 refine ⟨g a, ?_, ?_⟩
 ·show d.K w (f (g a)) cs
  rw [hfg]; exact h1
 ·show Wf (f (g a))
  rw [hfg]; exact h2
end Go.Proofs.Ytngppcmdaanheaa.Opens
/- The row of LeastAdds, out of its contract and its plain law. No condition. -/
namespace Go.Proofs.Ytngppcmdaanheaa.leastAdds
open Go.ChangeShapes Go.WideShapes Go.ChangeAt Go.RowKit
open Go.ChangeMaps (open_string shut_string)
open Go.Proofs.Ytngppcmdaanheaa Go.Proofs.YtngppcmdaanheaaW.PrintWords
set_option linter.unusedVariables false
theorem own : ownKnob Try.prog.godebug = none := by kernel_rfl
theorem laidOut : laidOutB Try.prog = true := by kernel_rfl
instance : Inhabited Pr.S44 := ⟨Pr.z44⟩
instance : Inhabited Pr.S46 := ⟨Pr.z46⟩
instance : Inhabited Pr.S41 := ⟨Pr.z41⟩
set_option maxRecDepth 100000 in
theorem lifted (os : Os) (started : os.Started) (H : Type) (enc : TypeId × Value → H) :
    ReturnsInHanded {} Try.checked os 7 .any (Rows.leastAddsSpec.pre6 enc Try.prog Try.f7 Rows.leastAddsRow.domain false) (Rows.leastAddsSpec.post enc Try.prog Try.f7 false true false false) := by
  refine returnsInHanded_of_change_sized (C := Try.checked) own started (by kernel_rfl) Try.func7
    (ChangeSpec.witness6 (enc := enc) (C := Try.checked) false ⟨#[], #[.agg #[.int .i64 0, .slice none 0 0, .slice none 0 0], .slice none 0 0], []⟩ 8 (by kernel_rfl) (by kernel_rfl) (by kernel_rfl) (by kernel_rfl)) ?_
  intro W base args ds gs before hval0 hW hcnd hsz0 _
  have hsz : (DataW.weightsEach Try.prog (Try.f7.params.toList ++ Rows.leastAddsSpec.plain.varTypes Try.prog) (ds ++ gs)).all (· ≤ reachBytes) = true := hsz0
  have hval : ∀ (j : Nat) t v, Try.f7.params[j]? = some t → args[j]? = some v → Value.okWide Try.prog W .any base t v := hval0
  have hW' := hW
  obtain ⟨p, q, hA0, hV, rfl, hfz, hnd⟩ := hW
  have hA : DataW.TrodAll enc Try.prog W 0 (fun _ => true) true Try.f7.params.toList args.toList ds p := hA0
  rw [Try.params7] at hA hval hsz
  obtain ⟨v0, vs0, d0, ds0, p0, q0, hargs, rfl, rfl, h0, r0⟩ := trodAll_cons hA
  obtain ⟨v1, vs1, d1, ds1, p1, q1, rfl, rfl, rfl, h1, r1⟩ := trodAll_cons r0
  obtain ⟨rfl, rfl, rfl⟩ := trodAll_nil r1
  obtain rfl : args = #[v0, v1] := by cases args; simp_all
  obtain ⟨rfl, rfl⟩ := trodVars_none hV
  obtain ⟨cs0, rfl, _⟩ := okWide_struct Try.underlying25 (hval 0 25 v0 rfl rfl)
  have k0 := h0
  have lt0 : ∀ x ∈ p0, x.block < W.heap.size := by obtain ⟨m, hm⟩ := k0; exact DataW.trod_lt m _ _ _ hm
  obtain ⟨m0, hm0⟩ := h0
  obtain ⟨x0, hK0, hw0⟩ := (Opens.opens_struct (d := Kd.pair (Kd.int .i64) (Kd.pair (Kd.slice 44 (Pr.k44)) (Kd.slice 46 (Pr.k46)))) Try.underlying25 (by kernel_rfl) (Opens.opensFs_cons (da := Kd.int .i64) rfl (by kernel_rfl) (Opens.opens_int Try.underlying3) (Opens.opensFs_cons (da := Kd.slice 44 (Pr.k44)) rfl (by kernel_rfl) (Opens.opens_slice (d := Pr.k44) Try.underlying22 (by kernel_rfl) (Opens.opens_iso (fun x : Pr.S44 => (x.f0, x.f1, x.f2, x.f3, x.f4)) (fun y => (⟨y.1, y.2.1, y.2.2.1, y.2.2.2.1, y.2.2.2.2⟩ : Pr.S44)) (fun _ => rfl) (Opens.opens_struct Try.underlying44 (by kernel_rfl) (Opens.opensFs_cons (da := Kd.int .i64) rfl (by kernel_rfl) (Opens.opens_int Try.underlying3) (Opens.opensFs_cons (da := Kd.slice 3 (Kd.int .i64)) rfl (by kernel_rfl) (Opens.opens_slice (d := Kd.int .i64) Try.underlying42 (by kernel_rfl) (Opens.opens_int Try.underlying3)) (Opens.opensFs_cons (da := Kd.int .i64) rfl (by kernel_rfl) (Opens.opens_int Try.underlying3) (Opens.opensFs_cons (da := Kd.int .i64) rfl (by kernel_rfl) (Opens.opens_int Try.underlying3) (Opens.opensFs_last rfl (by kernel_rfl) (Opens.opens_int Try.underlying3))))))))) (Opens.opensFs_last rfl (by kernel_rfl) (Opens.opens_slice (d := Pr.k46) Try.underlying23 (by kernel_rfl) (Opens.opens_iso (fun x : Pr.S46 => (x.f0, x.f1, x.f2, x.f3, x.f4, x.f5, x.f6, x.f7, x.f8)) (fun y => (⟨y.1, y.2.1, y.2.2.1, y.2.2.2.1, y.2.2.2.2.1, y.2.2.2.2.2.1, y.2.2.2.2.2.2.1, y.2.2.2.2.2.2.2.1, y.2.2.2.2.2.2.2.2⟩ : Pr.S46)) (fun _ => rfl) (Opens.opens_struct Try.underlying46 (by kernel_rfl) (Opens.opensFs_cons (da := Kd.int .i64) rfl (by kernel_rfl) (Opens.opens_int Try.underlying3) (Opens.opensFs_cons (da := Kd.int .i64) rfl (by kernel_rfl) (Opens.opens_int Try.underlying3) (Opens.opensFs_cons (da := Kd.int .i64) rfl (by kernel_rfl) (Opens.opens_int Try.underlying3) (Opens.opensFs_cons (da := Kd.int .i64) rfl (by kernel_rfl) (Opens.opens_int Try.underlying3) (Opens.opensFs_cons (da := Kd.int .i64) rfl (by kernel_rfl) (Opens.opens_int Try.underlying3) (Opens.opensFs_cons (da := Kd.int .i64) rfl (by kernel_rfl) (Opens.opens_int Try.underlying3) (Opens.opensFs_cons (da := Kd.int .i64) rfl (by kernel_rfl) (Opens.opens_int Try.underlying3) (Opens.opensFs_cons (da := Kd.string) rfl (by kernel_rfl) (Opens.opens_string Try.underlying9) (Opens.opensFs_last rfl (by kernel_rfl) (Opens.opens_slice (d := Kd.int .i64) Try.underlying42 (by kernel_rfl) (Opens.opens_int Try.underlying3)))))))))))))))))) H enc W 0 _ true m0 _ _ hm0
  obtain ⟨_, _, e0, q0_0, _, _, rfl, q0_1, q0_2⟩ := hK0
  obtain rfl := q0_0
  obtain ⟨A0_1, c0_1, rfl, hc0_1, hr0_1⟩ := q0_1
  obtain ⟨A0_2, c0_2, rfl, hc0_2, hr0_2⟩ := q0_2
  obtain rfl : cs0 = #[.int .i64 x0.1, .slice A0_1 x0.2.1.length c0_1, .slice A0_2 x0.2.2.length c0_2] := by have e0' := congrArg List.toArray e0; simpa [Value.cells] using e0'
  obtain ⟨a1, len1, cap1, rfl⟩ := okWide_slice Try.underlying26 (hval 1 26 v1 rfl rfl)
  have k1 := h1
  have lt1 : ∀ x ∈ p1, x.block < W.heap.size := by obtain ⟨m, hm⟩ := k1; exact DataW.trod_lt m _ _ _ hm
  obtain ⟨m1, hm1⟩ := h1
  obtain ⟨l1, hK1, hw1⟩ := (Opens.opens_slice (d := Pr.k41) Try.underlying26 (by kernel_rfl) (Opens.opens_iso (fun x : Pr.S41 => (x.f0, x.f1, x.f2, x.f3)) (fun y => (⟨y.1, y.2.1, y.2.2.1, y.2.2.2⟩ : Pr.S41)) (fun _ => rfl) (Opens.opens_struct Try.underlying41 (by kernel_rfl) (Opens.opensFs_cons (da := Kd.int .i64) rfl (by kernel_rfl) (Opens.opens_int Try.underlying3) (Opens.opensFs_cons (da := Kd.int .i64) rfl (by kernel_rfl) (Opens.opens_int Try.underlying3) (Opens.opensFs_cons (da := Kd.string) rfl (by kernel_rfl) (Opens.opens_string Try.underlying9) (Opens.opensFs_last rfl (by kernel_rfl) (Opens.opens_int Try.underlying3)))))))) H enc W 0 _ true m1 _ _ hm1
  obtain ⟨hn1, hc1, hr1⟩ := Opens.slice_of_K rfl hK1
  subst hn1
  clear hA0 hval0 hsz0 hsz
  have hP := Pure.LeastAdds x0.1 x0.2.1 x0.2.2 hw0 l1 hw1
  obtain ⟨k, hP⟩ := hP
  refine (Pr.l4_LeastAdds.calls k x0.1 _ _ x0.2.1 _ _ x0.2.2 _ _ l1 true W hr0_1 hc0_1 hr0_2 hc0_2 hr1 hc1 hP).mono fun e W' ⟨he, bel⟩ => ?_
  subst he
  exact ⟨_, rfl, _, _, _, [], _, [], hW', trodAll_mk1 (shut_bool Try.underlying4 _), (trodAll_cons_mk (Below.trod laidOut (by kernel_rfl) (of_decide_eq_true (by kernel_rfl)) k0 bel lt0) (trodAll_cons_mk (Below.trod laidOut (by kernel_rfl) (of_decide_eq_true (by kernel_rfl)) k1 bel lt1) trodAll_mk0)), rfl, bel.frame _, fun h => by cases h⟩
theorem over : Rows.leastAddsRow.holds Try.pinned (OpenSpec.ofChange Rows.leastAddsSpec) :=
  OpenClaim.holds_of_wide 7 Try.f7 rfl rfl rfl rfl rfl rfl rfl ⟨rfl, rfl, rfl, rfl, rfl⟩ rfl rfl rfl rfl rfl (by kernel_rfl) Try.func7 (by kernel_rfl)
    (of_decide_eq_true (by kernel_rfl)) (by unfold Func.isWrapper; first | (rw [if_pos (by decide +kernel)]; kernel_rfl) | (rw [if_neg (by decide +kernel)]; exact ⟨rfl, rfl⟩))
    (fun os started H enc _ => lifted os started H enc)
theorem proved : Rows.LeastAddsSaid := over
end Go.Proofs.Ytngppcmdaanheaa.leastAdds
namespace Go.Proofs.Ytngppcmdaanheaa
theorem leastAdds_holds : Rows.LeastAddsSaid := leastAdds.proved
end Go.Proofs.Ytngppcmdaanheaa
