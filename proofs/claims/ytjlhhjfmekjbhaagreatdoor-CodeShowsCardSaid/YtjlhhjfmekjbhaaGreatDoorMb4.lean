/- Lemmas for the claims of this seat (own texts, packed; what the claims do not use is left out). No condition. -/
import Derived.Maps.OwnSet
import Derived.Maps.Views
import Derived.StringKeys
import Derived.Test.YtjlhhjfmekjbhaaGreatDoorMb0
import Derived.Test.YtjlhhjfmekjbhaaGreatDoorMb1
import Derived.Test.YtjlhhjfmekjbhaaGreatDoorMb2
import Derived.Test.YtjlhhjfmekjbhaaGreatDoorMb3
namespace Go.Proofs.YtjlhhjfmekjbhaaGreatDoor.Pr
open Go.RowKit Go.Proofs.YtjlhhjfmekjbhaaGreatDoorW.PrintWords Go.Proofs.YtjlhhjfmekjbhaaGreatDoorW.PrintLast Go.Proofs.YtjlhhjfmekjbhaaGreatDoorW.PrintMore
set_option linter.unusedVariables false
set_option linter.unusedSimpArgs false
/-! ### q6_Num: function 110 -/
mutual
def q6_Num.j0 : Nat → Bool → Int → Int → ByteArray → Option (Int)
  | 0, _, _, _, _ => none
  | k + 1, x13, x176000, x176001, x176002 => if x13 = true then (some x176001) else (if x176000 = 4 then (if (x176002.size : Int) = 0 then (q6_Num.j1 k true x176000 x176001 x176002) else (q6_Num.j1 k (decide ((x176002.size : Int) > 20)) x176000 x176001 x176002)) else (q6_Num.j1 k true x176000 x176001 x176002))
def q6_Num.j1 : Nat → Bool → Int → Int → ByteArray → Option (Int)
  | 0, _, _, _, _ => none
  | k + 1, x30, x176000, x176001, x176002 => if x30 = true then (some 0) else (if 0 < (x176002.size : Int) then (if (bt x176002 0) = 45 then (q6_Num.j2 k 0 1 x176000 x176001 x176002) else (q6_Num.j2 k 0 0 x176000 x176001 x176002)) else (none))
def q6_Num.j2 : Nat → Int → Int → Int → Int → ByteArray → Option (Int)
  | 0, _, _, _, _, _ => none
  | k + 1, x3, x4, x176000, x176001, x176002 => q6_Num.l0 k x3 x4 x4 x176000 x176001 x176002
def q6_Num.l0 : Nat → Int → Int → Int → Int → Int → ByteArray → Option (Int)
  | 0, _, _, _, _, _, _ => none
  | k + 1, x3, x4, x5, x176000, x176001, x176002 => if x5 < (x176002.size : Int) then (if 0 ≤ x5 then (if (bt x176002 x5) < 48 then (q6_Num.j4 k x3 x4 x5 true x176000 x176001 x176002) else (q6_Num.j4 k x3 x4 x5 (decide ((bt x176002 x5) > 57)) x176000 x176001 x176002)) else (none)) else (if x4 = 1 then (q6_Num.j5 k (wrap64 (-x3)) x176000 x176001 x176002) else (q6_Num.j5 k x3 x176000 x176001 x176002))
def q6_Num.j4 : Nat → Int → Int → Int → Bool → Int → Int → ByteArray → Option (Int)
  | 0, _, _, _, _, _, _, _ => none
  | k + 1, x3, x4, x5, x54, x176000, x176001, x176002 => if x54 = true then (some 0) else (if 0 ≤ x5 then (if x5 < (x176002.size : Int) then (q6_Num.l0 k (wrap64 ((wrap64 (10 * x3)) + (((bt x176002 x5) - 48) % 256))) x4 (wrap64 (x5 + 1)) x176000 x176001 x176002) else (none)) else (none))
def q6_Num.j5 : Nat → Int → Int → Int → ByteArray → Option (Int)
  | 0, _, _, _, _ => none
  | k + 1, x3, x176000, x176001, x176002 => (q6_digits.f k x3).bind fun t176 => (if t176.toList = x176002.toList then (some x3) else (some 0))
end
def q6_Num.f (k : Nat) (a0_0 : Int) (a0_1 : Int) (a0_2 : ByteArray) : Option (Int) := if a0_0 = 2 then (q6_Num.j0 k true a0_0 a0_1 a0_2) else (q6_Num.j0 k (a0_0 == 3) a0_0 a0_1 a0_2)
set_option maxHeartbeats 8000000 in
set_option maxRecDepth 100000 in
theorem q6_Num.calls (k : Nat) (a0_0 : Int) (a0_1 : Int) (a0_2 : ByteArray) (r : Int) (w : World) (h : q6_Num.f k a0_0 a0_1 a0_2 = some r) :
    Calls Tryz.prog 110 #[.agg #[.int .i64 a0_0, .int .i64 a0_1, .string a0_2]] w fun e w' => e = .returned (.int .i64 r) ∧ Below w.heap.size w w' := by
  have hu83 := Tryz.underlying83
  have HB := Aside0.mk (Below.refl w.heap.size w)
  have H : (if a0_0 = 2 then (q6_Num.j0 k true a0_0 a0_1 a0_2) else (q6_Num.j0 k (a0_0 == 3) a0_0 a0_1 a0_2)) = some r := h
  clear h
  have HC2 := Aside0.mk H
  clear H
  go_enter Tryz.func110, Tryz.ntmps110
  go_upto_region 1 with (first | ((with_reducible refine gate_dst (N := 1) rfl ?_); (try (refine gate_guard (by rfl) ?_; dsimp only)); refine zX (N := 1) (cs := #[.int .i64 a0_0, .int .i64 a0_1, .string a0_2]) (t := 83) (h := ?_); intro gb175 hg w3 hbox hb; have BK175 := Aside0.mk hbox; have GW175 := Aside0.mk ((zS : w.heap.size ≤ gb175)); have GE175 := Aside0.mk ((zS : w.heap.size ≤ gb175)); replace HB := Aside0.mk (below_step zB hb); clear hb hbox hg))
  (try simp only [Act.put, List.setIfInBounds_toArray, List.set_cons_zero, List.set_cons_succ])
  go_cut [13] (fun v13 wc => ∃ (kq : Nat) (x13_1 : Bool), v13 = .bool x13_1 ∧ Aside0 (q6_Num.j0 kq x13_1 a0_0 a0_1 a0_2 = some r) ∧ Aside0 (kq ≤ k) ∧ Aside0 (wc.heap[gb175]? = some (.cells #[.int .i64 a0_0, .int .i64 a0_1, .string a0_2] 83 (0, 0))) ∧ Aside0 (Below w.heap.size w wc))
  case first =>
    have H := HC2.out
    clear HC2
    by_cases c4 : a0_0 = 2
    · rw [if_pos c4] at H
      have c4b0 : (a0_0 == 2) = true := beq_iff_eq.mpr c4
      have c4b1 : (a0_0 != 2) = false := bne_eq_false_iff_eq.mpr c4
      clear c4
      (first | rw [c4b0] | (simp only [i64_w, i32_w]; rw [c4b0]) | skip)
      have H' := Aside0.mk H
      clear H
      obtain ⟨hcz5_0, hcz5_1, hcz5_2, hfz5_0, hfz5_1, hfz5_2⟩ := zd3 BK175.out (.int .i64 a0_0) (.int .i64 a0_1) (.string a0_2)
      go_wp2
      go_meet
      case rel => exact ⟨_, (true), zR, H', ⟨by first | omega | exact Nat.le_refl _⟩, ⟨zK⟩, ⟨zG⟩⟩
    · rw [if_neg c4] at H
      have c4b0 : (a0_0 == 2) = false := beq_eq_false_iff_ne.mpr c4
      have c4b1 : (a0_0 != 2) = true := bne_iff_ne.mpr c4
      (first | rw [c4b0] | (simp only [i64_w, i32_w]; rw [c4b0]) | skip)
      have H' := Aside0.mk H
      clear H
      obtain ⟨hcz6_0, hcz6_1, hcz6_2, hfz6_0, hfz6_1, hfz6_2⟩ := zd3 BK175.out (.int .i64 a0_0) (.int .i64 a0_1) (.string a0_2)
      go_wp2
      go_meet
      case rel => exact ⟨_, ((a0_0 == 3)), zR, H', ⟨by first | omega | exact Nat.le_refl _⟩, ⟨zK⟩, ⟨zG⟩⟩
  case rest =>
    clear HC2
    obtain ⟨kq, x13_1, rfl, HA, HJ1, BK175, HB⟩ := hcut
    cases kq with
    | zero => exact absurd HA.out (by simp [q6_Num.j0])
    | succ kj1 =>
      have H := HA.out
      clear HA
      simp only [q6_Num.j0] at H
      by_cases c7 : x13_1 = true
      · subst c7
        rw [if_pos rfl] at H
        obtain rfl := Option.some.inj H
        obtain ⟨hcz8_0, hcz8_1, hcz8_2, hfz8_0, hfz8_1, hfz8_2⟩ := zd3 BK175.out (.int .i64 a0_0) (.int .i64 a0_1) (.string a0_2)
        go_wp2
        go_ret
        exact ⟨zE, zG⟩
      · replace c7 := Bool.eq_false_iff.mpr c7
        subst c7
        rw [if_neg (show ¬ (false = true) by decide)] at H
        have HC9 := Aside0.mk H
        clear H
        go_upto_region 3 with (fail)
        go_cut [30] (fun v30 wc => ∃ (kq : Nat) (x30_8 : Bool), v30 = .bool x30_8 ∧ Aside0 (q6_Num.j1 kq x30_8 a0_0 a0_1 a0_2 = some r) ∧ Aside0 (kq ≤ kj1) ∧ Aside0 (wc.heap[gb175]? = some (.cells #[.int .i64 a0_0, .int .i64 a0_1, .string a0_2] 83 (0, 0))) ∧ Aside0 (Below w.heap.size w wc))
        case first =>
          have H := HC9.out
          clear HC9
          by_cases c10 : a0_0 = 4
          · rw [if_pos c10] at H
            have c10b0 : (a0_0 == 4) = true := beq_iff_eq.mpr c10
            have c10b1 : (a0_0 != 4) = false := bne_eq_false_iff_eq.mpr c10
            clear c10
            (first | rw [c10b0] | (simp only [i64_w, i32_w]; rw [c10b0]) | skip)
            by_cases c11 : (a0_2.size : Int) = 0
            · rw [if_pos c11] at H
              have c11b0 : ((a0_2.size : Int) == 0) = true := beq_iff_eq.mpr c11
              have c11b1 : ((a0_2.size : Int) != 0) = false := bne_eq_false_iff_eq.mpr c11
              clear c11
              have H' := Aside0.mk H
              clear H
              obtain ⟨hcz12_0, hcz12_1, hcz12_2, hfz12_0, hfz12_1, hfz12_2⟩ := zd3 BK175.out (.int .i64 a0_0) (.int .i64 a0_1) (.string a0_2)
              go_wp2
              go_meet
              case rel => exact ⟨_, (true), zR, H', ⟨by have := HJ1.out; first | omega | exact Nat.le_refl _⟩, ⟨zK⟩, ⟨zG⟩⟩
            · rw [if_neg c11] at H
              have c11b0 : ((a0_2.size : Int) == 0) = false := beq_eq_false_iff_ne.mpr c11
              have c11b1 : ((a0_2.size : Int) != 0) = true := bne_iff_ne.mpr c11
              have H' := Aside0.mk H
              clear H
              obtain ⟨hcz13_0, hcz13_1, hcz13_2, hfz13_0, hfz13_1, hfz13_2⟩ := zd3 BK175.out (.int .i64 a0_0) (.int .i64 a0_1) (.string a0_2)
              go_wp2
              go_meet
              case rel => exact ⟨_, (decide ((a0_2.size : Int) > 20)), zR, H', ⟨by have := HJ1.out; first | omega | exact Nat.le_refl _⟩, ⟨zK⟩, ⟨zG⟩⟩
          · rw [if_neg c10] at H
            have c10b0 : (a0_0 == 4) = false := beq_eq_false_iff_ne.mpr c10
            have c10b1 : (a0_0 != 4) = true := bne_iff_ne.mpr c10
            (first | rw [c10b0] | (simp only [i64_w, i32_w]; rw [c10b0]) | skip)
            have H' := Aside0.mk H
            clear H
            obtain ⟨hcz14_0, hcz14_1, hcz14_2, hfz14_0, hfz14_1, hfz14_2⟩ := zd3 BK175.out (.int .i64 a0_0) (.int .i64 a0_1) (.string a0_2)
            go_wp2
            go_meet
            case rel => exact ⟨_, (true), zR, H', ⟨by have := HJ1.out; first | omega | exact Nat.le_refl _⟩, ⟨zK⟩, ⟨zG⟩⟩
        case rest =>
          clear HC9
          obtain ⟨kq, x30_8, rfl, HA, HJ8, BK175, HB⟩ := hcut
          cases kq with
          | zero => exact absurd HA.out (by simp [q6_Num.j1])
          | succ kj8 =>
            have H := HA.out
            clear HA
            simp only [q6_Num.j1] at H
            by_cases c15 : x30_8 = true
            · subst c15
              rw [if_pos rfl] at H
              obtain rfl := Option.some.inj H
              go_wp2
              go_ret
              exact ⟨zE, zG⟩
            · replace c15 := Bool.eq_false_iff.mpr c15
              subst c15
              rw [if_neg (show ¬ (false = true) by decide)] at H
              by_cases c16 : 0 < (a0_2.size : Int)
              · rw [if_pos c16] at H
                have c16b0 : decide (0 < (a0_2.size : Int)) = true := decide_eq_true c16
                have c16b1 : decide (0 < a0_2.size) = true := decide_eq_true (by omega)
                clear c16
                have HC18 := Aside0.mk H
                clear H
                obtain ⟨hcz19_0, hcz19_1, hcz19_2, hfz19_0, hfz19_1, hfz19_2⟩ := zd3 BK175.out (.int .i64 a0_0) (.int .i64 a0_1) (.string a0_2)
                have p17 : 0 ≤ (0 : Int) := (by omega)
                have q17 : 0 < a0_2.size := (by have : (0 : Int) < (a0_2.size : Int) := of_decide_eq_true zA; omega)
                have hx17 : ∀ h : 0 < a0_2.size, ((a0_2[0]'h).toNat : Int) = bt a0_2 0 := bt_at a0_2 0
                clear p17
                have qi17 : (0 < (a0_2.size : Int)) = True := eq_true (of_decide_eq_true zA)
                replace q17 := eq_true q17
                go_upto_if 34 with (fail)
                go_cut [4] (fun v4 wc => ∃ (kq : Nat) (x4_17 : Int), v4 = .int .i64 x4_17 ∧ Aside0 (q6_Num.j2 kq 0 x4_17 a0_0 a0_1 a0_2 = some r) ∧ Aside0 (kq ≤ kj8) ∧ Aside0 (wc.heap[gb175]? = some (.cells #[.int .i64 a0_0, .int .i64 a0_1, .string a0_2] 83 (0, 0))) ∧ Aside0 (Below w.heap.size w wc))
                case first =>
                  have H := HC18.out
                  clear HC18
                  by_cases c20 : (bt a0_2 0) = 45
                  · rw [if_pos c20] at H
                    have c20b0 : ((bt a0_2 0) == 45) = true := beq_iff_eq.mpr c20
                    have c20b1 : ((bt a0_2 0) != 45) = false := bne_eq_false_iff_eq.mpr c20
                    clear c20
                    (first | rw [c20b0] | (simp only [i64_w, i32_w]; rw [c20b0]) | skip)
                    have H' := Aside0.mk H
                    clear H
                    go_wp2
                    go_meet
                    case rel => exact ⟨_, (1), zR, H', ⟨by have := HJ1.out; have := HJ8.out; first | omega | exact Nat.le_refl _⟩, ⟨zK⟩, ⟨zG⟩⟩
                  · rw [if_neg c20] at H
                    have c20b0 : ((bt a0_2 0) == 45) = false := beq_eq_false_iff_ne.mpr c20
                    have c20b1 : ((bt a0_2 0) != 45) = true := bne_iff_ne.mpr c20
                    (first | rw [c20b0] | (simp only [i64_w, i32_w]; rw [c20b0]) | skip)
                    have H' := Aside0.mk H
                    clear H
                    go_wp2
                    go_meet
                    case rel => exact ⟨_, (0), zR, H', ⟨by have := HJ1.out; have := HJ8.out; first | omega | exact Nat.le_refl _⟩, ⟨zK⟩, ⟨zG⟩⟩
                case rest =>
                  clear HC18
                  clear c16b0 c16b1 q17 hx17 qi17 hcz19_0 hcz19_1 hcz19_2 hfz19_0 hfz19_1 hfz19_2
                  obtain ⟨kq, x4_17, rfl, HA, HJ17, BK175, HB⟩ := hcut
                  cases kq with
                  | zero => exact absurd HA.out (by simp [q6_Num.j2])
                  | succ kj17 =>
                    have H := HA.out
                    clear HA
                    simp only [q6_Num.j2] at H
                    have H' := Aside0.mk H
                    clear H
                    go_wp2
                    go_loopg [3, 5] kj17 (fun kq v3 v5 w' => ∃ (x3_4 : Int) (x5_4 : Int), v3 = .int .i64 x3_4 ∧ v5 = .int .i64 x5_4 ∧ Aside0 (q6_Num.l0 kq x3_4 x4_17 x5_4 a0_0 a0_1 a0_2 = some r) ∧ Aside0 (kq ≤ kj17) ∧ Aside0 (w'.heap[gb175]? = some (.cells #[.int .i64 a0_0, .int .i64 a0_1, .string a0_2] 83 (0, 0))) ∧ Aside0 (Below w.heap.size w w'))
                    case atStart => exact ⟨(0), (x4_17), zR, zR, H', ⟨Nat.le_refl _⟩, ⟨zK⟩, ⟨zG⟩⟩
                    case round =>
                      clear H'
                      obtain ⟨x3_4, x5_4, rfl, rfl, HA, HK4, BK175, HB⟩ := hrel
                      cases gk with
                      | zero => exact absurd HA.out (by simp [q6_Num.l0])
                      | succ k4 =>
                        have H := HA.out
                        clear HA
                        simp only [q6_Num.l0] at H
                        by_cases c21 : x5_4 < (a0_2.size : Int)
                        · rw [if_pos c21] at H
                          have c21b0 : decide (x5_4 < (a0_2.size : Int)) = true := decide_eq_true c21
                          clear c21
                          have HC22 := Aside0.mk H
                          clear H
                          obtain ⟨hcz23_0, hcz23_1, hcz23_2, hfz23_0, hfz23_1, hfz23_2⟩ := zd3 BK175.out (.int .i64 a0_0) (.int .i64 a0_1) (.string a0_2)
                          go_upto_region 12 with (fail)
                          go_cut [54] (fun v54 wc => ∃ (kq : Nat) (x54_21 : Bool), v54 = .bool x54_21 ∧ Aside0 (q6_Num.j4 kq x3_4 x4_17 x5_4 x54_21 a0_0 a0_1 a0_2 = some r) ∧ Aside0 (kq ≤ k4) ∧ Aside0 (wc.heap[gb175]? = some (.cells #[.int .i64 a0_0, .int .i64 a0_1, .string a0_2] 83 (0, 0))) ∧ Aside0 (Below w.heap.size w wc))
                          case first =>
                            have H := HC22.out
                            clear HC22
                            by_cases c24 : 0 ≤ x5_4
                            · rw [if_pos c24] at H
                              have c24b0 : decide (0 ≤ x5_4) = true := decide_eq_true c24
                              clear c24
                              (first | rw [c24b0] | (simp only [i64_w, i32_w]; rw [c24b0]) | skip)
                              by_cases c26 : (bt a0_2 x5_4) < 48
                              · rw [if_pos c26] at H
                                have c26b0 : decide ((bt a0_2 x5_4) < 48) = true := decide_eq_true c26
                                clear c26
                                have H' := Aside0.mk H
                                clear H
                                obtain ⟨hcz27_0, hcz27_1, hcz27_2, hfz27_0, hfz27_1, hfz27_2⟩ := zd3 BK175.out (.int .i64 a0_0) (.int .i64 a0_1) (.string a0_2)
                                have p25 : 0 ≤ (x5_4 : Int) := of_decide_eq_true zA
                                have q25 : x5_4 < (a0_2.size : Int) := of_decide_eq_true zA
                                have hx25 := bt_at a0_2 x5_4
                                replace p25 := eq_true p25
                                replace q25 := eq_true q25
                                go_wp2
                                go_meet
                                case rel => exact ⟨_, (true), zR, H', ⟨by have := HJ1.out; have := HJ8.out; have := HJ17.out; have := HK4.out; first | omega | exact Nat.le_refl _⟩, ⟨zK⟩, ⟨zG⟩⟩
                              · rw [if_neg c26] at H
                                have c26b0 : decide ((bt a0_2 x5_4) < 48) = false := decide_eq_false c26
                                clear c26
                                have H' := Aside0.mk H
                                clear H
                                obtain ⟨hcz29_0, hcz29_1, hcz29_2, hfz29_0, hfz29_1, hfz29_2⟩ := zd3 BK175.out (.int .i64 a0_0) (.int .i64 a0_1) (.string a0_2)
                                have p25 : 0 ≤ (x5_4 : Int) := of_decide_eq_true zA
                                have q25 : x5_4 < (a0_2.size : Int) := of_decide_eq_true zA
                                have hx25 := bt_at a0_2 x5_4
                                replace p25 := eq_true p25
                                replace q25 := eq_true q25
                                have p28 : 0 ≤ (x5_4 : Int) := of_decide_eq_true zA
                                have q28 : x5_4 < (a0_2.size : Int) := of_decide_eq_true zA
                                have hx28 := bt_at a0_2 x5_4
                                replace p28 := eq_true p28
                                replace q28 := eq_true q28
                                go_wp2
                                go_meet
                                case rel => exact ⟨_, (decide ((bt a0_2 x5_4) > 57)), zR, H', ⟨by have := HJ1.out; have := HJ8.out; have := HJ17.out; have := HK4.out; first | omega | exact Nat.le_refl _⟩, ⟨zK⟩, ⟨zG⟩⟩
                            · rw [if_neg c24] at H
                              exact absurd H (by simp)
                          case rest =>
                            clear HC22
                            clear c21b0 hcz23_0 hcz23_1 hcz23_2 hfz23_0 hfz23_1 hfz23_2
                            obtain ⟨kq, x54_21, rfl, HA, HJ21, BK175, HB⟩ := hcut
                            cases kq with
                            | zero => exact absurd HA.out (by simp [q6_Num.j4])
                            | succ kj21 =>
                              have H := HA.out
                              clear HA
                              simp only [q6_Num.j4] at H
                              by_cases c30 : x54_21 = true
                              · subst c30
                                rw [if_pos rfl] at H
                                obtain rfl := Option.some.inj H
                                go_wp2
                                go_ret
                                exact ⟨zE, zG⟩
                              · replace c30 := Bool.eq_false_iff.mpr c30
                                subst c30
                                rw [if_neg (show ¬ (false = true) by decide)] at H
                                by_cases c31 : 0 ≤ x5_4
                                · rw [if_pos c31] at H
                                  have c31b0 : decide (0 ≤ x5_4) = true := decide_eq_true c31
                                  clear c31
                                  by_cases c32 : x5_4 < (a0_2.size : Int)
                                  · rw [if_pos c32] at H
                                    have c32b0 : decide (x5_4 < (a0_2.size : Int)) = true := decide_eq_true c32
                                    clear c32
                                    have H' := Aside0.mk H
                                    clear H
                                    obtain ⟨hcz34_0, hcz34_1, hcz34_2, hfz34_0, hfz34_1, hfz34_2⟩ := zd3 BK175.out (.int .i64 a0_0) (.int .i64 a0_1) (.string a0_2)
                                    have p33 : 0 ≤ (x5_4 : Int) := of_decide_eq_true zA
                                    have q33 : x5_4 < (a0_2.size : Int) := of_decide_eq_true zA
                                    have hx33 := bt_at a0_2 x5_4
                                    replace p33 := eq_true p33
                                    replace q33 := eq_true q33
                                    go_wp2
                                    go_roundg kj21
                                    case measure => have := HJ1.out; have := HJ8.out; have := HJ17.out; have := HK4.out; have := HJ21.out; omega
                                    case rel => exact ⟨(wrap64 ((wrap64 (10 * x3_4)) + (((bt a0_2 x5_4) - 48) % 256))), (wrap64 (x5_4 + 1)), zR, zR, H', ⟨by have := HJ1.out; have := HJ8.out; have := HJ17.out; have := HK4.out; have := HJ21.out; omega⟩, ⟨zK⟩, ⟨zG⟩⟩
                                  · rw [if_neg c32] at H
                                    exact absurd H (by simp)
                                · rw [if_neg c31] at H
                                  exact absurd H (by simp)
                        · rw [if_neg c21] at H
                          have c21b0 : decide (x5_4 < (a0_2.size : Int)) = false := decide_eq_false c21
                          clear c21
                          have HC35 := Aside0.mk H
                          clear H
                          obtain ⟨hcz36_0, hcz36_1, hcz36_2, hfz36_0, hfz36_1, hfz36_2⟩ := zd3 BK175.out (.int .i64 a0_0) (.int .i64 a0_1) (.string a0_2)
                          go_upto_if 65 with (fail)
                          go_cut [3] (fun v3 wc => ∃ (kq : Nat) (x3_34 : Int), v3 = .int .i64 x3_34 ∧ Aside0 (q6_Num.j5 kq x3_34 a0_0 a0_1 a0_2 = some r) ∧ Aside0 (kq ≤ k4) ∧ Aside0 (wc.heap[gb175]? = some (.cells #[.int .i64 a0_0, .int .i64 a0_1, .string a0_2] 83 (0, 0))) ∧ Aside0 (Below w.heap.size w wc))
                          case first =>
                            have H := HC35.out
                            clear HC35
                            by_cases c37 : x4_17 = 1
                            · rw [if_pos c37] at H
                              have c37b0 : (x4_17 == 1) = true := beq_iff_eq.mpr c37
                              have c37b1 : (x4_17 != 1) = false := bne_eq_false_iff_eq.mpr c37
                              clear c37
                              (first | rw [c37b0] | (simp only [i64_w, i32_w]; rw [c37b0]) | skip)
                              have H' := Aside0.mk H
                              clear H
                              go_wp2
                              go_meet
                              case rel => exact ⟨_, (wrap64 (-x3_4)), zR, H', ⟨by have := HJ1.out; have := HJ8.out; have := HJ17.out; have := HK4.out; first | omega | exact Nat.le_refl _⟩, ⟨zK⟩, ⟨zG⟩⟩
                            · rw [if_neg c37] at H
                              have c37b0 : (x4_17 == 1) = false := beq_eq_false_iff_ne.mpr c37
                              have c37b1 : (x4_17 != 1) = true := bne_iff_ne.mpr c37
                              (first | rw [c37b0] | (simp only [i64_w, i32_w]; rw [c37b0]) | skip)
                              have H' := Aside0.mk H
                              clear H
                              go_wp2
                              go_meet
                              case rel => exact ⟨_, (x3_4), zR, H', ⟨by have := HJ1.out; have := HJ8.out; have := HJ17.out; have := HK4.out; first | omega | exact Nat.le_refl _⟩, ⟨zK⟩, ⟨zG⟩⟩
                          case rest =>
                            clear HC35
                            clear c21b0 hcz36_0 hcz36_1 hcz36_2 hfz36_0 hfz36_1 hfz36_2
                            obtain ⟨kq, x3_34, rfl, HA, HJ34, BK175, HB⟩ := hcut
                            cases kq with
                            | zero => exact absurd HA.out (by simp [q6_Num.j5])
                            | succ kj34 =>
                              have H := HA.out
                              clear HA
                              simp only [q6_Num.j5] at H
                              obtain ⟨t176, A38, H⟩ := zO H
                              by_cases c39 : t176.toList = a0_2.toList
                              · rw [if_pos c39] at H
                                have c39b0 : (t176.toList == a0_2.toList) = true := beq_iff_eq.mpr c39
                                have c39b1 : (t176.toList != a0_2.toList) = false := bne_eq_false_iff_eq.mpr c39
                                clear c39
                                obtain rfl := Option.some.inj H
                                try go_wp2
                                have n0_ := Aside0.mk (blk_drew BK175.out)
                                have n1_ := Aside0.mk (below_drew1 HB.out)
                                clear BK175
                                clear HB
                                have BK175 := n0_
                                have HB := n1_
                                clear n0_ n1_
                                refine start_ (n := 5) (S := fun w' => w'.cell? ⟨gb175, 0, none⟩ = some (.int .i64 a0_0) ∧ w'.cell? ⟨gb175, 1, none⟩ = some (.int .i64 a0_1) ∧ w'.cell? ⟨gb175, 2, none⟩ = some (.string a0_2)) (ds := []) #[false, false, false, false, false] (by kernel_rfl) rfl rfl ⟨(blk_cell BK175.out 0).trans rfl, (blk_cell BK175.out 1).trans rfl, (blk_cell BK175.out 2).trans rfl⟩ (fun hHeld => ?_)
                                generalize wc.drew = w40 at BK175 HB hHeld ⊢
                                refine pure_ (i := 0) (N := some 68) (v := ?_) (a' := ?_) #[true, false, false, false, false] rfl rfl (by kernel_rfl) (fun _ _ _ h => h) (Or.inl ⟨by rfl, ?_⟩) ?_ ?_
                                rotate_left
                                · intro w'
                                  go_simp
                                  with_reducible rfl
                                rotate_left
                                · simp only [Act.put, List.setIfInBounds_toArray, List.set_cons_zero, List.set_cons_succ, i64_w, i32_w]
                                  rfl
                                refine pure_ (i := 2) (N := some 70) (v := ?_) (a' := ?_) #[true, false, true, false, false] rfl rfl (by kernel_rfl) (fun _ _ _ h => h) (Or.inl ⟨by rfl, ?_⟩) ?_ ?_
                                rotate_left
                                · intro w'
                                  go_simp
                                  with_reducible rfl
                                rotate_left
                                · simp only [Act.put, List.setIfInBounds_toArray, List.set_cons_zero, List.set_cons_succ, i64_w, i32_w]
                                  rfl
                                refine take_ (i := 3) (N := some 71) (v := ?_) (a' := ?_) #[true, false, true, true, false] rfl rfl (by kernel_rfl) (fun _ _ _ h => h) (Or.inl ⟨by rfl, ?_⟩) hHeld ?_ ?_
                                rotate_left
                                · rintro w' ⟨s0, s1, s2⟩
                                  go_simp
                                  with_reducible rfl
                                rotate_left
                                · simp only [Act.put, List.setIfInBounds_toArray, List.set_cons_zero, List.set_cons_succ, i64_w, i32_w]
                                  rfl
                                refine one_ (i := 1) (N := some 69) #[true, true, true, true, false] rfl rfl (by kernel_rfl) (by decide) (fun K hK => ?_)
                                refine goes_ Tryz.func97 (by kernel_rfl) rfl #[.int .i64 x3_34] (by rfl) rfl rfl zP ?_
                                with_reducible refine (q6_digits.calls kj34 x3_34 t176 _ A38.out).mono ?_
                                rintro e w41 ⟨rfl, hb⟩
                                refine ⟨_, rfl, ?_⟩
                                have n0_ := Aside0.mk (blk_below (g := gb175) zK hb)
                                have n1_ := Aside0.mk (below_step zG hb)
                                clear BK175
                                clear HB
                                have BK175 := n0_
                                have HB := n1_
                                clear n0_ n1_
                                (try clear hb)
                                (try clear hb2)
                                (try clear hk)
                                (try clear hi)
                                refine hK.out _ _ ⟨(blk_cell BK175.out 0).trans rfl, (blk_cell BK175.out 1).trans rfl, (blk_cell BK175.out 2).trans rfl⟩ (fun hHeld => ?_)
                                clear hK K
                                refine norm_ (a' := ?_) ?_ ?_
                                rotate_left
                                · show Act.put _ (some 69) _ = _
                                  simp only [Act.put, List.setIfInBounds_toArray, List.set_cons_zero, List.set_cons_succ, i64_w, i32_w]
                                  rfl
                                refine pure_ (i := 4) (N := some 72) (v := ?_) (a' := ?_) #[true, true, true, true, true] rfl rfl (by kernel_rfl) (fun _ _ _ h => h) (Or.inl ⟨by rfl, ?_⟩) ?_ ?_
                                rotate_left
                                · intro w'
                                  go_simp
                                  with_reducible rfl
                                rotate_left
                                · simp only [Act.put, List.setIfInBounds_toArray, List.set_cons_zero, List.set_cons_succ, i64_w, i32_w]
                                  rfl
                                refine done_ (by kernel_rfl) ?_
                                try go_wp2
                                go_ret
                                exact ⟨zE, zG⟩
                              · rw [if_neg c39] at H
                                have c39b0 : (t176.toList == a0_2.toList) = false := beq_eq_false_iff_ne.mpr c39
                                have c39b1 : (t176.toList != a0_2.toList) = true := bne_iff_ne.mpr c39
                                obtain rfl := Option.some.inj H
                                try go_wp2
                                have n0_ := Aside0.mk (blk_drew BK175.out)
                                have n1_ := Aside0.mk (below_drew1 HB.out)
                                clear BK175
                                clear HB
                                have BK175 := n0_
                                have HB := n1_
                                clear n0_ n1_
                                refine start_ (n := 5) (S := fun w' => w'.cell? ⟨gb175, 0, none⟩ = some (.int .i64 a0_0) ∧ w'.cell? ⟨gb175, 1, none⟩ = some (.int .i64 a0_1) ∧ w'.cell? ⟨gb175, 2, none⟩ = some (.string a0_2)) (ds := []) #[false, false, false, false, false] (by kernel_rfl) rfl rfl ⟨(blk_cell BK175.out 0).trans rfl, (blk_cell BK175.out 1).trans rfl, (blk_cell BK175.out 2).trans rfl⟩ (fun hHeld => ?_)
                                generalize wc.drew = w42 at BK175 HB hHeld ⊢
                                refine pure_ (i := 0) (N := some 68) (v := ?_) (a' := ?_) #[true, false, false, false, false] rfl rfl (by kernel_rfl) (fun _ _ _ h => h) (Or.inl ⟨by rfl, ?_⟩) ?_ ?_
                                rotate_left
                                · intro w'
                                  go_simp
                                  with_reducible rfl
                                rotate_left
                                · simp only [Act.put, List.setIfInBounds_toArray, List.set_cons_zero, List.set_cons_succ, i64_w, i32_w]
                                  rfl
                                refine pure_ (i := 2) (N := some 70) (v := ?_) (a' := ?_) #[true, false, true, false, false] rfl rfl (by kernel_rfl) (fun _ _ _ h => h) (Or.inl ⟨by rfl, ?_⟩) ?_ ?_
                                rotate_left
                                · intro w'
                                  go_simp
                                  with_reducible rfl
                                rotate_left
                                · simp only [Act.put, List.setIfInBounds_toArray, List.set_cons_zero, List.set_cons_succ, i64_w, i32_w]
                                  rfl
                                refine take_ (i := 3) (N := some 71) (v := ?_) (a' := ?_) #[true, false, true, true, false] rfl rfl (by kernel_rfl) (fun _ _ _ h => h) (Or.inl ⟨by rfl, ?_⟩) hHeld ?_ ?_
                                rotate_left
                                · rintro w' ⟨s0, s1, s2⟩
                                  go_simp
                                  with_reducible rfl
                                rotate_left
                                · simp only [Act.put, List.setIfInBounds_toArray, List.set_cons_zero, List.set_cons_succ, i64_w, i32_w]
                                  rfl
                                refine one_ (i := 1) (N := some 69) #[true, true, true, true, false] rfl rfl (by kernel_rfl) (by decide) (fun K hK => ?_)
                                refine goes_ Tryz.func97 (by kernel_rfl) rfl #[.int .i64 x3_34] (by rfl) rfl rfl zP ?_
                                with_reducible refine (q6_digits.calls kj34 x3_34 t176 _ A38.out).mono ?_
                                rintro e w43 ⟨rfl, hb⟩
                                refine ⟨_, rfl, ?_⟩
                                have n0_ := Aside0.mk (blk_below (g := gb175) zK hb)
                                have n1_ := Aside0.mk (below_step zG hb)
                                clear BK175
                                clear HB
                                have BK175 := n0_
                                have HB := n1_
                                clear n0_ n1_
                                (try clear hb)
                                (try clear hb2)
                                (try clear hk)
                                (try clear hi)
                                refine hK.out _ _ ⟨(blk_cell BK175.out 0).trans rfl, (blk_cell BK175.out 1).trans rfl, (blk_cell BK175.out 2).trans rfl⟩ (fun hHeld => ?_)
                                clear hK K
                                refine norm_ (a' := ?_) ?_ ?_
                                rotate_left
                                · show Act.put _ (some 69) _ = _
                                  simp only [Act.put, List.setIfInBounds_toArray, List.set_cons_zero, List.set_cons_succ, i64_w, i32_w]
                                  rfl
                                refine pure_ (i := 4) (N := some 72) (v := ?_) (a' := ?_) #[true, true, true, true, true] rfl rfl (by kernel_rfl) (fun _ _ _ h => h) (Or.inl ⟨by rfl, ?_⟩) ?_ ?_
                                rotate_left
                                · intro w'
                                  go_simp
                                  with_reducible rfl
                                rotate_left
                                · simp only [Act.put, List.setIfInBounds_toArray, List.set_cons_zero, List.set_cons_succ, i64_w, i32_w]
                                  rfl
                                refine done_ (by kernel_rfl) ?_
                                try go_wp2
                                go_ret
                                exact ⟨zE, zG⟩
              · rw [if_neg c16] at H
                exact absurd H (by simp)
end Go.Proofs.YtjlhhjfmekjbhaaGreatDoor.Pr

namespace Go.Proofs.YtjlhhjfmekjbhaaGreatDoor.Pr
open Go.RowKit Go.Proofs.YtjlhhjfmekjbhaaGreatDoorW.PrintWords Go.Proofs.YtjlhhjfmekjbhaaGreatDoorW.PrintLast Go.Proofs.YtjlhhjfmekjbhaaGreatDoorW.PrintMore
set_option linter.unusedVariables false
set_option linter.unusedSimpArgs false
/-! ### q6_less: function 112 -/
def q6_less.j0 : Nat → Bool → Int → Int → ByteArray → Int → Int → ByteArray → Option (Int)
  | 0, _, _, _, _, _, _, _ => none
  | k + 1, x14, x178000, x178001, x178002, x179000, x179001, x179002 => if x14 = true then (if x178002.toList = x179002.toList then (some 0) else (if (Op.bytesLess x178002.toList x179002.toList) = true then (some (-1)) else (some 1))) else ((q6_Num.f k x178000 x178001 x178002).bind fun t179 => ((q6_Num.f k x179000 x179001 x179002).bind fun t180 => (if t179 = t180 then (some 0) else (if t179 < t180 then (some (-1)) else (some 1)))))
def q6_less.f (k : Nat) (a0_0 : Int) (a0_1 : Int) (a0_2 : ByteArray) (a1_0 : Int) (a1_1 : Int) (a1_2 : ByteArray) : Option (Int) := if a0_0 = 4 then (q6_less.j0 k (a1_0 == 4) a0_0 a0_1 a0_2 a1_0 a1_1 a1_2) else (q6_less.j0 k false a0_0 a0_1 a0_2 a1_0 a1_1 a1_2)
set_option maxHeartbeats 8000000 in
set_option maxRecDepth 100000 in
theorem q6_less.calls (k : Nat) (a0_0 : Int) (a0_1 : Int) (a0_2 : ByteArray) (a1_0 : Int) (a1_1 : Int) (a1_2 : ByteArray) (r : Int) (w : World) (h : q6_less.f k a0_0 a0_1 a0_2 a1_0 a1_1 a1_2 = some r) :
    Calls Tryz.prog 112 #[.agg #[.int .i64 a0_0, .int .i64 a0_1, .string a0_2], .agg #[.int .i64 a1_0, .int .i64 a1_1, .string a1_2]] w fun e w' => e = .returned (.int .i64 r) ∧ Below w.heap.size w w' := by
  have hu83 := Tryz.underlying83
  have HB := Aside0.mk (Below.refl w.heap.size w)
  have H : (if a0_0 = 4 then (q6_less.j0 k (a1_0 == 4) a0_0 a0_1 a0_2 a1_0 a1_1 a1_2) else (q6_less.j0 k false a0_0 a0_1 a0_2 a1_0 a1_1 a1_2)) = some r := h
  clear h
  have HC3 := Aside0.mk H
  clear H
  go_enter Tryz.func112, Tryz.ntmps112
  go_upto_region 1 with (first | ((with_reducible refine gate_dst (N := 2) rfl ?_); refine zX (N := 2) (cs := #[.int .i64 a0_0, .int .i64 a0_1, .string a0_2]) (t := 83) (h := ?_); intro gb177 hg w4 hbox hb; have BK177 := Aside0.mk hbox; have GW177 := Aside0.mk ((zS : w.heap.size ≤ gb177)); have GE177 := Aside0.mk ((zS : w.heap.size ≤ gb177)); replace HB := Aside0.mk (below_step zB hb); clear hb hbox hg) | ((with_reducible refine gate_dst (N := 3) rfl ?_); refine zX (N := 3) (cs := #[.int .i64 a1_0, .int .i64 a1_1, .string a1_2]) (t := 83) (h := ?_); intro gb178 hg w5 hbox hb; have BK178 := Aside0.mk hbox; have GW178 := Aside0.mk ((zT : w.heap.size ≤ gb178)); have GE178 := Aside0.mk ((zT : w.heap.size ≤ gb178)); have NB177_178 := Aside0.mk ((zL : gb177 ≠ gb178)); have NB178_177 := Aside0.mk ((zM : gb178 ≠ gb177)); replace BK177 := Aside0.mk (blk_below (g := gb177) zK hb); replace HB := Aside0.mk (below_step zG hb); clear hb hbox hg))
  (try simp only [Act.put, List.setIfInBounds_toArray, List.set_cons_zero, List.set_cons_succ])
  go_cut [14] (fun v14 wc => ∃ (kq : Nat) (x14_2 : Bool), v14 = .bool x14_2 ∧ Aside0 (q6_less.j0 kq x14_2 a0_0 a0_1 a0_2 a1_0 a1_1 a1_2 = some r) ∧ Aside0 (kq ≤ k) ∧ Aside0 (wc.heap[gb177]? = some (.cells #[.int .i64 a0_0, .int .i64 a0_1, .string a0_2] 83 (0, 0))) ∧ Aside0 (wc.heap[gb178]? = some (.cells #[.int .i64 a1_0, .int .i64 a1_1, .string a1_2] 83 (0, 0))) ∧ Aside0 (Below w.heap.size w wc))
  case first =>
    have H := HC3.out
    clear HC3
    by_cases c6 : a0_0 = 4
    · rw [if_pos c6] at H
      have c6b0 : (a0_0 == 4) = true := beq_iff_eq.mpr c6
      have c6b1 : (a0_0 != 4) = false := bne_eq_false_iff_eq.mpr c6
      clear c6
      (first | rw [c6b0] | (simp only [i64_w, i32_w]; rw [c6b0]) | skip)
      have H' := Aside0.mk H
      clear H
      have hnb7 := NB177_178.out
      have hnc7 := NB178_177.out
      obtain ⟨hcz8_0, hcz8_1, hcz8_2, hfz8_0, hfz8_1, hfz8_2⟩ := zd3 BK177.out (.int .i64 a0_0) (.int .i64 a0_1) (.string a0_2)
      obtain ⟨hcz9_0, hcz9_1, hcz9_2, hfz9_0, hfz9_1, hfz9_2⟩ := zd3 BK178.out (.int .i64 a1_0) (.int .i64 a1_1) (.string a1_2)
      go_wp2
      go_meet
      case rel => exact ⟨_, ((a1_0 == 4)), zR, H', ⟨by first | omega | exact Nat.le_refl _⟩, ⟨zK⟩, ⟨zK⟩, ⟨zG⟩⟩
    · rw [if_neg c6] at H
      have c6b0 : (a0_0 == 4) = false := beq_eq_false_iff_ne.mpr c6
      have c6b1 : (a0_0 != 4) = true := bne_iff_ne.mpr c6
      (first | rw [c6b0] | (simp only [i64_w, i32_w]; rw [c6b0]) | skip)
      have H' := Aside0.mk H
      clear H
      have hnb10 := NB177_178.out
      have hnc10 := NB178_177.out
      obtain ⟨hcz11_0, hcz11_1, hcz11_2, hfz11_0, hfz11_1, hfz11_2⟩ := zd3 BK177.out (.int .i64 a0_0) (.int .i64 a0_1) (.string a0_2)
      go_wp2
      go_meet
      case rel => exact ⟨_, (false), zR, H', ⟨by first | omega | exact Nat.le_refl _⟩, ⟨zK⟩, ⟨zK⟩, ⟨zG⟩⟩
  case rest =>
    clear HC3
    obtain ⟨kq, x14_2, rfl, HA, HJ2, BK177, BK178, HB⟩ := hcut
    cases kq with
    | zero => exact absurd HA.out (by simp [q6_less.j0])
    | succ kj2 =>
      have H := HA.out
      clear HA
      simp only [q6_less.j0] at H
      by_cases c12 : x14_2 = true
      · subst c12
        rw [if_pos rfl] at H
        by_cases c13 : a0_2.toList = a1_2.toList
        · rw [if_pos c13] at H
          have c13b0 : (a0_2.toList == a1_2.toList) = true := beq_iff_eq.mpr c13
          have c13b1 : (a0_2.toList != a1_2.toList) = false := bne_eq_false_iff_eq.mpr c13
          clear c13
          obtain rfl := Option.some.inj H
          have hnb14 := NB177_178.out
          have hnc14 := NB178_177.out
          obtain ⟨hcz15_0, hcz15_1, hcz15_2, hfz15_0, hfz15_1, hfz15_2⟩ := zd3 BK177.out (.int .i64 a0_0) (.int .i64 a0_1) (.string a0_2)
          obtain ⟨hcz16_0, hcz16_1, hcz16_2, hfz16_0, hfz16_1, hfz16_2⟩ := zd3 BK178.out (.int .i64 a1_0) (.int .i64 a1_1) (.string a1_2)
          go_wp2
          go_ret
          exact ⟨zE, zG⟩
        · rw [if_neg c13] at H
          have c13b0 : (a0_2.toList == a1_2.toList) = false := beq_eq_false_iff_ne.mpr c13
          have c13b1 : (a0_2.toList != a1_2.toList) = true := bne_iff_ne.mpr c13
          by_cases c17 : (Op.bytesLess a0_2.toList a1_2.toList) = true
          · rw [if_pos c17] at H
            have c17b0 : (Op.bytesLess a0_2.toList a1_2.toList) = true := c17
            clear c17
            obtain rfl := Option.some.inj H
            have hnb18 := NB177_178.out
            have hnc18 := NB178_177.out
            obtain ⟨hcz19_0, hcz19_1, hcz19_2, hfz19_0, hfz19_1, hfz19_2⟩ := zd3 BK177.out (.int .i64 a0_0) (.int .i64 a0_1) (.string a0_2)
            obtain ⟨hcz20_0, hcz20_1, hcz20_2, hfz20_0, hfz20_1, hfz20_2⟩ := zd3 BK178.out (.int .i64 a1_0) (.int .i64 a1_1) (.string a1_2)
            go_wp2
            go_ret
            exact ⟨zE, zG⟩
          · rw [if_neg c17] at H
            have c17b0 : (Op.bytesLess a0_2.toList a1_2.toList) = false := by simpa using c17
            clear c17
            obtain rfl := Option.some.inj H
            have hnb21 := NB177_178.out
            have hnc21 := NB178_177.out
            obtain ⟨hcz22_0, hcz22_1, hcz22_2, hfz22_0, hfz22_1, hfz22_2⟩ := zd3 BK177.out (.int .i64 a0_0) (.int .i64 a0_1) (.string a0_2)
            obtain ⟨hcz23_0, hcz23_1, hcz23_2, hfz23_0, hfz23_1, hfz23_2⟩ := zd3 BK178.out (.int .i64 a1_0) (.int .i64 a1_1) (.string a1_2)
            go_wp2
            go_ret
            exact ⟨zE, zG⟩
      · replace c12 := Bool.eq_false_iff.mpr c12
        subst c12
        rw [if_neg (show ¬ (false = true) by decide)] at H
        obtain ⟨t179, A24, H⟩ := zO H
        obtain ⟨t180, A25, H⟩ := zO H
        by_cases c26 : t179 = t180
        · rw [if_pos c26] at H
          have c26b0 : (t179 == t180) = true := beq_iff_eq.mpr c26
          have c26b1 : (t179 != t180) = false := bne_eq_false_iff_eq.mpr c26
          clear c26
          obtain rfl := Option.some.inj H
          have hnb27 := NB177_178.out
          have hnc27 := NB178_177.out
          obtain ⟨hcz28_0, hcz28_1, hcz28_2, hfz28_0, hfz28_1, hfz28_2⟩ := zd3 BK177.out (.int .i64 a0_0) (.int .i64 a0_1) (.string a0_2)
          go_wp2_with (first | ((with_reducible refine gate_callee (f := 110) rfl ?_); refine goesL_ (some 28) rfl rfl Tryz.func110 (by kernel_rfl) rfl #[.agg #[.int .i64 a1_0, .int .i64 a1_1, .string a1_2]] rfl zP ?_; (with_reducible refine (q6_Num.calls kj2 a1_0 a1_1 a1_2 t180 _ A25.out).mono ?_); rintro e w31 ⟨rfl, hb⟩; refine ⟨_, rfl, ?_⟩; replace BK177 := Aside0.mk (blk_below (g := gb177) zK hb); replace BK178 := Aside0.mk (blk_below (g := gb178) zK hb); replace HB := Aside0.mk (below_step zG hb); (try clear hb)) | ((with_reducible refine gate_callee (f := 110) rfl ?_); refine goesL_ (some 26) rfl rfl Tryz.func110 (by kernel_rfl) rfl #[.agg #[.int .i64 a0_0, .int .i64 a0_1, .string a0_2]] rfl zP ?_; (with_reducible refine (q6_Num.calls kj2 a0_0 a0_1 a0_2 t179 _ A24.out).mono ?_); rintro e w29 ⟨rfl, hb⟩; refine ⟨_, rfl, ?_⟩; replace BK177 := Aside0.mk (blk_below (g := gb177) zK hb); replace BK178 := Aside0.mk (blk_below (g := gb178) zK hb); replace HB := Aside0.mk (below_step zG hb); (try clear hb); obtain ⟨hcz30_0, hcz30_1, hcz30_2, hfz30_0, hfz30_1, hfz30_2⟩ := zd3 BK178.out (.int .i64 a1_0) (.int .i64 a1_1) (.string a1_2)))
          go_ret
          exact ⟨zE, zG⟩
        · rw [if_neg c26] at H
          have c26b0 : (t179 == t180) = false := beq_eq_false_iff_ne.mpr c26
          have c26b1 : (t179 != t180) = true := bne_iff_ne.mpr c26
          by_cases c32 : t179 < t180
          · rw [if_pos c32] at H
            have c32b0 : decide (t179 < t180) = true := decide_eq_true c32
            clear c32
            obtain rfl := Option.some.inj H
            have hnb33 := NB177_178.out
            have hnc33 := NB178_177.out
            obtain ⟨hcz34_0, hcz34_1, hcz34_2, hfz34_0, hfz34_1, hfz34_2⟩ := zd3 BK177.out (.int .i64 a0_0) (.int .i64 a0_1) (.string a0_2)
            go_wp2_with (first | ((with_reducible refine gate_callee (f := 110) rfl ?_); refine goesL_ (some 28) rfl rfl Tryz.func110 (by kernel_rfl) rfl #[.agg #[.int .i64 a1_0, .int .i64 a1_1, .string a1_2]] rfl zP ?_; (with_reducible refine (q6_Num.calls kj2 a1_0 a1_1 a1_2 t180 _ A25.out).mono ?_); rintro e w37 ⟨rfl, hb⟩; refine ⟨_, rfl, ?_⟩; replace BK177 := Aside0.mk (blk_below (g := gb177) zK hb); replace BK178 := Aside0.mk (blk_below (g := gb178) zK hb); replace HB := Aside0.mk (below_step zG hb); (try clear hb)) | ((with_reducible refine gate_callee (f := 110) rfl ?_); refine goesL_ (some 26) rfl rfl Tryz.func110 (by kernel_rfl) rfl #[.agg #[.int .i64 a0_0, .int .i64 a0_1, .string a0_2]] rfl zP ?_; (with_reducible refine (q6_Num.calls kj2 a0_0 a0_1 a0_2 t179 _ A24.out).mono ?_); rintro e w35 ⟨rfl, hb⟩; refine ⟨_, rfl, ?_⟩; replace BK177 := Aside0.mk (blk_below (g := gb177) zK hb); replace BK178 := Aside0.mk (blk_below (g := gb178) zK hb); replace HB := Aside0.mk (below_step zG hb); (try clear hb); obtain ⟨hcz36_0, hcz36_1, hcz36_2, hfz36_0, hfz36_1, hfz36_2⟩ := zd3 BK178.out (.int .i64 a1_0) (.int .i64 a1_1) (.string a1_2)))
            go_ret
            exact ⟨zE, zG⟩
          · rw [if_neg c32] at H
            have c32b0 : decide (t179 < t180) = false := decide_eq_false c32
            clear c32
            obtain rfl := Option.some.inj H
            have hnb38 := NB177_178.out
            have hnc38 := NB178_177.out
            obtain ⟨hcz39_0, hcz39_1, hcz39_2, hfz39_0, hfz39_1, hfz39_2⟩ := zd3 BK177.out (.int .i64 a0_0) (.int .i64 a0_1) (.string a0_2)
            go_wp2_with (first | ((with_reducible refine gate_callee (f := 110) rfl ?_); refine goesL_ (some 28) rfl rfl Tryz.func110 (by kernel_rfl) rfl #[.agg #[.int .i64 a1_0, .int .i64 a1_1, .string a1_2]] rfl zP ?_; (with_reducible refine (q6_Num.calls kj2 a1_0 a1_1 a1_2 t180 _ A25.out).mono ?_); rintro e w42 ⟨rfl, hb⟩; refine ⟨_, rfl, ?_⟩; replace BK177 := Aside0.mk (blk_below (g := gb177) zK hb); replace BK178 := Aside0.mk (blk_below (g := gb178) zK hb); replace HB := Aside0.mk (below_step zG hb); (try clear hb)) | ((with_reducible refine gate_callee (f := 110) rfl ?_); refine goesL_ (some 26) rfl rfl Tryz.func110 (by kernel_rfl) rfl #[.agg #[.int .i64 a0_0, .int .i64 a0_1, .string a0_2]] rfl zP ?_; (with_reducible refine (q6_Num.calls kj2 a0_0 a0_1 a0_2 t179 _ A24.out).mono ?_); rintro e w40 ⟨rfl, hb⟩; refine ⟨_, rfl, ?_⟩; replace BK177 := Aside0.mk (blk_below (g := gb177) zK hb); replace BK178 := Aside0.mk (blk_below (g := gb178) zK hb); replace HB := Aside0.mk (below_step zG hb); (try clear hb); obtain ⟨hcz41_0, hcz41_1, hcz41_2, hfz41_0, hfz41_1, hfz41_2⟩ := zd3 BK178.out (.int .i64 a1_0) (.int .i64 a1_1) (.string a1_2)))
            go_ret
            exact ⟨zE, zG⟩
/-! ### q6_Bool: function 111 -/
def q6_Bool.f (a0 : Bool) : Option (Int × Int × ByteArray) := if a0 = true then (some (2, 1, (⟨#[]⟩ : ByteArray))) else (some (2, 0, (⟨#[]⟩ : ByteArray)))
set_option maxHeartbeats 8000000 in
set_option maxRecDepth 100000 in
theorem q6_Bool.calls (a0 : Bool) (r1 : Int) (r2 : Int) (r3 : ByteArray) (w : World) (h : q6_Bool.f a0 = some (r1, r2, r3)) :
    Calls Tryz.prog 111 #[.bool a0] w fun e w' => e = .returned (.agg #[.int .i64 r1, .int .i64 r2, .string r3]) ∧ Below w.heap.size w w' := by
  have hu83 := Tryz.underlying83
  have HB := Aside0.mk (Below.refl w.heap.size w)
  have H : (if a0 = true then (some (2, 1, (⟨#[]⟩ : ByteArray))) else (some (2, 0, (⟨#[]⟩ : ByteArray)))) = some (r1, r2, r3) := h
  clear h
  by_cases c2 : a0 = true
  · subst c2
    rw [if_pos rfl] at H
    simp only [Option.some.injEq, Prod.mk.injEq] at H
    obtain ⟨rfl, rfl, rfl⟩ := H
    go_enter Tryz.func111, Tryz.ntmps111
    go_wp2_with (first | ((with_reducible refine gate_dst (N := 2) rfl ?_); refine zX (N := 2) (cs := #[.int .i64 0, .int .i64 0, .string (⟨#[]⟩ : ByteArray)]) (t := 83) (h := ?_); intro gb181 hg w3 hbox hb; have BK181 := Aside0.mk hbox; have GW181 := Aside0.mk ((zS : w.heap.size ≤ gb181)); have GE181 := Aside0.mk ((zS : w.heap.size ≤ gb181)); replace HB := Aside0.mk (below_step zB hb); clear hb hbox hg; obtain ⟨hcz4_0, hcz4_1, hcz4_2, hfz4_0, hfz4_1, hfz4_2⟩ := zd3 BK181.out (.int .i64 0) (.int .i64 0) (.string (⟨#[]⟩ : ByteArray))))
    refine bodyPost_ret (results_cell_row rfl _ _ gb181 83 #[.int .i64 2, .int .i64 1, .string (⟨#[]⟩ : ByteArray)] (0, 0) _ rfl (by (with_reducible repeat (first | refine blk_drewN ?_ _ | refine blk_drew ?_ | refine blk_alloc ?_ _)); refine blk_put (cs := #[.int .i64 2, .int .i64 1, .string (⟨#[]⟩ : ByteArray)]) ?_ 2 _ rfl; (with_reducible repeat (first | refine blk_drewN ?_ _ | refine blk_drew ?_ | refine blk_alloc ?_ _)); refine blk_put (cs := #[.int .i64 2, .int .i64 0, .string (⟨#[]⟩ : ByteArray)]) ?_ 1 _ rfl; (with_reducible repeat (first | refine blk_drewN ?_ _ | refine blk_drew ?_ | refine blk_alloc ?_ _)); refine blk_put (cs := #[.int .i64 0, .int .i64 0, .string (⟨#[]⟩ : ByteArray)]) ?_ 0 _ rfl; (with_reducible repeat (first | refine blk_drewN ?_ _ | refine blk_drew ?_ | refine blk_alloc ?_ _)); exact BK181.out) Tryz.underlying83 rfl (by kernel_rfl)) rfl ?_
    exact ⟨zE, zG⟩
  · replace c2 := Bool.eq_false_iff.mpr c2
    subst c2
    rw [if_neg (show ¬ (false = true) by decide)] at H
    simp only [Option.some.injEq, Prod.mk.injEq] at H
    obtain ⟨rfl, rfl, rfl⟩ := H
    go_enter Tryz.func111, Tryz.ntmps111
    go_wp2_with (first | ((with_reducible refine gate_dst (N := 2) rfl ?_); refine zX (N := 2) (cs := #[.int .i64 0, .int .i64 0, .string (⟨#[]⟩ : ByteArray)]) (t := 83) (h := ?_); intro gb181 hg w5 hbox hb; have BK181 := Aside0.mk hbox; have GW181 := Aside0.mk ((zS : w.heap.size ≤ gb181)); have GE181 := Aside0.mk ((zS : w.heap.size ≤ gb181)); replace HB := Aside0.mk (below_step zB hb); clear hb hbox hg; obtain ⟨hcz6_0, hcz6_1, hcz6_2, hfz6_0, hfz6_1, hfz6_2⟩ := zd3 BK181.out (.int .i64 0) (.int .i64 0) (.string (⟨#[]⟩ : ByteArray))))
    refine bodyPost_ret (results_cell_row rfl _ _ gb181 83 #[.int .i64 2, .int .i64 0, .string (⟨#[]⟩ : ByteArray)] (0, 0) _ rfl (by (with_reducible repeat (first | refine blk_drewN ?_ _ | refine blk_drew ?_ | refine blk_alloc ?_ _)); refine blk_put (cs := #[.int .i64 2, .int .i64 0, .string (⟨#[]⟩ : ByteArray)]) ?_ 2 _ rfl; (with_reducible repeat (first | refine blk_drewN ?_ _ | refine blk_drew ?_ | refine blk_alloc ?_ _)); refine blk_put (cs := #[.int .i64 2, .int .i64 0, .string (⟨#[]⟩ : ByteArray)]) ?_ 1 _ rfl; (with_reducible repeat (first | refine blk_drewN ?_ _ | refine blk_drew ?_ | refine blk_alloc ?_ _)); refine blk_put (cs := #[.int .i64 0, .int .i64 0, .string (⟨#[]⟩ : ByteArray)]) ?_ 0 _ rfl; (with_reducible repeat (first | refine blk_drewN ?_ _ | refine blk_drew ?_ | refine blk_alloc ?_ _)); exact BK181.out) Tryz.underlying83 rfl (by kernel_rfl)) rfl ?_
    exact ⟨zE, zG⟩
end Go.Proofs.YtjlhhjfmekjbhaaGreatDoor.Pr

/- Closed forms: gumshoeref06's digits and number; value's small functions. No condition. -/
namespace Go.Proofs.YtjlhhjfmekjbhaaGreatDoor.Va
open Go.RowKit Go.Proofs.YtjlhhjfmekjbhaaGreatDoorW.PrintWords Go.Proofs.YtjlhhjfmekjbhaaGreatDoorW.PrintLast Go.Proofs.YtjlhhjfmekjbhaaGreatDoorW.PrintMore Go.Proofs.YtjlhhjfmekjbhaaGreatDoor.Pr Go.Proofs.YtjlhhjfmekjbhaaGreatDoor.Ev
set_option linter.unusedVariables false
set_option linter.unusedSimpArgs false
def dec0 (u : Nat) : List UInt8 := if u = 0 then [] else Lib.decDigits u
theorem dec0_step (u : Nat) (h : 0 < u) : dec0 u = dec0 (u / 10) ++ [UInt8.ofNat (48 + u % 10)] := by
  unfold dec0
  rw [if_neg (by omega), Lib.decDigits]
  by_cases h1 : u < 10
  · rw [dif_pos h1, if_pos (by omega), show u % 10 = u by omega]; rfl
  · rw [dif_neg h1, if_neg (by omega)]
theorem str_one (n : Nat) (h : n < 256) : strOfNums [(n : Int)] = ⟨#[UInt8.ofNat n]⟩ := by
  simp [strOfNums]
theorem cat_list (a b : List UInt8) : (⟨a.toArray⟩ : ByteArray) ++ ⟨b.toArray⟩ = ⟨(a ++ b).toArray⟩ := by
  apply ByteArray.ext
  simp [ByteArray.data_append]
theorem dig_val (u : Nat) (h : u < 18446744073709551616) : (IntKind.u64.wrap (48 + (Int.tmod (u : Int) 10))) % 256 = ((48 + u % 10 : Nat) : Int) := by
  have : Int.tmod (u : Int) 10 = ((u % 10 : Nat) : Int) := by rw [Int.tmod_eq_emod_of_nonneg (by omega)]; omega
  rw [this]
  simp [IntKind.wrap, IntKind.bits, IntKind.signed]
  omega
theorem digits_loop (n : Int) : ∀ (u : Nat) (t : List UInt8), u < 18446744073709551616 → t.length + (dec0 u).length ≤ 100 → Ev fun k => q6_digits.l0 k n ⟨t.toArray⟩ (u : Int) = some ⟨((if n < 0 then [45] else []) ++ dec0 u ++ t).toArray⟩ := by
  intro u
  induction u using Nat.strongRecOn with
  | _ u ih =>
    intro t hu ht
    by_cases h0 : u = 0
    · subst h0
      refine Ev.step fun k => ?_
      have hts : (⟨t.toArray⟩ : ByteArray).size = t.length := by simp [ByteArray.size]
      have hd : dec0 0 = [] := rfl
      rw [q6_digits.l0, if_neg (by omega), hd]
      by_cases hn : n < 0
      · rw [if_pos hn, if_pos (by omega), if_pos hn]
        congr 1
      · rw [if_neg hn, if_neg hn]; rfl
    · have hs := dec0_step u (by omega)
      have hl : (dec0 u).length = (dec0 (u / 10)).length + 1 := by rw [hs]; simp
      refine (ih (u / 10) (by omega) (UInt8.ofNat (48 + u % 10) :: t) (by omega) (by simp; omega)).succ fun k hk => ?_
      have hq : IntKind.u64.wrap (Int.tdiv (u : Int) 10) = ((u / 10 : Nat) : Int) := by
        rw [Int.tdiv_eq_ediv_of_nonneg (by omega)]
        simp [IntKind.wrap, IntKind.bits, IntKind.signed]
        omega
      have hsz : (⟨#[UInt8.ofNat (48 + u % 10)]⟩ : ByteArray).size = 1 := rfl
      have hts : (⟨t.toArray⟩ : ByteArray).size = t.length := by simp [ByteArray.size]
      have hc : (⟨#[UInt8.ofNat (48 + u % 10)]⟩ : ByteArray) ++ ⟨t.toArray⟩ = ⟨(UInt8.ofNat (48 + u % 10) :: t).toArray⟩ := cat_list [UInt8.ofNat (48 + u % 10)] t
      rw [q6_digits.l0, if_pos (by omega), Option.bind_some, dig_val u hu, str_one _ (by omega), hsz, hts, if_pos (by omega), hq, hc, hk, hs]
      simp
theorem dec0_len (u : Nat) (h : u < 18446744073709551616) : (dec0 u).length ≤ 20 := by
  unfold dec0
  split
  · simp
  · have := (Lib.numDigits_eq u (by omega) h).1
    have := (Lib.numDigits_eq u (by omega) h).2
    rw [Lib.decDigits_length]
    split at * <;> omega
theorem digits_tells (n : Int) (h : I64 n) : Ev fun k => q6_digits.f k n = some ⟨(Lib.itoa n).toArray⟩ := by
  obtain ⟨h1, h2⟩ := h
  by_cases h0 : n = 0
  · subst h0
    refine Ev.all fun k => ?_
    rw [q6_digits.f, if_pos rfl, show (0 : Int) = ((0 : Nat) : Int) from rfl, Lib.itoa_nonneg, Lib.decDigits_one (by omega)]
    rfl
  · by_cases hn : n < 0
    · obtain ⟨u, rfl⟩ : ∃ u : Nat, n = -(u : Int) := ⟨n.natAbs, by omega⟩
      have hw : IntKind.u64.wrap (-(IntKind.u64.wrap (-(u : Int)))) = (u : Int) := by
        simp [IntKind.wrap, IntKind.bits, IntKind.signed]
        omega
      refine (digits_loop (-(u : Int)) u [] (by omega) (by have := dec0_len u (by omega); simp; omega)).succ fun k hk => ?_
      rw [q6_digits.f, if_neg h0, if_pos hn, q6_digits.j0, hw]
      refine hk.trans ?_
      rw [Lib.itoa_neg u (by omega), if_pos hn]
      unfold dec0
      rw [if_neg (by omega)]
      simp
    · obtain ⟨u, rfl⟩ : ∃ u : Nat, n = (u : Int) := ⟨n.toNat, by omega⟩
      have hw : IntKind.u64.wrap (u : Int) = (u : Int) := by
        simp [IntKind.wrap, IntKind.bits, IntKind.signed]
        omega
      refine (digits_loop (u : Int) u [] (by omega) (by have := dec0_len u (by omega); simp; omega)).succ fun k hk => ?_
      rw [q6_digits.f, if_neg h0, if_neg hn, q6_digits.j0, hw]
      refine hk.trans ?_
      rw [Lib.itoa_nonneg u, if_neg hn]
      unfold dec0
      rw [if_neg (by omega)]
      simp
/-! ### the number of a text -/
def isDig (b : UInt8) : Bool := decide (48 ≤ b.toNat ∧ b.toNat ≤ 57)
def acc (a : Int) (l : List UInt8) : Int := l.foldl (fun x b => wrap64 (wrap64 (10 * x) + ((b.toNat : Int) - 48))) a
def finN (s : List UInt8) (n : Int) : Int := if Lib.itoa n = s then n else 0
theorem wrap_i64 (x : Int) : I64 (wrap64 x) := by unfold I64 wrap64; omega
theorem bt_getD (s : ByteArray) (i : Nat) (h : i < s.size) : bt s (i : Int) = ((s.data.toList.getD i 0).toNat : Int) := by
  unfold bt
  rw [dif_pos (by simpa using h)]
  have := byte_at s i h
  rw [getD_byte s i h] at this
  rw [← this]
  simp
theorem j5_tells (s : ByteArray) (K N n : Int) (h : I64 n) : Ev fun k => q6_Num.j5 k n K N s = some (finN s.data.toList n) := by
  refine (digits_tells n h).succ fun k hk => ?_
  rw [q6_Num.j5, hk, Option.bind_some]
  unfold finN
  have e : (⟨(Lib.itoa n).toArray⟩ : ByteArray).toList = Lib.itoa n := by rw [ByteArray.toList_eq]
  rw [e, ByteArray.toList_eq]
  split <;> rfl
def loopV (s : List UInt8) (x4 x3 : Int) (l : List UInt8) : Int := if l.all isDig = true then finN s (if x4 = 1 then wrap64 (-(acc x3 l)) else acc x3 l) else 0
theorem num_loop (s : ByteArray) (K N x4 : Int) (hz : s.size ≤ 20) (d : Nat) : ∀ (i : Nat) (x3 : Int), i + d = s.size → I64 x3 → Ev fun k => q6_Num.l0 k x3 x4 (i : Int) K N s = some (loopV s.data.toList x4 x3 (s.data.toList.drop i)) := by
  have hl : s.data.toList.length = s.size := rfl
  induction d with
  | zero =>
    intro i x3 hi hx
    have hd : s.data.toList.drop i = [] := List.drop_eq_nil_of_le (by omega)
    rw [hd]
    unfold loopV
    rw [if_pos (by rfl)]
    by_cases h4 : x4 = 1
    · rw [if_pos h4]
      refine (j5_tells s K N (wrap64 (-x3)) (wrap_i64 _)).succ fun k hk => ?_
      rw [q6_Num.l0, if_neg (by omega), if_pos h4, hk]
      rfl
    · rw [if_neg h4]
      refine (j5_tells s K N x3 hx).succ fun k hk => ?_
      rw [q6_Num.l0, if_neg (by omega), if_neg h4, hk]
      rfl
  | succ d ih =>
    intro i x3 hi hx
    have hlt : i < s.size := by omega
    have hb := bt_getD s i hlt
    rw [drop_at s.data.toList i 0 (by omega)]
    generalize hc : s.data.toList.getD i 0 = c at *
    by_cases hdg : 48 ≤ c.toNat ∧ c.toNat ≤ 57
    · have hw : ((bt s (i : Int) - 48) % 256) = (c.toNat : Int) - 48 := by rw [hb]; omega
      have hs : wrap64 ((i : Int) + 1) = ((i + 1 : Nat) : Int) := wrap_nat i (by omega)
      refine (ih (i + 1) (wrap64 (wrap64 (10 * x3) + ((c.toNat : Int) - 48))) (by omega) (wrap_i64 _)).succ (q := fun k => q6_Num.j4 k x3 x4 (i : Int) false K N s = some (loopV s.data.toList x4 x3 (c :: s.data.toList.drop (i + 1)))) (fun k hk => ?_) |>.succ fun k hk => ?_
      · rw [q6_Num.j4, if_neg (by decide), if_pos (by omega), if_pos (by omega), hw, hs, hk]
        unfold loopV
        simp only [List.all_cons, isDig, decide_eq_true hdg, Bool.true_and]
        rfl
      · rw [q6_Num.l0, if_pos (by omega), if_pos (by omega), if_neg (by omega), decide_eq_false (by omega), hk]
    · have hv : loopV s.data.toList x4 x3 (c :: s.data.toList.drop (i + 1)) = 0 := by
        unfold loopV
        rw [if_neg (by simp only [List.all_cons, isDig, decide_eq_false hdg, Bool.false_and]; decide)]
      rw [hv]
      refine (Ev.step (q := fun k => q6_Num.j4 k x3 x4 (i : Int) true K N s = some 0) fun k => by rw [q6_Num.j4, if_pos rfl]).succ fun k hk => ?_
      rw [q6_Num.l0, if_pos (by omega), if_pos (by omega)]
      by_cases h48 : bt s (i : Int) < 48
      · rw [if_pos h48, hk]
      · rw [if_neg h48, decide_eq_true (by omega), hk]
theorem wrap_off (x : Int) : ∃ k : Int, wrap64 x = x + 18446744073709551616 * k := ⟨-((x + 9223372036854775808) / 18446744073709551616), by
  unfold wrap64
  have := Int.emod_add_mul_ediv (x + 9223372036854775808) 18446744073709551616
  omega⟩
theorem wrap_add (x k : Int) : wrap64 (x + 18446744073709551616 * k) = wrap64 x := by
  unfold wrap64
  rw [show x + 18446744073709551616 * k + 9223372036854775808 = (x + 9223372036854775808) + 18446744073709551616 * k by omega, Int.add_mul_emod_self_left]
theorem wrap_step (q r : Int) : wrap64 (wrap64 (10 * wrap64 q) + r) = wrap64 (10 * q + r) := by
  obtain ⟨k, hk⟩ := wrap_off q
  obtain ⟨m, hm⟩ := wrap_off (10 * wrap64 q)
  rw [hm, hk, show 10 * (q + 18446744073709551616 * k) + 18446744073709551616 * m + r = (10 * q + r) + 18446744073709551616 * (10 * k + m) by omega, wrap_add]
theorem wrap_zero : wrap64 (10 * 0) = 0 := by rw [Int.mul_zero]; exact wrap_id 0 (by omega) (by omega)
theorem dig_int (v : Nat) (h : v < 10) : (((UInt8.ofNat (48 + v)).toNat : Int) - 48) = (v : Int) := by
  rw [byte_toNat _ (by omega)]
  omega
theorem acc_snoc (a : Int) (l : List UInt8) (b : UInt8) : acc a (l ++ [b]) = wrap64 (wrap64 (10 * acc a l) + ((b.toNat : Int) - 48)) := by
  unfold acc
  rw [List.foldl_append]
  rfl
theorem ten_split (u : Nat) : 10 * ((u / 10 : Nat) : Int) + ((u % 10 : Nat) : Int) = (u : Int) := by omega
theorem acc_dec (u : Nat) : acc 0 (Lib.decDigits u) = wrap64 (u : Int) := by
  induction u using Nat.strongRecOn with
  | _ u ih =>
    rw [Lib.decDigits]
    by_cases h : u < 10
    · rw [dif_pos h]
      have := acc_snoc 0 [] (UInt8.ofNat (48 + u))
      rw [List.nil_append] at this
      rw [this, dig_int u h]
      have e : acc 0 [] = 0 := rfl
      rw [e, wrap_zero, Int.zero_add]
    · rw [dif_neg h, acc_snoc, ih (u / 10) (by omega), dig_int (u % 10) (by omega), wrap_step, ten_split]
theorem dec_all (u : Nat) : (Lib.decDigits u).all isDig = true := List.all_eq_true.2 fun c hc => decide_eq_true (dec_digit u c hc)
theorem neg_wrap (u : Nat) (h : u ≤ 9223372036854775808) : wrap64 (-(wrap64 (u : Int))) = -(u : Int) := by
  unfold wrap64
  omega
theorem pos_wrap (u : Nat) (h : u < 9223372036854775808) : wrap64 (u : Int) = (u : Int) := by
  unfold wrap64
  omega
theorem loop_num (s : List UInt8) (c : UInt8) (r : List UInt8) (hs : s = c :: r) : loopV s (if c.toNat = 45 then 1 else 0) 0 (if c.toNat = 45 then r else s) = numL s := by
  by_cases hex : ∃ n, I64 n ∧ Lib.itoa n = s
  · obtain ⟨n, hn, rfl⟩ := hex
    rw [numL_itoa n hn]
    obtain ⟨h1, h2⟩ := hn
    by_cases h0 : n < 0
    · obtain ⟨u, rfl⟩ : ∃ u : Nat, n = -(u : Int) := ⟨n.natAbs, by omega⟩
      have hi := Lib.itoa_neg u (by omega)
      rw [hi] at hs
      injection hs with hc hr
      subst hc hr
      rw [if_pos (by rfl), if_pos (by rfl)]
      unfold loopV
      rw [if_pos (dec_all u), if_pos rfl, acc_dec u, neg_wrap u (by omega)]
      unfold finN
      rw [if_pos rfl]
    · obtain ⟨u, rfl⟩ : ∃ u : Nat, n = (u : Int) := ⟨n.toNat, by omega⟩
      have hi := Lib.itoa_nonneg u
      have hc : 48 ≤ c.toNat ∧ c.toNat ≤ 57 := dec_digit u c (by rw [← hi, hs]; exact List.mem_cons_self)
      rw [if_neg (by omega), if_neg (by omega), hi]
      unfold loopV
      rw [if_pos (dec_all u), if_neg (by decide), acc_dec u, pos_wrap u (by omega)]
      unfold finN
      rw [if_pos hi]
  · have h0 : ∀ n, I64 n → finN s n = 0 := fun n hn => by unfold finN; rw [if_neg (fun e => hex ⟨n, hn, e⟩)]
    rw [numL_not s (fun n hn e => hex ⟨n, hn, e⟩)]
    have hacc : ∀ l, I64 (acc 0 l) := fun l => by
      by_cases hl : l = []
      · rw [hl]; exact (show I64 0 from ⟨by omega, by omega⟩)
      · rw [← List.dropLast_concat_getLast hl, acc_snoc]; exact wrap_i64 _
    generalize (if c.toNat = 45 then r else s) = l
    generalize (if c.toNat = 45 then (1 : Int) else 0) = x
    unfold loopV
    by_cases hl : l.all isDig = true
    · rw [if_pos hl]
      by_cases hx : x = 1
      · rw [if_pos hx]; exact h0 _ (wrap_i64 _)
      · rw [if_neg hx]; exact h0 _ (hacc _)
    · rw [if_neg hl]
end Go.Proofs.YtjlhhjfmekjbhaaGreatDoor.Va

/- Closed forms of value's and the reference's small functions, and what their calls do. No condition. -/
namespace Go.Proofs.YtjlhhjfmekjbhaaGreatDoor.Va
open Go.RowKit Go.Proofs.YtjlhhjfmekjbhaaGreatDoorW.PrintWords Go.Proofs.YtjlhhjfmekjbhaaGreatDoorW.PrintLast Go.Proofs.YtjlhhjfmekjbhaaGreatDoorW.PrintMore Go.Proofs.YtjlhhjfmekjbhaaGreatDoor.Pr Go.Proofs.YtjlhhjfmekjbhaaGreatDoor.Ev
set_option linter.unusedVariables false
set_option linter.unusedSimpArgs false
theorem nDigits_le : ∀ (k u : Nat), u < 10 ^ (k + 1) → Lib.nDigits u ≤ k + 1
  | 0, u, h => by rw [Lib.nDigits_small (by simpa using h)]; omega
  | k + 1, u, h => by
    by_cases h1 : u < 10
    · rw [Lib.nDigits_small h1]; omega
    · rw [Lib.nDigits_big h1]
      have := nDigits_le k (u / 10) (by rw [Nat.pow_succ] at h; omega)
      omega
theorem itoa_len (n : Int) (h : I64 n) : 0 < (Lib.itoa n).length ∧ (Lib.itoa n).length ≤ 20 := by
  obtain ⟨h1, h2⟩ := h
  by_cases hn : n < 0
  · obtain ⟨u, rfl⟩ : ∃ u : Nat, n = -(u : Int) := ⟨n.natAbs, by omega⟩
    rw [Lib.itoa_neg u (by omega)]
    have := nDigits_le 18 u (by have : (10 : Nat) ^ (18 + 1) = 10000000000000000000 := by decide
                                omega)
    rw [List.length_cons, Lib.decDigits_length]
    omega
  · obtain ⟨u, rfl⟩ : ∃ u : Nat, n = (u : Int) := ⟨n.toNat, by omega⟩
    rw [Lib.itoa_nonneg u]
    have := nDigits_le 18 u (by have : (10 : Nat) ^ (18 + 1) = 10000000000000000000 := by decide
                                omega)
    have := Lib.nDigits_pos u
    rw [Lib.decDigits_length]
    omega
theorem numL_long (l : List UInt8) (h : l.length = 0 ∨ 20 < l.length) : numL l = 0 := numL_not l fun n hn e => by
  have := itoa_len n hn
  rw [e] at this
  omega
def numS (K N : Int) (S : ByteArray) : Int := if K = 2 ∨ K = 3 then N else if K = 4 then numL S.data.toList else 0
theorem vnum_tells (K N : Int) (S : ByteArray) (hs : S.size ≤ 281474976710656) : value_Num.f K N S = some (numS K N S) := by
  unfold value_Num.f numS
  rw [if_pos hs]
  split
  · rfl
  · split
    · rfl
    · rfl
theorem rnum_tells (K N : Int) (S : ByteArray) (hs : S.size ≤ 281474976710656) : Ev fun k => q6_Num.f k K N S = some (numS K N S) := by
  have hl : S.data.toList.length = S.size := rfl
  unfold numS
  by_cases h23 : K = 2 ∨ K = 3
  · rw [if_pos h23]
    refine Ev.step fun k => ?_
    rw [q6_Num.f]
    rcases h23 with rfl | rfl
    · rw [if_pos rfl, q6_Num.j0, if_pos rfl]
    · rw [if_neg (by decide), q6_Num.j0, if_pos (by decide)]
  · rw [if_neg h23]
    have h2 : ¬ K = 2 := fun e => h23 (.inl e)
    have h3 : ¬ K = 3 := fun e => h23 (.inr e)
    have hb : (K == 3) = false := beq_eq_false_iff_ne.mpr h3
    by_cases h4 : K = 4
    · rw [if_pos h4]
      have hbad : (S.size = 0 ∨ 20 < S.size) → Ev fun k => q6_Num.f k K N S = some (numL S.data.toList) := fun h => by
        rw [numL_long _ (by rw [hl]; exact h)]
        refine (Ev.step (q := fun k => q6_Num.j1 k true K N S = some 0) fun k => by rw [q6_Num.j1, if_pos rfl]).succ fun k hk => ?_
        rw [q6_Num.f, if_neg h2, hb, q6_Num.j0, if_neg (by decide), if_pos h4]
        by_cases h0 : (S.size : Int) = 0
        · rw [if_pos h0, hk]
        · rw [if_neg h0, decide_eq_true (by omega), hk]
      by_cases h0 : S.size = 0 ∨ 20 < S.size
      · exact hbad h0
      · obtain ⟨c, r, hc⟩ : ∃ c r, S.data.toList = c :: r := by
          cases hd : S.data.toList with
          | nil => rw [hd] at hl; simp at hl; omega
          | cons c r => exact ⟨c, r, rfl⟩
        have hb0 : bt S 0 = (c.toNat : Int) := by
          have := bt_getD S 0 (by omega)
          rw [hc] at this
          exact this
        rw [← loop_num _ c r hc]
        by_cases h45 : c.toNat = 45
        · rw [if_pos h45, if_pos h45]
          have hd : r = S.data.toList.drop 1 := by rw [hc]; rfl
          rw [hd]
          refine (((num_loop S K N 1 (by omega) (S.size - 1) 1 0 (by omega) ⟨by omega, by omega⟩).succ (q := fun k => q6_Num.j2 k 0 1 K N S = some (loopV S.data.toList 1 0 (S.data.toList.drop 1))) fun k hk => by rw [q6_Num.j2]; exact hk).succ (q := fun k => q6_Num.j1 k false K N S = some (loopV S.data.toList 1 0 (S.data.toList.drop 1))) fun k hk => by rw [q6_Num.j1, if_neg (by decide), if_pos (by omega), if_pos (by rw [hb0, h45]; rfl), hk]).succ fun k hk => ?_
          rw [q6_Num.f, if_neg h2, hb, q6_Num.j0, if_neg (by decide), if_pos h4, if_neg (by omega), decide_eq_false (by omega), hk]
        · rw [if_neg h45, if_neg h45]
          refine (((num_loop S K N 0 (by omega) S.size 0 0 (by omega) ⟨by omega, by omega⟩).succ (q := fun k => q6_Num.j2 k 0 0 K N S = some (loopV S.data.toList 0 0 S.data.toList)) fun k hk => by rw [q6_Num.j2]; exact hk).succ (q := fun k => q6_Num.j1 k false K N S = some (loopV S.data.toList 0 0 S.data.toList)) fun k hk => by rw [q6_Num.j1, if_neg (by decide), if_pos (by omega), if_neg (by rw [hb0]; omega), hk]).succ fun k hk => ?_
          rw [q6_Num.f, if_neg h2, hb, q6_Num.j0, if_neg (by decide), if_pos h4, if_neg (by omega), decide_eq_false (by omega), hk]
    · rw [if_neg h4]
      refine (Ev.step (q := fun k => q6_Num.j1 k true K N S = some 0) fun k => by rw [q6_Num.j1, if_pos rfl]).succ fun k hk => ?_
      rw [q6_Num.f, if_neg h2, hb, q6_Num.j0, if_neg (by decide), if_neg h4, hk]
def keyS (K N : Int) (S : ByteArray) : ByteArray := if K = 0 then ⟨#[117, 110, 100, 101, 102, 105, 110, 101, 100]⟩ else if K = 1 then ⟨#[110, 117, 108, 108]⟩ else if K = 2 then (if N = 1 then ⟨#[116, 114, 117, 101]⟩ else ⟨#[102, 97, 108, 115, 101]⟩) else if K = 3 then ⟨(Lib.itoa N).toArray⟩ else if K = 4 then S else ⟨#[91, 111, 98, 106, 101, 99, 116, 93]⟩
theorem vkey_tells (K N : Int) (S : ByteArray) (hN : I64 N) : value_Key.f K N S = some (keyS K N S) := by
  have hF : strconv_FormatInt.f N 10 = some ⟨(Lib.itoa N).toArray⟩ := by unfold strconv_FormatInt.f; rw [if_pos ⟨rfl, hN.1, hN.2⟩]
  have hT : strconv_FormatBool.f (N == 1) = some (if N = 1 then ⟨#[116, 114, 117, 101]⟩ else ⟨#[102, 97, 108, 115, 101]⟩) := by
    unfold strconv_FormatBool.f
    by_cases h : N = 1
    · rw [if_pos h, show (N == 1) = true from beq_iff_eq.mpr h]; decide
    · rw [if_neg h, show (N == 1) = false from beq_eq_false_iff_ne.mpr h]; decide
  unfold value_Key.f keyS
  rw [hF, hT]
  by_cases h0 : K = 0
  · rw [if_pos h0, if_pos h0]
  by_cases h1 : K = 1
  · rw [if_neg h0, if_pos h1, if_neg h0, if_pos h1]
  by_cases h2 : K = 2
  · rw [if_neg h0, if_neg h1, if_pos h2, if_neg h0, if_neg h1, if_pos h2]; rfl
  by_cases h3 : K = 3
  · rw [if_neg h0, if_neg h1, if_neg h2, if_pos h3, if_neg h0, if_neg h1, if_neg h2, if_pos h3]; rfl
  by_cases h4 : K = 4
  · rw [if_neg h0, if_neg h1, if_neg h2, if_neg h3, if_pos h4, if_neg h0, if_neg h1, if_neg h2, if_neg h3, if_pos h4]
  · rw [if_neg h0, if_neg h1, if_neg h2, if_neg h3, if_neg h4, if_neg h0, if_neg h1, if_neg h2, if_neg h3, if_neg h4]
theorem rkey_tells (K N : Int) (S : ByteArray) (hN : I64 N) : Ev fun k => q6_Key.f k K N S = some (keyS K N S) := by
  refine (digits_tells N hN).mono fun k hk => ?_
  unfold q6_Key.f keyS
  rw [hk]
  repeat' split
  all_goals rfl
def rightS (K N : Int) (S : ByteArray) : Bool := if K = 0 ∨ K = 1 then decide (N = 0) && decide (S.size = 0) else if K = 2 then decide (N = 0 ∨ N = 1) && decide (S.size = 0) else if K = 3 ∨ K = 5 then decide (S.size = 0) else decide (K = 4) && decide (N = 0)
def truthyS (K N : Int) (S : ByteArray) : Bool := if K = 0 ∨ K = 1 then false else if K = 5 then true else decide (N ≠ 0) || decide (S.size ≠ 0)
theorem emp (S : ByteArray) : (S.toList == ([] : List UInt8)) = decide (S.size = 0) := by
  have hl : S.toList.length = S.size := by rw [ByteArray.toList_eq]; rfl
  by_cases h : S.size = 0
  · rw [List.eq_nil_of_length_eq_zero (hl.trans h), decide_eq_true h]; rfl
  · rw [decide_eq_false h]
    exact beq_eq_false_iff_ne.mpr (fun e => h (by rw [← hl, e]; rfl))
end Go.Proofs.YtjlhhjfmekjbhaaGreatDoor.Va

/- What value's and the reference's small functions tell, without rounds. No condition. -/
namespace Go.Proofs.YtjlhhjfmekjbhaaGreatDoor.Va
open Go.RowKit Go.Proofs.YtjlhhjfmekjbhaaGreatDoorW.PrintWords Go.Proofs.YtjlhhjfmekjbhaaGreatDoorW.PrintLast Go.Proofs.YtjlhhjfmekjbhaaGreatDoorW.PrintMore Go.Proofs.YtjlhhjfmekjbhaaGreatDoor.Pr Go.Proofs.YtjlhhjfmekjbhaaGreatDoor.Ev
set_option linter.unusedVariables false
set_option linter.unusedSimpArgs false
theorem beq_dec (a b : Int) : (a == b) = decide (a = b) := by rw [Bool.eq_iff_iff]; simp
theorem empty_list : (⟨#[]⟩ : ByteArray).toList = [] := by rw [ByteArray.toList_eq]
theorem vright_tells (K N : Int) (S : ByteArray) : value_Right.f 6 K N S = some (rightS K N S) := by
  have e := emp S
  unfold value_Right.f rightS
  by_cases h4 : K = 4
  · subst h4
    simp [value_Right.j4, beq_dec]
  · by_cases h2 : K = 2
    · subst h2
      by_cases hn : N < 0
      · simp [value_Right.j2, hn]; omega
      · by_cases hn1 : N > 1
        · simp [value_Right.j2, hn, hn1]; omega
        · have : N = 0 ∨ N = 1 := by omega
          simp [value_Right.j2, value_Right.j3, value_Right.j4, hn, hn1, empty_list, e, this]
    · by_cases h3 : K = 3
      · subst h3
        simp [value_Right.j0, value_Right.j3, value_Right.j4, empty_list, e]
      · by_cases h5 : K = 5
        · subst h5
          simp [value_Right.j0, value_Right.j3, value_Right.j4, empty_list, e]
        · have b5 : (K == 5) = false := beq_eq_false_iff_ne.mpr h5
          by_cases h0 : K = 0
          · subst h0
            simp [value_Right.j0, value_Right.j1, value_Right.j4, empty_list, e, beq_dec]
          · by_cases h1 : K = 1
            · subst h1
              simp [value_Right.j0, value_Right.j1, value_Right.j4, empty_list, e, beq_dec]
            · simp [value_Right.j0, value_Right.j1, h0, h1, h2, h3, h4, h5]
theorem rright_tells (K N : Int) (S : ByteArray) : q6_Right.f 6 K N S = some (rightS K N S) := by
  have e := emp S
  unfold q6_Right.f rightS
  by_cases h0 : K = 0
  · subst h0
    by_cases hn : N = 0 <;> simp [q6_Right.j0, q6_Right.j1, hn, e]
  · by_cases h1 : K = 1
    · subst h1
      by_cases hn : N = 0 <;> simp [q6_Right.j0, q6_Right.j1, hn, e]
    · by_cases h2 : K = 2
      · subst h2
        by_cases hn : N = 0
        · simp [q6_Right.j0, q6_Right.j2, hn, e]
        · by_cases hn1 : N = 1 <;> simp [q6_Right.j0, q6_Right.j2, hn, hn1, e]
      · by_cases h3 : K = 3
        · subst h3; simp [q6_Right.j0, q6_Right.j3, e]
        · by_cases h5 : K = 5
          · subst h5; simp [q6_Right.j0, q6_Right.j3, e]
          · by_cases h4 : K = 4
            · subst h4; simp [q6_Right.j0, q6_Right.j3, q6_Right.j4, e, beq_dec]
            · have b5 : (K == 5) = false := beq_eq_false_iff_ne.mpr h5
              simp [q6_Right.j0, q6_Right.j3, q6_Right.j4, h0, h1, h2, h3, h4, h5]
end Go.Proofs.YtjlhhjfmekjbhaaGreatDoor.Va

/- value.makers: which function a sign has. No condition. -/
namespace Go.Proofs.YtjlhhjfmekjbhaaGreatDoor.Va
open Go.RowKit Go.Proofs.YtjlhhjfmekjbhaaGreatDoorW.PrintWords Go.Proofs.YtjlhhjfmekjbhaaGreatDoorW.PrintLast Go.Proofs.YtjlhhjfmekjbhaaGreatDoorW.PrintMore
set_option linter.unusedVariables false
set_option linter.unusedSimpArgs false
def fv (n : Nat) : Value := .func (.func n) #[] #[]
theorem fv_inj {n m : Nat} (h : fv n = fv m) : n = m := by
  unfold fv at h
  injection h with h
  injection h
open Classical in
/-- How a function value is read: its number. -/
noncomputable def fnElem (v : Value) : Option (DataW Unit × List MemPlace) :=
  if h : ∃ n, v = fv n then some (.lit (.int .i64 ((Classical.choose h : Nat) : Int)), []) else some (.nil, [])
theorem fnElem_fv (n : Nat) : fnElem (fv n) = some (.lit (.int .i64 (n : Int)), []) := by
  have h : ∃ m, fv n = fv m := ⟨n, rfl⟩
  unfold fnElem
  rw [dif_pos h]
  have := Classical.choose_spec h
  rw [← fv_inj this]
theorem fnElem_nil : fnElem .nilFunc = some (.nil, []) := by
  unfold fnElem
  rw [dif_neg (by rintro ⟨n, h⟩; cases h)]
theorem fnElem_inv {v : Value} {n : Nat} {ps : List MemPlace} (h : fnElem v = some (.lit (.int .i64 (n : Int)), ps)) : v = fv n := by
  unfold fnElem at h
  split at h
  · rename_i hx
    have hs := Classical.choose_spec hx
    injection h with h
    injection h with h1 h2
    injection h1 with h1
    injection h1 with h1 h3
    rw [hs]
    congr 1
    exact Int.ofNat_inj.1 h3
  · injection h with h
    injection h with h1 h2
    cases h1
def sign (s : List UInt8) : Option Nat :=
  if s = [33, 61, 61] then some 109 else if s = [61, 61, 61] then some 108 else if s = [60, 61] then some 107 else if s = [60] then some 104
  else if s = [42] then some 103 else if s = [45] then some 102 else if s = [43] then some 98 else none
def Signs (W : World) (b : Nat) : Prop := ∀ s : ByteArray, s.size ≤ maxLen → ∃ v, (Instr.lookup 104 (.map (some b)) (.string s) true).run Tryz.prog W = .ok (.tuple #[v, .bool (sign s.data.toList).isSome]) W ∧ ∀ n, sign s.data.toList = some n → v = fv n
theorem key_ok (s : ByteArray) (h : s.size ≤ maxLen) : keyOf Tryz.prog 9 (.string s) = some (.string s.data.toList) := Go.WideMaps.keyOf_string_mk Tryz.underlying9 h
theorem one_put {W : World} {b n : Nat} {D : DataW Unit} (h : W.ownsMap Tryz.prog 9 fnElem b n D) (hn : n < 100) (s : ByteArray) (hs : s.size ≤ maxLen) (m : Nat) :
    ∃ W', (Instr.mapUpdate 104 (.map (some b)) (.string s) (fv m)).run Tryz.prog W = .ok () W' ∧ W'.ownsMap Tryz.prog 9 fnElem b (n + 1) (D.put (.string s.data.toList) (.lit (.int .i64 (m : Int)))) ∧ W.mapTurned W' b :=
  h.store (Maps.string_keyed Tryz.underlying9) Tryz.underlying104 (by simp only [maxLen]; omega) (key_ok s hs) (fnElem_fv m)
def makersD : DataW Unit := (((((((DataW.map []).put (.string [43]) (.lit (.int .i64 98))).put (.string [45]) (.lit (.int .i64 102))).put (.string [42]) (.lit (.int .i64 103))).put (.string [60]) (.lit (.int .i64 104))).put (.string [60, 61]) (.lit (.int .i64 107))).put (.string [61, 61, 61]) (.lit (.int .i64 108))).put (.string [33, 61, 61]) (.lit (.int .i64 109))
theorem put_has {D : DataW Unit} (hD : Maps.IsMap D) (c : List UInt8) (d : DataW Unit) (s : List UInt8) : Maps.has (D.put (.string c) d) (.string s) = if s = c then true else Maps.has D (.string s) := by
  by_cases h : s = c
  · subst h; rw [if_pos rfl, Maps.has_put_same hD (by trivial)]
  · rw [if_neg h, Maps.has_put_other (by intro e; injection e with e; exact h e)]
theorem put_at {D : DataW Unit} (hD : Maps.IsMap D) (c : List UInt8) (d z : DataW Unit) (s : List UInt8) : (D.put (.string c) d).atKey (.string s) z = if s = c then d else D.atKey (.string s) z := by
  by_cases h : s = c
  · subst h; rw [if_pos rfl, Maps.atKey_put_same hD (by trivial)]
  · rw [if_neg h, Maps.atKey_put_other (by intro e; injection e with e; exact h e)]
theorem makers_has (s : List UInt8) : Maps.has makersD (.string s) = (sign s).isSome := by
  unfold makersD sign
  have m0 : Maps.IsMap (DataW.map [] : DataW Unit) := ⟨_, rfl⟩
  rw [put_has (by repeat (first | exact m0 | apply Maps.IsMap.put)), put_has (by repeat (first | exact m0 | apply Maps.IsMap.put)), put_has (by repeat (first | exact m0 | apply Maps.IsMap.put)), put_has (by repeat (first | exact m0 | apply Maps.IsMap.put)), put_has (by repeat (first | exact m0 | apply Maps.IsMap.put)), put_has (by repeat (first | exact m0 | apply Maps.IsMap.put)), put_has m0]
  repeat' split
  all_goals rfl
theorem makers_at (s : List UInt8) (n : Nat) (h : sign s = some n) : makersD.atKey (.string s) .nil = .lit (.int .i64 (n : Int)) := by
  unfold sign at h
  unfold makersD
  have m0 : Maps.IsMap (DataW.map [] : DataW Unit) := ⟨_, rfl⟩
  rw [put_at (by repeat (first | exact m0 | apply Maps.IsMap.put)), put_at (by repeat (first | exact m0 | apply Maps.IsMap.put)), put_at (by repeat (first | exact m0 | apply Maps.IsMap.put)), put_at (by repeat (first | exact m0 | apply Maps.IsMap.put)), put_at (by repeat (first | exact m0 | apply Maps.IsMap.put)), put_at (by repeat (first | exact m0 | apply Maps.IsMap.put)), put_at m0]
  by_cases h0 : s = [33, 61, 61]
  · rw [if_pos h0] at h ⊢; injection h with h; subst h; rfl
  rw [if_neg h0] at h ⊢
  by_cases h1 : s = [61, 61, 61]
  · rw [if_pos h1] at h ⊢; injection h with h; subst h; rfl
  rw [if_neg h1] at h ⊢
  by_cases h2 : s = [60, 61]
  · rw [if_pos h2] at h ⊢; injection h with h; subst h; rfl
  rw [if_neg h2] at h ⊢
  by_cases h3 : s = [60]
  · rw [if_pos h3] at h ⊢; injection h with h; subst h; rfl
  rw [if_neg h3] at h ⊢
  by_cases h4 : s = [42]
  · rw [if_pos h4] at h ⊢; injection h with h; subst h; rfl
  rw [if_neg h4] at h ⊢
  by_cases h5 : s = [45]
  · rw [if_pos h5] at h ⊢; injection h with h; subst h; rfl
  rw [if_neg h5] at h ⊢
  by_cases h6 : s = [43]
  · rw [if_pos h6] at h ⊢; injection h with h; subst h; rfl
  rw [if_neg h6] at h ⊢
  cases h
theorem signs_of {W : World} {b n : Nat} (h : W.ownsMap Tryz.prog 9 fnElem b n makersD) : Signs W b := by
  intro s hs
  obtain ⟨v, ps, hrun, hv⟩ := h.look_ok (Maps.string_keyed Tryz.underlying9) Tryz.underlying104 (Tryz.zeroValue102 W) fnElem_nil (key_ok s hs)
  rw [makers_has] at hrun
  refine ⟨v, hrun, fun n hn => ?_⟩
  rw [makers_at _ n hn] at hv
  exact fnElem_inv hv
def MakersPost (w : World) (e : Ending) (w' : World) : Prop := ∃ b, e = .returned (.map (some b)) ∧ Signs w' b ∧ Below w.heap.size w w'
set_option maxHeartbeats 1000000 in
set_option maxRecDepth 100000 in
theorem makers_calls (w : World) : Calls Tryz.prog 86 #[] w (MakersPost w) := by
  have hmk : ∀ W : World, (Instr.makeMap 104 none).run Tryz.prog W = .ok (.map (some W.heap.size)) (W.alloc (.map #[] 0)) := fun _ => rfl
  have o0 := World.ownsMap_made w Tryz.prog 9 fnElem
  obtain ⟨W1, h1, o1, t1⟩ := one_put o0 (by omega) ⟨#[43]⟩ (by decide) 98
  obtain ⟨W2, h2, o2, t2⟩ := one_put o1 (by omega) ⟨#[45]⟩ (by decide) 102
  obtain ⟨W3, h3, o3, t3⟩ := one_put o2 (by omega) ⟨#[42]⟩ (by decide) 103
  obtain ⟨W4, h4, o4, t4⟩ := one_put o3 (by omega) ⟨#[60]⟩ (by decide) 104
  obtain ⟨W5, h5, o5, t5⟩ := one_put o4 (by omega) ⟨#[60, 61]⟩ (by decide) 107
  obtain ⟨W6, h6, o6, t6⟩ := one_put o5 (by omega) ⟨#[61, 61, 61]⟩ (by decide) 108
  obtain ⟨W7, h7, o7, t7⟩ := one_put o6 (by omega) ⟨#[33, 61, 61]⟩ (by decide) 109
  have HS := Aside0.mk (signs_of (W := W7) (b := w.heap.size) o7)
  have HB := Aside0.mk (show Below w.heap.size w W7 from by
    have ht := (((((t1.trans t2).trans t3).trans t4).trans t5).trans t6).trans t7
    exact ((Below.refl w.heap.size w).alloc (Nat.le_refl _) _).grown ht.grown (by simp) (fun k hk => by injection hk with hk; omega))
  clear o0 o1 o2 o3 o4 o5 o6 o7 t1 t2 t3 t4 t5 t6 t7
  unfold fv at h1 h2 h3 h4 h5 h6 h7
  go_enter Tryz.func86, Tryz.ntmps86
  go_wp2
  go_ret
  exact ⟨_, rfl, HS.out, HB.out⟩
end Go.Proofs.YtjlhhjfmekjbhaaGreatDoor.Va

/- value.Two. No condition. -/
namespace Go.Proofs.YtjlhhjfmekjbhaaGreatDoor.Va
open Go.RowKit Go.Proofs.YtjlhhjfmekjbhaaGreatDoorW.PrintWords Go.Proofs.YtjlhhjfmekjbhaaGreatDoorW.PrintLast Go.Proofs.YtjlhhjfmekjbhaaGreatDoorW.PrintMore Go.Proofs.YtjlhhjfmekjbhaaGreatDoor.Pr
set_option linter.unusedVariables false
set_option linter.unusedSimpArgs false
abbrev VR := Int × Int × ByteArray
def mkf (k n : Nat) (a0 a1 : Int) (a2 : ByteArray) (b0 b1 : Int) (b2 : ByteArray) : Option VR :=
  if n = 98 then value_makers_1.f k a0 a1 a2 b0 b1 b2 else if n = 102 then value_makers_2.f a0 a1 a2 b0 b1 b2 else if n = 103 then value_makers_3.f a0 a1 a2 b0 b1 b2
  else if n = 104 then value_makers_4.f k a0 a1 a2 b0 b1 b2 else if n = 107 then value_makers_5.f k a0 a1 a2 b0 b1 b2 else if n = 108 then value_makers_6.f k a0 a1 a2 b0 b1 b2
  else if n = 109 then value_makers_7.f k a0 a1 a2 b0 b1 b2 else none
theorem mkf_calls (k n : Nat) (a0 a1 : Int) (a2 : ByteArray) (b0 b1 : Int) (b2 : ByteArray) (r1 r2 : Int) (r3 : ByteArray) (w : World) (hL : Laid w) (h : mkf k n a0 a1 a2 b0 b1 b2 = some (r1, r2, r3)) :
    Calls Tryz.prog n #[.agg #[.int .i64 a0, .int .i64 a1, .string a2], .agg #[.int .i64 b0, .int .i64 b1, .string b2]] w fun e w' => e = .returned (.agg #[.int .i64 r1, .int .i64 r2, .string r3]) ∧ Below w.heap.size w w' := by
  unfold mkf at h
  by_cases h1 : n = 98
  · subst h1; rw [if_pos rfl] at h; exact value_makers_1.calls k a0 a1 a2 b0 b1 b2 r1 r2 r3 w hL h
  rw [if_neg h1] at h
  by_cases h2 : n = 102
  · subst h2; rw [if_pos rfl] at h; exact value_makers_2.calls  a0 a1 a2 b0 b1 b2 r1 r2 r3 w hL h
  rw [if_neg h2] at h
  by_cases h3 : n = 103
  · subst h3; rw [if_pos rfl] at h; exact value_makers_3.calls  a0 a1 a2 b0 b1 b2 r1 r2 r3 w hL h
  rw [if_neg h3] at h
  by_cases h4 : n = 104
  · subst h4; rw [if_pos rfl] at h; exact value_makers_4.calls k a0 a1 a2 b0 b1 b2 r1 r2 r3 w hL h
  rw [if_neg h4] at h
  by_cases h5 : n = 107
  · subst h5; rw [if_pos rfl] at h; exact value_makers_5.calls k a0 a1 a2 b0 b1 b2 r1 r2 r3 w hL h
  rw [if_neg h5] at h
  by_cases h6 : n = 108
  · subst h6; rw [if_pos rfl] at h; exact value_makers_6.calls k a0 a1 a2 b0 b1 b2 r1 r2 r3 w  h
  rw [if_neg h6] at h
  by_cases h7 : n = 109
  · subst h7; rw [if_pos rfl] at h; exact value_makers_7.calls k a0 a1 a2 b0 b1 b2 r1 r2 r3 w  h
  rw [if_neg h7] at h
  cases h
theorem sign_cases {l : List UInt8} {n : Nat} (h : sign l = some n) : n = 98 ∨ n = 102 ∨ n = 103 ∨ n = 104 ∨ n = 107 ∨ n = 108 ∨ n = 109 := by
  unfold sign at h
  repeat' split at h
  all_goals first | (injection h with h; omega) | cases h
theorem enters {n : Nat} {fn : Func} (hf : Tryz.prog.funcs[n]? = some fn) (hn : (fn.name == "runtime.NumGoroutine") = false) (hb : fn.body.isNone = false) (args : Array Value) (W : World) : (callFunc n args).run Tryz.prog W = .ok (.enter n args) W := by
  have hn' : ¬ fn.name = "runtime.NumGoroutine" := by simpa using hn
  have hb' : ¬ fn.body = none := fun e => by rw [e] at hb; cases hb
  unfold callFunc
  simp [go_sem, hf, hn', hb']
theorem callFunc_ok {l : List UInt8} {n : Nat} (h : sign l = some n) (args : Array Value) (W : World) : (callFunc n args).run Tryz.prog W = .ok (.enter n args) W := by
  rcases sign_cases h with rfl | rfl | rfl | rfl | rfl | rfl | rfl
  · exact enters Tryz.func98 (by kernel_rfl) (by kernel_rfl) args W
  · exact enters Tryz.func102 (by kernel_rfl) (by kernel_rfl) args W
  · exact enters Tryz.func103 (by kernel_rfl) (by kernel_rfl) args W
  · exact enters Tryz.func104 (by kernel_rfl) (by kernel_rfl) args W
  · exact enters Tryz.func107 (by kernel_rfl) (by kernel_rfl) args W
  · exact enters Tryz.func108 (by kernel_rfl) (by kernel_rfl) args W
  · exact enters Tryz.func109 (by kernel_rfl) (by kernel_rfl) args W
theorem three_boxes (w : World) (O1 O2 O3 : Obj) : (((w.alloc O1).alloc O2).alloc O3).heap[w.heap.size]? = some O1 ∧ (((w.alloc O1).alloc O2).alloc O3).heap[w.heap.size + 1]? = some O2 ∧ (((w.alloc O1).alloc O2).alloc O3).heap[w.heap.size + 1 + 1]? = some O3 ∧ Below w.heap.size w (((w.alloc O1).alloc O2).alloc O3) := by
  have h1 : (w.alloc O1).heap[w.heap.size]? = some O1 := heap_alloc_new w O1
  have h2 : ((w.alloc O1).alloc O2).heap[w.heap.size + 1]? = some O2 := by have := heap_alloc_new (w.alloc O1) O2; simpa using this
  have h3 : (((w.alloc O1).alloc O2).alloc O3).heap[w.heap.size + 1 + 1]? = some O3 := by have := heap_alloc_new ((w.alloc O1).alloc O2) O3; simpa using this
  exact ⟨blk_alloc (blk_alloc h1 _) _, blk_alloc h2 _, h3, below_alloc (below_alloc (below_alloc (Below.refl _ _) _) _) _⟩
def value_Two.f (k : Nat) (s : ByteArray) (a0 a1 : Int) (a2 : ByteArray) (b0 b1 : Int) (b2 : ByteArray) : Option (Int × Int × ByteArray × Int) :=
  if s.size ≤ maxLen then match sign s.data.toList with
    | none => some (0, 0, ⟨#[]⟩, 60)
    | some n => (mkf k n a0 a1 a2 b0 b1 b2).bind fun r => if r.2.2.size ≤ 9223372036854775807 then (if 65536 < r.2.2.size then some (0, 0, ⟨#[]⟩, 61) else some (r.1, r.2.1, r.2.2, 0)) else none
  else none
set_option maxHeartbeats 4000000 in
set_option maxRecDepth 100000 in
theorem value_Two.calls (k : Nat) (a0 : ByteArray) (a1_0 a1_1 : Int) (a1_2 : ByteArray) (a2_0 a2_1 : Int) (a2_2 : ByteArray) (r1 r2 : Int) (r3 : ByteArray) (r4 : Int) (w : World) (hL : Laid w) (h : value_Two.f k a0 a1_0 a1_1 a1_2 a2_0 a2_1 a2_2 = some (r1, r2, r3, r4)) :
    Calls Tryz.prog 60 #[.string a0, .agg #[.int .i64 a1_0, .int .i64 a1_1, .string a1_2], .agg #[.int .i64 a2_0, .int .i64 a2_1, .string a2_2]] w fun e w' => e = .returned (.tuple #[.agg #[.int .i64 r1, .int .i64 r2, .string r3], .int .i64 r4]) ∧ Below w.heap.size w w' := by
  unfold value_Two.f at h
  by_cases hs : a0.size ≤ maxLen
  case neg => rw [if_neg hs] at h; cases h
  rw [if_pos hs] at h
  have HL := Aside0.mk hL
  have HS := Aside0.mk hs
  have HM := Aside0.mk (fun W => makers_calls W)
  clear hL hs
  cases hsg : sign a0.data.toList with
  | none =>
    rw [hsg] at h
    simp only [Option.some.injEq, Prod.mk.injEq] at h
    obtain ⟨rfl, rfl, rfl, rfl⟩ := h
    have HSG := Aside0.mk hsg
    clear hsg
    go_enter Tryz.func60, Tryz.ntmps60
    go_wp2_with (go_at_call 86; refine (HM.out _).mono ?_; rintro e w1 ⟨b, rfl, hS, hb⟩; have HB1 := Aside0.mk (below_step (three_boxes w _ _ _).2.2.2 hb); have BK := Aside0.mk (blk_below (three_boxes w _ _ _).2.2.1 hb); obtain ⟨v, hlk, hv⟩ := hS a0 HS.out; rw [HSG.out] at hlk; have hfz0 := blk_frozen BK.out 0; have hfz1 := blk_frozen BK.out 1; have hfz2 := blk_frozen BK.out 2; have hc0 := (blk_cell BK.out 0).trans rfl; have hc1 := (blk_cell BK.out 1).trans rfl; have hc2 := (blk_cell BK.out 2).trans rfl; clear hS hb hv)
    refine bodyPost_ret (results_ct rfl _ _ (w.heap.size + 1 + 1) 83 #[.int .i64 0, .int .i64 0, .string (⟨#[]⟩ : ByteArray)] (0, 0) _ rfl (blk_set (blk_set (blk_set BK.out 0 _) 1 _) 2 _) Tryz.underlying83 rfl (by kernel_rfl)) rfl ⟨rfl, ?_⟩
    exact below_set (below_set (below_set HB1.out (by omega)) (by omega)) (by omega)
  | some n =>
    rw [hsg] at h
    have h' : (mkf k n a1_0 a1_1 a1_2 a2_0 a2_1 a2_2).bind (fun r => if r.2.2.size ≤ 9223372036854775807 then (if 65536 < r.2.2.size then some (0, 0, (⟨#[]⟩ : ByteArray), 61) else some (r.1, r.2.1, r.2.2, 0)) else none) = some (r1, r2, r3, r4) := h
    clear h
    obtain ⟨⟨q1, q2, q3⟩, hq, h⟩ := Option.bind_eq_some_iff.1 h'
    clear h'
    have HQ := Aside0.mk hq
    have HSG := Aside0.mk hsg
    have hcf := callFunc_ok hsg
    clear hsg hq
    by_cases hz : q3.size ≤ 9223372036854775807
    case neg => rw [if_neg (show ¬ (q1, q2, q3).2.2.size ≤ 9223372036854775807 from hz)] at h; cases h
    rw [if_pos (show (q1, q2, q3).2.2.size ≤ 9223372036854775807 from hz)] at h
    by_cases h65 : 65536 < q3.size
    · rw [if_pos (show 65536 < (q1, q2, q3).2.2.size from h65)] at h
      simp only [Option.some.injEq, Prod.mk.injEq] at h
      obtain ⟨rfl, rfl, rfl, rfl⟩ := h
      have hgt : (65536 : Int) < (q3.size : Int) := by omega
      go_enter Tryz.func60, Tryz.ntmps60
      go_wp2_with (first | (go_at_call 86; refine (HM.out _).mono ?_; rintro e w1 ⟨b, rfl, hS, hb⟩; have HB1 := Aside0.mk (below_step (three_boxes w _ _ _).2.2.2 hb); have BA := Aside0.mk (blk_below (three_boxes w _ _ _).1 hb); have BB := Aside0.mk (blk_below (three_boxes w _ _ _).2.1 hb); have BK := Aside0.mk (blk_below (three_boxes w _ _ _).2.2.1 hb); obtain ⟨v, hlk, hv⟩ := hS a0 HS.out; obtain rfl := hv n HSG.out; rw [HSG.out] at hlk; unfold fv at hlk; have ha0 := (blk_cell BA.out 0).trans rfl; have ha1 := (blk_cell BA.out 1).trans rfl; have ha2 := (blk_cell BA.out 2).trans rfl; have hb0 := (blk_cell BB.out 0).trans rfl; have hb1 := (blk_cell BB.out 1).trans rfl; have hb2 := (blk_cell BB.out 2).trans rfl; clear hS hb hv) | (refine (mkf_calls k n a1_0 a1_1 a1_2 a2_0 a2_1 a2_2 q1 q2 q3 w1 (HL.out.below HB1.out) HQ.out).mono ?_; rintro e w2 ⟨rfl, hb⟩; have HB2 := Aside0.mk (below_step HB1.out hb); have BK2 := Aside0.mk (blk_alloc (blk_below BK.out hb) (.cells #[.int .i64 q1, .int .i64 q2, .string q3] 83)); have hfz0 := blk_frozen BK2.out 0; have hfz1 := blk_frozen BK2.out 1; have hfz2 := blk_frozen BK2.out 2; have hc0 := (blk_cell BK2.out 0).trans rfl; have hc1 := (blk_cell BK2.out 1).trans rfl; have hc2 := (blk_cell BK2.out 2).trans rfl; clear hb))
      refine bodyPost_ret (results_ct rfl _ _ (w.heap.size + 1 + 1) 83 #[.int .i64 0, .int .i64 0, .string (⟨#[]⟩ : ByteArray)] (0, 0) _ rfl (blk_set (blk_set (blk_set BK2.out 0 _) 1 _) 2 _) Tryz.underlying83 rfl (by kernel_rfl)) rfl ⟨rfl, ?_⟩
      exact below_set (below_set (below_set (below_alloc HB2.out _) (by omega)) (by omega)) (by omega)
    · rw [if_neg (show ¬ 65536 < (q1, q2, q3).2.2.size from h65)] at h
      simp only [Option.some.injEq, Prod.mk.injEq] at h
      obtain ⟨rfl, rfl, rfl, rfl⟩ := h
      have hgt : ¬ (65536 : Int) < (q3.size : Int) := by omega
      go_enter Tryz.func60, Tryz.ntmps60
      go_wp2_with (first | (go_at_call 86; refine (HM.out _).mono ?_; rintro e w1 ⟨b, rfl, hS, hb⟩; have HB1 := Aside0.mk (below_step (three_boxes w _ _ _).2.2.2 hb); have BA := Aside0.mk (blk_below (three_boxes w _ _ _).1 hb); have BB := Aside0.mk (blk_below (three_boxes w _ _ _).2.1 hb); have BK := Aside0.mk (blk_below (three_boxes w _ _ _).2.2.1 hb); obtain ⟨v, hlk, hv⟩ := hS a0 HS.out; obtain rfl := hv n HSG.out; rw [HSG.out] at hlk; unfold fv at hlk; have ha0 := (blk_cell BA.out 0).trans rfl; have ha1 := (blk_cell BA.out 1).trans rfl; have ha2 := (blk_cell BA.out 2).trans rfl; have hb0 := (blk_cell BB.out 0).trans rfl; have hb1 := (blk_cell BB.out 1).trans rfl; have hb2 := (blk_cell BB.out 2).trans rfl; clear hS hb hv) | (refine (mkf_calls k n a1_0 a1_1 a1_2 a2_0 a2_1 a2_2 q1 q2 q3 w1 (HL.out.below HB1.out) HQ.out).mono ?_; rintro e w2 ⟨rfl, hb⟩; have HB2 := Aside0.mk (below_step HB1.out hb); have BK2 := Aside0.mk (blk_alloc (blk_below BK.out hb) (.cells #[.int .i64 q1, .int .i64 q2, .string q3] 83)); have hfz0 := blk_frozen BK2.out 0; have hfz1 := blk_frozen BK2.out 1; have hfz2 := blk_frozen BK2.out 2; have hc0 := (blk_cell BK2.out 0).trans rfl; have hc1 := (blk_cell BK2.out 1).trans rfl; have hc2 := (blk_cell BK2.out 2).trans rfl; clear hb))
      refine bodyPost_ret (results_ct rfl _ _ (w.heap.size + 1 + 1) 83 #[.int .i64 q1, .int .i64 q2, .string q3] (0, 0) _ rfl (blk_set (blk_set (blk_set BK2.out 0 _) 1 _) 2 _) Tryz.underlying83 rfl (by kernel_rfl)) rfl ⟨rfl, ?_⟩
      exact below_set (below_set (below_set (below_alloc HB2.out _) (by omega)) (by omega)) (by omega)
end Go.Proofs.YtjlhhjfmekjbhaaGreatDoor.Va

/- How two values stand, and what value.Two makes of them: closed forms. No condition. -/
namespace Go.Proofs.YtjlhhjfmekjbhaaGreatDoor.Va
open Go.RowKit Go.Proofs.YtjlhhjfmekjbhaaGreatDoorW.PrintWords Go.Proofs.YtjlhhjfmekjbhaaGreatDoorW.PrintLast Go.Proofs.YtjlhhjfmekjbhaaGreatDoorW.PrintMore Go.Proofs.YtjlhhjfmekjbhaaGreatDoor.Pr Go.Proofs.YtjlhhjfmekjbhaaGreatDoor.Ev
set_option linter.unusedVariables false
set_option linter.unusedSimpArgs false
structure Fits (a : VR) : Prop where
  num : I64 a.2.1
  size : a.2.2.size ≤ 140737488355328
def cmpS (a b : VR) : Int :=
  if a.1 = 4 ∧ b.1 = 4 then (if Op.bytesLess a.2.2.toList b.2.2.toList = true then -1 else if (a.2.2.toList == b.2.2.toList) = true then 0 else 1)
  else (if numS a.1 a.2.1 a.2.2 < numS b.1 b.2.1 b.2.2 then -1 else if numS a.1 a.2.1 a.2.2 > numS b.1 b.2.1 b.2.2 then 1 else 0)
theorem vcmp_tells (a b : VR) (ha : Fits a) (hb : Fits b) : value_compared.f 6 a.1 a.2.1 a.2.2 b.1 b.2.1 b.2.2 = some (cmpS a b) := by
  obtain ⟨a0, a1, a2⟩ := a
  obtain ⟨b0, b1, b2⟩ := b
  have h1 := vnum_tells a0 a1 a2 (by have := ha.size; simp only at this; omega)
  have h2 := vnum_tells b0 b1 b2 (by have := hb.size; simp only at this; omega)
  unfold cmpS
  simp only
  unfold value_compared.f
  by_cases ka : a0 = 4
  · rw [if_pos ka]
    by_cases kb : b0 = 4
    · rw [if_pos ⟨ka, kb⟩, show (b0 == 4) = true from beq_iff_eq.mpr kb]
      simp [value_compared.j0, cmp_Compare_string.f]
    · rw [if_neg (fun h => kb h.2), show (b0 == 4) = false from beq_eq_false_iff_ne.mpr kb]
      simp only [value_compared.j0, h1, h2, Option.bind_some, cmp_Compare_int64.f, cmp_isNaN_int64.f]
      simp
      repeat' split
      all_goals first | rfl | omega
  · rw [if_neg ka, if_neg (fun h => ka h.1)]
    simp only [value_compared.j0, h1, h2, Option.bind_some, cmp_Compare_int64.f, cmp_isNaN_int64.f]
    simp
    repeat' split
    all_goals first | rfl | omega
def boolS (b : Bool) : VR := (2, if b then 1 else 0, ⟨#[]⟩)
theorem truth_tells (b : Bool) : value_truth.f 6 b = some (boolS b) := by
  unfold value_truth.f boolS
  cases b <;> rfl
theorem keyS_size (K N : Int) (S : ByteArray) (hN : I64 N) : (keyS K N S).size ≤ S.size + 30 := by
  have hl := (itoa_len N hN).2
  have c1 : (⟨#[117, 110, 100, 101, 102, 105, 110, 101, 100]⟩ : ByteArray).size = 9 := rfl
  have c2 : (⟨#[110, 117, 108, 108]⟩ : ByteArray).size = 4 := rfl
  have c3 : (⟨#[116, 114, 117, 101]⟩ : ByteArray).size = 4 := rfl
  have c4 : (⟨#[102, 97, 108, 115, 101]⟩ : ByteArray).size = 5 := rfl
  have c5 : (⟨(Lib.itoa N).toArray⟩ : ByteArray).size = (Lib.itoa N).length := rfl
  have c6 : (⟨#[91, 111, 98, 106, 101, 99, 116, 93]⟩ : ByteArray).size = 8 := rfl
  unfold keyS
  repeat' split
  all_goals omega
def eqS (a b : VR) : Bool := a.1 == b.1 && (a.2.1 == b.2.1 && (a.2.2.toList == b.2.2.toList))
def mkS (n : Nat) (a b : VR) : VR :=
  if n = 98 then (if a.1 = 4 ∨ b.1 = 4 then (4, 0, keyS a.1 a.2.1 a.2.2 ++ keyS b.1 b.2.1 b.2.2) else (3, wrap64 (numS a.1 a.2.1 a.2.2 + numS b.1 b.2.1 b.2.2), ⟨#[]⟩))
  else if n = 102 then (3, wrap64 (numS a.1 a.2.1 a.2.2 - numS b.1 b.2.1 b.2.2), ⟨#[]⟩)
  else if n = 103 then (3, wrap64 (numS a.1 a.2.1 a.2.2 * numS b.1 b.2.1 b.2.2), ⟨#[]⟩)
  else if n = 104 then boolS (decide (cmpS a b < 0))
  else if n = 107 then boolS (decide (cmpS a b ≤ 0))
  else if n = 108 then boolS (eqS a b)
  else boolS (!eqS a b)
theorem mk_tells (n : Nat) (a b : VR) (ha : Fits a) (hb : Fits b) (hn : n = 98 ∨ n = 102 ∨ n = 103 ∨ n = 104 ∨ n = 107 ∨ n = 108 ∨ n = 109) :
    mkf 6 n a.1 a.2.1 a.2.2 b.1 b.2.1 b.2.2 = some (mkS n a b) := by
  have hc := vcmp_tells a b ha hb
  obtain ⟨a0, a1, a2⟩ := a
  obtain ⟨b0, b1, b2⟩ := b
  have h1 := vnum_tells a0 a1 a2 (by have := ha.size; simp only at this; omega)
  have h2 := vnum_tells b0 b1 b2 (by have := hb.size; simp only at this; omega)
  have k1 := vkey_tells a0 a1 a2 ha.num
  have k2 := vkey_tells b0 b1 b2 hb.num
  have z1 := keyS_size a0 a1 a2 ha.num
  have z2 := keyS_size b0 b1 b2 hb.num
  have sa : a2.size ≤ 140737488355328 := ha.size
  have sb : b2.size ≤ 140737488355328 := hb.size
  simp only at hc
  unfold mkf mkS
  simp only
  rcases hn with rfl | rfl | rfl | rfl | rfl | rfl | rfl
  · rw [if_pos rfl, if_pos rfl]
    unfold value_makers_1.f
    by_cases ka : a0 = 4
    · rw [if_pos ka, if_pos (.inl ka)]
      simp only [value_makers_1.j0, k1, k2, Option.bind_some, if_true]
      rw [if_pos (by omega)]
    · rw [if_neg ka]
      by_cases kb : b0 = 4
      · rw [if_pos (.inr kb), show (b0 == 4) = true from beq_iff_eq.mpr kb]
        simp only [value_makers_1.j0, k1, k2, Option.bind_some, if_true]
        rw [if_pos (by omega)]
      · rw [if_neg (by omega), show (b0 == 4) = false from beq_eq_false_iff_ne.mpr kb]
        simp [value_makers_1.j0, h1, h2, value_number.f]
  · simp [value_makers_2.f, h1, h2, value_number.f]
  · simp [value_makers_3.f, h1, h2, value_number.f]
  · simp [value_makers_4.f, hc, truth_tells, boolS]
  · simp [value_makers_5.f, hc, truth_tells, boolS]
  · simp [value_makers_6.f, truth_tells, boolS, eqS]
  · simp [value_makers_7.f, truth_tells, boolS, eqS]
def twoS (s : List UInt8) (a b : VR) : VR × Int := match sign s with
  | none => ((0, 0, ⟨#[]⟩), 60)
  | some n => if 65536 < (mkS n a b).2.2.size then ((0, 0, ⟨#[]⟩), 61) else (mkS n a b, 0)
theorem mkS_size (n : Nat) (a b : VR) (ha : Fits a) (hb : Fits b) : (mkS n a b).2.2.size ≤ 9223372036854775807 := by
  have z1 := keyS_size a.1 a.2.1 a.2.2 ha.num
  have z2 := keyS_size b.1 b.2.1 b.2.2 hb.num
  have sa := ha.size
  have sb := hb.size
  have e0 : (⟨#[]⟩ : ByteArray).size = 0 := rfl
  have e1 : (keyS a.1 a.2.1 a.2.2 ++ keyS b.1 b.2.1 b.2.2).size = (keyS a.1 a.2.1 a.2.2).size + (keyS b.1 b.2.1 b.2.2).size := ByteArray.size_append
  unfold mkS boolS
  repeat' split
  all_goals (first | (simp only [e0]; omega) | (simp only [e1]; omega))
theorem two_tells (s : ByteArray) (a b : VR) (hs : s.size ≤ maxLen) (ha : Fits a) (hb : Fits b) :
    value_Two.f 6 s a.1 a.2.1 a.2.2 b.1 b.2.1 b.2.2 = some ((twoS s.data.toList a b).1.1, (twoS s.data.toList a b).1.2.1, (twoS s.data.toList a b).1.2.2, (twoS s.data.toList a b).2) := by
  unfold value_Two.f twoS
  rw [if_pos hs]
  cases hg : sign s.data.toList with
  | none => rfl
  | some n =>
    simp only
    rw [mk_tells n a b ha hb (sign_cases hg), Option.bind_some, if_pos (mkS_size n a b ha hb)]
    split <;> rfl
end Go.Proofs.YtjlhhjfmekjbhaaGreatDoor.Va

/- What calls of the reference's functions do, without rounds. No condition. -/
namespace Go.Proofs.YtjlhhjfmekjbhaaGreatDoor.Va
open Go.RowKit Go.Proofs.YtjlhhjfmekjbhaaGreatDoorW.PrintWords Go.Proofs.YtjlhhjfmekjbhaaGreatDoorW.PrintLast Go.Proofs.YtjlhhjfmekjbhaaGreatDoorW.PrintMore Go.Proofs.YtjlhhjfmekjbhaaGreatDoor.Pr Go.Proofs.YtjlhhjfmekjbhaaGreatDoor.Ev
set_option linter.unusedVariables false
set_option linter.unusedSimpArgs false
def agg (a : VR) : Value := .agg #[.int .i64 a.1, .int .i64 a.2.1, .string a.2.2]
theorem less_self : ∀ l : List UInt8, Op.bytesLess l l = false
  | [] => rfl
  | a :: r => by
    unfold Op.bytesLess
    rw [less_self r]
    simp
theorem rless_tells (a b : VR) (ha : Fits a) (hb : Fits b) : Ev fun k => q6_less.f k a.1 a.2.1 a.2.2 b.1 b.2.1 b.2.2 = some (cmpS a b) := by
  obtain ⟨a0, a1, a2⟩ := a
  obtain ⟨b0, b1, b2⟩ := b
  have h1 := rnum_tells a0 a1 a2 (by have := ha.size; simp only at this; omega)
  have h2 := rnum_tells b0 b1 b2 (by have := hb.size; simp only at this; omega)
  refine (h1.and h2).succ fun k hk => ?_
  obtain ⟨h1, h2⟩ := hk
  unfold cmpS q6_less.f
  simp only
  by_cases ka : a0 = 4
  · rw [if_pos ka]
    by_cases kb : b0 = 4
    · rw [if_pos ⟨ka, kb⟩, show (b0 == 4) = true from beq_iff_eq.mpr kb]
      simp only [q6_less.j0, if_true]
      by_cases e : a2.toList = b2.toList
      · rw [if_pos e, e, less_self, if_neg (by decide), if_pos (beq_self_eq_true _)]
      · rw [if_neg e, show (a2.toList == b2.toList) = false from beq_eq_false_iff_ne.mpr e]
        simp
        split <;> rfl
    · rw [if_neg (fun h => kb h.2), show (b0 == 4) = false from beq_eq_false_iff_ne.mpr kb]
      simp only [q6_less.j0, h1, h2, Option.bind_some]
      simp
      repeat' split
      all_goals first | rfl | omega
  · rw [if_neg ka, if_neg (fun h => ka h.1)]
    simp only [q6_less.j0, h1, h2, Option.bind_some]
    simp
    repeat' split
    all_goals first | rfl | omega
theorem rkey_run (a : VR) (ha : Fits a) (W : World) : Calls Tryz.prog 84 #[agg a] W fun e W' => e = .returned (.string (keyS a.1 a.2.1 a.2.2)) ∧ Below W.heap.size W W' := by
  obtain ⟨k, hk⟩ := (rkey_tells a.1 a.2.1 a.2.2 ha.num).ex
  exact q6_Key.calls k a.1 a.2.1 a.2.2 _ W hk
theorem rnum_run (a : VR) (ha : Fits a) (W : World) : Calls Tryz.prog 110 #[agg a] W fun e W' => e = .returned (.int .i64 (numS a.1 a.2.1 a.2.2)) ∧ Below W.heap.size W W' := by
  obtain ⟨k, hk⟩ := (rnum_tells a.1 a.2.1 a.2.2 (by have := ha.size; omega)).ex
  exact q6_Num.calls k a.1 a.2.1 a.2.2 _ W hk
theorem rless_run (a b : VR) (ha : Fits a) (hb : Fits b) (W : World) : Calls Tryz.prog 112 #[agg a, agg b] W fun e W' => e = .returned (.int .i64 (cmpS a b)) ∧ Below W.heap.size W W' := by
  obtain ⟨k, hk⟩ := (rless_tells a b ha hb).ex
  exact q6_less.calls k a.1 a.2.1 a.2.2 b.1 b.2.1 b.2.2 _ W hk
theorem rbool_run (b : Bool) (W : World) : Calls Tryz.prog 111 #[.bool b] W fun e W' => e = .returned (agg (boolS b)) ∧ Below W.heap.size W W' :=
  q6_Bool.calls b _ _ _ W (by unfold q6_Bool.f; cases b <;> rfl)
theorem rright_run (a : VR) (W : World) : Calls Tryz.prog 75 #[agg a] W fun e W' => e = .returned (.bool (rightS a.1 a.2.1 a.2.2)) ∧ Below W.heap.size W W' :=
  q6_Right.calls 6 a.1 a.2.1 a.2.2 _ W (rright_tells _ _ _)
theorem vright_run (a : VR) (W : World) : Calls Tryz.prog 52 #[agg a] W fun e W' => e = .returned (.bool (rightS a.1 a.2.1 a.2.2)) ∧ Below W.heap.size W W' :=
  value_Right.calls 6 a.1 a.2.1 a.2.2 _ W (vright_tells _ _ _)
def negS (a : VR) : VR := (3, wrap64 (-numS a.1 a.2.1 a.2.2), ⟨#[]⟩)
theorem vtwo_run (s : ByteArray) (a b : VR) (hs : s.size ≤ maxLen) (ha : Fits a) (hb : Fits b) (W : World) (hL : Laid W) : Calls Tryz.prog 60 #[.string s, agg a, agg b] W fun e W' => e = .returned (.tuple #[agg (twoS s.data.toList a b).1, .int .i64 (twoS s.data.toList a b).2]) ∧ Below W.heap.size W W' :=
  value_Two.calls 6 s a.1 a.2.1 a.2.2 b.1 b.2.1 b.2.2 _ _ _ _ W hL (two_tells s a b hs ha hb)
end Go.Proofs.YtjlhhjfmekjbhaaGreatDoor.Va

