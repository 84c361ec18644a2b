/- Lemmas for the claims of this seat (own texts, packed; what the claims do not use is left out). No condition. -/
import Derived.Test.YtjlhhjfmekjbhaaGreatDoorMc0
import Derived.Test.YtjlhhjfmekjbhaaGreatDoorMc1
import Derived.Test.YtjlhhjfmekjbhaaGreatDoorMc3
namespace Go.Proofs.YtjlhhjfmekjbhaaGreatDoor.Pq
open Go.RowKit Go.Proofs.YtjlhhjfmekjbhaaGreatDoorW.PrintWords Go.Proofs.YtjlhhjfmekjbhaaGreatDoorW.PrintLast Go.Proofs.YtjlhhjfmekjbhaaGreatDoorW.PrintMore
set_option linter.unusedVariables false
set_option linter.unusedSimpArgs false
/-! ### gumshoelaw09_Small: function 11 -/
mutual
def gumshoelaw09_Small.l0 : Nat → List (S28) → Int → Option (Int)
 | 0, _, _ => none
 | k + 1, x0, x3 => if x3 < (x0.length : Int) then (if 0 ≤ x3 then (if (((rd_T28 x0 x3).f1).length : Int) > 60 then (some 0) else (gumshoelaw09_Small.l1 k x0 x3 0)) else (none)) else (some 1)
def gumshoelaw09_Small.l1 : Nat → List (S28) → Int → Int → Option (Int)
 | 0, _, _, _ => none
 | k + 1, x0, x3, x4 => if 0 ≤ x3 then (if x3 < (x0.length : Int) then (if x4 < (((rd_T28 x0 x3).f1).length : Int) then (if 0 ≤ x4 then (if (((rd_T31 ((rd_T28 x0 x3).f1) x4).f7).length : Int) > 20 then (some 0) else (if (((rd_T31 ((rd_T28 x0 x3).f1) x4).f5).size : Int) > 100 then (some 0) else (gumshoelaw09_Small.l1 k x0 x3 (wrap64 (x4 + 1))))) else (none)) else (gumshoelaw09_Small.l0 k x0 (wrap64 (x3 + 1)))) else (none)) else (none)
end
def gumshoelaw09_Small.f (k : Nat) (l0 : List (S28)) : Option (Int) := if (l0.length : Int) > 15 then (some 0) else (gumshoelaw09_Small.l0 k l0 0)
set_option maxHeartbeats 8000000 in
set_option maxRecDepth 100000 in
theorem gumshoelaw09_Small.calls (k : Nat) (A0 : Option Addr) (c0 : Nat) (l0 : List (S28)) (r : Int) (w : World) (hr0 : Kd.C k28 w A0 l0.length l0) (hc0 : l0.length ≤ c0) (h : gumshoelaw09_Small.f k l0 = some r) :
  Calls Tryz.prog 11 #[.slice A0 l0.length c0] w fun e w' => e = .returned (.int .i64 r) ∧ Drawn0 w w' := by
 have HR0 := Aside0.mk hr0
 have HC0 := Aside0.mk hc0
 clear hr0 hc0
 have H : (if (l0.length : Int) > 15 then (some 0) else (gumshoelaw09_Small.l0 k l0 0)) = some r := h
 clear h
 by_cases c2 : (l0.length : Int) > 15
 ·rw [if_pos c2] at H
  have c2b0 : decide (15 < (l0.length : Int)) = true := decide_eq_true c2
  have c2b1 : decide (15 < l0.length) = true := decide_eq_true (by omega)
  clear c2
  obtain rfl := Option.some.inj H
  go_enter Tryz.func11, Tryz.ntmps11
  go_wp2
  go_ret
  exact ⟨zR, by repeat (first | exact Drawn0.refl _ | apply Drawn0.step)⟩
 ·rw [if_neg c2] at H
  have c2b0 : decide (15 < (l0.length : Int)) = false := decide_eq_false c2
  have c2b1 : decide (15 < l0.length) = false := decide_eq_false (by omega)
  clear c2
  have H' := Aside0.mk H
  clear H
  go_enter Tryz.func11, Tryz.ntmps11
  go_wp2
  go_loopg [3] k (fun kq v3 w' => ∃ (x3_1 : Int), v3 = .int .i64 x3_1 ∧ Aside0 (gumshoelaw09_Small.l0 kq l0 x3_1 = some r) ∧ Aside0 (kq ≤ k) ∧ Drawn0 w w')
  case atStart => exact ⟨(0), zR, H', ⟨Nat.le_refl _⟩, by repeat (first | exact Drawn0.refl _ | apply Drawn0.step)⟩
  case round =>
   clear H'
   clear c2b0 c2b1
   obtain ⟨x3_1, rfl, HA, HK1, ⟨m1, rfl⟩⟩ := hrel
   cases gk with
   | zero => exact absurd HA.out (by simp [gumshoelaw09_Small.l0])
   | succ k1 =>
    have H := HA.out
    clear HA
    simp only [gumshoelaw09_Small.l0] at H
    by_cases c3 : x3_1 < (l0.length : Int)
    ·rw [if_pos c3] at H
     have c3b0 : decide (x3_1 < (l0.length : Int)) = true := decide_eq_true c3
     clear c3
     by_cases c4 : 0 ≤ x3_1
     ·rw [if_pos c4] at H
      have c4b0 : decide (0 ≤ x3_1) = true := decide_eq_true c4
      clear c4
      by_cases c5 : (((rd_T28 l0 x3_1).f1).length : Int) > 60
      ·rw [if_pos c5] at H
       have c5b0 : decide (60 < (((rd_T28 l0 x3_1).f1).length : Int)) = true := decide_eq_true c5
       have c5b1 : decide (60 < ((rd_T28 l0 x3_1).f1).length) = true := decide_eq_true (by omega)
       clear c5
       obtain rfl := Option.some.inj H
       have p185 : 0 ≤ (x3_1 : Int) := of_decide_eq_true zA
       have q185 : x3_1 < (l0.length : Int) := of_decide_eq_true zA
       obtain ⟨ad185, A185_1, c185_1, e185, hx185_0, hx185_1, hl185_1, hi185_1⟩ := at_T28 HR0.out x3_1 p185 q185
       cases e185
       have HR185_1 := Aside0.mk hi185_1
       have HC185_1 := Aside0.mk hl185_1
       clear hi185_1 hl185_1
       replace p185 := eq_true p185
       replace q185 := eq_true q185
       go_wp2
       go_ret
       exact ⟨zR, by repeat (first | exact Drawn0.refl _ | apply Drawn0.step)⟩
      ·rw [if_neg c5] at H
       have c5b0 : decide (60 < (((rd_T28 l0 x3_1).f1).length : Int)) = false := decide_eq_false c5
       have c5b1 : decide (60 < ((rd_T28 l0 x3_1).f1).length) = false := decide_eq_false (by omega)
       clear c5
       have H' := Aside0.mk H
       clear H
       have p185 : 0 ≤ (x3_1 : Int) := of_decide_eq_true zA
       have q185 : x3_1 < (l0.length : Int) := of_decide_eq_true zA
       obtain ⟨ad185, A185_1, c185_1, e185, hx185_0, hx185_1, hl185_1, hi185_1⟩ := at_T28 HR0.out x3_1 p185 q185
       cases e185
       have HR185_1 := Aside0.mk hi185_1
       have HC185_1 := Aside0.mk hl185_1
       clear hi185_1 hl185_1
       replace p185 := eq_true p185
       replace q185 := eq_true q185
       go_wp2
       go_loopg [4] k1 (fun kq v4 w' => ∃ (x4_2 : Int), v4 = .int .i64 x4_2 ∧ Aside0 (gumshoelaw09_Small.l1 kq l0 x3_1 x4_2 = some r) ∧ Aside0 (kq ≤ k1) ∧ Drawn0 w w')
       case atStart => exact ⟨(0), zR, H', ⟨Nat.le_refl _⟩, by repeat (first | exact Drawn0.refl _ | apply Drawn0.step)⟩
       case round =>
        clear H'
        clear c3b0 c4b0 c5b0 c5b1 hx185_0 hx185_1 p185 q185
        obtain ⟨x4_2, rfl, HA, HK2, ⟨m2, rfl⟩⟩ := hrel
        cases gk with
        | zero => exact absurd HA.out (by simp [gumshoelaw09_Small.l1])
        | succ k2 =>
         have H := HA.out
         clear HA
         simp only [gumshoelaw09_Small.l1] at H
         by_cases c6 : 0 ≤ x3_1
         ·rw [if_pos c6] at H
          have c6b0 : decide (0 ≤ x3_1) = true := decide_eq_true c6
          clear c6
          by_cases c7 : x3_1 < (l0.length : Int)
          ·rw [if_pos c7] at H
           have c7b0 : decide (x3_1 < (l0.length : Int)) = true := decide_eq_true c7
           clear c7
           by_cases c8 : x4_2 < (((rd_T28 l0 x3_1).f1).length : Int)
           ·rw [if_pos c8] at H
            have c8b0 : decide (x4_2 < (((rd_T28 l0 x3_1).f1).length : Int)) = true := decide_eq_true c8
            clear c8
            by_cases c9 : 0 ≤ x4_2
            ·rw [if_pos c9] at H
             have c9b0 : decide (0 ≤ x4_2) = true := decide_eq_true c9
             clear c9
             by_cases c10 : (((rd_T31 ((rd_T28 l0 x3_1).f1) x4_2).f7).length : Int) > 20
             ·rw [if_pos c10] at H
              have c10b0 : decide (20 < (((rd_T31 ((rd_T28 l0 x3_1).f1) x4_2).f7).length : Int)) = true := decide_eq_true c10
              have c10b1 : decide (20 < ((rd_T31 ((rd_T28 l0 x3_1).f1) x4_2).f7).length) = true := decide_eq_true (by omega)
              clear c10
              obtain rfl := Option.some.inj H
              have p186 : 0 ≤ (x3_1 : Int) := of_decide_eq_true zA
              have q186 : x3_1 < (l0.length : Int) := of_decide_eq_true zA
              obtain ⟨ad186, A186_1, c186_1, e186, hx186_0, hx186_1, hl186_1, hi186_1⟩ := at_T28 HR0.out x3_1 p186 q186
              obtain rfl : ad185 = ad186 := (by injection e186)
              have HR186_1 := Aside0.mk hi186_1
              have HC186_1 := Aside0.mk hl186_1
              clear hi186_1 hl186_1
              replace p186 := eq_true p186
              replace q186 := eq_true q186
              have p187 : 0 ≤ (x3_1 : Int) := of_decide_eq_true zA
              have q187 : x3_1 < (l0.length : Int) := of_decide_eq_true zA
              obtain ⟨ad187, A187_1, c187_1, e187, hx187_0, hx187_1, hl187_1, hi187_1⟩ := at_T28 HR0.out x3_1 p187 q187
              obtain rfl : ad185 = ad187 := (by injection e187)
              have HR187_1 := Aside0.mk hi187_1
              have HC187_1 := Aside0.mk hl187_1
              clear hi187_1 hl187_1
              replace p187 := eq_true p187
              replace q187 := eq_true q187
              have ea_ := Option.some.inj (hx186_1.symm.trans hx187_1)
              injection ea_ with ea_ en_ ec_
              subst ea_
              subst ec_
              clear en_
              have p188 : 0 ≤ (x4_2 : Int) := of_decide_eq_true zA
              have q188 : x4_2 < (((rd_T28 l0 x3_1).f1).length : Int) := of_decide_eq_true zA
              obtain ⟨ad188, A188_7, c188_7, e188, hx188_0, hx188_1, hx188_2, hx188_3, hx188_4, hx188_5, hx188_6, hx188_7, hl188_7, hi188_7⟩ := at_T31 HR187_1.out x4_2 p188 q188
              cases e188
              have HR188_7 := Aside0.mk hi188_7
              have HC188_7 := Aside0.mk hl188_7
              clear hi188_7 hl188_7
              replace p188 := eq_true p188
              replace q188 := eq_true q188
              go_wp2
              go_ret
              exact ⟨zR, by repeat (first | exact Drawn0.refl _ | apply Drawn0.step)⟩
             ·rw [if_neg c10] at H
              have c10b0 : decide (20 < (((rd_T31 ((rd_T28 l0 x3_1).f1) x4_2).f7).length : Int)) = false := decide_eq_false c10
              have c10b1 : decide (20 < ((rd_T31 ((rd_T28 l0 x3_1).f1) x4_2).f7).length) = false := decide_eq_false (by omega)
              clear c10
              by_cases c11 : (((rd_T31 ((rd_T28 l0 x3_1).f1) x4_2).f5).size : Int) > 100
              ·rw [if_pos c11] at H
               have c11b0 : decide (100 < (((rd_T31 ((rd_T28 l0 x3_1).f1) x4_2).f5).size : Int)) = true := decide_eq_true c11
               have c11b1 : decide (100 < ((rd_T31 ((rd_T28 l0 x3_1).f1) x4_2).f5).size) = true := decide_eq_true (by omega)
               clear c11
               obtain rfl := Option.some.inj H
               have p186 : 0 ≤ (x3_1 : Int) := of_decide_eq_true zA
               have q186 : x3_1 < (l0.length : Int) := of_decide_eq_true zA
               obtain ⟨ad186, A186_1, c186_1, e186, hx186_0, hx186_1, hl186_1, hi186_1⟩ := at_T28 HR0.out x3_1 p186 q186
               obtain rfl : ad185 = ad186 := (by injection e186)
               have HR186_1 := Aside0.mk hi186_1
               have HC186_1 := Aside0.mk hl186_1
               clear hi186_1 hl186_1
               replace p186 := eq_true p186
               replace q186 := eq_true q186
               have p187 : 0 ≤ (x3_1 : Int) := of_decide_eq_true zA
               have q187 : x3_1 < (l0.length : Int) := of_decide_eq_true zA
               obtain ⟨ad187, A187_1, c187_1, e187, hx187_0, hx187_1, hl187_1, hi187_1⟩ := at_T28 HR0.out x3_1 p187 q187
               obtain rfl : ad185 = ad187 := (by injection e187)
               have HR187_1 := Aside0.mk hi187_1
               have HC187_1 := Aside0.mk hl187_1
               clear hi187_1 hl187_1
               replace p187 := eq_true p187
               replace q187 := eq_true q187
               have ea_ := Option.some.inj (hx186_1.symm.trans hx187_1)
               injection ea_ with ea_ en_ ec_
               subst ea_
               subst ec_
               clear en_
               have p188 : 0 ≤ (x4_2 : Int) := of_decide_eq_true zA
               have q188 : x4_2 < (((rd_T28 l0 x3_1).f1).length : Int) := of_decide_eq_true zA
               obtain ⟨ad188, A188_7, c188_7, e188, hx188_0, hx188_1, hx188_2, hx188_3, hx188_4, hx188_5, hx188_6, hx188_7, hl188_7, hi188_7⟩ := at_T31 HR187_1.out x4_2 p188 q188
               cases e188
               have HR188_7 := Aside0.mk hi188_7
               have HC188_7 := Aside0.mk hl188_7
               clear hi188_7 hl188_7
               replace p188 := eq_true p188
               replace q188 := eq_true q188
               have p189 : 0 ≤ (x3_1 : Int) := of_decide_eq_true zA
               have q189 : x3_1 < (l0.length : Int) := of_decide_eq_true zA
               obtain ⟨ad189, A189_1, c189_1, e189, hx189_0, hx189_1, hl189_1, hi189_1⟩ := at_T28 HR0.out x3_1 p189 q189
               obtain rfl : ad185 = ad189 := (by injection e189)
               have HR189_1 := Aside0.mk hi189_1
               have HC189_1 := Aside0.mk hl189_1
               clear hi189_1 hl189_1
               replace p189 := eq_true p189
               replace q189 := eq_true q189
               have ea_ := Option.some.inj (hx186_1.symm.trans hx189_1)
               injection ea_ with ea_ en_ ec_
               subst ea_
               subst ec_
               clear en_
               have p190 : 0 ≤ (x4_2 : Int) := of_decide_eq_true zA
               have q190 : x4_2 < (((rd_T28 l0 x3_1).f1).length : Int) := of_decide_eq_true zA
               obtain ⟨ad190, A190_7, c190_7, e190, hx190_0, hx190_1, hx190_2, hx190_3, hx190_4, hx190_5, hx190_6, hx190_7, hl190_7, hi190_7⟩ := at_T31 HR189_1.out x4_2 p190 q190
               cases e190
               have HR190_7 := Aside0.mk hi190_7
               have HC190_7 := Aside0.mk hl190_7
               clear hi190_7 hl190_7
               replace p190 := eq_true p190
               replace q190 := eq_true q190
               go_wp2
               go_ret
               exact ⟨zR, by repeat (first | exact Drawn0.refl _ | apply Drawn0.step)⟩
              ·rw [if_neg c11] at H
               have c11b0 : decide (100 < (((rd_T31 ((rd_T28 l0 x3_1).f1) x4_2).f5).size : Int)) = false := decide_eq_false c11
               have c11b1 : decide (100 < ((rd_T31 ((rd_T28 l0 x3_1).f1) x4_2).f5).size) = false := decide_eq_false (by omega)
               clear c11
               have H' := Aside0.mk H
               clear H
               have p186 : 0 ≤ (x3_1 : Int) := of_decide_eq_true zA
               have q186 : x3_1 < (l0.length : Int) := of_decide_eq_true zA
               obtain ⟨ad186, A186_1, c186_1, e186, hx186_0, hx186_1, hl186_1, hi186_1⟩ := at_T28 HR0.out x3_1 p186 q186
               obtain rfl : ad185 = ad186 := (by injection e186)
               have HR186_1 := Aside0.mk hi186_1
               have HC186_1 := Aside0.mk hl186_1
               clear hi186_1 hl186_1
               replace p186 := eq_true p186
               replace q186 := eq_true q186
               have p187 : 0 ≤ (x3_1 : Int) := of_decide_eq_true zA
               have q187 : x3_1 < (l0.length : Int) := of_decide_eq_true zA
               obtain ⟨ad187, A187_1, c187_1, e187, hx187_0, hx187_1, hl187_1, hi187_1⟩ := at_T28 HR0.out x3_1 p187 q187
               obtain rfl : ad185 = ad187 := (by injection e187)
               have HR187_1 := Aside0.mk hi187_1
               have HC187_1 := Aside0.mk hl187_1
               clear hi187_1 hl187_1
               replace p187 := eq_true p187
               replace q187 := eq_true q187
               have ea_ := Option.some.inj (hx186_1.symm.trans hx187_1)
               injection ea_ with ea_ en_ ec_
               subst ea_
               subst ec_
               clear en_
               have p188 : 0 ≤ (x4_2 : Int) := of_decide_eq_true zA
               have q188 : x4_2 < (((rd_T28 l0 x3_1).f1).length : Int) := of_decide_eq_true zA
               obtain ⟨ad188, A188_7, c188_7, e188, hx188_0, hx188_1, hx188_2, hx188_3, hx188_4, hx188_5, hx188_6, hx188_7, hl188_7, hi188_7⟩ := at_T31 HR187_1.out x4_2 p188 q188
               cases e188
               have HR188_7 := Aside0.mk hi188_7
               have HC188_7 := Aside0.mk hl188_7
               clear hi188_7 hl188_7
               replace p188 := eq_true p188
               replace q188 := eq_true q188
               have p189 : 0 ≤ (x3_1 : Int) := of_decide_eq_true zA
               have q189 : x3_1 < (l0.length : Int) := of_decide_eq_true zA
               obtain ⟨ad189, A189_1, c189_1, e189, hx189_0, hx189_1, hl189_1, hi189_1⟩ := at_T28 HR0.out x3_1 p189 q189
               obtain rfl : ad185 = ad189 := (by injection e189)
               have HR189_1 := Aside0.mk hi189_1
               have HC189_1 := Aside0.mk hl189_1
               clear hi189_1 hl189_1
               replace p189 := eq_true p189
               replace q189 := eq_true q189
               have ea_ := Option.some.inj (hx186_1.symm.trans hx189_1)
               injection ea_ with ea_ en_ ec_
               subst ea_
               subst ec_
               clear en_
               have p190 : 0 ≤ (x4_2 : Int) := of_decide_eq_true zA
               have q190 : x4_2 < (((rd_T28 l0 x3_1).f1).length : Int) := of_decide_eq_true zA
               obtain ⟨ad190, A190_7, c190_7, e190, hx190_0, hx190_1, hx190_2, hx190_3, hx190_4, hx190_5, hx190_6, hx190_7, hl190_7, hi190_7⟩ := at_T31 HR189_1.out x4_2 p190 q190
               cases e190
               have HR190_7 := Aside0.mk hi190_7
               have HC190_7 := Aside0.mk hl190_7
               clear hi190_7 hl190_7
               replace p190 := eq_true p190
               replace q190 := eq_true q190
               go_wp2
               go_roundg k2
               case measure => have := HK1.out; have := HK2.out; omega
               case rel => exact ⟨(wrap64 (x4_2 + 1)), zR, H', ⟨by have := HK1.out; have := HK2.out; omega⟩, by repeat (first | exact Drawn0.refl _ | apply Drawn0.step)⟩
            ·rw [if_neg c9] at H
             exact absurd H (by simp)
           ·rw [if_neg c8] at H
            have c8b0 : decide (x4_2 < (((rd_T28 l0 x3_1).f1).length : Int)) = false := decide_eq_false c8
            clear c8
            have H' := Aside0.mk H
            clear H
            have p186 : 0 ≤ (x3_1 : Int) := of_decide_eq_true zA
            have q186 : x3_1 < (l0.length : Int) := of_decide_eq_true zA
            obtain ⟨ad186, A186_1, c186_1, e186, hx186_0, hx186_1, hl186_1, hi186_1⟩ := at_T28 HR0.out x3_1 p186 q186
            obtain rfl : ad185 = ad186 := (by injection e186)
            have HR186_1 := Aside0.mk hi186_1
            have HC186_1 := Aside0.mk hl186_1
            clear hi186_1 hl186_1
            replace p186 := eq_true p186
            replace q186 := eq_true q186
            go_wp2
            go_roundg k2
            case measure => have := HK1.out; have := HK2.out; omega
            case rel => exact ⟨(wrap64 (x3_1 + 1)), zR, H', ⟨by have := HK1.out; have := HK2.out; omega⟩, by repeat (first | exact Drawn0.refl _ | apply Drawn0.step)⟩
          ·rw [if_neg c7] at H
           exact absurd H (by simp)
         ·rw [if_neg c6] at H
          exact absurd H (by simp)
     ·rw [if_neg c4] at H
      exact absurd H (by simp)
    ·rw [if_neg c3] at H
     have c3b0 : decide (x3_1 < (l0.length : Int)) = false := decide_eq_false c3
     clear c3
     obtain rfl := Option.some.inj H
     go_wp2
     go_ret
     exact ⟨zR, by repeat (first | exact Drawn0.refl _ | apply Drawn0.step)⟩
end Go.Proofs.YtjlhhjfmekjbhaaGreatDoor.Pq

namespace Go.Proofs.YtjlhhjfmekjbhaaGreatDoor.Pq
open Go.RowKit Go.Proofs.YtjlhhjfmekjbhaaGreatDoorW.PrintWords Go.Proofs.YtjlhhjfmekjbhaaGreatDoorW.PrintLast Go.Proofs.YtjlhhjfmekjbhaaGreatDoorW.PrintMore
set_option linter.unusedVariables false
set_option linter.unusedSimpArgs false
/-! ### gumshoeref01_Same: function 16 -/
def gumshoeref01_Same.l0 : Nat → List Int → List Int → Int → Option (Bool)
 | 0, _, _, _ => none
 | k + 1, x0, x1, x5 => if x5 < (x0.length : Int) then (if 0 ≤ x5 then (if x5 < (x1.length : Int) then (if (rd x0 x5) = (rd x1 x5) then (gumshoeref01_Same.l0 k x0 x1 (wrap64 (x5 + 1))) else (some false)) else (none)) else (none)) else (some true)
def gumshoeref01_Same.f (k : Nat) (l0 : List Int) (l1 : List Int) : Option (Bool) := if (l0.length : Int) = (l1.length : Int) then (gumshoeref01_Same.l0 k l0 l1 0) else (some false)
end Go.Proofs.YtjlhhjfmekjbhaaGreatDoor.Pq

namespace Go.Proofs.YtjlhhjfmekjbhaaGreatDoor.Pq
open Go.RowKit Go.Proofs.YtjlhhjfmekjbhaaGreatDoorW.PrintWords Go.Proofs.YtjlhhjfmekjbhaaGreatDoorW.PrintLast Go.Proofs.YtjlhhjfmekjbhaaGreatDoorW.PrintMore
set_option linter.unusedVariables false
set_option linter.unusedSimpArgs false
/-! ### code_isReg: function 50 -/
def code_isReg.f (a0 : Int) (a1_0 : Int) (l1_1 : List (S31)) (a1_2 : Int) : Option (Bool) := if a0 ≥ 0 then (some (decide (a0 < a1_0))) else (some false)
set_option maxHeartbeats 8000000 in
set_option maxRecDepth 100000 in
theorem code_isReg.calls (a0 : Int) (a1_0 : Int) (A1_1 : Option Addr) (c1_1 : Nat) (l1_1 : List (S31)) (a1_2 : Int) (r : Bool) (w : World) (hr1_1 : Kd.C k31 w A1_1 l1_1.length l1_1) (hc1_1 : l1_1.length ≤ c1_1) (h : code_isReg.f a0 a1_0 l1_1 a1_2 = some r) :
  Calls Tryz.prog 50 #[.int .i64 a0, .agg #[.int .i64 a1_0, .slice A1_1 l1_1.length c1_1, .int .i64 a1_2]] w fun e w' => e = .returned (.bool r) ∧ Below w.heap.size w w' := by
 have hu49 := Tryz.underlying49
 have HR1_1 := Aside0.mk hr1_1
 have HC1_1 := Aside0.mk hc1_1
 clear hr1_1 hc1_1
 have HB := Aside0.mk (Below.refl w.heap.size w)
 have H : (if a0 ≥ 0 then (some (decide (a0 < a1_0))) else (some false)) = some r := h
 clear h
 by_cases c3 : a0 ≥ 0
 ·rw [if_pos c3] at H
  have c3b0 : decide (0 ≤ a0) = true := decide_eq_true c3
  clear c3
  obtain rfl := Option.some.inj H
  go_enter Tryz.func50, Tryz.ntmps50
  go_wp2_with (first | ((with_reducible refine gate_dst (N := 3) rfl ?_); refine zX (N := 3) (cs := #[.int .i64 a1_0, .slice A1_1 l1_1.length c1_1, .int .i64 a1_2]) (t := 49) (h := ?_); intro gb193 hg w4 hbox hb; have BK193 := Aside0.mk hbox; have GW193 := Aside0.mk ((zS : w.heap.size ≤ gb193)); have GE193 := Aside0.mk ((zS : w.heap.size ≤ gb193)); replace HB := Aside0.mk (below_step zB hb); clear hb hbox hg; obtain ⟨hcz5_0, hcz5_1, hcz5_2, hfz5_0, hfz5_1, hfz5_2⟩ := zd3 BK193.out (.int .i64 a1_0) (.slice A1_1 l1_1.length c1_1) (.int .i64 a1_2)))
  go_ret
  exact ⟨zE, zG⟩
 ·rw [if_neg c3] at H
  have c3b0 : decide (0 ≤ a0) = false := decide_eq_false c3
  clear c3
  obtain rfl := Option.some.inj H
  go_enter Tryz.func50, Tryz.ntmps50
  go_wp2_with (first | ((with_reducible refine gate_dst (N := 3) rfl ?_); refine zX (N := 3) (cs := #[.int .i64 a1_0, .slice A1_1 l1_1.length c1_1, .int .i64 a1_2]) (t := 49) (h := ?_); intro gb193 hg w6 hbox hb; have BK193 := Aside0.mk hbox; have GW193 := Aside0.mk ((zS : w.heap.size ≤ gb193)); have GE193 := Aside0.mk ((zS : w.heap.size ≤ gb193)); replace HB := Aside0.mk (below_step zB hb); clear hb hbox hg))
  go_ret
  exact ⟨zE, zG⟩
/-! ### code_namesD: function 46 -/
def code_namesD.f (a0_0 : Int) (a0_1 : Int) (a0_2 : Int) (a0_3 : Int) (a0_4 : Int) (a0_5 : ByteArray) (a0_6 : Int) (l0_7 : List Int) (a1_0 : Int) (l1_1 : List (S31)) (a1_2 : Int) : Option (Bool) := (code_isReg.f a0_1 a1_0 l1_1 a1_2).bind fun t196 => (some t196)
set_option maxHeartbeats 8000000 in
set_option maxRecDepth 100000 in
theorem code_namesD.calls (a0_0 : Int) (a0_1 : Int) (a0_2 : Int) (a0_3 : Int) (a0_4 : Int) (a0_5 : ByteArray) (a0_6 : Int) (A0_7 : Option Addr) (c0_7 : Nat) (l0_7 : List Int) (a1_0 : Int) (A1_1 : Option Addr) (c1_1 : Nat) (l1_1 : List (S31)) (a1_2 : Int) (r : Bool) (w : World) (hr0_7 : Kd.C (Kd.int .i64) w A0_7 l0_7.length l0_7) (hc0_7 : l0_7.length ≤ c0_7) (hr1_1 : Kd.C k31 w A1_1 l1_1.length l1_1) (hc1_1 : l1_1.length ≤ c1_1) (h : code_namesD.f a0_0 a0_1 a0_2 a0_3 a0_4 a0_5 a0_6 l0_7 a1_0 l1_1 a1_2 = some r) :
  Calls Tryz.prog 46 #[.agg #[.int .i64 a0_0, .int .i64 a0_1, .int .i64 a0_2, .int .i64 a0_3, .int .i64 a0_4, .string a0_5, .int .i64 a0_6, .slice A0_7 l0_7.length c0_7], .agg #[.int .i64 a1_0, .slice A1_1 l1_1.length c1_1, .int .i64 a1_2]] w fun e w' => e = .returned (.bool r) ∧ Below w.heap.size w w' := by
 have hu31 := Tryz.underlying31
 have hu49 := Tryz.underlying49
 have HR0_7 := Aside0.mk hr0_7
 have HC0_7 := Aside0.mk hc0_7
 clear hr0_7 hc0_7
 have HR1_1 := Aside0.mk hr1_1
 have HC1_1 := Aside0.mk hc1_1
 clear hr1_1 hc1_1
 have HB := Aside0.mk (Below.refl w.heap.size w)
 have H : ((code_isReg.f a0_1 a1_0 l1_1 a1_2).bind fun t196 => (some t196)) = some r := h
 clear h
 obtain ⟨t196, A3, H⟩ := zO H
 obtain rfl := Option.some.inj H
 go_enter Tryz.func46, Tryz.ntmps46
 go_wp2_with (first | ((with_reducible refine gate_dst (N := 2) rfl ?_); refine zX (N := 2) (cs := #[.int .i64 a0_0, .int .i64 a0_1, .int .i64 a0_2, .int .i64 a0_3, .int .i64 a0_4, .string a0_5, .int .i64 a0_6, .slice A0_7 l0_7.length c0_7]) (t := 31) (h := ?_); intro gb194 hg w4 hbox hb; have BK194 := Aside0.mk hbox; have GW194 := Aside0.mk ((zS : w.heap.size ≤ gb194)); have GE194 := Aside0.mk ((zS : w.heap.size ≤ gb194)); replace HB := Aside0.mk (below_step zB hb); clear hb hbox hg) | ((with_reducible refine gate_dst (N := 3) rfl ?_); refine zX (N := 3) (cs := #[.int .i64 a1_0, .slice A1_1 l1_1.length c1_1, .int .i64 a1_2]) (t := 49) (h := ?_); intro gb195 hg w5 hbox hb; have BK195 := Aside0.mk hbox; have GW195 := Aside0.mk ((zT : w.heap.size ≤ gb195)); have GE195 := Aside0.mk ((zT : w.heap.size ≤ gb195)); have NB194_195 := Aside0.mk ((zL : gb194 ≠ gb195)); have NB195_194 := Aside0.mk ((zM : gb195 ≠ gb194)); replace BK194 := Aside0.mk (blk_below (g := gb194) zK hb); replace HB := Aside0.mk (below_step zG hb); clear hb hbox hg; have hnb6 := NB194_195.out; have hnc6 := NB195_194.out; obtain ⟨hcz7_0, hcz7_1, hcz7_2, hcz7_3, hcz7_4, hcz7_5, hcz7_6, hcz7_7, hfz7_0, hfz7_1, hfz7_2, hfz7_3, hfz7_4, hfz7_5, hfz7_6, hfz7_7⟩ := zd8 BK194.out (.int .i64 a0_0) (.int .i64 a0_1) (.int .i64 a0_2) (.int .i64 a0_3) (.int .i64 a0_4) (.string a0_5) (.int .i64 a0_6) (.slice A0_7 l0_7.length c0_7); obtain ⟨hcz8_0, hcz8_1, hcz8_2, hfz8_0, hfz8_1, hfz8_2⟩ := zd3 BK195.out (.int .i64 a1_0) (.slice A1_1 l1_1.length c1_1) (.int .i64 a1_2)) | ((with_reducible refine gate_callee (f := 50) rfl ?_); refine goesL_ (some 8) rfl rfl Tryz.func50 (by kernel_rfl) rfl #[.int .i64 a0_1, .agg #[.int .i64 a1_0, .slice A1_1 l1_1.length c1_1, .int .i64 a1_2]] rfl zP ?_; (with_reducible refine (code_isReg.calls a0_1 a1_0 _ _ l1_1 a1_2 t196 _ ?side1 ?side2 A3.out).mono ?_); (case side1 => repeat (first | exact (Kd.C_below HR1_1.out HB.out) | (with_reducible refine Kd.C_alloc ?_ _) | (with_reducible refine Kd.C_drewN ?_ _) | (with_reducible refine Kd.C_drew ?_))); (case side2 => exact HC1_1.out); rintro e w9 ⟨rfl, hb⟩; refine ⟨_, rfl, ?_⟩; replace BK194 := Aside0.mk (blk_below (g := gb194) zK hb); replace BK195 := Aside0.mk (blk_below (g := gb195) zK hb); replace HB := Aside0.mk (below_step zG hb); (try clear hb)))
 go_ret
 exact ⟨zE, zG⟩
/-! ### code_namesA: function 48 -/
def code_namesA.f (a0_0 : Int) (a0_1 : Int) (a0_2 : Int) (a0_3 : Int) (a0_4 : Int) (a0_5 : ByteArray) (a0_6 : Int) (l0_7 : List Int) (a1_0 : Int) (l1_1 : List (S31)) (a1_2 : Int) : Option (Bool) := (code_isReg.f a0_2 a1_0 l1_1 a1_2).bind fun t199 => (some t199)
set_option maxHeartbeats 8000000 in
set_option maxRecDepth 100000 in
theorem code_namesA.calls (a0_0 : Int) (a0_1 : Int) (a0_2 : Int) (a0_3 : Int) (a0_4 : Int) (a0_5 : ByteArray) (a0_6 : Int) (A0_7 : Option Addr) (c0_7 : Nat) (l0_7 : List Int) (a1_0 : Int) (A1_1 : Option Addr) (c1_1 : Nat) (l1_1 : List (S31)) (a1_2 : Int) (r : Bool) (w : World) (hr0_7 : Kd.C (Kd.int .i64) w A0_7 l0_7.length l0_7) (hc0_7 : l0_7.length ≤ c0_7) (hr1_1 : Kd.C k31 w A1_1 l1_1.length l1_1) (hc1_1 : l1_1.length ≤ c1_1) (h : code_namesA.f a0_0 a0_1 a0_2 a0_3 a0_4 a0_5 a0_6 l0_7 a1_0 l1_1 a1_2 = some r) :
  Calls Tryz.prog 48 #[.agg #[.int .i64 a0_0, .int .i64 a0_1, .int .i64 a0_2, .int .i64 a0_3, .int .i64 a0_4, .string a0_5, .int .i64 a0_6, .slice A0_7 l0_7.length c0_7], .agg #[.int .i64 a1_0, .slice A1_1 l1_1.length c1_1, .int .i64 a1_2]] w fun e w' => e = .returned (.bool r) ∧ Below w.heap.size w w' := by
 have hu31 := Tryz.underlying31
 have hu49 := Tryz.underlying49
 have HR0_7 := Aside0.mk hr0_7
 have HC0_7 := Aside0.mk hc0_7
 clear hr0_7 hc0_7
 have HR1_1 := Aside0.mk hr1_1
 have HC1_1 := Aside0.mk hc1_1
 clear hr1_1 hc1_1
 have HB := Aside0.mk (Below.refl w.heap.size w)
 have H : ((code_isReg.f a0_2 a1_0 l1_1 a1_2).bind fun t199 => (some t199)) = some r := h
 clear h
 obtain ⟨t199, A3, H⟩ := zO H
 obtain rfl := Option.some.inj H
 go_enter Tryz.func48, Tryz.ntmps48
 go_wp2_with (first | ((with_reducible refine gate_dst (N := 2) rfl ?_); refine zX (N := 2) (cs := #[.int .i64 a0_0, .int .i64 a0_1, .int .i64 a0_2, .int .i64 a0_3, .int .i64 a0_4, .string a0_5, .int .i64 a0_6, .slice A0_7 l0_7.length c0_7]) (t := 31) (h := ?_); intro gb197 hg w4 hbox hb; have BK197 := Aside0.mk hbox; have GW197 := Aside0.mk ((zS : w.heap.size ≤ gb197)); have GE197 := Aside0.mk ((zS : w.heap.size ≤ gb197)); replace HB := Aside0.mk (below_step zB hb); clear hb hbox hg) | ((with_reducible refine gate_dst (N := 3) rfl ?_); refine zX (N := 3) (cs := #[.int .i64 a1_0, .slice A1_1 l1_1.length c1_1, .int .i64 a1_2]) (t := 49) (h := ?_); intro gb198 hg w5 hbox hb; have BK198 := Aside0.mk hbox; have GW198 := Aside0.mk ((zT : w.heap.size ≤ gb198)); have GE198 := Aside0.mk ((zT : w.heap.size ≤ gb198)); have NB197_198 := Aside0.mk ((zL : gb197 ≠ gb198)); have NB198_197 := Aside0.mk ((zM : gb198 ≠ gb197)); replace BK197 := Aside0.mk (blk_below (g := gb197) zK hb); replace HB := Aside0.mk (below_step zG hb); clear hb hbox hg; have hnb6 := NB197_198.out; have hnc6 := NB198_197.out; obtain ⟨hcz7_0, hcz7_1, hcz7_2, hcz7_3, hcz7_4, hcz7_5, hcz7_6, hcz7_7, hfz7_0, hfz7_1, hfz7_2, hfz7_3, hfz7_4, hfz7_5, hfz7_6, hfz7_7⟩ := zd8 BK197.out (.int .i64 a0_0) (.int .i64 a0_1) (.int .i64 a0_2) (.int .i64 a0_3) (.int .i64 a0_4) (.string a0_5) (.int .i64 a0_6) (.slice A0_7 l0_7.length c0_7); obtain ⟨hcz8_0, hcz8_1, hcz8_2, hfz8_0, hfz8_1, hfz8_2⟩ := zd3 BK198.out (.int .i64 a1_0) (.slice A1_1 l1_1.length c1_1) (.int .i64 a1_2)) | ((with_reducible refine gate_callee (f := 50) rfl ?_); refine goesL_ (some 8) rfl rfl Tryz.func50 (by kernel_rfl) rfl #[.int .i64 a0_2, .agg #[.int .i64 a1_0, .slice A1_1 l1_1.length c1_1, .int .i64 a1_2]] rfl zP ?_; (with_reducible refine (code_isReg.calls a0_2 a1_0 _ _ l1_1 a1_2 t199 _ ?side1 ?side2 A3.out).mono ?_); (case side1 => repeat (first | exact (Kd.C_below HR1_1.out HB.out) | (with_reducible refine Kd.C_alloc ?_ _) | (with_reducible refine Kd.C_drewN ?_ _) | (with_reducible refine Kd.C_drew ?_))); (case side2 => exact HC1_1.out); rintro e w9 ⟨rfl, hb⟩; refine ⟨_, rfl, ?_⟩; replace BK197 := Aside0.mk (blk_below (g := gb197) zK hb); replace BK198 := Aside0.mk (blk_below (g := gb198) zK hb); replace HB := Aside0.mk (below_step zG hb); (try clear hb)))
 go_ret
 exact ⟨zE, zG⟩
end Go.Proofs.YtjlhhjfmekjbhaaGreatDoor.Pq

namespace Go.Proofs.YtjlhhjfmekjbhaaGreatDoor.Pq
open Go.RowKit Go.Proofs.YtjlhhjfmekjbhaaGreatDoorW.PrintWords Go.Proofs.YtjlhhjfmekjbhaaGreatDoorW.PrintLast Go.Proofs.YtjlhhjfmekjbhaaGreatDoorW.PrintMore
set_option linter.unusedVariables false
set_option linter.unusedSimpArgs false
/-! ### code_namesB: function 54 -/
def code_namesB.f (a0_0 : Int) (a0_1 : Int) (a0_2 : Int) (a0_3 : Int) (a0_4 : Int) (a0_5 : ByteArray) (a0_6 : Int) (l0_7 : List Int) (a1_0 : Int) (l1_1 : List (S31)) (a1_2 : Int) : Option (Bool) := (code_isReg.f a0_3 a1_0 l1_1 a1_2).bind fun t202 => (some t202)
set_option maxHeartbeats 8000000 in
set_option maxRecDepth 100000 in
theorem code_namesB.calls (a0_0 : Int) (a0_1 : Int) (a0_2 : Int) (a0_3 : Int) (a0_4 : Int) (a0_5 : ByteArray) (a0_6 : Int) (A0_7 : Option Addr) (c0_7 : Nat) (l0_7 : List Int) (a1_0 : Int) (A1_1 : Option Addr) (c1_1 : Nat) (l1_1 : List (S31)) (a1_2 : Int) (r : Bool) (w : World) (hr0_7 : Kd.C (Kd.int .i64) w A0_7 l0_7.length l0_7) (hc0_7 : l0_7.length ≤ c0_7) (hr1_1 : Kd.C k31 w A1_1 l1_1.length l1_1) (hc1_1 : l1_1.length ≤ c1_1) (h : code_namesB.f a0_0 a0_1 a0_2 a0_3 a0_4 a0_5 a0_6 l0_7 a1_0 l1_1 a1_2 = some r) :
  Calls Tryz.prog 54 #[.agg #[.int .i64 a0_0, .int .i64 a0_1, .int .i64 a0_2, .int .i64 a0_3, .int .i64 a0_4, .string a0_5, .int .i64 a0_6, .slice A0_7 l0_7.length c0_7], .agg #[.int .i64 a1_0, .slice A1_1 l1_1.length c1_1, .int .i64 a1_2]] w fun e w' => e = .returned (.bool r) ∧ Below w.heap.size w w' := by
 have hu31 := Tryz.underlying31
 have hu49 := Tryz.underlying49
 have HR0_7 := Aside0.mk hr0_7
 have HC0_7 := Aside0.mk hc0_7
 clear hr0_7 hc0_7
 have HR1_1 := Aside0.mk hr1_1
 have HC1_1 := Aside0.mk hc1_1
 clear hr1_1 hc1_1
 have HB := Aside0.mk (Below.refl w.heap.size w)
 have H : ((code_isReg.f a0_3 a1_0 l1_1 a1_2).bind fun t202 => (some t202)) = some r := h
 clear h
 obtain ⟨t202, A3, H⟩ := zO H
 obtain rfl := Option.some.inj H
 go_enter Tryz.func54, Tryz.ntmps54
 go_wp2_with (first | ((with_reducible refine gate_dst (N := 2) rfl ?_); refine zX (N := 2) (cs := #[.int .i64 a0_0, .int .i64 a0_1, .int .i64 a0_2, .int .i64 a0_3, .int .i64 a0_4, .string a0_5, .int .i64 a0_6, .slice A0_7 l0_7.length c0_7]) (t := 31) (h := ?_); intro gb200 hg w4 hbox hb; have BK200 := Aside0.mk hbox; have GW200 := Aside0.mk ((zS : w.heap.size ≤ gb200)); have GE200 := Aside0.mk ((zS : w.heap.size ≤ gb200)); replace HB := Aside0.mk (below_step zB hb); clear hb hbox hg) | ((with_reducible refine gate_dst (N := 3) rfl ?_); refine zX (N := 3) (cs := #[.int .i64 a1_0, .slice A1_1 l1_1.length c1_1, .int .i64 a1_2]) (t := 49) (h := ?_); intro gb201 hg w5 hbox hb; have BK201 := Aside0.mk hbox; have GW201 := Aside0.mk ((zT : w.heap.size ≤ gb201)); have GE201 := Aside0.mk ((zT : w.heap.size ≤ gb201)); have NB200_201 := Aside0.mk ((zL : gb200 ≠ gb201)); have NB201_200 := Aside0.mk ((zM : gb201 ≠ gb200)); replace BK200 := Aside0.mk (blk_below (g := gb200) zK hb); replace HB := Aside0.mk (below_step zG hb); clear hb hbox hg; have hnb6 := NB200_201.out; have hnc6 := NB201_200.out; obtain ⟨hcz7_0, hcz7_1, hcz7_2, hcz7_3, hcz7_4, hcz7_5, hcz7_6, hcz7_7, hfz7_0, hfz7_1, hfz7_2, hfz7_3, hfz7_4, hfz7_5, hfz7_6, hfz7_7⟩ := zd8 BK200.out (.int .i64 a0_0) (.int .i64 a0_1) (.int .i64 a0_2) (.int .i64 a0_3) (.int .i64 a0_4) (.string a0_5) (.int .i64 a0_6) (.slice A0_7 l0_7.length c0_7); obtain ⟨hcz8_0, hcz8_1, hcz8_2, hfz8_0, hfz8_1, hfz8_2⟩ := zd3 BK201.out (.int .i64 a1_0) (.slice A1_1 l1_1.length c1_1) (.int .i64 a1_2)) | ((with_reducible refine gate_callee (f := 50) rfl ?_); refine goesL_ (some 8) rfl rfl Tryz.func50 (by kernel_rfl) rfl #[.int .i64 a0_3, .agg #[.int .i64 a1_0, .slice A1_1 l1_1.length c1_1, .int .i64 a1_2]] rfl zP ?_; (with_reducible refine (code_isReg.calls a0_3 a1_0 _ _ l1_1 a1_2 t202 _ ?side1 ?side2 A3.out).mono ?_); (case side1 => repeat (first | exact (Kd.C_below HR1_1.out HB.out) | (with_reducible refine Kd.C_alloc ?_ _) | (with_reducible refine Kd.C_drewN ?_ _) | (with_reducible refine Kd.C_drew ?_))); (case side2 => exact HC1_1.out); rintro e w9 ⟨rfl, hb⟩; refine ⟨_, rfl, ?_⟩; replace BK200 := Aside0.mk (blk_below (g := gb200) zK hb); replace BK201 := Aside0.mk (blk_below (g := gb201) zK hb); replace HB := Aside0.mk (below_step zG hb); (try clear hb)))
 go_ret
 exact ⟨zE, zG⟩
/-! ### code_namesC: function 56 -/
def code_namesC.f (a0_0 : Int) (a0_1 : Int) (a0_2 : Int) (a0_3 : Int) (a0_4 : Int) (a0_5 : ByteArray) (a0_6 : Int) (l0_7 : List Int) (a1_0 : Int) (l1_1 : List (S31)) (a1_2 : Int) : Option (Bool) := (code_isReg.f a0_4 a1_0 l1_1 a1_2).bind fun t205 => (some t205)
set_option maxHeartbeats 8000000 in
set_option maxRecDepth 100000 in
theorem code_namesC.calls (a0_0 : Int) (a0_1 : Int) (a0_2 : Int) (a0_3 : Int) (a0_4 : Int) (a0_5 : ByteArray) (a0_6 : Int) (A0_7 : Option Addr) (c0_7 : Nat) (l0_7 : List Int) (a1_0 : Int) (A1_1 : Option Addr) (c1_1 : Nat) (l1_1 : List (S31)) (a1_2 : Int) (r : Bool) (w : World) (hr0_7 : Kd.C (Kd.int .i64) w A0_7 l0_7.length l0_7) (hc0_7 : l0_7.length ≤ c0_7) (hr1_1 : Kd.C k31 w A1_1 l1_1.length l1_1) (hc1_1 : l1_1.length ≤ c1_1) (h : code_namesC.f a0_0 a0_1 a0_2 a0_3 a0_4 a0_5 a0_6 l0_7 a1_0 l1_1 a1_2 = some r) :
  Calls Tryz.prog 56 #[.agg #[.int .i64 a0_0, .int .i64 a0_1, .int .i64 a0_2, .int .i64 a0_3, .int .i64 a0_4, .string a0_5, .int .i64 a0_6, .slice A0_7 l0_7.length c0_7], .agg #[.int .i64 a1_0, .slice A1_1 l1_1.length c1_1, .int .i64 a1_2]] w fun e w' => e = .returned (.bool r) ∧ Below w.heap.size w w' := by
 have hu31 := Tryz.underlying31
 have hu49 := Tryz.underlying49
 have HR0_7 := Aside0.mk hr0_7
 have HC0_7 := Aside0.mk hc0_7
 clear hr0_7 hc0_7
 have HR1_1 := Aside0.mk hr1_1
 have HC1_1 := Aside0.mk hc1_1
 clear hr1_1 hc1_1
 have HB := Aside0.mk (Below.refl w.heap.size w)
 have H : ((code_isReg.f a0_4 a1_0 l1_1 a1_2).bind fun t205 => (some t205)) = some r := h
 clear h
 obtain ⟨t205, A3, H⟩ := zO H
 obtain rfl := Option.some.inj H
 go_enter Tryz.func56, Tryz.ntmps56
 go_wp2_with (first | ((with_reducible refine gate_dst (N := 2) rfl ?_); refine zX (N := 2) (cs := #[.int .i64 a0_0, .int .i64 a0_1, .int .i64 a0_2, .int .i64 a0_3, .int .i64 a0_4, .string a0_5, .int .i64 a0_6, .slice A0_7 l0_7.length c0_7]) (t := 31) (h := ?_); intro gb203 hg w4 hbox hb; have BK203 := Aside0.mk hbox; have GW203 := Aside0.mk ((zS : w.heap.size ≤ gb203)); have GE203 := Aside0.mk ((zS : w.heap.size ≤ gb203)); replace HB := Aside0.mk (below_step zB hb); clear hb hbox hg) | ((with_reducible refine gate_dst (N := 3) rfl ?_); refine zX (N := 3) (cs := #[.int .i64 a1_0, .slice A1_1 l1_1.length c1_1, .int .i64 a1_2]) (t := 49) (h := ?_); intro gb204 hg w5 hbox hb; have BK204 := Aside0.mk hbox; have GW204 := Aside0.mk ((zT : w.heap.size ≤ gb204)); have GE204 := Aside0.mk ((zT : w.heap.size ≤ gb204)); have NB203_204 := Aside0.mk ((zL : gb203 ≠ gb204)); have NB204_203 := Aside0.mk ((zM : gb204 ≠ gb203)); replace BK203 := Aside0.mk (blk_below (g := gb203) zK hb); replace HB := Aside0.mk (below_step zG hb); clear hb hbox hg; have hnb6 := NB203_204.out; have hnc6 := NB204_203.out; obtain ⟨hcz7_0, hcz7_1, hcz7_2, hcz7_3, hcz7_4, hcz7_5, hcz7_6, hcz7_7, hfz7_0, hfz7_1, hfz7_2, hfz7_3, hfz7_4, hfz7_5, hfz7_6, hfz7_7⟩ := zd8 BK203.out (.int .i64 a0_0) (.int .i64 a0_1) (.int .i64 a0_2) (.int .i64 a0_3) (.int .i64 a0_4) (.string a0_5) (.int .i64 a0_6) (.slice A0_7 l0_7.length c0_7); obtain ⟨hcz8_0, hcz8_1, hcz8_2, hfz8_0, hfz8_1, hfz8_2⟩ := zd3 BK204.out (.int .i64 a1_0) (.slice A1_1 l1_1.length c1_1) (.int .i64 a1_2)) | ((with_reducible refine gate_callee (f := 50) rfl ?_); refine goesL_ (some 8) rfl rfl Tryz.func50 (by kernel_rfl) rfl #[.int .i64 a0_4, .agg #[.int .i64 a1_0, .slice A1_1 l1_1.length c1_1, .int .i64 a1_2]] rfl zP ?_; (with_reducible refine (code_isReg.calls a0_4 a1_0 _ _ l1_1 a1_2 t205 _ ?side1 ?side2 A3.out).mono ?_); (case side1 => repeat (first | exact (Kd.C_below HR1_1.out HB.out) | (with_reducible refine Kd.C_alloc ?_ _) | (with_reducible refine Kd.C_drewN ?_ _) | (with_reducible refine Kd.C_drew ?_))); (case side2 => exact HC1_1.out); rintro e w9 ⟨rfl, hb⟩; refine ⟨_, rfl, ?_⟩; replace BK203 := Aside0.mk (blk_below (g := gb203) zK hb); replace BK204 := Aside0.mk (blk_below (g := gb204) zK hb); replace HB := Aside0.mk (below_step zG hb); (try clear hb)))
 go_ret
 exact ⟨zE, zG⟩
end Go.Proofs.YtjlhhjfmekjbhaaGreatDoor.Pq

namespace Go.Proofs.YtjlhhjfmekjbhaaGreatDoor.Pq
open Go.RowKit Go.Proofs.YtjlhhjfmekjbhaaGreatDoorW.PrintWords Go.Proofs.YtjlhhjfmekjbhaaGreatDoorW.PrintLast Go.Proofs.YtjlhhjfmekjbhaaGreatDoorW.PrintMore
set_option linter.unusedVariables false
set_option linter.unusedSimpArgs false
/-! ### code_isBlank: function 71 -/
def code_isBlank.f (a0_0 : Int) (a0_1 : Int) (a0_2 : Int) (a0_3 : Int) (a0_4 : Int) (a0_5 : ByteArray) (a0_6 : Int) (l0_7 : List Int) : Option (Bool) := if a0_1 = 0 then (if a0_2 = 0 then (if a0_3 = 0 then (if a0_4 = 0 then (if a0_5.toList = ([] : List UInt8) then (if a0_6 = 0 then (some ((l0_7.length : Int) == 0)) else (some false)) else (some false)) else (some false)) else (some false)) else (some false)) else (some false)
end Go.Proofs.YtjlhhjfmekjbhaaGreatDoor.Pq

namespace Go.Proofs.YtjlhhjfmekjbhaaGreatDoor.Pq
open Go.RowKit Go.Proofs.YtjlhhjfmekjbhaaGreatDoorW.PrintWords Go.Proofs.YtjlhhjfmekjbhaaGreatDoorW.PrintLast Go.Proofs.YtjlhhjfmekjbhaaGreatDoorW.PrintMore
set_option linter.unusedVariables false
set_option linter.unusedSimpArgs false
def IsS31 (w0 W : World) (g : Nat) (f0 : Int) (f1 : Int) (f2 : Int) (f3 : Int) (f4 : Int) (f5 : ByteArray) (f6 : Int) (f7 : List Int) : Prop := ∃ A7 c7, W.heap[g]? = some (.cells #[.int .i64 f0, .int .i64 f1, .int .i64 f2, .int .i64 f3, .int .i64 f4, .string f5, .int .i64 f6, .slice A7 f7.length c7] 31 (0, 0)) ∧ w0.heap.size ≤ g ∧ Kd.C (Kd.int .i64) w0 A7 f7.length f7
theorem IsS31.grown {w0 W : World} {g : Nat} {f0 : Int} {f1 : Int} {f2 : Int} {f3 : Int} {f4 : Int} {f5 : ByteArray} {f6 : Int} {f7 : List Int} {W1 : World} {row : Option Nat} (h : IsS31 w0 W g f0 f1 f2 f3 f4 f5 f6 f7) (hw : W.grownBy W1 row) (hne : some g ≠ row) : IsS31 w0 W1 g f0 f1 f2 f3 f4 f5 f6 f7 := by
 obtain ⟨A7, c7, hb, hg, hr7⟩ := h
 exact ⟨A7, c7, blk_grown hb hw hne, hg, hr7⟩
theorem IsS31.below {w0 W : World} {g : Nat} {f0 : Int} {f1 : Int} {f2 : Int} {f3 : Int} {f4 : Int} {f5 : ByteArray} {f6 : Int} {f7 : List Int} {W1 : World} (h : IsS31 w0 W g f0 f1 f2 f3 f4 f5 f6 f7) (hw : Below W.heap.size W W1) : IsS31 w0 W1 g f0 f1 f2 f3 f4 f5 f6 f7 := h.grown (grown_of_below hw none) (by simp)
theorem IsS31.ge {w0 W : World} {g : Nat} {f0 : Int} {f1 : Int} {f2 : Int} {f3 : Int} {f4 : Int} {f5 : ByteArray} {f6 : Int} {f7 : List Int} (h : IsS31 w0 W g f0 f1 f2 f3 f4 f5 f6 f7) : w0.heap.size ≤ g := by
 obtain ⟨A7, c7, hb, hg, hr7⟩ := h
 exact hg
theorem cellS31_0 {W : World} {g : Nat} {A7 : Option Addr} {c7 : Nat} {f0 : Int} {f1 : Int} {f2 : Int} {f3 : Int} {f4 : Int} {f5 : ByteArray} {f6 : Int} {f7 : List Int} (h : W.heap[g]? = some (.cells #[.int .i64 f0, .int .i64 f1, .int .i64 f2, .int .i64 f3, .int .i64 f4, .string f5, .int .i64 f6, .slice A7 f7.length c7] 31 (0, 0))) : W.cell? ⟨g, 0, none⟩ = some (.int .i64 f0) := (blk_cell h 0).trans rfl
theorem cellS31_1 {W : World} {g : Nat} {A7 : Option Addr} {c7 : Nat} {f0 : Int} {f1 : Int} {f2 : Int} {f3 : Int} {f4 : Int} {f5 : ByteArray} {f6 : Int} {f7 : List Int} (h : W.heap[g]? = some (.cells #[.int .i64 f0, .int .i64 f1, .int .i64 f2, .int .i64 f3, .int .i64 f4, .string f5, .int .i64 f6, .slice A7 f7.length c7] 31 (0, 0))) : W.cell? ⟨g, 1, none⟩ = some (.int .i64 f1) := (blk_cell h 1).trans rfl
theorem IsS31.set_1 {w0 W : World} {g : Nat} {f0 : Int} {f1 : Int} {f2 : Int} {f3 : Int} {f4 : Int} {f5 : ByteArray} {f6 : Int} {f7 : List Int} (h : IsS31 w0 W g f0 f1 f2 f3 f4 f5 f6 f7) (x : Int) : IsS31 w0 (W.setCell ⟨g, 1, none⟩ (.int .i64 x)) g f0 x f2 f3 f4 f5 f6 f7 := by
 obtain ⟨A7, c7, hb, hg, hr7⟩ := h
 exact ⟨A7, c7, by simpa using blk_set hb 1 (.int .i64 x), hg, hr7⟩
theorem cellS31_2 {W : World} {g : Nat} {A7 : Option Addr} {c7 : Nat} {f0 : Int} {f1 : Int} {f2 : Int} {f3 : Int} {f4 : Int} {f5 : ByteArray} {f6 : Int} {f7 : List Int} (h : W.heap[g]? = some (.cells #[.int .i64 f0, .int .i64 f1, .int .i64 f2, .int .i64 f3, .int .i64 f4, .string f5, .int .i64 f6, .slice A7 f7.length c7] 31 (0, 0))) : W.cell? ⟨g, 2, none⟩ = some (.int .i64 f2) := (blk_cell h 2).trans rfl
theorem IsS31.set_2 {w0 W : World} {g : Nat} {f0 : Int} {f1 : Int} {f2 : Int} {f3 : Int} {f4 : Int} {f5 : ByteArray} {f6 : Int} {f7 : List Int} (h : IsS31 w0 W g f0 f1 f2 f3 f4 f5 f6 f7) (x : Int) : IsS31 w0 (W.setCell ⟨g, 2, none⟩ (.int .i64 x)) g f0 f1 x f3 f4 f5 f6 f7 := by
 obtain ⟨A7, c7, hb, hg, hr7⟩ := h
 exact ⟨A7, c7, by simpa using blk_set hb 2 (.int .i64 x), hg, hr7⟩
theorem cellS31_3 {W : World} {g : Nat} {A7 : Option Addr} {c7 : Nat} {f0 : Int} {f1 : Int} {f2 : Int} {f3 : Int} {f4 : Int} {f5 : ByteArray} {f6 : Int} {f7 : List Int} (h : W.heap[g]? = some (.cells #[.int .i64 f0, .int .i64 f1, .int .i64 f2, .int .i64 f3, .int .i64 f4, .string f5, .int .i64 f6, .slice A7 f7.length c7] 31 (0, 0))) : W.cell? ⟨g, 3, none⟩ = some (.int .i64 f3) := (blk_cell h 3).trans rfl
theorem IsS31.set_3 {w0 W : World} {g : Nat} {f0 : Int} {f1 : Int} {f2 : Int} {f3 : Int} {f4 : Int} {f5 : ByteArray} {f6 : Int} {f7 : List Int} (h : IsS31 w0 W g f0 f1 f2 f3 f4 f5 f6 f7) (x : Int) : IsS31 w0 (W.setCell ⟨g, 3, none⟩ (.int .i64 x)) g f0 f1 f2 x f4 f5 f6 f7 := by
 obtain ⟨A7, c7, hb, hg, hr7⟩ := h
 exact ⟨A7, c7, by simpa using blk_set hb 3 (.int .i64 x), hg, hr7⟩
theorem cellS31_4 {W : World} {g : Nat} {A7 : Option Addr} {c7 : Nat} {f0 : Int} {f1 : Int} {f2 : Int} {f3 : Int} {f4 : Int} {f5 : ByteArray} {f6 : Int} {f7 : List Int} (h : W.heap[g]? = some (.cells #[.int .i64 f0, .int .i64 f1, .int .i64 f2, .int .i64 f3, .int .i64 f4, .string f5, .int .i64 f6, .slice A7 f7.length c7] 31 (0, 0))) : W.cell? ⟨g, 4, none⟩ = some (.int .i64 f4) := (blk_cell h 4).trans rfl
theorem IsS31.set_4 {w0 W : World} {g : Nat} {f0 : Int} {f1 : Int} {f2 : Int} {f3 : Int} {f4 : Int} {f5 : ByteArray} {f6 : Int} {f7 : List Int} (h : IsS31 w0 W g f0 f1 f2 f3 f4 f5 f6 f7) (x : Int) : IsS31 w0 (W.setCell ⟨g, 4, none⟩ (.int .i64 x)) g f0 f1 f2 f3 x f5 f6 f7 := by
 obtain ⟨A7, c7, hb, hg, hr7⟩ := h
 exact ⟨A7, c7, by simpa using blk_set hb 4 (.int .i64 x), hg, hr7⟩
theorem cellS31_5 {W : World} {g : Nat} {A7 : Option Addr} {c7 : Nat} {f0 : Int} {f1 : Int} {f2 : Int} {f3 : Int} {f4 : Int} {f5 : ByteArray} {f6 : Int} {f7 : List Int} (h : W.heap[g]? = some (.cells #[.int .i64 f0, .int .i64 f1, .int .i64 f2, .int .i64 f3, .int .i64 f4, .string f5, .int .i64 f6, .slice A7 f7.length c7] 31 (0, 0))) : W.cell? ⟨g, 5, none⟩ = some (.string f5) := (blk_cell h 5).trans rfl
theorem IsS31.set_5 {w0 W : World} {g : Nat} {f0 : Int} {f1 : Int} {f2 : Int} {f3 : Int} {f4 : Int} {f5 : ByteArray} {f6 : Int} {f7 : List Int} (h : IsS31 w0 W g f0 f1 f2 f3 f4 f5 f6 f7) (x : ByteArray) : IsS31 w0 (W.setCell ⟨g, 5, none⟩ (.string x)) g f0 f1 f2 f3 f4 x f6 f7 := by
 obtain ⟨A7, c7, hb, hg, hr7⟩ := h
 exact ⟨A7, c7, by simpa using blk_set hb 5 (.string x), hg, hr7⟩
theorem cellS31_6 {W : World} {g : Nat} {A7 : Option Addr} {c7 : Nat} {f0 : Int} {f1 : Int} {f2 : Int} {f3 : Int} {f4 : Int} {f5 : ByteArray} {f6 : Int} {f7 : List Int} (h : W.heap[g]? = some (.cells #[.int .i64 f0, .int .i64 f1, .int .i64 f2, .int .i64 f3, .int .i64 f4, .string f5, .int .i64 f6, .slice A7 f7.length c7] 31 (0, 0))) : W.cell? ⟨g, 6, none⟩ = some (.int .i64 f6) := (blk_cell h 6).trans rfl
theorem IsS31.set_6 {w0 W : World} {g : Nat} {f0 : Int} {f1 : Int} {f2 : Int} {f3 : Int} {f4 : Int} {f5 : ByteArray} {f6 : Int} {f7 : List Int} (h : IsS31 w0 W g f0 f1 f2 f3 f4 f5 f6 f7) (x : Int) : IsS31 w0 (W.setCell ⟨g, 6, none⟩ (.int .i64 x)) g f0 f1 f2 f3 f4 f5 x f7 := by
 obtain ⟨A7, c7, hb, hg, hr7⟩ := h
 exact ⟨A7, c7, by simpa using blk_set hb 6 (.int .i64 x), hg, hr7⟩
theorem cellS31_7 {W : World} {g : Nat} {A7 : Option Addr} {c7 : Nat} {f0 : Int} {f1 : Int} {f2 : Int} {f3 : Int} {f4 : Int} {f5 : ByteArray} {f6 : Int} {f7 : List Int} (h : W.heap[g]? = some (.cells #[.int .i64 f0, .int .i64 f1, .int .i64 f2, .int .i64 f3, .int .i64 f4, .string f5, .int .i64 f6, .slice A7 f7.length c7] 31 (0, 0))) : W.cell? ⟨g, 7, none⟩ = some (.slice A7 f7.length c7) := (blk_cell h 7).trans rfl
/-! ### code_parts_1: function 42 -/
def code_parts_1.f (s0_0 : Int) (s0_1 : Int) (s0_2 : Int) (s0_3 : Int) (s0_4 : Int) (s0_5 : ByteArray) (s0_6 : Int) (s0_7 : List Int) : Option (Int × Int × Int × Int × Int × ByteArray × Int) := some (s0_0, s0_1, 0, s0_3, s0_4, s0_5, s0_6)
set_option maxHeartbeats 8000000 in
set_option maxRecDepth 100000 in
theorem code_parts_1.calls (g : Nat) (s0_0 : Int) (s0_1 : Int) (s0_2 : Int) (s0_3 : Int) (s0_4 : Int) (s0_5 : ByteArray) (s0_6 : Int) (s0_7 : List Int) (r1 : Int) (r2 : Int) (r3 : Int) (r4 : Int) (r5 : Int) (r6 : ByteArray) (r7 : Int) (w0 w : World) (hI : IsS31 w0 w g s0_0 s0_1 s0_2 s0_3 s0_4 s0_5 s0_6 s0_7) (hB : Below w0.heap.size w0 w) (h : code_parts_1.f s0_0 s0_1 s0_2 s0_3 s0_4 s0_5 s0_6 s0_7 = some (r1, r2, r3, r4, r5, r6, r7)) :
  Calls Tryz.prog 42 #[.pointer (some ⟨g, 0, none⟩)] w fun e w' => e = .returned (.tuple #[]) ∧ IsS31 w0 w' g r1 r2 r3 r4 r5 r6 r7 s0_7 ∧ Below w0.heap.size w0 w' ∧ KeepBut w w' g none := by
 have HI0 := Aside0.mk hI
 have HK := Aside0.mk (KeepBut.refl w g none)
 have HL := Aside0.mk hB.size
 clear hI
 have HW0 := Aside0.mk hB.size
 have HB := Aside0.mk hB
 clear hB
 have H : (some (s0_0, s0_1, 0, s0_3, s0_4, s0_5, s0_6)) = some (r1, r2, r3, r4, r5, r6, r7) := h
 clear h
 simp only [Option.some.injEq, Prod.mk.injEq] at H
 obtain ⟨rfl, rfl, rfl, rfl, rfl, rfl, rfl⟩ := H
 obtain ⟨ASz2_7, cSz2_7, HGz2, hgz2, HSz2_7⟩ := HI0.out
 have hcz2_0 := cellS31_0 HGz2
 have hcz2_1 := cellS31_1 HGz2
 have hcz2_2 := cellS31_2 HGz2
 have hcz2_3 := cellS31_3 HGz2
 have hcz2_4 := cellS31_4 HGz2
 have hcz2_5 := cellS31_5 HGz2
 have hcz2_6 := cellS31_6 HGz2
 have hcz2_7 := cellS31_7 HGz2
 have hfz2_0 := blk_frozen HGz2 0
 have hfz2_1 := blk_frozen HGz2 1
 have hfz2_2 := blk_frozen HGz2 2
 have hfz2_3 := blk_frozen HGz2 3
 have hfz2_4 := blk_frozen HGz2 4
 have hfz2_5 := blk_frozen HGz2 5
 have hfz2_6 := blk_frozen HGz2 6
 clear HGz2 hgz2
 go_enter Tryz.func42, Tryz.ntmps42
 go_wp2
 first | go_end0 | ((try simp only [Exit.inBlock, Exit.then]); refine bodyPost_ret (results_none rfl _ _ _) rfl ?_)
 exact ⟨zE, by repeat (first | (with_reducible first | exact HI0.out | apply IsS31.alloc | apply IsS31.drewN | apply IsS31.drew | apply IsS31.set_0 | apply IsS31.set_1 | apply IsS31.set_2 | apply IsS31.set_3 | apply IsS31.set_4 | apply IsS31.set_5 | apply IsS31.set_6) | exact HI0.out), by repeat (first | (with_reducible first | exact HB.out | apply below_alloc | apply pw_below_drewN | apply below_drew1 | refine below_set ?_ (IsS31.ge HI0.out)) | exact HB.out), by repeat (first | (with_reducible first | exact HK.out | apply KeepBut.set_ | apply keep_drewN | apply keep_drew | apply keep_alloc) | exact HK.out)⟩
end Go.Proofs.YtjlhhjfmekjbhaaGreatDoor.Pq

namespace Go.Proofs.YtjlhhjfmekjbhaaGreatDoor.Pq
open Go.RowKit Go.Proofs.YtjlhhjfmekjbhaaGreatDoorW.PrintWords Go.Proofs.YtjlhhjfmekjbhaaGreatDoorW.PrintLast Go.Proofs.YtjlhhjfmekjbhaaGreatDoorW.PrintMore
set_option linter.unusedVariables false
set_option linter.unusedSimpArgs false
/-! ### code_parts_2: function 43 -/
def code_parts_2.f (s0_0 : Int) (s0_1 : Int) (s0_2 : Int) (s0_3 : Int) (s0_4 : Int) (s0_5 : ByteArray) (s0_6 : Int) (s0_7 : List Int) : Option (Int × Int × Int × Int × Int × ByteArray × Int) := some (s0_0, s0_1, s0_2, 0, s0_4, s0_5, s0_6)
set_option maxHeartbeats 8000000 in
set_option maxRecDepth 100000 in
theorem code_parts_2.calls (g : Nat) (s0_0 : Int) (s0_1 : Int) (s0_2 : Int) (s0_3 : Int) (s0_4 : Int) (s0_5 : ByteArray) (s0_6 : Int) (s0_7 : List Int) (r1 : Int) (r2 : Int) (r3 : Int) (r4 : Int) (r5 : Int) (r6 : ByteArray) (r7 : Int) (w0 w : World) (hI : IsS31 w0 w g s0_0 s0_1 s0_2 s0_3 s0_4 s0_5 s0_6 s0_7) (hB : Below w0.heap.size w0 w) (h : code_parts_2.f s0_0 s0_1 s0_2 s0_3 s0_4 s0_5 s0_6 s0_7 = some (r1, r2, r3, r4, r5, r6, r7)) :
  Calls Tryz.prog 43 #[.pointer (some ⟨g, 0, none⟩)] w fun e w' => e = .returned (.tuple #[]) ∧ IsS31 w0 w' g r1 r2 r3 r4 r5 r6 r7 s0_7 ∧ Below w0.heap.size w0 w' ∧ KeepBut w w' g none := by
 have HI0 := Aside0.mk hI
 have HK := Aside0.mk (KeepBut.refl w g none)
 have HL := Aside0.mk hB.size
 clear hI
 have HW0 := Aside0.mk hB.size
 have HB := Aside0.mk hB
 clear hB
 have H : (some (s0_0, s0_1, s0_2, 0, s0_4, s0_5, s0_6)) = some (r1, r2, r3, r4, r5, r6, r7) := h
 clear h
 simp only [Option.some.injEq, Prod.mk.injEq] at H
 obtain ⟨rfl, rfl, rfl, rfl, rfl, rfl, rfl⟩ := H
 obtain ⟨ASz2_7, cSz2_7, HGz2, hgz2, HSz2_7⟩ := HI0.out
 have hcz2_0 := cellS31_0 HGz2
 have hcz2_1 := cellS31_1 HGz2
 have hcz2_2 := cellS31_2 HGz2
 have hcz2_3 := cellS31_3 HGz2
 have hcz2_4 := cellS31_4 HGz2
 have hcz2_5 := cellS31_5 HGz2
 have hcz2_6 := cellS31_6 HGz2
 have hcz2_7 := cellS31_7 HGz2
 have hfz2_0 := blk_frozen HGz2 0
 have hfz2_1 := blk_frozen HGz2 1
 have hfz2_2 := blk_frozen HGz2 2
 have hfz2_3 := blk_frozen HGz2 3
 have hfz2_4 := blk_frozen HGz2 4
 have hfz2_5 := blk_frozen HGz2 5
 have hfz2_6 := blk_frozen HGz2 6
 clear HGz2 hgz2
 go_enter Tryz.func43, Tryz.ntmps43
 go_wp2
 first | go_end0 | ((try simp only [Exit.inBlock, Exit.then]); refine bodyPost_ret (results_none rfl _ _ _) rfl ?_)
 exact ⟨zE, by repeat (first | (with_reducible first | exact HI0.out | apply IsS31.alloc | apply IsS31.drewN | apply IsS31.drew | apply IsS31.set_0 | apply IsS31.set_1 | apply IsS31.set_2 | apply IsS31.set_3 | apply IsS31.set_4 | apply IsS31.set_5 | apply IsS31.set_6) | exact HI0.out), by repeat (first | (with_reducible first | exact HB.out | apply below_alloc | apply pw_below_drewN | apply below_drew1 | refine below_set ?_ (IsS31.ge HI0.out)) | exact HB.out), by repeat (first | (with_reducible first | exact HK.out | apply KeepBut.set_ | apply keep_drewN | apply keep_drew | apply keep_alloc) | exact HK.out)⟩
/-! ### code_parts_3: function 44 -/
def code_parts_3.f (s0_0 : Int) (s0_1 : Int) (s0_2 : Int) (s0_3 : Int) (s0_4 : Int) (s0_5 : ByteArray) (s0_6 : Int) (s0_7 : List Int) : Option (Int × Int × Int × Int × Int × ByteArray × Int) := some (s0_0, s0_1, s0_2, s0_3, s0_4, s0_5, 0)
set_option maxHeartbeats 8000000 in
set_option maxRecDepth 100000 in
theorem code_parts_3.calls (g : Nat) (s0_0 : Int) (s0_1 : Int) (s0_2 : Int) (s0_3 : Int) (s0_4 : Int) (s0_5 : ByteArray) (s0_6 : Int) (s0_7 : List Int) (r1 : Int) (r2 : Int) (r3 : Int) (r4 : Int) (r5 : Int) (r6 : ByteArray) (r7 : Int) (w0 w : World) (hI : IsS31 w0 w g s0_0 s0_1 s0_2 s0_3 s0_4 s0_5 s0_6 s0_7) (hB : Below w0.heap.size w0 w) (h : code_parts_3.f s0_0 s0_1 s0_2 s0_3 s0_4 s0_5 s0_6 s0_7 = some (r1, r2, r3, r4, r5, r6, r7)) :
  Calls Tryz.prog 44 #[.pointer (some ⟨g, 0, none⟩)] w fun e w' => e = .returned (.tuple #[]) ∧ IsS31 w0 w' g r1 r2 r3 r4 r5 r6 r7 s0_7 ∧ Below w0.heap.size w0 w' ∧ KeepBut w w' g none := by
 have HI0 := Aside0.mk hI
 have HK := Aside0.mk (KeepBut.refl w g none)
 have HL := Aside0.mk hB.size
 clear hI
 have HW0 := Aside0.mk hB.size
 have HB := Aside0.mk hB
 clear hB
 have H : (some (s0_0, s0_1, s0_2, s0_3, s0_4, s0_5, 0)) = some (r1, r2, r3, r4, r5, r6, r7) := h
 clear h
 simp only [Option.some.injEq, Prod.mk.injEq] at H
 obtain ⟨rfl, rfl, rfl, rfl, rfl, rfl, rfl⟩ := H
 obtain ⟨ASz2_7, cSz2_7, HGz2, hgz2, HSz2_7⟩ := HI0.out
 have hcz2_0 := cellS31_0 HGz2
 have hcz2_1 := cellS31_1 HGz2
 have hcz2_2 := cellS31_2 HGz2
 have hcz2_3 := cellS31_3 HGz2
 have hcz2_4 := cellS31_4 HGz2
 have hcz2_5 := cellS31_5 HGz2
 have hcz2_6 := cellS31_6 HGz2
 have hcz2_7 := cellS31_7 HGz2
 have hfz2_0 := blk_frozen HGz2 0
 have hfz2_1 := blk_frozen HGz2 1
 have hfz2_2 := blk_frozen HGz2 2
 have hfz2_3 := blk_frozen HGz2 3
 have hfz2_4 := blk_frozen HGz2 4
 have hfz2_5 := blk_frozen HGz2 5
 have hfz2_6 := blk_frozen HGz2 6
 clear HGz2 hgz2
 go_enter Tryz.func44, Tryz.ntmps44
 go_wp2
 first | go_end0 | ((try simp only [Exit.inBlock, Exit.then]); refine bodyPost_ret (results_none rfl _ _ _) rfl ?_)
 exact ⟨zE, by repeat (first | (with_reducible first | exact HI0.out | apply IsS31.alloc | apply IsS31.drewN | apply IsS31.drew | apply IsS31.set_0 | apply IsS31.set_1 | apply IsS31.set_2 | apply IsS31.set_3 | apply IsS31.set_4 | apply IsS31.set_5 | apply IsS31.set_6) | exact HI0.out), by repeat (first | (with_reducible first | exact HB.out | apply below_alloc | apply pw_below_drewN | apply below_drew1 | refine below_set ?_ (IsS31.ge HI0.out)) | exact HB.out), by repeat (first | (with_reducible first | exact HK.out | apply KeepBut.set_ | apply keep_drewN | apply keep_drew | apply keep_alloc) | exact HK.out)⟩
end Go.Proofs.YtjlhhjfmekjbhaaGreatDoor.Pq

namespace Go.Proofs.YtjlhhjfmekjbhaaGreatDoor.Pq
open Go.RowKit Go.Proofs.YtjlhhjfmekjbhaaGreatDoorW.PrintWords Go.Proofs.YtjlhhjfmekjbhaaGreatDoorW.PrintLast Go.Proofs.YtjlhhjfmekjbhaaGreatDoorW.PrintMore
set_option linter.unusedVariables false
set_option linter.unusedSimpArgs false
/-! ### code_parts_4: function 45 -/
def code_parts_4.f (s0_0 : Int) (s0_1 : Int) (s0_2 : Int) (s0_3 : Int) (s0_4 : Int) (s0_5 : ByteArray) (s0_6 : Int) (s0_7 : List Int) : Option (Int × Int × Int × Int × Int × ByteArray × Int) := some (s0_0, s0_1, s0_2, s0_3, s0_4, (⟨#[]⟩ : ByteArray), s0_6)
set_option maxHeartbeats 8000000 in
set_option maxRecDepth 100000 in
theorem code_parts_4.calls (g : Nat) (s0_0 : Int) (s0_1 : Int) (s0_2 : Int) (s0_3 : Int) (s0_4 : Int) (s0_5 : ByteArray) (s0_6 : Int) (s0_7 : List Int) (r1 : Int) (r2 : Int) (r3 : Int) (r4 : Int) (r5 : Int) (r6 : ByteArray) (r7 : Int) (w0 w : World) (hI : IsS31 w0 w g s0_0 s0_1 s0_2 s0_3 s0_4 s0_5 s0_6 s0_7) (hB : Below w0.heap.size w0 w) (h : code_parts_4.f s0_0 s0_1 s0_2 s0_3 s0_4 s0_5 s0_6 s0_7 = some (r1, r2, r3, r4, r5, r6, r7)) :
  Calls Tryz.prog 45 #[.pointer (some ⟨g, 0, none⟩)] w fun e w' => e = .returned (.tuple #[]) ∧ IsS31 w0 w' g r1 r2 r3 r4 r5 r6 r7 s0_7 ∧ Below w0.heap.size w0 w' ∧ KeepBut w w' g none := by
 have HI0 := Aside0.mk hI
 have HK := Aside0.mk (KeepBut.refl w g none)
 have HL := Aside0.mk hB.size
 clear hI
 have HW0 := Aside0.mk hB.size
 have HB := Aside0.mk hB
 clear hB
 have H : (some (s0_0, s0_1, s0_2, s0_3, s0_4, (⟨#[]⟩ : ByteArray), s0_6)) = some (r1, r2, r3, r4, r5, r6, r7) := h
 clear h
 simp only [Option.some.injEq, Prod.mk.injEq] at H
 obtain ⟨rfl, rfl, rfl, rfl, rfl, rfl, rfl⟩ := H
 obtain ⟨ASz2_7, cSz2_7, HGz2, hgz2, HSz2_7⟩ := HI0.out
 have hcz2_0 := cellS31_0 HGz2
 have hcz2_1 := cellS31_1 HGz2
 have hcz2_2 := cellS31_2 HGz2
 have hcz2_3 := cellS31_3 HGz2
 have hcz2_4 := cellS31_4 HGz2
 have hcz2_5 := cellS31_5 HGz2
 have hcz2_6 := cellS31_6 HGz2
 have hcz2_7 := cellS31_7 HGz2
 have hfz2_0 := blk_frozen HGz2 0
 have hfz2_1 := blk_frozen HGz2 1
 have hfz2_2 := blk_frozen HGz2 2
 have hfz2_3 := blk_frozen HGz2 3
 have hfz2_4 := blk_frozen HGz2 4
 have hfz2_5 := blk_frozen HGz2 5
 have hfz2_6 := blk_frozen HGz2 6
 clear HGz2 hgz2
 go_enter Tryz.func45, Tryz.ntmps45
 go_wp2
 first | go_end0 | ((try simp only [Exit.inBlock, Exit.then]); refine bodyPost_ret (results_none rfl _ _ _) rfl ?_)
 exact ⟨zE, by repeat (first | (with_reducible first | exact HI0.out | apply IsS31.alloc | apply IsS31.drewN | apply IsS31.drew | apply IsS31.set_0 | apply IsS31.set_1 | apply IsS31.set_2 | apply IsS31.set_3 | apply IsS31.set_4 | apply IsS31.set_5 | apply IsS31.set_6) | exact HI0.out), by repeat (first | (with_reducible first | exact HB.out | apply below_alloc | apply pw_below_drewN | apply below_drew1 | refine below_set ?_ (IsS31.ge HI0.out)) | exact HB.out), by repeat (first | (with_reducible first | exact HK.out | apply KeepBut.set_ | apply keep_drewN | apply keep_drew | apply keep_alloc) | exact HK.out)⟩
/-! ### code_parts_5: function 47 -/
def code_parts_5.f (s0_0 : Int) (s0_1 : Int) (s0_2 : Int) (s0_3 : Int) (s0_4 : Int) (s0_5 : ByteArray) (s0_6 : Int) (s0_7 : List Int) : Option (Int × Int × Int × Int × Int × ByteArray × Int) := some (s0_0, 0, s0_2, s0_3, s0_4, s0_5, s0_6)
set_option maxHeartbeats 8000000 in
set_option maxRecDepth 100000 in
theorem code_parts_5.calls (g : Nat) (s0_0 : Int) (s0_1 : Int) (s0_2 : Int) (s0_3 : Int) (s0_4 : Int) (s0_5 : ByteArray) (s0_6 : Int) (s0_7 : List Int) (r1 : Int) (r2 : Int) (r3 : Int) (r4 : Int) (r5 : Int) (r6 : ByteArray) (r7 : Int) (w0 w : World) (hI : IsS31 w0 w g s0_0 s0_1 s0_2 s0_3 s0_4 s0_5 s0_6 s0_7) (hB : Below w0.heap.size w0 w) (h : code_parts_5.f s0_0 s0_1 s0_2 s0_3 s0_4 s0_5 s0_6 s0_7 = some (r1, r2, r3, r4, r5, r6, r7)) :
  Calls Tryz.prog 47 #[.pointer (some ⟨g, 0, none⟩)] w fun e w' => e = .returned (.tuple #[]) ∧ IsS31 w0 w' g r1 r2 r3 r4 r5 r6 r7 s0_7 ∧ Below w0.heap.size w0 w' ∧ KeepBut w w' g none := by
 have HI0 := Aside0.mk hI
 have HK := Aside0.mk (KeepBut.refl w g none)
 have HL := Aside0.mk hB.size
 clear hI
 have HW0 := Aside0.mk hB.size
 have HB := Aside0.mk hB
 clear hB
 have H : (some (s0_0, 0, s0_2, s0_3, s0_4, s0_5, s0_6)) = some (r1, r2, r3, r4, r5, r6, r7) := h
 clear h
 simp only [Option.some.injEq, Prod.mk.injEq] at H
 obtain ⟨rfl, rfl, rfl, rfl, rfl, rfl, rfl⟩ := H
 obtain ⟨ASz2_7, cSz2_7, HGz2, hgz2, HSz2_7⟩ := HI0.out
 have hcz2_0 := cellS31_0 HGz2
 have hcz2_1 := cellS31_1 HGz2
 have hcz2_2 := cellS31_2 HGz2
 have hcz2_3 := cellS31_3 HGz2
 have hcz2_4 := cellS31_4 HGz2
 have hcz2_5 := cellS31_5 HGz2
 have hcz2_6 := cellS31_6 HGz2
 have hcz2_7 := cellS31_7 HGz2
 have hfz2_0 := blk_frozen HGz2 0
 have hfz2_1 := blk_frozen HGz2 1
 have hfz2_2 := blk_frozen HGz2 2
 have hfz2_3 := blk_frozen HGz2 3
 have hfz2_4 := blk_frozen HGz2 4
 have hfz2_5 := blk_frozen HGz2 5
 have hfz2_6 := blk_frozen HGz2 6
 clear HGz2 hgz2
 go_enter Tryz.func47, Tryz.ntmps47
 go_wp2
 first | go_end0 | ((try simp only [Exit.inBlock, Exit.then]); refine bodyPost_ret (results_none rfl _ _ _) rfl ?_)
 exact ⟨zE, by repeat (first | (with_reducible first | exact HI0.out | apply IsS31.alloc | apply IsS31.drewN | apply IsS31.drew | apply IsS31.set_0 | apply IsS31.set_1 | apply IsS31.set_2 | apply IsS31.set_3 | apply IsS31.set_4 | apply IsS31.set_5 | apply IsS31.set_6) | exact HI0.out), by repeat (first | (with_reducible first | exact HB.out | apply below_alloc | apply pw_below_drewN | apply below_drew1 | refine below_set ?_ (IsS31.ge HI0.out)) | exact HB.out), by repeat (first | (with_reducible first | exact HK.out | apply KeepBut.set_ | apply keep_drewN | apply keep_drew | apply keep_alloc) | exact HK.out)⟩
end Go.Proofs.YtjlhhjfmekjbhaaGreatDoor.Pq

namespace Go.Proofs.YtjlhhjfmekjbhaaGreatDoor.Pq
open Go.RowKit Go.Proofs.YtjlhhjfmekjbhaaGreatDoor.Vb Go.Proofs.YtjlhhjfmekjbhaaGreatDoorW.PrintWords Go.Proofs.YtjlhhjfmekjbhaaGreatDoorW.PrintLast Go.Proofs.YtjlhhjfmekjbhaaGreatDoorW.PrintMore
set_option linter.unusedVariables false
set_option linter.unusedSimpArgs false
/-! ### code_parts_6: function 49 -/
def code_parts_6.f (a0_0 : Int) (a0_1 : Int) (a0_2 : Int) (a0_3 : Int) (a0_4 : Int) (a0_5 : ByteArray) (a0_6 : Int) (l0_7 : List Int) (a1_0 : Int) (l1_1 : List (S31)) (a1_2 : Int) : Option (Bool) := if a0_2 = (-1) then (some true) else ((code_isReg.f a0_2 a1_0 l1_1 a1_2).bind fun t209 => (some t209))
set_option maxHeartbeats 8000000 in
set_option maxRecDepth 100000 in
theorem code_parts_6.calls (a0_0 : Int) (a0_1 : Int) (a0_2 : Int) (a0_3 : Int) (a0_4 : Int) (a0_5 : ByteArray) (a0_6 : Int) (A0_7 : Option Addr) (c0_7 : Nat) (l0_7 : List Int) (a1_0 : Int) (A1_1 : Option Addr) (c1_1 : Nat) (l1_1 : List (S31)) (a1_2 : Int) (r : Bool) (w : World) (hr0_7 : Kd.C (Kd.int .i64) w A0_7 l0_7.length l0_7) (hc0_7 : l0_7.length ≤ c0_7) (hr1_1 : Kd.C k31 w A1_1 l1_1.length l1_1) (hc1_1 : l1_1.length ≤ c1_1) (h : code_parts_6.f a0_0 a0_1 a0_2 a0_3 a0_4 a0_5 a0_6 l0_7 a1_0 l1_1 a1_2 = some r) :
  Calls Tryz.prog 49 #[.agg #[.int .i64 a0_0, .int .i64 a0_1, .int .i64 a0_2, .int .i64 a0_3, .int .i64 a0_4, .string a0_5, .int .i64 a0_6, .slice A0_7 l0_7.length c0_7], .agg #[.int .i64 a1_0, .slice A1_1 l1_1.length c1_1, .int .i64 a1_2]] w fun e w' => e = .returned (.bool r) ∧ Below w.heap.size w w' := by
 have hu31 := Tryz.underlying31
 have hu49 := Tryz.underlying49
 have HR0_7 := Aside0.mk hr0_7
 have HC0_7 := Aside0.mk hc0_7
 clear hr0_7 hc0_7
 have HR1_1 := Aside0.mk hr1_1
 have HC1_1 := Aside0.mk hc1_1
 clear hr1_1 hc1_1
 have HB := Aside0.mk (Below.refl w.heap.size w)
 have H : (if a0_2 = (-1) then (some true) else ((code_isReg.f a0_2 a1_0 l1_1 a1_2).bind fun t209 => (some t209))) = some r := h
 clear h
 by_cases c3 : a0_2 = (-1)
 ·rw [if_pos c3] at H
  have c3b0 : (a0_2 == (-1)) = true := beq_iff_eq.mpr c3
  have c3b1 : (a0_2 != (-1)) = false := bne_eq_false_iff_eq.mpr c3
  clear c3
  obtain rfl := Option.some.inj H
  go_enter Tryz.func49, Tryz.ntmps49
  go_wp2_with (first | ((with_reducible refine gate_dst (N := 2) rfl ?_); refine zX (N := 2) (cs := #[.int .i64 a0_0, .int .i64 a0_1, .int .i64 a0_2, .int .i64 a0_3, .int .i64 a0_4, .string a0_5, .int .i64 a0_6, .slice A0_7 l0_7.length c0_7]) (t := 31) (h := ?_); intro gb207 hg w4 hbox hb; have BK207 := Aside0.mk hbox; have GW207 := Aside0.mk ((zS : w.heap.size ≤ gb207)); have GE207 := Aside0.mk ((zS : w.heap.size ≤ gb207)); replace HB := Aside0.mk (below_step zB hb); clear hb hbox hg) | ((with_reducible refine gate_dst (N := 3) rfl ?_); refine zX (N := 3) (cs := #[.int .i64 a1_0, .slice A1_1 l1_1.length c1_1, .int .i64 a1_2]) (t := 49) (h := ?_); intro gb208 hg w5 hbox hb; have BK208 := Aside0.mk hbox; have GW208 := Aside0.mk ((zT : w.heap.size ≤ gb208)); have GE208 := Aside0.mk ((zT : w.heap.size ≤ gb208)); have NB207_208 := Aside0.mk ((zL : gb207 ≠ gb208)); have NB208_207 := Aside0.mk ((zM : gb208 ≠ gb207)); replace BK207 := Aside0.mk (blk_below (g := gb207) zK hb); replace HB := Aside0.mk (below_step zG hb); clear hb hbox hg; have hnb6 := NB207_208.out; have hnc6 := NB208_207.out; obtain ⟨hcz7_0, hcz7_1, hcz7_2, hcz7_3, hcz7_4, hcz7_5, hcz7_6, hcz7_7, hfz7_0, hfz7_1, hfz7_2, hfz7_3, hfz7_4, hfz7_5, hfz7_6, hfz7_7⟩ := zd8 BK207.out (.int .i64 a0_0) (.int .i64 a0_1) (.int .i64 a0_2) (.int .i64 a0_3) (.int .i64 a0_4) (.string a0_5) (.int .i64 a0_6) (.slice A0_7 l0_7.length c0_7)))
  go_ret
  exact ⟨zE, zG⟩
 ·rw [if_neg c3] at H
  have c3b0 : (a0_2 == (-1)) = false := beq_eq_false_iff_ne.mpr c3
  have c3b1 : (a0_2 != (-1)) = true := bne_iff_ne.mpr c3
  obtain ⟨t209, A8, H⟩ := zO H
  obtain rfl := Option.some.inj H
  go_enter Tryz.func49, Tryz.ntmps49
  go_wp2_with (first | ((with_reducible refine gate_dst (N := 2) rfl ?_); refine zX (N := 2) (cs := #[.int .i64 a0_0, .int .i64 a0_1, .int .i64 a0_2, .int .i64 a0_3, .int .i64 a0_4, .string a0_5, .int .i64 a0_6, .slice A0_7 l0_7.length c0_7]) (t := 31) (h := ?_); intro gb207 hg w9 hbox hb; have BK207 := Aside0.mk hbox; have GW207 := Aside0.mk ((zS : w.heap.size ≤ gb207)); have GE207 := Aside0.mk ((zS : w.heap.size ≤ gb207)); replace HB := Aside0.mk (below_step zB hb); clear hb hbox hg) | ((with_reducible refine gate_dst (N := 3) rfl ?_); refine zX (N := 3) (cs := #[.int .i64 a1_0, .slice A1_1 l1_1.length c1_1, .int .i64 a1_2]) (t := 49) (h := ?_); intro gb208 hg w10 hbox hb; have BK208 := Aside0.mk hbox; have GW208 := Aside0.mk ((zT : w.heap.size ≤ gb208)); have GE208 := Aside0.mk ((zT : w.heap.size ≤ gb208)); have NB207_208 := Aside0.mk ((zL : gb207 ≠ gb208)); have NB208_207 := Aside0.mk ((zM : gb208 ≠ gb207)); replace BK207 := Aside0.mk (blk_below (g := gb207) zK hb); replace HB := Aside0.mk (below_step zG hb); clear hb hbox hg; have hnb11 := NB207_208.out; have hnc11 := NB208_207.out; obtain ⟨hcz12_0, hcz12_1, hcz12_2, hcz12_3, hcz12_4, hcz12_5, hcz12_6, hcz12_7, hfz12_0, hfz12_1, hfz12_2, hfz12_3, hfz12_4, hfz12_5, hfz12_6, hfz12_7⟩ := zd8 BK207.out (.int .i64 a0_0) (.int .i64 a0_1) (.int .i64 a0_2) (.int .i64 a0_3) (.int .i64 a0_4) (.string a0_5) (.int .i64 a0_6) (.slice A0_7 l0_7.length c0_7); obtain ⟨hcz13_0, hcz13_1, hcz13_2, hfz13_0, hfz13_1, hfz13_2⟩ := zd3 BK208.out (.int .i64 a1_0) (.slice A1_1 l1_1.length c1_1) (.int .i64 a1_2)) | (go_at_call 50; (with_reducible refine (code_isReg.calls a0_2 a1_0 _ _ l1_1 a1_2 t209 _ ?side1 ?side2 A8.out).mono ?_); (case side1 => repeat (first | exact (Kd.C_below HR1_1.out HB.out) | (with_reducible refine Kd.C_alloc ?_ _) | (with_reducible refine Kd.C_drewN ?_ _) | (with_reducible refine Kd.C_drew ?_))); (case side2 => exact HC1_1.out); rintro e w14 ⟨rfl, hb⟩; replace BK207 := Aside0.mk (blk_below (g := gb207) zK hb); replace BK208 := Aside0.mk (blk_below (g := gb208) zK hb); replace HB := Aside0.mk (below_step zG hb); (try clear hb)))
  go_ret
  exact ⟨zE, zG⟩
/-! ### code_parts_7: function 51 -/
def code_parts_7.f (a0_0 : Int) (a0_1 : Int) (a0_2 : Int) (a0_3 : Int) (a0_4 : Int) (a0_5 : ByteArray) (a0_6 : Int) (l0_7 : List Int) (a1_0 : Int) (l1_1 : List (S31)) (a1_2 : Int) : Option (Bool) := if a0_2 = 5 then (some false) else ((value_Right.f a0_2 a0_6 a0_5).bind fun t212 => (some t212))
set_option maxHeartbeats 8000000 in
set_option maxRecDepth 100000 in
theorem code_parts_7.calls (a0_0 : Int) (a0_1 : Int) (a0_2 : Int) (a0_3 : Int) (a0_4 : Int) (a0_5 : ByteArray) (a0_6 : Int) (A0_7 : Option Addr) (c0_7 : Nat) (l0_7 : List Int) (a1_0 : Int) (A1_1 : Option Addr) (c1_1 : Nat) (l1_1 : List (S31)) (a1_2 : Int) (r : Bool) (w : World) (hr0_7 : Kd.C (Kd.int .i64) w A0_7 l0_7.length l0_7) (hc0_7 : l0_7.length ≤ c0_7) (hr1_1 : Kd.C k31 w A1_1 l1_1.length l1_1) (hc1_1 : l1_1.length ≤ c1_1) (h : code_parts_7.f a0_0 a0_1 a0_2 a0_3 a0_4 a0_5 a0_6 l0_7 a1_0 l1_1 a1_2 = some r) :
  Calls Tryz.prog 51 #[.agg #[.int .i64 a0_0, .int .i64 a0_1, .int .i64 a0_2, .int .i64 a0_3, .int .i64 a0_4, .string a0_5, .int .i64 a0_6, .slice A0_7 l0_7.length c0_7], .agg #[.int .i64 a1_0, .slice A1_1 l1_1.length c1_1, .int .i64 a1_2]] w fun e w' => e = .returned (.bool r) ∧ Below w.heap.size w w' := by
 have hu31 := Tryz.underlying31
 have hu49 := Tryz.underlying49
 have hu83 := Tryz.underlying83
 have HR0_7 := Aside0.mk hr0_7
 have HC0_7 := Aside0.mk hc0_7
 clear hr0_7 hc0_7
 have HR1_1 := Aside0.mk hr1_1
 have HC1_1 := Aside0.mk hc1_1
 clear hr1_1 hc1_1
 have HB := Aside0.mk (Below.refl w.heap.size w)
 have H : (if a0_2 = 5 then (some false) else ((value_Right.f a0_2 a0_6 a0_5).bind fun t212 => (some t212))) = some r := h
 clear h
 by_cases c3 : a0_2 = 5
 ·rw [if_pos c3] at H
  have c3b0 : (a0_2 == 5) = true := beq_iff_eq.mpr c3
  have c3b1 : (a0_2 != 5) = false := bne_eq_false_iff_eq.mpr c3
  clear c3
  obtain rfl := Option.some.inj H
  go_enter Tryz.func51, Tryz.ntmps51
  go_wp2_with (first | ((with_reducible refine gate_dst (N := 2) rfl ?_); refine zX (N := 2) (cs := #[.int .i64 a0_0, .int .i64 a0_1, .int .i64 a0_2, .int .i64 a0_3, .int .i64 a0_4, .string a0_5, .int .i64 a0_6, .slice A0_7 l0_7.length c0_7]) (t := 31) (h := ?_); intro gb210 hg w4 hbox hb; have BK210 := Aside0.mk hbox; have GW210 := Aside0.mk ((zS : w.heap.size ≤ gb210)); have GE210 := Aside0.mk ((zS : w.heap.size ≤ gb210)); replace HB := Aside0.mk (below_step zB hb); clear hb hbox hg) | ((with_reducible refine gate_dst (N := 3) rfl ?_); refine zX (N := 3) (cs := #[.int .i64 a1_0, .slice A1_1 l1_1.length c1_1, .int .i64 a1_2]) (t := 49) (h := ?_); intro gb211 hg w5 hbox hb; have BK211 := Aside0.mk hbox; have GW211 := Aside0.mk ((zT : w.heap.size ≤ gb211)); have GE211 := Aside0.mk ((zT : w.heap.size ≤ gb211)); have NB210_211 := Aside0.mk ((zL : gb210 ≠ gb211)); have NB211_210 := Aside0.mk ((zM : gb211 ≠ gb210)); replace BK210 := Aside0.mk (blk_below (g := gb210) zK hb); replace HB := Aside0.mk (below_step zG hb); clear hb hbox hg; have hnb6 := NB210_211.out; have hnc6 := NB211_210.out; obtain ⟨hcz7_0, hcz7_1, hcz7_2, hcz7_3, hcz7_4, hcz7_5, hcz7_6, hcz7_7, hfz7_0, hfz7_1, hfz7_2, hfz7_3, hfz7_4, hfz7_5, hfz7_6, hfz7_7⟩ := zd8 BK210.out (.int .i64 a0_0) (.int .i64 a0_1) (.int .i64 a0_2) (.int .i64 a0_3) (.int .i64 a0_4) (.string a0_5) (.int .i64 a0_6) (.slice A0_7 l0_7.length c0_7)))
  go_ret
  exact ⟨zE, zG⟩
 ·rw [if_neg c3] at H
  have c3b0 : (a0_2 == 5) = false := beq_eq_false_iff_ne.mpr c3
  have c3b1 : (a0_2 != 5) = true := bne_iff_ne.mpr c3
  obtain ⟨t212, A8, H⟩ := zO H
  obtain rfl := Option.some.inj H
  go_enter Tryz.func51, Tryz.ntmps51
  go_wp2_with (first | ((with_reducible refine gate_dst (N := 2) rfl ?_); refine zX (N := 2) (cs := #[.int .i64 a0_0, .int .i64 a0_1, .int .i64 a0_2, .int .i64 a0_3, .int .i64 a0_4, .string a0_5, .int .i64 a0_6, .slice A0_7 l0_7.length c0_7]) (t := 31) (h := ?_); intro gb210 hg w9 hbox hb; have BK210 := Aside0.mk hbox; have GW210 := Aside0.mk ((zS : w.heap.size ≤ gb210)); have GE210 := Aside0.mk ((zS : w.heap.size ≤ gb210)); replace HB := Aside0.mk (below_step zB hb); clear hb hbox hg) | ((with_reducible refine gate_dst (N := 3) rfl ?_); refine zX (N := 3) (cs := #[.int .i64 a1_0, .slice A1_1 l1_1.length c1_1, .int .i64 a1_2]) (t := 49) (h := ?_); intro gb211 hg w10 hbox hb; have BK211 := Aside0.mk hbox; have GW211 := Aside0.mk ((zT : w.heap.size ≤ gb211)); have GE211 := Aside0.mk ((zT : w.heap.size ≤ gb211)); have NB210_211 := Aside0.mk ((zL : gb210 ≠ gb211)); have NB211_210 := Aside0.mk ((zM : gb211 ≠ gb210)); replace BK210 := Aside0.mk (blk_below (g := gb210) zK hb); replace HB := Aside0.mk (below_step zG hb); clear hb hbox hg; have hnb11 := NB210_211.out; have hnc11 := NB211_210.out; obtain ⟨hcz12_0, hcz12_1, hcz12_2, hcz12_3, hcz12_4, hcz12_5, hcz12_6, hcz12_7, hfz12_0, hfz12_1, hfz12_2, hfz12_3, hfz12_4, hfz12_5, hfz12_6, hfz12_7⟩ := zd8 BK210.out (.int .i64 a0_0) (.int .i64 a0_1) (.int .i64 a0_2) (.int .i64 a0_3) (.int .i64 a0_4) (.string a0_5) (.int .i64 a0_6) (.slice A0_7 l0_7.length c0_7)) | (go_at_call 52; (with_reducible refine (value_Right.calls a0_2 a0_6 a0_5 t212 _ A8.out).mono ?_); rintro e w13 ⟨rfl, hb⟩; replace BK210 := Aside0.mk (blk_below (g := gb210) zK hb); replace BK211 := Aside0.mk (blk_below (g := gb211) zK hb); replace HB := Aside0.mk (below_step zG hb); (try clear hb)))
  go_ret
  exact ⟨zE, zG⟩
end Go.Proofs.YtjlhhjfmekjbhaaGreatDoor.Pq

namespace Go.Proofs.YtjlhhjfmekjbhaaGreatDoor.Pq
open Go.RowKit Go.Proofs.YtjlhhjfmekjbhaaGreatDoorW.PrintWords Go.Proofs.YtjlhhjfmekjbhaaGreatDoorW.PrintLast Go.Proofs.YtjlhhjfmekjbhaaGreatDoorW.PrintMore
set_option linter.unusedVariables false
set_option linter.unusedSimpArgs false
/-! ### code_parts_8: function 53 -/
def code_parts_8.f (s0_0 : Int) (s0_1 : Int) (s0_2 : Int) (s0_3 : Int) (s0_4 : Int) (s0_5 : ByteArray) (s0_6 : Int) (s0_7 : List Int) : Option (Int × Int × Int × Int × Int × ByteArray × Int) := some (s0_0, s0_1, 0, s0_3, s0_4, (⟨#[]⟩ : ByteArray), 0)
set_option maxHeartbeats 8000000 in
set_option maxRecDepth 100000 in
theorem code_parts_8.calls (g : Nat) (s0_0 : Int) (s0_1 : Int) (s0_2 : Int) (s0_3 : Int) (s0_4 : Int) (s0_5 : ByteArray) (s0_6 : Int) (s0_7 : List Int) (r1 : Int) (r2 : Int) (r3 : Int) (r4 : Int) (r5 : Int) (r6 : ByteArray) (r7 : Int) (w0 w : World) (hI : IsS31 w0 w g s0_0 s0_1 s0_2 s0_3 s0_4 s0_5 s0_6 s0_7) (hB : Below w0.heap.size w0 w) (h : code_parts_8.f s0_0 s0_1 s0_2 s0_3 s0_4 s0_5 s0_6 s0_7 = some (r1, r2, r3, r4, r5, r6, r7)) :
  Calls Tryz.prog 53 #[.pointer (some ⟨g, 0, none⟩)] w fun e w' => e = .returned (.tuple #[]) ∧ IsS31 w0 w' g r1 r2 r3 r4 r5 r6 r7 s0_7 ∧ Below w0.heap.size w0 w' ∧ KeepBut w w' g none := by
 have HI0 := Aside0.mk hI
 have HK := Aside0.mk (KeepBut.refl w g none)
 have HL := Aside0.mk hB.size
 clear hI
 have HW0 := Aside0.mk hB.size
 have HB := Aside0.mk hB
 clear hB
 have H : (some (s0_0, s0_1, 0, s0_3, s0_4, (⟨#[]⟩ : ByteArray), 0)) = some (r1, r2, r3, r4, r5, r6, r7) := h
 clear h
 simp only [Option.some.injEq, Prod.mk.injEq] at H
 obtain ⟨rfl, rfl, rfl, rfl, rfl, rfl, rfl⟩ := H
 obtain ⟨ASz2_7, cSz2_7, HGz2, hgz2, HSz2_7⟩ := HI0.out
 have hcz2_0 := cellS31_0 HGz2
 have hcz2_1 := cellS31_1 HGz2
 have hcz2_2 := cellS31_2 HGz2
 have hcz2_3 := cellS31_3 HGz2
 have hcz2_4 := cellS31_4 HGz2
 have hcz2_5 := cellS31_5 HGz2
 have hcz2_6 := cellS31_6 HGz2
 have hcz2_7 := cellS31_7 HGz2
 have hfz2_0 := blk_frozen HGz2 0
 have hfz2_1 := blk_frozen HGz2 1
 have hfz2_2 := blk_frozen HGz2 2
 have hfz2_3 := blk_frozen HGz2 3
 have hfz2_4 := blk_frozen HGz2 4
 have hfz2_5 := blk_frozen HGz2 5
 have hfz2_6 := blk_frozen HGz2 6
 clear HGz2 hgz2
 go_enter Tryz.func53, Tryz.ntmps53
 go_wp2
 first | go_end0 | ((try simp only [Exit.inBlock, Exit.then]); refine bodyPost_ret (results_none rfl _ _ _) rfl ?_)
 exact ⟨zE, by repeat (first | (with_reducible first | exact HI0.out | apply IsS31.alloc | apply IsS31.drewN | apply IsS31.drew | apply IsS31.set_0 | apply IsS31.set_1 | apply IsS31.set_2 | apply IsS31.set_3 | apply IsS31.set_4 | apply IsS31.set_5 | apply IsS31.set_6) | exact HI0.out), by repeat (first | (with_reducible first | exact HB.out | apply below_alloc | apply pw_below_drewN | apply below_drew1 | refine below_set ?_ (IsS31.ge HI0.out)) | exact HB.out), by repeat (first | (with_reducible first | exact HK.out | apply KeepBut.set_ | apply keep_drewN | apply keep_drew | apply keep_alloc) | exact HK.out)⟩
/-! ### code_parts_9: function 55 -/
def code_parts_9.f (a0_0 : Int) (a0_1 : Int) (a0_2 : Int) (a0_3 : Int) (a0_4 : Int) (a0_5 : ByteArray) (a0_6 : Int) (l0_7 : List Int) (a1_0 : Int) (l1_1 : List (S31)) (a1_2 : Int) : Option (Bool) := if a0_3 = (-1) then (some true) else ((code_isReg.f a0_3 a1_0 l1_1 a1_2).bind fun t215 => (some t215))
set_option maxHeartbeats 8000000 in
set_option maxRecDepth 100000 in
theorem code_parts_9.calls (a0_0 : Int) (a0_1 : Int) (a0_2 : Int) (a0_3 : Int) (a0_4 : Int) (a0_5 : ByteArray) (a0_6 : Int) (A0_7 : Option Addr) (c0_7 : Nat) (l0_7 : List Int) (a1_0 : Int) (A1_1 : Option Addr) (c1_1 : Nat) (l1_1 : List (S31)) (a1_2 : Int) (r : Bool) (w : World) (hr0_7 : Kd.C (Kd.int .i64) w A0_7 l0_7.length l0_7) (hc0_7 : l0_7.length ≤ c0_7) (hr1_1 : Kd.C k31 w A1_1 l1_1.length l1_1) (hc1_1 : l1_1.length ≤ c1_1) (h : code_parts_9.f a0_0 a0_1 a0_2 a0_3 a0_4 a0_5 a0_6 l0_7 a1_0 l1_1 a1_2 = some r) :
  Calls Tryz.prog 55 #[.agg #[.int .i64 a0_0, .int .i64 a0_1, .int .i64 a0_2, .int .i64 a0_3, .int .i64 a0_4, .string a0_5, .int .i64 a0_6, .slice A0_7 l0_7.length c0_7], .agg #[.int .i64 a1_0, .slice A1_1 l1_1.length c1_1, .int .i64 a1_2]] w fun e w' => e = .returned (.bool r) ∧ Below w.heap.size w w' := by
 have hu31 := Tryz.underlying31
 have hu49 := Tryz.underlying49
 have HR0_7 := Aside0.mk hr0_7
 have HC0_7 := Aside0.mk hc0_7
 clear hr0_7 hc0_7
 have HR1_1 := Aside0.mk hr1_1
 have HC1_1 := Aside0.mk hc1_1
 clear hr1_1 hc1_1
 have HB := Aside0.mk (Below.refl w.heap.size w)
 have H : (if a0_3 = (-1) then (some true) else ((code_isReg.f a0_3 a1_0 l1_1 a1_2).bind fun t215 => (some t215))) = some r := h
 clear h
 by_cases c3 : a0_3 = (-1)
 ·rw [if_pos c3] at H
  have c3b0 : (a0_3 == (-1)) = true := beq_iff_eq.mpr c3
  have c3b1 : (a0_3 != (-1)) = false := bne_eq_false_iff_eq.mpr c3
  clear c3
  obtain rfl := Option.some.inj H
  go_enter Tryz.func55, Tryz.ntmps55
  go_wp2_with (first | ((with_reducible refine gate_dst (N := 2) rfl ?_); refine zX (N := 2) (cs := #[.int .i64 a0_0, .int .i64 a0_1, .int .i64 a0_2, .int .i64 a0_3, .int .i64 a0_4, .string a0_5, .int .i64 a0_6, .slice A0_7 l0_7.length c0_7]) (t := 31) (h := ?_); intro gb213 hg w4 hbox hb; have BK213 := Aside0.mk hbox; have GW213 := Aside0.mk ((zS : w.heap.size ≤ gb213)); have GE213 := Aside0.mk ((zS : w.heap.size ≤ gb213)); replace HB := Aside0.mk (below_step zB hb); clear hb hbox hg) | ((with_reducible refine gate_dst (N := 3) rfl ?_); refine zX (N := 3) (cs := #[.int .i64 a1_0, .slice A1_1 l1_1.length c1_1, .int .i64 a1_2]) (t := 49) (h := ?_); intro gb214 hg w5 hbox hb; have BK214 := Aside0.mk hbox; have GW214 := Aside0.mk ((zT : w.heap.size ≤ gb214)); have GE214 := Aside0.mk ((zT : w.heap.size ≤ gb214)); have NB213_214 := Aside0.mk ((zL : gb213 ≠ gb214)); have NB214_213 := Aside0.mk ((zM : gb214 ≠ gb213)); replace BK213 := Aside0.mk (blk_below (g := gb213) zK hb); replace HB := Aside0.mk (below_step zG hb); clear hb hbox hg; have hnb6 := NB213_214.out; have hnc6 := NB214_213.out; obtain ⟨hcz7_0, hcz7_1, hcz7_2, hcz7_3, hcz7_4, hcz7_5, hcz7_6, hcz7_7, hfz7_0, hfz7_1, hfz7_2, hfz7_3, hfz7_4, hfz7_5, hfz7_6, hfz7_7⟩ := zd8 BK213.out (.int .i64 a0_0) (.int .i64 a0_1) (.int .i64 a0_2) (.int .i64 a0_3) (.int .i64 a0_4) (.string a0_5) (.int .i64 a0_6) (.slice A0_7 l0_7.length c0_7)))
  go_ret
  exact ⟨zE, zG⟩
 ·rw [if_neg c3] at H
  have c3b0 : (a0_3 == (-1)) = false := beq_eq_false_iff_ne.mpr c3
  have c3b1 : (a0_3 != (-1)) = true := bne_iff_ne.mpr c3
  obtain ⟨t215, A8, H⟩ := zO H
  obtain rfl := Option.some.inj H
  go_enter Tryz.func55, Tryz.ntmps55
  go_wp2_with (first | ((with_reducible refine gate_dst (N := 2) rfl ?_); refine zX (N := 2) (cs := #[.int .i64 a0_0, .int .i64 a0_1, .int .i64 a0_2, .int .i64 a0_3, .int .i64 a0_4, .string a0_5, .int .i64 a0_6, .slice A0_7 l0_7.length c0_7]) (t := 31) (h := ?_); intro gb213 hg w9 hbox hb; have BK213 := Aside0.mk hbox; have GW213 := Aside0.mk ((zS : w.heap.size ≤ gb213)); have GE213 := Aside0.mk ((zS : w.heap.size ≤ gb213)); replace HB := Aside0.mk (below_step zB hb); clear hb hbox hg) | ((with_reducible refine gate_dst (N := 3) rfl ?_); refine zX (N := 3) (cs := #[.int .i64 a1_0, .slice A1_1 l1_1.length c1_1, .int .i64 a1_2]) (t := 49) (h := ?_); intro gb214 hg w10 hbox hb; have BK214 := Aside0.mk hbox; have GW214 := Aside0.mk ((zT : w.heap.size ≤ gb214)); have GE214 := Aside0.mk ((zT : w.heap.size ≤ gb214)); have NB213_214 := Aside0.mk ((zL : gb213 ≠ gb214)); have NB214_213 := Aside0.mk ((zM : gb214 ≠ gb213)); replace BK213 := Aside0.mk (blk_below (g := gb213) zK hb); replace HB := Aside0.mk (below_step zG hb); clear hb hbox hg; have hnb11 := NB213_214.out; have hnc11 := NB214_213.out; obtain ⟨hcz12_0, hcz12_1, hcz12_2, hcz12_3, hcz12_4, hcz12_5, hcz12_6, hcz12_7, hfz12_0, hfz12_1, hfz12_2, hfz12_3, hfz12_4, hfz12_5, hfz12_6, hfz12_7⟩ := zd8 BK213.out (.int .i64 a0_0) (.int .i64 a0_1) (.int .i64 a0_2) (.int .i64 a0_3) (.int .i64 a0_4) (.string a0_5) (.int .i64 a0_6) (.slice A0_7 l0_7.length c0_7); obtain ⟨hcz13_0, hcz13_1, hcz13_2, hfz13_0, hfz13_1, hfz13_2⟩ := zd3 BK214.out (.int .i64 a1_0) (.slice A1_1 l1_1.length c1_1) (.int .i64 a1_2)) | (go_at_call 50; (with_reducible refine (code_isReg.calls a0_3 a1_0 _ _ l1_1 a1_2 t215 _ ?side1 ?side2 A8.out).mono ?_); (case side1 => repeat (first | exact (Kd.C_below HR1_1.out HB.out) | (with_reducible refine Kd.C_alloc ?_ _) | (with_reducible refine Kd.C_drewN ?_ _) | (with_reducible refine Kd.C_drew ?_))); (case side2 => exact HC1_1.out); rintro e w14 ⟨rfl, hb⟩; replace BK213 := Aside0.mk (blk_below (g := gb213) zK hb); replace BK214 := Aside0.mk (blk_below (g := gb214) zK hb); replace HB := Aside0.mk (below_step zG hb); (try clear hb)))
  go_ret
  exact ⟨zE, zG⟩
end Go.Proofs.YtjlhhjfmekjbhaaGreatDoor.Pq

namespace Go.Proofs.YtjlhhjfmekjbhaaGreatDoor.Pq
open Go.RowKit Go.Proofs.YtjlhhjfmekjbhaaGreatDoor.Vb Go.Proofs.YtjlhhjfmekjbhaaGreatDoorW.PrintWords Go.Proofs.YtjlhhjfmekjbhaaGreatDoorW.PrintLast Go.Proofs.YtjlhhjfmekjbhaaGreatDoorW.PrintMore
set_option linter.unusedVariables false
set_option linter.unusedSimpArgs false
/-! ### code_parts_10: function 57 -/
def code_parts_10.f (s0_0 : Int) (s0_1 : Int) (s0_2 : Int) (s0_3 : Int) (s0_4 : Int) (s0_5 : ByteArray) (s0_6 : Int) (s0_7 : List Int) : Option (Int × Int × Int × Int × Int × ByteArray × Int) := some (s0_0, s0_1, s0_2, s0_3, 0, s0_5, s0_6)
set_option maxHeartbeats 8000000 in
set_option maxRecDepth 100000 in
theorem code_parts_10.calls (g : Nat) (s0_0 : Int) (s0_1 : Int) (s0_2 : Int) (s0_3 : Int) (s0_4 : Int) (s0_5 : ByteArray) (s0_6 : Int) (s0_7 : List Int) (r1 : Int) (r2 : Int) (r3 : Int) (r4 : Int) (r5 : Int) (r6 : ByteArray) (r7 : Int) (w0 w : World) (hI : IsS31 w0 w g s0_0 s0_1 s0_2 s0_3 s0_4 s0_5 s0_6 s0_7) (hB : Below w0.heap.size w0 w) (h : code_parts_10.f s0_0 s0_1 s0_2 s0_3 s0_4 s0_5 s0_6 s0_7 = some (r1, r2, r3, r4, r5, r6, r7)) :
  Calls Tryz.prog 57 #[.pointer (some ⟨g, 0, none⟩)] w fun e w' => e = .returned (.tuple #[]) ∧ IsS31 w0 w' g r1 r2 r3 r4 r5 r6 r7 s0_7 ∧ Below w0.heap.size w0 w' ∧ KeepBut w w' g none := by
 have HI0 := Aside0.mk hI
 have HK := Aside0.mk (KeepBut.refl w g none)
 have HL := Aside0.mk hB.size
 clear hI
 have HW0 := Aside0.mk hB.size
 have HB := Aside0.mk hB
 clear hB
 have H : (some (s0_0, s0_1, s0_2, s0_3, 0, s0_5, s0_6)) = some (r1, r2, r3, r4, r5, r6, r7) := h
 clear h
 simp only [Option.some.injEq, Prod.mk.injEq] at H
 obtain ⟨rfl, rfl, rfl, rfl, rfl, rfl, rfl⟩ := H
 obtain ⟨ASz2_7, cSz2_7, HGz2, hgz2, HSz2_7⟩ := HI0.out
 have hcz2_0 := cellS31_0 HGz2
 have hcz2_1 := cellS31_1 HGz2
 have hcz2_2 := cellS31_2 HGz2
 have hcz2_3 := cellS31_3 HGz2
 have hcz2_4 := cellS31_4 HGz2
 have hcz2_5 := cellS31_5 HGz2
 have hcz2_6 := cellS31_6 HGz2
 have hcz2_7 := cellS31_7 HGz2
 have hfz2_0 := blk_frozen HGz2 0
 have hfz2_1 := blk_frozen HGz2 1
 have hfz2_2 := blk_frozen HGz2 2
 have hfz2_3 := blk_frozen HGz2 3
 have hfz2_4 := blk_frozen HGz2 4
 have hfz2_5 := blk_frozen HGz2 5
 have hfz2_6 := blk_frozen HGz2 6
 clear HGz2 hgz2
 go_enter Tryz.func57, Tryz.ntmps57
 go_wp2
 first | go_end0 | ((try simp only [Exit.inBlock, Exit.then]); refine bodyPost_ret (results_none rfl _ _ _) rfl ?_)
 exact ⟨zE, by repeat (first | (with_reducible first | exact HI0.out | apply IsS31.alloc | apply IsS31.drewN | apply IsS31.drew | apply IsS31.set_0 | apply IsS31.set_1 | apply IsS31.set_2 | apply IsS31.set_3 | apply IsS31.set_4 | apply IsS31.set_5 | apply IsS31.set_6) | exact HI0.out), by repeat (first | (with_reducible first | exact HB.out | apply below_alloc | apply pw_below_drewN | apply below_drew1 | refine below_set ?_ (IsS31.ge HI0.out)) | exact HB.out), by repeat (first | (with_reducible first | exact HK.out | apply KeepBut.set_ | apply keep_drewN | apply keep_drew | apply keep_alloc) | exact HK.out)⟩
/-! ### code_parts_11: function 58 -/
def code_parts_11.f (a0_0 : Int) (a0_1 : Int) (a0_2 : Int) (a0_3 : Int) (a0_4 : Int) (a0_5 : ByteArray) (a0_6 : Int) (l0_7 : List Int) (a1_0 : Int) (l1_1 : List (S31)) (a1_2 : Int) : Option (Bool) := some true
set_option maxHeartbeats 8000000 in
set_option maxRecDepth 100000 in
theorem code_parts_11.calls (a0_0 : Int) (a0_1 : Int) (a0_2 : Int) (a0_3 : Int) (a0_4 : Int) (a0_5 : ByteArray) (a0_6 : Int) (A0_7 : Option Addr) (c0_7 : Nat) (l0_7 : List Int) (a1_0 : Int) (A1_1 : Option Addr) (c1_1 : Nat) (l1_1 : List (S31)) (a1_2 : Int) (r : Bool) (w : World) (hr0_7 : Kd.C (Kd.int .i64) w A0_7 l0_7.length l0_7) (hc0_7 : l0_7.length ≤ c0_7) (hr1_1 : Kd.C k31 w A1_1 l1_1.length l1_1) (hc1_1 : l1_1.length ≤ c1_1) (h : code_parts_11.f a0_0 a0_1 a0_2 a0_3 a0_4 a0_5 a0_6 l0_7 a1_0 l1_1 a1_2 = some r) :
  Calls Tryz.prog 58 #[.agg #[.int .i64 a0_0, .int .i64 a0_1, .int .i64 a0_2, .int .i64 a0_3, .int .i64 a0_4, .string a0_5, .int .i64 a0_6, .slice A0_7 l0_7.length c0_7], .agg #[.int .i64 a1_0, .slice A1_1 l1_1.length c1_1, .int .i64 a1_2]] w fun e w' => e = .returned (.bool r) ∧ Below w.heap.size w w' := by
 have hu31 := Tryz.underlying31
 have hu49 := Tryz.underlying49
 have HR0_7 := Aside0.mk hr0_7
 have HC0_7 := Aside0.mk hc0_7
 clear hr0_7 hc0_7
 have HR1_1 := Aside0.mk hr1_1
 have HC1_1 := Aside0.mk hc1_1
 clear hr1_1 hc1_1
 have HB := Aside0.mk (Below.refl w.heap.size w)
 have H : (some true) = some r := h
 clear h
 obtain rfl := Option.some.inj H
 go_enter Tryz.func58, Tryz.ntmps58
 go_wp2_with (first | ((with_reducible refine gate_dst (N := 2) rfl ?_); refine zX (N := 2) (cs := #[.int .i64 a0_0, .int .i64 a0_1, .int .i64 a0_2, .int .i64 a0_3, .int .i64 a0_4, .string a0_5, .int .i64 a0_6, .slice A0_7 l0_7.length c0_7]) (t := 31) (h := ?_); intro gb216 hg w3 hbox hb; have BK216 := Aside0.mk hbox; have GW216 := Aside0.mk ((zS : w.heap.size ≤ gb216)); have GE216 := Aside0.mk ((zS : w.heap.size ≤ gb216)); replace HB := Aside0.mk (below_step zB hb); clear hb hbox hg) | ((with_reducible refine gate_dst (N := 3) rfl ?_); refine zX (N := 3) (cs := #[.int .i64 a1_0, .slice A1_1 l1_1.length c1_1, .int .i64 a1_2]) (t := 49) (h := ?_); intro gb217 hg w4 hbox hb; have BK217 := Aside0.mk hbox; have GW217 := Aside0.mk ((zT : w.heap.size ≤ gb217)); have GE217 := Aside0.mk ((zT : w.heap.size ≤ gb217)); have NB216_217 := Aside0.mk ((zL : gb216 ≠ gb217)); have NB217_216 := Aside0.mk ((zM : gb217 ≠ gb216)); replace BK216 := Aside0.mk (blk_below (g := gb216) zK hb); replace HB := Aside0.mk (below_step zG hb); clear hb hbox hg))
 go_ret
 exact ⟨zE, zG⟩
/-! ### code_parts_12: function 59 -/
def code_parts_12.f (a0_0 : Int) (a0_1 : Int) (a0_2 : Int) (a0_3 : Int) (a0_4 : Int) (a0_5 : ByteArray) (a0_6 : Int) (l0_7 : List Int) (a1_0 : Int) (l1_1 : List (S31)) (a1_2 : Int) : Option (Bool) := (value_Two.f a0_5 0 0 (⟨#[]⟩ : ByteArray) 0 0 (⟨#[]⟩ : ByteArray)).bind fun bt220 => (some (bt220.2.2.2 == 0))
set_option maxHeartbeats 8000000 in
set_option maxRecDepth 100000 in
theorem code_parts_12.calls (a0_0 : Int) (a0_1 : Int) (a0_2 : Int) (a0_3 : Int) (a0_4 : Int) (a0_5 : ByteArray) (a0_6 : Int) (A0_7 : Option Addr) (c0_7 : Nat) (l0_7 : List Int) (a1_0 : Int) (A1_1 : Option Addr) (c1_1 : Nat) (l1_1 : List (S31)) (a1_2 : Int) (r : Bool) (w : World) (hL : Laid w) (hr0_7 : Kd.C (Kd.int .i64) w A0_7 l0_7.length l0_7) (hc0_7 : l0_7.length ≤ c0_7) (hr1_1 : Kd.C k31 w A1_1 l1_1.length l1_1) (hc1_1 : l1_1.length ≤ c1_1) (h : code_parts_12.f a0_0 a0_1 a0_2 a0_3 a0_4 a0_5 a0_6 l0_7 a1_0 l1_1 a1_2 = some r) :
  Calls Tryz.prog 59 #[.agg #[.int .i64 a0_0, .int .i64 a0_1, .int .i64 a0_2, .int .i64 a0_3, .int .i64 a0_4, .string a0_5, .int .i64 a0_6, .slice A0_7 l0_7.length c0_7], .agg #[.int .i64 a1_0, .slice A1_1 l1_1.length c1_1, .int .i64 a1_2]] w fun e w' => e = .returned (.bool r) ∧ Below w.heap.size w w' := by
 have HL := Aside0.mk hL
 clear hL
 have hu31 := Tryz.underlying31
 have hu49 := Tryz.underlying49
 have hu83 := Tryz.underlying83
 have HR0_7 := Aside0.mk hr0_7
 have HC0_7 := Aside0.mk hc0_7
 clear hr0_7 hc0_7
 have HR1_1 := Aside0.mk hr1_1
 have HC1_1 := Aside0.mk hc1_1
 clear hr1_1 hc1_1
 have HB := Aside0.mk (Below.refl w.heap.size w)
 have H : ((value_Two.f a0_5 0 0 (⟨#[]⟩ : ByteArray) 0 0 (⟨#[]⟩ : ByteArray)).bind fun bt220 => (some (bt220.2.2.2 == 0))) = some r := h
 clear h
 replace H := Option.bind_eq_some_iff.mp H
 obtain ⟨⟨t220, t221, t222, t223⟩, A30, H⟩ := H
 replace H : (some (t223 == 0)) = some r := H
 have A3 := Aside0.mk A30
 clear A30
 obtain rfl := Option.some.inj H
 go_enter Tryz.func59, Tryz.ntmps59
 go_wp2_with (first | ((with_reducible refine gate_dst (N := 2) rfl ?_); refine zX (N := 2) (cs := #[.int .i64 a0_0, .int .i64 a0_1, .int .i64 a0_2, .int .i64 a0_3, .int .i64 a0_4, .string a0_5, .int .i64 a0_6, .slice A0_7 l0_7.length c0_7]) (t := 31) (h := ?_); intro gb218 hg w4 hbox hb; have BK218 := Aside0.mk hbox; have GW218 := Aside0.mk ((zS : w.heap.size ≤ gb218)); have GE218 := Aside0.mk ((zS : w.heap.size ≤ gb218)); replace HB := Aside0.mk (below_step zB hb); clear hb hbox hg) | ((with_reducible refine gate_dst (N := 3) rfl ?_); refine zX (N := 3) (cs := #[.int .i64 a1_0, .slice A1_1 l1_1.length c1_1, .int .i64 a1_2]) (t := 49) (h := ?_); intro gb219 hg w5 hbox hb; have BK219 := Aside0.mk hbox; have GW219 := Aside0.mk ((zT : w.heap.size ≤ gb219)); have GE219 := Aside0.mk ((zT : w.heap.size ≤ gb219)); have NB218_219 := Aside0.mk ((zL : gb218 ≠ gb219)); have NB219_218 := Aside0.mk ((zM : gb219 ≠ gb218)); replace BK218 := Aside0.mk (blk_below (g := gb218) zK hb); replace HB := Aside0.mk (below_step zG hb); clear hb hbox hg; have hnb6 := NB218_219.out; have hnc6 := NB219_218.out; obtain ⟨hcz7_0, hcz7_1, hcz7_2, hcz7_3, hcz7_4, hcz7_5, hcz7_6, hcz7_7, hfz7_0, hfz7_1, hfz7_2, hfz7_3, hfz7_4, hfz7_5, hfz7_6, hfz7_7⟩ := zd8 BK218.out (.int .i64 a0_0) (.int .i64 a0_1) (.int .i64 a0_2) (.int .i64 a0_3) (.int .i64 a0_4) (.string a0_5) (.int .i64 a0_6) (.slice A0_7 l0_7.length c0_7)) | ((with_reducible refine gate_callee (f := 60) rfl ?_); refine goesL_ (some 12) rfl rfl Tryz.func60 (by kernel_rfl) rfl #[.string a0_5, .agg #[.int .i64 0, .int .i64 0, .string (⟨#[]⟩ : ByteArray)], .agg #[.int .i64 0, .int .i64 0, .string (⟨#[]⟩ : ByteArray)]] rfl zP ?_; (with_reducible refine (value_Two.calls (hL := ?sideL) a0_5 0 0 (⟨#[]⟩ : ByteArray) 0 0 (⟨#[]⟩ : ByteArray) t220 t221 t222 t223 _ A3.out).mono ?_); (case sideL => exact Laid.below HL.out zG); rintro e w8 ⟨rfl, hb⟩; refine ⟨_, rfl, ?_⟩; replace BK218 := Aside0.mk (blk_below (g := gb218) zK hb); replace BK219 := Aside0.mk (blk_below (g := gb219) zK hb); replace HB := Aside0.mk (below_step zG hb); (try clear hb)) | ((with_reducible refine gate_dst (N := 5) rfl ?_); refine zX (N := 5) (cs := #[.int .i64 0, .int .i64 0, .string (⟨#[]⟩ : ByteArray)]) (t := 83) (h := ?_); intro gb224 hg w9 hbox hb; have BK224 := Aside0.mk hbox; have GW224 := Aside0.mk ((zT : w.heap.size ≤ gb224)); have GE224 := Aside0.mk ((zT : w.heap.size ≤ gb224)); have NB218_224 := Aside0.mk ((zL : gb218 ≠ gb224)); have NB224_218 := Aside0.mk ((zM : gb224 ≠ gb218)); have NB219_224 := Aside0.mk ((zL : gb219 ≠ gb224)); have NB224_219 := Aside0.mk ((zM : gb224 ≠ gb219)); replace BK218 := Aside0.mk (blk_below (g := gb218) zK hb); replace BK219 := Aside0.mk (blk_below (g := gb219) zK hb); replace HB := Aside0.mk (below_step zG hb); clear hb hbox hg; have hnb10 := NB224_218.out; have hnc10 := NB218_224.out; have hnb11 := NB224_219.out; have hnc11 := NB219_224.out; obtain ⟨hcz12_0, hcz12_1, hcz12_2, hfz12_0, hfz12_1, hfz12_2⟩ := zd3 BK224.out (.int .i64 0) (.int .i64 0) (.string (⟨#[]⟩ : ByteArray))))
 go_ret
 exact ⟨zE, zG⟩
end Go.Proofs.YtjlhhjfmekjbhaaGreatDoor.Pq

namespace Go.Proofs.YtjlhhjfmekjbhaaGreatDoor.Pq
open Go.RowKit Go.Proofs.YtjlhhjfmekjbhaaGreatDoorW.PrintWords Go.Proofs.YtjlhhjfmekjbhaaGreatDoorW.PrintLast Go.Proofs.YtjlhhjfmekjbhaaGreatDoorW.PrintMore
set_option linter.unusedVariables false
set_option linter.unusedSimpArgs false
/-! ### code_parts_15: function 67 -/
def code_parts_15.f (a0_0 : Int) (l0_1 : List (S31)) (a0_2 : Int) : Option (Int) := some (l0_1.length : Int)
set_option maxHeartbeats 8000000 in
set_option maxRecDepth 100000 in
theorem code_parts_15.calls (a0_0 : Int) (A0_1 : Option Addr) (c0_1 : Nat) (l0_1 : List (S31)) (a0_2 : Int) (r : Int) (w : World) (hr0_1 : Kd.C k31 w A0_1 l0_1.length l0_1) (hc0_1 : l0_1.length ≤ c0_1) (h : code_parts_15.f a0_0 l0_1 a0_2 = some r) :
  Calls Tryz.prog 67 #[.agg #[.int .i64 a0_0, .slice A0_1 l0_1.length c0_1, .int .i64 a0_2]] w fun e w' => e = .returned (.int .i64 r) ∧ Below w.heap.size w w' := by
 have hu49 := Tryz.underlying49
 have HR0_1 := Aside0.mk hr0_1
 have HC0_1 := Aside0.mk hc0_1
 clear hr0_1 hc0_1
 have HB := Aside0.mk (Below.refl w.heap.size w)
 have H : (some (l0_1.length : Int)) = some r := h
 clear h
 obtain rfl := Option.some.inj H
 go_enter Tryz.func67, Tryz.ntmps67
 go_wp2_with (first | ((with_reducible refine gate_dst (N := 1) rfl ?_); refine zX (N := 1) (cs := #[.int .i64 a0_0, .slice A0_1 l0_1.length c0_1, .int .i64 a0_2]) (t := 49) (h := ?_); intro gb225 hg w2 hbox hb; have BK225 := Aside0.mk hbox; have GW225 := Aside0.mk ((zS : w.heap.size ≤ gb225)); have GE225 := Aside0.mk ((zS : w.heap.size ≤ gb225)); replace HB := Aside0.mk (below_step zB hb); clear hb hbox hg; obtain ⟨hcz3_0, hcz3_1, hcz3_2, hfz3_0, hfz3_1, hfz3_2⟩ := zd3 BK225.out (.int .i64 a0_0) (.slice A0_1 l0_1.length c0_1) (.int .i64 a0_2)))
 go_ret
 exact ⟨zE, zG⟩
/-! ### code_parts_16: function 68 -/
def code_parts_16.f (a0_0 : Int) (l0_1 : List (S31)) (a0_2 : Int) : Option (Int) := some a0_2
set_option maxHeartbeats 8000000 in
set_option maxRecDepth 100000 in
theorem code_parts_16.calls (a0_0 : Int) (A0_1 : Option Addr) (c0_1 : Nat) (l0_1 : List (S31)) (a0_2 : Int) (r : Int) (w : World) (hr0_1 : Kd.C k31 w A0_1 l0_1.length l0_1) (hc0_1 : l0_1.length ≤ c0_1) (h : code_parts_16.f a0_0 l0_1 a0_2 = some r) :
  Calls Tryz.prog 68 #[.agg #[.int .i64 a0_0, .slice A0_1 l0_1.length c0_1, .int .i64 a0_2]] w fun e w' => e = .returned (.int .i64 r) ∧ Below w.heap.size w w' := by
 have hu49 := Tryz.underlying49
 have HR0_1 := Aside0.mk hr0_1
 have HC0_1 := Aside0.mk hc0_1
 clear hr0_1 hc0_1
 have HB := Aside0.mk (Below.refl w.heap.size w)
 have H : (some a0_2) = some r := h
 clear h
 obtain rfl := Option.some.inj H
 go_enter Tryz.func68, Tryz.ntmps68
 go_wp2_with (first | ((with_reducible refine gate_dst (N := 1) rfl ?_); refine zX (N := 1) (cs := #[.int .i64 a0_0, .slice A0_1 l0_1.length c0_1, .int .i64 a0_2]) (t := 49) (h := ?_); intro gb226 hg w2 hbox hb; have BK226 := Aside0.mk hbox; have GW226 := Aside0.mk ((zS : w.heap.size ≤ gb226)); have GE226 := Aside0.mk ((zS : w.heap.size ≤ gb226)); replace HB := Aside0.mk (below_step zB hb); clear hb hbox hg; obtain ⟨hcz3_0, hcz3_1, hcz3_2, hfz3_0, hfz3_1, hfz3_2⟩ := zd3 BK226.out (.int .i64 a0_0) (.slice A0_1 l0_1.length c0_1) (.int .i64 a0_2)))
 go_ret
 exact ⟨zE, zG⟩
/-! ### code_parts_17: function 69 -/
def code_parts_17.f (a0_0 : Int) (a0_1 : Int) (a0_2 : Int) (a0_3 : Int) (a0_4 : Int) (a0_5 : ByteArray) (a0_6 : Int) (l0_7 : List Int) (a1_0 : Int) (l1_1 : List (S31)) (a1_2 : Int) : Option (Bool) := if a0_6 ≥ 0 then (if (wrap64 (Int.tdiv a0_6 1000)) < a1_2 then (some (decide ((Int.tmod a0_6 1000) < 200))) else (some false)) else (some false)
set_option maxHeartbeats 8000000 in
set_option maxRecDepth 100000 in
theorem code_parts_17.calls (a0_0 : Int) (a0_1 : Int) (a0_2 : Int) (a0_3 : Int) (a0_4 : Int) (a0_5 : ByteArray) (a0_6 : Int) (A0_7 : Option Addr) (c0_7 : Nat) (l0_7 : List Int) (a1_0 : Int) (A1_1 : Option Addr) (c1_1 : Nat) (l1_1 : List (S31)) (a1_2 : Int) (r : Bool) (w : World) (hr0_7 : Kd.C (Kd.int .i64) w A0_7 l0_7.length l0_7) (hc0_7 : l0_7.length ≤ c0_7) (hr1_1 : Kd.C k31 w A1_1 l1_1.length l1_1) (hc1_1 : l1_1.length ≤ c1_1) (h : code_parts_17.f a0_0 a0_1 a0_2 a0_3 a0_4 a0_5 a0_6 l0_7 a1_0 l1_1 a1_2 = some r) :
  Calls Tryz.prog 69 #[.agg #[.int .i64 a0_0, .int .i64 a0_1, .int .i64 a0_2, .int .i64 a0_3, .int .i64 a0_4, .string a0_5, .int .i64 a0_6, .slice A0_7 l0_7.length c0_7], .agg #[.int .i64 a1_0, .slice A1_1 l1_1.length c1_1, .int .i64 a1_2]] w fun e w' => e = .returned (.bool r) ∧ Below w.heap.size w w' := by
 have hu31 := Tryz.underlying31
 have hu49 := Tryz.underlying49
 have HR0_7 := Aside0.mk hr0_7
 have HC0_7 := Aside0.mk hc0_7
 clear hr0_7 hc0_7
 have HR1_1 := Aside0.mk hr1_1
 have HC1_1 := Aside0.mk hc1_1
 clear hr1_1 hc1_1
 have HB := Aside0.mk (Below.refl w.heap.size w)
 have H : (if a0_6 ≥ 0 then (if (wrap64 (Int.tdiv a0_6 1000)) < a1_2 then (some (decide ((Int.tmod a0_6 1000) < 200))) else (some false)) else (some false)) = some r := h
 clear h
 by_cases c3 : a0_6 ≥ 0
 ·rw [if_pos c3] at H
  have c3b0 : decide (0 ≤ a0_6) = true := decide_eq_true c3
  clear c3
  by_cases c4 : (wrap64 (Int.tdiv a0_6 1000)) < a1_2
  ·rw [if_pos c4] at H
   have c4b0 : decide ((wrap64 (Int.tdiv a0_6 1000)) < a1_2) = true := decide_eq_true c4
   clear c4
   obtain rfl := Option.some.inj H
   go_enter Tryz.func69, Tryz.ntmps69
   go_wp2_with (first | ((with_reducible refine gate_dst (N := 2) rfl ?_); refine zX (N := 2) (cs := #[.int .i64 a0_0, .int .i64 a0_1, .int .i64 a0_2, .int .i64 a0_3, .int .i64 a0_4, .string a0_5, .int .i64 a0_6, .slice A0_7 l0_7.length c0_7]) (t := 31) (h := ?_); intro gb227 hg w5 hbox hb; have BK227 := Aside0.mk hbox; have GW227 := Aside0.mk ((zS : w.heap.size ≤ gb227)); have GE227 := Aside0.mk ((zS : w.heap.size ≤ gb227)); replace HB := Aside0.mk (below_step zB hb); clear hb hbox hg) | ((with_reducible refine gate_dst (N := 3) rfl ?_); refine zX (N := 3) (cs := #[.int .i64 a1_0, .slice A1_1 l1_1.length c1_1, .int .i64 a1_2]) (t := 49) (h := ?_); intro gb228 hg w6 hbox hb; have BK228 := Aside0.mk hbox; have GW228 := Aside0.mk ((zT : w.heap.size ≤ gb228)); have GE228 := Aside0.mk ((zT : w.heap.size ≤ gb228)); have NB227_228 := Aside0.mk ((zL : gb227 ≠ gb228)); have NB228_227 := Aside0.mk ((zM : gb228 ≠ gb227)); replace BK227 := Aside0.mk (blk_below (g := gb227) zK hb); replace HB := Aside0.mk (below_step zG hb); clear hb hbox hg; have hnb7 := NB227_228.out; have hnc7 := NB228_227.out; obtain ⟨hcz8_0, hcz8_1, hcz8_2, hcz8_3, hcz8_4, hcz8_5, hcz8_6, hcz8_7, hfz8_0, hfz8_1, hfz8_2, hfz8_3, hfz8_4, hfz8_5, hfz8_6, hfz8_7⟩ := zd8 BK227.out (.int .i64 a0_0) (.int .i64 a0_1) (.int .i64 a0_2) (.int .i64 a0_3) (.int .i64 a0_4) (.string a0_5) (.int .i64 a0_6) (.slice A0_7 l0_7.length c0_7); obtain ⟨hcz9_0, hcz9_1, hcz9_2, hfz9_0, hfz9_1, hfz9_2⟩ := zd3 BK228.out (.int .i64 a1_0) (.slice A1_1 l1_1.length c1_1) (.int .i64 a1_2)))
   go_ret
   exact ⟨zE, zG⟩
  ·rw [if_neg c4] at H
   have c4b0 : decide ((wrap64 (Int.tdiv a0_6 1000)) < a1_2) = false := decide_eq_false c4
   clear c4
   obtain rfl := Option.some.inj H
   go_enter Tryz.func69, Tryz.ntmps69
   go_wp2_with (first | ((with_reducible refine gate_dst (N := 2) rfl ?_); refine zX (N := 2) (cs := #[.int .i64 a0_0, .int .i64 a0_1, .int .i64 a0_2, .int .i64 a0_3, .int .i64 a0_4, .string a0_5, .int .i64 a0_6, .slice A0_7 l0_7.length c0_7]) (t := 31) (h := ?_); intro gb227 hg w10 hbox hb; have BK227 := Aside0.mk hbox; have GW227 := Aside0.mk ((zS : w.heap.size ≤ gb227)); have GE227 := Aside0.mk ((zS : w.heap.size ≤ gb227)); replace HB := Aside0.mk (below_step zB hb); clear hb hbox hg) | ((with_reducible refine gate_dst (N := 3) rfl ?_); refine zX (N := 3) (cs := #[.int .i64 a1_0, .slice A1_1 l1_1.length c1_1, .int .i64 a1_2]) (t := 49) (h := ?_); intro gb228 hg w11 hbox hb; have BK228 := Aside0.mk hbox; have GW228 := Aside0.mk ((zT : w.heap.size ≤ gb228)); have GE228 := Aside0.mk ((zT : w.heap.size ≤ gb228)); have NB227_228 := Aside0.mk ((zL : gb227 ≠ gb228)); have NB228_227 := Aside0.mk ((zM : gb228 ≠ gb227)); replace BK227 := Aside0.mk (blk_below (g := gb227) zK hb); replace HB := Aside0.mk (below_step zG hb); clear hb hbox hg; have hnb12 := NB227_228.out; have hnc12 := NB228_227.out; obtain ⟨hcz13_0, hcz13_1, hcz13_2, hcz13_3, hcz13_4, hcz13_5, hcz13_6, hcz13_7, hfz13_0, hfz13_1, hfz13_2, hfz13_3, hfz13_4, hfz13_5, hfz13_6, hfz13_7⟩ := zd8 BK227.out (.int .i64 a0_0) (.int .i64 a0_1) (.int .i64 a0_2) (.int .i64 a0_3) (.int .i64 a0_4) (.string a0_5) (.int .i64 a0_6) (.slice A0_7 l0_7.length c0_7); obtain ⟨hcz14_0, hcz14_1, hcz14_2, hfz14_0, hfz14_1, hfz14_2⟩ := zd3 BK228.out (.int .i64 a1_0) (.slice A1_1 l1_1.length c1_1) (.int .i64 a1_2)))
   go_ret
   exact ⟨zE, zG⟩
 ·rw [if_neg c3] at H
  have c3b0 : decide (0 ≤ a0_6) = false := decide_eq_false c3
  clear c3
  obtain rfl := Option.some.inj H
  go_enter Tryz.func69, Tryz.ntmps69
  go_wp2_with (first | ((with_reducible refine gate_dst (N := 2) rfl ?_); refine zX (N := 2) (cs := #[.int .i64 a0_0, .int .i64 a0_1, .int .i64 a0_2, .int .i64 a0_3, .int .i64 a0_4, .string a0_5, .int .i64 a0_6, .slice A0_7 l0_7.length c0_7]) (t := 31) (h := ?_); intro gb227 hg w15 hbox hb; have BK227 := Aside0.mk hbox; have GW227 := Aside0.mk ((zS : w.heap.size ≤ gb227)); have GE227 := Aside0.mk ((zS : w.heap.size ≤ gb227)); replace HB := Aside0.mk (below_step zB hb); clear hb hbox hg) | ((with_reducible refine gate_dst (N := 3) rfl ?_); refine zX (N := 3) (cs := #[.int .i64 a1_0, .slice A1_1 l1_1.length c1_1, .int .i64 a1_2]) (t := 49) (h := ?_); intro gb228 hg w16 hbox hb; have BK228 := Aside0.mk hbox; have GW228 := Aside0.mk ((zT : w.heap.size ≤ gb228)); have GE228 := Aside0.mk ((zT : w.heap.size ≤ gb228)); have NB227_228 := Aside0.mk ((zL : gb227 ≠ gb228)); have NB228_227 := Aside0.mk ((zM : gb228 ≠ gb227)); replace BK227 := Aside0.mk (blk_below (g := gb227) zK hb); replace HB := Aside0.mk (below_step zG hb); clear hb hbox hg; have hnb17 := NB227_228.out; have hnc17 := NB228_227.out; obtain ⟨hcz18_0, hcz18_1, hcz18_2, hcz18_3, hcz18_4, hcz18_5, hcz18_6, hcz18_7, hfz18_0, hfz18_1, hfz18_2, hfz18_3, hfz18_4, hfz18_5, hfz18_6, hfz18_7⟩ := zd8 BK227.out (.int .i64 a0_0) (.int .i64 a0_1) (.int .i64 a0_2) (.int .i64 a0_3) (.int .i64 a0_4) (.string a0_5) (.int .i64 a0_6) (.slice A0_7 l0_7.length c0_7)))
  go_ret
  exact ⟨zE, zG⟩
end Go.Proofs.YtjlhhjfmekjbhaaGreatDoor.Pq

namespace Go.Proofs.YtjlhhjfmekjbhaaGreatDoor.Pq
open Go.RowKit Go.Proofs.YtjlhhjfmekjbhaaGreatDoorW.PrintWords Go.Proofs.YtjlhhjfmekjbhaaGreatDoorW.PrintLast Go.Proofs.YtjlhhjfmekjbhaaGreatDoorW.PrintMore
set_option linter.unusedVariables false
set_option linter.unusedSimpArgs false
/-! ### slices_Equal_int_int: function 85 -/
def slices_Equal_int_int.l0 : Nat → List Int → List Int → Int → Int → Option (Bool)
 | 0, _, _, _, _ => none
 | k + 1, x0, x1, x12, x13 => if x13 < x12 then (if 0 ≤ x13 then (if x13 < (x0.length : Int) then (if x13 < (x1.length : Int) then (if (rd x0 x13) = (rd x1 x13) then (slices_Equal_int_int.l0 k x0 x1 x12 (wrap64 (x13 + 1))) else (some false)) else (none)) else (none)) else (none)) else (some true)
def slices_Equal_int_int.f (k : Nat) (l0 : List Int) (l1 : List Int) : Option (Bool) := if (l0.length : Int) = (l1.length : Int) then (slices_Equal_int_int.l0 k l0 l1 (l0.length : Int) 0) else (some false)
set_option maxHeartbeats 8000000 in
set_option maxRecDepth 100000 in
theorem slices_Equal_int_int.calls (k : Nat) (A0 : Option Addr) (c0 : Nat) (l0 : List Int) (A1 : Option Addr) (c1 : Nat) (l1 : List Int) (r : Bool) (w : World) (hr0 : Kd.C (Kd.int .i64) w A0 l0.length l0) (hc0 : l0.length ≤ c0) (hr1 : Kd.C (Kd.int .i64) w A1 l1.length l1) (hc1 : l1.length ≤ c1) (h : slices_Equal_int_int.f k l0 l1 = some r) :
  Calls Tryz.prog 85 #[.slice A0 l0.length c0, .slice A1 l1.length c1] w fun e w' => e = .returned (.bool r) ∧ Drawn0 w w' := by
 have HR0 := Aside0.mk hr0
 have HC0 := Aside0.mk hc0
 clear hr0 hc0
 have HR1 := Aside0.mk hr1
 have HC1 := Aside0.mk hc1
 clear hr1 hc1
 have H : (if (l0.length : Int) = (l1.length : Int) then (slices_Equal_int_int.l0 k l0 l1 (l0.length : Int) 0) else (some false)) = some r := h
 clear h
 by_cases c3 : (l0.length : Int) = (l1.length : Int)
 ·rw [if_pos c3] at H
  have c3b0 : ((l0.length : Int) == (l1.length : Int)) = true := beq_iff_eq.mpr c3
  have c3b1 : ((l0.length : Int) != (l1.length : Int)) = false := bne_eq_false_iff_eq.mpr c3
  have c3b2 : (l0.length == l1.length) = true := by first | simpa using c3 | (simp at c3 ⊢; omega)
  clear c3
  have H' := Aside0.mk H
  clear H
  go_enter Tryz.func85, Tryz.ntmps85
  go_wp2
  repeat (go_quiet (fail); try go_wp2)
  go_loopg [13] k (fun kq v13 w' => ∃ (x13_1 : Int), v13 = .int .i64 x13_1 ∧ Aside0 (slices_Equal_int_int.l0 kq l0 l1 (l0.length : Int) x13_1 = some r) ∧ Aside0 (kq ≤ k) ∧ Drawn0 w w')
  case atStart => exact ⟨(0), zR, H', ⟨Nat.le_refl _⟩, by repeat (first | exact Drawn0.refl _ | apply Drawn0.step)⟩
  case round =>
   clear H'
   clear c3b0 c3b1 c3b2
   obtain ⟨x13_1, rfl, HA, HK1, ⟨m1, rfl⟩⟩ := hrel
   cases gk with
   | zero => exact absurd HA.out (by simp [slices_Equal_int_int.l0])
   | succ k1 =>
    have H := HA.out
    clear HA
    simp only [slices_Equal_int_int.l0] at H
    by_cases c4 : x13_1 < (l0.length : Int)
    ·rw [if_pos c4] at H
     have c4b0 : decide (x13_1 < (l0.length : Int)) = true := decide_eq_true c4
     clear c4
     by_cases c5 : 0 ≤ x13_1
     ·rw [if_pos c5] at H
      have c5b0 : decide (0 ≤ x13_1) = true := decide_eq_true c5
      clear c5
      by_cases c6 : x13_1 < (l0.length : Int)
      ·rw [if_pos c6] at H
       have c6b0 : decide (x13_1 < (l0.length : Int)) = true := decide_eq_true c6
       clear c6
       by_cases c7 : x13_1 < (l1.length : Int)
       ·rw [if_pos c7] at H
        have c7b0 : decide (x13_1 < (l1.length : Int)) = true := decide_eq_true c7
        clear c7
        by_cases c8 : (rd l0 x13_1) = (rd l1 x13_1)
        ·rw [if_pos c8] at H
         have c8b0 : ((rd l0 x13_1) == (rd l1 x13_1)) = true := beq_iff_eq.mpr c8
         have c8b1 : ((rd l0 x13_1) != (rd l1 x13_1)) = false := bne_eq_false_iff_eq.mpr c8
         clear c8
         have H' := Aside0.mk H
         clear H
         have p229 : 0 ≤ (x13_1 : Int) := of_decide_eq_true zA
         have q229 : x13_1 < (l0.length : Int) := of_decide_eq_true zA
         obtain ⟨ad229, e229, hx229_0⟩ := Kd.at_int HR0.out x13_1 p229 q229
         cases e229
         replace p229 := eq_true p229
         replace q229 := eq_true q229
         have p230 : 0 ≤ (x13_1 : Int) := of_decide_eq_true zA
         have q230 : x13_1 < (l1.length : Int) := of_decide_eq_true zA
         obtain ⟨ad230, e230, hx230_0⟩ := Kd.at_int HR1.out x13_1 p230 q230
         cases e230
         replace p230 := eq_true p230
         replace q230 := eq_true q230
         go_wp2
         repeat (go_quiet (fail); try go_wp2)
         go_roundg k1
         case measure => have := HK1.out; omega
         case rel => exact ⟨(wrap64 (x13_1 + 1)), zR, H', ⟨by have := HK1.out; omega⟩, by repeat (first | exact Drawn0.refl _ | apply Drawn0.step)⟩
        ·rw [if_neg c8] at H
         have c8b0 : ((rd l0 x13_1) == (rd l1 x13_1)) = false := beq_eq_false_iff_ne.mpr c8
         have c8b1 : ((rd l0 x13_1) != (rd l1 x13_1)) = true := bne_iff_ne.mpr c8
         obtain rfl := Option.some.inj H
         have p229 : 0 ≤ (x13_1 : Int) := of_decide_eq_true zA
         have q229 : x13_1 < (l0.length : Int) := of_decide_eq_true zA
         obtain ⟨ad229, e229, hx229_0⟩ := Kd.at_int HR0.out x13_1 p229 q229
         cases e229
         replace p229 := eq_true p229
         replace q229 := eq_true q229
         have p230 : 0 ≤ (x13_1 : Int) := of_decide_eq_true zA
         have q230 : x13_1 < (l1.length : Int) := of_decide_eq_true zA
         obtain ⟨ad230, e230, hx230_0⟩ := Kd.at_int HR1.out x13_1 p230 q230
         cases e230
         replace p230 := eq_true p230
         replace q230 := eq_true q230
         go_wp2
         repeat (go_quiet (fail); try go_wp2)
         go_ret
         exact ⟨zR, by repeat (first | exact Drawn0.refl _ | apply Drawn0.step)⟩
       ·rw [if_neg c7] at H
        exact absurd H (by simp)
      ·rw [if_neg c6] at H
       exact absurd H (by simp)
     ·rw [if_neg c5] at H
      exact absurd H (by simp)
    ·rw [if_neg c4] at H
     have c4b0 : decide (x13_1 < (l0.length : Int)) = false := decide_eq_false c4
     clear c4
     obtain rfl := Option.some.inj H
     go_wp2
     repeat (go_quiet (fail); try go_wp2)
     go_ret
     exact ⟨zR, by repeat (first | exact Drawn0.refl _ | apply Drawn0.step)⟩
 ·rw [if_neg c3] at H
  have c3b0 : ((l0.length : Int) == (l1.length : Int)) = false := beq_eq_false_iff_ne.mpr c3
  have c3b1 : ((l0.length : Int) != (l1.length : Int)) = true := bne_iff_ne.mpr c3
  have c3b2 : (l0.length == l1.length) = false := by first | simpa using c3 | (simp at c3 ⊢; omega)
  obtain rfl := Option.some.inj H
  go_enter Tryz.func85, Tryz.ntmps85
  go_wp2
  repeat (go_quiet (fail); try go_wp2)
  go_ret
  exact ⟨zR, by repeat (first | exact Drawn0.refl _ | apply Drawn0.step)⟩
end Go.Proofs.YtjlhhjfmekjbhaaGreatDoor.Pq

