/- Lemmas for the claims of this seat (own texts, packed; what the claims do not use is left out). No condition. -/
import Derived.Test.YtjlhhjfmekjbhaaGreatDoorMb0
import Derived.Test.YtjlhhjfmekjbhaaGreatDoorMb1
import Derived.Test.YtjlhhjfmekjbhaaGreatDoorMb7
namespace Go.Proofs.YtjlhhjfmekjbhaaGreatDoor.Pq
open Go.RowKit Go.Proofs.YtjlhhjfmekjbhaaGreatDoorW.PrintWords Go.Proofs.YtjlhhjfmekjbhaaGreatDoorW.PrintLast Go.Proofs.YtjlhhjfmekjbhaaGreatDoorW.PrintMore
set_option linter.unusedVariables false
set_option linter.unusedSimpArgs false
/-! ### q9_Show: function 15 -/
mutual
def q9_Show.l0 : Nat → List (S28) → ByteArray → Int → Option (ByteArray × Int)
 | 0, _, _, _ => none
 | k + 1, x0, x5, x6 => if x6 < (x0.length : Int) then (if x5.size + 5 ≤ 9223372036854775807 then (if 0 ≤ x6 then ((q9_num.f ((rd_T28 x0 x6).f0)).bind fun t144 => (if (x5 ++ (⟨#[112, 114, 111, 99, 32]⟩ : ByteArray)).size + t144.size ≤ 9223372036854775807 then (if ((x5 ++ (⟨#[112, 114, 111, 99, 32]⟩ : ByteArray)) ++ t144).size + 1 ≤ 9223372036854775807 then (q9_Show.l1 k x0 (((x5 ++ (⟨#[112, 114, 111, 99, 32]⟩ : ByteArray)) ++ t144) ++ (⟨#[10]⟩ : ByteArray)) x6 0) else (none)) else (none))) else (none)) else (none)) else (some (x5, 0))
def q9_Show.l1 : Nat → List (S28) → ByteArray → Int → Int → Option (ByteArray × Int)
 | 0, _, _, _, _ => none
 | k + 1, x0, x5, x6, x7 => if 0 ≤ x6 then (if x6 < (x0.length : Int) then (if x7 < (((rd_T28 x0 x6).f1).length : Int) then (if 0 ≤ x7 then ((q9_num.f ((rd_T31 ((rd_T28 x0 x6).f1) x7).f0)).bind fun t149 => (if x5.size + t149.size ≤ 9223372036854775807 then (if (x5 ++ t149).size + 1 ≤ 9223372036854775807 then ((q9_num.f ((rd_T31 ((rd_T28 x0 x6).f1) x7).f1)).bind fun t150 => (if ((x5 ++ t149) ++ (⟨#[32]⟩ : ByteArray)).size + t150.size ≤ 9223372036854775807 then (if (((x5 ++ t149) ++ (⟨#[32]⟩ : ByteArray)) ++ t150).size + 1 ≤ 9223372036854775807 then ((q9_num.f ((rd_T31 ((rd_T28 x0 x6).f1) x7).f2)).bind fun t151 => (if ((((x5 ++ t149) ++ (⟨#[32]⟩ : ByteArray)) ++ t150) ++ (⟨#[32]⟩ : ByteArray)).size + t151.size ≤ 9223372036854775807 then (if (((((x5 ++ t149) ++ (⟨#[32]⟩ : ByteArray)) ++ t150) ++ (⟨#[32]⟩ : ByteArray)) ++ t151).size + 1 ≤ 9223372036854775807 then ((q9_num.f ((rd_T31 ((rd_T28 x0 x6).f1) x7).f3)).bind fun t152 => (if ((((((x5 ++ t149) ++ (⟨#[32]⟩ : ByteArray)) ++ t150) ++ (⟨#[32]⟩ : ByteArray)) ++ t151) ++ (⟨#[32]⟩ : ByteArray)).size + t152.size ≤ 9223372036854775807 then (if (((((((x5 ++ t149) ++ (⟨#[32]⟩ : ByteArray)) ++ t150) ++ (⟨#[32]⟩ : ByteArray)) ++ t151) ++ (⟨#[32]⟩ : ByteArray)) ++ t152).size + 1 ≤ 9223372036854775807 then ((q9_num.f ((rd_T31 ((rd_T28 x0 x6).f1) x7).f4)).bind fun t153 => (if ((((((((x5 ++ t149) ++ (⟨#[32]⟩ : ByteArray)) ++ t150) ++ (⟨#[32]⟩ : ByteArray)) ++ t151) ++ (⟨#[32]⟩ : ByteArray)) ++ t152) ++ (⟨#[32]⟩ : ByteArray)).size + t153.size ≤ 9223372036854775807 then (if (((((((((x5 ++ t149) ++ (⟨#[32]⟩ : ByteArray)) ++ t150) ++ (⟨#[32]⟩ : ByteArray)) ++ t151) ++ (⟨#[32]⟩ : ByteArray)) ++ t152) ++ (⟨#[32]⟩ : ByteArray)) ++ t153).size + 1 ≤ 9223372036854775807 then ((q9_num.f ((rd_T31 ((rd_T28 x0 x6).f1) x7).f6)).bind fun t154 => (if ((((((((((x5 ++ t149) ++ (⟨#[32]⟩ : ByteArray)) ++ t150) ++ (⟨#[32]⟩ : ByteArray)) ++ t151) ++ (⟨#[32]⟩ : ByteArray)) ++ t152) ++ (⟨#[32]⟩ : ByteArray)) ++ t153) ++ (⟨#[32]⟩ : ByteArray)).size + t154.size ≤ 9223372036854775807 then (q9_Show.l2 k x0 (((((((((((x5 ++ t149) ++ (⟨#[32]⟩ : ByteArray)) ++ t150) ++ (⟨#[32]⟩ : ByteArray)) ++ t151) ++ (⟨#[32]⟩ : ByteArray)) ++ t152) ++ (⟨#[32]⟩ : ByteArray)) ++ t153) ++ (⟨#[32]⟩ : ByteArray)) ++ t154) x6 x7 0 ((rd_T31 ((rd_T28 x0 x6).f1) x7).f0) ((rd_T31 ((rd_T28 x0 x6).f1) x7).f1) ((rd_T31 ((rd_T28 x0 x6).f1) x7).f2) ((rd_T31 ((rd_T28 x0 x6).f1) x7).f3) ((rd_T31 ((rd_T28 x0 x6).f1) x7).f4) ((rd_T31 ((rd_T28 x0 x6).f1) x7).f5) ((rd_T31 ((rd_T28 x0 x6).f1) x7).f6) ((rd_T31 ((rd_T28 x0 x6).f1) x7).f7)) else (none))) else (none)) else (none))) else (none)) else (none))) else (none)) else (none))) else (none)) else (none))) else (none)) else (none))) else (none)) else (q9_Show.l0 k x0 x5 (wrap64 (x6 + 1)))) else (none)) else (none)
def q9_Show.l2 : Nat → List (S28) → ByteArray → Int → Int → Int → Int → Int → Int → Int → Int → ByteArray → Int → List Int → Option (ByteArray × Int)
 | 0, _, _, _, _, _, _, _, _, _, _, _, _, _ => none
 | k + 1, x0, x5, x6, x7, x9, x149000, x149001, x149002, x149003, x149004, x149005, x149006, x149007 => if x9 < (x149007.length : Int) then (if x5.size + 1 ≤ 9223372036854775807 then (if 0 ≤ x9 then ((q9_num.f (rd x149007 x9)).bind fun t156 => (if (x5 ++ (⟨#[32]⟩ : ByteArray)).size + t156.size ≤ 9223372036854775807 then (q9_Show.l2 k x0 ((x5 ++ (⟨#[32]⟩ : ByteArray)) ++ t156) x6 x7 (wrap64 (x9 + 1)) x149000 x149001 x149002 x149003 x149004 x149005 x149006 x149007) else (none))) else (none)) else (none)) else (if x5.size + 1 ≤ 9223372036854775807 then ((q2_Quote.f k x149005).bind fun t157 => (if (x5 ++ (⟨#[32]⟩ : ByteArray)).size + t157.size ≤ 9223372036854775807 then (if ((x5 ++ (⟨#[32]⟩ : ByteArray)) ++ t157).size + 1 ≤ 9223372036854775807 then (q9_Show.l1 k x0 (((x5 ++ (⟨#[32]⟩ : ByteArray)) ++ t157) ++ (⟨#[10]⟩ : ByteArray)) x6 (wrap64 (x7 + 1))) else (none)) else (none))) else (none))
end
def q9_Show.f (k : Nat) (l0 : List (S28)) : Option (ByteArray × Int) := (q9_Right.f k l0).bind fun t142 => (if t142 = true then (q9_Show.l0 k l0 (⟨#[]⟩ : ByteArray) 0) else (some ((⟨#[]⟩ : ByteArray), 90)))
def q9_Show.T13 : Bool × List (List Nat × List Nat) := (true, [([], []), ([], []), ([1], [1]), ([2], [2]), ([0, 3], [0, 3]), ([4], [4]), ([], []), ([6], [6]), ([7, 3], [7]), ([5, 8], [5, 8]), ([9], [9]), ([], []), ([11], [11]), ([12, 8], [12]), ([10, 13], [10, 13]), ([14], [14]), ([], []), ([16], [16]), ([17, 13], [17]), ([15, 18], [15, 18]), ([19], [19]), ([], []), ([21], [21]), ([22, 18], [22]), ([20, 23], [20, 23]), ([24], [24]), ([], []), ([26], [26]), ([27, 23], [27]), ([25, 28], [25, 28]), ([29, 28, 0, 1, 2, 3, 4, 5, 6, 7, 8, 9, 10, 11, 12, 13, 14, 15, 16, 17, 18, 19, 20, 21, 22, 23, 24, 25, 26, 27, 28, 29], [0, 29])])
def q9_Show.B13 : List Nat := [0, 0, 2, 6, 15, 31, 0, 64, 206, 511, 1023, 0, 2048, 6606, 16383, 32767, 0, 65536, 211406, 524287, 1048575, 0, 2097152, 6765006, 16777215, 33554431, 0, 67108864, 216480206, 536870911, 1073741823]
theorem q9_Show.tab13 : rtab .any (opsOf Tryz.f15 13) = q9_Show.T13 := by kernel_rfl
theorem q9_Show.bits13 : waitsOk q9_Show.T13.2 q9_Show.B13 = true := by kernel_rfl
set_option maxHeartbeats 8000000 in
set_option maxRecDepth 100000 in
theorem q9_Show.calls (k : Nat) (A0 : Option Addr) (c0 : Nat) (l0 : List (S28)) (r1 : ByteArray) (r2 : Int) (w : World) (hr0 : Kd.C k28 w A0 l0.length l0) (hc0 : l0.length ≤ c0) (h : q9_Show.f k l0 = some (r1, r2)) :
  Calls Tryz.prog 15 #[.slice A0 l0.length c0] w fun e w' => e = .returned (.tuple #[.string r1, .int .i64 r2]) ∧ Below w.heap.size w w' := by
 have hu31 := Tryz.underlying31
 have HR0 := Aside0.mk hr0
 have HC0 := Aside0.mk hc0
 clear hr0 hc0
 have HB := Aside0.mk (Below.refl w.heap.size w)
 have H : ((q9_Right.f k l0).bind fun t142 => (if t142 = true then (q9_Show.l0 k l0 (⟨#[]⟩ : ByteArray) 0) else (some ((⟨#[]⟩ : ByteArray), 90)))) = some (r1, r2) := h
 clear h
 obtain ⟨t142, A2, H⟩ := zO H
 by_cases c3 : t142 = true
 ·subst c3
  rw [if_pos rfl] at H
  have H' := Aside0.mk H
  clear H
  go_enter Tryz.func15, Tryz.ntmps15
  go_wp2_with (first | ((with_reducible refine gate_callee (f := 13) rfl ?_); refine goesL_ (some 11) rfl rfl Tryz.func13 (by kernel_rfl) rfl #[.slice A0 l0.length c0] rfl zP ?_; (with_reducible refine (q9_Right.calls k _ _ l0 true _ ?side1 ?side2 A2.out).mono ?_); (case side1 => repeat (first | exact HR0.out | (with_reducible refine Kd.C_alloc ?_ _) | (with_reducible refine Kd.C_drewN ?_ _) | (with_reducible refine Kd.C_drew ?_))); (case side2 => exact HC0.out); rintro e w4 ⟨rfl, hb⟩; refine ⟨_, rfl, ?_⟩; replace HB := Aside0.mk (below_step zB hb); (try clear hb)))
  go_loopg [5, 6] k (fun kq v5 v6 w' => ∃ (x5_1 : ByteArray) (x6_1 : Int), v5 = .string x5_1 ∧ v6 = .int .i64 x6_1 ∧ Aside0 (q9_Show.l0 kq l0 x5_1 x6_1 = some (r1, r2)) ∧ Aside0 (kq ≤ k) ∧ Aside0 (Below w.heap.size w w'))
  case atStart => exact ⟨((⟨#[]⟩ : ByteArray)), (0), zR, zR, H', ⟨Nat.le_refl _⟩, ⟨zB⟩⟩
  case round =>
   clear H'
   obtain ⟨x5_1, x6_1, rfl, rfl, HA, HK1, HB⟩ := hrel
   cases gk with
   | zero => exact absurd HA.out (by simp [q9_Show.l0])
   | succ k1 =>
    have H := HA.out
    clear HA
    simp only [q9_Show.l0] at H
    by_cases c5 : x6_1 < (l0.length : Int)
    ·rw [if_pos c5] at H
     have c5b0 : decide (x6_1 < (l0.length : Int)) = true := decide_eq_true c5
     clear c5
     by_cases c6 : x5_1.size + 5 ≤ 9223372036854775807
     ·rw [if_pos c6] at H
      have c6b0 := eq_true c6
      have c6b1 : decide (x5_1.size + 5 ≤ 9223372036854775807) = true := decide_eq_true c6
      try have c6b2 : (9223372036854775807 < x5_1.size + 5) = False := eq_false (Nat.not_lt.2 c6)
      by_cases c7 : 0 ≤ x6_1
      ·rw [if_pos c7] at H
       have c7b0 : decide (0 ≤ x6_1) = true := decide_eq_true c7
       clear c7
       obtain ⟨t144, A8, H⟩ := zO H
       by_cases c9 : (x5_1 ++ (⟨#[112, 114, 111, 99, 32]⟩ : ByteArray)).size + t144.size ≤ 9223372036854775807
       ·rw [if_pos c9] at H
        have c9b0 := eq_true c9
        have c9b1 : decide ((x5_1 ++ (⟨#[112, 114, 111, 99, 32]⟩ : ByteArray)).size + t144.size ≤ 9223372036854775807) = true := decide_eq_true c9
        try have c9b2 : (9223372036854775807 < (x5_1 ++ (⟨#[112, 114, 111, 99, 32]⟩ : ByteArray)).size + t144.size) = False := eq_false (Nat.not_lt.2 c9)
        try have c9b7 : (9223372036854775807 < x5_1.size + 5 + t144.size) = False := by have hh_ := c9b2; simp only [ByteArray.size_append] at hh_; exact hh_
        by_cases c10 : ((x5_1 ++ (⟨#[112, 114, 111, 99, 32]⟩ : ByteArray)) ++ t144).size + 1 ≤ 9223372036854775807
        ·rw [if_pos c10] at H
         have c10b0 := eq_true c10
         have c10b1 : decide (((x5_1 ++ (⟨#[112, 114, 111, 99, 32]⟩ : ByteArray)) ++ t144).size + 1 ≤ 9223372036854775807) = true := decide_eq_true c10
         try have c10b2 : (9223372036854775807 < ((x5_1 ++ (⟨#[112, 114, 111, 99, 32]⟩ : ByteArray)) ++ t144).size + 1) = False := eq_false (Nat.not_lt.2 c10)
         try have c10b7 : (9223372036854775807 < x5_1.size + 5 + t144.size + 1) = False := by have hh_ := c10b2; simp only [ByteArray.size_append] at hh_; exact hh_
         have H' := Aside0.mk H
         clear H
         have p143 : 0 ≤ (x6_1 : Int) := of_decide_eq_true zA
         have q143 : x6_1 < (l0.length : Int) := of_decide_eq_true zA
         obtain ⟨ad143, A143_1, c143_1, e143, hx143_0, hx143_1, hl143_1, hi143_1⟩ := at_T28 HR0.out x6_1 p143 q143
         cases e143
         replace hx143_0 := (HB.out.cell (World.block_lt_of_cell? w _ hx143_0)).trans hx143_0
         replace hx143_1 := (HB.out.cell (World.block_lt_of_cell? w _ hx143_1)).trans hx143_1
         have HR143_1 := Aside0.mk hi143_1
         have HC143_1 := Aside0.mk hl143_1
         clear hi143_1 hl143_1
         replace p143 := eq_true p143
         replace q143 := eq_true q143
         go_wp2_with (first | ((with_reducible refine gate_callee (f := 35) rfl ?_); refine goesL_ (some 27) rfl rfl Tryz.func35 (by kernel_rfl) rfl #[.int .i64 ((rd_T28 l0 x6_1).f0)] rfl zP ?_; (with_reducible refine (q9_num.calls ((rd_T28 l0 x6_1).f0) t144 _ A8.out).mono ?_); rintro e w11 ⟨rfl, hb⟩; refine ⟨_, rfl, ?_⟩; replace HB := Aside0.mk (below_step zB hb); (try clear hb)))
         go_loopg [5, 7] k1 (fun kq v5 v7 w' => ∃ (x5_2 : ByteArray) (x7_2 : Int), v5 = .string x5_2 ∧ v7 = .int .i64 x7_2 ∧ Aside0 (q9_Show.l1 kq l0 x5_2 x6_1 x7_2 = some (r1, r2)) ∧ Aside0 (kq ≤ k1) ∧ Aside0 (Below w.heap.size w w'))
         case atStart => exact ⟨(((x5_1 ++ (⟨#[112, 114, 111, 99, 32]⟩ : ByteArray)) ++ t144) ++ (⟨#[10]⟩ : ByteArray)), (0), zR, zR, H', ⟨Nat.le_refl _⟩, ⟨zB⟩⟩
         case round =>
          clear H'
          clear c5b0 c6 c6b0 c6b1 c6b2 c7b0 c9 c9b0 c9b1 c9b2 c10 c10b0 c10b1 c10b2 hx143_0 hx143_1 p143 q143
          obtain ⟨x5_2, x7_2, rfl, rfl, HA, HK2, HB⟩ := hrel
          cases gk with
          | zero => exact absurd HA.out (by simp [q9_Show.l1])
          | succ k2 =>
           have H := HA.out
           clear HA
           simp only [q9_Show.l1] at H
           by_cases c12 : 0 ≤ x6_1
           ·rw [if_pos c12] at H
            have c12b0 : decide (0 ≤ x6_1) = true := decide_eq_true c12
            clear c12
            by_cases c13 : x6_1 < (l0.length : Int)
            ·rw [if_pos c13] at H
             have c13b0 : decide (x6_1 < (l0.length : Int)) = true := decide_eq_true c13
             clear c13
             by_cases c14 : x7_2 < (((rd_T28 l0 x6_1).f1).length : Int)
             ·rw [if_pos c14] at H
              have c14b0 : decide (x7_2 < (((rd_T28 l0 x6_1).f1).length : Int)) = true := decide_eq_true c14
              clear c14
              by_cases c15 : 0 ≤ x7_2
              ·rw [if_pos c15] at H
               have c15b0 : decide (0 ≤ x7_2) = true := decide_eq_true c15
               clear c15
               obtain ⟨t149, A16, H⟩ := zO H
               by_cases c17 : x5_2.size + t149.size ≤ 9223372036854775807
               ·rw [if_pos c17] at H
                have c17b0 := eq_true c17
                have c17b1 : decide (x5_2.size + t149.size ≤ 9223372036854775807) = true := decide_eq_true c17
                try have c17b2 : (9223372036854775807 < x5_2.size + t149.size) = False := eq_false (Nat.not_lt.2 c17)
                by_cases c18 : (x5_2 ++ t149).size + 1 ≤ 9223372036854775807
                ·rw [if_pos c18] at H
                 have c18b0 := eq_true c18
                 have c18b1 : decide ((x5_2 ++ t149).size + 1 ≤ 9223372036854775807) = true := decide_eq_true c18
                 try have c18b2 : (9223372036854775807 < (x5_2 ++ t149).size + 1) = False := eq_false (Nat.not_lt.2 c18)
                 try have c18b7 : (9223372036854775807 < x5_2.size + t149.size + 1) = False := by have hh_ := c18b2; simp only [ByteArray.size_append] at hh_; exact hh_
                 obtain ⟨t150, A19, H⟩ := zO H
                 by_cases c20 : ((x5_2 ++ t149) ++ (⟨#[32]⟩ : ByteArray)).size + t150.size ≤ 9223372036854775807
                 ·rw [if_pos c20] at H
                  have c20b0 := eq_true c20
                  have c20b1 : decide (((x5_2 ++ t149) ++ (⟨#[32]⟩ : ByteArray)).size + t150.size ≤ 9223372036854775807) = true := decide_eq_true c20
                  try have c20b2 : (9223372036854775807 < ((x5_2 ++ t149) ++ (⟨#[32]⟩ : ByteArray)).size + t150.size) = False := eq_false (Nat.not_lt.2 c20)
                  try have c20b7 : (9223372036854775807 < x5_2.size + t149.size + 1 + t150.size) = False := by have hh_ := c20b2; simp only [ByteArray.size_append] at hh_; exact hh_
                  by_cases c21 : (((x5_2 ++ t149) ++ (⟨#[32]⟩ : ByteArray)) ++ t150).size + 1 ≤ 9223372036854775807
                  ·rw [if_pos c21] at H
                   have c21b0 := eq_true c21
                   have c21b1 : decide ((((x5_2 ++ t149) ++ (⟨#[32]⟩ : ByteArray)) ++ t150).size + 1 ≤ 9223372036854775807) = true := decide_eq_true c21
                   try have c21b2 : (9223372036854775807 < (((x5_2 ++ t149) ++ (⟨#[32]⟩ : ByteArray)) ++ t150).size + 1) = False := eq_false (Nat.not_lt.2 c21)
                   try have c21b7 : (9223372036854775807 < x5_2.size + t149.size + 1 + t150.size + 1) = False := by have hh_ := c21b2; simp only [ByteArray.size_append] at hh_; exact hh_
                   obtain ⟨t151, A22, H⟩ := zO H
                   by_cases c23 : ((((x5_2 ++ t149) ++ (⟨#[32]⟩ : ByteArray)) ++ t150) ++ (⟨#[32]⟩ : ByteArray)).size + t151.size ≤ 9223372036854775807
                   ·rw [if_pos c23] at H
                    have c23b0 := eq_true c23
                    have c23b1 : decide (((((x5_2 ++ t149) ++ (⟨#[32]⟩ : ByteArray)) ++ t150) ++ (⟨#[32]⟩ : ByteArray)).size + t151.size ≤ 9223372036854775807) = true := decide_eq_true c23
                    try have c23b2 : (9223372036854775807 < ((((x5_2 ++ t149) ++ (⟨#[32]⟩ : ByteArray)) ++ t150) ++ (⟨#[32]⟩ : ByteArray)).size + t151.size) = False := eq_false (Nat.not_lt.2 c23)
                    try have c23b7 : (9223372036854775807 < x5_2.size + t149.size + 1 + t150.size + 1 + t151.size) = False := by have hh_ := c23b2; simp only [ByteArray.size_append] at hh_; exact hh_
                    by_cases c24 : (((((x5_2 ++ t149) ++ (⟨#[32]⟩ : ByteArray)) ++ t150) ++ (⟨#[32]⟩ : ByteArray)) ++ t151).size + 1 ≤ 9223372036854775807
                    ·rw [if_pos c24] at H
                     have c24b0 := eq_true c24
                     have c24b1 : decide ((((((x5_2 ++ t149) ++ (⟨#[32]⟩ : ByteArray)) ++ t150) ++ (⟨#[32]⟩ : ByteArray)) ++ t151).size + 1 ≤ 9223372036854775807) = true := decide_eq_true c24
                     try have c24b2 : (9223372036854775807 < (((((x5_2 ++ t149) ++ (⟨#[32]⟩ : ByteArray)) ++ t150) ++ (⟨#[32]⟩ : ByteArray)) ++ t151).size + 1) = False := eq_false (Nat.not_lt.2 c24)
                     try have c24b7 : (9223372036854775807 < x5_2.size + t149.size + 1 + t150.size + 1 + t151.size + 1) = False := by have hh_ := c24b2; simp only [ByteArray.size_append] at hh_; exact hh_
                     obtain ⟨t152, A25, H⟩ := zO H
                     by_cases c26 : ((((((x5_2 ++ t149) ++ (⟨#[32]⟩ : ByteArray)) ++ t150) ++ (⟨#[32]⟩ : ByteArray)) ++ t151) ++ (⟨#[32]⟩ : ByteArray)).size + t152.size ≤ 9223372036854775807
                     ·rw [if_pos c26] at H
                      have c26b0 := eq_true c26
                      have c26b1 : decide (((((((x5_2 ++ t149) ++ (⟨#[32]⟩ : ByteArray)) ++ t150) ++ (⟨#[32]⟩ : ByteArray)) ++ t151) ++ (⟨#[32]⟩ : ByteArray)).size + t152.size ≤ 9223372036854775807) = true := decide_eq_true c26
                      try have c26b2 : (9223372036854775807 < ((((((x5_2 ++ t149) ++ (⟨#[32]⟩ : ByteArray)) ++ t150) ++ (⟨#[32]⟩ : ByteArray)) ++ t151) ++ (⟨#[32]⟩ : ByteArray)).size + t152.size) = False := eq_false (Nat.not_lt.2 c26)
                      try have c26b7 : (9223372036854775807 < x5_2.size + t149.size + 1 + t150.size + 1 + t151.size + 1 + t152.size) = False := by have hh_ := c26b2; simp only [ByteArray.size_append] at hh_; exact hh_
                      by_cases c27 : (((((((x5_2 ++ t149) ++ (⟨#[32]⟩ : ByteArray)) ++ t150) ++ (⟨#[32]⟩ : ByteArray)) ++ t151) ++ (⟨#[32]⟩ : ByteArray)) ++ t152).size + 1 ≤ 9223372036854775807
                      ·rw [if_pos c27] at H
                       have c27b0 := eq_true c27
                       have c27b1 : decide ((((((((x5_2 ++ t149) ++ (⟨#[32]⟩ : ByteArray)) ++ t150) ++ (⟨#[32]⟩ : ByteArray)) ++ t151) ++ (⟨#[32]⟩ : ByteArray)) ++ t152).size + 1 ≤ 9223372036854775807) = true := decide_eq_true c27
                       try have c27b2 : (9223372036854775807 < (((((((x5_2 ++ t149) ++ (⟨#[32]⟩ : ByteArray)) ++ t150) ++ (⟨#[32]⟩ : ByteArray)) ++ t151) ++ (⟨#[32]⟩ : ByteArray)) ++ t152).size + 1) = False := eq_false (Nat.not_lt.2 c27)
                       try have c27b7 : (9223372036854775807 < x5_2.size + t149.size + 1 + t150.size + 1 + t151.size + 1 + t152.size + 1) = False := by have hh_ := c27b2; simp only [ByteArray.size_append] at hh_; exact hh_
                       obtain ⟨t153, A28, H⟩ := zO H
                       by_cases c29 : ((((((((x5_2 ++ t149) ++ (⟨#[32]⟩ : ByteArray)) ++ t150) ++ (⟨#[32]⟩ : ByteArray)) ++ t151) ++ (⟨#[32]⟩ : ByteArray)) ++ t152) ++ (⟨#[32]⟩ : ByteArray)).size + t153.size ≤ 9223372036854775807
                       ·rw [if_pos c29] at H
                        have c29b0 := eq_true c29
                        have c29b1 : decide (((((((((x5_2 ++ t149) ++ (⟨#[32]⟩ : ByteArray)) ++ t150) ++ (⟨#[32]⟩ : ByteArray)) ++ t151) ++ (⟨#[32]⟩ : ByteArray)) ++ t152) ++ (⟨#[32]⟩ : ByteArray)).size + t153.size ≤ 9223372036854775807) = true := decide_eq_true c29
                        try have c29b2 : (9223372036854775807 < ((((((((x5_2 ++ t149) ++ (⟨#[32]⟩ : ByteArray)) ++ t150) ++ (⟨#[32]⟩ : ByteArray)) ++ t151) ++ (⟨#[32]⟩ : ByteArray)) ++ t152) ++ (⟨#[32]⟩ : ByteArray)).size + t153.size) = False := eq_false (Nat.not_lt.2 c29)
                        try have c29b7 : (9223372036854775807 < x5_2.size + t149.size + 1 + t150.size + 1 + t151.size + 1 + t152.size + 1 + t153.size) = False := by have hh_ := c29b2; simp only [ByteArray.size_append] at hh_; exact hh_
                        by_cases c30 : (((((((((x5_2 ++ t149) ++ (⟨#[32]⟩ : ByteArray)) ++ t150) ++ (⟨#[32]⟩ : ByteArray)) ++ t151) ++ (⟨#[32]⟩ : ByteArray)) ++ t152) ++ (⟨#[32]⟩ : ByteArray)) ++ t153).size + 1 ≤ 9223372036854775807
                        ·rw [if_pos c30] at H
                         have c30b0 := eq_true c30
                         have c30b1 : decide ((((((((((x5_2 ++ t149) ++ (⟨#[32]⟩ : ByteArray)) ++ t150) ++ (⟨#[32]⟩ : ByteArray)) ++ t151) ++ (⟨#[32]⟩ : ByteArray)) ++ t152) ++ (⟨#[32]⟩ : ByteArray)) ++ t153).size + 1 ≤ 9223372036854775807) = true := decide_eq_true c30
                         try have c30b2 : (9223372036854775807 < (((((((((x5_2 ++ t149) ++ (⟨#[32]⟩ : ByteArray)) ++ t150) ++ (⟨#[32]⟩ : ByteArray)) ++ t151) ++ (⟨#[32]⟩ : ByteArray)) ++ t152) ++ (⟨#[32]⟩ : ByteArray)) ++ t153).size + 1) = False := eq_false (Nat.not_lt.2 c30)
                         try have c30b7 : (9223372036854775807 < x5_2.size + t149.size + 1 + t150.size + 1 + t151.size + 1 + t152.size + 1 + t153.size + 1) = False := by have hh_ := c30b2; simp only [ByteArray.size_append] at hh_; exact hh_
                         obtain ⟨t154, A31, H⟩ := zO H
                         by_cases c32 : ((((((((((x5_2 ++ t149) ++ (⟨#[32]⟩ : ByteArray)) ++ t150) ++ (⟨#[32]⟩ : ByteArray)) ++ t151) ++ (⟨#[32]⟩ : ByteArray)) ++ t152) ++ (⟨#[32]⟩ : ByteArray)) ++ t153) ++ (⟨#[32]⟩ : ByteArray)).size + t154.size ≤ 9223372036854775807
                         ·rw [if_pos c32] at H
                          have c32b0 := eq_true c32
                          have c32b1 : decide (((((((((((x5_2 ++ t149) ++ (⟨#[32]⟩ : ByteArray)) ++ t150) ++ (⟨#[32]⟩ : ByteArray)) ++ t151) ++ (⟨#[32]⟩ : ByteArray)) ++ t152) ++ (⟨#[32]⟩ : ByteArray)) ++ t153) ++ (⟨#[32]⟩ : ByteArray)).size + t154.size ≤ 9223372036854775807) = true := decide_eq_true c32
                          try have c32b2 : (9223372036854775807 < ((((((((((x5_2 ++ t149) ++ (⟨#[32]⟩ : ByteArray)) ++ t150) ++ (⟨#[32]⟩ : ByteArray)) ++ t151) ++ (⟨#[32]⟩ : ByteArray)) ++ t152) ++ (⟨#[32]⟩ : ByteArray)) ++ t153) ++ (⟨#[32]⟩ : ByteArray)).size + t154.size) = False := eq_false (Nat.not_lt.2 c32)
                          try have c32b7 : (9223372036854775807 < x5_2.size + t149.size + 1 + t150.size + 1 + t151.size + 1 + t152.size + 1 + t153.size + 1 + t154.size) = False := by have hh_ := c32b2; simp only [ByteArray.size_append] at hh_; exact hh_
                          have H' := Aside0.mk H
                          clear H
                          have p145 : 0 ≤ (x6_1 : Int) := of_decide_eq_true zA
                          have q145 : x6_1 < (l0.length : Int) := of_decide_eq_true zA
                          obtain ⟨ad145, A145_1, c145_1, e145, hx145_0, hx145_1, hl145_1, hi145_1⟩ := at_T28 HR0.out x6_1 p145 q145
                          obtain rfl : ad143 = ad145 := (by injection e145)
                          replace hx145_0 := (HB.out.cell (World.block_lt_of_cell? w _ hx145_0)).trans hx145_0
                          replace hx145_1 := (HB.out.cell (World.block_lt_of_cell? w _ hx145_1)).trans hx145_1
                          have HR145_1 := Aside0.mk hi145_1
                          have HC145_1 := Aside0.mk hl145_1
                          clear hi145_1 hl145_1
                          replace p145 := eq_true p145
                          replace q145 := eq_true q145
                          have p146 : 0 ≤ (x6_1 : Int) := of_decide_eq_true zA
                          have q146 : x6_1 < (l0.length : Int) := of_decide_eq_true zA
                          obtain ⟨ad146, A146_1, c146_1, e146, hx146_0, hx146_1, hl146_1, hi146_1⟩ := at_T28 HR0.out x6_1 p146 q146
                          obtain rfl : ad143 = ad146 := (by injection e146)
                          replace hx146_0 := (HB.out.cell (World.block_lt_of_cell? w _ hx146_0)).trans hx146_0
                          replace hx146_1 := (HB.out.cell (World.block_lt_of_cell? w _ hx146_1)).trans hx146_1
                          have HR146_1 := Aside0.mk hi146_1
                          have HC146_1 := Aside0.mk hl146_1
                          clear hi146_1 hl146_1
                          replace p146 := eq_true p146
                          replace q146 := eq_true q146
                          have ea_ := Option.some.inj (hx145_1.symm.trans hx146_1)
                          injection ea_ with ea_ en_ ec_
                          subst ea_
                          subst ec_
                          clear en_
                          have p147 : 0 ≤ (x7_2 : Int) := of_decide_eq_true zA
                          have q147 : x7_2 < (((rd_T28 l0 x6_1).f1).length : Int) := of_decide_eq_true zA
                          obtain ⟨ad147, A147_7, c147_7, e147, hx147_0, hx147_1, hx147_2, hx147_3, hx147_4, hx147_5, hx147_6, hx147_7, hl147_7, hi147_7⟩ := at_T31 HR146_1.out x7_2 p147 q147
                          cases e147
                          replace hx147_0 := (HB.out.cell (World.block_lt_of_cell? w _ hx147_0)).trans hx147_0
                          replace hx147_1 := (HB.out.cell (World.block_lt_of_cell? w _ hx147_1)).trans hx147_1
                          replace hx147_2 := (HB.out.cell (World.block_lt_of_cell? w _ hx147_2)).trans hx147_2
                          replace hx147_3 := (HB.out.cell (World.block_lt_of_cell? w _ hx147_3)).trans hx147_3
                          replace hx147_4 := (HB.out.cell (World.block_lt_of_cell? w _ hx147_4)).trans hx147_4
                          replace hx147_5 := (HB.out.cell (World.block_lt_of_cell? w _ hx147_5)).trans hx147_5
                          replace hx147_6 := (HB.out.cell (World.block_lt_of_cell? w _ hx147_6)).trans hx147_6
                          replace hx147_7 := (HB.out.cell (World.block_lt_of_cell? w _ hx147_7)).trans hx147_7
                          have HR147_7 := Aside0.mk hi147_7
                          have HC147_7 := Aside0.mk hl147_7
                          clear hi147_7 hl147_7
                          replace p147 := eq_true p147
                          replace q147 := eq_true q147
                          try go_wp2_with (first | ((with_reducible refine gate_dst (N := 8) rfl ?_); refine zX (N := 8) (cs := #[.int .i64 0, .int .i64 0, .int .i64 0, .int .i64 0, .int .i64 0, .string (⟨#[]⟩ : ByteArray), .int .i64 0, .slice none 0 0]) (t := 31) (h := ?_); intro gb148 hg w33 hbox hb; have BK148 := Aside0.mk hbox; have GW148 := Aside0.mk ((zS : w.heap.size ≤ gb148)); have GE148 := Aside0.mk ((zS : w.heap.size ≤ gb148)); replace HB := Aside0.mk (below_step zB hb); clear hb hbox hg; obtain ⟨hcz34_0, hcz34_1, hcz34_2, hcz34_3, hcz34_4, hcz34_5, hcz34_6, hcz34_7, hfz34_0, hfz34_1, hfz34_2, hfz34_3, hfz34_4, hfz34_5, hfz34_6, hfz34_7⟩ := zd8 BK148.out (.int .i64 0) (.int .i64 0) (.int .i64 0) (.int .i64 0) (.int .i64 0) (.string (⟨#[]⟩ : ByteArray)) (.int .i64 0) (.slice none 0 0)))
                          have n0_ : Aside0 (((((((((w33.setCell ⟨gb148, 0, none⟩ (.int .i64 ((rd_T31 ((rd_T28 l0 x6_1).f1) x7_2).f0))).setCell ⟨gb148, 1, none⟩ (.int .i64 ((rd_T31 ((rd_T28 l0 x6_1).f1) x7_2).f1))).setCell ⟨gb148, 2, none⟩ (.int .i64 ((rd_T31 ((rd_T28 l0 x6_1).f1) x7_2).f2))).setCell ⟨gb148, 3, none⟩ (.int .i64 ((rd_T31 ((rd_T28 l0 x6_1).f1) x7_2).f3))).setCell ⟨gb148, 4, none⟩ (.int .i64 ((rd_T31 ((rd_T28 l0 x6_1).f1) x7_2).f4))).setCell ⟨gb148, 5, none⟩ (.string ((rd_T31 ((rd_T28 l0 x6_1).f1) x7_2).f5))).setCell ⟨gb148, 6, none⟩ (.int .i64 ((rd_T31 ((rd_T28 l0 x6_1).f1) x7_2).f6))).setCell ⟨gb148, 7, none⟩ (.slice A147_7 ((rd_T31 ((rd_T28 l0 x6_1).f1) x7_2).f7).length c147_7)).heap[gb148]? = some (.cells #[.int .i64 ((rd_T31 ((rd_T28 l0 x6_1).f1) x7_2).f0), .int .i64 ((rd_T31 ((rd_T28 l0 x6_1).f1) x7_2).f1), .int .i64 ((rd_T31 ((rd_T28 l0 x6_1).f1) x7_2).f2), .int .i64 ((rd_T31 ((rd_T28 l0 x6_1).f1) x7_2).f3), .int .i64 ((rd_T31 ((rd_T28 l0 x6_1).f1) x7_2).f4), .string ((rd_T31 ((rd_T28 l0 x6_1).f1) x7_2).f5), .int .i64 ((rd_T31 ((rd_T28 l0 x6_1).f1) x7_2).f6), .slice A147_7 ((rd_T31 ((rd_T28 l0 x6_1).f1) x7_2).f7).length c147_7] 31 (0, 0))) := ⟨by (with_reducible repeat (first | refine blk_drewN ?_ _ | refine blk_drew ?_ | refine blk_alloc ?_ _)); refine blk_put (cs := #[.int .i64 ((rd_T31 ((rd_T28 l0 x6_1).f1) x7_2).f0), .int .i64 ((rd_T31 ((rd_T28 l0 x6_1).f1) x7_2).f1), .int .i64 ((rd_T31 ((rd_T28 l0 x6_1).f1) x7_2).f2), .int .i64 ((rd_T31 ((rd_T28 l0 x6_1).f1) x7_2).f3), .int .i64 ((rd_T31 ((rd_T28 l0 x6_1).f1) x7_2).f4), .string ((rd_T31 ((rd_T28 l0 x6_1).f1) x7_2).f5), .int .i64 ((rd_T31 ((rd_T28 l0 x6_1).f1) x7_2).f6), .slice none 0 0]) ?_ 7 _ rfl; (with_reducible repeat (first | refine blk_drewN ?_ _ | refine blk_drew ?_ | refine blk_alloc ?_ _)); refine blk_put (cs := #[.int .i64 ((rd_T31 ((rd_T28 l0 x6_1).f1) x7_2).f0), .int .i64 ((rd_T31 ((rd_T28 l0 x6_1).f1) x7_2).f1), .int .i64 ((rd_T31 ((rd_T28 l0 x6_1).f1) x7_2).f2), .int .i64 ((rd_T31 ((rd_T28 l0 x6_1).f1) x7_2).f3), .int .i64 ((rd_T31 ((rd_T28 l0 x6_1).f1) x7_2).f4), .string ((rd_T31 ((rd_T28 l0 x6_1).f1) x7_2).f5), .int .i64 0, .slice none 0 0]) ?_ 6 _ rfl; (with_reducible repeat (first | refine blk_drewN ?_ _ | refine blk_drew ?_ | refine blk_alloc ?_ _)); refine blk_put (cs := #[.int .i64 ((rd_T31 ((rd_T28 l0 x6_1).f1) x7_2).f0), .int .i64 ((rd_T31 ((rd_T28 l0 x6_1).f1) x7_2).f1), .int .i64 ((rd_T31 ((rd_T28 l0 x6_1).f1) x7_2).f2), .int .i64 ((rd_T31 ((rd_T28 l0 x6_1).f1) x7_2).f3), .int .i64 ((rd_T31 ((rd_T28 l0 x6_1).f1) x7_2).f4), .string (⟨#[]⟩ : ByteArray), .int .i64 0, .slice none 0 0]) ?_ 5 _ rfl; (with_reducible repeat (first | refine blk_drewN ?_ _ | refine blk_drew ?_ | refine blk_alloc ?_ _)); refine blk_put (cs := #[.int .i64 ((rd_T31 ((rd_T28 l0 x6_1).f1) x7_2).f0), .int .i64 ((rd_T31 ((rd_T28 l0 x6_1).f1) x7_2).f1), .int .i64 ((rd_T31 ((rd_T28 l0 x6_1).f1) x7_2).f2), .int .i64 ((rd_T31 ((rd_T28 l0 x6_1).f1) x7_2).f3), .int .i64 0, .string (⟨#[]⟩ : ByteArray), .int .i64 0, .slice none 0 0]) ?_ 4 _ rfl; (with_reducible repeat (first | refine blk_drewN ?_ _ | refine blk_drew ?_ | refine blk_alloc ?_ _)); refine blk_put (cs := #[.int .i64 ((rd_T31 ((rd_T28 l0 x6_1).f1) x7_2).f0), .int .i64 ((rd_T31 ((rd_T28 l0 x6_1).f1) x7_2).f1), .int .i64 ((rd_T31 ((rd_T28 l0 x6_1).f1) x7_2).f2), .int .i64 0, .int .i64 0, .string (⟨#[]⟩ : ByteArray), .int .i64 0, .slice none 0 0]) ?_ 3 _ rfl; (with_reducible repeat (first | refine blk_drewN ?_ _ | refine blk_drew ?_ | refine blk_alloc ?_ _)); refine blk_put (cs := #[.int .i64 ((rd_T31 ((rd_T28 l0 x6_1).f1) x7_2).f0), .int .i64 ((rd_T31 ((rd_T28 l0 x6_1).f1) x7_2).f1), .int .i64 0, .int .i64 0, .int .i64 0, .string (⟨#[]⟩ : ByteArray), .int .i64 0, .slice none 0 0]) ?_ 2 _ rfl; (with_reducible repeat (first | refine blk_drewN ?_ _ | refine blk_drew ?_ | refine blk_alloc ?_ _)); refine blk_put (cs := #[.int .i64 ((rd_T31 ((rd_T28 l0 x6_1).f1) x7_2).f0), .int .i64 0, .int .i64 0, .int .i64 0, .int .i64 0, .string (⟨#[]⟩ : ByteArray), .int .i64 0, .slice none 0 0]) ?_ 1 _ rfl; (with_reducible repeat (first | refine blk_drewN ?_ _ | refine blk_drew ?_ | refine blk_alloc ?_ _)); refine blk_put (cs := #[.int .i64 0, .int .i64 0, .int .i64 0, .int .i64 0, .int .i64 0, .string (⟨#[]⟩ : ByteArray), .int .i64 0, .slice none 0 0]) ?_ 0 _ rfl; (with_reducible repeat (first | refine blk_drewN ?_ _ | refine blk_drew ?_ | refine blk_alloc ?_ _)); exact BK148.out⟩
                          have n1_ : Aside0 (Below w.heap.size w ((((((((w33.setCell ⟨gb148, 0, none⟩ (.int .i64 ((rd_T31 ((rd_T28 l0 x6_1).f1) x7_2).f0))).setCell ⟨gb148, 1, none⟩ (.int .i64 ((rd_T31 ((rd_T28 l0 x6_1).f1) x7_2).f1))).setCell ⟨gb148, 2, none⟩ (.int .i64 ((rd_T31 ((rd_T28 l0 x6_1).f1) x7_2).f2))).setCell ⟨gb148, 3, none⟩ (.int .i64 ((rd_T31 ((rd_T28 l0 x6_1).f1) x7_2).f3))).setCell ⟨gb148, 4, none⟩ (.int .i64 ((rd_T31 ((rd_T28 l0 x6_1).f1) x7_2).f4))).setCell ⟨gb148, 5, none⟩ (.string ((rd_T31 ((rd_T28 l0 x6_1).f1) x7_2).f5))).setCell ⟨gb148, 6, none⟩ (.int .i64 ((rd_T31 ((rd_T28 l0 x6_1).f1) x7_2).f6))).setCell ⟨gb148, 7, none⟩ (.slice A147_7 ((rd_T31 ((rd_T28 l0 x6_1).f1) x7_2).f7).length c147_7))) := ⟨zG⟩
                          (try clear BK148)
                          (try clear HB)
                          generalize ((((((((w33.setCell ⟨gb148, 0, none⟩ (.int .i64 ((rd_T31 ((rd_T28 l0 x6_1).f1) x7_2).f0))).setCell ⟨gb148, 1, none⟩ (.int .i64 ((rd_T31 ((rd_T28 l0 x6_1).f1) x7_2).f1))).setCell ⟨gb148, 2, none⟩ (.int .i64 ((rd_T31 ((rd_T28 l0 x6_1).f1) x7_2).f2))).setCell ⟨gb148, 3, none⟩ (.int .i64 ((rd_T31 ((rd_T28 l0 x6_1).f1) x7_2).f3))).setCell ⟨gb148, 4, none⟩ (.int .i64 ((rd_T31 ((rd_T28 l0 x6_1).f1) x7_2).f4))).setCell ⟨gb148, 5, none⟩ (.string ((rd_T31 ((rd_T28 l0 x6_1).f1) x7_2).f5))).setCell ⟨gb148, 6, none⟩ (.int .i64 ((rd_T31 ((rd_T28 l0 x6_1).f1) x7_2).f6))).setCell ⟨gb148, 7, none⟩ (.slice A147_7 ((rd_T31 ((rd_T28 l0 x6_1).f1) x7_2).f7).length c147_7)) = w35 at n0_ n1_ ⊢
                          have BK148 := n0_
                          have HB := n1_
                          clear n0_ n1_
                          have n0_ := Aside0.mk (blk_drew BK148.out)
                          have n1_ := Aside0.mk (below_drew1 HB.out)
                          clear BK148
                          clear HB
                          have BK148 := n0_
                          have HB := n1_
                          clear n0_ n1_
                          refine start_ (n := 31) (S := fun w' => w'.cell? ⟨gb148, 0, none⟩ = some (.int .i64 ((rd_T31 ((rd_T28 l0 x6_1).f1) x7_2).f0)) ∧ w'.cell? ⟨gb148, 1, none⟩ = some (.int .i64 ((rd_T31 ((rd_T28 l0 x6_1).f1) x7_2).f1)) ∧ w'.cell? ⟨gb148, 2, none⟩ = some (.int .i64 ((rd_T31 ((rd_T28 l0 x6_1).f1) x7_2).f2)) ∧ w'.cell? ⟨gb148, 3, none⟩ = some (.int .i64 ((rd_T31 ((rd_T28 l0 x6_1).f1) x7_2).f3)) ∧ w'.cell? ⟨gb148, 4, none⟩ = some (.int .i64 ((rd_T31 ((rd_T28 l0 x6_1).f1) x7_2).f4)) ∧ w'.cell? ⟨gb148, 5, none⟩ = some (.string ((rd_T31 ((rd_T28 l0 x6_1).f1) x7_2).f5)) ∧ w'.cell? ⟨gb148, 6, none⟩ = some (.int .i64 ((rd_T31 ((rd_T28 l0 x6_1).f1) x7_2).f6)) ∧ w'.cell? ⟨gb148, 7, none⟩ = some (.slice A147_7 ((rd_T31 ((rd_T28 l0 x6_1).f1) x7_2).f7).length c147_7)) (ds := []) #[false, false, false, false, false, false, false, false, false, false, false, false, false, false, false, false, false, false, false, false, false, false, false, false, false, false, false, false, false, false, false] (by kernel_rfl) rfl rfl ⟨(blk_cell BK148.out 0).trans rfl, (blk_cell BK148.out 1).trans rfl, (blk_cell BK148.out 2).trans rfl, (blk_cell BK148.out 3).trans rfl, (blk_cell BK148.out 4).trans rfl, (blk_cell BK148.out 5).trans rfl, (blk_cell BK148.out 6).trans rfl, (blk_cell BK148.out 7).trans rfl⟩ (fun hHeld => ?_); refine with_tabW q9_Show.tab13 q9_Show.bits13 (fun HT_ HW_ => ?_)
                          generalize w35.drew = w36 at BK148 HB hHeld ⊢
                          refine pure_ (i := 0) (N := some 48) (v := ?_) (a' := ?_) #[true, false, false, false, false, false, false, false, false, false, false, false, false, false, false, false, false, false, false, false, false, false, false, false, false, false, false, false, false, false, false] rfl rfl (any_of HT_.out (by kernel_rfl)) (fun _ _ _ h => h) (Or.inl ⟨by rfl, ?_⟩) ?_ ?_
                          rotate_left
                          ·intro w'
                           go_simp
                           with_reducible rfl
                          rotate_left
                          ·simp only [Act.put, List.setIfInBounds_toArray, List.set_cons_zero, List.set_cons_succ, i64_w, i32_w]
                           rfl
                          refine pure_ (i := 1) (N := some 49) (v := ?_) (a' := ?_) #[true, true, false, false, false, false, false, false, false, false, false, false, false, false, false, false, false, false, false, false, false, false, false, false, false, false, false, false, false, false, false] rfl rfl (any_of HT_.out (by kernel_rfl)) (fun _ _ _ h => h) (Or.inl ⟨by rfl, ?_⟩) ?_ ?_
                          rotate_left
                          ·intro w'
                           go_simp
                           with_reducible rfl
                          rotate_left
                          ·simp only [Act.put, List.setIfInBounds_toArray, List.set_cons_zero, List.set_cons_succ, i64_w, i32_w]
                           rfl
                          refine pure_ (i := 6) (N := some 54) (v := ?_) (a' := ?_) #[true, true, false, false, false, false, true, false, false, false, false, false, false, false, false, false, false, false, false, false, false, false, false, false, false, false, false, false, false, false, false] rfl rfl (any_of HT_.out (by kernel_rfl)) (fun _ _ _ h => h) (Or.inl ⟨by rfl, ?_⟩) ?_ ?_
                          rotate_left
                          ·intro w'
                           go_simp
                           with_reducible rfl
                          rotate_left
                          ·simp only [Act.put, List.setIfInBounds_toArray, List.set_cons_zero, List.set_cons_succ, i64_w, i32_w]
                           rfl
                          refine pure_ (i := 11) (N := some 59) (v := ?_) (a' := ?_) #[true, true, false, false, false, false, true, false, false, false, false, true, false, false, false, false, false, false, false, false, false, false, false, false, false, false, false, false, false, false, false] rfl rfl (any_of HT_.out (by kernel_rfl)) (fun _ _ _ h => h) (Or.inl ⟨by rfl, ?_⟩) ?_ ?_
                          rotate_left
                          ·intro w'
                           go_simp
                           with_reducible rfl
                          rotate_left
                          ·simp only [Act.put, List.setIfInBounds_toArray, List.set_cons_zero, List.set_cons_succ, i64_w, i32_w]
                           rfl
                          refine pure_ (i := 16) (N := some 64) (v := ?_) (a' := ?_) #[true, true, false, false, false, false, true, false, false, false, false, true, false, false, false, false, true, false, false, false, false, false, false, false, false, false, false, false, false, false, false] rfl rfl (any_of HT_.out (by kernel_rfl)) (fun _ _ _ h => h) (Or.inl ⟨by rfl, ?_⟩) ?_ ?_
                          rotate_left
                          ·intro w'
                           go_simp
                           with_reducible rfl
                          rotate_left
                          ·simp only [Act.put, List.setIfInBounds_toArray, List.set_cons_zero, List.set_cons_succ, i64_w, i32_w]
                           rfl
                          refine pure_ (i := 21) (N := some 69) (v := ?_) (a' := ?_) #[true, true, false, false, false, false, true, false, false, false, false, true, false, false, false, false, true, false, false, false, false, true, false, false, false, false, false, false, false, false, false] rfl rfl (any_of HT_.out (by kernel_rfl)) (fun _ _ _ h => h) (Or.inl ⟨by rfl, ?_⟩) ?_ ?_
                          rotate_left
                          ·intro w'
                           go_simp
                           with_reducible rfl
                          rotate_left
                          ·simp only [Act.put, List.setIfInBounds_toArray, List.set_cons_zero, List.set_cons_succ, i64_w, i32_w]
                           rfl
                          refine pure_ (i := 26) (N := some 74) (v := ?_) (a' := ?_) #[true, true, false, false, false, false, true, false, false, false, false, true, false, false, false, false, true, false, false, false, false, true, false, false, false, false, true, false, false, false, false] rfl rfl (any_of HT_.out (by kernel_rfl)) (fun _ _ _ h => h) (Or.inl ⟨by rfl, ?_⟩) ?_ ?_
                          rotate_left
                          ·intro w'
                           go_simp
                           with_reducible rfl
                          rotate_left
                          ·simp only [Act.put, List.setIfInBounds_toArray, List.set_cons_zero, List.set_cons_succ, i64_w, i32_w]
                           rfl
                          refine take_ (i := 2) (N := some 50) (v := ?_) (a' := ?_) #[true, true, true, false, false, false, true, false, false, false, false, true, false, false, false, false, true, false, false, false, false, true, false, false, false, false, true, false, false, false, false] rfl rfl (take_ofW HT_.out HW_.out (by kernel_rfl)) (fun _ _ _ h => h) (Or.inl ⟨by rfl, ?_⟩) hHeld ?_ ?_
                          rotate_left
                          ·rintro w' ⟨s0, s1, s2, s3, s4, s5, s6, s7⟩
                           go_simp
                           with_reducible rfl
                          rotate_left
                          ·simp only [Act.put, List.setIfInBounds_toArray, List.set_cons_zero, List.set_cons_succ, i64_w, i32_w]
                           rfl
                          refine take_ (i := 7) (N := some 55) (v := ?_) (a' := ?_) #[true, true, true, false, false, false, true, true, false, false, false, true, false, false, false, false, true, false, false, false, false, true, false, false, false, false, true, false, false, false, false] rfl rfl (take_ofW HT_.out HW_.out (by kernel_rfl)) (fun _ _ _ h => h) (Or.inl ⟨by rfl, ?_⟩) hHeld ?_ ?_
                          rotate_left
                          ·rintro w' ⟨s0, s1, s2, s3, s4, s5, s6, s7⟩
                           go_simp
                           with_reducible rfl
                          rotate_left
                          ·simp only [Act.put, List.setIfInBounds_toArray, List.set_cons_zero, List.set_cons_succ, i64_w, i32_w]
                           rfl
                          refine take_ (i := 12) (N := some 60) (v := ?_) (a' := ?_) #[true, true, true, false, false, false, true, true, false, false, false, true, true, false, false, false, true, false, false, false, false, true, false, false, false, false, true, false, false, false, false] rfl rfl (take_ofW HT_.out HW_.out (by kernel_rfl)) (fun _ _ _ h => h) (Or.inl ⟨by rfl, ?_⟩) hHeld ?_ ?_
                          rotate_left
                          ·rintro w' ⟨s0, s1, s2, s3, s4, s5, s6, s7⟩
                           go_simp
                           with_reducible rfl
                          rotate_left
                          ·simp only [Act.put, List.setIfInBounds_toArray, List.set_cons_zero, List.set_cons_succ, i64_w, i32_w]
                           rfl
                          refine take_ (i := 17) (N := some 65) (v := ?_) (a' := ?_) #[true, true, true, false, false, false, true, true, false, false, false, true, true, false, false, false, true, true, false, false, false, true, false, false, false, false, true, false, false, false, false] rfl rfl (take_ofW HT_.out HW_.out (by kernel_rfl)) (fun _ _ _ h => h) (Or.inl ⟨by rfl, ?_⟩) hHeld ?_ ?_
                          rotate_left
                          ·rintro w' ⟨s0, s1, s2, s3, s4, s5, s6, s7⟩
                           go_simp
                           with_reducible rfl
                          rotate_left
                          ·simp only [Act.put, List.setIfInBounds_toArray, List.set_cons_zero, List.set_cons_succ, i64_w, i32_w]
                           rfl
                          refine take_ (i := 22) (N := some 70) (v := ?_) (a' := ?_) #[true, true, true, false, false, false, true, true, false, false, false, true, true, false, false, false, true, true, false, false, false, true, true, false, false, false, true, false, false, false, false] rfl rfl (take_ofW HT_.out HW_.out (by kernel_rfl)) (fun _ _ _ h => h) (Or.inl ⟨by rfl, ?_⟩) hHeld ?_ ?_
                          rotate_left
                          ·rintro w' ⟨s0, s1, s2, s3, s4, s5, s6, s7⟩
                           go_simp
                           with_reducible rfl
                          rotate_left
                          ·simp only [Act.put, List.setIfInBounds_toArray, List.set_cons_zero, List.set_cons_succ, i64_w, i32_w]
                           rfl
                          refine take_ (i := 27) (N := some 75) (v := ?_) (a' := ?_) #[true, true, true, false, false, false, true, true, false, false, false, true, true, false, false, false, true, true, false, false, false, true, true, false, false, false, true, true, false, false, false] rfl rfl (take_ofW HT_.out HW_.out (by kernel_rfl)) (fun _ _ _ h => h) (Or.inl ⟨by rfl, ?_⟩) hHeld ?_ ?_
                          rotate_left
                          ·rintro w' ⟨s0, s1, s2, s3, s4, s5, s6, s7⟩
                           go_simp
                           with_reducible rfl
                          rotate_left
                          ·simp only [Act.put, List.setIfInBounds_toArray, List.set_cons_zero, List.set_cons_succ, i64_w, i32_w]
                           rfl
                          refine one_ (i := 3) (N := some 51) #[true, true, true, true, false, false, true, true, false, false, false, true, true, false, false, false, true, true, false, false, false, true, true, false, false, false, true, true, false, false, false] rfl rfl (one_of HT_.out (by kernel_rfl)) (by decide) (fun K hK => ?_)
                          refine goes_ Tryz.func35 (by kernel_rfl) rfl #[.int .i64 ((rd_T31 ((rd_T28 l0 x6_1).f1) x7_2).f0)] (by rfl) rfl rfl zP ?_
                          with_reducible refine (q9_num.calls ((rd_T31 ((rd_T28 l0 x6_1).f1) x7_2).f0) t149 _ A16.out).mono ?_
                          rintro e w37 ⟨rfl, hb⟩
                          refine ⟨_, rfl, ?_⟩
                          have n0_ := Aside0.mk (blk_below (g := gb148) zK hb)
                          have n1_ := Aside0.mk (below_step zG hb)
                          clear BK148
                          clear HB
                          have BK148 := n0_
                          have HB := n1_
                          clear n0_ n1_
                          (try clear hb)
                          (try clear hb2)
                          (try clear hk)
                          (try clear hi)
                          refine hK.out _ _ ⟨(blk_cell BK148.out 0).trans rfl, (blk_cell BK148.out 1).trans rfl, (blk_cell BK148.out 2).trans rfl, (blk_cell BK148.out 3).trans rfl, (blk_cell BK148.out 4).trans rfl, (blk_cell BK148.out 5).trans rfl, (blk_cell BK148.out 6).trans rfl, (blk_cell BK148.out 7).trans rfl⟩ (fun hHeld => ?_)
                          clear hK K
                          refine norm_ (a' := ?_) ?_ ?_
                          rotate_left
                          ·show Act.put _ (some 51) _ = _
                           simp only [Act.put, List.setIfInBounds_toArray, List.set_cons_zero, List.set_cons_succ, i64_w, i32_w]
                           rfl
                          refine pure_ (i := 4) (N := some 52) (v := ?_) (a' := ?_) #[true, true, true, true, true, false, true, true, false, false, false, true, true, false, false, false, true, true, false, false, false, true, true, false, false, false, true, true, false, false, false] rfl rfl (any_of HT_.out (by kernel_rfl)) (fun _ _ _ h => h) (Or.inl ⟨by rfl, ?_⟩) ?_ ?_
                          rotate_left
                          ·intro w'
                           go_simp
                           with_reducible rfl
                          rotate_left
                          ·simp only [Act.put, List.setIfInBounds_toArray, List.set_cons_zero, List.set_cons_succ, i64_w, i32_w]
                           rfl
                          refine pure_ (i := 5) (N := some 53) (v := ?_) (a' := ?_) #[true, true, true, true, true, true, true, true, false, false, false, true, true, false, false, false, true, true, false, false, false, true, true, false, false, false, true, true, false, false, false] rfl rfl (any_of HT_.out (by kernel_rfl)) (fun _ _ _ h => h) (Or.inl ⟨by rfl, ?_⟩) ?_ ?_
                          rotate_left
                          ·intro w'
                           go_simp
                           with_reducible rfl
                          rotate_left
                          ·simp only [Act.put, List.setIfInBounds_toArray, List.set_cons_zero, List.set_cons_succ, i64_w, i32_w]
                           rfl
                          refine one_ (i := 8) (N := some 56) #[true, true, true, true, true, true, true, true, true, false, false, true, true, false, false, false, true, true, false, false, false, true, true, false, false, false, true, true, false, false, false] rfl rfl (one_of HT_.out (by kernel_rfl)) (by decide) (fun K hK => ?_)
                          refine goes_ Tryz.func35 (by kernel_rfl) rfl #[.int .i64 ((rd_T31 ((rd_T28 l0 x6_1).f1) x7_2).f1)] (by rfl) rfl rfl zP ?_
                          with_reducible refine (q9_num.calls ((rd_T31 ((rd_T28 l0 x6_1).f1) x7_2).f1) t150 _ A19.out).mono ?_
                          rintro e w38 ⟨rfl, hb⟩
                          refine ⟨_, rfl, ?_⟩
                          have n0_ := Aside0.mk (blk_below (g := gb148) zK hb)
                          have n1_ := Aside0.mk (below_step zG hb)
                          clear BK148
                          clear HB
                          have BK148 := n0_
                          have HB := n1_
                          clear n0_ n1_
                          (try clear hb)
                          (try clear hb2)
                          (try clear hk)
                          (try clear hi)
                          refine hK.out _ _ ⟨(blk_cell BK148.out 0).trans rfl, (blk_cell BK148.out 1).trans rfl, (blk_cell BK148.out 2).trans rfl, (blk_cell BK148.out 3).trans rfl, (blk_cell BK148.out 4).trans rfl, (blk_cell BK148.out 5).trans rfl, (blk_cell BK148.out 6).trans rfl, (blk_cell BK148.out 7).trans rfl⟩ (fun hHeld => ?_)
                          clear hK K
                          refine norm_ (a' := ?_) ?_ ?_
                          rotate_left
                          ·show Act.put _ (some 56) _ = _
                           simp only [Act.put, List.setIfInBounds_toArray, List.set_cons_zero, List.set_cons_succ, i64_w, i32_w]
                           rfl
                          refine pure_ (i := 9) (N := some 57) (v := ?_) (a' := ?_) #[true, true, true, true, true, true, true, true, true, true, false, true, true, false, false, false, true, true, false, false, false, true, true, false, false, false, true, true, false, false, false] rfl rfl (any_of HT_.out (by kernel_rfl)) (fun _ _ _ h => h) (Or.inl ⟨by rfl, ?_⟩) ?_ ?_
                          rotate_left
                          ·intro w'
                           go_simp
                           with_reducible rfl
                          rotate_left
                          ·simp only [Act.put, List.setIfInBounds_toArray, List.set_cons_zero, List.set_cons_succ, i64_w, i32_w]
                           rfl
                          refine pure_ (i := 10) (N := some 58) (v := ?_) (a' := ?_) #[true, true, true, true, true, true, true, true, true, true, true, true, true, false, false, false, true, true, false, false, false, true, true, false, false, false, true, true, false, false, false] rfl rfl (any_of HT_.out (by kernel_rfl)) (fun _ _ _ h => h) (Or.inl ⟨by rfl, ?_⟩) ?_ ?_
                          rotate_left
                          ·intro w'
                           go_simp
                           with_reducible rfl
                          rotate_left
                          ·simp only [Act.put, List.setIfInBounds_toArray, List.set_cons_zero, List.set_cons_succ, i64_w, i32_w]
                           rfl
                          refine one_ (i := 13) (N := some 61) #[true, true, true, true, true, true, true, true, true, true, true, true, true, true, false, false, true, true, false, false, false, true, true, false, false, false, true, true, false, false, false] rfl rfl (one_of HT_.out (by kernel_rfl)) (by decide) (fun K hK => ?_)
                          refine goes_ Tryz.func35 (by kernel_rfl) rfl #[.int .i64 ((rd_T31 ((rd_T28 l0 x6_1).f1) x7_2).f2)] (by rfl) rfl rfl zP ?_
                          with_reducible refine (q9_num.calls ((rd_T31 ((rd_T28 l0 x6_1).f1) x7_2).f2) t151 _ A22.out).mono ?_
                          rintro e w39 ⟨rfl, hb⟩
                          refine ⟨_, rfl, ?_⟩
                          have n0_ := Aside0.mk (blk_below (g := gb148) zK hb)
                          have n1_ := Aside0.mk (below_step zG hb)
                          clear BK148
                          clear HB
                          have BK148 := n0_
                          have HB := n1_
                          clear n0_ n1_
                          (try clear hb)
                          (try clear hb2)
                          (try clear hk)
                          (try clear hi)
                          refine hK.out _ _ ⟨(blk_cell BK148.out 0).trans rfl, (blk_cell BK148.out 1).trans rfl, (blk_cell BK148.out 2).trans rfl, (blk_cell BK148.out 3).trans rfl, (blk_cell BK148.out 4).trans rfl, (blk_cell BK148.out 5).trans rfl, (blk_cell BK148.out 6).trans rfl, (blk_cell BK148.out 7).trans rfl⟩ (fun hHeld => ?_)
                          clear hK K
                          refine norm_ (a' := ?_) ?_ ?_
                          rotate_left
                          ·show Act.put _ (some 61) _ = _
                           simp only [Act.put, List.setIfInBounds_toArray, List.set_cons_zero, List.set_cons_succ, i64_w, i32_w]
                           rfl
                          refine pure_ (i := 14) (N := some 62) (v := ?_) (a' := ?_) #[true, true, true, true, true, true, true, true, true, true, true, true, true, true, true, false, true, true, false, false, false, true, true, false, false, false, true, true, false, false, false] rfl rfl (any_of HT_.out (by kernel_rfl)) (fun _ _ _ h => h) (Or.inl ⟨by rfl, ?_⟩) ?_ ?_
                          rotate_left
                          ·intro w'
                           go_simp
                           with_reducible rfl
                          rotate_left
                          ·simp only [Act.put, List.setIfInBounds_toArray, List.set_cons_zero, List.set_cons_succ, i64_w, i32_w]
                           rfl
                          refine pure_ (i := 15) (N := some 63) (v := ?_) (a' := ?_) #[true, true, true, true, true, true, true, true, true, true, true, true, true, true, true, true, true, true, false, false, false, true, true, false, false, false, true, true, false, false, false] rfl rfl (any_of HT_.out (by kernel_rfl)) (fun _ _ _ h => h) (Or.inl ⟨by rfl, ?_⟩) ?_ ?_
                          rotate_left
                          ·intro w'
                           go_simp
                           with_reducible rfl
                          rotate_left
                          ·simp only [Act.put, List.setIfInBounds_toArray, List.set_cons_zero, List.set_cons_succ, i64_w, i32_w]
                           rfl
                          refine one_ (i := 18) (N := some 66) #[true, true, true, true, true, true, true, true, true, true, true, true, true, true, true, true, true, true, true, false, false, true, true, false, false, false, true, true, false, false, false] rfl rfl (one_of HT_.out (by kernel_rfl)) (by decide) (fun K hK => ?_)
                          refine goes_ Tryz.func35 (by kernel_rfl) rfl #[.int .i64 ((rd_T31 ((rd_T28 l0 x6_1).f1) x7_2).f3)] (by rfl) rfl rfl zP ?_
                          with_reducible refine (q9_num.calls ((rd_T31 ((rd_T28 l0 x6_1).f1) x7_2).f3) t152 _ A25.out).mono ?_
                          rintro e w40 ⟨rfl, hb⟩
                          refine ⟨_, rfl, ?_⟩
                          have n0_ := Aside0.mk (blk_below (g := gb148) zK hb)
                          have n1_ := Aside0.mk (below_step zG hb)
                          clear BK148
                          clear HB
                          have BK148 := n0_
                          have HB := n1_
                          clear n0_ n1_
                          (try clear hb)
                          (try clear hb2)
                          (try clear hk)
                          (try clear hi)
                          refine hK.out _ _ ⟨(blk_cell BK148.out 0).trans rfl, (blk_cell BK148.out 1).trans rfl, (blk_cell BK148.out 2).trans rfl, (blk_cell BK148.out 3).trans rfl, (blk_cell BK148.out 4).trans rfl, (blk_cell BK148.out 5).trans rfl, (blk_cell BK148.out 6).trans rfl, (blk_cell BK148.out 7).trans rfl⟩ (fun hHeld => ?_)
                          clear hK K
                          refine norm_ (a' := ?_) ?_ ?_
                          rotate_left
                          ·show Act.put _ (some 66) _ = _
                           simp only [Act.put, List.setIfInBounds_toArray, List.set_cons_zero, List.set_cons_succ, i64_w, i32_w]
                           rfl
                          refine pure_ (i := 19) (N := some 67) (v := ?_) (a' := ?_) #[true, true, true, true, true, true, true, true, true, true, true, true, true, true, true, true, true, true, true, true, false, true, true, false, false, false, true, true, false, false, false] rfl rfl (any_of HT_.out (by kernel_rfl)) (fun _ _ _ h => h) (Or.inl ⟨by rfl, ?_⟩) ?_ ?_
                          rotate_left
                          ·intro w'
                           go_simp
                           with_reducible rfl
                          rotate_left
                          ·simp only [Act.put, List.setIfInBounds_toArray, List.set_cons_zero, List.set_cons_succ, i64_w, i32_w]
                           rfl
                          refine pure_ (i := 20) (N := some 68) (v := ?_) (a' := ?_) #[true, true, true, true, true, true, true, true, true, true, true, true, true, true, true, true, true, true, true, true, true, true, true, false, false, false, true, true, false, false, false] rfl rfl (any_of HT_.out (by kernel_rfl)) (fun _ _ _ h => h) (Or.inl ⟨by rfl, ?_⟩) ?_ ?_
                          rotate_left
                          ·intro w'
                           go_simp
                           with_reducible rfl
                          rotate_left
                          ·simp only [Act.put, List.setIfInBounds_toArray, List.set_cons_zero, List.set_cons_succ, i64_w, i32_w]
                           rfl
                          refine one_ (i := 23) (N := some 71) #[true, true, true, true, true, true, true, true, true, true, true, true, true, true, true, true, true, true, true, true, true, true, true, true, false, false, true, true, false, false, false] rfl rfl (one_of HT_.out (by kernel_rfl)) (by decide) (fun K hK => ?_)
                          refine goes_ Tryz.func35 (by kernel_rfl) rfl #[.int .i64 ((rd_T31 ((rd_T28 l0 x6_1).f1) x7_2).f4)] (by rfl) rfl rfl zP ?_
                          with_reducible refine (q9_num.calls ((rd_T31 ((rd_T28 l0 x6_1).f1) x7_2).f4) t153 _ A28.out).mono ?_
                          rintro e w41 ⟨rfl, hb⟩
                          refine ⟨_, rfl, ?_⟩
                          have n0_ := Aside0.mk (blk_below (g := gb148) zK hb)
                          have n1_ := Aside0.mk (below_step zG hb)
                          clear BK148
                          clear HB
                          have BK148 := n0_
                          have HB := n1_
                          clear n0_ n1_
                          (try clear hb)
                          (try clear hb2)
                          (try clear hk)
                          (try clear hi)
                          refine hK.out _ _ ⟨(blk_cell BK148.out 0).trans rfl, (blk_cell BK148.out 1).trans rfl, (blk_cell BK148.out 2).trans rfl, (blk_cell BK148.out 3).trans rfl, (blk_cell BK148.out 4).trans rfl, (blk_cell BK148.out 5).trans rfl, (blk_cell BK148.out 6).trans rfl, (blk_cell BK148.out 7).trans rfl⟩ (fun hHeld => ?_)
                          clear hK K
                          refine norm_ (a' := ?_) ?_ ?_
                          rotate_left
                          ·show Act.put _ (some 71) _ = _
                           simp only [Act.put, List.setIfInBounds_toArray, List.set_cons_zero, List.set_cons_succ, i64_w, i32_w]
                           rfl
                          refine pure_ (i := 24) (N := some 72) (v := ?_) (a' := ?_) #[true, true, true, true, true, true, true, true, true, true, true, true, true, true, true, true, true, true, true, true, true, true, true, true, true, false, true, true, false, false, false] rfl rfl (any_of HT_.out (by kernel_rfl)) (fun _ _ _ h => h) (Or.inl ⟨by rfl, ?_⟩) ?_ ?_
                          rotate_left
                          ·intro w'
                           go_simp
                           with_reducible rfl
                          rotate_left
                          ·simp only [Act.put, List.setIfInBounds_toArray, List.set_cons_zero, List.set_cons_succ, i64_w, i32_w]
                           rfl
                          refine pure_ (i := 25) (N := some 73) (v := ?_) (a' := ?_) #[true, true, true, true, true, true, true, true, true, true, true, true, true, true, true, true, true, true, true, true, true, true, true, true, true, true, true, true, false, false, false] rfl rfl (any_of HT_.out (by kernel_rfl)) (fun _ _ _ h => h) (Or.inl ⟨by rfl, ?_⟩) ?_ ?_
                          rotate_left
                          ·intro w'
                           go_simp
                           with_reducible rfl
                          rotate_left
                          ·simp only [Act.put, List.setIfInBounds_toArray, List.set_cons_zero, List.set_cons_succ, i64_w, i32_w]
                           rfl
                          refine one_ (i := 28) (N := some 76) #[true, true, true, true, true, true, true, true, true, true, true, true, true, true, true, true, true, true, true, true, true, true, true, true, true, true, true, true, true, false, false] rfl rfl (one_of HT_.out (by kernel_rfl)) (by decide) (fun K hK => ?_)
                          refine goes_ Tryz.func35 (by kernel_rfl) rfl #[.int .i64 ((rd_T31 ((rd_T28 l0 x6_1).f1) x7_2).f6)] (by rfl) rfl rfl zP ?_
                          with_reducible refine (q9_num.calls ((rd_T31 ((rd_T28 l0 x6_1).f1) x7_2).f6) t154 _ A31.out).mono ?_
                          rintro e w42 ⟨rfl, hb⟩
                          refine ⟨_, rfl, ?_⟩
                          have n0_ := Aside0.mk (blk_below (g := gb148) zK hb)
                          have n1_ := Aside0.mk (below_step zG hb)
                          clear BK148
                          clear HB
                          have BK148 := n0_
                          have HB := n1_
                          clear n0_ n1_
                          (try clear hb)
                          (try clear hb2)
                          (try clear hk)
                          (try clear hi)
                          refine hK.out _ _ ⟨(blk_cell BK148.out 0).trans rfl, (blk_cell BK148.out 1).trans rfl, (blk_cell BK148.out 2).trans rfl, (blk_cell BK148.out 3).trans rfl, (blk_cell BK148.out 4).trans rfl, (blk_cell BK148.out 5).trans rfl, (blk_cell BK148.out 6).trans rfl, (blk_cell BK148.out 7).trans rfl⟩ (fun hHeld => ?_)
                          clear hK K
                          refine norm_ (a' := ?_) ?_ ?_
                          rotate_left
                          ·show Act.put _ (some 76) _ = _
                           simp only [Act.put, List.setIfInBounds_toArray, List.set_cons_zero, List.set_cons_succ, i64_w, i32_w]
                           rfl
                          refine pure_ (i := 29) (N := some 77) (v := ?_) (a' := ?_) #[true, true, true, true, true, true, true, true, true, true, true, true, true, true, true, true, true, true, true, true, true, true, true, true, true, true, true, true, true, true, false] rfl rfl (any_of HT_.out (by kernel_rfl)) (fun _ _ _ h => h) (Or.inl ⟨by rfl, ?_⟩) ?_ ?_
                          rotate_left
                          ·intro w'
                           go_simp
                           with_reducible rfl
                          rotate_left
                          ·simp only [Act.put, List.setIfInBounds_toArray, List.set_cons_zero, List.set_cons_succ, i64_w, i32_w]
                           rfl
                          refine pure_ (i := 30) (N := some 5) (v := ?_) (a' := ?_) #[true, true, true, true, true, true, true, true, true, true, true, true, true, true, true, true, true, true, true, true, true, true, true, true, true, true, true, true, true, true, true] rfl rfl (any_of HT_.out (by kernel_rfl)) (fun _ _ _ h => h) (Or.inl ⟨by rfl, ?_⟩) ?_ ?_
                          rotate_left
                          ·intro w'
                           go_simp
                           with_reducible rfl
                          rotate_left
                          ·simp only [Act.put, List.setIfInBounds_toArray, List.set_cons_zero, List.set_cons_succ, i64_w, i32_w]
                           rfl
                          refine done_ (done_of HT_.out (by kernel_rfl)) ?_
                          try go_wp2
                          go_loopg [5, 9] k2 (fun kq v5 v9 w' => ∃ (x5_3 : ByteArray) (x9_3 : Int), v5 = .string x5_3 ∧ v9 = .int .i64 x9_3 ∧ Aside0 (q9_Show.l2 kq l0 x5_3 x6_1 x7_2 x9_3 ((rd_T31 ((rd_T28 l0 x6_1).f1) x7_2).f0) ((rd_T31 ((rd_T28 l0 x6_1).f1) x7_2).f1) ((rd_T31 ((rd_T28 l0 x6_1).f1) x7_2).f2) ((rd_T31 ((rd_T28 l0 x6_1).f1) x7_2).f3) ((rd_T31 ((rd_T28 l0 x6_1).f1) x7_2).f4) ((rd_T31 ((rd_T28 l0 x6_1).f1) x7_2).f5) ((rd_T31 ((rd_T28 l0 x6_1).f1) x7_2).f6) ((rd_T31 ((rd_T28 l0 x6_1).f1) x7_2).f7) = some (r1, r2)) ∧ Aside0 (kq ≤ k2) ∧ Aside0 (w'.heap[gb148]? = some (.cells #[.int .i64 ((rd_T31 ((rd_T28 l0 x6_1).f1) x7_2).f0), .int .i64 ((rd_T31 ((rd_T28 l0 x6_1).f1) x7_2).f1), .int .i64 ((rd_T31 ((rd_T28 l0 x6_1).f1) x7_2).f2), .int .i64 ((rd_T31 ((rd_T28 l0 x6_1).f1) x7_2).f3), .int .i64 ((rd_T31 ((rd_T28 l0 x6_1).f1) x7_2).f4), .string ((rd_T31 ((rd_T28 l0 x6_1).f1) x7_2).f5), .int .i64 ((rd_T31 ((rd_T28 l0 x6_1).f1) x7_2).f6), (.slice A147_7 ((rd_T31 ((rd_T28 l0 x6_1).f1) x7_2).f7).length c147_7)] 31 (0, 0))) ∧ Aside0 (Below w.heap.size w w'))
                          case atStart => exact ⟨(((((((((((x5_2 ++ t149) ++ (⟨#[32]⟩ : ByteArray)) ++ t150) ++ (⟨#[32]⟩ : ByteArray)) ++ t151) ++ (⟨#[32]⟩ : ByteArray)) ++ t152) ++ (⟨#[32]⟩ : ByteArray)) ++ t153) ++ (⟨#[32]⟩ : ByteArray)) ++ t154), (0), zR, zR, H', ⟨Nat.le_refl _⟩, ⟨zK⟩, ⟨zG⟩⟩
                          case round =>
                           clear H'
                           clear c12b0 c13b0 c14b0 c15b0 c17 c17b0 c17b1 c17b2 c18 c18b0 c18b1 c18b2 c20 c20b0 c20b1 c20b2 c21 c21b0 c21b1 c21b2 c23 c23b0 c23b1 c23b2 c24 c24b0 c24b1 c24b2 c26 c26b0 c26b1 c26b2 c27 c27b0 c27b1 c27b2 c29 c29b0 c29b1 c29b2 c30 c30b0 c30b1 c30b2 c32 c32b0 c32b1 c32b2 hcz34_0 hcz34_1 hcz34_2 hcz34_3 hcz34_4 hcz34_5 hcz34_6 hcz34_7 hfz34_0 hfz34_1 hfz34_2 hfz34_3 hfz34_4 hfz34_5 hfz34_6 hfz34_7 hx145_0 hx145_1 hx146_0 hx146_1 hx147_0 hx147_1 hx147_2 hx147_3 hx147_4 hx147_5 hx147_6 hx147_7 p145 p146 p147 q145 q146 q147
                           obtain ⟨x5_3, x9_3, rfl, rfl, HA, HK3, BK148, HB⟩ := hrel
                           cases gk with
                           | zero => exact absurd HA.out (by simp [q9_Show.l2])
                           | succ k3 =>
                            have H := HA.out
                            clear HA
                            simp only [q9_Show.l2] at H
                            by_cases c43 : x9_3 < (((rd_T31 ((rd_T28 l0 x6_1).f1) x7_2).f7).length : Int)
                            ·rw [if_pos c43] at H
                             have c43b0 : decide (x9_3 < (((rd_T31 ((rd_T28 l0 x6_1).f1) x7_2).f7).length : Int)) = true := decide_eq_true c43
                             clear c43
                             by_cases c44 : x5_3.size + 1 ≤ 9223372036854775807
                             ·rw [if_pos c44] at H
                              have c44b0 := eq_true c44
                              have c44b1 : decide (x5_3.size + 1 ≤ 9223372036854775807) = true := decide_eq_true c44
                              try have c44b2 : (9223372036854775807 < x5_3.size + 1) = False := eq_false (Nat.not_lt.2 c44)
                              by_cases c45 : 0 ≤ x9_3
                              ·rw [if_pos c45] at H
                               have c45b0 : decide (0 ≤ x9_3) = true := decide_eq_true c45
                               clear c45
                               obtain ⟨t156, A46, H⟩ := zO H
                               by_cases c47 : (x5_3 ++ (⟨#[32]⟩ : ByteArray)).size + t156.size ≤ 9223372036854775807
                               ·rw [if_pos c47] at H
                                have c47b0 := eq_true c47
                                have c47b1 : decide ((x5_3 ++ (⟨#[32]⟩ : ByteArray)).size + t156.size ≤ 9223372036854775807) = true := decide_eq_true c47
                                try have c47b2 : (9223372036854775807 < (x5_3 ++ (⟨#[32]⟩ : ByteArray)).size + t156.size) = False := eq_false (Nat.not_lt.2 c47)
                                try have c47b7 : (9223372036854775807 < x5_3.size + 1 + t156.size) = False := by have hh_ := c47b2; simp only [ByteArray.size_append] at hh_; exact hh_
                                have H' := Aside0.mk H
                                clear H
                                obtain ⟨hcz48_0, hcz48_1, hcz48_2, hcz48_3, hcz48_4, hcz48_5, hcz48_6, hcz48_7, hfz48_0, hfz48_1, hfz48_2, hfz48_3, hfz48_4, hfz48_5, hfz48_6, hfz48_7⟩ := zd8 BK148.out (.int .i64 ((rd_T31 ((rd_T28 l0 x6_1).f1) x7_2).f0)) (.int .i64 ((rd_T31 ((rd_T28 l0 x6_1).f1) x7_2).f1)) (.int .i64 ((rd_T31 ((rd_T28 l0 x6_1).f1) x7_2).f2)) (.int .i64 ((rd_T31 ((rd_T28 l0 x6_1).f1) x7_2).f3)) (.int .i64 ((rd_T31 ((rd_T28 l0 x6_1).f1) x7_2).f4)) (.string ((rd_T31 ((rd_T28 l0 x6_1).f1) x7_2).f5)) (.int .i64 ((rd_T31 ((rd_T28 l0 x6_1).f1) x7_2).f6)) (.slice A147_7 ((rd_T31 ((rd_T28 l0 x6_1).f1) x7_2).f7).length c147_7)
                                have p155 : 0 ≤ (x9_3 : Int) := of_decide_eq_true zA
                                have q155 : x9_3 < (((rd_T31 ((rd_T28 l0 x6_1).f1) x7_2).f7).length : Int) := of_decide_eq_true zA
                                obtain ⟨ad155, e155, hx155_0⟩ := Kd.at_int HR147_7.out x9_3 p155 q155
                                cases e155
                                replace hx155_0 := (HB.out.cell (World.block_lt_of_cell? w _ hx155_0)).trans hx155_0
                                replace p155 := eq_true p155
                                replace q155 := eq_true q155
                                go_wp2_with (first | ((with_reducible refine gate_callee (f := 35) rfl ?_); refine goesL_ (some 92) rfl rfl Tryz.func35 (by kernel_rfl) rfl #[.int .i64 (rd ((rd_T31 ((rd_T28 l0 x6_1).f1) x7_2).f7) x9_3)] rfl zP ?_; (with_reducible refine (q9_num.calls (rd ((rd_T31 ((rd_T28 l0 x6_1).f1) x7_2).f7) x9_3) t156 _ A46.out).mono ?_); rintro e w49 ⟨rfl, hb⟩; refine ⟨_, rfl, ?_⟩; replace BK148 := Aside0.mk (blk_below (g := gb148) zK hb); replace HB := Aside0.mk (below_step zG hb); (try clear hb)))
                                go_roundg k3
                                case measure => have := HK1.out; have := HK2.out; have := HK3.out; omega
                                case rel => exact ⟨((x5_3 ++ (⟨#[32]⟩ : ByteArray)) ++ t156), (wrap64 (x9_3 + 1)), zR, zR, H', ⟨by have := HK1.out; have := HK2.out; have := HK3.out; omega⟩, ⟨zK⟩, ⟨zG⟩⟩
                               ·rw [if_neg c47] at H
                                exact absurd H (by simp)
                              ·rw [if_neg c45] at H
                               exact absurd H (by simp)
                             ·rw [if_neg c44] at H
                              exact absurd H (by simp)
                            ·rw [if_neg c43] at H
                             have c43b0 : decide (x9_3 < (((rd_T31 ((rd_T28 l0 x6_1).f1) x7_2).f7).length : Int)) = false := decide_eq_false c43
                             clear c43
                             by_cases c50 : x5_3.size + 1 ≤ 9223372036854775807
                             ·rw [if_pos c50] at H
                              have c50b0 := eq_true c50
                              have c50b1 : decide (x5_3.size + 1 ≤ 9223372036854775807) = true := decide_eq_true c50
                              try have c50b2 : (9223372036854775807 < x5_3.size + 1) = False := eq_false (Nat.not_lt.2 c50)
                              obtain ⟨t157, A51, H⟩ := zO H
                              by_cases c52 : (x5_3 ++ (⟨#[32]⟩ : ByteArray)).size + t157.size ≤ 9223372036854775807
                              ·rw [if_pos c52] at H
                               have c52b0 := eq_true c52
                               have c52b1 : decide ((x5_3 ++ (⟨#[32]⟩ : ByteArray)).size + t157.size ≤ 9223372036854775807) = true := decide_eq_true c52
                               try have c52b2 : (9223372036854775807 < (x5_3 ++ (⟨#[32]⟩ : ByteArray)).size + t157.size) = False := eq_false (Nat.not_lt.2 c52)
                               try have c52b7 : (9223372036854775807 < x5_3.size + 1 + t157.size) = False := by have hh_ := c52b2; simp only [ByteArray.size_append] at hh_; exact hh_
                               by_cases c53 : ((x5_3 ++ (⟨#[32]⟩ : ByteArray)) ++ t157).size + 1 ≤ 9223372036854775807
                               ·rw [if_pos c53] at H
                                have c53b0 := eq_true c53
                                have c53b1 : decide (((x5_3 ++ (⟨#[32]⟩ : ByteArray)) ++ t157).size + 1 ≤ 9223372036854775807) = true := decide_eq_true c53
                                try have c53b2 : (9223372036854775807 < ((x5_3 ++ (⟨#[32]⟩ : ByteArray)) ++ t157).size + 1) = False := eq_false (Nat.not_lt.2 c53)
                                try have c53b7 : (9223372036854775807 < x5_3.size + 1 + t157.size + 1) = False := by have hh_ := c53b2; simp only [ByteArray.size_append] at hh_; exact hh_
                                have H' := Aside0.mk H
                                clear H
                                obtain ⟨hcz54_0, hcz54_1, hcz54_2, hcz54_3, hcz54_4, hcz54_5, hcz54_6, hcz54_7, hfz54_0, hfz54_1, hfz54_2, hfz54_3, hfz54_4, hfz54_5, hfz54_6, hfz54_7⟩ := zd8 BK148.out (.int .i64 ((rd_T31 ((rd_T28 l0 x6_1).f1) x7_2).f0)) (.int .i64 ((rd_T31 ((rd_T28 l0 x6_1).f1) x7_2).f1)) (.int .i64 ((rd_T31 ((rd_T28 l0 x6_1).f1) x7_2).f2)) (.int .i64 ((rd_T31 ((rd_T28 l0 x6_1).f1) x7_2).f3)) (.int .i64 ((rd_T31 ((rd_T28 l0 x6_1).f1) x7_2).f4)) (.string ((rd_T31 ((rd_T28 l0 x6_1).f1) x7_2).f5)) (.int .i64 ((rd_T31 ((rd_T28 l0 x6_1).f1) x7_2).f6)) (.slice A147_7 ((rd_T31 ((rd_T28 l0 x6_1).f1) x7_2).f7).length c147_7)
                                go_wp2_with (first | ((with_reducible refine gate_callee (f := 36) rfl ?_); refine goesL_ (some 98) rfl rfl Tryz.func36 (by kernel_rfl) rfl #[.string ((rd_T31 ((rd_T28 l0 x6_1).f1) x7_2).f5)] rfl zP ?_; (with_reducible refine (q2_Quote.calls k3 ((rd_T31 ((rd_T28 l0 x6_1).f1) x7_2).f5) t157 _ A51.out).mono ?_); rintro e w' ⟨rfl, ⟨nd, rfl⟩⟩; refine ⟨_, rfl, ?_⟩))
                                go_roundg k3
                                case measure => have := HK1.out; have := HK2.out; have := HK3.out; omega
                                case rel => exact ⟨(((x5_3 ++ (⟨#[32]⟩ : ByteArray)) ++ t157) ++ (⟨#[10]⟩ : ByteArray)), (wrap64 (x7_2 + 1)), zR, zR, H', ⟨by have := HK1.out; have := HK2.out; have := HK3.out; omega⟩, ⟨zG⟩⟩
                               ·rw [if_neg c53] at H
                                exact absurd H (by simp)
                              ·rw [if_neg c52] at H
                               exact absurd H (by simp)
                             ·rw [if_neg c50] at H
                              exact absurd H (by simp)
                         ·rw [if_neg c32] at H
                          exact absurd H (by simp)
                        ·rw [if_neg c30] at H
                         exact absurd H (by simp)
                       ·rw [if_neg c29] at H
                        exact absurd H (by simp)
                      ·rw [if_neg c27] at H
                       exact absurd H (by simp)
                     ·rw [if_neg c26] at H
                      exact absurd H (by simp)
                    ·rw [if_neg c24] at H
                     exact absurd H (by simp)
                   ·rw [if_neg c23] at H
                    exact absurd H (by simp)
                  ·rw [if_neg c21] at H
                   exact absurd H (by simp)
                 ·rw [if_neg c20] at H
                  exact absurd H (by simp)
                ·rw [if_neg c18] at H
                 exact absurd H (by simp)
               ·rw [if_neg c17] at H
                exact absurd H (by simp)
              ·rw [if_neg c15] at H
               exact absurd H (by simp)
             ·rw [if_neg c14] at H
              have c14b0 : decide (x7_2 < (((rd_T28 l0 x6_1).f1).length : Int)) = false := decide_eq_false c14
              clear c14
              have H' := Aside0.mk H
              clear H
              have p145 : 0 ≤ (x6_1 : Int) := of_decide_eq_true zA
              have q145 : x6_1 < (l0.length : Int) := of_decide_eq_true zA
              obtain ⟨ad145, A145_1, c145_1, e145, hx145_0, hx145_1, hl145_1, hi145_1⟩ := at_T28 HR0.out x6_1 p145 q145
              obtain rfl : ad143 = ad145 := (by injection e145)
              replace hx145_0 := (HB.out.cell (World.block_lt_of_cell? w _ hx145_0)).trans hx145_0
              replace hx145_1 := (HB.out.cell (World.block_lt_of_cell? w _ hx145_1)).trans hx145_1
              have HR145_1 := Aside0.mk hi145_1
              have HC145_1 := Aside0.mk hl145_1
              clear hi145_1 hl145_1
              replace p145 := eq_true p145
              replace q145 := eq_true q145
              go_wp2
              go_roundg k2
              case measure => have := HK1.out; have := HK2.out; omega
              case rel => exact ⟨(x5_2), (wrap64 (x6_1 + 1)), zR, zR, H', ⟨by have := HK1.out; have := HK2.out; omega⟩, ⟨zB⟩⟩
            ·rw [if_neg c13] at H
             exact absurd H (by simp)
           ·rw [if_neg c12] at H
            exact absurd H (by simp)
        ·rw [if_neg c10] at H
         exact absurd H (by simp)
       ·rw [if_neg c9] at H
        exact absurd H (by simp)
      ·rw [if_neg c7] at H
       exact absurd H (by simp)
     ·rw [if_neg c6] at H
      exact absurd H (by simp)
    ·rw [if_neg c5] at H
     have c5b0 : decide (x6_1 < (l0.length : Int)) = false := decide_eq_false c5
     clear c5
     simp only [Option.some.injEq, Prod.mk.injEq] at H
     obtain ⟨rfl, rfl⟩ := H
     go_wp2
     go_ret2
     exact ⟨zE, zB⟩
 ·replace c3 := Bool.eq_false_iff.mpr c3
  subst c3
  rw [if_neg (show ¬ (false = true) by decide)] at H
  simp only [Option.some.injEq, Prod.mk.injEq] at H
  obtain ⟨rfl, rfl⟩ := H
  go_enter Tryz.func15, Tryz.ntmps15
  go_wp2_with (first | ((with_reducible refine gate_callee (f := 13) rfl ?_); refine goesL_ (some 11) rfl rfl Tryz.func13 (by kernel_rfl) rfl #[.slice A0 l0.length c0] rfl zP ?_; (with_reducible refine (q9_Right.calls k _ _ l0 false _ ?side1 ?side2 A2.out).mono ?_); (case side1 => repeat (first | exact HR0.out | (with_reducible refine Kd.C_alloc ?_ _) | (with_reducible refine Kd.C_drewN ?_ _) | (with_reducible refine Kd.C_drew ?_))); (case side2 => exact HC0.out); rintro e w55 ⟨rfl, hb⟩; refine ⟨_, rfl, ?_⟩; replace HB := Aside0.mk (below_step zB hb); (try clear hb)))
  go_ret2
  exact ⟨zE, zB⟩
end Go.Proofs.YtjlhhjfmekjbhaaGreatDoor.Pq

namespace Go.Proofs.YtjlhhjfmekjbhaaGreatDoor.Pq
open Go.RowKit Go.Proofs.YtjlhhjfmekjbhaaGreatDoorW.PrintWords Go.Proofs.YtjlhhjfmekjbhaaGreatDoorW.PrintLast Go.Proofs.YtjlhhjfmekjbhaaGreatDoorW.PrintMore
set_option linter.unusedVariables false
set_option linter.unusedSimpArgs false
/-! ### q9_sameIns: function 41 -/
def q9_sameIns.l0 : Nat → Int → Int → Int → Int → Int → Int → ByteArray → Int → List Int → Int → Int → Int → Int → Int → ByteArray → Int → List Int → Option (Bool)
 | 0, _, _, _, _, _, _, _, _, _, _, _, _, _, _, _, _, _ => none
 | k + 1, x5, x159000, x159001, x159002, x159003, x159004, x159005, x159006, x159007, x160000, x160001, x160002, x160003, x160004, x160005, x160006, x160007 => if x5 < (x159007.length : Int) then (if 0 ≤ x5 then (if x5 < (x160007.length : Int) then (if (rd x159007 x5) = (rd x160007 x5) then (q9_sameIns.l0 k (wrap64 (x5 + 1)) x159000 x159001 x159002 x159003 x159004 x159005 x159006 x159007 x160000 x160001 x160002 x160003 x160004 x160005 x160006 x160007) else (some false)) else (none)) else (none)) else (if x159000 = x160000 then (if x159001 = x160001 then (if x159002 = x160002 then (if x159003 = x160003 then (if x159004 = x160004 then (if x159005.toList = x160005.toList then (some (x159006 == x160006)) else (some false)) else (some false)) else (some false)) else (some false)) else (some false)) else (some false))
def q9_sameIns.f (k : Nat) (a0_0 : Int) (a0_1 : Int) (a0_2 : Int) (a0_3 : Int) (a0_4 : Int) (a0_5 : ByteArray) (a0_6 : Int) (l0_7 : List Int) (a1_0 : Int) (a1_1 : Int) (a1_2 : Int) (a1_3 : Int) (a1_4 : Int) (a1_5 : ByteArray) (a1_6 : Int) (l1_7 : List Int) : Option (Bool) := if (l0_7.length : Int) = (l1_7.length : Int) then (q9_sameIns.l0 k 0 a0_0 a0_1 a0_2 a0_3 a0_4 a0_5 a0_6 l0_7 a1_0 a1_1 a1_2 a1_3 a1_4 a1_5 a1_6 l1_7) else (some false)
end Go.Proofs.YtjlhhjfmekjbhaaGreatDoor.Pq

namespace Go.Proofs.YtjlhhjfmekjbhaaGreatDoor.Pq
open Go.RowKit Go.Proofs.YtjlhhjfmekjbhaaGreatDoorW.PrintWords Go.Proofs.YtjlhhjfmekjbhaaGreatDoorW.PrintLast Go.Proofs.YtjlhhjfmekjbhaaGreatDoorW.PrintMore
set_option linter.unusedVariables false
set_option linter.unusedSimpArgs false
/-! ### q9_Same: function 20 -/
mutual
def q9_Same.l0 : Nat → List (S28) → List (S28) → Int → Option (Bool)
 | 0, _, _, _ => none
 | k + 1, x0, x1, x5 => if x5 < (x0.length : Int) then (if 0 ≤ x5 then (if x5 < (x1.length : Int) then (if ((rd_T28 x0 x5).f0) = ((rd_T28 x1 x5).f0) then (q9_Same.j1 k x0 x1 x5 ((((rd_T28 x0 x5).f1).length : Int) != (((rd_T28 x1 x5).f1).length : Int))) else (q9_Same.j1 k x0 x1 x5 true)) else (none)) else (none)) else (some true)
def q9_Same.j1 : Nat → List (S28) → List (S28) → Int → Bool → Option (Bool)
 | 0, _, _, _, _ => none
 | k + 1, x0, x1, x5, x43 => if x43 = true then (some false) else (q9_Same.l1 k x0 x1 x5 0)
def q9_Same.l1 : Nat → List (S28) → List (S28) → Int → Int → Option (Bool)
 | 0, _, _, _, _ => none
 | k + 1, x0, x1, x5, x6 => if 0 ≤ x5 then (if x5 < (x0.length : Int) then (if x6 < (((rd_T28 x0 x5).f1).length : Int) then (if 0 ≤ x6 then (if x5 < (x1.length : Int) then (if x6 < (((rd_T28 x1 x5).f1).length : Int) then ((q9_sameIns.f k ((rd_T31 ((rd_T28 x0 x5).f1) x6).f0) ((rd_T31 ((rd_T28 x0 x5).f1) x6).f1) ((rd_T31 ((rd_T28 x0 x5).f1) x6).f2) ((rd_T31 ((rd_T28 x0 x5).f1) x6).f3) ((rd_T31 ((rd_T28 x0 x5).f1) x6).f4) ((rd_T31 ((rd_T28 x0 x5).f1) x6).f5) ((rd_T31 ((rd_T28 x0 x5).f1) x6).f6) ((rd_T31 ((rd_T28 x0 x5).f1) x6).f7) ((rd_T31 ((rd_T28 x1 x5).f1) x6).f0) ((rd_T31 ((rd_T28 x1 x5).f1) x6).f1) ((rd_T31 ((rd_T28 x1 x5).f1) x6).f2) ((rd_T31 ((rd_T28 x1 x5).f1) x6).f3) ((rd_T31 ((rd_T28 x1 x5).f1) x6).f4) ((rd_T31 ((rd_T28 x1 x5).f1) x6).f5) ((rd_T31 ((rd_T28 x1 x5).f1) x6).f6) ((rd_T31 ((rd_T28 x1 x5).f1) x6).f7)).bind fun t171 => (if t171 = true then (q9_Same.l1 k x0 x1 x5 (wrap64 (x6 + 1))) else (some false))) else (none)) else (none)) else (none)) else (q9_Same.l0 k x0 x1 (wrap64 (x5 + 1)))) else (none)) else (none)
end
def q9_Same.f (k : Nat) (l0 : List (S28)) (l1 : List (S28)) : Option (Bool) := if (l0.length : Int) = (l1.length : Int) then (q9_Same.l0 k l0 l1 0) else (some false)
end Go.Proofs.YtjlhhjfmekjbhaaGreatDoor.Pq

