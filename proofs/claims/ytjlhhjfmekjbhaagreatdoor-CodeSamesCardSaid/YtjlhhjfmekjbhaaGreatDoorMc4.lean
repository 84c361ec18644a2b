/- Lemmas for the claims of this seat (own texts, packed; what the claims do not use is left out). No condition. -/
import Derived.Test.YtjlhhjfmekjbhaaGreatDoorMc0
import Derived.Test.YtjlhhjfmekjbhaaGreatDoorMc1
import Derived.Test.YtjlhhjfmekjbhaaGreatDoorMc3
namespace Go.Proofs.YtjlhhjfmekjbhaaGreatDoor.Pq
open Go.RowKit Go.Proofs.YtjlhhjfmekjbhaaGreatDoorW.PrintWords Go.Proofs.YtjlhhjfmekjbhaaGreatDoorW.PrintLast Go.Proofs.YtjlhhjfmekjbhaaGreatDoorW.PrintMore
set_option linter.unusedVariables false
set_option linter.unusedSimpArgs false
/-! ### gumshoeref09_Same: function 20 -/
mutual
def gumshoeref09_Same.l0 : Nat → List (S28) → List (S28) → Int → Option (Bool)
 | 0, _, _, _ => none
 | k + 1, x0, x1, x5 => if x5 < (x0.length : Int) then (if 0 ≤ x5 then (if x5 < (x1.length : Int) then (if ((rd_T28 x0 x5).f0) = ((rd_T28 x1 x5).f0) then (gumshoeref09_Same.j1 k x0 x1 x5 ((((rd_T28 x0 x5).f1).length : Int) != (((rd_T28 x1 x5).f1).length : Int))) else (gumshoeref09_Same.j1 k x0 x1 x5 true)) else (none)) else (none)) else (some true)
def gumshoeref09_Same.j1 : Nat → List (S28) → List (S28) → Int → Bool → Option (Bool)
 | 0, _, _, _, _ => none
 | k + 1, x0, x1, x5, x43 => if x43 = true then (some false) else (gumshoeref09_Same.l1 k x0 x1 x5 0)
def gumshoeref09_Same.l1 : Nat → List (S28) → List (S28) → Int → Int → Option (Bool)
 | 0, _, _, _, _ => none
 | k + 1, x0, x1, x5, x6 => if 0 ≤ x5 then (if x5 < (x0.length : Int) then (if x6 < (((rd_T28 x0 x5).f1).length : Int) then (if 0 ≤ x6 then (if x5 < (x1.length : Int) then (if x6 < (((rd_T28 x1 x5).f1).length : Int) then ((gumshoeref09_sameIns.f k ((rd_T31 ((rd_T28 x0 x5).f1) x6).f0) ((rd_T31 ((rd_T28 x0 x5).f1) x6).f1) ((rd_T31 ((rd_T28 x0 x5).f1) x6).f2) ((rd_T31 ((rd_T28 x0 x5).f1) x6).f3) ((rd_T31 ((rd_T28 x0 x5).f1) x6).f4) ((rd_T31 ((rd_T28 x0 x5).f1) x6).f5) ((rd_T31 ((rd_T28 x0 x5).f1) x6).f6) ((rd_T31 ((rd_T28 x0 x5).f1) x6).f7) ((rd_T31 ((rd_T28 x1 x5).f1) x6).f0) ((rd_T31 ((rd_T28 x1 x5).f1) x6).f1) ((rd_T31 ((rd_T28 x1 x5).f1) x6).f2) ((rd_T31 ((rd_T28 x1 x5).f1) x6).f3) ((rd_T31 ((rd_T28 x1 x5).f1) x6).f4) ((rd_T31 ((rd_T28 x1 x5).f1) x6).f5) ((rd_T31 ((rd_T28 x1 x5).f1) x6).f6) ((rd_T31 ((rd_T28 x1 x5).f1) x6).f7)).bind fun t171 => (if t171 = true then (gumshoeref09_Same.l1 k x0 x1 x5 (wrap64 (x6 + 1))) else (some false))) else (none)) else (none)) else (none)) else (gumshoeref09_Same.l0 k x0 x1 (wrap64 (x5 + 1)))) else (none)) else (none)
end
def gumshoeref09_Same.f (k : Nat) (l0 : List (S28)) (l1 : List (S28)) : Option (Bool) := if (l0.length : Int) = (l1.length : Int) then (gumshoeref09_Same.l0 k l0 l1 0) else (some false)
def gumshoeref09_Same.T6 : Bool × List (List Nat × List Nat) := (true, [([], []), ([], []), ([0, 1], [0, 1]), ([2], [2]), ([3], [3]), ([], []), ([], []), ([5, 6], [5, 6]), ([7], [7]), ([8], [8]), ([4, 9], [4, 9]), ([10], [10]), ([11], [11]), ([11], [11]), ([12, 13, 11], [11, 12, 13]), ([14, 11], [11, 14]), ([15, 11], [11, 15]), ([16, 11], [11, 16]), ([11], [11]), ([11], [11]), ([18, 19, 11], [11, 18, 19]), ([20, 11], [11, 20]), ([21, 11], [11, 21]), ([22, 11], [11, 22]), ([17, 23, 11], [11, 17, 23]), ([11, 24], [11, 24])])
def gumshoeref09_Same.B6 : List Nat := [0, 0, 3, 7, 15, 0, 0, 96, 224, 480, 1023, 2047, 4095, 4095, 16383, 32767, 65535, 131071, 4095, 4095, 790527, 1839103, 3936255, 8130559, 16777215, 33554431]
theorem gumshoeref09_Same.tab6 : rtab .any (opsOf Tryz.f20 6) = gumshoeref09_Same.T6 := by kernel_rfl
theorem gumshoeref09_Same.bits6 : waitsOk gumshoeref09_Same.T6.2 gumshoeref09_Same.B6 = true := by kernel_rfl
def gumshoeref09_Same.T11 : Bool × List (List Nat × List Nat) := (true, [([], []), ([], []), ([0, 1], [0, 1]), ([2], [2]), ([3], [3]), ([], []), ([4, 5], [4, 5]), ([6], [6]), ([], []), ([], []), ([8, 9], [8, 9]), ([10], [10]), ([11], [11]), ([], []), ([12, 13], [12, 13]), ([14], [14]), ([7, 15], [7, 15]), ([16], [16])])
def gumshoeref09_Same.B11 : List Nat := [0, 0, 3, 7, 15, 0, 63, 127, 0, 0, 768, 1792, 3840, 0, 16128, 32512, 65535, 131071]
theorem gumshoeref09_Same.tab11 : rtab .any (opsOf Tryz.f20 11) = gumshoeref09_Same.T11 := by kernel_rfl
theorem gumshoeref09_Same.bits11 : waitsOk gumshoeref09_Same.T11.2 gumshoeref09_Same.B11 = true := by kernel_rfl
set_option maxHeartbeats 8000000 in
set_option maxRecDepth 100000 in
theorem gumshoeref09_Same.calls (k : Nat) (A0 : Option Addr) (c0 : Nat) (l0 : List (S28)) (A1 : Option Addr) (c1 : Nat) (l1 : List (S28)) (r : Bool) (w : World) (hr0 : Kd.C k28 w A0 l0.length l0) (hc0 : l0.length ≤ c0) (hr1 : Kd.C k28 w A1 l1.length l1) (hc1 : l1.length ≤ c1) (h : gumshoeref09_Same.f k l0 l1 = some r) :
  Calls Tryz.prog 20 #[.slice A0 l0.length c0, .slice A1 l1.length c1] w fun e w' => e = .returned (.bool r) ∧ Below w.heap.size w w' := by
 have hu31 := Tryz.underlying31
 have HR0 := Aside0.mk hr0
 have HC0 := Aside0.mk hc0
 clear hr0 hc0
 have HR1 := Aside0.mk hr1
 have HC1 := Aside0.mk hc1
 clear hr1 hc1
 have HB := Aside0.mk (Below.refl w.heap.size w)
 have H : (if (l0.length : Int) = (l1.length : Int) then (gumshoeref09_Same.l0 k l0 l1 0) else (some false)) = some r := h
 clear h
 by_cases c3 : (l0.length : Int) = (l1.length : Int)
 ·rw [if_pos c3] at H
  have c3b0 : ((l0.length : Int) == (l1.length : Int)) = true := beq_iff_eq.mpr c3
  have c3b1 : ((l0.length : Int) != (l1.length : Int)) = false := bne_eq_false_iff_eq.mpr c3
  have c3b2 : (l0.length == l1.length) = true := by first | simpa using c3 | (simp at c3 ⊢; omega)
  clear c3
  have H' := Aside0.mk H
  clear H
  go_enter Tryz.func20, Tryz.ntmps20
  go_wp2
  go_loopg [5] k (fun kq v5 w' => ∃ (x5_1 : Int), v5 = .int .i64 x5_1 ∧ Aside0 (gumshoeref09_Same.l0 kq l0 l1 x5_1 = some r) ∧ Aside0 (kq ≤ k) ∧ Aside0 (Below w.heap.size w w'))
  case atStart => exact ⟨(0), zR, H', ⟨Nat.le_refl _⟩, ⟨zB⟩⟩
  case round =>
   clear H'
   clear c3b0 c3b1 c3b2
   obtain ⟨x5_1, rfl, HA, HK1, HB⟩ := hrel
   cases gk with
   | zero => exact absurd HA.out (by simp [gumshoeref09_Same.l0])
   | succ k1 =>
    have H := HA.out
    clear HA
    simp only [gumshoeref09_Same.l0] at H
    by_cases c4 : x5_1 < (l0.length : Int)
    ·rw [if_pos c4] at H
     have c4b0 : decide (x5_1 < (l0.length : Int)) = true := decide_eq_true c4
     clear c4
     have HC5 := Aside0.mk H
     clear H
     go_upto_region 6 with (fail)
     go_cut [43] (fun v43 wc => ∃ (kq : Nat) (x43_4 : Bool), v43 = .bool x43_4 ∧ Aside0 (gumshoeref09_Same.j1 kq l0 l1 x5_1 x43_4 = some r) ∧ Aside0 (kq ≤ k1) ∧ Aside0 (Below w.heap.size w wc))
     case first =>
      have H := HC5.out
      clear HC5
      by_cases c6 : 0 ≤ x5_1
      ·rw [if_pos c6] at H
       have c6b0 : decide (0 ≤ x5_1) = true := decide_eq_true c6
       clear c6
       (first | rw [c6b0] | (simp only [i64_w, i32_w]; rw [c6b0]) | skip)
       by_cases c7 : x5_1 < (l1.length : Int)
       ·rw [if_pos c7] at H
        have c7b0 : decide (x5_1 < (l1.length : Int)) = true := decide_eq_true c7
        clear c7
        by_cases c8 : ((rd_T28 l0 x5_1).f0) = ((rd_T28 l1 x5_1).f0)
        ·rw [if_pos c8] at H
         have c8b0 : (((rd_T28 l0 x5_1).f0) == ((rd_T28 l1 x5_1).f0)) = true := beq_iff_eq.mpr c8
         have c8b1 : (((rd_T28 l0 x5_1).f0) != ((rd_T28 l1 x5_1).f0)) = false := bne_eq_false_iff_eq.mpr c8
         clear c8
         have H' := Aside0.mk H
         clear H
         try go_wp2
         have n0_ := Aside0.mk (below_drew1 HB.out)
         clear HB
         have HB := n0_
         clear n0_
         have p162 : 0 ≤ (x5_1 : Int) := of_decide_eq_true zA
         have q162 : x5_1 < (l0.length : Int) := of_decide_eq_true zA
         obtain ⟨ad162, A162_1, c162_1, e162, hx162_0, hx162_1, hl162_1, hi162_1⟩ := at_T28 HR0.out x5_1 p162 q162
         have hw162_1 := hx162_1
         have hw162_0 := hx162_0
         cases e162
         replace hx162_0 := (HB.out.cell (World.block_lt_of_cell? w _ hx162_0)).trans hx162_0
         replace hx162_1 := (HB.out.cell (World.block_lt_of_cell? w _ hx162_1)).trans hx162_1
         have HR162_1 := Aside0.mk hi162_1
         have HC162_1 := Aside0.mk hl162_1
         clear hi162_1 hl162_1
         replace p162 := eq_true p162
         replace q162 := eq_true q162
         have p163 : 0 ≤ (x5_1 : Int) := of_decide_eq_true zA
         have q163 : x5_1 < (l1.length : Int) := of_decide_eq_true zA
         obtain ⟨ad163, A163_1, c163_1, e163, hx163_0, hx163_1, hl163_1, hi163_1⟩ := at_T28 HR1.out x5_1 p163 q163
         have hw163_1 := hx163_1
         have hw163_0 := hx163_0
         cases e163
         replace hx163_0 := (HB.out.cell (World.block_lt_of_cell? w _ hx163_0)).trans hx163_0
         replace hx163_1 := (HB.out.cell (World.block_lt_of_cell? w _ hx163_1)).trans hx163_1
         have HR163_1 := Aside0.mk hi163_1
         have HC163_1 := Aside0.mk hl163_1
         clear hi163_1 hl163_1
         replace p163 := eq_true p163
         replace q163 := eq_true q163
         have p164 : 0 ≤ (x5_1 : Int) := of_decide_eq_true zA
         have q164 : x5_1 < (l0.length : Int) := of_decide_eq_true zA
         obtain ⟨ad164, A164_1, c164_1, e164, hx164_0, hx164_1, hl164_1, hi164_1⟩ := at_T28 HR0.out x5_1 p164 q164
         have hw164_1 := hx164_1
         have hw164_0 := hx164_0
         obtain rfl : ad162 = ad164 := (by injection e164)
         replace hx164_0 := (HB.out.cell (World.block_lt_of_cell? w _ hx164_0)).trans hx164_0
         replace hx164_1 := (HB.out.cell (World.block_lt_of_cell? w _ hx164_1)).trans hx164_1
         have HR164_1 := Aside0.mk hi164_1
         have HC164_1 := Aside0.mk hl164_1
         clear hi164_1 hl164_1
         replace p164 := eq_true p164
         replace q164 := eq_true q164
         have ea_ := Option.some.inj (hx162_1.symm.trans hx164_1)
         injection ea_ with ea_ en_ ec_
         subst ea_
         subst ec_
         clear en_
         have p165 : 0 ≤ (x5_1 : Int) := of_decide_eq_true zA
         have q165 : x5_1 < (l1.length : Int) := of_decide_eq_true zA
         obtain ⟨ad165, A165_1, c165_1, e165, hx165_0, hx165_1, hl165_1, hi165_1⟩ := at_T28 HR1.out x5_1 p165 q165
         have hw165_1 := hx165_1
         have hw165_0 := hx165_0
         obtain rfl : ad163 = ad165 := (by injection e165)
         replace hx165_0 := (HB.out.cell (World.block_lt_of_cell? w _ hx165_0)).trans hx165_0
         replace hx165_1 := (HB.out.cell (World.block_lt_of_cell? w _ hx165_1)).trans hx165_1
         have HR165_1 := Aside0.mk hi165_1
         have HC165_1 := Aside0.mk hl165_1
         clear hi165_1 hl165_1
         replace p165 := eq_true p165
         replace q165 := eq_true q165
         have ea_ := Option.some.inj (hx163_1.symm.trans hx165_1)
         injection ea_ with ea_ en_ ec_
         subst ea_
         subst ec_
         clear en_
         refine start_ (n := 26) (S := fun w' => w'.cell? (ad162.add ((x5_1).toNat * 2)) = some (.int .i64 ((rd_T28 l0 x5_1).f0)) ∧ w'.cell? ⟨(ad162.add ((x5_1).toNat * 2)).block, (ad162.add ((x5_1).toNat * 2)).off + 1, none⟩ = some (.slice A162_1 ((rd_T28 l0 x5_1).f1).length c162_1) ∧ w'.cell? (ad163.add ((x5_1).toNat * 2)) = some (.int .i64 ((rd_T28 l1 x5_1).f0)) ∧ w'.cell? ⟨(ad163.add ((x5_1).toNat * 2)).block, (ad163.add ((x5_1).toNat * 2)).off + 1, none⟩ = some (.slice A163_1 ((rd_T28 l1 x5_1).f1).length c163_1) ∧ w'.cell? (ad162.add ((x5_1).toNat * 2)) = some (.int .i64 ((rd_T28 l0 x5_1).f0)) ∧ w'.cell? ⟨(ad162.add ((x5_1).toNat * 2)).block, (ad162.add ((x5_1).toNat * 2)).off + 1, none⟩ = some (.slice A162_1 ((rd_T28 l0 x5_1).f1).length c162_1) ∧ w'.cell? (ad163.add ((x5_1).toNat * 2)) = some (.int .i64 ((rd_T28 l1 x5_1).f0)) ∧ w'.cell? ⟨(ad163.add ((x5_1).toNat * 2)).block, (ad163.add ((x5_1).toNat * 2)).off + 1, none⟩ = some (.slice A163_1 ((rd_T28 l1 x5_1).f1).length c163_1)) (ds := []) #[false, false, false, false, false, false, false, false, false, false, false, false, false, false, false, false, false, false, false, false, false, false, false, false, false, false] (by kernel_rfl) rfl rfl ⟨((HB.out.cell (World.block_lt_of_cell? w _ hw162_0)).trans hw162_0), ((HB.out.cell (World.block_lt_of_cell? w _ hw162_1)).trans hw162_1), ((HB.out.cell (World.block_lt_of_cell? w _ hw163_0)).trans hw163_0), ((HB.out.cell (World.block_lt_of_cell? w _ hw163_1)).trans hw163_1), ((HB.out.cell (World.block_lt_of_cell? w _ hw164_0)).trans hw164_0), ((HB.out.cell (World.block_lt_of_cell? w _ hw164_1)).trans hw164_1), ((HB.out.cell (World.block_lt_of_cell? w _ hw165_0)).trans hw165_0), ((HB.out.cell (World.block_lt_of_cell? w _ hw165_1)).trans hw165_1)⟩ (fun hHeld => ?_); refine with_tabW gumshoeref09_Same.tab6 gumshoeref09_Same.bits6 (fun HT_ HW_ => ?_)
         generalize wr.drew = w9 at HB HR162_1 HR163_1 HR164_1 HR165_1 hx162_0 hx162_1 hx163_0 hx163_1 hx164_0 hx164_1 hx165_0 hx165_1 hHeld ⊢
         refine pure_ (i := 0) (N := some 18) (v := ?_) (a' := ?_) #[true, false, false, false, false, false, false, false, false, false, false, false, false, false, false, false, false, false, false, false, false, false, false, false, false, false] rfl rfl (any_of HT_.out (by kernel_rfl)) (fun _ _ _ h => h) (Or.inl ⟨by rfl, ?_⟩) ?_ ?_
         rotate_left
         ·intro w'
          go_simp
          with_reducible rfl
         rotate_left
         ·simp only [Act.put, List.setIfInBounds_toArray, List.set_cons_zero, List.set_cons_succ, i64_w, i32_w]
          rfl
         refine pure_ (i := 1) (N := some 19) (v := ?_) (a' := ?_) #[true, true, false, false, false, false, false, false, false, false, false, false, false, false, false, false, false, false, false, false, false, false, false, false, false, false] rfl rfl (any_of HT_.out (by kernel_rfl)) (fun _ _ _ h => h) (Or.inl ⟨by rfl, ?_⟩) ?_ ?_
         rotate_left
         ·intro w'
          go_simp
          with_reducible rfl
         rotate_left
         ·simp only [Act.put, List.setIfInBounds_toArray, List.set_cons_zero, List.set_cons_succ, i64_w, i32_w]
          rfl
         refine pure_ (i := 2) (N := some 20) (v := ?_) (a' := ?_) #[true, true, true, false, false, false, false, false, false, false, false, false, false, false, false, false, false, false, false, false, false, false, false, false, false, false] rfl rfl (any_of HT_.out (by kernel_rfl)) (fun _ _ _ h => h) (Or.inl ⟨by rfl, ?_⟩) ?_ ?_
         rotate_left
         ·intro w'
          go_simp
          with_reducible rfl
         rotate_left
         ·simp only [Act.put, List.setIfInBounds_toArray, List.set_cons_zero, List.set_cons_succ, i64_w, i32_w]
          rfl
         refine pure_ (i := 3) (N := some 21) (v := ?_) (a' := ?_) #[true, true, true, true, false, false, false, false, false, false, false, false, false, false, false, false, false, false, false, false, false, false, false, false, false, false] rfl rfl (any_of HT_.out (by kernel_rfl)) (fun _ _ _ h => h) (Or.inl ⟨by rfl, ?_⟩) ?_ ?_
         rotate_left
         ·intro w'
          go_simp
          with_reducible rfl
         rotate_left
         ·simp only [Act.put, List.setIfInBounds_toArray, List.set_cons_zero, List.set_cons_succ, i64_w, i32_w]
          rfl
         refine pure_ (i := 5) (N := some 23) (v := ?_) (a' := ?_) #[true, true, true, true, false, true, false, false, false, false, false, false, false, false, false, false, false, false, false, false, false, false, false, false, false, false] rfl rfl (any_of HT_.out (by kernel_rfl)) (fun _ _ _ h => h) (Or.inl ⟨by rfl, ?_⟩) ?_ ?_
         rotate_left
         ·intro w'
          go_simp
          with_reducible rfl
         rotate_left
         ·simp only [Act.put, List.setIfInBounds_toArray, List.set_cons_zero, List.set_cons_succ, i64_w, i32_w]
          rfl
         refine pure_ (i := 6) (N := some 24) (v := ?_) (a' := ?_) #[true, true, true, true, false, true, true, false, false, false, false, false, false, false, false, false, false, false, false, false, false, false, false, false, false, false] rfl rfl (any_of HT_.out (by kernel_rfl)) (fun _ _ _ h => h) (Or.inl ⟨by rfl, ?_⟩) ?_ ?_
         rotate_left
         ·intro w'
          go_simp
          with_reducible rfl
         rotate_left
         ·simp only [Act.put, List.setIfInBounds_toArray, List.set_cons_zero, List.set_cons_succ, i64_w, i32_w]
          rfl
         refine pure_ (i := 7) (N := some 25) (v := ?_) (a' := ?_) #[true, true, true, true, false, true, true, true, false, false, false, false, false, false, false, false, false, false, false, false, false, false, false, false, false, false] rfl rfl (any_of HT_.out (by kernel_rfl)) (fun _ _ _ h => h) (Or.inl ⟨by rfl, ?_⟩) ?_ ?_
         rotate_left
         ·intro w'
          go_simp
          with_reducible rfl
         rotate_left
         ·simp only [Act.put, List.setIfInBounds_toArray, List.set_cons_zero, List.set_cons_succ, i64_w, i32_w]
          rfl
         refine pure_ (i := 8) (N := some 26) (v := ?_) (a' := ?_) #[true, true, true, true, false, true, true, true, true, false, false, false, false, false, false, false, false, false, false, false, false, false, false, false, false, false] rfl rfl (any_of HT_.out (by kernel_rfl)) (fun _ _ _ h => h) (Or.inl ⟨by rfl, ?_⟩) ?_ ?_
         rotate_left
         ·intro w'
          go_simp
          with_reducible rfl
         rotate_left
         ·simp only [Act.put, List.setIfInBounds_toArray, List.set_cons_zero, List.set_cons_succ, i64_w, i32_w]
          rfl
         refine take_ (i := 4) (N := some 22) (v := ?_) (a' := ?_) #[true, true, true, true, true, true, true, true, true, false, false, false, false, false, false, false, false, false, false, false, false, false, false, false, false, false] rfl rfl (take_ofW HT_.out HW_.out (by kernel_rfl)) (fun _ _ _ h => h) (Or.inl ⟨by rfl, ?_⟩) hHeld ?_ ?_
         rotate_left
         ·rintro w' ⟨s0, s1, s2, s3, s4, s5, s6, s7⟩
          go_simp
          with_reducible rfl
         rotate_left
         ·simp only [Act.put, List.setIfInBounds_toArray, List.set_cons_zero, List.set_cons_succ, i64_w, i32_w]
          rfl
         refine take_ (i := 9) (N := some 27) (v := ?_) (a' := ?_) #[true, true, true, true, true, true, true, true, true, true, false, false, false, false, false, false, false, false, false, false, false, false, false, false, false, false] rfl rfl (take_ofW HT_.out HW_.out (by kernel_rfl)) (fun _ _ _ h => h) (Or.inl ⟨by rfl, ?_⟩) hHeld ?_ ?_
         rotate_left
         ·rintro w' ⟨s0, s1, s2, s3, s4, s5, s6, s7⟩
          go_simp
          with_reducible rfl
         rotate_left
         ·simp only [Act.put, List.setIfInBounds_toArray, List.set_cons_zero, List.set_cons_succ, i64_w, i32_w]
          rfl
         refine pure_ (i := 10) (N := some 28) (v := ?_) (a' := ?_) #[true, true, true, true, true, true, true, true, true, true, true, false, false, false, false, false, false, false, false, false, false, false, false, false, false, false] rfl rfl (any_of HT_.out (by kernel_rfl)) (fun _ _ _ h => h) (Or.inl ⟨by rfl, ?_⟩) ?_ ?_
         rotate_left
         ·intro w'
          go_simp
          with_reducible rfl
         rotate_left
         ·simp only [Act.put, List.setIfInBounds_toArray, List.set_cons_zero, List.set_cons_succ, i64_w, i32_w]
          rfl
         refine pure_ (i := 11) (N := some 29) (v := ?_) (a' := ?_) #[true, true, true, true, true, true, true, true, true, true, true, true, false, false, false, false, false, false, false, false, false, false, false, false, false, false] rfl rfl (any_of HT_.out (by kernel_rfl)) (fun _ _ _ h => h) (Or.inl ⟨by rfl, ?_⟩) ?_ ?_
         rotate_left
         ·intro w'
          go_simp
          with_reducible rfl
         rotate_left
         ·simp only [Act.put, List.setIfInBounds_toArray, List.set_cons_zero, List.set_cons_succ, i64_w, i32_w]
          rfl
         refine pure_ (i := 12) (N := some 30) (v := ?_) (a' := ?_) #[true, true, true, true, true, true, true, true, true, true, true, true, true, false, false, false, false, false, false, false, false, false, false, false, false, false] rfl rfl (any_of HT_.out (by kernel_rfl)) (fun _ _ _ h => h) (Or.inl ⟨by rfl, ?_⟩) ?_ ?_
         rotate_left
         ·intro w'
          go_simp
          with_reducible rfl
         rotate_left
         ·simp only [Act.put, List.setIfInBounds_toArray, List.set_cons_zero, List.set_cons_succ, i64_w, i32_w]
          rfl
         refine pure_ (i := 13) (N := some 31) (v := ?_) (a' := ?_) #[true, true, true, true, true, true, true, true, true, true, true, true, true, true, false, false, false, false, false, false, false, false, false, false, false, false] rfl rfl (any_of HT_.out (by kernel_rfl)) (fun _ _ _ h => h) (Or.inl ⟨by rfl, ?_⟩) ?_ ?_
         rotate_left
         ·intro w'
          go_simp
          with_reducible rfl
         rotate_left
         ·simp only [Act.put, List.setIfInBounds_toArray, List.set_cons_zero, List.set_cons_succ, i64_w, i32_w]
          rfl
         refine pure_ (i := 14) (N := some 32) (v := ?_) (a' := ?_) #[true, true, true, true, true, true, true, true, true, true, true, true, true, true, true, false, false, false, false, false, false, false, false, false, false, false] rfl rfl (any_of HT_.out (by kernel_rfl)) (fun _ _ _ h => h) (Or.inl ⟨by rfl, ?_⟩) ?_ ?_
         rotate_left
         ·intro w'
          go_simp
          with_reducible rfl
         rotate_left
         ·simp only [Act.put, List.setIfInBounds_toArray, List.set_cons_zero, List.set_cons_succ, i64_w, i32_w]
          rfl
         refine pure_ (i := 15) (N := some 33) (v := ?_) (a' := ?_) #[true, true, true, true, true, true, true, true, true, true, true, true, true, true, true, true, false, false, false, false, false, false, false, false, false, false] rfl rfl (any_of HT_.out (by kernel_rfl)) (fun _ _ _ h => h) (Or.inl ⟨by rfl, ?_⟩) ?_ ?_
         rotate_left
         ·intro w'
          go_simp
          with_reducible rfl
         rotate_left
         ·simp only [Act.put, List.setIfInBounds_toArray, List.set_cons_zero, List.set_cons_succ, i64_w, i32_w]
          rfl
         refine pure_ (i := 18) (N := some 36) (v := ?_) (a' := ?_) #[true, true, true, true, true, true, true, true, true, true, true, true, true, true, true, true, false, false, true, false, false, false, false, false, false, false] rfl rfl (any_of HT_.out (by kernel_rfl)) (fun _ _ _ h => h) (Or.inl ⟨by rfl, ?_⟩) ?_ ?_
         rotate_left
         ·intro w'
          go_simp
          with_reducible rfl
         rotate_left
         ·simp only [Act.put, List.setIfInBounds_toArray, List.set_cons_zero, List.set_cons_succ, i64_w, i32_w]
          rfl
         refine pure_ (i := 19) (N := some 37) (v := ?_) (a' := ?_) #[true, true, true, true, true, true, true, true, true, true, true, true, true, true, true, true, false, false, true, true, false, false, false, false, false, false] rfl rfl (any_of HT_.out (by kernel_rfl)) (fun _ _ _ h => h) (Or.inl ⟨by rfl, ?_⟩) ?_ ?_
         rotate_left
         ·intro w'
          go_simp
          with_reducible rfl
         rotate_left
         ·simp only [Act.put, List.setIfInBounds_toArray, List.set_cons_zero, List.set_cons_succ, i64_w, i32_w]
          rfl
         refine pure_ (i := 20) (N := some 38) (v := ?_) (a' := ?_) #[true, true, true, true, true, true, true, true, true, true, true, true, true, true, true, true, false, false, true, true, true, false, false, false, false, false] rfl rfl (any_of HT_.out (by kernel_rfl)) (fun _ _ _ h => h) (Or.inl ⟨by rfl, ?_⟩) ?_ ?_
         rotate_left
         ·intro w'
          go_simp
          with_reducible rfl
         rotate_left
         ·simp only [Act.put, List.setIfInBounds_toArray, List.set_cons_zero, List.set_cons_succ, i64_w, i32_w]
          rfl
         refine pure_ (i := 21) (N := some 39) (v := ?_) (a' := ?_) #[true, true, true, true, true, true, true, true, true, true, true, true, true, true, true, true, false, false, true, true, true, true, false, false, false, false] rfl rfl (any_of HT_.out (by kernel_rfl)) (fun _ _ _ h => h) (Or.inl ⟨by rfl, ?_⟩) ?_ ?_
         rotate_left
         ·intro w'
          go_simp
          with_reducible rfl
         rotate_left
         ·simp only [Act.put, List.setIfInBounds_toArray, List.set_cons_zero, List.set_cons_succ, i64_w, i32_w]
          rfl
         refine take_ (i := 16) (N := some 34) (v := ?_) (a' := ?_) #[true, true, true, true, true, true, true, true, true, true, true, true, true, true, true, true, true, false, true, true, true, true, false, false, false, false] rfl rfl (take_ofW HT_.out HW_.out (by kernel_rfl)) (fun _ _ _ h => h) (Or.inl ⟨by rfl, ?_⟩) hHeld ?_ ?_
         rotate_left
         ·rintro w' ⟨s0, s1, s2, s3, s4, s5, s6, s7⟩
          go_simp
          with_reducible rfl
         rotate_left
         ·simp only [Act.put, List.setIfInBounds_toArray, List.set_cons_zero, List.set_cons_succ, i64_w, i32_w]
          rfl
         refine pure_ (i := 17) (N := some 35) (v := ?_) (a' := ?_) #[true, true, true, true, true, true, true, true, true, true, true, true, true, true, true, true, true, true, true, true, true, true, false, false, false, false] rfl rfl (any_of HT_.out (by kernel_rfl)) (fun _ _ _ h => h) (Or.inl ⟨by rfl, ?_⟩) ?_ ?_
         rotate_left
         ·intro w'
          go_simp
          with_reducible rfl
         rotate_left
         ·simp only [Act.put, List.setIfInBounds_toArray, List.set_cons_zero, List.set_cons_succ, i64_w, i32_w]
          rfl
         refine take_ (i := 22) (N := some 40) (v := ?_) (a' := ?_) #[true, true, true, true, true, true, true, true, true, true, true, true, true, true, true, true, true, true, true, true, true, true, true, false, false, false] rfl rfl (take_ofW HT_.out HW_.out (by kernel_rfl)) (fun _ _ _ h => h) (Or.inl ⟨by rfl, ?_⟩) hHeld ?_ ?_
         rotate_left
         ·rintro w' ⟨s0, s1, s2, s3, s4, s5, s6, s7⟩
          go_simp
          with_reducible rfl
         rotate_left
         ·simp only [Act.put, List.setIfInBounds_toArray, List.set_cons_zero, List.set_cons_succ, i64_w, i32_w]
          rfl
         refine pure_ (i := 23) (N := some 41) (v := ?_) (a' := ?_) #[true, true, true, true, true, true, true, true, true, true, true, true, true, true, true, true, true, true, true, true, true, true, true, true, false, false] rfl rfl (any_of HT_.out (by kernel_rfl)) (fun _ _ _ h => h) (Or.inl ⟨by rfl, ?_⟩) ?_ ?_
         rotate_left
         ·intro w'
          go_simp
          with_reducible rfl
         rotate_left
         ·simp only [Act.put, List.setIfInBounds_toArray, List.set_cons_zero, List.set_cons_succ, i64_w, i32_w]
          rfl
         refine pure_ (i := 24) (N := some 42) (v := ?_) (a' := ?_) #[true, true, true, true, true, true, true, true, true, true, true, true, true, true, true, true, true, true, true, true, true, true, true, true, true, false] rfl rfl (any_of HT_.out (by kernel_rfl)) (fun _ _ _ h => h) (Or.inl ⟨by rfl, ?_⟩) ?_ ?_
         rotate_left
         ·intro w'
          go_simp
          with_reducible rfl
         rotate_left
         ·simp only [Act.put, List.setIfInBounds_toArray, List.set_cons_zero, List.set_cons_succ, i64_w, i32_w]
          rfl
         refine pure_ (i := 25) (N := some 43) (v := ?_) (a' := ?_) #[true, true, true, true, true, true, true, true, true, true, true, true, true, true, true, true, true, true, true, true, true, true, true, true, true, true] rfl rfl (any_of HT_.out (by kernel_rfl)) (fun _ _ _ h => h) (Or.inl ⟨by rfl, ?_⟩) ?_ ?_
         rotate_left
         ·intro w'
          go_simp
          with_reducible rfl
         rotate_left
         ·simp only [Act.put, List.setIfInBounds_toArray, List.set_cons_zero, List.set_cons_succ, i64_w, i32_w]
          rfl
         refine done_ (done_of HT_.out (by kernel_rfl)) ?_
         try go_wp2
         go_meet
         case rel => exact ⟨_, (((((rd_T28 l0 x5_1).f1).length : Int) != (((rd_T28 l1 x5_1).f1).length : Int))), zR, H', ⟨by have := HK1.out; first | omega | exact Nat.le_refl _⟩, ⟨zB⟩⟩
        ·rw [if_neg c8] at H
         have c8b0 : (((rd_T28 l0 x5_1).f0) == ((rd_T28 l1 x5_1).f0)) = false := beq_eq_false_iff_ne.mpr c8
         have c8b1 : (((rd_T28 l0 x5_1).f0) != ((rd_T28 l1 x5_1).f0)) = true := bne_iff_ne.mpr c8
         have H' := Aside0.mk H
         clear H
         try go_wp2
         have n0_ := Aside0.mk (below_drew1 HB.out)
         clear HB
         have HB := n0_
         clear n0_
         have p162 : 0 ≤ (x5_1 : Int) := of_decide_eq_true zA
         have q162 : x5_1 < (l0.length : Int) := of_decide_eq_true zA
         obtain ⟨ad162, A162_1, c162_1, e162, hx162_0, hx162_1, hl162_1, hi162_1⟩ := at_T28 HR0.out x5_1 p162 q162
         have hw162_1 := hx162_1
         have hw162_0 := hx162_0
         cases e162
         replace hx162_0 := (HB.out.cell (World.block_lt_of_cell? w _ hx162_0)).trans hx162_0
         replace hx162_1 := (HB.out.cell (World.block_lt_of_cell? w _ hx162_1)).trans hx162_1
         have HR162_1 := Aside0.mk hi162_1
         have HC162_1 := Aside0.mk hl162_1
         clear hi162_1 hl162_1
         replace p162 := eq_true p162
         replace q162 := eq_true q162
         have p163 : 0 ≤ (x5_1 : Int) := of_decide_eq_true zA
         have q163 : x5_1 < (l1.length : Int) := of_decide_eq_true zA
         obtain ⟨ad163, A163_1, c163_1, e163, hx163_0, hx163_1, hl163_1, hi163_1⟩ := at_T28 HR1.out x5_1 p163 q163
         have hw163_1 := hx163_1
         have hw163_0 := hx163_0
         cases e163
         replace hx163_0 := (HB.out.cell (World.block_lt_of_cell? w _ hx163_0)).trans hx163_0
         replace hx163_1 := (HB.out.cell (World.block_lt_of_cell? w _ hx163_1)).trans hx163_1
         have HR163_1 := Aside0.mk hi163_1
         have HC163_1 := Aside0.mk hl163_1
         clear hi163_1 hl163_1
         replace p163 := eq_true p163
         replace q163 := eq_true q163
         refine start_ (n := 26) (S := fun w' => w'.cell? (ad162.add ((x5_1).toNat * 2)) = some (.int .i64 ((rd_T28 l0 x5_1).f0)) ∧ w'.cell? ⟨(ad162.add ((x5_1).toNat * 2)).block, (ad162.add ((x5_1).toNat * 2)).off + 1, none⟩ = some (.slice A162_1 ((rd_T28 l0 x5_1).f1).length c162_1) ∧ w'.cell? (ad163.add ((x5_1).toNat * 2)) = some (.int .i64 ((rd_T28 l1 x5_1).f0)) ∧ w'.cell? ⟨(ad163.add ((x5_1).toNat * 2)).block, (ad163.add ((x5_1).toNat * 2)).off + 1, none⟩ = some (.slice A163_1 ((rd_T28 l1 x5_1).f1).length c163_1)) (ds := []) #[false, false, false, false, false, false, false, false, false, false, false, false, false, false, false, false, false, false, false, false, false, false, false, false, false, false] (by kernel_rfl) rfl rfl ⟨((HB.out.cell (World.block_lt_of_cell? w _ hw162_0)).trans hw162_0), ((HB.out.cell (World.block_lt_of_cell? w _ hw162_1)).trans hw162_1), ((HB.out.cell (World.block_lt_of_cell? w _ hw163_0)).trans hw163_0), ((HB.out.cell (World.block_lt_of_cell? w _ hw163_1)).trans hw163_1)⟩ (fun hHeld => ?_); refine with_tabW gumshoeref09_Same.tab6 gumshoeref09_Same.bits6 (fun HT_ HW_ => ?_)
         generalize wr.drew = w10 at HB HR162_1 HR163_1 hx162_0 hx162_1 hx163_0 hx163_1 hHeld ⊢
         refine pure_ (i := 0) (N := some 18) (v := ?_) (a' := ?_) #[true, false, false, false, false, false, false, false, false, false, false, false, false, false, false, false, false, false, false, false, false, false, false, false, false, false] rfl rfl (any_of HT_.out (by kernel_rfl)) (fun _ _ _ h => h) (Or.inl ⟨by rfl, ?_⟩) ?_ ?_
         rotate_left
         ·intro w'
          go_simp
          with_reducible rfl
         rotate_left
         ·simp only [Act.put, List.setIfInBounds_toArray, List.set_cons_zero, List.set_cons_succ, i64_w, i32_w]
          rfl
         refine pure_ (i := 1) (N := some 19) (v := ?_) (a' := ?_) #[true, true, false, false, false, false, false, false, false, false, false, false, false, false, false, false, false, false, false, false, false, false, false, false, false, false] rfl rfl (any_of HT_.out (by kernel_rfl)) (fun _ _ _ h => h) (Or.inl ⟨by rfl, ?_⟩) ?_ ?_
         rotate_left
         ·intro w'
          go_simp
          with_reducible rfl
         rotate_left
         ·simp only [Act.put, List.setIfInBounds_toArray, List.set_cons_zero, List.set_cons_succ, i64_w, i32_w]
          rfl
         refine pure_ (i := 2) (N := some 20) (v := ?_) (a' := ?_) #[true, true, true, false, false, false, false, false, false, false, false, false, false, false, false, false, false, false, false, false, false, false, false, false, false, false] rfl rfl (any_of HT_.out (by kernel_rfl)) (fun _ _ _ h => h) (Or.inl ⟨by rfl, ?_⟩) ?_ ?_
         rotate_left
         ·intro w'
          go_simp
          with_reducible rfl
         rotate_left
         ·simp only [Act.put, List.setIfInBounds_toArray, List.set_cons_zero, List.set_cons_succ, i64_w, i32_w]
          rfl
         refine pure_ (i := 3) (N := some 21) (v := ?_) (a' := ?_) #[true, true, true, true, false, false, false, false, false, false, false, false, false, false, false, false, false, false, false, false, false, false, false, false, false, false] rfl rfl (any_of HT_.out (by kernel_rfl)) (fun _ _ _ h => h) (Or.inl ⟨by rfl, ?_⟩) ?_ ?_
         rotate_left
         ·intro w'
          go_simp
          with_reducible rfl
         rotate_left
         ·simp only [Act.put, List.setIfInBounds_toArray, List.set_cons_zero, List.set_cons_succ, i64_w, i32_w]
          rfl
         refine pure_ (i := 5) (N := some 23) (v := ?_) (a' := ?_) #[true, true, true, true, false, true, false, false, false, false, false, false, false, false, false, false, false, false, false, false, false, false, false, false, false, false] rfl rfl (any_of HT_.out (by kernel_rfl)) (fun _ _ _ h => h) (Or.inl ⟨by rfl, ?_⟩) ?_ ?_
         rotate_left
         ·intro w'
          go_simp
          with_reducible rfl
         rotate_left
         ·simp only [Act.put, List.setIfInBounds_toArray, List.set_cons_zero, List.set_cons_succ, i64_w, i32_w]
          rfl
         refine pure_ (i := 6) (N := some 24) (v := ?_) (a' := ?_) #[true, true, true, true, false, true, true, false, false, false, false, false, false, false, false, false, false, false, false, false, false, false, false, false, false, false] rfl rfl (any_of HT_.out (by kernel_rfl)) (fun _ _ _ h => h) (Or.inl ⟨by rfl, ?_⟩) ?_ ?_
         rotate_left
         ·intro w'
          go_simp
          with_reducible rfl
         rotate_left
         ·simp only [Act.put, List.setIfInBounds_toArray, List.set_cons_zero, List.set_cons_succ, i64_w, i32_w]
          rfl
         refine pure_ (i := 7) (N := some 25) (v := ?_) (a' := ?_) #[true, true, true, true, false, true, true, true, false, false, false, false, false, false, false, false, false, false, false, false, false, false, false, false, false, false] rfl rfl (any_of HT_.out (by kernel_rfl)) (fun _ _ _ h => h) (Or.inl ⟨by rfl, ?_⟩) ?_ ?_
         rotate_left
         ·intro w'
          go_simp
          with_reducible rfl
         rotate_left
         ·simp only [Act.put, List.setIfInBounds_toArray, List.set_cons_zero, List.set_cons_succ, i64_w, i32_w]
          rfl
         refine pure_ (i := 8) (N := some 26) (v := ?_) (a' := ?_) #[true, true, true, true, false, true, true, true, true, false, false, false, false, false, false, false, false, false, false, false, false, false, false, false, false, false] rfl rfl (any_of HT_.out (by kernel_rfl)) (fun _ _ _ h => h) (Or.inl ⟨by rfl, ?_⟩) ?_ ?_
         rotate_left
         ·intro w'
          go_simp
          with_reducible rfl
         rotate_left
         ·simp only [Act.put, List.setIfInBounds_toArray, List.set_cons_zero, List.set_cons_succ, i64_w, i32_w]
          rfl
         refine take_ (i := 4) (N := some 22) (v := ?_) (a' := ?_) #[true, true, true, true, true, true, true, true, true, false, false, false, false, false, false, false, false, false, false, false, false, false, false, false, false, false] rfl rfl (take_ofW HT_.out HW_.out (by kernel_rfl)) (fun _ _ _ h => h) (Or.inl ⟨by rfl, ?_⟩) hHeld ?_ ?_
         rotate_left
         ·rintro w' ⟨s0, s1, s2, s3⟩
          go_simp
          with_reducible rfl
         rotate_left
         ·simp only [Act.put, List.setIfInBounds_toArray, List.set_cons_zero, List.set_cons_succ, i64_w, i32_w]
          rfl
         refine take_ (i := 9) (N := some 27) (v := ?_) (a' := ?_) #[true, true, true, true, true, true, true, true, true, true, false, false, false, false, false, false, false, false, false, false, false, false, false, false, false, false] rfl rfl (take_ofW HT_.out HW_.out (by kernel_rfl)) (fun _ _ _ h => h) (Or.inl ⟨by rfl, ?_⟩) hHeld ?_ ?_
         rotate_left
         ·rintro w' ⟨s0, s1, s2, s3⟩
          go_simp
          with_reducible rfl
         rotate_left
         ·simp only [Act.put, List.setIfInBounds_toArray, List.set_cons_zero, List.set_cons_succ, i64_w, i32_w]
          rfl
         refine pure_ (i := 10) (N := some 28) (v := ?_) (a' := ?_) #[true, true, true, true, true, true, true, true, true, true, true, false, false, false, false, false, false, false, false, false, false, false, false, false, false, false] rfl rfl (any_of HT_.out (by kernel_rfl)) (fun _ _ _ h => h) (Or.inl ⟨by rfl, ?_⟩) ?_ ?_
         rotate_left
         ·intro w'
          go_simp
          with_reducible rfl
         rotate_left
         ·simp only [Act.put, List.setIfInBounds_toArray, List.set_cons_zero, List.set_cons_succ, i64_w, i32_w]
          rfl
         refine pure_ (i := 11) (N := some 29) (v := ?_) (a' := ?_) #[true, true, true, true, true, true, true, true, true, true, true, true, false, false, false, false, false, false, false, false, false, false, false, false, false, false] rfl rfl (any_of HT_.out (by kernel_rfl)) (fun _ _ _ h => h) (Or.inl ⟨by rfl, ?_⟩) ?_ ?_
         rotate_left
         ·intro w'
          go_simp
          with_reducible rfl
         rotate_left
         ·simp only [Act.put, List.setIfInBounds_toArray, List.set_cons_zero, List.set_cons_succ, i64_w, i32_w]
          rfl
         refine pure_ (i := 12) (N := some 30) (v := undef) (a' := ?_) #[true, true, true, true, true, true, true, true, true, true, true, true, true, false, false, false, false, false, false, false, false, false, false, false, false, false] rfl rfl (any_of HT_.out (by kernel_rfl)) (fun _ _ _ h => h) (Or.inr ⟨by rfl, rfl⟩) ?_ ?_
         rotate_left
         ·simp only [Act.put, List.setIfInBounds_toArray, List.set_cons_zero, List.set_cons_succ, i64_w, i32_w]
          rfl
         refine pure_ (i := 13) (N := some 31) (v := undef) (a' := ?_) #[true, true, true, true, true, true, true, true, true, true, true, true, true, true, false, false, false, false, false, false, false, false, false, false, false, false] rfl rfl (any_of HT_.out (by kernel_rfl)) (fun _ _ _ h => h) (Or.inr ⟨by rfl, rfl⟩) ?_ ?_
         rotate_left
         ·simp only [Act.put, List.setIfInBounds_toArray, List.set_cons_zero, List.set_cons_succ, i64_w, i32_w]
          rfl
         refine pure_ (i := 14) (N := some 32) (v := undef) (a' := ?_) #[true, true, true, true, true, true, true, true, true, true, true, true, true, true, true, false, false, false, false, false, false, false, false, false, false, false] rfl rfl (any_of HT_.out (by kernel_rfl)) (fun _ _ _ h => h) (Or.inr ⟨by rfl, rfl⟩) ?_ ?_
         rotate_left
         ·simp only [Act.put, List.setIfInBounds_toArray, List.set_cons_zero, List.set_cons_succ, i64_w, i32_w]
          rfl
         refine pure_ (i := 15) (N := some 33) (v := undef) (a' := ?_) #[true, true, true, true, true, true, true, true, true, true, true, true, true, true, true, true, false, false, false, false, false, false, false, false, false, false] rfl rfl (any_of HT_.out (by kernel_rfl)) (fun _ _ _ h => h) (Or.inr ⟨by rfl, rfl⟩) ?_ ?_
         rotate_left
         ·simp only [Act.put, List.setIfInBounds_toArray, List.set_cons_zero, List.set_cons_succ, i64_w, i32_w]
          rfl
         refine pure_ (i := 16) (N := some 34) (v := undef) (a' := ?_) #[true, true, true, true, true, true, true, true, true, true, true, true, true, true, true, true, true, false, false, false, false, false, false, false, false, false] rfl rfl (any_of HT_.out (by kernel_rfl)) (fun _ _ _ h => h) (Or.inr ⟨by rfl, rfl⟩) ?_ ?_
         rotate_left
         ·simp only [Act.put, List.setIfInBounds_toArray, List.set_cons_zero, List.set_cons_succ, i64_w, i32_w]
          rfl
         refine pure_ (i := 17) (N := some 35) (v := undef) (a' := ?_) #[true, true, true, true, true, true, true, true, true, true, true, true, true, true, true, true, true, true, false, false, false, false, false, false, false, false] rfl rfl (any_of HT_.out (by kernel_rfl)) (fun _ _ _ h => h) (Or.inr ⟨by rfl, rfl⟩) ?_ ?_
         rotate_left
         ·simp only [Act.put, List.setIfInBounds_toArray, List.set_cons_zero, List.set_cons_succ, i64_w, i32_w]
          rfl
         refine pure_ (i := 18) (N := some 36) (v := undef) (a' := ?_) #[true, true, true, true, true, true, true, true, true, true, true, true, true, true, true, true, true, true, true, false, false, false, false, false, false, false] rfl rfl (any_of HT_.out (by kernel_rfl)) (fun _ _ _ h => h) (Or.inr ⟨by rfl, rfl⟩) ?_ ?_
         rotate_left
         ·simp only [Act.put, List.setIfInBounds_toArray, List.set_cons_zero, List.set_cons_succ, i64_w, i32_w]
          rfl
         refine pure_ (i := 19) (N := some 37) (v := undef) (a' := ?_) #[true, true, true, true, true, true, true, true, true, true, true, true, true, true, true, true, true, true, true, true, false, false, false, false, false, false] rfl rfl (any_of HT_.out (by kernel_rfl)) (fun _ _ _ h => h) (Or.inr ⟨by rfl, rfl⟩) ?_ ?_
         rotate_left
         ·simp only [Act.put, List.setIfInBounds_toArray, List.set_cons_zero, List.set_cons_succ, i64_w, i32_w]
          rfl
         refine pure_ (i := 20) (N := some 38) (v := undef) (a' := ?_) #[true, true, true, true, true, true, true, true, true, true, true, true, true, true, true, true, true, true, true, true, true, false, false, false, false, false] rfl rfl (any_of HT_.out (by kernel_rfl)) (fun _ _ _ h => h) (Or.inr ⟨by rfl, rfl⟩) ?_ ?_
         rotate_left
         ·simp only [Act.put, List.setIfInBounds_toArray, List.set_cons_zero, List.set_cons_succ, i64_w, i32_w]
          rfl
         refine pure_ (i := 21) (N := some 39) (v := undef) (a' := ?_) #[true, true, true, true, true, true, true, true, true, true, true, true, true, true, true, true, true, true, true, true, true, true, false, false, false, false] rfl rfl (any_of HT_.out (by kernel_rfl)) (fun _ _ _ h => h) (Or.inr ⟨by rfl, rfl⟩) ?_ ?_
         rotate_left
         ·simp only [Act.put, List.setIfInBounds_toArray, List.set_cons_zero, List.set_cons_succ, i64_w, i32_w]
          rfl
         refine pure_ (i := 22) (N := some 40) (v := undef) (a' := ?_) #[true, true, true, true, true, true, true, true, true, true, true, true, true, true, true, true, true, true, true, true, true, true, true, false, false, false] rfl rfl (any_of HT_.out (by kernel_rfl)) (fun _ _ _ h => h) (Or.inr ⟨by rfl, rfl⟩) ?_ ?_
         rotate_left
         ·simp only [Act.put, List.setIfInBounds_toArray, List.set_cons_zero, List.set_cons_succ, i64_w, i32_w]
          rfl
         refine pure_ (i := 23) (N := some 41) (v := undef) (a' := ?_) #[true, true, true, true, true, true, true, true, true, true, true, true, true, true, true, true, true, true, true, true, true, true, true, true, false, false] rfl rfl (any_of HT_.out (by kernel_rfl)) (fun _ _ _ h => h) (Or.inr ⟨by rfl, rfl⟩) ?_ ?_
         rotate_left
         ·simp only [Act.put, List.setIfInBounds_toArray, List.set_cons_zero, List.set_cons_succ, i64_w, i32_w]
          rfl
         refine pure_ (i := 24) (N := some 42) (v := undef) (a' := ?_) #[true, true, true, true, true, true, true, true, true, true, true, true, true, true, true, true, true, true, true, true, true, true, true, true, true, false] rfl rfl (any_of HT_.out (by kernel_rfl)) (fun _ _ _ h => h) (Or.inr ⟨by rfl, rfl⟩) ?_ ?_
         rotate_left
         ·simp only [Act.put, List.setIfInBounds_toArray, List.set_cons_zero, List.set_cons_succ, i64_w, i32_w]
          rfl
         refine pure_ (i := 25) (N := some 43) (v := ?_) (a' := ?_) #[true, true, true, true, true, true, true, true, true, true, true, true, true, true, true, true, true, true, true, true, true, true, true, true, true, true] rfl rfl (any_of HT_.out (by kernel_rfl)) (fun _ _ _ h => h) (Or.inl ⟨by rfl, ?_⟩) ?_ ?_
         rotate_left
         ·intro w'
          go_simp
          with_reducible rfl
         rotate_left
         ·simp only [Act.put, List.setIfInBounds_toArray, List.set_cons_zero, List.set_cons_succ, i64_w, i32_w]
          rfl
         refine done_ (done_of HT_.out (by kernel_rfl)) ?_
         try go_wp2
         go_meet
         case rel => exact ⟨_, (true), zR, H', ⟨by have := HK1.out; first | omega | exact Nat.le_refl _⟩, ⟨zB⟩⟩
       ·rw [if_neg c7] at H
        exact absurd H (by simp)
      ·rw [if_neg c6] at H
       exact absurd H (by simp)
     case rest =>
      clear HC5
      clear c4b0
      obtain ⟨kq, x43_4, rfl, HA, HJ4, HB⟩ := hcut
      cases kq with
      | zero => exact absurd HA.out (by simp [gumshoeref09_Same.j1])
      | succ kj4 =>
       have H := HA.out
       clear HA
       simp only [gumshoeref09_Same.j1] at H
       by_cases c11 : x43_4 = true
       ·subst c11
        rw [if_pos rfl] at H
        obtain rfl := Option.some.inj H
        go_wp2
        go_ret
        exact ⟨zE, zB⟩
       ·replace c11 := Bool.eq_false_iff.mpr c11
        subst c11
        rw [if_neg (show ¬ (false = true) by decide)] at H
        have H' := Aside0.mk H
        clear H
        go_wp2
        go_loopg [6] kj4 (fun kq v6 w' => ∃ (x6_3 : Int), v6 = .int .i64 x6_3 ∧ Aside0 (gumshoeref09_Same.l1 kq l0 l1 x5_1 x6_3 = some r) ∧ Aside0 (kq ≤ kj4) ∧ Aside0 (Below w.heap.size w w'))
        case atStart => exact ⟨(0), zR, H', ⟨Nat.le_refl _⟩, ⟨zB⟩⟩
        case round =>
         clear H'
         obtain ⟨x6_3, rfl, HA, HK3, HB⟩ := hrel
         cases gk with
         | zero => exact absurd HA.out (by simp [gumshoeref09_Same.l1])
         | succ k3 =>
          have H := HA.out
          clear HA
          simp only [gumshoeref09_Same.l1] at H
          by_cases c12 : 0 ≤ x5_1
          ·rw [if_pos c12] at H
           have c12b0 : decide (0 ≤ x5_1) = true := decide_eq_true c12
           clear c12
           by_cases c13 : x5_1 < (l0.length : Int)
           ·rw [if_pos c13] at H
            have c13b0 : decide (x5_1 < (l0.length : Int)) = true := decide_eq_true c13
            clear c13
            by_cases c14 : x6_3 < (((rd_T28 l0 x5_1).f1).length : Int)
            ·rw [if_pos c14] at H
             have c14b0 : decide (x6_3 < (((rd_T28 l0 x5_1).f1).length : Int)) = true := decide_eq_true c14
             clear c14
             by_cases c15 : 0 ≤ x6_3
             ·rw [if_pos c15] at H
              have c15b0 : decide (0 ≤ x6_3) = true := decide_eq_true c15
              clear c15
              by_cases c16 : x5_1 < (l1.length : Int)
              ·rw [if_pos c16] at H
               have c16b0 : decide (x5_1 < (l1.length : Int)) = true := decide_eq_true c16
               clear c16
               by_cases c17 : x6_3 < (((rd_T28 l1 x5_1).f1).length : Int)
               ·rw [if_pos c17] at H
                have c17b0 : decide (x6_3 < (((rd_T28 l1 x5_1).f1).length : Int)) = true := decide_eq_true c17
                clear c17
                obtain ⟨t171, A18, H⟩ := zO H
                by_cases c19 : t171 = true
                ·subst c19
                 rw [if_pos rfl] at H
                 have H' := Aside0.mk H
                 clear H
                 have p166 : 0 ≤ (x5_1 : Int) := of_decide_eq_true zA
                 have q166 : x5_1 < (l0.length : Int) := of_decide_eq_true zA
                 obtain ⟨ad166, A166_1, c166_1, e166, hx166_0, hx166_1, hl166_1, hi166_1⟩ := at_T28 HR0.out x5_1 p166 q166
                 cases e166
                 replace hx166_0 := (HB.out.cell (World.block_lt_of_cell? w _ hx166_0)).trans hx166_0
                 replace hx166_1 := (HB.out.cell (World.block_lt_of_cell? w _ hx166_1)).trans hx166_1
                 have HR166_1 := Aside0.mk hi166_1
                 have HC166_1 := Aside0.mk hl166_1
                 clear hi166_1 hl166_1
                 replace p166 := eq_true p166
                 replace q166 := eq_true q166
                 try go_wp2
                 have n0_ := Aside0.mk (below_drew1 HB.out)
                 clear HB
                 have HB := n0_
                 clear n0_
                 have p167 : 0 ≤ (x5_1 : Int) := of_decide_eq_true zA
                 have q167 : x5_1 < (l0.length : Int) := of_decide_eq_true zA
                 obtain ⟨ad167, A167_1, c167_1, e167, hx167_0, hx167_1, hl167_1, hi167_1⟩ := at_T28 HR0.out x5_1 p167 q167
                 have hw167_1 := hx167_1
                 have hw167_0 := hx167_0
                 obtain rfl : ad166 = ad167 := (by injection e167)
                 replace hx167_0 := (HB.out.cell (World.block_lt_of_cell? w _ hx167_0)).trans hx167_0
                 replace hx167_1 := (HB.out.cell (World.block_lt_of_cell? w _ hx167_1)).trans hx167_1
                 have HR167_1 := Aside0.mk hi167_1
                 have HC167_1 := Aside0.mk hl167_1
                 clear hi167_1 hl167_1
                 replace p167 := eq_true p167
                 replace q167 := eq_true q167
                 have p168 : 0 ≤ (x6_3 : Int) := of_decide_eq_true zA
                 have q168 : x6_3 < (((rd_T28 l0 x5_1).f1).length : Int) := of_decide_eq_true zA
                 obtain ⟨ad168, A168_7, c168_7, e168, hx168_0, hx168_1, hx168_2, hx168_3, hx168_4, hx168_5, hx168_6, hx168_7, hl168_7, hi168_7⟩ := at_T31 HR167_1.out x6_3 p168 q168
                 have hw168_7 := hx168_7
                 have hw168_6 := hx168_6
                 have hw168_5 := hx168_5
                 have hw168_4 := hx168_4
                 have hw168_3 := hx168_3
                 have hw168_2 := hx168_2
                 have hw168_1 := hx168_1
                 have hw168_0 := hx168_0
                 cases e168
                 replace hx168_0 := (HB.out.cell (World.block_lt_of_cell? w _ hx168_0)).trans hx168_0
                 replace hx168_1 := (HB.out.cell (World.block_lt_of_cell? w _ hx168_1)).trans hx168_1
                 replace hx168_2 := (HB.out.cell (World.block_lt_of_cell? w _ hx168_2)).trans hx168_2
                 replace hx168_3 := (HB.out.cell (World.block_lt_of_cell? w _ hx168_3)).trans hx168_3
                 replace hx168_4 := (HB.out.cell (World.block_lt_of_cell? w _ hx168_4)).trans hx168_4
                 replace hx168_5 := (HB.out.cell (World.block_lt_of_cell? w _ hx168_5)).trans hx168_5
                 replace hx168_6 := (HB.out.cell (World.block_lt_of_cell? w _ hx168_6)).trans hx168_6
                 replace hx168_7 := (HB.out.cell (World.block_lt_of_cell? w _ hx168_7)).trans hx168_7
                 have HR168_7 := Aside0.mk hi168_7
                 have HC168_7 := Aside0.mk hl168_7
                 clear hi168_7 hl168_7
                 replace p168 := eq_true p168
                 replace q168 := eq_true q168
                 have p169 : 0 ≤ (x5_1 : Int) := of_decide_eq_true zA
                 have q169 : x5_1 < (l1.length : Int) := of_decide_eq_true zA
                 obtain ⟨ad169, A169_1, c169_1, e169, hx169_0, hx169_1, hl169_1, hi169_1⟩ := at_T28 HR1.out x5_1 p169 q169
                 have hw169_1 := hx169_1
                 have hw169_0 := hx169_0
                 cases e169
                 replace hx169_0 := (HB.out.cell (World.block_lt_of_cell? w _ hx169_0)).trans hx169_0
                 replace hx169_1 := (HB.out.cell (World.block_lt_of_cell? w _ hx169_1)).trans hx169_1
                 have HR169_1 := Aside0.mk hi169_1
                 have HC169_1 := Aside0.mk hl169_1
                 clear hi169_1 hl169_1
                 replace p169 := eq_true p169
                 replace q169 := eq_true q169
                 have p170 : 0 ≤ (x6_3 : Int) := of_decide_eq_true zA
                 have q170 : x6_3 < (((rd_T28 l1 x5_1).f1).length : Int) := of_decide_eq_true zA
                 obtain ⟨ad170, A170_7, c170_7, e170, hx170_0, hx170_1, hx170_2, hx170_3, hx170_4, hx170_5, hx170_6, hx170_7, hl170_7, hi170_7⟩ := at_T31 HR169_1.out x6_3 p170 q170
                 have hw170_7 := hx170_7
                 have hw170_6 := hx170_6
                 have hw170_5 := hx170_5
                 have hw170_4 := hx170_4
                 have hw170_3 := hx170_3
                 have hw170_2 := hx170_2
                 have hw170_1 := hx170_1
                 have hw170_0 := hx170_0
                 cases e170
                 replace hx170_0 := (HB.out.cell (World.block_lt_of_cell? w _ hx170_0)).trans hx170_0
                 replace hx170_1 := (HB.out.cell (World.block_lt_of_cell? w _ hx170_1)).trans hx170_1
                 replace hx170_2 := (HB.out.cell (World.block_lt_of_cell? w _ hx170_2)).trans hx170_2
                 replace hx170_3 := (HB.out.cell (World.block_lt_of_cell? w _ hx170_3)).trans hx170_3
                 replace hx170_4 := (HB.out.cell (World.block_lt_of_cell? w _ hx170_4)).trans hx170_4
                 replace hx170_5 := (HB.out.cell (World.block_lt_of_cell? w _ hx170_5)).trans hx170_5
                 replace hx170_6 := (HB.out.cell (World.block_lt_of_cell? w _ hx170_6)).trans hx170_6
                 replace hx170_7 := (HB.out.cell (World.block_lt_of_cell? w _ hx170_7)).trans hx170_7
                 have HR170_7 := Aside0.mk hi170_7
                 have HC170_7 := Aside0.mk hl170_7
                 clear hi170_7 hl170_7
                 replace p170 := eq_true p170
                 replace q170 := eq_true q170
                 refine start_ (n := 18) (S := fun w' => w'.cell? (ad166.add ((x5_1).toNat * 2)) = some (.int .i64 ((rd_T28 l0 x5_1).f0)) ∧ w'.cell? ⟨(ad166.add ((x5_1).toNat * 2)).block, (ad166.add ((x5_1).toNat * 2)).off + 1, none⟩ = some (.slice (some ad168) ((rd_T28 l0 x5_1).f1).length c167_1) ∧ w'.cell? (ad168.add ((x6_3).toNat * 8)) = some (.int .i64 ((rd_T31 ((rd_T28 l0 x5_1).f1) x6_3).f0)) ∧ w'.cell? ⟨(ad168.add ((x6_3).toNat * 8)).block, (ad168.add ((x6_3).toNat * 8)).off + 1, none⟩ = some (.int .i64 ((rd_T31 ((rd_T28 l0 x5_1).f1) x6_3).f1)) ∧ w'.cell? ⟨(ad168.add ((x6_3).toNat * 8)).block, (ad168.add ((x6_3).toNat * 8)).off + 2, none⟩ = some (.int .i64 ((rd_T31 ((rd_T28 l0 x5_1).f1) x6_3).f2)) ∧ w'.cell? ⟨(ad168.add ((x6_3).toNat * 8)).block, (ad168.add ((x6_3).toNat * 8)).off + 3, none⟩ = some (.int .i64 ((rd_T31 ((rd_T28 l0 x5_1).f1) x6_3).f3)) ∧ w'.cell? ⟨(ad168.add ((x6_3).toNat * 8)).block, (ad168.add ((x6_3).toNat * 8)).off + 4, none⟩ = some (.int .i64 ((rd_T31 ((rd_T28 l0 x5_1).f1) x6_3).f4)) ∧ w'.cell? ⟨(ad168.add ((x6_3).toNat * 8)).block, (ad168.add ((x6_3).toNat * 8)).off + 5, none⟩ = some (.string ((rd_T31 ((rd_T28 l0 x5_1).f1) x6_3).f5)) ∧ w'.cell? ⟨(ad168.add ((x6_3).toNat * 8)).block, (ad168.add ((x6_3).toNat * 8)).off + 6, none⟩ = some (.int .i64 ((rd_T31 ((rd_T28 l0 x5_1).f1) x6_3).f6)) ∧ w'.cell? ⟨(ad168.add ((x6_3).toNat * 8)).block, (ad168.add ((x6_3).toNat * 8)).off + 7, none⟩ = some (.slice A168_7 ((rd_T31 ((rd_T28 l0 x5_1).f1) x6_3).f7).length c168_7) ∧ w'.cell? (ad169.add ((x5_1).toNat * 2)) = some (.int .i64 ((rd_T28 l1 x5_1).f0)) ∧ w'.cell? ⟨(ad169.add ((x5_1).toNat * 2)).block, (ad169.add ((x5_1).toNat * 2)).off + 1, none⟩ = some (.slice (some ad170) ((rd_T28 l1 x5_1).f1).length c169_1) ∧ w'.cell? (ad170.add ((x6_3).toNat * 8)) = some (.int .i64 ((rd_T31 ((rd_T28 l1 x5_1).f1) x6_3).f0)) ∧ w'.cell? ⟨(ad170.add ((x6_3).toNat * 8)).block, (ad170.add ((x6_3).toNat * 8)).off + 1, none⟩ = some (.int .i64 ((rd_T31 ((rd_T28 l1 x5_1).f1) x6_3).f1)) ∧ w'.cell? ⟨(ad170.add ((x6_3).toNat * 8)).block, (ad170.add ((x6_3).toNat * 8)).off + 2, none⟩ = some (.int .i64 ((rd_T31 ((rd_T28 l1 x5_1).f1) x6_3).f2)) ∧ w'.cell? ⟨(ad170.add ((x6_3).toNat * 8)).block, (ad170.add ((x6_3).toNat * 8)).off + 3, none⟩ = some (.int .i64 ((rd_T31 ((rd_T28 l1 x5_1).f1) x6_3).f3)) ∧ w'.cell? ⟨(ad170.add ((x6_3).toNat * 8)).block, (ad170.add ((x6_3).toNat * 8)).off + 4, none⟩ = some (.int .i64 ((rd_T31 ((rd_T28 l1 x5_1).f1) x6_3).f4)) ∧ w'.cell? ⟨(ad170.add ((x6_3).toNat * 8)).block, (ad170.add ((x6_3).toNat * 8)).off + 5, none⟩ = some (.string ((rd_T31 ((rd_T28 l1 x5_1).f1) x6_3).f5)) ∧ w'.cell? ⟨(ad170.add ((x6_3).toNat * 8)).block, (ad170.add ((x6_3).toNat * 8)).off + 6, none⟩ = some (.int .i64 ((rd_T31 ((rd_T28 l1 x5_1).f1) x6_3).f6)) ∧ w'.cell? ⟨(ad170.add ((x6_3).toNat * 8)).block, (ad170.add ((x6_3).toNat * 8)).off + 7, none⟩ = some (.slice A170_7 ((rd_T31 ((rd_T28 l1 x5_1).f1) x6_3).f7).length c170_7)) (ds := []) #[false, false, false, false, false, false, false, false, false, false, false, false, false, false, false, false, false, false] (by kernel_rfl) rfl rfl ⟨((HB.out.cell (World.block_lt_of_cell? w _ hw167_0)).trans hw167_0), ((HB.out.cell (World.block_lt_of_cell? w _ hw167_1)).trans hw167_1), ((HB.out.cell (World.block_lt_of_cell? w _ hw168_0)).trans hw168_0), ((HB.out.cell (World.block_lt_of_cell? w _ hw168_1)).trans hw168_1), ((HB.out.cell (World.block_lt_of_cell? w _ hw168_2)).trans hw168_2), ((HB.out.cell (World.block_lt_of_cell? w _ hw168_3)).trans hw168_3), ((HB.out.cell (World.block_lt_of_cell? w _ hw168_4)).trans hw168_4), ((HB.out.cell (World.block_lt_of_cell? w _ hw168_5)).trans hw168_5), ((HB.out.cell (World.block_lt_of_cell? w _ hw168_6)).trans hw168_6), ((HB.out.cell (World.block_lt_of_cell? w _ hw168_7)).trans hw168_7), ((HB.out.cell (World.block_lt_of_cell? w _ hw169_0)).trans hw169_0), ((HB.out.cell (World.block_lt_of_cell? w _ hw169_1)).trans hw169_1), ((HB.out.cell (World.block_lt_of_cell? w _ hw170_0)).trans hw170_0), ((HB.out.cell (World.block_lt_of_cell? w _ hw170_1)).trans hw170_1), ((HB.out.cell (World.block_lt_of_cell? w _ hw170_2)).trans hw170_2), ((HB.out.cell (World.block_lt_of_cell? w _ hw170_3)).trans hw170_3), ((HB.out.cell (World.block_lt_of_cell? w _ hw170_4)).trans hw170_4), ((HB.out.cell (World.block_lt_of_cell? w _ hw170_5)).trans hw170_5), ((HB.out.cell (World.block_lt_of_cell? w _ hw170_6)).trans hw170_6), ((HB.out.cell (World.block_lt_of_cell? w _ hw170_7)).trans hw170_7)⟩ (fun hHeld => ?_); refine with_tabW gumshoeref09_Same.tab11 gumshoeref09_Same.bits11 (fun HT_ HW_ => ?_)
                 generalize wr.drew = w20 at HB HR167_1 HR168_7 HR169_1 HR170_7 hx167_0 hx167_1 hx168_0 hx168_1 hx168_2 hx168_3 hx168_4 hx168_5 hx168_6 hx168_7 hx169_0 hx169_1 hx170_0 hx170_1 hx170_2 hx170_3 hx170_4 hx170_5 hx170_6 hx170_7 hHeld ⊢
                 refine pure_ (i := 0) (N := some 54) (v := ?_) (a' := ?_) #[true, false, false, false, false, false, false, false, false, false, false, false, false, false, false, false, false, false] rfl rfl (any_of HT_.out (by kernel_rfl)) (fun _ _ _ h => h) (Or.inl ⟨by rfl, ?_⟩) ?_ ?_
                 rotate_left
                 ·intro w'
                  go_simp
                  with_reducible rfl
                 rotate_left
                 ·simp only [Act.put, List.setIfInBounds_toArray, List.set_cons_zero, List.set_cons_succ, i64_w, i32_w]
                  rfl
                 refine pure_ (i := 1) (N := some 55) (v := ?_) (a' := ?_) #[true, true, false, false, false, false, false, false, false, false, false, false, false, false, false, false, false, false] rfl rfl (any_of HT_.out (by kernel_rfl)) (fun _ _ _ h => h) (Or.inl ⟨by rfl, ?_⟩) ?_ ?_
                 rotate_left
                 ·intro w'
                  go_simp
                  with_reducible rfl
                 rotate_left
                 ·simp only [Act.put, List.setIfInBounds_toArray, List.set_cons_zero, List.set_cons_succ, i64_w, i32_w]
                  rfl
                 refine pure_ (i := 2) (N := some 56) (v := ?_) (a' := ?_) #[true, true, true, false, false, false, false, false, false, false, false, false, false, false, false, false, false, false] rfl rfl (any_of HT_.out (by kernel_rfl)) (fun _ _ _ h => h) (Or.inl ⟨by rfl, ?_⟩) ?_ ?_
                 rotate_left
                 ·intro w'
                  go_simp
                  with_reducible rfl
                 rotate_left
                 ·simp only [Act.put, List.setIfInBounds_toArray, List.set_cons_zero, List.set_cons_succ, i64_w, i32_w]
                  rfl
                 refine pure_ (i := 3) (N := some 57) (v := ?_) (a' := ?_) #[true, true, true, true, false, false, false, false, false, false, false, false, false, false, false, false, false, false] rfl rfl (any_of HT_.out (by kernel_rfl)) (fun _ _ _ h => h) (Or.inl ⟨by rfl, ?_⟩) ?_ ?_
                 rotate_left
                 ·intro w'
                  go_simp
                  with_reducible rfl
                 rotate_left
                 ·simp only [Act.put, List.setIfInBounds_toArray, List.set_cons_zero, List.set_cons_succ, i64_w, i32_w]
                  rfl
                 refine pure_ (i := 5) (N := some 59) (v := ?_) (a' := ?_) #[true, true, true, true, false, true, false, false, false, false, false, false, false, false, false, false, false, false] rfl rfl (any_of HT_.out (by kernel_rfl)) (fun _ _ _ h => h) (Or.inl ⟨by rfl, ?_⟩) ?_ ?_
                 rotate_left
                 ·intro w'
                  go_simp
                  with_reducible rfl
                 rotate_left
                 ·simp only [Act.put, List.setIfInBounds_toArray, List.set_cons_zero, List.set_cons_succ, i64_w, i32_w]
                  rfl
                 refine pure_ (i := 8) (N := some 62) (v := ?_) (a' := ?_) #[true, true, true, true, false, true, false, false, true, false, false, false, false, false, false, false, false, false] rfl rfl (any_of HT_.out (by kernel_rfl)) (fun _ _ _ h => h) (Or.inl ⟨by rfl, ?_⟩) ?_ ?_
                 rotate_left
                 ·intro w'
                  go_simp
                  with_reducible rfl
                 rotate_left
                 ·simp only [Act.put, List.setIfInBounds_toArray, List.set_cons_zero, List.set_cons_succ, i64_w, i32_w]
                  rfl
                 refine pure_ (i := 9) (N := some 63) (v := ?_) (a' := ?_) #[true, true, true, true, false, true, false, false, true, true, false, false, false, false, false, false, false, false] rfl rfl (any_of HT_.out (by kernel_rfl)) (fun _ _ _ h => h) (Or.inl ⟨by rfl, ?_⟩) ?_ ?_
                 rotate_left
                 ·intro w'
                  go_simp
                  with_reducible rfl
                 rotate_left
                 ·simp only [Act.put, List.setIfInBounds_toArray, List.set_cons_zero, List.set_cons_succ, i64_w, i32_w]
                  rfl
                 refine pure_ (i := 10) (N := some 64) (v := ?_) (a' := ?_) #[true, true, true, true, false, true, false, false, true, true, true, false, false, false, false, false, false, false] rfl rfl (any_of HT_.out (by kernel_rfl)) (fun _ _ _ h => h) (Or.inl ⟨by rfl, ?_⟩) ?_ ?_
                 rotate_left
                 ·intro w'
                  go_simp
                  with_reducible rfl
                 rotate_left
                 ·simp only [Act.put, List.setIfInBounds_toArray, List.set_cons_zero, List.set_cons_succ, i64_w, i32_w]
                  rfl
                 refine pure_ (i := 11) (N := some 65) (v := ?_) (a' := ?_) #[true, true, true, true, false, true, false, false, true, true, true, true, false, false, false, false, false, false] rfl rfl (any_of HT_.out (by kernel_rfl)) (fun _ _ _ h => h) (Or.inl ⟨by rfl, ?_⟩) ?_ ?_
                 rotate_left
                 ·intro w'
                  go_simp
                  with_reducible rfl
                 rotate_left
                 ·simp only [Act.put, List.setIfInBounds_toArray, List.set_cons_zero, List.set_cons_succ, i64_w, i32_w]
                  rfl
                 refine pure_ (i := 13) (N := some 67) (v := ?_) (a' := ?_) #[true, true, true, true, false, true, false, false, true, true, true, true, false, true, false, false, false, false] rfl rfl (any_of HT_.out (by kernel_rfl)) (fun _ _ _ h => h) (Or.inl ⟨by rfl, ?_⟩) ?_ ?_
                 rotate_left
                 ·intro w'
                  go_simp
                  with_reducible rfl
                 rotate_left
                 ·simp only [Act.put, List.setIfInBounds_toArray, List.set_cons_zero, List.set_cons_succ, i64_w, i32_w]
                  rfl
                 refine take_ (i := 4) (N := some 58) (v := ?_) (a' := ?_) #[true, true, true, true, true, true, false, false, true, true, true, true, false, true, false, false, false, false] rfl rfl (take_ofW HT_.out HW_.out (by kernel_rfl)) (fun _ _ _ h => h) (Or.inl ⟨by rfl, ?_⟩) hHeld ?_ ?_
                 rotate_left
                 ·rintro w' ⟨s0, s1, s2, s3, s4, s5, s6, s7, s8, s9, s10, s11, s12, s13, s14, s15, s16, s17, s18, s19⟩
                  go_simp
                  with_reducible rfl
                 rotate_left
                 ·simp only [Act.put, List.setIfInBounds_toArray, List.set_cons_zero, List.set_cons_succ, i64_w, i32_w]
                  rfl
                 refine pure_ (i := 6) (N := some 60) (v := ?_) (a' := ?_) #[true, true, true, true, true, true, true, false, true, true, true, true, false, true, false, false, false, false] rfl rfl (any_of HT_.out (by kernel_rfl)) (fun _ _ _ h => h) (Or.inl ⟨by rfl, ?_⟩) ?_ ?_
                 rotate_left
                 ·intro w'
                  go_simp
                  with_reducible rfl
                 rotate_left
                 ·simp only [Act.put, List.setIfInBounds_toArray, List.set_cons_zero, List.set_cons_succ, i64_w, i32_w]
                  rfl
                 refine take_ (i := 7) (N := some 61) (v := ?_) (a' := ?_) #[true, true, true, true, true, true, true, true, true, true, true, true, false, true, false, false, false, false] rfl rfl (take_ofW HT_.out HW_.out (by kernel_rfl)) (fun _ _ _ h => h) (Or.inl ⟨by rfl, ?_⟩) hHeld ?_ ?_
                 rotate_left
                 ·rintro w' ⟨s0, s1, s2, s3, s4, s5, s6, s7, s8, s9, s10, s11, s12, s13, s14, s15, s16, s17, s18, s19⟩
                  go_simp
                  with_reducible rfl
                 rotate_left
                 ·simp only [Act.put, List.setIfInBounds_toArray, List.set_cons_zero, List.set_cons_succ, i64_w, i32_w]
                  rfl
                 refine take_ (i := 12) (N := some 66) (v := ?_) (a' := ?_) #[true, true, true, true, true, true, true, true, true, true, true, true, true, true, false, false, false, false] rfl rfl (take_ofW HT_.out HW_.out (by kernel_rfl)) (fun _ _ _ h => h) (Or.inl ⟨by rfl, ?_⟩) hHeld ?_ ?_
                 rotate_left
                 ·rintro w' ⟨s0, s1, s2, s3, s4, s5, s6, s7, s8, s9, s10, s11, s12, s13, s14, s15, s16, s17, s18, s19⟩
                  go_simp
                  with_reducible rfl
                 rotate_left
                 ·simp only [Act.put, List.setIfInBounds_toArray, List.set_cons_zero, List.set_cons_succ, i64_w, i32_w]
                  rfl
                 refine pure_ (i := 14) (N := some 68) (v := ?_) (a' := ?_) #[true, true, true, true, true, true, true, true, true, true, true, true, true, true, true, false, false, false] rfl rfl (any_of HT_.out (by kernel_rfl)) (fun _ _ _ h => h) (Or.inl ⟨by rfl, ?_⟩) ?_ ?_
                 rotate_left
                 ·intro w'
                  go_simp
                  with_reducible rfl
                 rotate_left
                 ·simp only [Act.put, List.setIfInBounds_toArray, List.set_cons_zero, List.set_cons_succ, i64_w, i32_w]
                  rfl
                 refine take_ (i := 15) (N := some 69) (v := ?_) (a' := ?_) #[true, true, true, true, true, true, true, true, true, true, true, true, true, true, true, true, false, false] rfl rfl (take_ofW HT_.out HW_.out (by kernel_rfl)) (fun _ _ _ h => h) (Or.inl ⟨by rfl, ?_⟩) hHeld ?_ ?_
                 rotate_left
                 ·rintro w' ⟨s0, s1, s2, s3, s4, s5, s6, s7, s8, s9, s10, s11, s12, s13, s14, s15, s16, s17, s18, s19⟩
                  go_simp
                  with_reducible rfl
                 rotate_left
                 ·simp only [Act.put, List.setIfInBounds_toArray, List.set_cons_zero, List.set_cons_succ, i64_w, i32_w]
                  rfl
                 refine one_ (i := 16) (N := some 70) #[true, true, true, true, true, true, true, true, true, true, true, true, true, true, true, true, true, false] rfl rfl (one_of HT_.out (by kernel_rfl)) (by decide) (fun K hK => ?_)
                 refine goes_ Tryz.func41 (by kernel_rfl) rfl #[.agg #[.int .i64 ((rd_T31 ((rd_T28 l0 x5_1).f1) x6_3).f0), .int .i64 ((rd_T31 ((rd_T28 l0 x5_1).f1) x6_3).f1), .int .i64 ((rd_T31 ((rd_T28 l0 x5_1).f1) x6_3).f2), .int .i64 ((rd_T31 ((rd_T28 l0 x5_1).f1) x6_3).f3), .int .i64 ((rd_T31 ((rd_T28 l0 x5_1).f1) x6_3).f4), .string ((rd_T31 ((rd_T28 l0 x5_1).f1) x6_3).f5), .int .i64 ((rd_T31 ((rd_T28 l0 x5_1).f1) x6_3).f6), .slice A168_7 ((rd_T31 ((rd_T28 l0 x5_1).f1) x6_3).f7).length c168_7], .agg #[.int .i64 ((rd_T31 ((rd_T28 l1 x5_1).f1) x6_3).f0), .int .i64 ((rd_T31 ((rd_T28 l1 x5_1).f1) x6_3).f1), .int .i64 ((rd_T31 ((rd_T28 l1 x5_1).f1) x6_3).f2), .int .i64 ((rd_T31 ((rd_T28 l1 x5_1).f1) x6_3).f3), .int .i64 ((rd_T31 ((rd_T28 l1 x5_1).f1) x6_3).f4), .string ((rd_T31 ((rd_T28 l1 x5_1).f1) x6_3).f5), .int .i64 ((rd_T31 ((rd_T28 l1 x5_1).f1) x6_3).f6), .slice A170_7 ((rd_T31 ((rd_T28 l1 x5_1).f1) x6_3).f7).length c170_7]] (by rfl) rfl rfl zP ?_
                 with_reducible refine (gumshoeref09_sameIns.calls k3 ((rd_T31 ((rd_T28 l0 x5_1).f1) x6_3).f0) ((rd_T31 ((rd_T28 l0 x5_1).f1) x6_3).f1) ((rd_T31 ((rd_T28 l0 x5_1).f1) x6_3).f2) ((rd_T31 ((rd_T28 l0 x5_1).f1) x6_3).f3) ((rd_T31 ((rd_T28 l0 x5_1).f1) x6_3).f4) ((rd_T31 ((rd_T28 l0 x5_1).f1) x6_3).f5) ((rd_T31 ((rd_T28 l0 x5_1).f1) x6_3).f6) _ _ ((rd_T31 ((rd_T28 l0 x5_1).f1) x6_3).f7) ((rd_T31 ((rd_T28 l1 x5_1).f1) x6_3).f0) ((rd_T31 ((rd_T28 l1 x5_1).f1) x6_3).f1) ((rd_T31 ((rd_T28 l1 x5_1).f1) x6_3).f2) ((rd_T31 ((rd_T28 l1 x5_1).f1) x6_3).f3) ((rd_T31 ((rd_T28 l1 x5_1).f1) x6_3).f4) ((rd_T31 ((rd_T28 l1 x5_1).f1) x6_3).f5) ((rd_T31 ((rd_T28 l1 x5_1).f1) x6_3).f6) _ _ ((rd_T31 ((rd_T28 l1 x5_1).f1) x6_3).f7) true _ ?side1 ?side2 ?side3 ?side4 A18.out).mono ?_
                 (case side1 => repeat (first | exact (Kd.C_below HR168_7.out HB.out) | (with_reducible refine Kd.C_alloc ?_ _) | (with_reducible refine Kd.C_drewN ?_ _) | (with_reducible refine Kd.C_drew ?_)))
                 (case side2 => exact HC168_7.out)
                 (case side3 => repeat (first | exact (Kd.C_below HR170_7.out HB.out) | (with_reducible refine Kd.C_alloc ?_ _) | (with_reducible refine Kd.C_drewN ?_ _) | (with_reducible refine Kd.C_drew ?_)))
                 (case side4 => exact HC170_7.out)
                 rintro e w21 ⟨rfl, hb⟩
                 refine ⟨_, rfl, ?_⟩
                 have n0_ := Aside0.mk (below_step zB hb)
                 clear HB
                 have HB := n0_
                 clear n0_
                 (try clear hb)
                 (try clear hb2)
                 (try clear hk)
                 (try clear hi)
                 refine hK.out _ _ ⟨((HB.out.cell (World.block_lt_of_cell? w _ hw167_0)).trans hw167_0), ((HB.out.cell (World.block_lt_of_cell? w _ hw167_1)).trans hw167_1), ((HB.out.cell (World.block_lt_of_cell? w _ hw168_0)).trans hw168_0), ((HB.out.cell (World.block_lt_of_cell? w _ hw168_1)).trans hw168_1), ((HB.out.cell (World.block_lt_of_cell? w _ hw168_2)).trans hw168_2), ((HB.out.cell (World.block_lt_of_cell? w _ hw168_3)).trans hw168_3), ((HB.out.cell (World.block_lt_of_cell? w _ hw168_4)).trans hw168_4), ((HB.out.cell (World.block_lt_of_cell? w _ hw168_5)).trans hw168_5), ((HB.out.cell (World.block_lt_of_cell? w _ hw168_6)).trans hw168_6), ((HB.out.cell (World.block_lt_of_cell? w _ hw168_7)).trans hw168_7), ((HB.out.cell (World.block_lt_of_cell? w _ hw169_0)).trans hw169_0), ((HB.out.cell (World.block_lt_of_cell? w _ hw169_1)).trans hw169_1), ((HB.out.cell (World.block_lt_of_cell? w _ hw170_0)).trans hw170_0), ((HB.out.cell (World.block_lt_of_cell? w _ hw170_1)).trans hw170_1), ((HB.out.cell (World.block_lt_of_cell? w _ hw170_2)).trans hw170_2), ((HB.out.cell (World.block_lt_of_cell? w _ hw170_3)).trans hw170_3), ((HB.out.cell (World.block_lt_of_cell? w _ hw170_4)).trans hw170_4), ((HB.out.cell (World.block_lt_of_cell? w _ hw170_5)).trans hw170_5), ((HB.out.cell (World.block_lt_of_cell? w _ hw170_6)).trans hw170_6), ((HB.out.cell (World.block_lt_of_cell? w _ hw170_7)).trans hw170_7)⟩ (fun hHeld => ?_)
                 clear hK K
                 refine norm_ (a' := ?_) ?_ ?_
                 rotate_left
                 ·show Act.put _ (some 70) _ = _
                  simp only [Act.put, List.setIfInBounds_toArray, List.set_cons_zero, List.set_cons_succ, i64_w, i32_w]
                  rfl
                 refine pure_ (i := 17) (N := some 71) (v := ?_) (a' := ?_) #[true, true, true, true, true, true, true, true, true, true, true, true, true, true, true, true, true, true] rfl rfl (any_of HT_.out (by kernel_rfl)) (fun _ _ _ h => h) (Or.inl ⟨by rfl, ?_⟩) ?_ ?_
                 rotate_left
                 ·intro w'
                  go_simp
                  with_reducible rfl
                 rotate_left
                 ·simp only [Act.put, List.setIfInBounds_toArray, List.set_cons_zero, List.set_cons_succ, i64_w, i32_w]
                  rfl
                 refine done_ (done_of HT_.out (by kernel_rfl)) ?_
                 try go_wp2
                 go_roundg k3
                 case measure => have := HK1.out; have := HJ4.out; have := HK3.out; omega
                 case rel => exact ⟨(wrap64 (x6_3 + 1)), zR, H', ⟨by have := HK1.out; have := HJ4.out; have := HK3.out; omega⟩, ⟨zB⟩⟩
                ·replace c19 := Bool.eq_false_iff.mpr c19
                 subst c19
                 rw [if_neg (show ¬ (false = true) by decide)] at H
                 obtain rfl := Option.some.inj H
                 have p166 : 0 ≤ (x5_1 : Int) := of_decide_eq_true zA
                 have q166 : x5_1 < (l0.length : Int) := of_decide_eq_true zA
                 obtain ⟨ad166, A166_1, c166_1, e166, hx166_0, hx166_1, hl166_1, hi166_1⟩ := at_T28 HR0.out x5_1 p166 q166
                 cases e166
                 replace hx166_0 := (HB.out.cell (World.block_lt_of_cell? w _ hx166_0)).trans hx166_0
                 replace hx166_1 := (HB.out.cell (World.block_lt_of_cell? w _ hx166_1)).trans hx166_1
                 have HR166_1 := Aside0.mk hi166_1
                 have HC166_1 := Aside0.mk hl166_1
                 clear hi166_1 hl166_1
                 replace p166 := eq_true p166
                 replace q166 := eq_true q166
                 try go_wp2
                 have n0_ := Aside0.mk (below_drew1 HB.out)
                 clear HB
                 have HB := n0_
                 clear n0_
                 have p167 : 0 ≤ (x5_1 : Int) := of_decide_eq_true zA
                 have q167 : x5_1 < (l0.length : Int) := of_decide_eq_true zA
                 obtain ⟨ad167, A167_1, c167_1, e167, hx167_0, hx167_1, hl167_1, hi167_1⟩ := at_T28 HR0.out x5_1 p167 q167
                 have hw167_1 := hx167_1
                 have hw167_0 := hx167_0
                 obtain rfl : ad166 = ad167 := (by injection e167)
                 replace hx167_0 := (HB.out.cell (World.block_lt_of_cell? w _ hx167_0)).trans hx167_0
                 replace hx167_1 := (HB.out.cell (World.block_lt_of_cell? w _ hx167_1)).trans hx167_1
                 have HR167_1 := Aside0.mk hi167_1
                 have HC167_1 := Aside0.mk hl167_1
                 clear hi167_1 hl167_1
                 replace p167 := eq_true p167
                 replace q167 := eq_true q167
                 have p168 : 0 ≤ (x6_3 : Int) := of_decide_eq_true zA
                 have q168 : x6_3 < (((rd_T28 l0 x5_1).f1).length : Int) := of_decide_eq_true zA
                 obtain ⟨ad168, A168_7, c168_7, e168, hx168_0, hx168_1, hx168_2, hx168_3, hx168_4, hx168_5, hx168_6, hx168_7, hl168_7, hi168_7⟩ := at_T31 HR167_1.out x6_3 p168 q168
                 have hw168_7 := hx168_7
                 have hw168_6 := hx168_6
                 have hw168_5 := hx168_5
                 have hw168_4 := hx168_4
                 have hw168_3 := hx168_3
                 have hw168_2 := hx168_2
                 have hw168_1 := hx168_1
                 have hw168_0 := hx168_0
                 cases e168
                 replace hx168_0 := (HB.out.cell (World.block_lt_of_cell? w _ hx168_0)).trans hx168_0
                 replace hx168_1 := (HB.out.cell (World.block_lt_of_cell? w _ hx168_1)).trans hx168_1
                 replace hx168_2 := (HB.out.cell (World.block_lt_of_cell? w _ hx168_2)).trans hx168_2
                 replace hx168_3 := (HB.out.cell (World.block_lt_of_cell? w _ hx168_3)).trans hx168_3
                 replace hx168_4 := (HB.out.cell (World.block_lt_of_cell? w _ hx168_4)).trans hx168_4
                 replace hx168_5 := (HB.out.cell (World.block_lt_of_cell? w _ hx168_5)).trans hx168_5
                 replace hx168_6 := (HB.out.cell (World.block_lt_of_cell? w _ hx168_6)).trans hx168_6
                 replace hx168_7 := (HB.out.cell (World.block_lt_of_cell? w _ hx168_7)).trans hx168_7
                 have HR168_7 := Aside0.mk hi168_7
                 have HC168_7 := Aside0.mk hl168_7
                 clear hi168_7 hl168_7
                 replace p168 := eq_true p168
                 replace q168 := eq_true q168
                 have p169 : 0 ≤ (x5_1 : Int) := of_decide_eq_true zA
                 have q169 : x5_1 < (l1.length : Int) := of_decide_eq_true zA
                 obtain ⟨ad169, A169_1, c169_1, e169, hx169_0, hx169_1, hl169_1, hi169_1⟩ := at_T28 HR1.out x5_1 p169 q169
                 have hw169_1 := hx169_1
                 have hw169_0 := hx169_0
                 cases e169
                 replace hx169_0 := (HB.out.cell (World.block_lt_of_cell? w _ hx169_0)).trans hx169_0
                 replace hx169_1 := (HB.out.cell (World.block_lt_of_cell? w _ hx169_1)).trans hx169_1
                 have HR169_1 := Aside0.mk hi169_1
                 have HC169_1 := Aside0.mk hl169_1
                 clear hi169_1 hl169_1
                 replace p169 := eq_true p169
                 replace q169 := eq_true q169
                 have p170 : 0 ≤ (x6_3 : Int) := of_decide_eq_true zA
                 have q170 : x6_3 < (((rd_T28 l1 x5_1).f1).length : Int) := of_decide_eq_true zA
                 obtain ⟨ad170, A170_7, c170_7, e170, hx170_0, hx170_1, hx170_2, hx170_3, hx170_4, hx170_5, hx170_6, hx170_7, hl170_7, hi170_7⟩ := at_T31 HR169_1.out x6_3 p170 q170
                 have hw170_7 := hx170_7
                 have hw170_6 := hx170_6
                 have hw170_5 := hx170_5
                 have hw170_4 := hx170_4
                 have hw170_3 := hx170_3
                 have hw170_2 := hx170_2
                 have hw170_1 := hx170_1
                 have hw170_0 := hx170_0
                 cases e170
                 replace hx170_0 := (HB.out.cell (World.block_lt_of_cell? w _ hx170_0)).trans hx170_0
                 replace hx170_1 := (HB.out.cell (World.block_lt_of_cell? w _ hx170_1)).trans hx170_1
                 replace hx170_2 := (HB.out.cell (World.block_lt_of_cell? w _ hx170_2)).trans hx170_2
                 replace hx170_3 := (HB.out.cell (World.block_lt_of_cell? w _ hx170_3)).trans hx170_3
                 replace hx170_4 := (HB.out.cell (World.block_lt_of_cell? w _ hx170_4)).trans hx170_4
                 replace hx170_5 := (HB.out.cell (World.block_lt_of_cell? w _ hx170_5)).trans hx170_5
                 replace hx170_6 := (HB.out.cell (World.block_lt_of_cell? w _ hx170_6)).trans hx170_6
                 replace hx170_7 := (HB.out.cell (World.block_lt_of_cell? w _ hx170_7)).trans hx170_7
                 have HR170_7 := Aside0.mk hi170_7
                 have HC170_7 := Aside0.mk hl170_7
                 clear hi170_7 hl170_7
                 replace p170 := eq_true p170
                 replace q170 := eq_true q170
                 refine start_ (n := 18) (S := fun w' => w'.cell? (ad166.add ((x5_1).toNat * 2)) = some (.int .i64 ((rd_T28 l0 x5_1).f0)) ∧ w'.cell? ⟨(ad166.add ((x5_1).toNat * 2)).block, (ad166.add ((x5_1).toNat * 2)).off + 1, none⟩ = some (.slice (some ad168) ((rd_T28 l0 x5_1).f1).length c167_1) ∧ w'.cell? (ad168.add ((x6_3).toNat * 8)) = some (.int .i64 ((rd_T31 ((rd_T28 l0 x5_1).f1) x6_3).f0)) ∧ w'.cell? ⟨(ad168.add ((x6_3).toNat * 8)).block, (ad168.add ((x6_3).toNat * 8)).off + 1, none⟩ = some (.int .i64 ((rd_T31 ((rd_T28 l0 x5_1).f1) x6_3).f1)) ∧ w'.cell? ⟨(ad168.add ((x6_3).toNat * 8)).block, (ad168.add ((x6_3).toNat * 8)).off + 2, none⟩ = some (.int .i64 ((rd_T31 ((rd_T28 l0 x5_1).f1) x6_3).f2)) ∧ w'.cell? ⟨(ad168.add ((x6_3).toNat * 8)).block, (ad168.add ((x6_3).toNat * 8)).off + 3, none⟩ = some (.int .i64 ((rd_T31 ((rd_T28 l0 x5_1).f1) x6_3).f3)) ∧ w'.cell? ⟨(ad168.add ((x6_3).toNat * 8)).block, (ad168.add ((x6_3).toNat * 8)).off + 4, none⟩ = some (.int .i64 ((rd_T31 ((rd_T28 l0 x5_1).f1) x6_3).f4)) ∧ w'.cell? ⟨(ad168.add ((x6_3).toNat * 8)).block, (ad168.add ((x6_3).toNat * 8)).off + 5, none⟩ = some (.string ((rd_T31 ((rd_T28 l0 x5_1).f1) x6_3).f5)) ∧ w'.cell? ⟨(ad168.add ((x6_3).toNat * 8)).block, (ad168.add ((x6_3).toNat * 8)).off + 6, none⟩ = some (.int .i64 ((rd_T31 ((rd_T28 l0 x5_1).f1) x6_3).f6)) ∧ w'.cell? ⟨(ad168.add ((x6_3).toNat * 8)).block, (ad168.add ((x6_3).toNat * 8)).off + 7, none⟩ = some (.slice A168_7 ((rd_T31 ((rd_T28 l0 x5_1).f1) x6_3).f7).length c168_7) ∧ w'.cell? (ad169.add ((x5_1).toNat * 2)) = some (.int .i64 ((rd_T28 l1 x5_1).f0)) ∧ w'.cell? ⟨(ad169.add ((x5_1).toNat * 2)).block, (ad169.add ((x5_1).toNat * 2)).off + 1, none⟩ = some (.slice (some ad170) ((rd_T28 l1 x5_1).f1).length c169_1) ∧ w'.cell? (ad170.add ((x6_3).toNat * 8)) = some (.int .i64 ((rd_T31 ((rd_T28 l1 x5_1).f1) x6_3).f0)) ∧ w'.cell? ⟨(ad170.add ((x6_3).toNat * 8)).block, (ad170.add ((x6_3).toNat * 8)).off + 1, none⟩ = some (.int .i64 ((rd_T31 ((rd_T28 l1 x5_1).f1) x6_3).f1)) ∧ w'.cell? ⟨(ad170.add ((x6_3).toNat * 8)).block, (ad170.add ((x6_3).toNat * 8)).off + 2, none⟩ = some (.int .i64 ((rd_T31 ((rd_T28 l1 x5_1).f1) x6_3).f2)) ∧ w'.cell? ⟨(ad170.add ((x6_3).toNat * 8)).block, (ad170.add ((x6_3).toNat * 8)).off + 3, none⟩ = some (.int .i64 ((rd_T31 ((rd_T28 l1 x5_1).f1) x6_3).f3)) ∧ w'.cell? ⟨(ad170.add ((x6_3).toNat * 8)).block, (ad170.add ((x6_3).toNat * 8)).off + 4, none⟩ = some (.int .i64 ((rd_T31 ((rd_T28 l1 x5_1).f1) x6_3).f4)) ∧ w'.cell? ⟨(ad170.add ((x6_3).toNat * 8)).block, (ad170.add ((x6_3).toNat * 8)).off + 5, none⟩ = some (.string ((rd_T31 ((rd_T28 l1 x5_1).f1) x6_3).f5)) ∧ w'.cell? ⟨(ad170.add ((x6_3).toNat * 8)).block, (ad170.add ((x6_3).toNat * 8)).off + 6, none⟩ = some (.int .i64 ((rd_T31 ((rd_T28 l1 x5_1).f1) x6_3).f6)) ∧ w'.cell? ⟨(ad170.add ((x6_3).toNat * 8)).block, (ad170.add ((x6_3).toNat * 8)).off + 7, none⟩ = some (.slice A170_7 ((rd_T31 ((rd_T28 l1 x5_1).f1) x6_3).f7).length c170_7)) (ds := []) #[false, false, false, false, false, false, false, false, false, false, false, false, false, false, false, false, false, false] (by kernel_rfl) rfl rfl ⟨((HB.out.cell (World.block_lt_of_cell? w _ hw167_0)).trans hw167_0), ((HB.out.cell (World.block_lt_of_cell? w _ hw167_1)).trans hw167_1), ((HB.out.cell (World.block_lt_of_cell? w _ hw168_0)).trans hw168_0), ((HB.out.cell (World.block_lt_of_cell? w _ hw168_1)).trans hw168_1), ((HB.out.cell (World.block_lt_of_cell? w _ hw168_2)).trans hw168_2), ((HB.out.cell (World.block_lt_of_cell? w _ hw168_3)).trans hw168_3), ((HB.out.cell (World.block_lt_of_cell? w _ hw168_4)).trans hw168_4), ((HB.out.cell (World.block_lt_of_cell? w _ hw168_5)).trans hw168_5), ((HB.out.cell (World.block_lt_of_cell? w _ hw168_6)).trans hw168_6), ((HB.out.cell (World.block_lt_of_cell? w _ hw168_7)).trans hw168_7), ((HB.out.cell (World.block_lt_of_cell? w _ hw169_0)).trans hw169_0), ((HB.out.cell (World.block_lt_of_cell? w _ hw169_1)).trans hw169_1), ((HB.out.cell (World.block_lt_of_cell? w _ hw170_0)).trans hw170_0), ((HB.out.cell (World.block_lt_of_cell? w _ hw170_1)).trans hw170_1), ((HB.out.cell (World.block_lt_of_cell? w _ hw170_2)).trans hw170_2), ((HB.out.cell (World.block_lt_of_cell? w _ hw170_3)).trans hw170_3), ((HB.out.cell (World.block_lt_of_cell? w _ hw170_4)).trans hw170_4), ((HB.out.cell (World.block_lt_of_cell? w _ hw170_5)).trans hw170_5), ((HB.out.cell (World.block_lt_of_cell? w _ hw170_6)).trans hw170_6), ((HB.out.cell (World.block_lt_of_cell? w _ hw170_7)).trans hw170_7)⟩ (fun hHeld => ?_); refine with_tabW gumshoeref09_Same.tab11 gumshoeref09_Same.bits11 (fun HT_ HW_ => ?_)
                 generalize wr.drew = w22 at HB HR167_1 HR168_7 HR169_1 HR170_7 hx167_0 hx167_1 hx168_0 hx168_1 hx168_2 hx168_3 hx168_4 hx168_5 hx168_6 hx168_7 hx169_0 hx169_1 hx170_0 hx170_1 hx170_2 hx170_3 hx170_4 hx170_5 hx170_6 hx170_7 hHeld ⊢
                 refine pure_ (i := 0) (N := some 54) (v := ?_) (a' := ?_) #[true, false, false, false, false, false, false, false, false, false, false, false, false, false, false, false, false, false] rfl rfl (any_of HT_.out (by kernel_rfl)) (fun _ _ _ h => h) (Or.inl ⟨by rfl, ?_⟩) ?_ ?_
                 rotate_left
                 ·intro w'
                  go_simp
                  with_reducible rfl
                 rotate_left
                 ·simp only [Act.put, List.setIfInBounds_toArray, List.set_cons_zero, List.set_cons_succ, i64_w, i32_w]
                  rfl
                 refine pure_ (i := 1) (N := some 55) (v := ?_) (a' := ?_) #[true, true, false, false, false, false, false, false, false, false, false, false, false, false, false, false, false, false] rfl rfl (any_of HT_.out (by kernel_rfl)) (fun _ _ _ h => h) (Or.inl ⟨by rfl, ?_⟩) ?_ ?_
                 rotate_left
                 ·intro w'
                  go_simp
                  with_reducible rfl
                 rotate_left
                 ·simp only [Act.put, List.setIfInBounds_toArray, List.set_cons_zero, List.set_cons_succ, i64_w, i32_w]
                  rfl
                 refine pure_ (i := 2) (N := some 56) (v := ?_) (a' := ?_) #[true, true, true, false, false, false, false, false, false, false, false, false, false, false, false, false, false, false] rfl rfl (any_of HT_.out (by kernel_rfl)) (fun _ _ _ h => h) (Or.inl ⟨by rfl, ?_⟩) ?_ ?_
                 rotate_left
                 ·intro w'
                  go_simp
                  with_reducible rfl
                 rotate_left
                 ·simp only [Act.put, List.setIfInBounds_toArray, List.set_cons_zero, List.set_cons_succ, i64_w, i32_w]
                  rfl
                 refine pure_ (i := 3) (N := some 57) (v := ?_) (a' := ?_) #[true, true, true, true, false, false, false, false, false, false, false, false, false, false, false, false, false, false] rfl rfl (any_of HT_.out (by kernel_rfl)) (fun _ _ _ h => h) (Or.inl ⟨by rfl, ?_⟩) ?_ ?_
                 rotate_left
                 ·intro w'
                  go_simp
                  with_reducible rfl
                 rotate_left
                 ·simp only [Act.put, List.setIfInBounds_toArray, List.set_cons_zero, List.set_cons_succ, i64_w, i32_w]
                  rfl
                 refine pure_ (i := 5) (N := some 59) (v := ?_) (a' := ?_) #[true, true, true, true, false, true, false, false, false, false, false, false, false, false, false, false, false, false] rfl rfl (any_of HT_.out (by kernel_rfl)) (fun _ _ _ h => h) (Or.inl ⟨by rfl, ?_⟩) ?_ ?_
                 rotate_left
                 ·intro w'
                  go_simp
                  with_reducible rfl
                 rotate_left
                 ·simp only [Act.put, List.setIfInBounds_toArray, List.set_cons_zero, List.set_cons_succ, i64_w, i32_w]
                  rfl
                 refine pure_ (i := 8) (N := some 62) (v := ?_) (a' := ?_) #[true, true, true, true, false, true, false, false, true, false, false, false, false, false, false, false, false, false] rfl rfl (any_of HT_.out (by kernel_rfl)) (fun _ _ _ h => h) (Or.inl ⟨by rfl, ?_⟩) ?_ ?_
                 rotate_left
                 ·intro w'
                  go_simp
                  with_reducible rfl
                 rotate_left
                 ·simp only [Act.put, List.setIfInBounds_toArray, List.set_cons_zero, List.set_cons_succ, i64_w, i32_w]
                  rfl
                 refine pure_ (i := 9) (N := some 63) (v := ?_) (a' := ?_) #[true, true, true, true, false, true, false, false, true, true, false, false, false, false, false, false, false, false] rfl rfl (any_of HT_.out (by kernel_rfl)) (fun _ _ _ h => h) (Or.inl ⟨by rfl, ?_⟩) ?_ ?_
                 rotate_left
                 ·intro w'
                  go_simp
                  with_reducible rfl
                 rotate_left
                 ·simp only [Act.put, List.setIfInBounds_toArray, List.set_cons_zero, List.set_cons_succ, i64_w, i32_w]
                  rfl
                 refine pure_ (i := 10) (N := some 64) (v := ?_) (a' := ?_) #[true, true, true, true, false, true, false, false, true, true, true, false, false, false, false, false, false, false] rfl rfl (any_of HT_.out (by kernel_rfl)) (fun _ _ _ h => h) (Or.inl ⟨by rfl, ?_⟩) ?_ ?_
                 rotate_left
                 ·intro w'
                  go_simp
                  with_reducible rfl
                 rotate_left
                 ·simp only [Act.put, List.setIfInBounds_toArray, List.set_cons_zero, List.set_cons_succ, i64_w, i32_w]
                  rfl
                 refine pure_ (i := 11) (N := some 65) (v := ?_) (a' := ?_) #[true, true, true, true, false, true, false, false, true, true, true, true, false, false, false, false, false, false] rfl rfl (any_of HT_.out (by kernel_rfl)) (fun _ _ _ h => h) (Or.inl ⟨by rfl, ?_⟩) ?_ ?_
                 rotate_left
                 ·intro w'
                  go_simp
                  with_reducible rfl
                 rotate_left
                 ·simp only [Act.put, List.setIfInBounds_toArray, List.set_cons_zero, List.set_cons_succ, i64_w, i32_w]
                  rfl
                 refine pure_ (i := 13) (N := some 67) (v := ?_) (a' := ?_) #[true, true, true, true, false, true, false, false, true, true, true, true, false, true, false, false, false, false] rfl rfl (any_of HT_.out (by kernel_rfl)) (fun _ _ _ h => h) (Or.inl ⟨by rfl, ?_⟩) ?_ ?_
                 rotate_left
                 ·intro w'
                  go_simp
                  with_reducible rfl
                 rotate_left
                 ·simp only [Act.put, List.setIfInBounds_toArray, List.set_cons_zero, List.set_cons_succ, i64_w, i32_w]
                  rfl
                 refine take_ (i := 4) (N := some 58) (v := ?_) (a' := ?_) #[true, true, true, true, true, true, false, false, true, true, true, true, false, true, false, false, false, false] rfl rfl (take_ofW HT_.out HW_.out (by kernel_rfl)) (fun _ _ _ h => h) (Or.inl ⟨by rfl, ?_⟩) hHeld ?_ ?_
                 rotate_left
                 ·rintro w' ⟨s0, s1, s2, s3, s4, s5, s6, s7, s8, s9, s10, s11, s12, s13, s14, s15, s16, s17, s18, s19⟩
                  go_simp
                  with_reducible rfl
                 rotate_left
                 ·simp only [Act.put, List.setIfInBounds_toArray, List.set_cons_zero, List.set_cons_succ, i64_w, i32_w]
                  rfl
                 refine pure_ (i := 6) (N := some 60) (v := ?_) (a' := ?_) #[true, true, true, true, true, true, true, false, true, true, true, true, false, true, false, false, false, false] rfl rfl (any_of HT_.out (by kernel_rfl)) (fun _ _ _ h => h) (Or.inl ⟨by rfl, ?_⟩) ?_ ?_
                 rotate_left
                 ·intro w'
                  go_simp
                  with_reducible rfl
                 rotate_left
                 ·simp only [Act.put, List.setIfInBounds_toArray, List.set_cons_zero, List.set_cons_succ, i64_w, i32_w]
                  rfl
                 refine take_ (i := 7) (N := some 61) (v := ?_) (a' := ?_) #[true, true, true, true, true, true, true, true, true, true, true, true, false, true, false, false, false, false] rfl rfl (take_ofW HT_.out HW_.out (by kernel_rfl)) (fun _ _ _ h => h) (Or.inl ⟨by rfl, ?_⟩) hHeld ?_ ?_
                 rotate_left
                 ·rintro w' ⟨s0, s1, s2, s3, s4, s5, s6, s7, s8, s9, s10, s11, s12, s13, s14, s15, s16, s17, s18, s19⟩
                  go_simp
                  with_reducible rfl
                 rotate_left
                 ·simp only [Act.put, List.setIfInBounds_toArray, List.set_cons_zero, List.set_cons_succ, i64_w, i32_w]
                  rfl
                 refine take_ (i := 12) (N := some 66) (v := ?_) (a' := ?_) #[true, true, true, true, true, true, true, true, true, true, true, true, true, true, false, false, false, false] rfl rfl (take_ofW HT_.out HW_.out (by kernel_rfl)) (fun _ _ _ h => h) (Or.inl ⟨by rfl, ?_⟩) hHeld ?_ ?_
                 rotate_left
                 ·rintro w' ⟨s0, s1, s2, s3, s4, s5, s6, s7, s8, s9, s10, s11, s12, s13, s14, s15, s16, s17, s18, s19⟩
                  go_simp
                  with_reducible rfl
                 rotate_left
                 ·simp only [Act.put, List.setIfInBounds_toArray, List.set_cons_zero, List.set_cons_succ, i64_w, i32_w]
                  rfl
                 refine pure_ (i := 14) (N := some 68) (v := ?_) (a' := ?_) #[true, true, true, true, true, true, true, true, true, true, true, true, true, true, true, false, false, false] rfl rfl (any_of HT_.out (by kernel_rfl)) (fun _ _ _ h => h) (Or.inl ⟨by rfl, ?_⟩) ?_ ?_
                 rotate_left
                 ·intro w'
                  go_simp
                  with_reducible rfl
                 rotate_left
                 ·simp only [Act.put, List.setIfInBounds_toArray, List.set_cons_zero, List.set_cons_succ, i64_w, i32_w]
                  rfl
                 refine take_ (i := 15) (N := some 69) (v := ?_) (a' := ?_) #[true, true, true, true, true, true, true, true, true, true, true, true, true, true, true, true, false, false] rfl rfl (take_ofW HT_.out HW_.out (by kernel_rfl)) (fun _ _ _ h => h) (Or.inl ⟨by rfl, ?_⟩) hHeld ?_ ?_
                 rotate_left
                 ·rintro w' ⟨s0, s1, s2, s3, s4, s5, s6, s7, s8, s9, s10, s11, s12, s13, s14, s15, s16, s17, s18, s19⟩
                  go_simp
                  with_reducible rfl
                 rotate_left
                 ·simp only [Act.put, List.setIfInBounds_toArray, List.set_cons_zero, List.set_cons_succ, i64_w, i32_w]
                  rfl
                 refine one_ (i := 16) (N := some 70) #[true, true, true, true, true, true, true, true, true, true, true, true, true, true, true, true, true, false] rfl rfl (one_of HT_.out (by kernel_rfl)) (by decide) (fun K hK => ?_)
                 refine goes_ Tryz.func41 (by kernel_rfl) rfl #[.agg #[.int .i64 ((rd_T31 ((rd_T28 l0 x5_1).f1) x6_3).f0), .int .i64 ((rd_T31 ((rd_T28 l0 x5_1).f1) x6_3).f1), .int .i64 ((rd_T31 ((rd_T28 l0 x5_1).f1) x6_3).f2), .int .i64 ((rd_T31 ((rd_T28 l0 x5_1).f1) x6_3).f3), .int .i64 ((rd_T31 ((rd_T28 l0 x5_1).f1) x6_3).f4), .string ((rd_T31 ((rd_T28 l0 x5_1).f1) x6_3).f5), .int .i64 ((rd_T31 ((rd_T28 l0 x5_1).f1) x6_3).f6), .slice A168_7 ((rd_T31 ((rd_T28 l0 x5_1).f1) x6_3).f7).length c168_7], .agg #[.int .i64 ((rd_T31 ((rd_T28 l1 x5_1).f1) x6_3).f0), .int .i64 ((rd_T31 ((rd_T28 l1 x5_1).f1) x6_3).f1), .int .i64 ((rd_T31 ((rd_T28 l1 x5_1).f1) x6_3).f2), .int .i64 ((rd_T31 ((rd_T28 l1 x5_1).f1) x6_3).f3), .int .i64 ((rd_T31 ((rd_T28 l1 x5_1).f1) x6_3).f4), .string ((rd_T31 ((rd_T28 l1 x5_1).f1) x6_3).f5), .int .i64 ((rd_T31 ((rd_T28 l1 x5_1).f1) x6_3).f6), .slice A170_7 ((rd_T31 ((rd_T28 l1 x5_1).f1) x6_3).f7).length c170_7]] (by rfl) rfl rfl zP ?_
                 with_reducible refine (gumshoeref09_sameIns.calls k3 ((rd_T31 ((rd_T28 l0 x5_1).f1) x6_3).f0) ((rd_T31 ((rd_T28 l0 x5_1).f1) x6_3).f1) ((rd_T31 ((rd_T28 l0 x5_1).f1) x6_3).f2) ((rd_T31 ((rd_T28 l0 x5_1).f1) x6_3).f3) ((rd_T31 ((rd_T28 l0 x5_1).f1) x6_3).f4) ((rd_T31 ((rd_T28 l0 x5_1).f1) x6_3).f5) ((rd_T31 ((rd_T28 l0 x5_1).f1) x6_3).f6) _ _ ((rd_T31 ((rd_T28 l0 x5_1).f1) x6_3).f7) ((rd_T31 ((rd_T28 l1 x5_1).f1) x6_3).f0) ((rd_T31 ((rd_T28 l1 x5_1).f1) x6_3).f1) ((rd_T31 ((rd_T28 l1 x5_1).f1) x6_3).f2) ((rd_T31 ((rd_T28 l1 x5_1).f1) x6_3).f3) ((rd_T31 ((rd_T28 l1 x5_1).f1) x6_3).f4) ((rd_T31 ((rd_T28 l1 x5_1).f1) x6_3).f5) ((rd_T31 ((rd_T28 l1 x5_1).f1) x6_3).f6) _ _ ((rd_T31 ((rd_T28 l1 x5_1).f1) x6_3).f7) false _ ?side1 ?side2 ?side3 ?side4 A18.out).mono ?_
                 (case side1 => repeat (first | exact (Kd.C_below HR168_7.out HB.out) | (with_reducible refine Kd.C_alloc ?_ _) | (with_reducible refine Kd.C_drewN ?_ _) | (with_reducible refine Kd.C_drew ?_)))
                 (case side2 => exact HC168_7.out)
                 (case side3 => repeat (first | exact (Kd.C_below HR170_7.out HB.out) | (with_reducible refine Kd.C_alloc ?_ _) | (with_reducible refine Kd.C_drewN ?_ _) | (with_reducible refine Kd.C_drew ?_)))
                 (case side4 => exact HC170_7.out)
                 rintro e w23 ⟨rfl, hb⟩
                 refine ⟨_, rfl, ?_⟩
                 have n0_ := Aside0.mk (below_step zB hb)
                 clear HB
                 have HB := n0_
                 clear n0_
                 (try clear hb)
                 (try clear hb2)
                 (try clear hk)
                 (try clear hi)
                 refine hK.out _ _ ⟨((HB.out.cell (World.block_lt_of_cell? w _ hw167_0)).trans hw167_0), ((HB.out.cell (World.block_lt_of_cell? w _ hw167_1)).trans hw167_1), ((HB.out.cell (World.block_lt_of_cell? w _ hw168_0)).trans hw168_0), ((HB.out.cell (World.block_lt_of_cell? w _ hw168_1)).trans hw168_1), ((HB.out.cell (World.block_lt_of_cell? w _ hw168_2)).trans hw168_2), ((HB.out.cell (World.block_lt_of_cell? w _ hw168_3)).trans hw168_3), ((HB.out.cell (World.block_lt_of_cell? w _ hw168_4)).trans hw168_4), ((HB.out.cell (World.block_lt_of_cell? w _ hw168_5)).trans hw168_5), ((HB.out.cell (World.block_lt_of_cell? w _ hw168_6)).trans hw168_6), ((HB.out.cell (World.block_lt_of_cell? w _ hw168_7)).trans hw168_7), ((HB.out.cell (World.block_lt_of_cell? w _ hw169_0)).trans hw169_0), ((HB.out.cell (World.block_lt_of_cell? w _ hw169_1)).trans hw169_1), ((HB.out.cell (World.block_lt_of_cell? w _ hw170_0)).trans hw170_0), ((HB.out.cell (World.block_lt_of_cell? w _ hw170_1)).trans hw170_1), ((HB.out.cell (World.block_lt_of_cell? w _ hw170_2)).trans hw170_2), ((HB.out.cell (World.block_lt_of_cell? w _ hw170_3)).trans hw170_3), ((HB.out.cell (World.block_lt_of_cell? w _ hw170_4)).trans hw170_4), ((HB.out.cell (World.block_lt_of_cell? w _ hw170_5)).trans hw170_5), ((HB.out.cell (World.block_lt_of_cell? w _ hw170_6)).trans hw170_6), ((HB.out.cell (World.block_lt_of_cell? w _ hw170_7)).trans hw170_7)⟩ (fun hHeld => ?_)
                 clear hK K
                 refine norm_ (a' := ?_) ?_ ?_
                 rotate_left
                 ·show Act.put _ (some 70) _ = _
                  simp only [Act.put, List.setIfInBounds_toArray, List.set_cons_zero, List.set_cons_succ, i64_w, i32_w]
                  rfl
                 refine pure_ (i := 17) (N := some 71) (v := ?_) (a' := ?_) #[true, true, true, true, true, true, true, true, true, true, true, true, true, true, true, true, true, true] rfl rfl (any_of HT_.out (by kernel_rfl)) (fun _ _ _ h => h) (Or.inl ⟨by rfl, ?_⟩) ?_ ?_
                 rotate_left
                 ·intro w'
                  go_simp
                  with_reducible rfl
                 rotate_left
                 ·simp only [Act.put, List.setIfInBounds_toArray, List.set_cons_zero, List.set_cons_succ, i64_w, i32_w]
                  rfl
                 refine done_ (done_of HT_.out (by kernel_rfl)) ?_
                 try go_wp2
                 go_ret
                 exact ⟨zE, zB⟩
               ·rw [if_neg c17] at H
                exact absurd H (by simp)
              ·rw [if_neg c16] at H
               exact absurd H (by simp)
             ·rw [if_neg c15] at H
              exact absurd H (by simp)
            ·rw [if_neg c14] at H
             have c14b0 : decide (x6_3 < (((rd_T28 l0 x5_1).f1).length : Int)) = false := decide_eq_false c14
             clear c14
             have H' := Aside0.mk H
             clear H
             have p166 : 0 ≤ (x5_1 : Int) := of_decide_eq_true zA
             have q166 : x5_1 < (l0.length : Int) := of_decide_eq_true zA
             obtain ⟨ad166, A166_1, c166_1, e166, hx166_0, hx166_1, hl166_1, hi166_1⟩ := at_T28 HR0.out x5_1 p166 q166
             cases e166
             replace hx166_0 := (HB.out.cell (World.block_lt_of_cell? w _ hx166_0)).trans hx166_0
             replace hx166_1 := (HB.out.cell (World.block_lt_of_cell? w _ hx166_1)).trans hx166_1
             have HR166_1 := Aside0.mk hi166_1
             have HC166_1 := Aside0.mk hl166_1
             clear hi166_1 hl166_1
             replace p166 := eq_true p166
             replace q166 := eq_true q166
             go_wp2
             go_roundg k3
             case measure => have := HK1.out; have := HJ4.out; have := HK3.out; omega
             case rel => exact ⟨(wrap64 (x5_1 + 1)), zR, H', ⟨by have := HK1.out; have := HJ4.out; have := HK3.out; omega⟩, ⟨zB⟩⟩
           ·rw [if_neg c13] at H
            exact absurd H (by simp)
          ·rw [if_neg c12] at H
           exact absurd H (by simp)
    ·rw [if_neg c4] at H
     have c4b0 : decide (x5_1 < (l0.length : Int)) = false := decide_eq_false c4
     clear c4
     obtain rfl := Option.some.inj H
     go_wp2
     go_ret
     exact ⟨zE, zB⟩
 ·rw [if_neg c3] at H
  have c3b0 : ((l0.length : Int) == (l1.length : Int)) = false := beq_eq_false_iff_ne.mpr c3
  have c3b1 : ((l0.length : Int) != (l1.length : Int)) = true := bne_iff_ne.mpr c3
  have c3b2 : (l0.length == l1.length) = false := by first | simpa using c3 | (simp at c3 ⊢; omega)
  obtain rfl := Option.some.inj H
  go_enter Tryz.func20, Tryz.ntmps20
  go_wp2
  go_ret
  exact ⟨zE, zB⟩
end Go.Proofs.YtjlhhjfmekjbhaaGreatDoor.Pq

namespace Go.Proofs.YtjlhhjfmekjbhaaGreatDoor.Pq
open Go.RowKit Go.Proofs.YtjlhhjfmekjbhaaGreatDoorW.PrintWords Go.Proofs.YtjlhhjfmekjbhaaGreatDoorW.PrintLast Go.Proofs.YtjlhhjfmekjbhaaGreatDoorW.PrintMore
set_option linter.unusedVariables false
set_option linter.unusedSimpArgs false
/-! ### gumshoeref09_Marks: function 18 -/
mutual
def gumshoeref09_Marks.l0 : Nat → List (S28) → List Int → Int → Option (List Int)
 | 0, _, _, _ => none
 | k + 1, x0, x3, x4 => if x4 < (x0.length : Int) then (gumshoeref09_Marks.l1 k x0 x3 x4 0) else (some x3)
def gumshoeref09_Marks.l1 : Nat → List (S28) → List Int → Int → Int → Option (List Int)
 | 0, _, _, _, _ => none
 | k + 1, x0, x3, x4, x5 => if 0 ≤ x4 then (if x4 < (x0.length : Int) then (if x5 < (((rd_T28 x0 x4).f1).length : Int) then (if 0 ≤ x5 then (if ((rd_T31 ((rd_T28 x0 x4).f1) x5).f0) = 6 then (if x3.length < 17592186044416 then (gumshoeref09_Marks.l1 k x0 (x3 ++ [(rd_T31 ((rd_T28 x0 x4).f1) x5).f6]) x4 (wrap64 (x5 + 1))) else (none)) else (if ((rd_T31 ((rd_T28 x0 x4).f1) x5).f0) = 12 then (if x3.length < 17592186044416 then (gumshoeref09_Marks.l1 k x0 (x3 ++ [(rd_T31 ((rd_T28 x0 x4).f1) x5).f6]) x4 (wrap64 (x5 + 1))) else (none)) else (if ((rd_T31 ((rd_T28 x0 x4).f1) x5).f0) = 13 then (if x3.length < 17592186044416 then (gumshoeref09_Marks.l1 k x0 (x3 ++ [(rd_T31 ((rd_T28 x0 x4).f1) x5).f6]) x4 (wrap64 (x5 + 1))) else (none)) else (gumshoeref09_Marks.l1 k x0 x3 x4 (wrap64 (x5 + 1)))))) else (none)) else (gumshoeref09_Marks.l0 k x0 x3 (wrap64 (x4 + 1)))) else (none)) else (none)
end
def gumshoeref09_Marks.f (k : Nat) (l0 : List (S28)) : Option (List Int) := gumshoeref09_Marks.l0 k l0 ([] : List Int) 0
end Go.Proofs.YtjlhhjfmekjbhaaGreatDoor.Pq

