/- Lemmas for the claims of this seat (own texts, packed; what the claims do not use is left out). No condition. -/
import Derived.Laws.Cover1
import Derived.Test.YtjlhhjfmekjbhaaGreatDoorMg0
import Derived.Test.YtjlhhjfmekjbhaaGreatDoorMg1
namespace Go.Proofs.YtjlhhjfmekjbhaaGreatDoor.Pr
open Go.RowKit Go.Proofs.YtjlhhjfmekjbhaaGreatDoor.Va Go.Proofs.YtjlhhjfmekjbhaaGreatDoorW.PrintWords Go.Proofs.YtjlhhjfmekjbhaaGreatDoorW.PrintLast Go.Proofs.YtjlhhjfmekjbhaaGreatDoorW.PrintMore
set_option linter.unusedVariables false
set_option linter.unusedSimpArgs false
/-! ### value_makers_1: function 98 -/
def value_makers_1.j0 : Nat → Bool → Int → Int → ByteArray → Int → Int → ByteArray → Option (Int × Int × ByteArray)
  | 0, _, _, _, _, _, _, _ => none
  | k + 1, x12, x106000, x106001, x106002, x107000, x107001, x107002 => if x12 = true then ((value_Key.f x106000 x106001 x106002).bind fun t108 => ((value_Key.f x107000 x107001 x107002).bind fun t109 => (if t108.size + t109.size ≤ 9223372036854775807 then (some (4, 0, t108 ++ t109)) else (none)))) else ((value_Num.f x106000 x106001 x106002).bind fun t110 => ((value_Num.f x107000 x107001 x107002).bind fun t111 => ((value_number.f (wrap64 (t110 + t111))).bind fun bt112 => (some (bt112.1, bt112.2.1, bt112.2.2)))))
def value_makers_1.f (k : Nat) (a0_0 : Int) (a0_1 : Int) (a0_2 : ByteArray) (a1_0 : Int) (a1_1 : Int) (a1_2 : ByteArray) : Option (Int × Int × ByteArray) := if a0_0 = 4 then (value_makers_1.j0 k true a0_0 a0_1 a0_2 a1_0 a1_1 a1_2) else (value_makers_1.j0 k (a1_0 == 4) a0_0 a0_1 a0_2 a1_0 a1_1 a1_2)
set_option maxHeartbeats 8000000 in
set_option maxRecDepth 100000 in
theorem value_makers_1.calls (k : Nat) (a0_0 : Int) (a0_1 : Int) (a0_2 : ByteArray) (a1_0 : Int) (a1_1 : Int) (a1_2 : ByteArray) (r1 : Int) (r2 : Int) (r3 : ByteArray) (w : World) (hL : Laid w) (h : value_makers_1.f k a0_0 a0_1 a0_2 a1_0 a1_1 a1_2 = some (r1, r2, r3)) :
    Calls Tryz.prog 98 #[.agg #[.int .i64 a0_0, .int .i64 a0_1, .string a0_2], .agg #[.int .i64 a1_0, .int .i64 a1_1, .string a1_2]] w fun e w' => e = .returned (.agg #[.int .i64 r1, .int .i64 r2, .string r3]) ∧ Below w.heap.size w w' := by
  have HL := Aside0.mk hL
  clear hL
  have hu83 := Tryz.underlying83
  have HB := Aside0.mk (Below.refl w.heap.size w)
  have H : (if a0_0 = 4 then (value_makers_1.j0 k true a0_0 a0_1 a0_2 a1_0 a1_1 a1_2) else (value_makers_1.j0 k (a1_0 == 4) a0_0 a0_1 a0_2 a1_0 a1_1 a1_2)) = some (r1, r2, r3) := h
  clear h
  have HC3 := Aside0.mk H
  clear H
  go_enter Tryz.func98, Tryz.ntmps98
  go_upto_region 1 with (first | ((with_reducible refine gate_dst (N := 2) rfl ?_); refine zX (N := 2) (cs := #[.int .i64 a0_0, .int .i64 a0_1, .string a0_2]) (t := 83) (h := ?_); intro gb105 hg w4 hbox hb; have BK105 := Aside0.mk hbox; have GW105 := Aside0.mk ((zS : w.heap.size ≤ gb105)); have GE105 := Aside0.mk ((zS : w.heap.size ≤ gb105)); replace HB := Aside0.mk (below_step zB hb); clear hb hbox hg) | ((with_reducible refine gate_dst (N := 3) rfl ?_); refine zX (N := 3) (cs := #[.int .i64 a1_0, .int .i64 a1_1, .string a1_2]) (t := 83) (h := ?_); intro gb106 hg w5 hbox hb; have BK106 := Aside0.mk hbox; have GW106 := Aside0.mk ((zT : w.heap.size ≤ gb106)); have GE106 := Aside0.mk ((zT : w.heap.size ≤ gb106)); have NB105_106 := Aside0.mk ((zL : gb105 ≠ gb106)); have NB106_105 := Aside0.mk ((zM : gb106 ≠ gb105)); replace BK105 := Aside0.mk (blk_below (g := gb105) zK hb); replace HB := Aside0.mk (below_step zG hb); clear hb hbox hg) | ((with_reducible refine gate_dst (N := 4) rfl ?_); refine zX (N := 4) (cs := #[.int .i64 0, .int .i64 0, .string (⟨#[]⟩ : ByteArray)]) (t := 83) (h := ?_); intro gb107 hg w6 hbox hb; have BK107 := Aside0.mk hbox; have GW107 := Aside0.mk ((zT : w.heap.size ≤ gb107)); have GE107 := Aside0.mk ((zT : w.heap.size ≤ gb107)); have NB105_107 := Aside0.mk ((zL : gb105 ≠ gb107)); have NB107_105 := Aside0.mk ((zM : gb107 ≠ gb105)); have NB106_107 := Aside0.mk ((zL : gb106 ≠ gb107)); have NB107_106 := Aside0.mk ((zM : gb107 ≠ gb106)); replace BK105 := Aside0.mk (blk_below (g := gb105) zK hb); replace BK106 := Aside0.mk (blk_below (g := gb106) zK hb); replace HB := Aside0.mk (below_step zG hb); clear hb hbox hg))
  (try simp only [Act.put, List.setIfInBounds_toArray, List.set_cons_zero, List.set_cons_succ])
  go_cut [12] (fun v12 wc => ∃ (kq : Nat) (x12_2 : Bool), v12 = .bool x12_2 ∧ Aside0 (value_makers_1.j0 kq x12_2 a0_0 a0_1 a0_2 a1_0 a1_1 a1_2 = some (r1, r2, r3)) ∧ Aside0 (kq ≤ k) ∧ Aside0 (wc.heap[gb105]? = some (.cells #[.int .i64 a0_0, .int .i64 a0_1, .string a0_2] 83 (0, 0))) ∧ Aside0 (wc.heap[gb106]? = some (.cells #[.int .i64 a1_0, .int .i64 a1_1, .string a1_2] 83 (0, 0))) ∧ Aside0 (wc.heap[gb107]? = some (.cells #[.int .i64 0, .int .i64 0, .string (⟨#[]⟩ : ByteArray)] 83 (0, 0))) ∧ Aside0 (Below w.heap.size w wc))
  case first =>
    have H := HC3.out
    clear HC3
    by_cases c7 : a0_0 = 4
    · rw [if_pos c7] at H
      have c7b0 : (a0_0 == 4) = true := beq_iff_eq.mpr c7
      have c7b1 : (a0_0 != 4) = false := bne_eq_false_iff_eq.mpr c7
      clear c7
      (first | rw [c7b0] | (simp only [i64_w, i32_w]; rw [c7b0]) | skip)
      have H' := Aside0.mk H
      clear H
      have hnb8 := NB105_106.out
      have hnc8 := NB106_105.out
      have hnb9 := NB105_107.out
      have hnc9 := NB107_105.out
      have hcz10_0 : w6.cell? ⟨gb105, 0, none⟩ = some (.int .i64 a0_0) := (blk_cell BK105.out 0).trans rfl
      have hcz10_1 : w6.cell? ⟨gb105, 1, none⟩ = some (.int .i64 a0_1) := (blk_cell BK105.out 1).trans rfl
      have hcz10_2 : w6.cell? ⟨gb105, 2, none⟩ = some (.string a0_2) := (blk_cell BK105.out 2).trans rfl
      have hfz10_0 := blk_frozen BK105.out 0
      have hfz10_1 := blk_frozen BK105.out 1
      have hfz10_2 := blk_frozen BK105.out 2
      go_wp2
      go_meet
      case rel => exact ⟨_, (true), zR, H', ⟨by first | omega | exact Nat.le_refl _⟩, ⟨zK⟩, ⟨zK⟩, ⟨zK⟩, ⟨zG⟩⟩
    · rw [if_neg c7] at H
      have c7b0 : (a0_0 == 4) = false := beq_eq_false_iff_ne.mpr c7
      have c7b1 : (a0_0 != 4) = true := bne_iff_ne.mpr c7
      (first | rw [c7b0] | (simp only [i64_w, i32_w]; rw [c7b0]) | skip)
      have H' := Aside0.mk H
      clear H
      have hnb11 := NB105_106.out
      have hnc11 := NB106_105.out
      have hnb12 := NB105_107.out
      have hnc12 := NB107_105.out
      have hcz13_0 : w6.cell? ⟨gb105, 0, none⟩ = some (.int .i64 a0_0) := (blk_cell BK105.out 0).trans rfl
      have hcz13_1 : w6.cell? ⟨gb105, 1, none⟩ = some (.int .i64 a0_1) := (blk_cell BK105.out 1).trans rfl
      have hcz13_2 : w6.cell? ⟨gb105, 2, none⟩ = some (.string a0_2) := (blk_cell BK105.out 2).trans rfl
      have hfz13_0 := blk_frozen BK105.out 0
      have hfz13_1 := blk_frozen BK105.out 1
      have hfz13_2 := blk_frozen BK105.out 2
      have hnb14 := NB106_107.out
      have hnc14 := NB107_106.out
      have hcz15_0 : w6.cell? ⟨gb106, 0, none⟩ = some (.int .i64 a1_0) := (blk_cell BK106.out 0).trans rfl
      have hcz15_1 : w6.cell? ⟨gb106, 1, none⟩ = some (.int .i64 a1_1) := (blk_cell BK106.out 1).trans rfl
      have hcz15_2 : w6.cell? ⟨gb106, 2, none⟩ = some (.string a1_2) := (blk_cell BK106.out 2).trans rfl
      have hfz15_0 := blk_frozen BK106.out 0
      have hfz15_1 := blk_frozen BK106.out 1
      have hfz15_2 := blk_frozen BK106.out 2
      go_wp2
      go_meet
      case rel => exact ⟨_, ((a1_0 == 4)), zR, H', ⟨by first | omega | exact Nat.le_refl _⟩, ⟨zK⟩, ⟨zK⟩, ⟨zK⟩, ⟨zG⟩⟩
  case rest =>
    clear HC3
    obtain ⟨kq, x12_2, rfl, HA, HJ2, BK105, BK106, BK107, HB⟩ := hcut
    cases kq with
    | zero => exact absurd HA.out (by simp [value_makers_1.j0])
    | succ kj2 =>
      have H := HA.out
      clear HA
      simp only [value_makers_1.j0] at H
      by_cases c16 : x12_2 = true
      · subst c16
        rw [if_pos rfl] at H
        obtain ⟨t108, A17, H⟩ := zO H
        obtain ⟨t109, A18, H⟩ := zO H
        by_cases c19 : t108.size + t109.size ≤ 9223372036854775807
        · rw [if_pos c19] at H
          have c19b0 := eq_true c19
          have c19b1 : decide (t108.size + t109.size ≤ 9223372036854775807) = true := decide_eq_true c19
          try have c19b2 : (9223372036854775807 < t108.size + t109.size) = False := eq_false (Nat.not_lt.2 c19)
          simp only [Option.some.injEq, Prod.mk.injEq] at H
          obtain ⟨rfl, rfl, rfl⟩ := H
          try go_wp2
          have n0_ := Aside0.mk (blk_drew BK105.out)
          have n1_ := Aside0.mk (blk_drew BK106.out)
          have n2_ := Aside0.mk (blk_drew BK107.out)
          have n3_ := Aside0.mk (below_drew1 HB.out)
          clear BK105
          clear BK106
          clear BK107
          clear HB
          have BK105 := n0_
          have BK106 := n1_
          have BK107 := n2_
          have HB := n3_
          clear n0_ n1_ n2_ n3_
          refine start_ (n := 7) (S := fun w' => w'.cell? ⟨gb105, 0, none⟩ = some (.int .i64 a0_0) ∧ w'.cell? ⟨gb105, 1, none⟩ = some (.int .i64 a0_1) ∧ w'.cell? ⟨gb105, 2, none⟩ = some (.string a0_2) ∧ w'.cell? ⟨gb106, 0, none⟩ = some (.int .i64 a1_0) ∧ w'.cell? ⟨gb106, 1, none⟩ = some (.int .i64 a1_1) ∧ w'.cell? ⟨gb106, 2, none⟩ = some (.string a1_2)) (ds := []) #[false, false, false, false, false, false, false] (by kernel_rfl) rfl rfl ⟨(blk_cell BK105.out 0).trans rfl, (blk_cell BK105.out 1).trans rfl, (blk_cell BK105.out 2).trans rfl, (blk_cell BK106.out 0).trans rfl, (blk_cell BK106.out 1).trans rfl, (blk_cell BK106.out 2).trans rfl⟩ (fun hHeld => ?_)
          generalize wc.drew = w20 at BK105 BK106 BK107 HB hHeld ⊢
          refine take_ (i := 0) (N := some 13) (v := ?_) (a' := ?_) #[true, false, false, false, false, false, false] rfl rfl (by kernel_rfl) (fun _ _ _ h => h) (Or.inl ⟨by rfl, ?_⟩) hHeld ?_ ?_
          rotate_left
          · rintro w' ⟨s0, s1, s2, s3, s4, s5⟩
            go_simp
            with_reducible rfl
          rotate_left
          · simp only [Act.put, List.setIfInBounds_toArray, List.set_cons_zero, List.set_cons_succ, i64_w, i32_w]
            rfl
          refine take_ (i := 2) (N := some 15) (v := ?_) (a' := ?_) #[true, false, true, false, false, false, false] rfl rfl (by kernel_rfl) (fun _ _ _ h => h) (Or.inl ⟨by rfl, ?_⟩) hHeld ?_ ?_
          rotate_left
          · rintro w' ⟨s0, s1, s2, s3, s4, s5⟩
            go_simp
            with_reducible rfl
          rotate_left
          · simp only [Act.put, List.setIfInBounds_toArray, List.set_cons_zero, List.set_cons_succ, i64_w, i32_w]
            rfl
          refine one_ (i := 1) (N := some 14) #[true, true, true, false, false, false, false] rfl rfl (by kernel_rfl) (by decide) (fun K hK => ?_)
          refine goes_ Tryz.func99 (by kernel_rfl) rfl #[.agg #[.int .i64 a0_0, .int .i64 a0_1, .string a0_2]] (by rfl) rfl rfl zP ?_
          with_reducible refine (value_Key.calls (hL := ?sideL) a0_0 a0_1 a0_2 t108 _ A17.out).mono ?_
          (case sideL => exact Laid.below HL.out zG)
          rintro e w21 ⟨rfl, hb⟩
          refine ⟨_, rfl, ?_⟩
          have n0_ := Aside0.mk (blk_below (g := gb105) zK hb)
          have n1_ := Aside0.mk (blk_below (g := gb106) zK hb)
          have n2_ := Aside0.mk (blk_below (g := gb107) zK hb)
          have n3_ := Aside0.mk (below_step zG hb)
          clear BK105
          clear BK106
          clear BK107
          clear HB
          have BK105 := n0_
          have BK106 := n1_
          have BK107 := n2_
          have HB := n3_
          clear n0_ n1_ n2_ n3_
          (try clear hb)
          (try clear hb2)
          (try clear hk)
          (try clear hi)
          refine hK.out _ _ ⟨(blk_cell BK105.out 0).trans rfl, (blk_cell BK105.out 1).trans rfl, (blk_cell BK105.out 2).trans rfl, (blk_cell BK106.out 0).trans rfl, (blk_cell BK106.out 1).trans rfl, (blk_cell BK106.out 2).trans rfl⟩ (fun hHeld => ?_)
          clear hK K
          refine norm_ (a' := ?_) ?_ ?_
          rotate_left
          · show Act.put _ (some 14) _ = _
            simp only [Act.put, List.setIfInBounds_toArray, List.set_cons_zero, List.set_cons_succ, i64_w, i32_w]
            rfl
          refine one_ (i := 3) (N := some 16) #[true, true, true, true, false, false, false] rfl rfl (by kernel_rfl) (by decide) (fun K hK => ?_)
          refine goes_ Tryz.func99 (by kernel_rfl) rfl #[.agg #[.int .i64 a1_0, .int .i64 a1_1, .string a1_2]] (by rfl) rfl rfl zP ?_
          with_reducible refine (value_Key.calls (hL := ?sideL) a1_0 a1_1 a1_2 t109 _ A18.out).mono ?_
          (case sideL => exact Laid.below HL.out zG)
          rintro e w22 ⟨rfl, hb⟩
          refine ⟨_, rfl, ?_⟩
          have n0_ := Aside0.mk (blk_below (g := gb105) zK hb)
          have n1_ := Aside0.mk (blk_below (g := gb106) zK hb)
          have n2_ := Aside0.mk (blk_below (g := gb107) zK hb)
          have n3_ := Aside0.mk (below_step zG hb)
          clear BK105
          clear BK106
          clear BK107
          clear HB
          have BK105 := n0_
          have BK106 := n1_
          have BK107 := n2_
          have HB := n3_
          clear n0_ n1_ n2_ n3_
          (try clear hb)
          (try clear hb2)
          (try clear hk)
          (try clear hi)
          refine hK.out _ _ ⟨(blk_cell BK105.out 0).trans rfl, (blk_cell BK105.out 1).trans rfl, (blk_cell BK105.out 2).trans rfl, (blk_cell BK106.out 0).trans rfl, (blk_cell BK106.out 1).trans rfl, (blk_cell BK106.out 2).trans rfl⟩ (fun hHeld => ?_)
          clear hK K
          refine norm_ (a' := ?_) ?_ ?_
          rotate_left
          · show Act.put _ (some 16) _ = _
            simp only [Act.put, List.setIfInBounds_toArray, List.set_cons_zero, List.set_cons_succ, i64_w, i32_w]
            rfl
          refine pure_ (i := 4) (N := some 17) (v := ?_) (a' := ?_) #[true, true, true, true, true, false, false] rfl rfl (by kernel_rfl) (fun _ _ _ h => h) (Or.inl ⟨by rfl, ?_⟩) ?_ ?_
          rotate_left
          · intro w'
            go_simp
            with_reducible rfl
          rotate_left
          · simp only [Act.put, List.setIfInBounds_toArray, List.set_cons_zero, List.set_cons_succ, i64_w, i32_w]
            rfl
          refine pure_ (i := 5) (N := some 18) (v := ?_) (a' := ?_) #[true, true, true, true, true, true, false] rfl rfl (by kernel_rfl) (fun _ _ _ h => h) (Or.inl ⟨by rfl, ?_⟩) ?_ ?_
          rotate_left
          · intro w'
            go_simp
            with_reducible rfl
          rotate_left
          · simp only [Act.put, List.setIfInBounds_toArray, List.set_cons_zero, List.set_cons_succ, i64_w, i32_w]
            rfl
          refine one_ (i := 6) (N := none) #[true, true, true, true, true, true, true] rfl rfl (by kernel_rfl) (by decide) (fun K hK => ?_)
          have hs23 : w22.cell? ⟨gb107, 0, none⟩ = some (.int .i64 0) := (blk_cell BK107.out 0).trans rfl
          have hfs23 := blk_frozen BK107.out 0
          have hns23_0 := NB105_107.out
          have hns23_1 := NB106_107.out
          have hms23_0 := NB107_105.out
          have hms23_1 := NB107_106.out
          have hs24 : w22.cell? ⟨gb107, 1, none⟩ = some (.int .i64 0) := (blk_cell BK107.out 1).trans rfl
          have hfs24 := blk_frozen BK107.out 1
          have hns24_0 := NB105_107.out
          have hns24_1 := NB106_107.out
          have hms24_0 := NB107_105.out
          have hms24_1 := NB107_106.out
          have hs25 : w22.cell? ⟨gb107, 2, none⟩ = some (.string (⟨#[]⟩ : ByteArray)) := (blk_cell BK107.out 2).trans rfl
          have hfs25 := blk_frozen BK107.out 2
          have hns25_0 := NB105_107.out
          have hns25_1 := NB106_107.out
          have hms25_0 := NB107_105.out
          have hms25_1 := NB107_106.out
          refine skip_ (w1 := ?_) (by rfl) rfl ?_ ?_
          rotate_left
          · go_simp
            rfl
          refine hK.out _ _ ⟨((cell_far (p := ⟨gb107, _, none⟩) NB105_107.out _).trans (((cell_far (p := ⟨gb107, _, none⟩) NB105_107.out _).trans (((cell_far (p := ⟨gb107, _, none⟩) NB105_107.out _).trans (hHeld.1)))))), ((cell_far (p := ⟨gb107, _, none⟩) NB105_107.out _).trans (((cell_far (p := ⟨gb107, _, none⟩) NB105_107.out _).trans (((cell_far (p := ⟨gb107, _, none⟩) NB105_107.out _).trans (hHeld.2.1)))))), ((cell_far (p := ⟨gb107, _, none⟩) NB105_107.out _).trans (((cell_far (p := ⟨gb107, _, none⟩) NB105_107.out _).trans (((cell_far (p := ⟨gb107, _, none⟩) NB105_107.out _).trans (hHeld.2.2.1)))))), ((cell_far (p := ⟨gb107, _, none⟩) NB106_107.out _).trans (((cell_far (p := ⟨gb107, _, none⟩) NB106_107.out _).trans (((cell_far (p := ⟨gb107, _, none⟩) NB106_107.out _).trans (hHeld.2.2.2.1)))))), ((cell_far (p := ⟨gb107, _, none⟩) NB106_107.out _).trans (((cell_far (p := ⟨gb107, _, none⟩) NB106_107.out _).trans (((cell_far (p := ⟨gb107, _, none⟩) NB106_107.out _).trans (hHeld.2.2.2.2.1)))))), ((cell_far (p := ⟨gb107, _, none⟩) NB106_107.out _).trans (((cell_far (p := ⟨gb107, _, none⟩) NB106_107.out _).trans (((cell_far (p := ⟨gb107, _, none⟩) NB106_107.out _).trans (hHeld.2.2.2.2.2))))))⟩ (fun hHeld => ?_)
          clear hK K
          refine done_ (by kernel_rfl) ?_
          try go_wp2
          refine bodyPost_ret (results_cell_row rfl _ _ gb107 83 #[.int .i64 4, .int .i64 0, .string (t108 ++ t109)] (0, 0) _ rfl (by (with_reducible repeat (first | refine blk_drewN ?_ _ | refine blk_drew ?_ | refine blk_alloc ?_ _)); refine blk_put (cs := #[.int .i64 4, .int .i64 0, .string (⟨#[]⟩ : ByteArray)]) ?_ 2 _ rfl; (with_reducible repeat (first | refine blk_drewN ?_ _ | refine blk_drew ?_ | refine blk_alloc ?_ _)); refine blk_put (cs := #[.int .i64 4, .int .i64 0, .string (⟨#[]⟩ : ByteArray)]) ?_ 1 _ rfl; (with_reducible repeat (first | refine blk_drewN ?_ _ | refine blk_drew ?_ | refine blk_alloc ?_ _)); refine blk_put (cs := #[.int .i64 0, .int .i64 0, .string (⟨#[]⟩ : ByteArray)]) ?_ 0 _ rfl; (with_reducible repeat (first | refine blk_drewN ?_ _ | refine blk_drew ?_ | refine blk_alloc ?_ _)); exact BK107.out) Tryz.underlying83 rfl (by kernel_rfl)) rfl ?_
          exact ⟨zE, zG⟩
        · rw [if_neg c19] at H
          exact absurd H (by simp)
      · replace c16 := Bool.eq_false_iff.mpr c16
        subst c16
        rw [if_neg (show ¬ (false = true) by decide)] at H
        obtain ⟨t110, A26, H⟩ := zO H
        obtain ⟨t111, A27, H⟩ := zO H
        replace H := Option.bind_eq_some_iff.mp H
        obtain ⟨⟨t112, t113, t114⟩, A280, H⟩ := H
        replace H : (some (t112, t113, t114)) = some (r1, r2, r3) := H
        have A28 := Aside0.mk A280
        clear A280
        simp only [Option.some.injEq, Prod.mk.injEq] at H
        obtain ⟨rfl, rfl, rfl⟩ := H
        try go_wp2
        have n0_ := Aside0.mk (blk_drew BK105.out)
        have n1_ := Aside0.mk (blk_drew BK106.out)
        have n2_ := Aside0.mk (blk_drew BK107.out)
        have n3_ := Aside0.mk (below_drew1 HB.out)
        clear BK105
        clear BK106
        clear BK107
        clear HB
        have BK105 := n0_
        have BK106 := n1_
        have BK107 := n2_
        have HB := n3_
        clear n0_ n1_ n2_ n3_
        refine start_ (n := 7) (S := fun w' => w'.cell? ⟨gb105, 0, none⟩ = some (.int .i64 a0_0) ∧ w'.cell? ⟨gb105, 1, none⟩ = some (.int .i64 a0_1) ∧ w'.cell? ⟨gb105, 2, none⟩ = some (.string a0_2) ∧ w'.cell? ⟨gb106, 0, none⟩ = some (.int .i64 a1_0) ∧ w'.cell? ⟨gb106, 1, none⟩ = some (.int .i64 a1_1) ∧ w'.cell? ⟨gb106, 2, none⟩ = some (.string a1_2)) (ds := []) #[false, false, false, false, false, false, false] (by kernel_rfl) rfl rfl ⟨(blk_cell BK105.out 0).trans rfl, (blk_cell BK105.out 1).trans rfl, (blk_cell BK105.out 2).trans rfl, (blk_cell BK106.out 0).trans rfl, (blk_cell BK106.out 1).trans rfl, (blk_cell BK106.out 2).trans rfl⟩ (fun hHeld => ?_)
        generalize wc.drew = w29 at BK105 BK106 BK107 HB hHeld ⊢
        refine take_ (i := 0) (N := some 19) (v := ?_) (a' := ?_) #[true, false, false, false, false, false, false] rfl rfl (by kernel_rfl) (fun _ _ _ h => h) (Or.inl ⟨by rfl, ?_⟩) hHeld ?_ ?_
        rotate_left
        · rintro w' ⟨s0, s1, s2, s3, s4, s5⟩
          go_simp
          with_reducible rfl
        rotate_left
        · simp only [Act.put, List.setIfInBounds_toArray, List.set_cons_zero, List.set_cons_succ, i64_w, i32_w]
          rfl
        refine take_ (i := 2) (N := some 21) (v := ?_) (a' := ?_) #[true, false, true, false, false, false, false] rfl rfl (by kernel_rfl) (fun _ _ _ h => h) (Or.inl ⟨by rfl, ?_⟩) hHeld ?_ ?_
        rotate_left
        · rintro w' ⟨s0, s1, s2, s3, s4, s5⟩
          go_simp
          with_reducible rfl
        rotate_left
        · simp only [Act.put, List.setIfInBounds_toArray, List.set_cons_zero, List.set_cons_succ, i64_w, i32_w]
          rfl
        refine one_ (i := 1) (N := some 20) #[true, true, true, false, false, false, false] rfl rfl (by kernel_rfl) (by decide) (fun K hK => ?_)
        refine goes_ Tryz.func101 (by kernel_rfl) rfl #[.agg #[.int .i64 a0_0, .int .i64 a0_1, .string a0_2]] (by rfl) rfl rfl zP ?_
        with_reducible refine (value_Num.calls (hL := ?sideL) a0_0 a0_1 a0_2 t110 _ A26.out).mono ?_
        (case sideL => exact Laid.below HL.out zG)
        rintro e w30 ⟨rfl, hb⟩
        refine ⟨_, rfl, ?_⟩
        have n0_ := Aside0.mk (blk_below (g := gb105) zK hb)
        have n1_ := Aside0.mk (blk_below (g := gb106) zK hb)
        have n2_ := Aside0.mk (blk_below (g := gb107) zK hb)
        have n3_ := Aside0.mk (below_step zG hb)
        clear BK105
        clear BK106
        clear BK107
        clear HB
        have BK105 := n0_
        have BK106 := n1_
        have BK107 := n2_
        have HB := n3_
        clear n0_ n1_ n2_ n3_
        (try clear hb)
        (try clear hb2)
        (try clear hk)
        (try clear hi)
        refine hK.out _ _ ⟨(blk_cell BK105.out 0).trans rfl, (blk_cell BK105.out 1).trans rfl, (blk_cell BK105.out 2).trans rfl, (blk_cell BK106.out 0).trans rfl, (blk_cell BK106.out 1).trans rfl, (blk_cell BK106.out 2).trans rfl⟩ (fun hHeld => ?_)
        clear hK K
        refine norm_ (a' := ?_) ?_ ?_
        rotate_left
        · show Act.put _ (some 20) _ = _
          simp only [Act.put, List.setIfInBounds_toArray, List.set_cons_zero, List.set_cons_succ, i64_w, i32_w]
          rfl
        refine one_ (i := 3) (N := some 22) #[true, true, true, true, false, false, false] rfl rfl (by kernel_rfl) (by decide) (fun K hK => ?_)
        refine goes_ Tryz.func101 (by kernel_rfl) rfl #[.agg #[.int .i64 a1_0, .int .i64 a1_1, .string a1_2]] (by rfl) rfl rfl zP ?_
        with_reducible refine (value_Num.calls (hL := ?sideL) a1_0 a1_1 a1_2 t111 _ A27.out).mono ?_
        (case sideL => exact Laid.below HL.out zG)
        rintro e w31 ⟨rfl, hb⟩
        refine ⟨_, rfl, ?_⟩
        have n0_ := Aside0.mk (blk_below (g := gb105) zK hb)
        have n1_ := Aside0.mk (blk_below (g := gb106) zK hb)
        have n2_ := Aside0.mk (blk_below (g := gb107) zK hb)
        have n3_ := Aside0.mk (below_step zG hb)
        clear BK105
        clear BK106
        clear BK107
        clear HB
        have BK105 := n0_
        have BK106 := n1_
        have BK107 := n2_
        have HB := n3_
        clear n0_ n1_ n2_ n3_
        (try clear hb)
        (try clear hb2)
        (try clear hk)
        (try clear hi)
        refine hK.out _ _ ⟨(blk_cell BK105.out 0).trans rfl, (blk_cell BK105.out 1).trans rfl, (blk_cell BK105.out 2).trans rfl, (blk_cell BK106.out 0).trans rfl, (blk_cell BK106.out 1).trans rfl, (blk_cell BK106.out 2).trans rfl⟩ (fun hHeld => ?_)
        clear hK K
        refine norm_ (a' := ?_) ?_ ?_
        rotate_left
        · show Act.put _ (some 22) _ = _
          simp only [Act.put, List.setIfInBounds_toArray, List.set_cons_zero, List.set_cons_succ, i64_w, i32_w]
          rfl
        refine pure_ (i := 4) (N := some 23) (v := ?_) (a' := ?_) #[true, true, true, true, true, false, false] rfl rfl (by kernel_rfl) (fun _ _ _ h => h) (Or.inl ⟨by rfl, ?_⟩) ?_ ?_
        rotate_left
        · intro w'
          go_simp
          with_reducible rfl
        rotate_left
        · simp only [Act.put, List.setIfInBounds_toArray, List.set_cons_zero, List.set_cons_succ, i64_w, i32_w]
          rfl
        refine one_ (i := 5) (N := some 24) #[true, true, true, true, true, true, false] rfl rfl (by kernel_rfl) (by decide) (fun K hK => ?_)
        refine goes_ Tryz.func100 (by kernel_rfl) rfl #[.int .i64 (wrap64 (t110 + t111))] (by rfl) rfl rfl zP ?_
        with_reducible refine (value_number.calls (wrap64 (t110 + t111)) t112 t113 t114 _ A28.out).mono ?_
        rintro e w32 ⟨rfl, hb⟩
        refine ⟨_, rfl, ?_⟩
        have n0_ := Aside0.mk (blk_below (g := gb105) zK hb)
        have n1_ := Aside0.mk (blk_below (g := gb106) zK hb)
        have n2_ := Aside0.mk (blk_below (g := gb107) zK hb)
        have n3_ := Aside0.mk (below_step zG hb)
        clear BK105
        clear BK106
        clear BK107
        clear HB
        have BK105 := n0_
        have BK106 := n1_
        have BK107 := n2_
        have HB := n3_
        clear n0_ n1_ n2_ n3_
        (try clear hb)
        (try clear hb2)
        (try clear hk)
        (try clear hi)
        refine hK.out _ _ ⟨(blk_cell BK105.out 0).trans rfl, (blk_cell BK105.out 1).trans rfl, (blk_cell BK105.out 2).trans rfl, (blk_cell BK106.out 0).trans rfl, (blk_cell BK106.out 1).trans rfl, (blk_cell BK106.out 2).trans rfl⟩ (fun hHeld => ?_)
        clear hK K
        refine norm_ (a' := ?_) ?_ ?_
        rotate_left
        · show Act.put _ (some 24) _ = _
          simp only [Act.put, List.setIfInBounds_toArray, List.set_cons_zero, List.set_cons_succ, i64_w, i32_w]
          rfl
        refine one_ (i := 6) (N := none) #[true, true, true, true, true, true, true] rfl rfl (by kernel_rfl) (by decide) (fun K hK => ?_)
        have hs33 : w32.cell? ⟨gb107, 0, none⟩ = some (.int .i64 0) := (blk_cell BK107.out 0).trans rfl
        have hfs33 := blk_frozen BK107.out 0
        have hns33_0 := NB105_107.out
        have hns33_1 := NB106_107.out
        have hms33_0 := NB107_105.out
        have hms33_1 := NB107_106.out
        have hs34 : w32.cell? ⟨gb107, 1, none⟩ = some (.int .i64 0) := (blk_cell BK107.out 1).trans rfl
        have hfs34 := blk_frozen BK107.out 1
        have hns34_0 := NB105_107.out
        have hns34_1 := NB106_107.out
        have hms34_0 := NB107_105.out
        have hms34_1 := NB107_106.out
        have hs35 : w32.cell? ⟨gb107, 2, none⟩ = some (.string (⟨#[]⟩ : ByteArray)) := (blk_cell BK107.out 2).trans rfl
        have hfs35 := blk_frozen BK107.out 2
        have hns35_0 := NB105_107.out
        have hns35_1 := NB106_107.out
        have hms35_0 := NB107_105.out
        have hms35_1 := NB107_106.out
        refine skip_ (w1 := ?_) (by rfl) rfl ?_ ?_
        rotate_left
        · go_simp
          rfl
        refine hK.out _ _ ⟨((cell_far (p := ⟨gb107, _, none⟩) NB105_107.out _).trans (((cell_far (p := ⟨gb107, _, none⟩) NB105_107.out _).trans (((cell_far (p := ⟨gb107, _, none⟩) NB105_107.out _).trans (hHeld.1)))))), ((cell_far (p := ⟨gb107, _, none⟩) NB105_107.out _).trans (((cell_far (p := ⟨gb107, _, none⟩) NB105_107.out _).trans (((cell_far (p := ⟨gb107, _, none⟩) NB105_107.out _).trans (hHeld.2.1)))))), ((cell_far (p := ⟨gb107, _, none⟩) NB105_107.out _).trans (((cell_far (p := ⟨gb107, _, none⟩) NB105_107.out _).trans (((cell_far (p := ⟨gb107, _, none⟩) NB105_107.out _).trans (hHeld.2.2.1)))))), ((cell_far (p := ⟨gb107, _, none⟩) NB106_107.out _).trans (((cell_far (p := ⟨gb107, _, none⟩) NB106_107.out _).trans (((cell_far (p := ⟨gb107, _, none⟩) NB106_107.out _).trans (hHeld.2.2.2.1)))))), ((cell_far (p := ⟨gb107, _, none⟩) NB106_107.out _).trans (((cell_far (p := ⟨gb107, _, none⟩) NB106_107.out _).trans (((cell_far (p := ⟨gb107, _, none⟩) NB106_107.out _).trans (hHeld.2.2.2.2.1)))))), ((cell_far (p := ⟨gb107, _, none⟩) NB106_107.out _).trans (((cell_far (p := ⟨gb107, _, none⟩) NB106_107.out _).trans (((cell_far (p := ⟨gb107, _, none⟩) NB106_107.out _).trans (hHeld.2.2.2.2.2))))))⟩ (fun hHeld => ?_)
        clear hK K
        refine done_ (by kernel_rfl) ?_
        try go_wp2
        refine bodyPost_ret (results_cell_row rfl _ _ gb107 83 #[.int .i64 t112, .int .i64 t113, .string t114] (0, 0) _ rfl (by (with_reducible repeat (first | refine blk_drewN ?_ _ | refine blk_drew ?_ | refine blk_alloc ?_ _)); refine blk_put (cs := #[.int .i64 t112, .int .i64 t113, .string (⟨#[]⟩ : ByteArray)]) ?_ 2 _ rfl; (with_reducible repeat (first | refine blk_drewN ?_ _ | refine blk_drew ?_ | refine blk_alloc ?_ _)); refine blk_put (cs := #[.int .i64 t112, .int .i64 0, .string (⟨#[]⟩ : ByteArray)]) ?_ 1 _ rfl; (with_reducible repeat (first | refine blk_drewN ?_ _ | refine blk_drew ?_ | refine blk_alloc ?_ _)); refine blk_put (cs := #[.int .i64 0, .int .i64 0, .string (⟨#[]⟩ : ByteArray)]) ?_ 0 _ rfl; (with_reducible repeat (first | refine blk_drewN ?_ _ | refine blk_drew ?_ | refine blk_alloc ?_ _)); exact BK107.out) Tryz.underlying83 rfl (by kernel_rfl)) rfl ?_
        exact ⟨zE, zG⟩
end Go.Proofs.YtjlhhjfmekjbhaaGreatDoor.Pr

namespace Go.Proofs.YtjlhhjfmekjbhaaGreatDoor.Pr
open Go.RowKit Go.Proofs.YtjlhhjfmekjbhaaGreatDoor.Va Go.Proofs.YtjlhhjfmekjbhaaGreatDoorW.PrintWords Go.Proofs.YtjlhhjfmekjbhaaGreatDoorW.PrintLast Go.Proofs.YtjlhhjfmekjbhaaGreatDoorW.PrintMore
set_option linter.unusedVariables false
set_option linter.unusedSimpArgs false
/-! ### value_makers_2: function 102 -/
def value_makers_2.f (a0_0 : Int) (a0_1 : Int) (a0_2 : ByteArray) (a1_0 : Int) (a1_1 : Int) (a1_2 : ByteArray) : Option (Int × Int × ByteArray) := (value_Num.f a0_0 a0_1 a0_2).bind fun t118 => ((value_Num.f a1_0 a1_1 a1_2).bind fun t119 => ((value_number.f (wrap64 (t118 - t119))).bind fun bt120 => (some (bt120.1, bt120.2.1, bt120.2.2))))
set_option maxHeartbeats 8000000 in
set_option maxRecDepth 100000 in
theorem value_makers_2.calls (a0_0 : Int) (a0_1 : Int) (a0_2 : ByteArray) (a1_0 : Int) (a1_1 : Int) (a1_2 : ByteArray) (r1 : Int) (r2 : Int) (r3 : ByteArray) (w : World) (hL : Laid w) (h : value_makers_2.f a0_0 a0_1 a0_2 a1_0 a1_1 a1_2 = some (r1, r2, r3)) :
    Calls Tryz.prog 102 #[.agg #[.int .i64 a0_0, .int .i64 a0_1, .string a0_2], .agg #[.int .i64 a1_0, .int .i64 a1_1, .string a1_2]] w fun e w' => e = .returned (.agg #[.int .i64 r1, .int .i64 r2, .string r3]) ∧ Below w.heap.size w w' := by
  have HL := Aside0.mk hL
  clear hL
  have hu83 := Tryz.underlying83
  have HB := Aside0.mk (Below.refl w.heap.size w)
  have H : ((value_Num.f a0_0 a0_1 a0_2).bind fun t118 => ((value_Num.f a1_0 a1_1 a1_2).bind fun t119 => ((value_number.f (wrap64 (t118 - t119))).bind fun bt120 => (some (bt120.1, bt120.2.1, bt120.2.2))))) = some (r1, r2, r3) := h
  clear h
  obtain ⟨t118, A3, H⟩ := zO H
  obtain ⟨t119, A4, H⟩ := zO H
  replace H := Option.bind_eq_some_iff.mp H
  obtain ⟨⟨t120, t121, t122⟩, A50, H⟩ := H
  replace H : (some (t120, t121, t122)) = some (r1, r2, r3) := H
  have A5 := Aside0.mk A50
  clear A50
  simp only [Option.some.injEq, Prod.mk.injEq] at H
  obtain ⟨rfl, rfl, rfl⟩ := H
  go_enter Tryz.func102, Tryz.ntmps102
  try go_wp2_with (first | ((with_reducible refine gate_dst (N := 2) rfl ?_); refine zX (N := 2) (cs := #[.int .i64 a0_0, .int .i64 a0_1, .string a0_2]) (t := 83) (h := ?_); intro gb115 hg w6 hbox hb; have BK115 := Aside0.mk hbox; have GW115 := Aside0.mk ((zS : w.heap.size ≤ gb115)); have GE115 := Aside0.mk ((zS : w.heap.size ≤ gb115)); replace HB := Aside0.mk (below_step zB hb); clear hb hbox hg) | ((with_reducible refine gate_dst (N := 3) rfl ?_); refine zX (N := 3) (cs := #[.int .i64 a1_0, .int .i64 a1_1, .string a1_2]) (t := 83) (h := ?_); intro gb116 hg w7 hbox hb; have BK116 := Aside0.mk hbox; have GW116 := Aside0.mk ((zT : w.heap.size ≤ gb116)); have GE116 := Aside0.mk ((zT : w.heap.size ≤ gb116)); have NB115_116 := Aside0.mk ((zL : gb115 ≠ gb116)); have NB116_115 := Aside0.mk ((zM : gb116 ≠ gb115)); replace BK115 := Aside0.mk (blk_below (g := gb115) zK hb); replace HB := Aside0.mk (below_step zG hb); clear hb hbox hg) | ((with_reducible refine gate_dst (N := 4) rfl ?_); refine zX (N := 4) (cs := #[.int .i64 0, .int .i64 0, .string (⟨#[]⟩ : ByteArray)]) (t := 83) (h := ?_); intro gb117 hg w8 hbox hb; have BK117 := Aside0.mk hbox; have GW117 := Aside0.mk ((zT : w.heap.size ≤ gb117)); have GE117 := Aside0.mk ((zT : w.heap.size ≤ gb117)); have NB115_117 := Aside0.mk ((zL : gb115 ≠ gb117)); have NB117_115 := Aside0.mk ((zM : gb117 ≠ gb115)); have NB116_117 := Aside0.mk ((zL : gb116 ≠ gb117)); have NB117_116 := Aside0.mk ((zM : gb117 ≠ gb116)); replace BK115 := Aside0.mk (blk_below (g := gb115) zK hb); replace BK116 := Aside0.mk (blk_below (g := gb116) zK hb); replace HB := Aside0.mk (below_step zG hb); clear hb hbox hg))
  have n0_ := Aside0.mk (blk_drew BK115.out)
  have n1_ := Aside0.mk (blk_drew BK116.out)
  have n2_ := Aside0.mk (blk_drew BK117.out)
  have n3_ := Aside0.mk (below_drew1 HB.out)
  clear BK115
  clear BK116
  clear BK117
  clear HB
  have BK115 := n0_
  have BK116 := n1_
  have BK117 := n2_
  have HB := n3_
  clear n0_ n1_ n2_ n3_
  refine start_ (n := 7) (S := fun w' => w'.cell? ⟨gb115, 0, none⟩ = some (.int .i64 a0_0) ∧ w'.cell? ⟨gb115, 1, none⟩ = some (.int .i64 a0_1) ∧ w'.cell? ⟨gb115, 2, none⟩ = some (.string a0_2) ∧ w'.cell? ⟨gb116, 0, none⟩ = some (.int .i64 a1_0) ∧ w'.cell? ⟨gb116, 1, none⟩ = some (.int .i64 a1_1) ∧ w'.cell? ⟨gb116, 2, none⟩ = some (.string a1_2)) (ds := []) #[false, false, false, false, false, false, false] (by kernel_rfl) rfl rfl ⟨(blk_cell BK115.out 0).trans rfl, (blk_cell BK115.out 1).trans rfl, (blk_cell BK115.out 2).trans rfl, (blk_cell BK116.out 0).trans rfl, (blk_cell BK116.out 1).trans rfl, (blk_cell BK116.out 2).trans rfl⟩ (fun hHeld => ?_)
  generalize w8.drew = w9 at BK115 BK116 BK117 HB hHeld ⊢
  refine take_ (i := 0) (N := some 5) (v := ?_) (a' := ?_) #[true, false, false, false, false, false, false] rfl rfl (by kernel_rfl) (fun _ _ _ h => h) (Or.inl ⟨by rfl, ?_⟩) hHeld ?_ ?_
  rotate_left
  · rintro w' ⟨s0, s1, s2, s3, s4, s5⟩
    go_simp
    with_reducible rfl
  rotate_left
  · simp only [Act.put, List.setIfInBounds_toArray, List.set_cons_zero, List.set_cons_succ, i64_w, i32_w]
    rfl
  refine take_ (i := 2) (N := some 7) (v := ?_) (a' := ?_) #[true, false, true, false, false, false, false] rfl rfl (by kernel_rfl) (fun _ _ _ h => h) (Or.inl ⟨by rfl, ?_⟩) hHeld ?_ ?_
  rotate_left
  · rintro w' ⟨s0, s1, s2, s3, s4, s5⟩
    go_simp
    with_reducible rfl
  rotate_left
  · simp only [Act.put, List.setIfInBounds_toArray, List.set_cons_zero, List.set_cons_succ, i64_w, i32_w]
    rfl
  refine one_ (i := 1) (N := some 6) #[true, true, true, false, false, false, false] rfl rfl (by kernel_rfl) (by decide) (fun K hK => ?_)
  refine goes_ Tryz.func101 (by kernel_rfl) rfl #[.agg #[.int .i64 a0_0, .int .i64 a0_1, .string a0_2]] (by rfl) rfl rfl zP ?_
  with_reducible refine (value_Num.calls (hL := ?sideL) a0_0 a0_1 a0_2 t118 _ A3.out).mono ?_
  (case sideL => exact Laid.below HL.out zG)
  rintro e w10 ⟨rfl, hb⟩
  refine ⟨_, rfl, ?_⟩
  have n0_ := Aside0.mk (blk_below (g := gb115) zK hb)
  have n1_ := Aside0.mk (blk_below (g := gb116) zK hb)
  have n2_ := Aside0.mk (blk_below (g := gb117) zK hb)
  have n3_ := Aside0.mk (below_step zG hb)
  clear BK115
  clear BK116
  clear BK117
  clear HB
  have BK115 := n0_
  have BK116 := n1_
  have BK117 := n2_
  have HB := n3_
  clear n0_ n1_ n2_ n3_
  (try clear hb)
  (try clear hb2)
  (try clear hk)
  (try clear hi)
  refine hK.out _ _ ⟨(blk_cell BK115.out 0).trans rfl, (blk_cell BK115.out 1).trans rfl, (blk_cell BK115.out 2).trans rfl, (blk_cell BK116.out 0).trans rfl, (blk_cell BK116.out 1).trans rfl, (blk_cell BK116.out 2).trans rfl⟩ (fun hHeld => ?_)
  clear hK K
  refine norm_ (a' := ?_) ?_ ?_
  rotate_left
  · show Act.put _ (some 6) _ = _
    simp only [Act.put, List.setIfInBounds_toArray, List.set_cons_zero, List.set_cons_succ, i64_w, i32_w]
    rfl
  refine one_ (i := 3) (N := some 8) #[true, true, true, true, false, false, false] rfl rfl (by kernel_rfl) (by decide) (fun K hK => ?_)
  refine goes_ Tryz.func101 (by kernel_rfl) rfl #[.agg #[.int .i64 a1_0, .int .i64 a1_1, .string a1_2]] (by rfl) rfl rfl zP ?_
  with_reducible refine (value_Num.calls (hL := ?sideL) a1_0 a1_1 a1_2 t119 _ A4.out).mono ?_
  (case sideL => exact Laid.below HL.out zG)
  rintro e w11 ⟨rfl, hb⟩
  refine ⟨_, rfl, ?_⟩
  have n0_ := Aside0.mk (blk_below (g := gb115) zK hb)
  have n1_ := Aside0.mk (blk_below (g := gb116) zK hb)
  have n2_ := Aside0.mk (blk_below (g := gb117) zK hb)
  have n3_ := Aside0.mk (below_step zG hb)
  clear BK115
  clear BK116
  clear BK117
  clear HB
  have BK115 := n0_
  have BK116 := n1_
  have BK117 := n2_
  have HB := n3_
  clear n0_ n1_ n2_ n3_
  (try clear hb)
  (try clear hb2)
  (try clear hk)
  (try clear hi)
  refine hK.out _ _ ⟨(blk_cell BK115.out 0).trans rfl, (blk_cell BK115.out 1).trans rfl, (blk_cell BK115.out 2).trans rfl, (blk_cell BK116.out 0).trans rfl, (blk_cell BK116.out 1).trans rfl, (blk_cell BK116.out 2).trans rfl⟩ (fun hHeld => ?_)
  clear hK K
  refine norm_ (a' := ?_) ?_ ?_
  rotate_left
  · show Act.put _ (some 8) _ = _
    simp only [Act.put, List.setIfInBounds_toArray, List.set_cons_zero, List.set_cons_succ, i64_w, i32_w]
    rfl
  refine pure_ (i := 4) (N := some 9) (v := ?_) (a' := ?_) #[true, true, true, true, true, false, false] rfl rfl (by kernel_rfl) (fun _ _ _ h => h) (Or.inl ⟨by rfl, ?_⟩) ?_ ?_
  rotate_left
  · intro w'
    go_simp
    with_reducible rfl
  rotate_left
  · simp only [Act.put, List.setIfInBounds_toArray, List.set_cons_zero, List.set_cons_succ, i64_w, i32_w]
    rfl
  refine one_ (i := 5) (N := some 10) #[true, true, true, true, true, true, false] rfl rfl (by kernel_rfl) (by decide) (fun K hK => ?_)
  refine goes_ Tryz.func100 (by kernel_rfl) rfl #[.int .i64 (wrap64 (t118 - t119))] (by rfl) rfl rfl zP ?_
  with_reducible refine (value_number.calls (wrap64 (t118 - t119)) t120 t121 t122 _ A5.out).mono ?_
  rintro e w12 ⟨rfl, hb⟩
  refine ⟨_, rfl, ?_⟩
  have n0_ := Aside0.mk (blk_below (g := gb115) zK hb)
  have n1_ := Aside0.mk (blk_below (g := gb116) zK hb)
  have n2_ := Aside0.mk (blk_below (g := gb117) zK hb)
  have n3_ := Aside0.mk (below_step zG hb)
  clear BK115
  clear BK116
  clear BK117
  clear HB
  have BK115 := n0_
  have BK116 := n1_
  have BK117 := n2_
  have HB := n3_
  clear n0_ n1_ n2_ n3_
  (try clear hb)
  (try clear hb2)
  (try clear hk)
  (try clear hi)
  refine hK.out _ _ ⟨(blk_cell BK115.out 0).trans rfl, (blk_cell BK115.out 1).trans rfl, (blk_cell BK115.out 2).trans rfl, (blk_cell BK116.out 0).trans rfl, (blk_cell BK116.out 1).trans rfl, (blk_cell BK116.out 2).trans rfl⟩ (fun hHeld => ?_)
  clear hK K
  refine norm_ (a' := ?_) ?_ ?_
  rotate_left
  · show Act.put _ (some 10) _ = _
    simp only [Act.put, List.setIfInBounds_toArray, List.set_cons_zero, List.set_cons_succ, i64_w, i32_w]
    rfl
  refine one_ (i := 6) (N := none) #[true, true, true, true, true, true, true] rfl rfl (by kernel_rfl) (by decide) (fun K hK => ?_)
  have hs13 : w12.cell? ⟨gb117, 0, none⟩ = some (.int .i64 0) := (blk_cell BK117.out 0).trans rfl
  have hfs13 := blk_frozen BK117.out 0
  have hns13_0 := NB115_117.out
  have hns13_1 := NB116_117.out
  have hms13_0 := NB117_115.out
  have hms13_1 := NB117_116.out
  have hs14 : w12.cell? ⟨gb117, 1, none⟩ = some (.int .i64 0) := (blk_cell BK117.out 1).trans rfl
  have hfs14 := blk_frozen BK117.out 1
  have hns14_0 := NB115_117.out
  have hns14_1 := NB116_117.out
  have hms14_0 := NB117_115.out
  have hms14_1 := NB117_116.out
  have hs15 : w12.cell? ⟨gb117, 2, none⟩ = some (.string (⟨#[]⟩ : ByteArray)) := (blk_cell BK117.out 2).trans rfl
  have hfs15 := blk_frozen BK117.out 2
  have hns15_0 := NB115_117.out
  have hns15_1 := NB116_117.out
  have hms15_0 := NB117_115.out
  have hms15_1 := NB117_116.out
  refine skip_ (w1 := ?_) (by rfl) rfl ?_ ?_
  rotate_left
  · go_simp
    rfl
  refine hK.out _ _ ⟨((cell_far (p := ⟨gb117, _, none⟩) NB115_117.out _).trans (((cell_far (p := ⟨gb117, _, none⟩) NB115_117.out _).trans (((cell_far (p := ⟨gb117, _, none⟩) NB115_117.out _).trans (hHeld.1)))))), ((cell_far (p := ⟨gb117, _, none⟩) NB115_117.out _).trans (((cell_far (p := ⟨gb117, _, none⟩) NB115_117.out _).trans (((cell_far (p := ⟨gb117, _, none⟩) NB115_117.out _).trans (hHeld.2.1)))))), ((cell_far (p := ⟨gb117, _, none⟩) NB115_117.out _).trans (((cell_far (p := ⟨gb117, _, none⟩) NB115_117.out _).trans (((cell_far (p := ⟨gb117, _, none⟩) NB115_117.out _).trans (hHeld.2.2.1)))))), ((cell_far (p := ⟨gb117, _, none⟩) NB116_117.out _).trans (((cell_far (p := ⟨gb117, _, none⟩) NB116_117.out _).trans (((cell_far (p := ⟨gb117, _, none⟩) NB116_117.out _).trans (hHeld.2.2.2.1)))))), ((cell_far (p := ⟨gb117, _, none⟩) NB116_117.out _).trans (((cell_far (p := ⟨gb117, _, none⟩) NB116_117.out _).trans (((cell_far (p := ⟨gb117, _, none⟩) NB116_117.out _).trans (hHeld.2.2.2.2.1)))))), ((cell_far (p := ⟨gb117, _, none⟩) NB116_117.out _).trans (((cell_far (p := ⟨gb117, _, none⟩) NB116_117.out _).trans (((cell_far (p := ⟨gb117, _, none⟩) NB116_117.out _).trans (hHeld.2.2.2.2.2))))))⟩ (fun hHeld => ?_)
  clear hK K
  refine done_ (by kernel_rfl) ?_
  try go_wp2
  refine bodyPost_ret (results_cell_row rfl _ _ gb117 83 #[.int .i64 t120, .int .i64 t121, .string t122] (0, 0) _ rfl (by (with_reducible repeat (first | refine blk_drewN ?_ _ | refine blk_drew ?_ | refine blk_alloc ?_ _)); refine blk_put (cs := #[.int .i64 t120, .int .i64 t121, .string (⟨#[]⟩ : ByteArray)]) ?_ 2 _ rfl; (with_reducible repeat (first | refine blk_drewN ?_ _ | refine blk_drew ?_ | refine blk_alloc ?_ _)); refine blk_put (cs := #[.int .i64 t120, .int .i64 0, .string (⟨#[]⟩ : ByteArray)]) ?_ 1 _ rfl; (with_reducible repeat (first | refine blk_drewN ?_ _ | refine blk_drew ?_ | refine blk_alloc ?_ _)); refine blk_put (cs := #[.int .i64 0, .int .i64 0, .string (⟨#[]⟩ : ByteArray)]) ?_ 0 _ rfl; (with_reducible repeat (first | refine blk_drewN ?_ _ | refine blk_drew ?_ | refine blk_alloc ?_ _)); exact BK117.out) Tryz.underlying83 rfl (by kernel_rfl)) rfl ?_
  exact ⟨zE, zG⟩
/-! ### value_makers_3: function 103 -/
def value_makers_3.f (a0_0 : Int) (a0_1 : Int) (a0_2 : ByteArray) (a1_0 : Int) (a1_1 : Int) (a1_2 : ByteArray) : Option (Int × Int × ByteArray) := (value_Num.f a0_0 a0_1 a0_2).bind fun t126 => ((value_Num.f a1_0 a1_1 a1_2).bind fun t127 => ((value_number.f (wrap64 (t126 * t127))).bind fun bt128 => (some (bt128.1, bt128.2.1, bt128.2.2))))
set_option maxHeartbeats 8000000 in
set_option maxRecDepth 100000 in
theorem value_makers_3.calls (a0_0 : Int) (a0_1 : Int) (a0_2 : ByteArray) (a1_0 : Int) (a1_1 : Int) (a1_2 : ByteArray) (r1 : Int) (r2 : Int) (r3 : ByteArray) (w : World) (hL : Laid w) (h : value_makers_3.f a0_0 a0_1 a0_2 a1_0 a1_1 a1_2 = some (r1, r2, r3)) :
    Calls Tryz.prog 103 #[.agg #[.int .i64 a0_0, .int .i64 a0_1, .string a0_2], .agg #[.int .i64 a1_0, .int .i64 a1_1, .string a1_2]] w fun e w' => e = .returned (.agg #[.int .i64 r1, .int .i64 r2, .string r3]) ∧ Below w.heap.size w w' := by
  have HL := Aside0.mk hL
  clear hL
  have hu83 := Tryz.underlying83
  have HB := Aside0.mk (Below.refl w.heap.size w)
  have H : ((value_Num.f a0_0 a0_1 a0_2).bind fun t126 => ((value_Num.f a1_0 a1_1 a1_2).bind fun t127 => ((value_number.f (wrap64 (t126 * t127))).bind fun bt128 => (some (bt128.1, bt128.2.1, bt128.2.2))))) = some (r1, r2, r3) := h
  clear h
  obtain ⟨t126, A3, H⟩ := zO H
  obtain ⟨t127, A4, H⟩ := zO H
  replace H := Option.bind_eq_some_iff.mp H
  obtain ⟨⟨t128, t129, t130⟩, A50, H⟩ := H
  replace H : (some (t128, t129, t130)) = some (r1, r2, r3) := H
  have A5 := Aside0.mk A50
  clear A50
  simp only [Option.some.injEq, Prod.mk.injEq] at H
  obtain ⟨rfl, rfl, rfl⟩ := H
  go_enter Tryz.func103, Tryz.ntmps103
  try go_wp2_with (first | ((with_reducible refine gate_dst (N := 2) rfl ?_); refine zX (N := 2) (cs := #[.int .i64 a0_0, .int .i64 a0_1, .string a0_2]) (t := 83) (h := ?_); intro gb123 hg w6 hbox hb; have BK123 := Aside0.mk hbox; have GW123 := Aside0.mk ((zS : w.heap.size ≤ gb123)); have GE123 := Aside0.mk ((zS : w.heap.size ≤ gb123)); replace HB := Aside0.mk (below_step zB hb); clear hb hbox hg) | ((with_reducible refine gate_dst (N := 3) rfl ?_); refine zX (N := 3) (cs := #[.int .i64 a1_0, .int .i64 a1_1, .string a1_2]) (t := 83) (h := ?_); intro gb124 hg w7 hbox hb; have BK124 := Aside0.mk hbox; have GW124 := Aside0.mk ((zT : w.heap.size ≤ gb124)); have GE124 := Aside0.mk ((zT : w.heap.size ≤ gb124)); have NB123_124 := Aside0.mk ((zL : gb123 ≠ gb124)); have NB124_123 := Aside0.mk ((zM : gb124 ≠ gb123)); replace BK123 := Aside0.mk (blk_below (g := gb123) zK hb); replace HB := Aside0.mk (below_step zG hb); clear hb hbox hg) | ((with_reducible refine gate_dst (N := 4) rfl ?_); refine zX (N := 4) (cs := #[.int .i64 0, .int .i64 0, .string (⟨#[]⟩ : ByteArray)]) (t := 83) (h := ?_); intro gb125 hg w8 hbox hb; have BK125 := Aside0.mk hbox; have GW125 := Aside0.mk ((zT : w.heap.size ≤ gb125)); have GE125 := Aside0.mk ((zT : w.heap.size ≤ gb125)); have NB123_125 := Aside0.mk ((zL : gb123 ≠ gb125)); have NB125_123 := Aside0.mk ((zM : gb125 ≠ gb123)); have NB124_125 := Aside0.mk ((zL : gb124 ≠ gb125)); have NB125_124 := Aside0.mk ((zM : gb125 ≠ gb124)); replace BK123 := Aside0.mk (blk_below (g := gb123) zK hb); replace BK124 := Aside0.mk (blk_below (g := gb124) zK hb); replace HB := Aside0.mk (below_step zG hb); clear hb hbox hg))
  have n0_ := Aside0.mk (blk_drew BK123.out)
  have n1_ := Aside0.mk (blk_drew BK124.out)
  have n2_ := Aside0.mk (blk_drew BK125.out)
  have n3_ := Aside0.mk (below_drew1 HB.out)
  clear BK123
  clear BK124
  clear BK125
  clear HB
  have BK123 := n0_
  have BK124 := n1_
  have BK125 := n2_
  have HB := n3_
  clear n0_ n1_ n2_ n3_
  refine start_ (n := 7) (S := fun w' => w'.cell? ⟨gb123, 0, none⟩ = some (.int .i64 a0_0) ∧ w'.cell? ⟨gb123, 1, none⟩ = some (.int .i64 a0_1) ∧ w'.cell? ⟨gb123, 2, none⟩ = some (.string a0_2) ∧ w'.cell? ⟨gb124, 0, none⟩ = some (.int .i64 a1_0) ∧ w'.cell? ⟨gb124, 1, none⟩ = some (.int .i64 a1_1) ∧ w'.cell? ⟨gb124, 2, none⟩ = some (.string a1_2)) (ds := []) #[false, false, false, false, false, false, false] (by kernel_rfl) rfl rfl ⟨(blk_cell BK123.out 0).trans rfl, (blk_cell BK123.out 1).trans rfl, (blk_cell BK123.out 2).trans rfl, (blk_cell BK124.out 0).trans rfl, (blk_cell BK124.out 1).trans rfl, (blk_cell BK124.out 2).trans rfl⟩ (fun hHeld => ?_)
  generalize w8.drew = w9 at BK123 BK124 BK125 HB hHeld ⊢
  refine take_ (i := 0) (N := some 5) (v := ?_) (a' := ?_) #[true, false, false, false, false, false, false] rfl rfl (by kernel_rfl) (fun _ _ _ h => h) (Or.inl ⟨by rfl, ?_⟩) hHeld ?_ ?_
  rotate_left
  · rintro w' ⟨s0, s1, s2, s3, s4, s5⟩
    go_simp
    with_reducible rfl
  rotate_left
  · simp only [Act.put, List.setIfInBounds_toArray, List.set_cons_zero, List.set_cons_succ, i64_w, i32_w]
    rfl
  refine take_ (i := 2) (N := some 7) (v := ?_) (a' := ?_) #[true, false, true, false, false, false, false] rfl rfl (by kernel_rfl) (fun _ _ _ h => h) (Or.inl ⟨by rfl, ?_⟩) hHeld ?_ ?_
  rotate_left
  · rintro w' ⟨s0, s1, s2, s3, s4, s5⟩
    go_simp
    with_reducible rfl
  rotate_left
  · simp only [Act.put, List.setIfInBounds_toArray, List.set_cons_zero, List.set_cons_succ, i64_w, i32_w]
    rfl
  refine one_ (i := 1) (N := some 6) #[true, true, true, false, false, false, false] rfl rfl (by kernel_rfl) (by decide) (fun K hK => ?_)
  refine goes_ Tryz.func101 (by kernel_rfl) rfl #[.agg #[.int .i64 a0_0, .int .i64 a0_1, .string a0_2]] (by rfl) rfl rfl zP ?_
  with_reducible refine (value_Num.calls (hL := ?sideL) a0_0 a0_1 a0_2 t126 _ A3.out).mono ?_
  (case sideL => exact Laid.below HL.out zG)
  rintro e w10 ⟨rfl, hb⟩
  refine ⟨_, rfl, ?_⟩
  have n0_ := Aside0.mk (blk_below (g := gb123) zK hb)
  have n1_ := Aside0.mk (blk_below (g := gb124) zK hb)
  have n2_ := Aside0.mk (blk_below (g := gb125) zK hb)
  have n3_ := Aside0.mk (below_step zG hb)
  clear BK123
  clear BK124
  clear BK125
  clear HB
  have BK123 := n0_
  have BK124 := n1_
  have BK125 := n2_
  have HB := n3_
  clear n0_ n1_ n2_ n3_
  (try clear hb)
  (try clear hb2)
  (try clear hk)
  (try clear hi)
  refine hK.out _ _ ⟨(blk_cell BK123.out 0).trans rfl, (blk_cell BK123.out 1).trans rfl, (blk_cell BK123.out 2).trans rfl, (blk_cell BK124.out 0).trans rfl, (blk_cell BK124.out 1).trans rfl, (blk_cell BK124.out 2).trans rfl⟩ (fun hHeld => ?_)
  clear hK K
  refine norm_ (a' := ?_) ?_ ?_
  rotate_left
  · show Act.put _ (some 6) _ = _
    simp only [Act.put, List.setIfInBounds_toArray, List.set_cons_zero, List.set_cons_succ, i64_w, i32_w]
    rfl
  refine one_ (i := 3) (N := some 8) #[true, true, true, true, false, false, false] rfl rfl (by kernel_rfl) (by decide) (fun K hK => ?_)
  refine goes_ Tryz.func101 (by kernel_rfl) rfl #[.agg #[.int .i64 a1_0, .int .i64 a1_1, .string a1_2]] (by rfl) rfl rfl zP ?_
  with_reducible refine (value_Num.calls (hL := ?sideL) a1_0 a1_1 a1_2 t127 _ A4.out).mono ?_
  (case sideL => exact Laid.below HL.out zG)
  rintro e w11 ⟨rfl, hb⟩
  refine ⟨_, rfl, ?_⟩
  have n0_ := Aside0.mk (blk_below (g := gb123) zK hb)
  have n1_ := Aside0.mk (blk_below (g := gb124) zK hb)
  have n2_ := Aside0.mk (blk_below (g := gb125) zK hb)
  have n3_ := Aside0.mk (below_step zG hb)
  clear BK123
  clear BK124
  clear BK125
  clear HB
  have BK123 := n0_
  have BK124 := n1_
  have BK125 := n2_
  have HB := n3_
  clear n0_ n1_ n2_ n3_
  (try clear hb)
  (try clear hb2)
  (try clear hk)
  (try clear hi)
  refine hK.out _ _ ⟨(blk_cell BK123.out 0).trans rfl, (blk_cell BK123.out 1).trans rfl, (blk_cell BK123.out 2).trans rfl, (blk_cell BK124.out 0).trans rfl, (blk_cell BK124.out 1).trans rfl, (blk_cell BK124.out 2).trans rfl⟩ (fun hHeld => ?_)
  clear hK K
  refine norm_ (a' := ?_) ?_ ?_
  rotate_left
  · show Act.put _ (some 8) _ = _
    simp only [Act.put, List.setIfInBounds_toArray, List.set_cons_zero, List.set_cons_succ, i64_w, i32_w]
    rfl
  refine pure_ (i := 4) (N := some 9) (v := ?_) (a' := ?_) #[true, true, true, true, true, false, false] rfl rfl (by kernel_rfl) (fun _ _ _ h => h) (Or.inl ⟨by rfl, ?_⟩) ?_ ?_
  rotate_left
  · intro w'
    go_simp
    with_reducible rfl
  rotate_left
  · simp only [Act.put, List.setIfInBounds_toArray, List.set_cons_zero, List.set_cons_succ, i64_w, i32_w]
    rfl
  refine one_ (i := 5) (N := some 10) #[true, true, true, true, true, true, false] rfl rfl (by kernel_rfl) (by decide) (fun K hK => ?_)
  refine goes_ Tryz.func100 (by kernel_rfl) rfl #[.int .i64 (wrap64 (t126 * t127))] (by rfl) rfl rfl zP ?_
  with_reducible refine (value_number.calls (wrap64 (t126 * t127)) t128 t129 t130 _ A5.out).mono ?_
  rintro e w12 ⟨rfl, hb⟩
  refine ⟨_, rfl, ?_⟩
  have n0_ := Aside0.mk (blk_below (g := gb123) zK hb)
  have n1_ := Aside0.mk (blk_below (g := gb124) zK hb)
  have n2_ := Aside0.mk (blk_below (g := gb125) zK hb)
  have n3_ := Aside0.mk (below_step zG hb)
  clear BK123
  clear BK124
  clear BK125
  clear HB
  have BK123 := n0_
  have BK124 := n1_
  have BK125 := n2_
  have HB := n3_
  clear n0_ n1_ n2_ n3_
  (try clear hb)
  (try clear hb2)
  (try clear hk)
  (try clear hi)
  refine hK.out _ _ ⟨(blk_cell BK123.out 0).trans rfl, (blk_cell BK123.out 1).trans rfl, (blk_cell BK123.out 2).trans rfl, (blk_cell BK124.out 0).trans rfl, (blk_cell BK124.out 1).trans rfl, (blk_cell BK124.out 2).trans rfl⟩ (fun hHeld => ?_)
  clear hK K
  refine norm_ (a' := ?_) ?_ ?_
  rotate_left
  · show Act.put _ (some 10) _ = _
    simp only [Act.put, List.setIfInBounds_toArray, List.set_cons_zero, List.set_cons_succ, i64_w, i32_w]
    rfl
  refine one_ (i := 6) (N := none) #[true, true, true, true, true, true, true] rfl rfl (by kernel_rfl) (by decide) (fun K hK => ?_)
  have hs13 : w12.cell? ⟨gb125, 0, none⟩ = some (.int .i64 0) := (blk_cell BK125.out 0).trans rfl
  have hfs13 := blk_frozen BK125.out 0
  have hns13_0 := NB123_125.out
  have hns13_1 := NB124_125.out
  have hms13_0 := NB125_123.out
  have hms13_1 := NB125_124.out
  have hs14 : w12.cell? ⟨gb125, 1, none⟩ = some (.int .i64 0) := (blk_cell BK125.out 1).trans rfl
  have hfs14 := blk_frozen BK125.out 1
  have hns14_0 := NB123_125.out
  have hns14_1 := NB124_125.out
  have hms14_0 := NB125_123.out
  have hms14_1 := NB125_124.out
  have hs15 : w12.cell? ⟨gb125, 2, none⟩ = some (.string (⟨#[]⟩ : ByteArray)) := (blk_cell BK125.out 2).trans rfl
  have hfs15 := blk_frozen BK125.out 2
  have hns15_0 := NB123_125.out
  have hns15_1 := NB124_125.out
  have hms15_0 := NB125_123.out
  have hms15_1 := NB125_124.out
  refine skip_ (w1 := ?_) (by rfl) rfl ?_ ?_
  rotate_left
  · go_simp
    rfl
  refine hK.out _ _ ⟨((cell_far (p := ⟨gb125, _, none⟩) NB123_125.out _).trans (((cell_far (p := ⟨gb125, _, none⟩) NB123_125.out _).trans (((cell_far (p := ⟨gb125, _, none⟩) NB123_125.out _).trans (hHeld.1)))))), ((cell_far (p := ⟨gb125, _, none⟩) NB123_125.out _).trans (((cell_far (p := ⟨gb125, _, none⟩) NB123_125.out _).trans (((cell_far (p := ⟨gb125, _, none⟩) NB123_125.out _).trans (hHeld.2.1)))))), ((cell_far (p := ⟨gb125, _, none⟩) NB123_125.out _).trans (((cell_far (p := ⟨gb125, _, none⟩) NB123_125.out _).trans (((cell_far (p := ⟨gb125, _, none⟩) NB123_125.out _).trans (hHeld.2.2.1)))))), ((cell_far (p := ⟨gb125, _, none⟩) NB124_125.out _).trans (((cell_far (p := ⟨gb125, _, none⟩) NB124_125.out _).trans (((cell_far (p := ⟨gb125, _, none⟩) NB124_125.out _).trans (hHeld.2.2.2.1)))))), ((cell_far (p := ⟨gb125, _, none⟩) NB124_125.out _).trans (((cell_far (p := ⟨gb125, _, none⟩) NB124_125.out _).trans (((cell_far (p := ⟨gb125, _, none⟩) NB124_125.out _).trans (hHeld.2.2.2.2.1)))))), ((cell_far (p := ⟨gb125, _, none⟩) NB124_125.out _).trans (((cell_far (p := ⟨gb125, _, none⟩) NB124_125.out _).trans (((cell_far (p := ⟨gb125, _, none⟩) NB124_125.out _).trans (hHeld.2.2.2.2.2))))))⟩ (fun hHeld => ?_)
  clear hK K
  refine done_ (by kernel_rfl) ?_
  try go_wp2
  refine bodyPost_ret (results_cell_row rfl _ _ gb125 83 #[.int .i64 t128, .int .i64 t129, .string t130] (0, 0) _ rfl (by (with_reducible repeat (first | refine blk_drewN ?_ _ | refine blk_drew ?_ | refine blk_alloc ?_ _)); refine blk_put (cs := #[.int .i64 t128, .int .i64 t129, .string (⟨#[]⟩ : ByteArray)]) ?_ 2 _ rfl; (with_reducible repeat (first | refine blk_drewN ?_ _ | refine blk_drew ?_ | refine blk_alloc ?_ _)); refine blk_put (cs := #[.int .i64 t128, .int .i64 0, .string (⟨#[]⟩ : ByteArray)]) ?_ 1 _ rfl; (with_reducible repeat (first | refine blk_drewN ?_ _ | refine blk_drew ?_ | refine blk_alloc ?_ _)); refine blk_put (cs := #[.int .i64 0, .int .i64 0, .string (⟨#[]⟩ : ByteArray)]) ?_ 0 _ rfl; (with_reducible repeat (first | refine blk_drewN ?_ _ | refine blk_drew ?_ | refine blk_alloc ?_ _)); exact BK125.out) Tryz.underlying83 rfl (by kernel_rfl)) rfl ?_
  exact ⟨zE, zG⟩
end Go.Proofs.YtjlhhjfmekjbhaaGreatDoor.Pr

namespace Go.Proofs.YtjlhhjfmekjbhaaGreatDoor.Pr
open Go.RowKit Go.Proofs.YtjlhhjfmekjbhaaGreatDoorW.PrintWords Go.Proofs.YtjlhhjfmekjbhaaGreatDoorW.PrintLast Go.Proofs.YtjlhhjfmekjbhaaGreatDoorW.PrintMore
set_option linter.unusedVariables false
set_option linter.unusedSimpArgs false
/-! ### value_truth: function 105 -/
def value_truth.j0 : Nat → Int → Int → ByteArray → Option (Int × Int × ByteArray)
  | 0, _, _, _ => none
  | k + 1, x133000, x133001, x133002 => some (x133000, x133001, x133002)
def value_truth.f (k : Nat) (a0 : Bool) : Option (Int × Int × ByteArray) := if a0 = true then (value_truth.j0 k 2 1 (⟨#[]⟩ : ByteArray)) else (value_truth.j0 k 2 0 (⟨#[]⟩ : ByteArray))
set_option maxHeartbeats 8000000 in
set_option maxRecDepth 100000 in
theorem value_truth.calls (k : Nat) (a0 : Bool) (r1 : Int) (r2 : Int) (r3 : ByteArray) (w : World) (h : value_truth.f k a0 = some (r1, r2, r3)) :
    Calls Tryz.prog 105 #[.bool a0] w fun e w' => e = .returned (.agg #[.int .i64 r1, .int .i64 r2, .string r3]) ∧ Below w.heap.size w w' := by
  have hu83 := Tryz.underlying83
  have HB := Aside0.mk (Below.refl w.heap.size w)
  have H : (if a0 = true then (value_truth.j0 k 2 1 (⟨#[]⟩ : ByteArray)) else (value_truth.j0 k 2 0 (⟨#[]⟩ : ByteArray))) = some (r1, r2, r3) := h
  clear h
  have HC2 := Aside0.mk H
  clear H
  go_enter Tryz.func105, Tryz.ntmps105
  go_upto_if 5 with (first | ((with_reducible refine gate_dst (N := 2) rfl ?_); refine zX (N := 2) (cs := #[.int .i64 0, .int .i64 0, .string (⟨#[]⟩ : ByteArray)]) (t := 83) (h := ?_); intro gb131 hg w3 hbox hb; have BK131 := Aside0.mk hbox; have GW131 := Aside0.mk ((zS : w.heap.size ≤ gb131)); have GE131 := Aside0.mk ((zS : w.heap.size ≤ gb131)); replace HB := Aside0.mk (below_step zB hb); clear hb hbox hg) | ((with_reducible refine gate_dst (N := 3) rfl ?_); refine zX (N := 3) (cs := #[.int .i64 0, .int .i64 0, .string (⟨#[]⟩ : ByteArray)]) (t := 83) (h := ?_); intro gb132 hg w4 hbox hb; have BK132 := Aside0.mk hbox; have GW132 := Aside0.mk ((zT : w.heap.size ≤ gb132)); have GE132 := Aside0.mk ((zT : w.heap.size ≤ gb132)); have NB131_132 := Aside0.mk ((zL : gb131 ≠ gb132)); have NB132_131 := Aside0.mk ((zM : gb132 ≠ gb131)); replace BK131 := Aside0.mk (blk_below (g := gb131) zK hb); replace HB := Aside0.mk (below_step zG hb); clear hb hbox hg; have hnb5 := NB132_131.out; have hnc5 := NB131_132.out; obtain ⟨hcz6_0, hcz6_1, hcz6_2, hfz6_0, hfz6_1, hfz6_2⟩ := zd3 BK132.out (.int .i64 0) (.int .i64 0) (.string (⟨#[]⟩ : ByteArray))))
  (try simp only [Act.put, List.setIfInBounds_toArray, List.set_cons_zero, List.set_cons_succ])
  go_cut [] (fun wc => ∃ (kq : Nat) (x133001_1 : Int), Aside0 (value_truth.j0 kq 2 x133001_1 (⟨#[]⟩ : ByteArray) = some (r1, r2, r3)) ∧ Aside0 (kq ≤ k) ∧ Aside0 (wc.heap[gb131]? = some (.cells #[.int .i64 0, .int .i64 0, .string (⟨#[]⟩ : ByteArray)] 83 (0, 0))) ∧ Aside0 (wc.heap[gb132]? = some (.cells #[.int .i64 2, .int .i64 x133001_1, .string (⟨#[]⟩ : ByteArray)] 83 (0, 0))) ∧ Aside0 (Below w.heap.size w wc))
  case first =>
    have H := HC2.out
    clear HC2
    by_cases c7 : a0 = true
    · subst c7
      rw [if_pos rfl] at H
      have H' := Aside0.mk H
      clear H
      have hnb8 := NB132_131.out
      have hnc8 := NB131_132.out
      obtain ⟨hcz9_0, hcz9_1, hcz9_2, hfz9_0, hfz9_1, hfz9_2⟩ := zd3 BK132.out (.int .i64 0) (.int .i64 0) (.string (⟨#[]⟩ : ByteArray))
      go_wp2
      go_meet
      case rel => exact ⟨_, (1), H', ⟨by first | omega | exact Nat.le_refl _⟩, ⟨by (with_reducible repeat (first | refine blk_drewN ?_ _ | refine blk_drew ?_ | refine blk_alloc ?_ _)); refine blk_far ?_ NB131_132.out _; (with_reducible repeat (first | refine blk_drewN ?_ _ | refine blk_drew ?_ | refine blk_alloc ?_ _)); refine blk_far ?_ NB131_132.out _; (with_reducible repeat (first | refine blk_drewN ?_ _ | refine blk_drew ?_ | refine blk_alloc ?_ _)); refine blk_far ?_ NB131_132.out _; (with_reducible repeat (first | refine blk_drewN ?_ _ | refine blk_drew ?_ | refine blk_alloc ?_ _)); refine blk_far ?_ NB131_132.out _; (with_reducible repeat (first | refine blk_drewN ?_ _ | refine blk_drew ?_ | refine blk_alloc ?_ _)); exact BK131.out⟩, ⟨by (with_reducible repeat (first | refine blk_drewN ?_ _ | refine blk_drew ?_ | refine blk_alloc ?_ _)); refine blk_put (cs := #[.int .i64 2, .int .i64 0, .string (⟨#[]⟩ : ByteArray)]) ?_ 1 _ rfl; (with_reducible repeat (first | refine blk_drewN ?_ _ | refine blk_drew ?_ | refine blk_alloc ?_ _)); refine blk_put (cs := #[.int .i64 2, .int .i64 0, .string (⟨#[]⟩ : ByteArray)]) ?_ 2 _ rfl; (with_reducible repeat (first | refine blk_drewN ?_ _ | refine blk_drew ?_ | refine blk_alloc ?_ _)); refine blk_put (cs := #[.int .i64 2, .int .i64 0, .string (⟨#[]⟩ : ByteArray)]) ?_ 1 _ rfl; (with_reducible repeat (first | refine blk_drewN ?_ _ | refine blk_drew ?_ | refine blk_alloc ?_ _)); refine blk_put (cs := #[.int .i64 0, .int .i64 0, .string (⟨#[]⟩ : ByteArray)]) ?_ 0 _ rfl; (with_reducible repeat (first | refine blk_drewN ?_ _ | refine blk_drew ?_ | refine blk_alloc ?_ _)); exact BK132.out⟩, ⟨zG⟩⟩
    · replace c7 := Bool.eq_false_iff.mpr c7
      subst c7
      rw [if_neg (show ¬ (false = true) by decide)] at H
      have H' := Aside0.mk H
      clear H
      go_wp2
      go_meet
      case rel => exact ⟨_, (0), H', ⟨by first | omega | exact Nat.le_refl _⟩, ⟨by (with_reducible repeat (first | refine blk_drewN ?_ _ | refine blk_drew ?_ | refine blk_alloc ?_ _)); refine blk_far ?_ NB131_132.out _; (with_reducible repeat (first | refine blk_drewN ?_ _ | refine blk_drew ?_ | refine blk_alloc ?_ _)); refine blk_far ?_ NB131_132.out _; (with_reducible repeat (first | refine blk_drewN ?_ _ | refine blk_drew ?_ | refine blk_alloc ?_ _)); refine blk_far ?_ NB131_132.out _; (with_reducible repeat (first | refine blk_drewN ?_ _ | refine blk_drew ?_ | refine blk_alloc ?_ _)); exact BK131.out⟩, ⟨by (with_reducible repeat (first | refine blk_drewN ?_ _ | refine blk_drew ?_ | refine blk_alloc ?_ _)); refine blk_put (cs := #[.int .i64 2, .int .i64 0, .string (⟨#[]⟩ : ByteArray)]) ?_ 2 _ rfl; (with_reducible repeat (first | refine blk_drewN ?_ _ | refine blk_drew ?_ | refine blk_alloc ?_ _)); refine blk_put (cs := #[.int .i64 2, .int .i64 0, .string (⟨#[]⟩ : ByteArray)]) ?_ 1 _ rfl; (with_reducible repeat (first | refine blk_drewN ?_ _ | refine blk_drew ?_ | refine blk_alloc ?_ _)); refine blk_put (cs := #[.int .i64 0, .int .i64 0, .string (⟨#[]⟩ : ByteArray)]) ?_ 0 _ rfl; (with_reducible repeat (first | refine blk_drewN ?_ _ | refine blk_drew ?_ | refine blk_alloc ?_ _)); exact BK132.out⟩, ⟨zG⟩⟩
  case rest =>
    clear HC2
    clear hcz6_0 hcz6_1 hcz6_2 hfz6_0 hfz6_1 hfz6_2
    obtain ⟨kq, x133001_1, HA, HJ1, BK131, BK132, HB⟩ := hcut
    cases kq with
    | zero => exact absurd HA.out (by simp [value_truth.j0])
    | succ kj1 =>
      have H := HA.out
      clear HA
      simp only [value_truth.j0] at H
      simp only [Option.some.injEq, Prod.mk.injEq] at H
      obtain ⟨rfl, rfl, rfl⟩ := H
      have hnb10 := NB132_131.out
      have hnc10 := NB131_132.out
      obtain ⟨hcz11_0, hcz11_1, hcz11_2, hfz11_0, hfz11_1, hfz11_2⟩ := zd3 BK132.out (.int .i64 2) (.int .i64 x133001_1) (.string (⟨#[]⟩ : ByteArray))
      obtain ⟨hcz12_0, hcz12_1, hcz12_2, hfz12_0, hfz12_1, hfz12_2⟩ := zd3 BK131.out (.int .i64 0) (.int .i64 0) (.string (⟨#[]⟩ : ByteArray))
      go_wp2
      refine bodyPost_ret (results_cell_row rfl _ _ gb131 83 #[.int .i64 2, .int .i64 x133001_1, .string (⟨#[]⟩ : ByteArray)] (0, 0) _ rfl (by (with_reducible repeat (first | refine blk_drewN ?_ _ | refine blk_drew ?_ | refine blk_alloc ?_ _)); refine blk_put (cs := #[.int .i64 2, .int .i64 x133001_1, .string (⟨#[]⟩ : ByteArray)]) ?_ 2 _ rfl; (with_reducible repeat (first | refine blk_drewN ?_ _ | refine blk_drew ?_ | refine blk_alloc ?_ _)); refine blk_put (cs := #[.int .i64 2, .int .i64 0, .string (⟨#[]⟩ : ByteArray)]) ?_ 1 _ rfl; (with_reducible repeat (first | refine blk_drewN ?_ _ | refine blk_drew ?_ | refine blk_alloc ?_ _)); refine blk_put (cs := #[.int .i64 0, .int .i64 0, .string (⟨#[]⟩ : ByteArray)]) ?_ 0 _ rfl; (with_reducible repeat (first | refine blk_drewN ?_ _ | refine blk_drew ?_ | refine blk_alloc ?_ _)); exact BK131.out) Tryz.underlying83 rfl (by kernel_rfl)) rfl ?_
      exact ⟨zE, zG⟩
/-! ### cmp_isNaN_int64: function 131 -/
def cmp_isNaN_int64.f (a0 : Int) : Option (Bool) := some (a0 != a0)
set_option maxHeartbeats 8000000 in
set_option maxRecDepth 100000 in
theorem cmp_isNaN_int64.calls (a0 : Int) (r : Bool) (w : World) (h : cmp_isNaN_int64.f a0 = some r) :
    Calls Tryz.prog 131 #[.int .i64 a0] w fun e w' => e = .returned (.bool r) ∧ Drawn0 w w' := by
  have H : (some (a0 != a0)) = some r := h
  clear h
  obtain rfl := Option.some.inj H
  go_enter Tryz.func131, Tryz.ntmps131
  go_wp2
  go_ret
  exact ⟨zR, by repeat (first | exact Drawn0.refl _ | apply Drawn0.step)⟩
/-! ### cmp_Compare_int64: function 123 -/
def cmp_Compare_int64.f (a0 : Int) (a1 : Int) : Option (Int) := (cmp_isNaN_int64.f a0).bind fun t133 => ((cmp_isNaN_int64.f a1).bind fun t134 => (if t133 = true then (if t134 = true then (some 0) else (some (-1))) else (if t134 = true then (some 1) else (if a0 < a1 then (some (-1)) else (if a0 > a1 then (some 1) else (some 0))))))
set_option maxHeartbeats 8000000 in
set_option maxRecDepth 100000 in
theorem cmp_Compare_int64.calls (a0 : Int) (a1 : Int) (r : Int) (w : World) (h : cmp_Compare_int64.f a0 a1 = some r) :
    Calls Tryz.prog 123 #[.int .i64 a0, .int .i64 a1] w fun e w' => e = .returned (.int .i64 r) ∧ Drawn0 w w' := by
  have H : ((cmp_isNaN_int64.f a0).bind fun t133 => ((cmp_isNaN_int64.f a1).bind fun t134 => (if t133 = true then (if t134 = true then (some 0) else (some (-1))) else (if t134 = true then (some 1) else (if a0 < a1 then (some (-1)) else (if a0 > a1 then (some 1) else (some 0))))))) = some r := h
  clear h
  obtain ⟨t133, A3, H⟩ := zO H
  obtain ⟨t134, A4, H⟩ := zO H
  by_cases c5 : t133 = true
  · subst c5
    rw [if_pos rfl] at H
    by_cases c6 : t134 = true
    · subst c6
      rw [if_pos rfl] at H
      obtain rfl := Option.some.inj H
      go_enter Tryz.func123, Tryz.ntmps123
      go_wp2_with (first | ((with_reducible refine gate_callee (f := 131) rfl ?_); refine goesL_ (some 10) rfl rfl Tryz.func131 (by kernel_rfl) rfl #[.int .i64 a1] rfl zP ?_; (with_reducible refine (cmp_isNaN_int64.calls a1 true _ A4.out).mono ?_); rintro e w' ⟨rfl, ⟨nd, rfl⟩⟩; refine ⟨_, rfl, ?_⟩) | ((with_reducible refine gate_callee (f := 131) rfl ?_); refine goesL_ (some 8) rfl rfl Tryz.func131 (by kernel_rfl) rfl #[.int .i64 a0] rfl zP ?_; (with_reducible refine (cmp_isNaN_int64.calls a0 true _ A3.out).mono ?_); rintro e w' ⟨rfl, ⟨nd, rfl⟩⟩; refine ⟨_, rfl, ?_⟩))
      go_ret
      exact ⟨zR, by repeat (first | exact Drawn0.refl _ | apply Drawn0.step)⟩
    · replace c6 := Bool.eq_false_iff.mpr c6
      subst c6
      rw [if_neg (show ¬ (false = true) by decide)] at H
      obtain rfl := Option.some.inj H
      go_enter Tryz.func123, Tryz.ntmps123
      go_wp2_with (first | ((with_reducible refine gate_callee (f := 131) rfl ?_); refine goesL_ (some 10) rfl rfl Tryz.func131 (by kernel_rfl) rfl #[.int .i64 a1] rfl zP ?_; (with_reducible refine (cmp_isNaN_int64.calls a1 false _ A4.out).mono ?_); rintro e w' ⟨rfl, ⟨nd, rfl⟩⟩; refine ⟨_, rfl, ?_⟩) | ((with_reducible refine gate_callee (f := 131) rfl ?_); refine goesL_ (some 8) rfl rfl Tryz.func131 (by kernel_rfl) rfl #[.int .i64 a0] rfl zP ?_; (with_reducible refine (cmp_isNaN_int64.calls a0 true _ A3.out).mono ?_); rintro e w' ⟨rfl, ⟨nd, rfl⟩⟩; refine ⟨_, rfl, ?_⟩))
      go_ret
      exact ⟨zR, by repeat (first | exact Drawn0.refl _ | apply Drawn0.step)⟩
  · replace c5 := Bool.eq_false_iff.mpr c5
    subst c5
    rw [if_neg (show ¬ (false = true) by decide)] at H
    by_cases c7 : t134 = true
    · subst c7
      rw [if_pos rfl] at H
      obtain rfl := Option.some.inj H
      go_enter Tryz.func123, Tryz.ntmps123
      go_wp2_with (first | ((with_reducible refine gate_callee (f := 131) rfl ?_); refine goesL_ (some 10) rfl rfl Tryz.func131 (by kernel_rfl) rfl #[.int .i64 a1] rfl zP ?_; (with_reducible refine (cmp_isNaN_int64.calls a1 true _ A4.out).mono ?_); rintro e w' ⟨rfl, ⟨nd, rfl⟩⟩; refine ⟨_, rfl, ?_⟩) | ((with_reducible refine gate_callee (f := 131) rfl ?_); refine goesL_ (some 8) rfl rfl Tryz.func131 (by kernel_rfl) rfl #[.int .i64 a0] rfl zP ?_; (with_reducible refine (cmp_isNaN_int64.calls a0 false _ A3.out).mono ?_); rintro e w' ⟨rfl, ⟨nd, rfl⟩⟩; refine ⟨_, rfl, ?_⟩))
      go_ret
      exact ⟨zR, by repeat (first | exact Drawn0.refl _ | apply Drawn0.step)⟩
    · replace c7 := Bool.eq_false_iff.mpr c7
      subst c7
      rw [if_neg (show ¬ (false = true) by decide)] at H
      by_cases c8 : a0 < a1
      · rw [if_pos c8] at H
        have c8b0 : decide (a0 < a1) = true := decide_eq_true c8
        clear c8
        obtain rfl := Option.some.inj H
        go_enter Tryz.func123, Tryz.ntmps123
        go_wp2_with (first | ((with_reducible refine gate_callee (f := 131) rfl ?_); refine goesL_ (some 10) rfl rfl Tryz.func131 (by kernel_rfl) rfl #[.int .i64 a1] rfl zP ?_; (with_reducible refine (cmp_isNaN_int64.calls a1 false _ A4.out).mono ?_); rintro e w' ⟨rfl, ⟨nd, rfl⟩⟩; refine ⟨_, rfl, ?_⟩) | ((with_reducible refine gate_callee (f := 131) rfl ?_); refine goesL_ (some 8) rfl rfl Tryz.func131 (by kernel_rfl) rfl #[.int .i64 a0] rfl zP ?_; (with_reducible refine (cmp_isNaN_int64.calls a0 false _ A3.out).mono ?_); rintro e w' ⟨rfl, ⟨nd, rfl⟩⟩; refine ⟨_, rfl, ?_⟩))
        go_ret
        exact ⟨zR, by repeat (first | exact Drawn0.refl _ | apply Drawn0.step)⟩
      · rw [if_neg c8] at H
        have c8b0 : decide (a0 < a1) = false := decide_eq_false c8
        clear c8
        by_cases c9 : a0 > a1
        · rw [if_pos c9] at H
          have c9b0 : decide (a1 < a0) = true := decide_eq_true c9
          clear c9
          obtain rfl := Option.some.inj H
          go_enter Tryz.func123, Tryz.ntmps123
          go_wp2_with (first | ((with_reducible refine gate_callee (f := 131) rfl ?_); refine goesL_ (some 10) rfl rfl Tryz.func131 (by kernel_rfl) rfl #[.int .i64 a1] rfl zP ?_; (with_reducible refine (cmp_isNaN_int64.calls a1 false _ A4.out).mono ?_); rintro e w' ⟨rfl, ⟨nd, rfl⟩⟩; refine ⟨_, rfl, ?_⟩) | ((with_reducible refine gate_callee (f := 131) rfl ?_); refine goesL_ (some 8) rfl rfl Tryz.func131 (by kernel_rfl) rfl #[.int .i64 a0] rfl zP ?_; (with_reducible refine (cmp_isNaN_int64.calls a0 false _ A3.out).mono ?_); rintro e w' ⟨rfl, ⟨nd, rfl⟩⟩; refine ⟨_, rfl, ?_⟩))
          go_ret
          exact ⟨zR, by repeat (first | exact Drawn0.refl _ | apply Drawn0.step)⟩
        · rw [if_neg c9] at H
          have c9b0 : decide (a1 < a0) = false := decide_eq_false c9
          clear c9
          obtain rfl := Option.some.inj H
          go_enter Tryz.func123, Tryz.ntmps123
          go_wp2_with (first | ((with_reducible refine gate_callee (f := 131) rfl ?_); refine goesL_ (some 10) rfl rfl Tryz.func131 (by kernel_rfl) rfl #[.int .i64 a1] rfl zP ?_; (with_reducible refine (cmp_isNaN_int64.calls a1 false _ A4.out).mono ?_); rintro e w' ⟨rfl, ⟨nd, rfl⟩⟩; refine ⟨_, rfl, ?_⟩) | ((with_reducible refine gate_callee (f := 131) rfl ?_); refine goesL_ (some 8) rfl rfl Tryz.func131 (by kernel_rfl) rfl #[.int .i64 a0] rfl zP ?_; (with_reducible refine (cmp_isNaN_int64.calls a0 false _ A3.out).mono ?_); rintro e w' ⟨rfl, ⟨nd, rfl⟩⟩; refine ⟨_, rfl, ?_⟩))
          go_ret
          exact ⟨zR, by repeat (first | exact Drawn0.refl _ | apply Drawn0.step)⟩
end Go.Proofs.YtjlhhjfmekjbhaaGreatDoor.Pr

/- cmp.Compare at strings. No condition. -/
namespace Go.Proofs.YtjlhhjfmekjbhaaGreatDoor.Va
open Go.RowKit Go.Proofs.YtjlhhjfmekjbhaaGreatDoorW.PrintWords Go.Proofs.YtjlhhjfmekjbhaaGreatDoorW.PrintLast Go.Proofs.YtjlhhjfmekjbhaaGreatDoorW.PrintMore
set_option linter.unusedVariables false
set_option linter.unusedSimpArgs false
set_option maxRecDepth 100000 in
theorem isNaN_run (s : ByteArray) (w : World) : Calls Tryz.prog 130 #[.string s] w fun e w' => e = .returned (.bool false) ∧ w' = w := by
  go_enter Tryz.func130, Tryz.ntmps130
  go_wp2
  go_ret
  exact ⟨by simp, rfl⟩
def cmp_Compare_string.f (a b : ByteArray) : Option Int := some (if Op.bytesLess a.toList b.toList = true then -1 else if (a.toList == b.toList) = true then 0 else 1)
set_option maxRecDepth 100000 in
theorem cmp_Compare_string.calls (a0 a1 : ByteArray) (r : Int) (w : World) (h : cmp_Compare_string.f a0 a1 = some r) :
    Calls Tryz.prog 122 #[.string a0, .string a1] w fun e w' => e = .returned (.int .i64 r) ∧ Drawn0 w w' := by
  obtain rfl := Option.some.inj h
  clear h
  have H0 := Aside0.mk (isNaN_run a0)
  have H1 := Aside0.mk (isNaN_run a1)
  generalize h1 : Op.bytesLess a0.toList a1.toList = b1
  generalize h2 : (a0.toList == a1.toList) = b2
  cases b1 <;> cases b2
  all_goals (
    go_enter Tryz.func122, Tryz.ntmps122
    go_wp2_with (first | (go_at_call 130; refine (H0.out _).mono ?_; rintro e w' ⟨rfl, rfl⟩) | (go_at_call 130; refine (H1.out _).mono ?_; rintro e w' ⟨rfl, rfl⟩))
    go_ret
    exact ⟨by simp [*], Drawn0.refl _⟩)
end Go.Proofs.YtjlhhjfmekjbhaaGreatDoor.Va

namespace Go.Proofs.YtjlhhjfmekjbhaaGreatDoor.Pr
open Go.RowKit Go.Proofs.YtjlhhjfmekjbhaaGreatDoor.Va Go.Proofs.YtjlhhjfmekjbhaaGreatDoorW.PrintWords Go.Proofs.YtjlhhjfmekjbhaaGreatDoorW.PrintLast Go.Proofs.YtjlhhjfmekjbhaaGreatDoorW.PrintMore
set_option linter.unusedVariables false
set_option linter.unusedSimpArgs false
attribute [local go_sem high] eqA83
/-! ### value_compared: function 106 -/
def value_compared.j0 : Nat → Bool → Int → Int → ByteArray → Int → Int → ByteArray → Option (Int)
  | 0, _, _, _, _, _, _, _ => none
  | k + 1, x12, x136000, x136001, x136002, x137000, x137001, x137002 => if x12 = true then ((cmp_Compare_string.f x136002 x137002).bind fun t137 => (some t137)) else ((value_Num.f x136000 x136001 x136002).bind fun t138 => ((value_Num.f x137000 x137001 x137002).bind fun t139 => ((cmp_Compare_int64.f t138 t139).bind fun t140 => (some t140))))
def value_compared.f (k : Nat) (a0_0 : Int) (a0_1 : Int) (a0_2 : ByteArray) (a1_0 : Int) (a1_1 : Int) (a1_2 : ByteArray) : Option (Int) := if a0_0 = 4 then (value_compared.j0 k (a1_0 == 4) a0_0 a0_1 a0_2 a1_0 a1_1 a1_2) else (value_compared.j0 k false a0_0 a0_1 a0_2 a1_0 a1_1 a1_2)
set_option maxHeartbeats 8000000 in
set_option maxRecDepth 100000 in
theorem value_compared.calls (k : Nat) (a0_0 : Int) (a0_1 : Int) (a0_2 : ByteArray) (a1_0 : Int) (a1_1 : Int) (a1_2 : ByteArray) (r : Int) (w : World) (hL : Laid w) (h : value_compared.f k a0_0 a0_1 a0_2 a1_0 a1_1 a1_2 = some r) :
    Calls Tryz.prog 106 #[.agg #[.int .i64 a0_0, .int .i64 a0_1, .string a0_2], .agg #[.int .i64 a1_0, .int .i64 a1_1, .string a1_2]] w fun e w' => e = .returned (.int .i64 r) ∧ Below w.heap.size w w' := by
  have HL := Aside0.mk hL
  clear hL
  have hu83 := Tryz.underlying83
  have HB := Aside0.mk (Below.refl w.heap.size w)
  have H : (if a0_0 = 4 then (value_compared.j0 k (a1_0 == 4) a0_0 a0_1 a0_2 a1_0 a1_1 a1_2) else (value_compared.j0 k false a0_0 a0_1 a0_2 a1_0 a1_1 a1_2)) = some r := h
  clear h
  have HC3 := Aside0.mk H
  clear H
  go_enter Tryz.func106, Tryz.ntmps106
  go_upto_region 1 with (first | ((with_reducible refine gate_dst (N := 2) rfl ?_); refine zX (N := 2) (cs := #[.int .i64 a0_0, .int .i64 a0_1, .string a0_2]) (t := 83) (h := ?_); intro gb135 hg w4 hbox hb; have BK135 := Aside0.mk hbox; have GW135 := Aside0.mk ((zS : w.heap.size ≤ gb135)); have GE135 := Aside0.mk ((zS : w.heap.size ≤ gb135)); replace HB := Aside0.mk (below_step zB hb); clear hb hbox hg) | ((with_reducible refine gate_dst (N := 3) rfl ?_); refine zX (N := 3) (cs := #[.int .i64 a1_0, .int .i64 a1_1, .string a1_2]) (t := 83) (h := ?_); intro gb136 hg w5 hbox hb; have BK136 := Aside0.mk hbox; have GW136 := Aside0.mk ((zT : w.heap.size ≤ gb136)); have GE136 := Aside0.mk ((zT : w.heap.size ≤ gb136)); have NB135_136 := Aside0.mk ((zL : gb135 ≠ gb136)); have NB136_135 := Aside0.mk ((zM : gb136 ≠ gb135)); replace BK135 := Aside0.mk (blk_below (g := gb135) zK hb); replace HB := Aside0.mk (below_step zG hb); clear hb hbox hg))
  (try simp only [Act.put, List.setIfInBounds_toArray, List.set_cons_zero, List.set_cons_succ])
  go_cut [12] (fun v12 wc => ∃ (kq : Nat) (x12_2 : Bool), v12 = .bool x12_2 ∧ Aside0 (value_compared.j0 kq x12_2 a0_0 a0_1 a0_2 a1_0 a1_1 a1_2 = some r) ∧ Aside0 (kq ≤ k) ∧ Aside0 (wc.heap[gb135]? = some (.cells #[.int .i64 a0_0, .int .i64 a0_1, .string a0_2] 83 (0, 0))) ∧ Aside0 (wc.heap[gb136]? = some (.cells #[.int .i64 a1_0, .int .i64 a1_1, .string a1_2] 83 (0, 0))) ∧ Aside0 (Below w.heap.size w wc))
  case first =>
    have H := HC3.out
    clear HC3
    by_cases c6 : a0_0 = 4
    · rw [if_pos c6] at H
      have c6b0 : (a0_0 == 4) = true := beq_iff_eq.mpr c6
      have c6b1 : (a0_0 != 4) = false := bne_eq_false_iff_eq.mpr c6
      clear c6
      (first | rw [c6b0] | (simp only [i64_w, i32_w]; rw [c6b0]) | skip)
      have H' := Aside0.mk H
      clear H
      have hnb7 := NB135_136.out
      have hnc7 := NB136_135.out
      obtain ⟨hcz8_0, hcz8_1, hcz8_2, hfz8_0, hfz8_1, hfz8_2⟩ := zd3 BK135.out (.int .i64 a0_0) (.int .i64 a0_1) (.string a0_2)
      obtain ⟨hcz9_0, hcz9_1, hcz9_2, hfz9_0, hfz9_1, hfz9_2⟩ := zd3 BK136.out (.int .i64 a1_0) (.int .i64 a1_1) (.string a1_2)
      go_wp2
      go_meet
      case rel => exact ⟨_, ((a1_0 == 4)), zR, H', ⟨by first | omega | exact Nat.le_refl _⟩, ⟨zK⟩, ⟨zK⟩, ⟨zG⟩⟩
    · rw [if_neg c6] at H
      have c6b0 : (a0_0 == 4) = false := beq_eq_false_iff_ne.mpr c6
      have c6b1 : (a0_0 != 4) = true := bne_iff_ne.mpr c6
      (first | rw [c6b0] | (simp only [i64_w, i32_w]; rw [c6b0]) | skip)
      have H' := Aside0.mk H
      clear H
      have hnb10 := NB135_136.out
      have hnc10 := NB136_135.out
      obtain ⟨hcz11_0, hcz11_1, hcz11_2, hfz11_0, hfz11_1, hfz11_2⟩ := zd3 BK135.out (.int .i64 a0_0) (.int .i64 a0_1) (.string a0_2)
      go_wp2
      go_meet
      case rel => exact ⟨_, (false), zR, H', ⟨by first | omega | exact Nat.le_refl _⟩, ⟨zK⟩, ⟨zK⟩, ⟨zG⟩⟩
  case rest =>
    clear HC3
    obtain ⟨kq, x12_2, rfl, HA, HJ2, BK135, BK136, HB⟩ := hcut
    cases kq with
    | zero => exact absurd HA.out (by simp [value_compared.j0])
    | succ kj2 =>
      have H := HA.out
      clear HA
      simp only [value_compared.j0] at H
      by_cases c12 : x12_2 = true
      · subst c12
        rw [if_pos rfl] at H
        obtain ⟨t137, A13, H⟩ := zO H
        obtain rfl := Option.some.inj H
        have hnb14 := NB135_136.out
        have hnc14 := NB136_135.out
        obtain ⟨hcz15_0, hcz15_1, hcz15_2, hfz15_0, hfz15_1, hfz15_2⟩ := zd3 BK135.out (.int .i64 a0_0) (.int .i64 a0_1) (.string a0_2)
        obtain ⟨hcz16_0, hcz16_1, hcz16_2, hfz16_0, hfz16_1, hfz16_2⟩ := zd3 BK136.out (.int .i64 a1_0) (.int .i64 a1_1) (.string a1_2)
        go_wp2_with (first | ((with_reducible refine gate_callee (f := 122) rfl ?_); refine goesL_ (some 17) rfl rfl Tryz.func122 (by kernel_rfl) rfl #[.string a0_2, .string a1_2] rfl zP ?_; (with_reducible refine (cmp_Compare_string.calls a0_2 a1_2 t137 _ A13.out).mono ?_); rintro e w' ⟨rfl, ⟨nd, rfl⟩⟩; refine ⟨_, rfl, ?_⟩))
        go_ret
        exact ⟨zE, zG⟩
      · replace c12 := Bool.eq_false_iff.mpr c12
        subst c12
        rw [if_neg (show ¬ (false = true) by decide)] at H
        obtain ⟨t138, A17, H⟩ := zO H
        obtain ⟨t139, A18, H⟩ := zO H
        obtain ⟨t140, A19, H⟩ := zO H
        obtain rfl := Option.some.inj H
        try go_wp2
        have n0_ := Aside0.mk (blk_drew BK135.out)
        have n1_ := Aside0.mk (blk_drew BK136.out)
        have n2_ := Aside0.mk (below_drew1 HB.out)
        clear BK135
        clear BK136
        clear HB
        have BK135 := n0_
        have BK136 := n1_
        have HB := n2_
        clear n0_ n1_ n2_
        refine start_ (n := 6) (S := fun w' => w'.cell? ⟨gb135, 0, none⟩ = some (.int .i64 a0_0) ∧ w'.cell? ⟨gb135, 1, none⟩ = some (.int .i64 a0_1) ∧ w'.cell? ⟨gb135, 2, none⟩ = some (.string a0_2) ∧ w'.cell? ⟨gb136, 0, none⟩ = some (.int .i64 a1_0) ∧ w'.cell? ⟨gb136, 1, none⟩ = some (.int .i64 a1_1) ∧ w'.cell? ⟨gb136, 2, none⟩ = some (.string a1_2)) (ds := []) #[false, false, false, false, false, false] (by kernel_rfl) rfl rfl ⟨(blk_cell BK135.out 0).trans rfl, (blk_cell BK135.out 1).trans rfl, (blk_cell BK135.out 2).trans rfl, (blk_cell BK136.out 0).trans rfl, (blk_cell BK136.out 1).trans rfl, (blk_cell BK136.out 2).trans rfl⟩ (fun hHeld => ?_)
        generalize wc.drew = w20 at BK135 BK136 HB hHeld ⊢
        refine take_ (i := 0) (N := some 18) (v := ?_) (a' := ?_) #[true, false, false, false, false, false] rfl rfl (by kernel_rfl) (fun _ _ _ h => h) (Or.inl ⟨by rfl, ?_⟩) hHeld ?_ ?_
        rotate_left
        · rintro w' ⟨s0, s1, s2, s3, s4, s5⟩
          go_simp
          with_reducible rfl
        rotate_left
        · simp only [Act.put, List.setIfInBounds_toArray, List.set_cons_zero, List.set_cons_succ, i64_w, i32_w]
          rfl
        refine take_ (i := 2) (N := some 20) (v := ?_) (a' := ?_) #[true, false, true, false, false, false] rfl rfl (by kernel_rfl) (fun _ _ _ h => h) (Or.inl ⟨by rfl, ?_⟩) hHeld ?_ ?_
        rotate_left
        · rintro w' ⟨s0, s1, s2, s3, s4, s5⟩
          go_simp
          with_reducible rfl
        rotate_left
        · simp only [Act.put, List.setIfInBounds_toArray, List.set_cons_zero, List.set_cons_succ, i64_w, i32_w]
          rfl
        refine one_ (i := 1) (N := some 19) #[true, true, true, false, false, false] rfl rfl (by kernel_rfl) (by decide) (fun K hK => ?_)
        refine goes_ Tryz.func101 (by kernel_rfl) rfl #[.agg #[.int .i64 a0_0, .int .i64 a0_1, .string a0_2]] (by rfl) rfl rfl zP ?_
        with_reducible refine (value_Num.calls (hL := ?sideL) a0_0 a0_1 a0_2 t138 _ A17.out).mono ?_
        (case sideL => exact Laid.below HL.out zG)
        rintro e w21 ⟨rfl, hb⟩
        refine ⟨_, rfl, ?_⟩
        have n0_ := Aside0.mk (blk_below (g := gb135) zK hb)
        have n1_ := Aside0.mk (blk_below (g := gb136) zK hb)
        have n2_ := Aside0.mk (below_step zG hb)
        clear BK135
        clear BK136
        clear HB
        have BK135 := n0_
        have BK136 := n1_
        have HB := n2_
        clear n0_ n1_ n2_
        (try clear hb)
        (try clear hb2)
        (try clear hk)
        (try clear hi)
        refine hK.out _ _ ⟨(blk_cell BK135.out 0).trans rfl, (blk_cell BK135.out 1).trans rfl, (blk_cell BK135.out 2).trans rfl, (blk_cell BK136.out 0).trans rfl, (blk_cell BK136.out 1).trans rfl, (blk_cell BK136.out 2).trans rfl⟩ (fun hHeld => ?_)
        clear hK K
        refine norm_ (a' := ?_) ?_ ?_
        rotate_left
        · show Act.put _ (some 19) _ = _
          simp only [Act.put, List.setIfInBounds_toArray, List.set_cons_zero, List.set_cons_succ, i64_w, i32_w]
          rfl
        refine one_ (i := 3) (N := some 21) #[true, true, true, true, false, false] rfl rfl (by kernel_rfl) (by decide) (fun K hK => ?_)
        refine goes_ Tryz.func101 (by kernel_rfl) rfl #[.agg #[.int .i64 a1_0, .int .i64 a1_1, .string a1_2]] (by rfl) rfl rfl zP ?_
        with_reducible refine (value_Num.calls (hL := ?sideL) a1_0 a1_1 a1_2 t139 _ A18.out).mono ?_
        (case sideL => exact Laid.below HL.out zG)
        rintro e w22 ⟨rfl, hb⟩
        refine ⟨_, rfl, ?_⟩
        have n0_ := Aside0.mk (blk_below (g := gb135) zK hb)
        have n1_ := Aside0.mk (blk_below (g := gb136) zK hb)
        have n2_ := Aside0.mk (below_step zG hb)
        clear BK135
        clear BK136
        clear HB
        have BK135 := n0_
        have BK136 := n1_
        have HB := n2_
        clear n0_ n1_ n2_
        (try clear hb)
        (try clear hb2)
        (try clear hk)
        (try clear hi)
        refine hK.out _ _ ⟨(blk_cell BK135.out 0).trans rfl, (blk_cell BK135.out 1).trans rfl, (blk_cell BK135.out 2).trans rfl, (blk_cell BK136.out 0).trans rfl, (blk_cell BK136.out 1).trans rfl, (blk_cell BK136.out 2).trans rfl⟩ (fun hHeld => ?_)
        clear hK K
        refine norm_ (a' := ?_) ?_ ?_
        rotate_left
        · show Act.put _ (some 21) _ = _
          simp only [Act.put, List.setIfInBounds_toArray, List.set_cons_zero, List.set_cons_succ, i64_w, i32_w]
          rfl
        refine one_ (i := 4) (N := some 22) #[true, true, true, true, true, false] rfl rfl (by kernel_rfl) (by decide) (fun K hK => ?_)
        refine goes_ Tryz.func123 (by kernel_rfl) rfl #[.int .i64 t138, .int .i64 t139] (by rfl) rfl rfl zP ?_
        with_reducible refine (cmp_Compare_int64.calls t138 t139 t140 _ A19.out).mono ?_
        rintro e w' ⟨rfl, ⟨nd, rfl⟩⟩
        refine ⟨_, rfl, ?_⟩
        refine hK.out _ _ ⟨(blk_cell BK135.out 0).trans rfl, (blk_cell BK135.out 1).trans rfl, (blk_cell BK135.out 2).trans rfl, (blk_cell BK136.out 0).trans rfl, (blk_cell BK136.out 1).trans rfl, (blk_cell BK136.out 2).trans rfl⟩ (fun hHeld => ?_)
        clear hK K
        refine norm_ (a' := ?_) ?_ ?_
        rotate_left
        · show Act.put _ (some 22) _ = _
          simp only [Act.put, List.setIfInBounds_toArray, List.set_cons_zero, List.set_cons_succ, i64_w, i32_w]
          rfl
        refine pure_ (i := 5) (N := some 4) (v := ?_) (a' := ?_) #[true, true, true, true, true, true] rfl rfl (by kernel_rfl) (fun _ _ _ h => h) (Or.inl ⟨by rfl, ?_⟩) ?_ ?_
        rotate_left
        · intro w'
          go_simp
          with_reducible rfl
        rotate_left
        · simp only [Act.put, List.setIfInBounds_toArray, List.set_cons_zero, List.set_cons_succ, i64_w, i32_w]
          rfl
        refine done_ (by kernel_rfl) ?_
        try go_wp2
        go_ret
        exact ⟨zE, zG⟩
/-! ### value_makers_4: function 104 -/
def value_makers_4.f (k : Nat) (a0_0 : Int) (a0_1 : Int) (a0_2 : ByteArray) (a1_0 : Int) (a1_1 : Int) (a1_2 : ByteArray) : Option (Int × Int × ByteArray) := (value_compared.f k a0_0 a0_1 a0_2 a1_0 a1_1 a1_2).bind fun t144 => ((value_truth.f k (decide (t144 < 0))).bind fun bt145 => (some (bt145.1, bt145.2.1, bt145.2.2)))
set_option maxHeartbeats 8000000 in
set_option maxRecDepth 100000 in
theorem value_makers_4.calls (k : Nat) (a0_0 : Int) (a0_1 : Int) (a0_2 : ByteArray) (a1_0 : Int) (a1_1 : Int) (a1_2 : ByteArray) (r1 : Int) (r2 : Int) (r3 : ByteArray) (w : World) (hL : Laid w) (h : value_makers_4.f k a0_0 a0_1 a0_2 a1_0 a1_1 a1_2 = some (r1, r2, r3)) :
    Calls Tryz.prog 104 #[.agg #[.int .i64 a0_0, .int .i64 a0_1, .string a0_2], .agg #[.int .i64 a1_0, .int .i64 a1_1, .string a1_2]] w fun e w' => e = .returned (.agg #[.int .i64 r1, .int .i64 r2, .string r3]) ∧ Below w.heap.size w w' := by
  have HL := Aside0.mk hL
  clear hL
  have hu83 := Tryz.underlying83
  have HB := Aside0.mk (Below.refl w.heap.size w)
  have H : ((value_compared.f k a0_0 a0_1 a0_2 a1_0 a1_1 a1_2).bind fun t144 => ((value_truth.f k (decide (t144 < 0))).bind fun bt145 => (some (bt145.1, bt145.2.1, bt145.2.2)))) = some (r1, r2, r3) := h
  clear h
  obtain ⟨t144, A3, H⟩ := zO H
  replace H := Option.bind_eq_some_iff.mp H
  obtain ⟨⟨t145, t146, t147⟩, A40, H⟩ := H
  replace H : (some (t145, t146, t147)) = some (r1, r2, r3) := H
  have A4 := Aside0.mk A40
  clear A40
  simp only [Option.some.injEq, Prod.mk.injEq] at H
  obtain ⟨rfl, rfl, rfl⟩ := H
  go_enter Tryz.func104, Tryz.ntmps104
  go_wp2_with (first | ((with_reducible refine gate_dst (N := 2) rfl ?_); refine zX (N := 2) (cs := #[.int .i64 a0_0, .int .i64 a0_1, .string a0_2]) (t := 83) (h := ?_); intro gb141 hg w5 hbox hb; have BK141 := Aside0.mk hbox; have GW141 := Aside0.mk ((zS : w.heap.size ≤ gb141)); have GE141 := Aside0.mk ((zS : w.heap.size ≤ gb141)); replace HB := Aside0.mk (below_step zB hb); clear hb hbox hg) | ((with_reducible refine gate_dst (N := 3) rfl ?_); refine zX (N := 3) (cs := #[.int .i64 a1_0, .int .i64 a1_1, .string a1_2]) (t := 83) (h := ?_); intro gb142 hg w6 hbox hb; have BK142 := Aside0.mk hbox; have GW142 := Aside0.mk ((zT : w.heap.size ≤ gb142)); have GE142 := Aside0.mk ((zT : w.heap.size ≤ gb142)); have NB141_142 := Aside0.mk ((zL : gb141 ≠ gb142)); have NB142_141 := Aside0.mk ((zM : gb142 ≠ gb141)); replace BK141 := Aside0.mk (blk_below (g := gb141) zK hb); replace HB := Aside0.mk (below_step zG hb); clear hb hbox hg) | ((with_reducible refine gate_dst (N := 4) rfl ?_); refine zX (N := 4) (cs := #[.int .i64 0, .int .i64 0, .string (⟨#[]⟩ : ByteArray)]) (t := 83) (h := ?_); intro gb143 hg w7 hbox hb; have BK143 := Aside0.mk hbox; have GW143 := Aside0.mk ((zT : w.heap.size ≤ gb143)); have GE143 := Aside0.mk ((zT : w.heap.size ≤ gb143)); have NB141_143 := Aside0.mk ((zL : gb141 ≠ gb143)); have NB143_141 := Aside0.mk ((zM : gb143 ≠ gb141)); have NB142_143 := Aside0.mk ((zL : gb142 ≠ gb143)); have NB143_142 := Aside0.mk ((zM : gb143 ≠ gb142)); replace BK141 := Aside0.mk (blk_below (g := gb141) zK hb); replace BK142 := Aside0.mk (blk_below (g := gb142) zK hb); replace HB := Aside0.mk (below_step zG hb); clear hb hbox hg; have hnb8 := NB141_142.out; have hnc8 := NB142_141.out; have hnb9 := NB141_143.out; have hnc9 := NB143_141.out; obtain ⟨hcz10_0, hcz10_1, hcz10_2, hfz10_0, hfz10_1, hfz10_2⟩ := zd3 BK141.out (.int .i64 a0_0) (.int .i64 a0_1) (.string a0_2); have hnb11 := NB142_143.out; have hnc11 := NB143_142.out; obtain ⟨hcz12_0, hcz12_1, hcz12_2, hfz12_0, hfz12_1, hfz12_2⟩ := zd3 BK142.out (.int .i64 a1_0) (.int .i64 a1_1) (.string a1_2)) | ((with_reducible refine gate_callee (f := 106) rfl ?_); refine goesL_ (some 7) rfl rfl Tryz.func106 (by kernel_rfl) rfl #[.agg #[.int .i64 a0_0, .int .i64 a0_1, .string a0_2], .agg #[.int .i64 a1_0, .int .i64 a1_1, .string a1_2]] rfl zP ?_; (with_reducible refine (value_compared.calls (hL := ?sideL) k a0_0 a0_1 a0_2 a1_0 a1_1 a1_2 t144 _ A3.out).mono ?_); (case sideL => exact Laid.below HL.out zG); rintro e w13 ⟨rfl, hb⟩; refine ⟨_, rfl, ?_⟩; replace BK141 := Aside0.mk (blk_below (g := gb141) zK hb); replace BK142 := Aside0.mk (blk_below (g := gb142) zK hb); replace BK143 := Aside0.mk (blk_below (g := gb143) zK hb); replace HB := Aside0.mk (below_step zG hb); (try clear hb)) | ((with_reducible refine gate_callee (f := 105) rfl ?_); refine goesL_ (some 9) rfl rfl Tryz.func105 (by kernel_rfl) rfl #[.bool (decide (t144 < 0))] rfl zP ?_; (with_reducible refine (value_truth.calls k (decide (t144 < 0)) t145 t146 t147 _ A4.out).mono ?_); rintro e w14 ⟨rfl, hb⟩; refine ⟨_, rfl, ?_⟩; replace BK141 := Aside0.mk (blk_below (g := gb141) zK hb); replace BK142 := Aside0.mk (blk_below (g := gb142) zK hb); replace BK143 := Aside0.mk (blk_below (g := gb143) zK hb); replace HB := Aside0.mk (below_step zG hb); (try clear hb); obtain ⟨hcz15_0, hcz15_1, hcz15_2, hfz15_0, hfz15_1, hfz15_2⟩ := zd3 BK143.out (.int .i64 0) (.int .i64 0) (.string (⟨#[]⟩ : ByteArray))))
  refine bodyPost_ret (results_cell_row rfl _ _ gb143 83 #[.int .i64 t145, .int .i64 t146, .string t147] (0, 0) _ rfl (by (with_reducible repeat (first | refine blk_drewN ?_ _ | refine blk_drew ?_ | refine blk_alloc ?_ _)); refine blk_put (cs := #[.int .i64 t145, .int .i64 t146, .string (⟨#[]⟩ : ByteArray)]) ?_ 2 _ rfl; (with_reducible repeat (first | refine blk_drewN ?_ _ | refine blk_drew ?_ | refine blk_alloc ?_ _)); refine blk_put (cs := #[.int .i64 t145, .int .i64 0, .string (⟨#[]⟩ : ByteArray)]) ?_ 1 _ rfl; (with_reducible repeat (first | refine blk_drewN ?_ _ | refine blk_drew ?_ | refine blk_alloc ?_ _)); refine blk_put (cs := #[.int .i64 0, .int .i64 0, .string (⟨#[]⟩ : ByteArray)]) ?_ 0 _ rfl; (with_reducible repeat (first | refine blk_drewN ?_ _ | refine blk_drew ?_ | refine blk_alloc ?_ _)); exact BK143.out) Tryz.underlying83 rfl (by kernel_rfl)) rfl ?_
  exact ⟨zE, zG⟩
/-! ### value_makers_5: function 107 -/
def value_makers_5.f (k : Nat) (a0_0 : Int) (a0_1 : Int) (a0_2 : ByteArray) (a1_0 : Int) (a1_1 : Int) (a1_2 : ByteArray) : Option (Int × Int × ByteArray) := (value_compared.f k a0_0 a0_1 a0_2 a1_0 a1_1 a1_2).bind fun t151 => ((value_truth.f k (decide (t151 ≤ 0))).bind fun bt152 => (some (bt152.1, bt152.2.1, bt152.2.2)))
set_option maxHeartbeats 8000000 in
set_option maxRecDepth 100000 in
theorem value_makers_5.calls (k : Nat) (a0_0 : Int) (a0_1 : Int) (a0_2 : ByteArray) (a1_0 : Int) (a1_1 : Int) (a1_2 : ByteArray) (r1 : Int) (r2 : Int) (r3 : ByteArray) (w : World) (hL : Laid w) (h : value_makers_5.f k a0_0 a0_1 a0_2 a1_0 a1_1 a1_2 = some (r1, r2, r3)) :
    Calls Tryz.prog 107 #[.agg #[.int .i64 a0_0, .int .i64 a0_1, .string a0_2], .agg #[.int .i64 a1_0, .int .i64 a1_1, .string a1_2]] w fun e w' => e = .returned (.agg #[.int .i64 r1, .int .i64 r2, .string r3]) ∧ Below w.heap.size w w' := by
  have HL := Aside0.mk hL
  clear hL
  have hu83 := Tryz.underlying83
  have HB := Aside0.mk (Below.refl w.heap.size w)
  have H : ((value_compared.f k a0_0 a0_1 a0_2 a1_0 a1_1 a1_2).bind fun t151 => ((value_truth.f k (decide (t151 ≤ 0))).bind fun bt152 => (some (bt152.1, bt152.2.1, bt152.2.2)))) = some (r1, r2, r3) := h
  clear h
  obtain ⟨t151, A3, H⟩ := zO H
  replace H := Option.bind_eq_some_iff.mp H
  obtain ⟨⟨t152, t153, t154⟩, A40, H⟩ := H
  replace H : (some (t152, t153, t154)) = some (r1, r2, r3) := H
  have A4 := Aside0.mk A40
  clear A40
  simp only [Option.some.injEq, Prod.mk.injEq] at H
  obtain ⟨rfl, rfl, rfl⟩ := H
  go_enter Tryz.func107, Tryz.ntmps107
  go_wp2_with (first | ((with_reducible refine gate_dst (N := 2) rfl ?_); refine zX (N := 2) (cs := #[.int .i64 a0_0, .int .i64 a0_1, .string a0_2]) (t := 83) (h := ?_); intro gb148 hg w5 hbox hb; have BK148 := Aside0.mk hbox; have GW148 := Aside0.mk ((zS : w.heap.size ≤ gb148)); have GE148 := Aside0.mk ((zS : w.heap.size ≤ gb148)); replace HB := Aside0.mk (below_step zB hb); clear hb hbox hg) | ((with_reducible refine gate_dst (N := 3) rfl ?_); refine zX (N := 3) (cs := #[.int .i64 a1_0, .int .i64 a1_1, .string a1_2]) (t := 83) (h := ?_); intro gb149 hg w6 hbox hb; have BK149 := Aside0.mk hbox; have GW149 := Aside0.mk ((zT : w.heap.size ≤ gb149)); have GE149 := Aside0.mk ((zT : w.heap.size ≤ gb149)); have NB148_149 := Aside0.mk ((zL : gb148 ≠ gb149)); have NB149_148 := Aside0.mk ((zM : gb149 ≠ gb148)); replace BK148 := Aside0.mk (blk_below (g := gb148) zK hb); replace HB := Aside0.mk (below_step zG hb); clear hb hbox hg) | ((with_reducible refine gate_dst (N := 4) rfl ?_); refine zX (N := 4) (cs := #[.int .i64 0, .int .i64 0, .string (⟨#[]⟩ : ByteArray)]) (t := 83) (h := ?_); intro gb150 hg w7 hbox hb; have BK150 := Aside0.mk hbox; have GW150 := Aside0.mk ((zT : w.heap.size ≤ gb150)); have GE150 := Aside0.mk ((zT : w.heap.size ≤ gb150)); have NB148_150 := Aside0.mk ((zL : gb148 ≠ gb150)); have NB150_148 := Aside0.mk ((zM : gb150 ≠ gb148)); have NB149_150 := Aside0.mk ((zL : gb149 ≠ gb150)); have NB150_149 := Aside0.mk ((zM : gb150 ≠ gb149)); replace BK148 := Aside0.mk (blk_below (g := gb148) zK hb); replace BK149 := Aside0.mk (blk_below (g := gb149) zK hb); replace HB := Aside0.mk (below_step zG hb); clear hb hbox hg; have hnb8 := NB148_149.out; have hnc8 := NB149_148.out; have hnb9 := NB148_150.out; have hnc9 := NB150_148.out; obtain ⟨hcz10_0, hcz10_1, hcz10_2, hfz10_0, hfz10_1, hfz10_2⟩ := zd3 BK148.out (.int .i64 a0_0) (.int .i64 a0_1) (.string a0_2); have hnb11 := NB149_150.out; have hnc11 := NB150_149.out; obtain ⟨hcz12_0, hcz12_1, hcz12_2, hfz12_0, hfz12_1, hfz12_2⟩ := zd3 BK149.out (.int .i64 a1_0) (.int .i64 a1_1) (.string a1_2)) | ((with_reducible refine gate_callee (f := 106) rfl ?_); refine goesL_ (some 7) rfl rfl Tryz.func106 (by kernel_rfl) rfl #[.agg #[.int .i64 a0_0, .int .i64 a0_1, .string a0_2], .agg #[.int .i64 a1_0, .int .i64 a1_1, .string a1_2]] rfl zP ?_; (with_reducible refine (value_compared.calls (hL := ?sideL) k a0_0 a0_1 a0_2 a1_0 a1_1 a1_2 t151 _ A3.out).mono ?_); (case sideL => exact Laid.below HL.out zG); rintro e w13 ⟨rfl, hb⟩; refine ⟨_, rfl, ?_⟩; replace BK148 := Aside0.mk (blk_below (g := gb148) zK hb); replace BK149 := Aside0.mk (blk_below (g := gb149) zK hb); replace BK150 := Aside0.mk (blk_below (g := gb150) zK hb); replace HB := Aside0.mk (below_step zG hb); (try clear hb)) | ((with_reducible refine gate_callee (f := 105) rfl ?_); refine goesL_ (some 9) rfl rfl Tryz.func105 (by kernel_rfl) rfl #[.bool (decide (t151 ≤ 0))] rfl zP ?_; (with_reducible refine (value_truth.calls k (decide (t151 ≤ 0)) t152 t153 t154 _ A4.out).mono ?_); rintro e w14 ⟨rfl, hb⟩; refine ⟨_, rfl, ?_⟩; replace BK148 := Aside0.mk (blk_below (g := gb148) zK hb); replace BK149 := Aside0.mk (blk_below (g := gb149) zK hb); replace BK150 := Aside0.mk (blk_below (g := gb150) zK hb); replace HB := Aside0.mk (below_step zG hb); (try clear hb); obtain ⟨hcz15_0, hcz15_1, hcz15_2, hfz15_0, hfz15_1, hfz15_2⟩ := zd3 BK150.out (.int .i64 0) (.int .i64 0) (.string (⟨#[]⟩ : ByteArray))))
  refine bodyPost_ret (results_cell_row rfl _ _ gb150 83 #[.int .i64 t152, .int .i64 t153, .string t154] (0, 0) _ rfl (by (with_reducible repeat (first | refine blk_drewN ?_ _ | refine blk_drew ?_ | refine blk_alloc ?_ _)); refine blk_put (cs := #[.int .i64 t152, .int .i64 t153, .string (⟨#[]⟩ : ByteArray)]) ?_ 2 _ rfl; (with_reducible repeat (first | refine blk_drewN ?_ _ | refine blk_drew ?_ | refine blk_alloc ?_ _)); refine blk_put (cs := #[.int .i64 t152, .int .i64 0, .string (⟨#[]⟩ : ByteArray)]) ?_ 1 _ rfl; (with_reducible repeat (first | refine blk_drewN ?_ _ | refine blk_drew ?_ | refine blk_alloc ?_ _)); refine blk_put (cs := #[.int .i64 0, .int .i64 0, .string (⟨#[]⟩ : ByteArray)]) ?_ 0 _ rfl; (with_reducible repeat (first | refine blk_drewN ?_ _ | refine blk_drew ?_ | refine blk_alloc ?_ _)); exact BK150.out) Tryz.underlying83 rfl (by kernel_rfl)) rfl ?_
  exact ⟨zE, zG⟩
/-! ### value_makers_6: function 108 -/
def value_makers_6.f (k : Nat) (a0_0 : Int) (a0_1 : Int) (a0_2 : ByteArray) (a1_0 : Int) (a1_1 : Int) (a1_2 : ByteArray) : Option (Int × Int × ByteArray) := (value_truth.f k (a0_0 == a1_0 && (a0_1 == a1_1 && (a0_2.toList == a1_2.toList)))).bind fun bt158 => (some (bt158.1, bt158.2.1, bt158.2.2))
set_option maxHeartbeats 8000000 in
set_option maxRecDepth 100000 in
theorem value_makers_6.calls (k : Nat) (a0_0 : Int) (a0_1 : Int) (a0_2 : ByteArray) (a1_0 : Int) (a1_1 : Int) (a1_2 : ByteArray) (r1 : Int) (r2 : Int) (r3 : ByteArray) (w : World) (h : value_makers_6.f k a0_0 a0_1 a0_2 a1_0 a1_1 a1_2 = some (r1, r2, r3)) :
    Calls Tryz.prog 108 #[.agg #[.int .i64 a0_0, .int .i64 a0_1, .string a0_2], .agg #[.int .i64 a1_0, .int .i64 a1_1, .string a1_2]] w fun e w' => e = .returned (.agg #[.int .i64 r1, .int .i64 r2, .string r3]) ∧ Below w.heap.size w w' := by
  have hu83 := Tryz.underlying83
  have HB := Aside0.mk (Below.refl w.heap.size w)
  have H : ((value_truth.f k (a0_0 == a1_0 && (a0_1 == a1_1 && (a0_2.toList == a1_2.toList)))).bind fun bt158 => (some (bt158.1, bt158.2.1, bt158.2.2))) = some (r1, r2, r3) := h
  clear h
  replace H := Option.bind_eq_some_iff.mp H
  obtain ⟨⟨t158, t159, t160⟩, A30, H⟩ := H
  replace H : (some (t158, t159, t160)) = some (r1, r2, r3) := H
  have A3 := Aside0.mk A30
  clear A30
  simp only [Option.some.injEq, Prod.mk.injEq] at H
  obtain ⟨rfl, rfl, rfl⟩ := H
  go_enter Tryz.func108, Tryz.ntmps108
  go_wp2_with (first | ((with_reducible refine gate_dst (N := 2) rfl ?_); refine zX (N := 2) (cs := #[.int .i64 a0_0, .int .i64 a0_1, .string a0_2]) (t := 83) (h := ?_); intro gb155 hg w4 hbox hb; have BK155 := Aside0.mk hbox; have GW155 := Aside0.mk ((zS : w.heap.size ≤ gb155)); have GE155 := Aside0.mk ((zS : w.heap.size ≤ gb155)); replace HB := Aside0.mk (below_step zB hb); clear hb hbox hg) | ((with_reducible refine gate_dst (N := 3) rfl ?_); refine zX (N := 3) (cs := #[.int .i64 a1_0, .int .i64 a1_1, .string a1_2]) (t := 83) (h := ?_); intro gb156 hg w5 hbox hb; have BK156 := Aside0.mk hbox; have GW156 := Aside0.mk ((zT : w.heap.size ≤ gb156)); have GE156 := Aside0.mk ((zT : w.heap.size ≤ gb156)); have NB155_156 := Aside0.mk ((zL : gb155 ≠ gb156)); have NB156_155 := Aside0.mk ((zM : gb156 ≠ gb155)); replace BK155 := Aside0.mk (blk_below (g := gb155) zK hb); replace HB := Aside0.mk (below_step zG hb); clear hb hbox hg) | ((with_reducible refine gate_dst (N := 4) rfl ?_); refine zX (N := 4) (cs := #[.int .i64 0, .int .i64 0, .string (⟨#[]⟩ : ByteArray)]) (t := 83) (h := ?_); intro gb157 hg w6 hbox hb; have BK157 := Aside0.mk hbox; have GW157 := Aside0.mk ((zT : w.heap.size ≤ gb157)); have GE157 := Aside0.mk ((zT : w.heap.size ≤ gb157)); have NB155_157 := Aside0.mk ((zL : gb155 ≠ gb157)); have NB157_155 := Aside0.mk ((zM : gb157 ≠ gb155)); have NB156_157 := Aside0.mk ((zL : gb156 ≠ gb157)); have NB157_156 := Aside0.mk ((zM : gb157 ≠ gb156)); replace BK155 := Aside0.mk (blk_below (g := gb155) zK hb); replace BK156 := Aside0.mk (blk_below (g := gb156) zK hb); replace HB := Aside0.mk (below_step zG hb); clear hb hbox hg; have hnb7 := NB155_156.out; have hnc7 := NB156_155.out; have hnb8 := NB155_157.out; have hnc8 := NB157_155.out; obtain ⟨hcz9_0, hcz9_1, hcz9_2, hfz9_0, hfz9_1, hfz9_2⟩ := zd3 BK155.out (.int .i64 a0_0) (.int .i64 a0_1) (.string a0_2); have hnb10 := NB156_157.out; have hnc10 := NB157_156.out; obtain ⟨hcz11_0, hcz11_1, hcz11_2, hfz11_0, hfz11_1, hfz11_2⟩ := zd3 BK156.out (.int .i64 a1_0) (.int .i64 a1_1) (.string a1_2)) | ((with_reducible refine gate_callee (f := 105) rfl ?_); refine goesL_ (some 8) rfl rfl Tryz.func105 (by kernel_rfl) rfl #[.bool (a0_0 == a1_0 && (a0_1 == a1_1 && (a0_2.toList == a1_2.toList)))] rfl zP ?_; (with_reducible refine (value_truth.calls k (a0_0 == a1_0 && (a0_1 == a1_1 && (a0_2.toList == a1_2.toList))) t158 t159 t160 _ A3.out).mono ?_); rintro e w12 ⟨rfl, hb⟩; refine ⟨_, rfl, ?_⟩; replace BK155 := Aside0.mk (blk_below (g := gb155) zK hb); replace BK156 := Aside0.mk (blk_below (g := gb156) zK hb); replace BK157 := Aside0.mk (blk_below (g := gb157) zK hb); replace HB := Aside0.mk (below_step zG hb); (try clear hb); obtain ⟨hcz13_0, hcz13_1, hcz13_2, hfz13_0, hfz13_1, hfz13_2⟩ := zd3 BK157.out (.int .i64 0) (.int .i64 0) (.string (⟨#[]⟩ : ByteArray))))
  refine bodyPost_ret (results_cell_row rfl _ _ gb157 83 #[.int .i64 t158, .int .i64 t159, .string t160] (0, 0) _ rfl (by (with_reducible repeat (first | refine blk_drewN ?_ _ | refine blk_drew ?_ | refine blk_alloc ?_ _)); refine blk_put (cs := #[.int .i64 t158, .int .i64 t159, .string (⟨#[]⟩ : ByteArray)]) ?_ 2 _ rfl; (with_reducible repeat (first | refine blk_drewN ?_ _ | refine blk_drew ?_ | refine blk_alloc ?_ _)); refine blk_put (cs := #[.int .i64 t158, .int .i64 0, .string (⟨#[]⟩ : ByteArray)]) ?_ 1 _ rfl; (with_reducible repeat (first | refine blk_drewN ?_ _ | refine blk_drew ?_ | refine blk_alloc ?_ _)); refine blk_put (cs := #[.int .i64 0, .int .i64 0, .string (⟨#[]⟩ : ByteArray)]) ?_ 0 _ rfl; (with_reducible repeat (first | refine blk_drewN ?_ _ | refine blk_drew ?_ | refine blk_alloc ?_ _)); exact BK157.out) Tryz.underlying83 rfl (by kernel_rfl)) rfl ?_
  exact ⟨zE, zG⟩
end Go.Proofs.YtjlhhjfmekjbhaaGreatDoor.Pr

namespace Go.Proofs.YtjlhhjfmekjbhaaGreatDoor.Pr
open Go.RowKit Go.Proofs.YtjlhhjfmekjbhaaGreatDoorW.PrintWords Go.Proofs.YtjlhhjfmekjbhaaGreatDoorW.PrintLast Go.Proofs.YtjlhhjfmekjbhaaGreatDoorW.PrintMore
set_option linter.unusedVariables false
set_option linter.unusedSimpArgs false
attribute [local go_sem high] eqA83
/-! ### value_makers_7: function 109 -/
def value_makers_7.f (k : Nat) (a0_0 : Int) (a0_1 : Int) (a0_2 : ByteArray) (a1_0 : Int) (a1_1 : Int) (a1_2 : ByteArray) : Option (Int × Int × ByteArray) := (value_truth.f k (!(a0_0 == a1_0) || (!(a0_1 == a1_1) || (!(a0_2.toList == a1_2.toList))))).bind fun bt164 => (some (bt164.1, bt164.2.1, bt164.2.2))
set_option maxHeartbeats 8000000 in
set_option maxRecDepth 100000 in
theorem value_makers_7.calls (k : Nat) (a0_0 : Int) (a0_1 : Int) (a0_2 : ByteArray) (a1_0 : Int) (a1_1 : Int) (a1_2 : ByteArray) (r1 : Int) (r2 : Int) (r3 : ByteArray) (w : World) (h : value_makers_7.f k a0_0 a0_1 a0_2 a1_0 a1_1 a1_2 = some (r1, r2, r3)) :
    Calls Tryz.prog 109 #[.agg #[.int .i64 a0_0, .int .i64 a0_1, .string a0_2], .agg #[.int .i64 a1_0, .int .i64 a1_1, .string a1_2]] w fun e w' => e = .returned (.agg #[.int .i64 r1, .int .i64 r2, .string r3]) ∧ Below w.heap.size w w' := by
  have hu83 := Tryz.underlying83
  have HB := Aside0.mk (Below.refl w.heap.size w)
  have H : ((value_truth.f k (!(a0_0 == a1_0) || (!(a0_1 == a1_1) || (!(a0_2.toList == a1_2.toList))))).bind fun bt164 => (some (bt164.1, bt164.2.1, bt164.2.2))) = some (r1, r2, r3) := h
  clear h
  replace H := Option.bind_eq_some_iff.mp H
  obtain ⟨⟨t164, t165, t166⟩, A30, H⟩ := H
  replace H : (some (t164, t165, t166)) = some (r1, r2, r3) := H
  have A3 := Aside0.mk A30
  clear A30
  simp only [Option.some.injEq, Prod.mk.injEq] at H
  obtain ⟨rfl, rfl, rfl⟩ := H
  go_enter Tryz.func109, Tryz.ntmps109
  go_wp2_with (first | ((with_reducible refine gate_dst (N := 2) rfl ?_); refine zX (N := 2) (cs := #[.int .i64 a0_0, .int .i64 a0_1, .string a0_2]) (t := 83) (h := ?_); intro gb161 hg w4 hbox hb; have BK161 := Aside0.mk hbox; have GW161 := Aside0.mk ((zS : w.heap.size ≤ gb161)); have GE161 := Aside0.mk ((zS : w.heap.size ≤ gb161)); replace HB := Aside0.mk (below_step zB hb); clear hb hbox hg) | ((with_reducible refine gate_dst (N := 3) rfl ?_); refine zX (N := 3) (cs := #[.int .i64 a1_0, .int .i64 a1_1, .string a1_2]) (t := 83) (h := ?_); intro gb162 hg w5 hbox hb; have BK162 := Aside0.mk hbox; have GW162 := Aside0.mk ((zT : w.heap.size ≤ gb162)); have GE162 := Aside0.mk ((zT : w.heap.size ≤ gb162)); have NB161_162 := Aside0.mk ((zL : gb161 ≠ gb162)); have NB162_161 := Aside0.mk ((zM : gb162 ≠ gb161)); replace BK161 := Aside0.mk (blk_below (g := gb161) zK hb); replace HB := Aside0.mk (below_step zG hb); clear hb hbox hg) | ((with_reducible refine gate_dst (N := 4) rfl ?_); refine zX (N := 4) (cs := #[.int .i64 0, .int .i64 0, .string (⟨#[]⟩ : ByteArray)]) (t := 83) (h := ?_); intro gb163 hg w6 hbox hb; have BK163 := Aside0.mk hbox; have GW163 := Aside0.mk ((zT : w.heap.size ≤ gb163)); have GE163 := Aside0.mk ((zT : w.heap.size ≤ gb163)); have NB161_163 := Aside0.mk ((zL : gb161 ≠ gb163)); have NB163_161 := Aside0.mk ((zM : gb163 ≠ gb161)); have NB162_163 := Aside0.mk ((zL : gb162 ≠ gb163)); have NB163_162 := Aside0.mk ((zM : gb163 ≠ gb162)); replace BK161 := Aside0.mk (blk_below (g := gb161) zK hb); replace BK162 := Aside0.mk (blk_below (g := gb162) zK hb); replace HB := Aside0.mk (below_step zG hb); clear hb hbox hg; have hnb7 := NB161_162.out; have hnc7 := NB162_161.out; have hnb8 := NB161_163.out; have hnc8 := NB163_161.out; obtain ⟨hcz9_0, hcz9_1, hcz9_2, hfz9_0, hfz9_1, hfz9_2⟩ := zd3 BK161.out (.int .i64 a0_0) (.int .i64 a0_1) (.string a0_2); have hnb10 := NB162_163.out; have hnc10 := NB163_162.out; obtain ⟨hcz11_0, hcz11_1, hcz11_2, hfz11_0, hfz11_1, hfz11_2⟩ := zd3 BK162.out (.int .i64 a1_0) (.int .i64 a1_1) (.string a1_2)) | ((with_reducible refine gate_callee (f := 105) rfl ?_); refine goesL_ (some 8) rfl rfl Tryz.func105 (by kernel_rfl) rfl #[.bool (!(a0_0 == a1_0) || (!(a0_1 == a1_1) || (!(a0_2.toList == a1_2.toList))))] rfl zP ?_; (with_reducible refine (value_truth.calls k (!(a0_0 == a1_0) || (!(a0_1 == a1_1) || (!(a0_2.toList == a1_2.toList)))) t164 t165 t166 _ A3.out).mono ?_); rintro e w12 ⟨rfl, hb⟩; refine ⟨_, rfl, ?_⟩; replace BK161 := Aside0.mk (blk_below (g := gb161) zK hb); replace BK162 := Aside0.mk (blk_below (g := gb162) zK hb); replace BK163 := Aside0.mk (blk_below (g := gb163) zK hb); replace HB := Aside0.mk (below_step zG hb); (try clear hb); obtain ⟨hcz13_0, hcz13_1, hcz13_2, hfz13_0, hfz13_1, hfz13_2⟩ := zd3 BK163.out (.int .i64 0) (.int .i64 0) (.string (⟨#[]⟩ : ByteArray))))
  refine bodyPost_ret (results_cell_row rfl _ _ gb163 83 #[.int .i64 t164, .int .i64 t165, .string t166] (0, 0) _ rfl (by (with_reducible repeat (first | refine blk_drewN ?_ _ | refine blk_drew ?_ | refine blk_alloc ?_ _)); refine blk_put (cs := #[.int .i64 t164, .int .i64 t165, .string (⟨#[]⟩ : ByteArray)]) ?_ 2 _ rfl; (with_reducible repeat (first | refine blk_drewN ?_ _ | refine blk_drew ?_ | refine blk_alloc ?_ _)); refine blk_put (cs := #[.int .i64 t164, .int .i64 0, .string (⟨#[]⟩ : ByteArray)]) ?_ 1 _ rfl; (with_reducible repeat (first | refine blk_drewN ?_ _ | refine blk_drew ?_ | refine blk_alloc ?_ _)); refine blk_put (cs := #[.int .i64 0, .int .i64 0, .string (⟨#[]⟩ : ByteArray)]) ?_ 0 _ rfl; (with_reducible repeat (first | refine blk_drewN ?_ _ | refine blk_drew ?_ | refine blk_alloc ?_ _)); exact BK163.out) Tryz.underlying83 rfl (by kernel_rfl)) rfl ?_
  exact ⟨zE, zG⟩
end Go.Proofs.YtjlhhjfmekjbhaaGreatDoor.Pr

