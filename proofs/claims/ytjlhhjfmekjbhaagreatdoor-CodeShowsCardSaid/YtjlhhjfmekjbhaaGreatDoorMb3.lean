/- Lemmas for the claims of this seat (own texts, packed; what the claims do not use is left out). No condition. -/
import Derived.Test.YtjlhhjfmekjbhaaGreatDoorMb0
import Derived.Test.YtjlhhjfmekjbhaaGreatDoorMb1
import Derived.Test.YtjlhhjfmekjbhaaGreatDoorMb2
namespace Go.Proofs.YtjlhhjfmekjbhaaGreatDoor.Pr
open Go.RowKit Go.Proofs.YtjlhhjfmekjbhaaGreatDoor.Va Go.Proofs.YtjlhhjfmekjbhaaGreatDoorW.PrintWords Go.Proofs.YtjlhhjfmekjbhaaGreatDoorW.PrintLast Go.Proofs.YtjlhhjfmekjbhaaGreatDoorW.PrintMore
set_option linter.unusedVariables false
set_option linter.unusedSimpArgs false
attribute [local go_sem high] eqA83
/-! ### value_compared: function 106 -/
def value_compared.j0 : Nat → Bool → Int → Int → ByteArray → Int → Int → ByteArray → Option (Int)
  | 0, _, _, _, _, _, _, _ => none
  | k + 1, x12, x136000, x136001, x136002, x137000, x137001, x137002 => if x12 = true then ((cmp_Compare_string.f x136002 x137002).bind fun t137 => (some t137)) else ((value_Num.f x136000 x136001 x136002).bind fun t138 => ((value_Num.f x137000 x137001 x137002).bind fun t139 => ((cmp_Compare_int64.f t138 t139).bind fun t140 => (some t140))))
def value_compared.f (k : Nat) (a0_0 : Int) (a0_1 : Int) (a0_2 : ByteArray) (a1_0 : Int) (a1_1 : Int) (a1_2 : ByteArray) : Option (Int) := if a0_0 = 4 then (value_compared.j0 k (a1_0 == 4) a0_0 a0_1 a0_2 a1_0 a1_1 a1_2) else (value_compared.j0 k false a0_0 a0_1 a0_2 a1_0 a1_1 a1_2)
set_option maxHeartbeats 8000000 in
set_option maxRecDepth 100000 in
theorem value_compared.calls (k : Nat) (a0_0 : Int) (a0_1 : Int) (a0_2 : ByteArray) (a1_0 : Int) (a1_1 : Int) (a1_2 : ByteArray) (r : Int) (w : World) (hL : Laid w) (h : value_compared.f k a0_0 a0_1 a0_2 a1_0 a1_1 a1_2 = some r) :
    Calls Tryz.prog 106 #[.agg #[.int .i64 a0_0, .int .i64 a0_1, .string a0_2], .agg #[.int .i64 a1_0, .int .i64 a1_1, .string a1_2]] w fun e w' => e = .returned (.int .i64 r) ∧ Below w.heap.size w w' := by
  have HL := Aside0.mk hL
  clear hL
  have hu83 := Tryz.underlying83
  have HB := Aside0.mk (Below.refl w.heap.size w)
  have H : (if a0_0 = 4 then (value_compared.j0 k (a1_0 == 4) a0_0 a0_1 a0_2 a1_0 a1_1 a1_2) else (value_compared.j0 k false a0_0 a0_1 a0_2 a1_0 a1_1 a1_2)) = some r := h
  clear h
  have HC3 := Aside0.mk H
  clear H
  go_enter Tryz.func106, Tryz.ntmps106
  go_upto_region 1 with (first | ((with_reducible refine gate_dst (N := 2) rfl ?_); refine zX (N := 2) (cs := #[.int .i64 a0_0, .int .i64 a0_1, .string a0_2]) (t := 83) (h := ?_); intro gb135 hg w4 hbox hb; have BK135 := Aside0.mk hbox; have GW135 := Aside0.mk ((zS : w.heap.size ≤ gb135)); have GE135 := Aside0.mk ((zS : w.heap.size ≤ gb135)); replace HB := Aside0.mk (below_step zB hb); clear hb hbox hg) | ((with_reducible refine gate_dst (N := 3) rfl ?_); refine zX (N := 3) (cs := #[.int .i64 a1_0, .int .i64 a1_1, .string a1_2]) (t := 83) (h := ?_); intro gb136 hg w5 hbox hb; have BK136 := Aside0.mk hbox; have GW136 := Aside0.mk ((zT : w.heap.size ≤ gb136)); have GE136 := Aside0.mk ((zT : w.heap.size ≤ gb136)); have NB135_136 := Aside0.mk ((zL : gb135 ≠ gb136)); have NB136_135 := Aside0.mk ((zM : gb136 ≠ gb135)); replace BK135 := Aside0.mk (blk_below (g := gb135) zK hb); replace HB := Aside0.mk (below_step zG hb); clear hb hbox hg))
  (try simp only [Act.put, List.setIfInBounds_toArray, List.set_cons_zero, List.set_cons_succ])
  go_cut [12] (fun v12 wc => ∃ (kq : Nat) (x12_2 : Bool), v12 = .bool x12_2 ∧ Aside0 (value_compared.j0 kq x12_2 a0_0 a0_1 a0_2 a1_0 a1_1 a1_2 = some r) ∧ Aside0 (kq ≤ k) ∧ Aside0 (wc.heap[gb135]? = some (.cells #[.int .i64 a0_0, .int .i64 a0_1, .string a0_2] 83 (0, 0))) ∧ Aside0 (wc.heap[gb136]? = some (.cells #[.int .i64 a1_0, .int .i64 a1_1, .string a1_2] 83 (0, 0))) ∧ Aside0 (Below w.heap.size w wc))
  case first =>
    have H := HC3.out
    clear HC3
    by_cases c6 : a0_0 = 4
    · rw [if_pos c6] at H
      have c6b0 : (a0_0 == 4) = true := beq_iff_eq.mpr c6
      have c6b1 : (a0_0 != 4) = false := bne_eq_false_iff_eq.mpr c6
      clear c6
      (first | rw [c6b0] | (simp only [i64_w, i32_w]; rw [c6b0]) | skip)
      have H' := Aside0.mk H
      clear H
      have hnb7 := NB135_136.out
      have hnc7 := NB136_135.out
      obtain ⟨hcz8_0, hcz8_1, hcz8_2, hfz8_0, hfz8_1, hfz8_2⟩ := zd3 BK135.out (.int .i64 a0_0) (.int .i64 a0_1) (.string a0_2)
      obtain ⟨hcz9_0, hcz9_1, hcz9_2, hfz9_0, hfz9_1, hfz9_2⟩ := zd3 BK136.out (.int .i64 a1_0) (.int .i64 a1_1) (.string a1_2)
      go_wp2
      go_meet
      case rel => exact ⟨_, ((a1_0 == 4)), zR, H', ⟨by first | omega | exact Nat.le_refl _⟩, ⟨zK⟩, ⟨zK⟩, ⟨zG⟩⟩
    · rw [if_neg c6] at H
      have c6b0 : (a0_0 == 4) = false := beq_eq_false_iff_ne.mpr c6
      have c6b1 : (a0_0 != 4) = true := bne_iff_ne.mpr c6
      (first | rw [c6b0] | (simp only [i64_w, i32_w]; rw [c6b0]) | skip)
      have H' := Aside0.mk H
      clear H
      have hnb10 := NB135_136.out
      have hnc10 := NB136_135.out
      obtain ⟨hcz11_0, hcz11_1, hcz11_2, hfz11_0, hfz11_1, hfz11_2⟩ := zd3 BK135.out (.int .i64 a0_0) (.int .i64 a0_1) (.string a0_2)
      go_wp2
      go_meet
      case rel => exact ⟨_, (false), zR, H', ⟨by first | omega | exact Nat.le_refl _⟩, ⟨zK⟩, ⟨zK⟩, ⟨zG⟩⟩
  case rest =>
    clear HC3
    obtain ⟨kq, x12_2, rfl, HA, HJ2, BK135, BK136, HB⟩ := hcut
    cases kq with
    | zero => exact absurd HA.out (by simp [value_compared.j0])
    | succ kj2 =>
      have H := HA.out
      clear HA
      simp only [value_compared.j0] at H
      by_cases c12 : x12_2 = true
      · subst c12
        rw [if_pos rfl] at H
        obtain ⟨t137, A13, H⟩ := zO H
        obtain rfl := Option.some.inj H
        have hnb14 := NB135_136.out
        have hnc14 := NB136_135.out
        obtain ⟨hcz15_0, hcz15_1, hcz15_2, hfz15_0, hfz15_1, hfz15_2⟩ := zd3 BK135.out (.int .i64 a0_0) (.int .i64 a0_1) (.string a0_2)
        obtain ⟨hcz16_0, hcz16_1, hcz16_2, hfz16_0, hfz16_1, hfz16_2⟩ := zd3 BK136.out (.int .i64 a1_0) (.int .i64 a1_1) (.string a1_2)
        go_wp2_with (first | ((with_reducible refine gate_callee (f := 122) rfl ?_); refine goesL_ (some 17) rfl rfl Tryz.func122 (by kernel_rfl) rfl #[.string a0_2, .string a1_2] rfl zP ?_; (with_reducible refine (cmp_Compare_string.calls a0_2 a1_2 t137 _ A13.out).mono ?_); rintro e w' ⟨rfl, ⟨nd, rfl⟩⟩; refine ⟨_, rfl, ?_⟩))
        go_ret
        exact ⟨zE, zG⟩
      · replace c12 := Bool.eq_false_iff.mpr c12
        subst c12
        rw [if_neg (show ¬ (false = true) by decide)] at H
        obtain ⟨t138, A17, H⟩ := zO H
        obtain ⟨t139, A18, H⟩ := zO H
        obtain ⟨t140, A19, H⟩ := zO H
        obtain rfl := Option.some.inj H
        try go_wp2
        have n0_ := Aside0.mk (blk_drew BK135.out)
        have n1_ := Aside0.mk (blk_drew BK136.out)
        have n2_ := Aside0.mk (below_drew1 HB.out)
        clear BK135
        clear BK136
        clear HB
        have BK135 := n0_
        have BK136 := n1_
        have HB := n2_
        clear n0_ n1_ n2_
        refine start_ (n := 6) (S := fun w' => w'.cell? ⟨gb135, 0, none⟩ = some (.int .i64 a0_0) ∧ w'.cell? ⟨gb135, 1, none⟩ = some (.int .i64 a0_1) ∧ w'.cell? ⟨gb135, 2, none⟩ = some (.string a0_2) ∧ w'.cell? ⟨gb136, 0, none⟩ = some (.int .i64 a1_0) ∧ w'.cell? ⟨gb136, 1, none⟩ = some (.int .i64 a1_1) ∧ w'.cell? ⟨gb136, 2, none⟩ = some (.string a1_2)) (ds := []) #[false, false, false, false, false, false] (by kernel_rfl) rfl rfl ⟨(blk_cell BK135.out 0).trans rfl, (blk_cell BK135.out 1).trans rfl, (blk_cell BK135.out 2).trans rfl, (blk_cell BK136.out 0).trans rfl, (blk_cell BK136.out 1).trans rfl, (blk_cell BK136.out 2).trans rfl⟩ (fun hHeld => ?_)
        generalize wc.drew = w20 at BK135 BK136 HB hHeld ⊢
        refine take_ (i := 0) (N := some 18) (v := ?_) (a' := ?_) #[true, false, false, false, false, false] rfl rfl (by kernel_rfl) (fun _ _ _ h => h) (Or.inl ⟨by rfl, ?_⟩) hHeld ?_ ?_
        rotate_left
        · rintro w' ⟨s0, s1, s2, s3, s4, s5⟩
          go_simp
          with_reducible rfl
        rotate_left
        · simp only [Act.put, List.setIfInBounds_toArray, List.set_cons_zero, List.set_cons_succ, i64_w, i32_w]
          rfl
        refine take_ (i := 2) (N := some 20) (v := ?_) (a' := ?_) #[true, false, true, false, false, false] rfl rfl (by kernel_rfl) (fun _ _ _ h => h) (Or.inl ⟨by rfl, ?_⟩) hHeld ?_ ?_
        rotate_left
        · rintro w' ⟨s0, s1, s2, s3, s4, s5⟩
          go_simp
          with_reducible rfl
        rotate_left
        · simp only [Act.put, List.setIfInBounds_toArray, List.set_cons_zero, List.set_cons_succ, i64_w, i32_w]
          rfl
        refine one_ (i := 1) (N := some 19) #[true, true, true, false, false, false] rfl rfl (by kernel_rfl) (by decide) (fun K hK => ?_)
        refine goes_ Tryz.func101 (by kernel_rfl) rfl #[.agg #[.int .i64 a0_0, .int .i64 a0_1, .string a0_2]] (by rfl) rfl rfl zP ?_
        with_reducible refine (value_Num.calls (hL := ?sideL) a0_0 a0_1 a0_2 t138 _ A17.out).mono ?_
        (case sideL => exact Laid.below HL.out zG)
        rintro e w21 ⟨rfl, hb⟩
        refine ⟨_, rfl, ?_⟩
        have n0_ := Aside0.mk (blk_below (g := gb135) zK hb)
        have n1_ := Aside0.mk (blk_below (g := gb136) zK hb)
        have n2_ := Aside0.mk (below_step zG hb)
        clear BK135
        clear BK136
        clear HB
        have BK135 := n0_
        have BK136 := n1_
        have HB := n2_
        clear n0_ n1_ n2_
        (try clear hb)
        (try clear hb2)
        (try clear hk)
        (try clear hi)
        refine hK.out _ _ ⟨(blk_cell BK135.out 0).trans rfl, (blk_cell BK135.out 1).trans rfl, (blk_cell BK135.out 2).trans rfl, (blk_cell BK136.out 0).trans rfl, (blk_cell BK136.out 1).trans rfl, (blk_cell BK136.out 2).trans rfl⟩ (fun hHeld => ?_)
        clear hK K
        refine norm_ (a' := ?_) ?_ ?_
        rotate_left
        · show Act.put _ (some 19) _ = _
          simp only [Act.put, List.setIfInBounds_toArray, List.set_cons_zero, List.set_cons_succ, i64_w, i32_w]
          rfl
        refine one_ (i := 3) (N := some 21) #[true, true, true, true, false, false] rfl rfl (by kernel_rfl) (by decide) (fun K hK => ?_)
        refine goes_ Tryz.func101 (by kernel_rfl) rfl #[.agg #[.int .i64 a1_0, .int .i64 a1_1, .string a1_2]] (by rfl) rfl rfl zP ?_
        with_reducible refine (value_Num.calls (hL := ?sideL) a1_0 a1_1 a1_2 t139 _ A18.out).mono ?_
        (case sideL => exact Laid.below HL.out zG)
        rintro e w22 ⟨rfl, hb⟩
        refine ⟨_, rfl, ?_⟩
        have n0_ := Aside0.mk (blk_below (g := gb135) zK hb)
        have n1_ := Aside0.mk (blk_below (g := gb136) zK hb)
        have n2_ := Aside0.mk (below_step zG hb)
        clear BK135
        clear BK136
        clear HB
        have BK135 := n0_
        have BK136 := n1_
        have HB := n2_
        clear n0_ n1_ n2_
        (try clear hb)
        (try clear hb2)
        (try clear hk)
        (try clear hi)
        refine hK.out _ _ ⟨(blk_cell BK135.out 0).trans rfl, (blk_cell BK135.out 1).trans rfl, (blk_cell BK135.out 2).trans rfl, (blk_cell BK136.out 0).trans rfl, (blk_cell BK136.out 1).trans rfl, (blk_cell BK136.out 2).trans rfl⟩ (fun hHeld => ?_)
        clear hK K
        refine norm_ (a' := ?_) ?_ ?_
        rotate_left
        · show Act.put _ (some 21) _ = _
          simp only [Act.put, List.setIfInBounds_toArray, List.set_cons_zero, List.set_cons_succ, i64_w, i32_w]
          rfl
        refine one_ (i := 4) (N := some 22) #[true, true, true, true, true, false] rfl rfl (by kernel_rfl) (by decide) (fun K hK => ?_)
        refine goes_ Tryz.func123 (by kernel_rfl) rfl #[.int .i64 t138, .int .i64 t139] (by rfl) rfl rfl zP ?_
        with_reducible refine (cmp_Compare_int64.calls t138 t139 t140 _ A19.out).mono ?_
        rintro e w' ⟨rfl, ⟨nd, rfl⟩⟩
        refine ⟨_, rfl, ?_⟩
        refine hK.out _ _ ⟨(blk_cell BK135.out 0).trans rfl, (blk_cell BK135.out 1).trans rfl, (blk_cell BK135.out 2).trans rfl, (blk_cell BK136.out 0).trans rfl, (blk_cell BK136.out 1).trans rfl, (blk_cell BK136.out 2).trans rfl⟩ (fun hHeld => ?_)
        clear hK K
        refine norm_ (a' := ?_) ?_ ?_
        rotate_left
        · show Act.put _ (some 22) _ = _
          simp only [Act.put, List.setIfInBounds_toArray, List.set_cons_zero, List.set_cons_succ, i64_w, i32_w]
          rfl
        refine pure_ (i := 5) (N := some 4) (v := ?_) (a' := ?_) #[true, true, true, true, true, true] rfl rfl (by kernel_rfl) (fun _ _ _ h => h) (Or.inl ⟨by rfl, ?_⟩) ?_ ?_
        rotate_left
        · intro w'
          go_simp
          with_reducible rfl
        rotate_left
        · simp only [Act.put, List.setIfInBounds_toArray, List.set_cons_zero, List.set_cons_succ, i64_w, i32_w]
          rfl
        refine done_ (by kernel_rfl) ?_
        try go_wp2
        go_ret
        exact ⟨zE, zG⟩
/-! ### value_makers_4: function 104 -/
def value_makers_4.f (k : Nat) (a0_0 : Int) (a0_1 : Int) (a0_2 : ByteArray) (a1_0 : Int) (a1_1 : Int) (a1_2 : ByteArray) : Option (Int × Int × ByteArray) := (value_compared.f k a0_0 a0_1 a0_2 a1_0 a1_1 a1_2).bind fun t144 => ((value_truth.f k (decide (t144 < 0))).bind fun bt145 => (some (bt145.1, bt145.2.1, bt145.2.2)))
set_option maxHeartbeats 8000000 in
set_option maxRecDepth 100000 in
theorem value_makers_4.calls (k : Nat) (a0_0 : Int) (a0_1 : Int) (a0_2 : ByteArray) (a1_0 : Int) (a1_1 : Int) (a1_2 : ByteArray) (r1 : Int) (r2 : Int) (r3 : ByteArray) (w : World) (hL : Laid w) (h : value_makers_4.f k a0_0 a0_1 a0_2 a1_0 a1_1 a1_2 = some (r1, r2, r3)) :
    Calls Tryz.prog 104 #[.agg #[.int .i64 a0_0, .int .i64 a0_1, .string a0_2], .agg #[.int .i64 a1_0, .int .i64 a1_1, .string a1_2]] w fun e w' => e = .returned (.agg #[.int .i64 r1, .int .i64 r2, .string r3]) ∧ Below w.heap.size w w' := by
  have HL := Aside0.mk hL
  clear hL
  have hu83 := Tryz.underlying83
  have HB := Aside0.mk (Below.refl w.heap.size w)
  have H : ((value_compared.f k a0_0 a0_1 a0_2 a1_0 a1_1 a1_2).bind fun t144 => ((value_truth.f k (decide (t144 < 0))).bind fun bt145 => (some (bt145.1, bt145.2.1, bt145.2.2)))) = some (r1, r2, r3) := h
  clear h
  obtain ⟨t144, A3, H⟩ := zO H
  replace H := Option.bind_eq_some_iff.mp H
  obtain ⟨⟨t145, t146, t147⟩, A40, H⟩ := H
  replace H : (some (t145, t146, t147)) = some (r1, r2, r3) := H
  have A4 := Aside0.mk A40
  clear A40
  simp only [Option.some.injEq, Prod.mk.injEq] at H
  obtain ⟨rfl, rfl, rfl⟩ := H
  go_enter Tryz.func104, Tryz.ntmps104
  go_wp2_with (first | ((with_reducible refine gate_dst (N := 2) rfl ?_); refine zX (N := 2) (cs := #[.int .i64 a0_0, .int .i64 a0_1, .string a0_2]) (t := 83) (h := ?_); intro gb141 hg w5 hbox hb; have BK141 := Aside0.mk hbox; have GW141 := Aside0.mk ((zS : w.heap.size ≤ gb141)); have GE141 := Aside0.mk ((zS : w.heap.size ≤ gb141)); replace HB := Aside0.mk (below_step zB hb); clear hb hbox hg) | ((with_reducible refine gate_dst (N := 3) rfl ?_); refine zX (N := 3) (cs := #[.int .i64 a1_0, .int .i64 a1_1, .string a1_2]) (t := 83) (h := ?_); intro gb142 hg w6 hbox hb; have BK142 := Aside0.mk hbox; have GW142 := Aside0.mk ((zT : w.heap.size ≤ gb142)); have GE142 := Aside0.mk ((zT : w.heap.size ≤ gb142)); have NB141_142 := Aside0.mk ((zL : gb141 ≠ gb142)); have NB142_141 := Aside0.mk ((zM : gb142 ≠ gb141)); replace BK141 := Aside0.mk (blk_below (g := gb141) zK hb); replace HB := Aside0.mk (below_step zG hb); clear hb hbox hg) | ((with_reducible refine gate_dst (N := 4) rfl ?_); refine zX (N := 4) (cs := #[.int .i64 0, .int .i64 0, .string (⟨#[]⟩ : ByteArray)]) (t := 83) (h := ?_); intro gb143 hg w7 hbox hb; have BK143 := Aside0.mk hbox; have GW143 := Aside0.mk ((zT : w.heap.size ≤ gb143)); have GE143 := Aside0.mk ((zT : w.heap.size ≤ gb143)); have NB141_143 := Aside0.mk ((zL : gb141 ≠ gb143)); have NB143_141 := Aside0.mk ((zM : gb143 ≠ gb141)); have NB142_143 := Aside0.mk ((zL : gb142 ≠ gb143)); have NB143_142 := Aside0.mk ((zM : gb143 ≠ gb142)); replace BK141 := Aside0.mk (blk_below (g := gb141) zK hb); replace BK142 := Aside0.mk (blk_below (g := gb142) zK hb); replace HB := Aside0.mk (below_step zG hb); clear hb hbox hg; have hnb8 := NB141_142.out; have hnc8 := NB142_141.out; have hnb9 := NB141_143.out; have hnc9 := NB143_141.out; obtain ⟨hcz10_0, hcz10_1, hcz10_2, hfz10_0, hfz10_1, hfz10_2⟩ := zd3 BK141.out (.int .i64 a0_0) (.int .i64 a0_1) (.string a0_2); have hnb11 := NB142_143.out; have hnc11 := NB143_142.out; obtain ⟨hcz12_0, hcz12_1, hcz12_2, hfz12_0, hfz12_1, hfz12_2⟩ := zd3 BK142.out (.int .i64 a1_0) (.int .i64 a1_1) (.string a1_2)) | ((with_reducible refine gate_callee (f := 106) rfl ?_); refine goesL_ (some 7) rfl rfl Tryz.func106 (by kernel_rfl) rfl #[.agg #[.int .i64 a0_0, .int .i64 a0_1, .string a0_2], .agg #[.int .i64 a1_0, .int .i64 a1_1, .string a1_2]] rfl zP ?_; (with_reducible refine (value_compared.calls (hL := ?sideL) k a0_0 a0_1 a0_2 a1_0 a1_1 a1_2 t144 _ A3.out).mono ?_); (case sideL => exact Laid.below HL.out zG); rintro e w13 ⟨rfl, hb⟩; refine ⟨_, rfl, ?_⟩; replace BK141 := Aside0.mk (blk_below (g := gb141) zK hb); replace BK142 := Aside0.mk (blk_below (g := gb142) zK hb); replace BK143 := Aside0.mk (blk_below (g := gb143) zK hb); replace HB := Aside0.mk (below_step zG hb); (try clear hb)) | ((with_reducible refine gate_callee (f := 105) rfl ?_); refine goesL_ (some 9) rfl rfl Tryz.func105 (by kernel_rfl) rfl #[.bool (decide (t144 < 0))] rfl zP ?_; (with_reducible refine (value_truth.calls k (decide (t144 < 0)) t145 t146 t147 _ A4.out).mono ?_); rintro e w14 ⟨rfl, hb⟩; refine ⟨_, rfl, ?_⟩; replace BK141 := Aside0.mk (blk_below (g := gb141) zK hb); replace BK142 := Aside0.mk (blk_below (g := gb142) zK hb); replace BK143 := Aside0.mk (blk_below (g := gb143) zK hb); replace HB := Aside0.mk (below_step zG hb); (try clear hb); obtain ⟨hcz15_0, hcz15_1, hcz15_2, hfz15_0, hfz15_1, hfz15_2⟩ := zd3 BK143.out (.int .i64 0) (.int .i64 0) (.string (⟨#[]⟩ : ByteArray))))
  refine bodyPost_ret (results_cell_row rfl _ _ gb143 83 #[.int .i64 t145, .int .i64 t146, .string t147] (0, 0) _ rfl (by (with_reducible repeat (first | refine blk_drewN ?_ _ | refine blk_drew ?_ | refine blk_alloc ?_ _)); refine blk_put (cs := #[.int .i64 t145, .int .i64 t146, .string (⟨#[]⟩ : ByteArray)]) ?_ 2 _ rfl; (with_reducible repeat (first | refine blk_drewN ?_ _ | refine blk_drew ?_ | refine blk_alloc ?_ _)); refine blk_put (cs := #[.int .i64 t145, .int .i64 0, .string (⟨#[]⟩ : ByteArray)]) ?_ 1 _ rfl; (with_reducible repeat (first | refine blk_drewN ?_ _ | refine blk_drew ?_ | refine blk_alloc ?_ _)); refine blk_put (cs := #[.int .i64 0, .int .i64 0, .string (⟨#[]⟩ : ByteArray)]) ?_ 0 _ rfl; (with_reducible repeat (first | refine blk_drewN ?_ _ | refine blk_drew ?_ | refine blk_alloc ?_ _)); exact BK143.out) Tryz.underlying83 rfl (by kernel_rfl)) rfl ?_
  exact ⟨zE, zG⟩
/-! ### value_makers_5: function 107 -/
def value_makers_5.f (k : Nat) (a0_0 : Int) (a0_1 : Int) (a0_2 : ByteArray) (a1_0 : Int) (a1_1 : Int) (a1_2 : ByteArray) : Option (Int × Int × ByteArray) := (value_compared.f k a0_0 a0_1 a0_2 a1_0 a1_1 a1_2).bind fun t151 => ((value_truth.f k (decide (t151 ≤ 0))).bind fun bt152 => (some (bt152.1, bt152.2.1, bt152.2.2)))
set_option maxHeartbeats 8000000 in
set_option maxRecDepth 100000 in
theorem value_makers_5.calls (k : Nat) (a0_0 : Int) (a0_1 : Int) (a0_2 : ByteArray) (a1_0 : Int) (a1_1 : Int) (a1_2 : ByteArray) (r1 : Int) (r2 : Int) (r3 : ByteArray) (w : World) (hL : Laid w) (h : value_makers_5.f k a0_0 a0_1 a0_2 a1_0 a1_1 a1_2 = some (r1, r2, r3)) :
    Calls Tryz.prog 107 #[.agg #[.int .i64 a0_0, .int .i64 a0_1, .string a0_2], .agg #[.int .i64 a1_0, .int .i64 a1_1, .string a1_2]] w fun e w' => e = .returned (.agg #[.int .i64 r1, .int .i64 r2, .string r3]) ∧ Below w.heap.size w w' := by
  have HL := Aside0.mk hL
  clear hL
  have hu83 := Tryz.underlying83
  have HB := Aside0.mk (Below.refl w.heap.size w)
  have H : ((value_compared.f k a0_0 a0_1 a0_2 a1_0 a1_1 a1_2).bind fun t151 => ((value_truth.f k (decide (t151 ≤ 0))).bind fun bt152 => (some (bt152.1, bt152.2.1, bt152.2.2)))) = some (r1, r2, r3) := h
  clear h
  obtain ⟨t151, A3, H⟩ := zO H
  replace H := Option.bind_eq_some_iff.mp H
  obtain ⟨⟨t152, t153, t154⟩, A40, H⟩ := H
  replace H : (some (t152, t153, t154)) = some (r1, r2, r3) := H
  have A4 := Aside0.mk A40
  clear A40
  simp only [Option.some.injEq, Prod.mk.injEq] at H
  obtain ⟨rfl, rfl, rfl⟩ := H
  go_enter Tryz.func107, Tryz.ntmps107
  go_wp2_with (first | ((with_reducible refine gate_dst (N := 2) rfl ?_); refine zX (N := 2) (cs := #[.int .i64 a0_0, .int .i64 a0_1, .string a0_2]) (t := 83) (h := ?_); intro gb148 hg w5 hbox hb; have BK148 := Aside0.mk hbox; have GW148 := Aside0.mk ((zS : w.heap.size ≤ gb148)); have GE148 := Aside0.mk ((zS : w.heap.size ≤ gb148)); replace HB := Aside0.mk (below_step zB hb); clear hb hbox hg) | ((with_reducible refine gate_dst (N := 3) rfl ?_); refine zX (N := 3) (cs := #[.int .i64 a1_0, .int .i64 a1_1, .string a1_2]) (t := 83) (h := ?_); intro gb149 hg w6 hbox hb; have BK149 := Aside0.mk hbox; have GW149 := Aside0.mk ((zT : w.heap.size ≤ gb149)); have GE149 := Aside0.mk ((zT : w.heap.size ≤ gb149)); have NB148_149 := Aside0.mk ((zL : gb148 ≠ gb149)); have NB149_148 := Aside0.mk ((zM : gb149 ≠ gb148)); replace BK148 := Aside0.mk (blk_below (g := gb148) zK hb); replace HB := Aside0.mk (below_step zG hb); clear hb hbox hg) | ((with_reducible refine gate_dst (N := 4) rfl ?_); refine zX (N := 4) (cs := #[.int .i64 0, .int .i64 0, .string (⟨#[]⟩ : ByteArray)]) (t := 83) (h := ?_); intro gb150 hg w7 hbox hb; have BK150 := Aside0.mk hbox; have GW150 := Aside0.mk ((zT : w.heap.size ≤ gb150)); have GE150 := Aside0.mk ((zT : w.heap.size ≤ gb150)); have NB148_150 := Aside0.mk ((zL : gb148 ≠ gb150)); have NB150_148 := Aside0.mk ((zM : gb150 ≠ gb148)); have NB149_150 := Aside0.mk ((zL : gb149 ≠ gb150)); have NB150_149 := Aside0.mk ((zM : gb150 ≠ gb149)); replace BK148 := Aside0.mk (blk_below (g := gb148) zK hb); replace BK149 := Aside0.mk (blk_below (g := gb149) zK hb); replace HB := Aside0.mk (below_step zG hb); clear hb hbox hg; have hnb8 := NB148_149.out; have hnc8 := NB149_148.out; have hnb9 := NB148_150.out; have hnc9 := NB150_148.out; obtain ⟨hcz10_0, hcz10_1, hcz10_2, hfz10_0, hfz10_1, hfz10_2⟩ := zd3 BK148.out (.int .i64 a0_0) (.int .i64 a0_1) (.string a0_2); have hnb11 := NB149_150.out; have hnc11 := NB150_149.out; obtain ⟨hcz12_0, hcz12_1, hcz12_2, hfz12_0, hfz12_1, hfz12_2⟩ := zd3 BK149.out (.int .i64 a1_0) (.int .i64 a1_1) (.string a1_2)) | ((with_reducible refine gate_callee (f := 106) rfl ?_); refine goesL_ (some 7) rfl rfl Tryz.func106 (by kernel_rfl) rfl #[.agg #[.int .i64 a0_0, .int .i64 a0_1, .string a0_2], .agg #[.int .i64 a1_0, .int .i64 a1_1, .string a1_2]] rfl zP ?_; (with_reducible refine (value_compared.calls (hL := ?sideL) k a0_0 a0_1 a0_2 a1_0 a1_1 a1_2 t151 _ A3.out).mono ?_); (case sideL => exact Laid.below HL.out zG); rintro e w13 ⟨rfl, hb⟩; refine ⟨_, rfl, ?_⟩; replace BK148 := Aside0.mk (blk_below (g := gb148) zK hb); replace BK149 := Aside0.mk (blk_below (g := gb149) zK hb); replace BK150 := Aside0.mk (blk_below (g := gb150) zK hb); replace HB := Aside0.mk (below_step zG hb); (try clear hb)) | ((with_reducible refine gate_callee (f := 105) rfl ?_); refine goesL_ (some 9) rfl rfl Tryz.func105 (by kernel_rfl) rfl #[.bool (decide (t151 ≤ 0))] rfl zP ?_; (with_reducible refine (value_truth.calls k (decide (t151 ≤ 0)) t152 t153 t154 _ A4.out).mono ?_); rintro e w14 ⟨rfl, hb⟩; refine ⟨_, rfl, ?_⟩; replace BK148 := Aside0.mk (blk_below (g := gb148) zK hb); replace BK149 := Aside0.mk (blk_below (g := gb149) zK hb); replace BK150 := Aside0.mk (blk_below (g := gb150) zK hb); replace HB := Aside0.mk (below_step zG hb); (try clear hb); obtain ⟨hcz15_0, hcz15_1, hcz15_2, hfz15_0, hfz15_1, hfz15_2⟩ := zd3 BK150.out (.int .i64 0) (.int .i64 0) (.string (⟨#[]⟩ : ByteArray))))
  refine bodyPost_ret (results_cell_row rfl _ _ gb150 83 #[.int .i64 t152, .int .i64 t153, .string t154] (0, 0) _ rfl (by (with_reducible repeat (first | refine blk_drewN ?_ _ | refine blk_drew ?_ | refine blk_alloc ?_ _)); refine blk_put (cs := #[.int .i64 t152, .int .i64 t153, .string (⟨#[]⟩ : ByteArray)]) ?_ 2 _ rfl; (with_reducible repeat (first | refine blk_drewN ?_ _ | refine blk_drew ?_ | refine blk_alloc ?_ _)); refine blk_put (cs := #[.int .i64 t152, .int .i64 0, .string (⟨#[]⟩ : ByteArray)]) ?_ 1 _ rfl; (with_reducible repeat (first | refine blk_drewN ?_ _ | refine blk_drew ?_ | refine blk_alloc ?_ _)); refine blk_put (cs := #[.int .i64 0, .int .i64 0, .string (⟨#[]⟩ : ByteArray)]) ?_ 0 _ rfl; (with_reducible repeat (first | refine blk_drewN ?_ _ | refine blk_drew ?_ | refine blk_alloc ?_ _)); exact BK150.out) Tryz.underlying83 rfl (by kernel_rfl)) rfl ?_
  exact ⟨zE, zG⟩
/-! ### value_makers_6: function 108 -/
def value_makers_6.f (k : Nat) (a0_0 : Int) (a0_1 : Int) (a0_2 : ByteArray) (a1_0 : Int) (a1_1 : Int) (a1_2 : ByteArray) : Option (Int × Int × ByteArray) := (value_truth.f k (a0_0 == a1_0 && (a0_1 == a1_1 && (a0_2.toList == a1_2.toList)))).bind fun bt158 => (some (bt158.1, bt158.2.1, bt158.2.2))
set_option maxHeartbeats 8000000 in
set_option maxRecDepth 100000 in
theorem value_makers_6.calls (k : Nat) (a0_0 : Int) (a0_1 : Int) (a0_2 : ByteArray) (a1_0 : Int) (a1_1 : Int) (a1_2 : ByteArray) (r1 : Int) (r2 : Int) (r3 : ByteArray) (w : World) (h : value_makers_6.f k a0_0 a0_1 a0_2 a1_0 a1_1 a1_2 = some (r1, r2, r3)) :
    Calls Tryz.prog 108 #[.agg #[.int .i64 a0_0, .int .i64 a0_1, .string a0_2], .agg #[.int .i64 a1_0, .int .i64 a1_1, .string a1_2]] w fun e w' => e = .returned (.agg #[.int .i64 r1, .int .i64 r2, .string r3]) ∧ Below w.heap.size w w' := by
  have hu83 := Tryz.underlying83
  have HB := Aside0.mk (Below.refl w.heap.size w)
  have H : ((value_truth.f k (a0_0 == a1_0 && (a0_1 == a1_1 && (a0_2.toList == a1_2.toList)))).bind fun bt158 => (some (bt158.1, bt158.2.1, bt158.2.2))) = some (r1, r2, r3) := h
  clear h
  replace H := Option.bind_eq_some_iff.mp H
  obtain ⟨⟨t158, t159, t160⟩, A30, H⟩ := H
  replace H : (some (t158, t159, t160)) = some (r1, r2, r3) := H
  have A3 := Aside0.mk A30
  clear A30
  simp only [Option.some.injEq, Prod.mk.injEq] at H
  obtain ⟨rfl, rfl, rfl⟩ := H
  go_enter Tryz.func108, Tryz.ntmps108
  go_wp2_with (first | ((with_reducible refine gate_dst (N := 2) rfl ?_); refine zX (N := 2) (cs := #[.int .i64 a0_0, .int .i64 a0_1, .string a0_2]) (t := 83) (h := ?_); intro gb155 hg w4 hbox hb; have BK155 := Aside0.mk hbox; have GW155 := Aside0.mk ((zS : w.heap.size ≤ gb155)); have GE155 := Aside0.mk ((zS : w.heap.size ≤ gb155)); replace HB := Aside0.mk (below_step zB hb); clear hb hbox hg) | ((with_reducible refine gate_dst (N := 3) rfl ?_); refine zX (N := 3) (cs := #[.int .i64 a1_0, .int .i64 a1_1, .string a1_2]) (t := 83) (h := ?_); intro gb156 hg w5 hbox hb; have BK156 := Aside0.mk hbox; have GW156 := Aside0.mk ((zT : w.heap.size ≤ gb156)); have GE156 := Aside0.mk ((zT : w.heap.size ≤ gb156)); have NB155_156 := Aside0.mk ((zL : gb155 ≠ gb156)); have NB156_155 := Aside0.mk ((zM : gb156 ≠ gb155)); replace BK155 := Aside0.mk (blk_below (g := gb155) zK hb); replace HB := Aside0.mk (below_step zG hb); clear hb hbox hg) | ((with_reducible refine gate_dst (N := 4) rfl ?_); refine zX (N := 4) (cs := #[.int .i64 0, .int .i64 0, .string (⟨#[]⟩ : ByteArray)]) (t := 83) (h := ?_); intro gb157 hg w6 hbox hb; have BK157 := Aside0.mk hbox; have GW157 := Aside0.mk ((zT : w.heap.size ≤ gb157)); have GE157 := Aside0.mk ((zT : w.heap.size ≤ gb157)); have NB155_157 := Aside0.mk ((zL : gb155 ≠ gb157)); have NB157_155 := Aside0.mk ((zM : gb157 ≠ gb155)); have NB156_157 := Aside0.mk ((zL : gb156 ≠ gb157)); have NB157_156 := Aside0.mk ((zM : gb157 ≠ gb156)); replace BK155 := Aside0.mk (blk_below (g := gb155) zK hb); replace BK156 := Aside0.mk (blk_below (g := gb156) zK hb); replace HB := Aside0.mk (below_step zG hb); clear hb hbox hg; have hnb7 := NB155_156.out; have hnc7 := NB156_155.out; have hnb8 := NB155_157.out; have hnc8 := NB157_155.out; obtain ⟨hcz9_0, hcz9_1, hcz9_2, hfz9_0, hfz9_1, hfz9_2⟩ := zd3 BK155.out (.int .i64 a0_0) (.int .i64 a0_1) (.string a0_2); have hnb10 := NB156_157.out; have hnc10 := NB157_156.out; obtain ⟨hcz11_0, hcz11_1, hcz11_2, hfz11_0, hfz11_1, hfz11_2⟩ := zd3 BK156.out (.int .i64 a1_0) (.int .i64 a1_1) (.string a1_2)) | ((with_reducible refine gate_callee (f := 105) rfl ?_); refine goesL_ (some 8) rfl rfl Tryz.func105 (by kernel_rfl) rfl #[.bool (a0_0 == a1_0 && (a0_1 == a1_1 && (a0_2.toList == a1_2.toList)))] rfl zP ?_; (with_reducible refine (value_truth.calls k (a0_0 == a1_0 && (a0_1 == a1_1 && (a0_2.toList == a1_2.toList))) t158 t159 t160 _ A3.out).mono ?_); rintro e w12 ⟨rfl, hb⟩; refine ⟨_, rfl, ?_⟩; replace BK155 := Aside0.mk (blk_below (g := gb155) zK hb); replace BK156 := Aside0.mk (blk_below (g := gb156) zK hb); replace BK157 := Aside0.mk (blk_below (g := gb157) zK hb); replace HB := Aside0.mk (below_step zG hb); (try clear hb); obtain ⟨hcz13_0, hcz13_1, hcz13_2, hfz13_0, hfz13_1, hfz13_2⟩ := zd3 BK157.out (.int .i64 0) (.int .i64 0) (.string (⟨#[]⟩ : ByteArray))))
  refine bodyPost_ret (results_cell_row rfl _ _ gb157 83 #[.int .i64 t158, .int .i64 t159, .string t160] (0, 0) _ rfl (by (with_reducible repeat (first | refine blk_drewN ?_ _ | refine blk_drew ?_ | refine blk_alloc ?_ _)); refine blk_put (cs := #[.int .i64 t158, .int .i64 t159, .string (⟨#[]⟩ : ByteArray)]) ?_ 2 _ rfl; (with_reducible repeat (first | refine blk_drewN ?_ _ | refine blk_drew ?_ | refine blk_alloc ?_ _)); refine blk_put (cs := #[.int .i64 t158, .int .i64 0, .string (⟨#[]⟩ : ByteArray)]) ?_ 1 _ rfl; (with_reducible repeat (first | refine blk_drewN ?_ _ | refine blk_drew ?_ | refine blk_alloc ?_ _)); refine blk_put (cs := #[.int .i64 0, .int .i64 0, .string (⟨#[]⟩ : ByteArray)]) ?_ 0 _ rfl; (with_reducible repeat (first | refine blk_drewN ?_ _ | refine blk_drew ?_ | refine blk_alloc ?_ _)); exact BK157.out) Tryz.underlying83 rfl (by kernel_rfl)) rfl ?_
  exact ⟨zE, zG⟩
end Go.Proofs.YtjlhhjfmekjbhaaGreatDoor.Pr

namespace Go.Proofs.YtjlhhjfmekjbhaaGreatDoor.Pr
open Go.RowKit Go.Proofs.YtjlhhjfmekjbhaaGreatDoorW.PrintWords Go.Proofs.YtjlhhjfmekjbhaaGreatDoorW.PrintLast Go.Proofs.YtjlhhjfmekjbhaaGreatDoorW.PrintMore
set_option linter.unusedVariables false
set_option linter.unusedSimpArgs false
attribute [local go_sem high] eqA83
/-! ### value_makers_7: function 109 -/
def value_makers_7.f (k : Nat) (a0_0 : Int) (a0_1 : Int) (a0_2 : ByteArray) (a1_0 : Int) (a1_1 : Int) (a1_2 : ByteArray) : Option (Int × Int × ByteArray) := (value_truth.f k (!(a0_0 == a1_0) || (!(a0_1 == a1_1) || (!(a0_2.toList == a1_2.toList))))).bind fun bt164 => (some (bt164.1, bt164.2.1, bt164.2.2))
set_option maxHeartbeats 8000000 in
set_option maxRecDepth 100000 in
theorem value_makers_7.calls (k : Nat) (a0_0 : Int) (a0_1 : Int) (a0_2 : ByteArray) (a1_0 : Int) (a1_1 : Int) (a1_2 : ByteArray) (r1 : Int) (r2 : Int) (r3 : ByteArray) (w : World) (h : value_makers_7.f k a0_0 a0_1 a0_2 a1_0 a1_1 a1_2 = some (r1, r2, r3)) :
    Calls Tryz.prog 109 #[.agg #[.int .i64 a0_0, .int .i64 a0_1, .string a0_2], .agg #[.int .i64 a1_0, .int .i64 a1_1, .string a1_2]] w fun e w' => e = .returned (.agg #[.int .i64 r1, .int .i64 r2, .string r3]) ∧ Below w.heap.size w w' := by
  have hu83 := Tryz.underlying83
  have HB := Aside0.mk (Below.refl w.heap.size w)
  have H : ((value_truth.f k (!(a0_0 == a1_0) || (!(a0_1 == a1_1) || (!(a0_2.toList == a1_2.toList))))).bind fun bt164 => (some (bt164.1, bt164.2.1, bt164.2.2))) = some (r1, r2, r3) := h
  clear h
  replace H := Option.bind_eq_some_iff.mp H
  obtain ⟨⟨t164, t165, t166⟩, A30, H⟩ := H
  replace H : (some (t164, t165, t166)) = some (r1, r2, r3) := H
  have A3 := Aside0.mk A30
  clear A30
  simp only [Option.some.injEq, Prod.mk.injEq] at H
  obtain ⟨rfl, rfl, rfl⟩ := H
  go_enter Tryz.func109, Tryz.ntmps109
  go_wp2_with (first | ((with_reducible refine gate_dst (N := 2) rfl ?_); refine zX (N := 2) (cs := #[.int .i64 a0_0, .int .i64 a0_1, .string a0_2]) (t := 83) (h := ?_); intro gb161 hg w4 hbox hb; have BK161 := Aside0.mk hbox; have GW161 := Aside0.mk ((zS : w.heap.size ≤ gb161)); have GE161 := Aside0.mk ((zS : w.heap.size ≤ gb161)); replace HB := Aside0.mk (below_step zB hb); clear hb hbox hg) | ((with_reducible refine gate_dst (N := 3) rfl ?_); refine zX (N := 3) (cs := #[.int .i64 a1_0, .int .i64 a1_1, .string a1_2]) (t := 83) (h := ?_); intro gb162 hg w5 hbox hb; have BK162 := Aside0.mk hbox; have GW162 := Aside0.mk ((zT : w.heap.size ≤ gb162)); have GE162 := Aside0.mk ((zT : w.heap.size ≤ gb162)); have NB161_162 := Aside0.mk ((zL : gb161 ≠ gb162)); have NB162_161 := Aside0.mk ((zM : gb162 ≠ gb161)); replace BK161 := Aside0.mk (blk_below (g := gb161) zK hb); replace HB := Aside0.mk (below_step zG hb); clear hb hbox hg) | ((with_reducible refine gate_dst (N := 4) rfl ?_); refine zX (N := 4) (cs := #[.int .i64 0, .int .i64 0, .string (⟨#[]⟩ : ByteArray)]) (t := 83) (h := ?_); intro gb163 hg w6 hbox hb; have BK163 := Aside0.mk hbox; have GW163 := Aside0.mk ((zT : w.heap.size ≤ gb163)); have GE163 := Aside0.mk ((zT : w.heap.size ≤ gb163)); have NB161_163 := Aside0.mk ((zL : gb161 ≠ gb163)); have NB163_161 := Aside0.mk ((zM : gb163 ≠ gb161)); have NB162_163 := Aside0.mk ((zL : gb162 ≠ gb163)); have NB163_162 := Aside0.mk ((zM : gb163 ≠ gb162)); replace BK161 := Aside0.mk (blk_below (g := gb161) zK hb); replace BK162 := Aside0.mk (blk_below (g := gb162) zK hb); replace HB := Aside0.mk (below_step zG hb); clear hb hbox hg; have hnb7 := NB161_162.out; have hnc7 := NB162_161.out; have hnb8 := NB161_163.out; have hnc8 := NB163_161.out; obtain ⟨hcz9_0, hcz9_1, hcz9_2, hfz9_0, hfz9_1, hfz9_2⟩ := zd3 BK161.out (.int .i64 a0_0) (.int .i64 a0_1) (.string a0_2); have hnb10 := NB162_163.out; have hnc10 := NB163_162.out; obtain ⟨hcz11_0, hcz11_1, hcz11_2, hfz11_0, hfz11_1, hfz11_2⟩ := zd3 BK162.out (.int .i64 a1_0) (.int .i64 a1_1) (.string a1_2)) | ((with_reducible refine gate_callee (f := 105) rfl ?_); refine goesL_ (some 8) rfl rfl Tryz.func105 (by kernel_rfl) rfl #[.bool (!(a0_0 == a1_0) || (!(a0_1 == a1_1) || (!(a0_2.toList == a1_2.toList))))] rfl zP ?_; (with_reducible refine (value_truth.calls k (!(a0_0 == a1_0) || (!(a0_1 == a1_1) || (!(a0_2.toList == a1_2.toList)))) t164 t165 t166 _ A3.out).mono ?_); rintro e w12 ⟨rfl, hb⟩; refine ⟨_, rfl, ?_⟩; replace BK161 := Aside0.mk (blk_below (g := gb161) zK hb); replace BK162 := Aside0.mk (blk_below (g := gb162) zK hb); replace BK163 := Aside0.mk (blk_below (g := gb163) zK hb); replace HB := Aside0.mk (below_step zG hb); (try clear hb); obtain ⟨hcz13_0, hcz13_1, hcz13_2, hfz13_0, hfz13_1, hfz13_2⟩ := zd3 BK163.out (.int .i64 0) (.int .i64 0) (.string (⟨#[]⟩ : ByteArray))))
  refine bodyPost_ret (results_cell_row rfl _ _ gb163 83 #[.int .i64 t164, .int .i64 t165, .string t166] (0, 0) _ rfl (by (with_reducible repeat (first | refine blk_drewN ?_ _ | refine blk_drew ?_ | refine blk_alloc ?_ _)); refine blk_put (cs := #[.int .i64 t164, .int .i64 t165, .string (⟨#[]⟩ : ByteArray)]) ?_ 2 _ rfl; (with_reducible repeat (first | refine blk_drewN ?_ _ | refine blk_drew ?_ | refine blk_alloc ?_ _)); refine blk_put (cs := #[.int .i64 t164, .int .i64 0, .string (⟨#[]⟩ : ByteArray)]) ?_ 1 _ rfl; (with_reducible repeat (first | refine blk_drewN ?_ _ | refine blk_drew ?_ | refine blk_alloc ?_ _)); refine blk_put (cs := #[.int .i64 0, .int .i64 0, .string (⟨#[]⟩ : ByteArray)]) ?_ 0 _ rfl; (with_reducible repeat (first | refine blk_drewN ?_ _ | refine blk_drew ?_ | refine blk_alloc ?_ _)); exact BK163.out) Tryz.underlying83 rfl (by kernel_rfl)) rfl ?_
  exact ⟨zE, zG⟩
end Go.Proofs.YtjlhhjfmekjbhaaGreatDoor.Pr

namespace Go.Proofs.YtjlhhjfmekjbhaaGreatDoor.Pr
open Go.RowKit Go.Proofs.YtjlhhjfmekjbhaaGreatDoorW.PrintWords Go.Proofs.YtjlhhjfmekjbhaaGreatDoorW.PrintLast Go.Proofs.YtjlhhjfmekjbhaaGreatDoorW.PrintMore
set_option linter.unusedVariables false
set_option linter.unusedSimpArgs false
attribute [local go_sem high] eqA83
/-! ### value_Right: function 52 -/
mutual
def value_Right.j4 : Nat → Int → Int → ByteArray → Int → Int → ByteArray → Option (Bool)
  | 0, _, _, _, _, _, _ => none
  | k + 1, x168000, x168001, x168002, x169000, x169001, x169002 => some (x168000 == x169000 && (x168001 == x169001 && (x168002.toList == x169002.toList)))
def value_Right.j3 : Nat → Int → Int → ByteArray → Int → Int → ByteArray → Option (Bool)
  | 0, _, _, _, _, _, _ => none
  | k + 1, x168000, x168001, x168002, x169000, x169001, x169002 => value_Right.j4 k x168000 x168001 x168002 x169000 x168001 x169002
def value_Right.j2 : Nat → Bool → Int → Int → ByteArray → Int → Int → ByteArray → Option (Bool)
  | 0, _, _, _, _, _, _, _ => none
  | k + 1, x29, x168000, x168001, x168002, x169000, x169001, x169002 => if x29 = true then (some false) else (value_Right.j3 k x168000 x168001 x168002 x169000 x169001 x169002)
def value_Right.j0 : Nat → Int → Bool → Int → Int → ByteArray → Int → Int → ByteArray → Option (Bool)
  | 0, _, _, _, _, _, _, _, _ => none
  | k + 1, x8, x13, x168000, x168001, x168002, x169000, x169001, x169002 => if x13 = true then (value_Right.j3 k x168000 x168001 x168002 x169000 x169001 x169002) else (if x8 = 0 then (value_Right.j1 k (x8 == 0) x168000 x168001 x168002 x169000 x169001 x169002) else (value_Right.j1 k (x8 == 1) x168000 x168001 x168002 x169000 x169001 x169002))
def value_Right.j1 : Nat → Bool → Int → Int → ByteArray → Int → Int → ByteArray → Option (Bool)
  | 0, _, _, _, _, _, _, _ => none
  | k + 1, x16, x168000, x168001, x168002, x169000, x169001, x169002 => if x16 = true then (value_Right.j4 k x168000 x168001 x168002 x169000 x169001 x169002) else (some false)
end
def value_Right.f (k : Nat) (a0_0 : Int) (a0_1 : Int) (a0_2 : ByteArray) : Option (Bool) := if a0_0 = 4 then (value_Right.j4 k a0_0 a0_1 a0_2 a0_0 0 a0_2) else (if a0_0 = 2 then (if a0_1 < 0 then (value_Right.j2 k true a0_0 a0_1 a0_2 a0_0 0 (⟨#[]⟩ : ByteArray)) else (value_Right.j2 k (decide (a0_1 > 1)) a0_0 a0_1 a0_2 a0_0 0 (⟨#[]⟩ : ByteArray))) else (if a0_0 = 3 then (value_Right.j0 k a0_0 (a0_0 == 3) a0_0 a0_1 a0_2 a0_0 0 (⟨#[]⟩ : ByteArray)) else (value_Right.j0 k a0_0 (a0_0 == 5) a0_0 a0_1 a0_2 a0_0 0 (⟨#[]⟩ : ByteArray))))
set_option maxHeartbeats 8000000 in
set_option maxRecDepth 100000 in
theorem value_Right.calls (k : Nat) (a0_0 : Int) (a0_1 : Int) (a0_2 : ByteArray) (r : Bool) (w : World) (h : value_Right.f k a0_0 a0_1 a0_2 = some r) :
    Calls Tryz.prog 52 #[.agg #[.int .i64 a0_0, .int .i64 a0_1, .string a0_2]] w fun e w' => e = .returned (.bool r) ∧ Below w.heap.size w w' := by
  have hu83 := Tryz.underlying83
  have HB := Aside0.mk (Below.refl w.heap.size w)
  have H : (if a0_0 = 4 then (value_Right.j4 k a0_0 a0_1 a0_2 a0_0 0 a0_2) else (if a0_0 = 2 then (if a0_1 < 0 then (value_Right.j2 k true a0_0 a0_1 a0_2 a0_0 0 (⟨#[]⟩ : ByteArray)) else (value_Right.j2 k (decide (a0_1 > 1)) a0_0 a0_1 a0_2 a0_0 0 (⟨#[]⟩ : ByteArray))) else (if a0_0 = 3 then (value_Right.j0 k a0_0 (a0_0 == 3) a0_0 a0_1 a0_2 a0_0 0 (⟨#[]⟩ : ByteArray)) else (value_Right.j0 k a0_0 (a0_0 == 5) a0_0 a0_1 a0_2 a0_0 0 (⟨#[]⟩ : ByteArray))))) = some r := h
  clear h
  have HC2 := Aside0.mk H
  clear H
  go_enter Tryz.func52, Tryz.ntmps52
  go_upto_block 0 with (first | ((with_reducible refine gate_dst (N := 1) rfl ?_); refine zX (N := 1) (cs := #[.int .i64 a0_0, .int .i64 a0_1, .string a0_2]) (t := 83) (h := ?_); intro gb167 hg w3 hbox hb; have BK167 := Aside0.mk hbox; have GW167 := Aside0.mk ((zS : w.heap.size ≤ gb167)); have GE167 := Aside0.mk ((zS : w.heap.size ≤ gb167)); replace HB := Aside0.mk (below_step zB hb); clear hb hbox hg; obtain ⟨hcz4_0, hcz4_1, hcz4_2, hfz4_0, hfz4_1, hfz4_2⟩ := zd3 BK167.out (.int .i64 a0_0) (.int .i64 a0_1) (.string a0_2)) | ((with_reducible refine gate_dst (N := 3) rfl ?_); refine zX (N := 3) (cs := #[.int .i64 0, .int .i64 0, .string (⟨#[]⟩ : ByteArray)]) (t := 83) (h := ?_); intro gb168 hg w5 hbox hb; have BK168 := Aside0.mk hbox; have GW168 := Aside0.mk ((zT : w.heap.size ≤ gb168)); have GE168 := Aside0.mk ((zT : w.heap.size ≤ gb168)); have NB167_168 := Aside0.mk ((zL : gb167 ≠ gb168)); have NB168_167 := Aside0.mk ((zM : gb168 ≠ gb167)); replace BK167 := Aside0.mk (blk_below (g := gb167) zK hb); replace HB := Aside0.mk (below_step zG hb); clear hb hbox hg; have hnb6 := NB168_167.out; have hnc6 := NB167_168.out; obtain ⟨hcz7_0, hcz7_1, hcz7_2, hfz7_0, hfz7_1, hfz7_2⟩ := zd3 BK168.out (.int .i64 0) (.int .i64 0) (.string (⟨#[]⟩ : ByteArray)); obtain ⟨hcz8_0, hcz8_1, hcz8_2, hfz8_0, hfz8_1, hfz8_2⟩ := zd3 BK167.out (.int .i64 a0_0) (.int .i64 a0_1) (.string a0_2)))
  (try simp only [Act.put, List.setIfInBounds_toArray, List.set_cons_zero, List.set_cons_succ])
  go_cut [] (fun wc => ∃ (kq : Nat) (x169001_1 : Int) (x169002_1 : ByteArray), Aside0 (value_Right.j4 kq a0_0 a0_1 a0_2 a0_0 x169001_1 x169002_1 = some r) ∧ Aside0 (kq ≤ k) ∧ Aside0 (wc.heap[gb167]? = some (.cells #[.int .i64 a0_0, .int .i64 a0_1, .string a0_2] 83 (0, 0))) ∧ Aside0 (wc.heap[gb168]? = some (.cells #[.int .i64 a0_0, .int .i64 x169001_1, .string x169002_1] 83 (0, 0))) ∧ Aside0 (Below w.heap.size w wc))
  case first =>
    have H := HC2.out
    clear HC2
    have HC9 := Aside0.mk H
    clear H
    go_upto_block 3 with (fail)
    go_cut [] (fun wc => ∃ (kq : Nat) (x169002_8 : ByteArray), Aside0 (value_Right.j3 kq a0_0 a0_1 a0_2 a0_0 0 x169002_8 = some r) ∧ Aside0 (kq ≤ k) ∧ Aside0 (wc.heap[gb167]? = some (.cells #[.int .i64 a0_0, .int .i64 a0_1, .string a0_2] 83 (0, 0))) ∧ Aside0 (wc.heap[gb168]? = some (.cells #[.int .i64 a0_0, .int .i64 0, .string x169002_8] 83 (0, 0))) ∧ Aside0 (Below w.heap.size w wc))
    case first =>
      have H := HC9.out
      clear HC9
      by_cases c10 : a0_0 = 4
      · rw [if_pos c10] at H
        have c10b0 : (a0_0 == 4) = true := beq_iff_eq.mpr c10
        have c10b1 : (a0_0 != 4) = false := bne_eq_false_iff_eq.mpr c10
        clear c10
        (first | rw [c10b0] | (simp only [i64_w, i32_w]; rw [c10b0]) | skip)
        have H' := Aside0.mk H
        clear H
        have hnb11 := NB167_168.out
        have hnc11 := NB168_167.out
        obtain ⟨hcz12_0, hcz12_1, hcz12_2, hfz12_0, hfz12_1, hfz12_2⟩ := zd3 BK167.out (.int .i64 a0_0) (.int .i64 a0_1) (.string a0_2)
        obtain ⟨hcz13_0, hcz13_1, hcz13_2, hfz13_0, hfz13_1, hfz13_2⟩ := zd3 BK168.out (.int .i64 0) (.int .i64 0) (.string (⟨#[]⟩ : ByteArray))
        go_wp2
        go_meet
        case rel => exact ⟨_, (0), (a0_2), H', ⟨by first | omega | exact Nat.le_refl _⟩, ⟨by (with_reducible repeat (first | refine blk_drewN ?_ _ | refine blk_drew ?_ | refine blk_alloc ?_ _)); refine blk_far ?_ NB167_168.out _; (with_reducible repeat (first | refine blk_drewN ?_ _ | refine blk_drew ?_ | refine blk_alloc ?_ _)); refine blk_far ?_ NB167_168.out _; (with_reducible repeat (first | refine blk_drewN ?_ _ | refine blk_drew ?_ | refine blk_alloc ?_ _)); refine blk_far ?_ NB167_168.out _; (with_reducible repeat (first | refine blk_drewN ?_ _ | refine blk_drew ?_ | refine blk_alloc ?_ _)); refine blk_far ?_ NB167_168.out _; (with_reducible repeat (first | refine blk_drewN ?_ _ | refine blk_drew ?_ | refine blk_alloc ?_ _)); exact BK167.out⟩, ⟨by (with_reducible repeat (first | refine blk_drewN ?_ _ | refine blk_drew ?_ | refine blk_alloc ?_ _)); refine blk_put (cs := #[.int .i64 a0_0, .int .i64 0, .string (⟨#[]⟩ : ByteArray)]) ?_ 2 _ rfl; (with_reducible repeat (first | refine blk_drewN ?_ _ | refine blk_drew ?_ | refine blk_alloc ?_ _)); refine blk_put (cs := #[.int .i64 a0_0, .int .i64 0, .string (⟨#[]⟩ : ByteArray)]) ?_ 2 _ rfl; (with_reducible repeat (first | refine blk_drewN ?_ _ | refine blk_drew ?_ | refine blk_alloc ?_ _)); refine blk_put (cs := #[.int .i64 a0_0, .int .i64 0, .string (⟨#[]⟩ : ByteArray)]) ?_ 1 _ rfl; (with_reducible repeat (first | refine blk_drewN ?_ _ | refine blk_drew ?_ | refine blk_alloc ?_ _)); refine blk_put (cs := #[.int .i64 0, .int .i64 0, .string (⟨#[]⟩ : ByteArray)]) ?_ 0 _ rfl; (with_reducible repeat (first | refine blk_drewN ?_ _ | refine blk_drew ?_ | refine blk_alloc ?_ _)); exact BK168.out⟩, ⟨zG⟩⟩
      · rw [if_neg c10] at H
        have c10b0 : (a0_0 == 4) = false := beq_eq_false_iff_ne.mpr c10
        have c10b1 : (a0_0 != 4) = true := bne_iff_ne.mpr c10
        (first | rw [c10b0] | (simp only [i64_w, i32_w]; rw [c10b0]) | skip)
        by_cases c14 : a0_0 = 2
        · rw [if_pos c14] at H
          have c14b0 : (a0_0 == 2) = true := beq_iff_eq.mpr c14
          have c14b1 : (a0_0 != 2) = false := bne_eq_false_iff_eq.mpr c14
          clear c14
          have HC15 := Aside0.mk H
          clear H
          go_upto_region 10 with (fail)
          go_cut [29] (fun v29 wc => ∃ (kq : Nat) (x29_14 : Bool), v29 = .bool x29_14 ∧ Aside0 (value_Right.j2 kq x29_14 a0_0 a0_1 a0_2 a0_0 0 (⟨#[]⟩ : ByteArray) = some r) ∧ Aside0 (kq ≤ k) ∧ Aside0 (wc.heap[gb167]? = some (.cells #[.int .i64 a0_0, .int .i64 a0_1, .string a0_2] 83 (0, 0))) ∧ Aside0 (wc.heap[gb168]? = some (.cells #[.int .i64 a0_0, .int .i64 0, .string (⟨#[]⟩ : ByteArray)] 83 (0, 0))) ∧ Aside0 (Below w.heap.size w wc))
          case first =>
            have H := HC15.out
            clear HC15
            by_cases c16 : a0_1 < 0
            · rw [if_pos c16] at H
              have c16b0 : decide (a0_1 < 0) = true := decide_eq_true c16
              clear c16
              (first | rw [c16b0] | (simp only [i64_w, i32_w]; rw [c16b0]) | skip)
              have H' := Aside0.mk H
              clear H
              have hnb17 := NB167_168.out
              have hnc17 := NB168_167.out
              obtain ⟨hcz18_0, hcz18_1, hcz18_2, hfz18_0, hfz18_1, hfz18_2⟩ := zd3 BK167.out (.int .i64 a0_0) (.int .i64 a0_1) (.string a0_2)
              go_wp2
              go_meet
              case rel => exact ⟨_, (true), zR, H', ⟨by first | omega | exact Nat.le_refl _⟩, ⟨by (with_reducible repeat (first | refine blk_drewN ?_ _ | refine blk_drew ?_ | refine blk_alloc ?_ _)); refine blk_far ?_ NB167_168.out _; (with_reducible repeat (first | refine blk_drewN ?_ _ | refine blk_drew ?_ | refine blk_alloc ?_ _)); refine blk_far ?_ NB167_168.out _; (with_reducible repeat (first | refine blk_drewN ?_ _ | refine blk_drew ?_ | refine blk_alloc ?_ _)); refine blk_far ?_ NB167_168.out _; (with_reducible repeat (first | refine blk_drewN ?_ _ | refine blk_drew ?_ | refine blk_alloc ?_ _)); exact BK167.out⟩, ⟨by (with_reducible repeat (first | refine blk_drewN ?_ _ | refine blk_drew ?_ | refine blk_alloc ?_ _)); refine blk_put (cs := #[.int .i64 a0_0, .int .i64 0, .string (⟨#[]⟩ : ByteArray)]) ?_ 2 _ rfl; (with_reducible repeat (first | refine blk_drewN ?_ _ | refine blk_drew ?_ | refine blk_alloc ?_ _)); refine blk_put (cs := #[.int .i64 a0_0, .int .i64 0, .string (⟨#[]⟩ : ByteArray)]) ?_ 1 _ rfl; (with_reducible repeat (first | refine blk_drewN ?_ _ | refine blk_drew ?_ | refine blk_alloc ?_ _)); refine blk_put (cs := #[.int .i64 0, .int .i64 0, .string (⟨#[]⟩ : ByteArray)]) ?_ 0 _ rfl; (with_reducible repeat (first | refine blk_drewN ?_ _ | refine blk_drew ?_ | refine blk_alloc ?_ _)); exact BK168.out⟩, ⟨zG⟩⟩
            · rw [if_neg c16] at H
              have c16b0 : decide (a0_1 < 0) = false := decide_eq_false c16
              clear c16
              (first | rw [c16b0] | (simp only [i64_w, i32_w]; rw [c16b0]) | skip)
              have H' := Aside0.mk H
              clear H
              have hnb19 := NB167_168.out
              have hnc19 := NB168_167.out
              obtain ⟨hcz20_0, hcz20_1, hcz20_2, hfz20_0, hfz20_1, hfz20_2⟩ := zd3 BK167.out (.int .i64 a0_0) (.int .i64 a0_1) (.string a0_2)
              go_wp2
              go_meet
              case rel => exact ⟨_, (decide (a0_1 > 1)), zR, H', ⟨by first | omega | exact Nat.le_refl _⟩, ⟨by (with_reducible repeat (first | refine blk_drewN ?_ _ | refine blk_drew ?_ | refine blk_alloc ?_ _)); refine blk_far ?_ NB167_168.out _; (with_reducible repeat (first | refine blk_drewN ?_ _ | refine blk_drew ?_ | refine blk_alloc ?_ _)); refine blk_far ?_ NB167_168.out _; (with_reducible repeat (first | refine blk_drewN ?_ _ | refine blk_drew ?_ | refine blk_alloc ?_ _)); refine blk_far ?_ NB167_168.out _; (with_reducible repeat (first | refine blk_drewN ?_ _ | refine blk_drew ?_ | refine blk_alloc ?_ _)); exact BK167.out⟩, ⟨by (with_reducible repeat (first | refine blk_drewN ?_ _ | refine blk_drew ?_ | refine blk_alloc ?_ _)); refine blk_put (cs := #[.int .i64 a0_0, .int .i64 0, .string (⟨#[]⟩ : ByteArray)]) ?_ 2 _ rfl; (with_reducible repeat (first | refine blk_drewN ?_ _ | refine blk_drew ?_ | refine blk_alloc ?_ _)); refine blk_put (cs := #[.int .i64 a0_0, .int .i64 0, .string (⟨#[]⟩ : ByteArray)]) ?_ 1 _ rfl; (with_reducible repeat (first | refine blk_drewN ?_ _ | refine blk_drew ?_ | refine blk_alloc ?_ _)); refine blk_put (cs := #[.int .i64 0, .int .i64 0, .string (⟨#[]⟩ : ByteArray)]) ?_ 0 _ rfl; (with_reducible repeat (first | refine blk_drewN ?_ _ | refine blk_drew ?_ | refine blk_alloc ?_ _)); exact BK168.out⟩, ⟨zG⟩⟩
          case rest =>
            clear HC15
            clear c10 c10b0 c10b1 c14b0 c14b1 hcz4_0 hcz4_1 hcz4_2 hcz7_0 hcz7_1 hcz7_2 hcz8_0 hcz8_1 hcz8_2 hfz4_0 hfz4_1 hfz4_2 hfz7_0 hfz7_1 hfz7_2 hfz8_0 hfz8_1 hfz8_2
            obtain ⟨kq, x29_14, rfl, HA, HJ14, BK167, BK168, HB⟩ := hcut
            cases kq with
            | zero => exact absurd HA.out (by simp [value_Right.j2])
            | succ kj14 =>
              have H := HA.out
              clear HA
              simp only [value_Right.j2] at H
              by_cases c21 : x29_14 = true
              · subst c21
                rw [if_pos rfl] at H
                obtain rfl := Option.some.inj H
                go_wp2
                go_ret
                exact ⟨zE, zG⟩
              · replace c21 := Bool.eq_false_iff.mpr c21
                subst c21
                rw [if_neg (show ¬ (false = true) by decide)] at H
                have H' := Aside0.mk H
                clear H
                go_wp2
                go_meet
                case rel => exact ⟨_, ((⟨#[]⟩ : ByteArray)), H', ⟨by have := HJ14.out; first | omega | exact Nat.le_refl _⟩, ⟨zK⟩, ⟨zK⟩, ⟨zG⟩⟩
        · rw [if_neg c14] at H
          have c14b0 : (a0_0 == 2) = false := beq_eq_false_iff_ne.mpr c14
          have c14b1 : (a0_0 != 2) = true := bne_iff_ne.mpr c14
          have HC22 := Aside0.mk H
          clear H
          go_upto_if 13 with (fail)
          go_cut [13] (fun v13 wc => ∃ (kq : Nat) (x13_21 : Bool), v13 = .bool x13_21 ∧ Aside0 (value_Right.j0 kq a0_0 x13_21 a0_0 a0_1 a0_2 a0_0 0 (⟨#[]⟩ : ByteArray) = some r) ∧ Aside0 (kq ≤ k) ∧ Aside0 (wc.heap[gb167]? = some (.cells #[.int .i64 a0_0, .int .i64 a0_1, .string a0_2] 83 (0, 0))) ∧ Aside0 (wc.heap[gb168]? = some (.cells #[.int .i64 a0_0, .int .i64 0, .string (⟨#[]⟩ : ByteArray)] 83 (0, 0))) ∧ Aside0 (Below w.heap.size w wc))
          case first =>
            have H := HC22.out
            clear HC22
            by_cases c23 : a0_0 = 3
            · rw [if_pos c23] at H
              have c23b0 : (a0_0 == 3) = true := beq_iff_eq.mpr c23
              have c23b1 : (a0_0 != 3) = false := bne_eq_false_iff_eq.mpr c23
              clear c23
              (first | rw [c23b0] | (simp only [i64_w, i32_w]; rw [c23b0]) | skip)
              have H' := Aside0.mk H
              clear H
              go_wp2
              go_meet
              case rel => exact ⟨_, ((a0_0 == 3)), zR, H', ⟨by first | omega | exact Nat.le_refl _⟩, ⟨by (with_reducible repeat (first | refine blk_drewN ?_ _ | refine blk_drew ?_ | refine blk_alloc ?_ _)); refine blk_far ?_ NB167_168.out _; (with_reducible repeat (first | refine blk_drewN ?_ _ | refine blk_drew ?_ | refine blk_alloc ?_ _)); refine blk_far ?_ NB167_168.out _; (with_reducible repeat (first | refine blk_drewN ?_ _ | refine blk_drew ?_ | refine blk_alloc ?_ _)); refine blk_far ?_ NB167_168.out _; (with_reducible repeat (first | refine blk_drewN ?_ _ | refine blk_drew ?_ | refine blk_alloc ?_ _)); exact BK167.out⟩, ⟨by (with_reducible repeat (first | refine blk_drewN ?_ _ | refine blk_drew ?_ | refine blk_alloc ?_ _)); refine blk_put (cs := #[.int .i64 a0_0, .int .i64 0, .string (⟨#[]⟩ : ByteArray)]) ?_ 2 _ rfl; (with_reducible repeat (first | refine blk_drewN ?_ _ | refine blk_drew ?_ | refine blk_alloc ?_ _)); refine blk_put (cs := #[.int .i64 a0_0, .int .i64 0, .string (⟨#[]⟩ : ByteArray)]) ?_ 1 _ rfl; (with_reducible repeat (first | refine blk_drewN ?_ _ | refine blk_drew ?_ | refine blk_alloc ?_ _)); refine blk_put (cs := #[.int .i64 0, .int .i64 0, .string (⟨#[]⟩ : ByteArray)]) ?_ 0 _ rfl; (with_reducible repeat (first | refine blk_drewN ?_ _ | refine blk_drew ?_ | refine blk_alloc ?_ _)); exact BK168.out⟩, ⟨zG⟩⟩
            · rw [if_neg c23] at H
              have c23b0 : (a0_0 == 3) = false := beq_eq_false_iff_ne.mpr c23
              have c23b1 : (a0_0 != 3) = true := bne_iff_ne.mpr c23
              (first | rw [c23b0] | (simp only [i64_w, i32_w]; rw [c23b0]) | skip)
              have H' := Aside0.mk H
              clear H
              go_wp2
              go_meet
              case rel => exact ⟨_, ((a0_0 == 5)), zR, H', ⟨by first | omega | exact Nat.le_refl _⟩, ⟨by (with_reducible repeat (first | refine blk_drewN ?_ _ | refine blk_drew ?_ | refine blk_alloc ?_ _)); refine blk_far ?_ NB167_168.out _; (with_reducible repeat (first | refine blk_drewN ?_ _ | refine blk_drew ?_ | refine blk_alloc ?_ _)); refine blk_far ?_ NB167_168.out _; (with_reducible repeat (first | refine blk_drewN ?_ _ | refine blk_drew ?_ | refine blk_alloc ?_ _)); refine blk_far ?_ NB167_168.out _; (with_reducible repeat (first | refine blk_drewN ?_ _ | refine blk_drew ?_ | refine blk_alloc ?_ _)); exact BK167.out⟩, ⟨by (with_reducible repeat (first | refine blk_drewN ?_ _ | refine blk_drew ?_ | refine blk_alloc ?_ _)); refine blk_put (cs := #[.int .i64 a0_0, .int .i64 0, .string (⟨#[]⟩ : ByteArray)]) ?_ 2 _ rfl; (with_reducible repeat (first | refine blk_drewN ?_ _ | refine blk_drew ?_ | refine blk_alloc ?_ _)); refine blk_put (cs := #[.int .i64 a0_0, .int .i64 0, .string (⟨#[]⟩ : ByteArray)]) ?_ 1 _ rfl; (with_reducible repeat (first | refine blk_drewN ?_ _ | refine blk_drew ?_ | refine blk_alloc ?_ _)); refine blk_put (cs := #[.int .i64 0, .int .i64 0, .string (⟨#[]⟩ : ByteArray)]) ?_ 0 _ rfl; (with_reducible repeat (first | refine blk_drewN ?_ _ | refine blk_drew ?_ | refine blk_alloc ?_ _)); exact BK168.out⟩, ⟨zG⟩⟩
          case rest =>
            clear HC22
            clear c10 c10b0 c10b1 c14 c14b0 c14b1 hcz4_0 hcz4_1 hcz4_2 hcz7_0 hcz7_1 hcz7_2 hcz8_0 hcz8_1 hcz8_2 hfz4_0 hfz4_1 hfz4_2 hfz7_0 hfz7_1 hfz7_2 hfz8_0 hfz8_1 hfz8_2
            obtain ⟨kq, x13_21, rfl, HA, HJ21, BK167, BK168, HB⟩ := hcut
            cases kq with
            | zero => exact absurd HA.out (by simp [value_Right.j0])
            | succ kj21 =>
              have H := HA.out
              clear HA
              simp only [value_Right.j0] at H
              by_cases c24 : x13_21 = true
              · subst c24
                rw [if_pos rfl] at H
                have H' := Aside0.mk H
                clear H
                go_wp2
                go_meet
                case rel => exact ⟨_, ((⟨#[]⟩ : ByteArray)), H', ⟨by have := HJ21.out; first | omega | exact Nat.le_refl _⟩, ⟨zK⟩, ⟨zK⟩, ⟨zG⟩⟩
              · replace c24 := Bool.eq_false_iff.mpr c24
                subst c24
                rw [if_neg (show ¬ (false = true) by decide)] at H
                have HC25 := Aside0.mk H
                clear H
                go_upto_if 16 with (fail)
                go_cut [16] (fun v16 wc => ∃ (kq : Nat) (x16_24 : Bool), v16 = .bool x16_24 ∧ Aside0 (value_Right.j1 kq x16_24 a0_0 a0_1 a0_2 a0_0 0 (⟨#[]⟩ : ByteArray) = some r) ∧ Aside0 (kq ≤ kj21) ∧ Aside0 (wc.heap[gb167]? = some (.cells #[.int .i64 a0_0, .int .i64 a0_1, .string a0_2] 83 (0, 0))) ∧ Aside0 (wc.heap[gb168]? = some (.cells #[.int .i64 a0_0, .int .i64 0, .string (⟨#[]⟩ : ByteArray)] 83 (0, 0))) ∧ Aside0 (Below w.heap.size w wc))
                case first =>
                  have H := HC25.out
                  clear HC25
                  by_cases c26 : a0_0 = 0
                  · rw [if_pos c26] at H
                    have c26b0 : (a0_0 == 0) = true := beq_iff_eq.mpr c26
                    have c26b1 : (a0_0 != 0) = false := bne_eq_false_iff_eq.mpr c26
                    clear c26
                    (first | rw [c26b0] | (simp only [i64_w, i32_w]; rw [c26b0]) | skip)
                    have H' := Aside0.mk H
                    clear H
                    go_wp2
                    go_meet
                    case rel => exact ⟨_, ((a0_0 == 0)), zR, H', ⟨by have := HJ21.out; first | omega | exact Nat.le_refl _⟩, ⟨zK⟩, ⟨zK⟩, ⟨zG⟩⟩
                  · rw [if_neg c26] at H
                    have c26b0 : (a0_0 == 0) = false := beq_eq_false_iff_ne.mpr c26
                    have c26b1 : (a0_0 != 0) = true := bne_iff_ne.mpr c26
                    (first | rw [c26b0] | (simp only [i64_w, i32_w]; rw [c26b0]) | skip)
                    have H' := Aside0.mk H
                    clear H
                    go_wp2
                    go_meet
                    case rel => exact ⟨_, ((a0_0 == 1)), zR, H', ⟨by have := HJ21.out; first | omega | exact Nat.le_refl _⟩, ⟨zK⟩, ⟨zK⟩, ⟨zG⟩⟩
                case rest =>
                  clear HC25
                  obtain ⟨kq, x16_24, rfl, HA, HJ24, BK167, BK168, HB⟩ := hcut
                  cases kq with
                  | zero => exact absurd HA.out (by simp [value_Right.j1])
                  | succ kj24 =>
                    have H := HA.out
                    clear HA
                    simp only [value_Right.j1] at H
                    by_cases c27 : x16_24 = true
                    · subst c27
                      rw [if_pos rfl] at H
                      have H' := Aside0.mk H
                      clear H
                      go_wp2
                      go_meet
                      case rel => exact ⟨_, (0), ((⟨#[]⟩ : ByteArray)), H', ⟨by have := HJ21.out; have := HJ24.out; first | omega | exact Nat.le_refl _⟩, ⟨zK⟩, ⟨zK⟩, ⟨zG⟩⟩
                    · replace c27 := Bool.eq_false_iff.mpr c27
                      subst c27
                      rw [if_neg (show ¬ (false = true) by decide)] at H
                      obtain rfl := Option.some.inj H
                      go_wp2
                      go_ret
                      exact ⟨zE, zG⟩
    case rest =>
      clear HC9
      clear hcz4_0 hcz4_1 hcz4_2 hcz7_0 hcz7_1 hcz7_2 hcz8_0 hcz8_1 hcz8_2 hfz4_0 hfz4_1 hfz4_2 hfz7_0 hfz7_1 hfz7_2 hfz8_0 hfz8_1 hfz8_2
      obtain ⟨kq, x169002_8, HA, HJ8, BK167, BK168, HB⟩ := hcut
      cases kq with
      | zero => exact absurd HA.out (by simp [value_Right.j3])
      | succ kj8 =>
        have H := HA.out
        clear HA
        simp only [value_Right.j3] at H
        have H' := Aside0.mk H
        clear H
        have hnb28 := NB167_168.out
        have hnc28 := NB168_167.out
        obtain ⟨hcz29_0, hcz29_1, hcz29_2, hfz29_0, hfz29_1, hfz29_2⟩ := zd3 BK167.out (.int .i64 a0_0) (.int .i64 a0_1) (.string a0_2)
        obtain ⟨hcz30_0, hcz30_1, hcz30_2, hfz30_0, hfz30_1, hfz30_2⟩ := zd3 BK168.out (.int .i64 a0_0) (.int .i64 0) (.string x169002_8)
        go_wp2
        go_meet
        case rel => exact ⟨_, (a0_1), (x169002_8), H', ⟨by have := HJ8.out; first | omega | exact Nat.le_refl _⟩, ⟨by (with_reducible repeat (first | refine blk_drewN ?_ _ | refine blk_drew ?_ | refine blk_alloc ?_ _)); refine blk_far ?_ NB167_168.out _; (with_reducible repeat (first | refine blk_drewN ?_ _ | refine blk_drew ?_ | refine blk_alloc ?_ _)); exact BK167.out⟩, ⟨by (with_reducible repeat (first | refine blk_drewN ?_ _ | refine blk_drew ?_ | refine blk_alloc ?_ _)); refine blk_put (cs := #[.int .i64 a0_0, .int .i64 0, .string x169002_8]) ?_ 1 _ rfl; (with_reducible repeat (first | refine blk_drewN ?_ _ | refine blk_drew ?_ | refine blk_alloc ?_ _)); exact BK168.out⟩, ⟨zG⟩⟩
  case rest =>
    clear HC2
    clear hcz4_0 hcz4_1 hcz4_2 hcz7_0 hcz7_1 hcz7_2 hcz8_0 hcz8_1 hcz8_2 hfz4_0 hfz4_1 hfz4_2 hfz7_0 hfz7_1 hfz7_2 hfz8_0 hfz8_1 hfz8_2
    obtain ⟨kq, x169001_1, x169002_1, HA, HJ1, BK167, BK168, HB⟩ := hcut
    cases kq with
    | zero => exact absurd HA.out (by simp [value_Right.j4])
    | succ kj1 =>
      have H := HA.out
      clear HA
      simp only [value_Right.j4] at H
      obtain rfl := Option.some.inj H
      have hnb31 := NB167_168.out
      have hnc31 := NB168_167.out
      obtain ⟨hcz32_0, hcz32_1, hcz32_2, hfz32_0, hfz32_1, hfz32_2⟩ := zd3 BK167.out (.int .i64 a0_0) (.int .i64 a0_1) (.string a0_2)
      obtain ⟨hcz33_0, hcz33_1, hcz33_2, hfz33_0, hfz33_1, hfz33_2⟩ := zd3 BK168.out (.int .i64 a0_0) (.int .i64 x169001_1) (.string x169002_1)
      go_wp2
      go_ret
      exact ⟨zE, zG⟩
end Go.Proofs.YtjlhhjfmekjbhaaGreatDoor.Pr

namespace Go.Proofs.YtjlhhjfmekjbhaaGreatDoor.Pr
open Go.RowKit Go.Proofs.YtjlhhjfmekjbhaaGreatDoorW.PrintWords Go.Proofs.YtjlhhjfmekjbhaaGreatDoorW.PrintLast Go.Proofs.YtjlhhjfmekjbhaaGreatDoorW.PrintMore
set_option linter.unusedVariables false
set_option linter.unusedSimpArgs false
/-! ### q6_Right: function 75 -/
mutual
def q6_Right.j0 : Nat → Int → Bool → Int → Int → ByteArray → Option (Bool)
  | 0, _, _, _, _, _ => none
  | k + 1, x4, x5, x170000, x170001, x170002 => if x5 = true then (if x170001 = 0 then (q6_Right.j1 k (x170002.toList == ([] : List UInt8))) else (q6_Right.j1 k false)) else (if x4 = 2 then (if x170001 = 0 then (q6_Right.j2 k (x170002.toList == ([] : List UInt8))) else (if x170001 = 1 then (q6_Right.j2 k (x170002.toList == ([] : List UInt8))) else (q6_Right.j2 k false))) else (if x4 = 3 then (q6_Right.j3 k (x4 == 3) x170000 x170001 x170002) else (q6_Right.j3 k (x4 == 5) x170000 x170001 x170002)))
def q6_Right.j1 : Nat → Bool → Option (Bool)
  | 0, _ => none
  | k + 1, x2 => some x2
def q6_Right.j2 : Nat → Bool → Option (Bool)
  | 0, _ => none
  | k + 1, x2 => some x2
def q6_Right.j3 : Nat → Bool → Int → Int → ByteArray → Option (Bool)
  | 0, _, _, _, _ => none
  | k + 1, x31, x170000, x170001, x170002 => if x31 = true then (some (x170002.toList == ([] : List UInt8))) else (if x170000 = 4 then (q6_Right.j4 k (x170001 == 0)) else (q6_Right.j4 k false))
def q6_Right.j4 : Nat → Bool → Option (Bool)
  | 0, _ => none
  | k + 1, x2 => some x2
end
def q6_Right.f (k : Nat) (a0_0 : Int) (a0_1 : Int) (a0_2 : ByteArray) : Option (Bool) := if a0_0 = 0 then (q6_Right.j0 k a0_0 (a0_0 == 0) a0_0 a0_1 a0_2) else (q6_Right.j0 k a0_0 (a0_0 == 1) a0_0 a0_1 a0_2)
set_option maxHeartbeats 8000000 in
set_option maxRecDepth 100000 in
theorem q6_Right.calls (k : Nat) (a0_0 : Int) (a0_1 : Int) (a0_2 : ByteArray) (r : Bool) (w : World) (h : q6_Right.f k a0_0 a0_1 a0_2 = some r) :
    Calls Tryz.prog 75 #[.agg #[.int .i64 a0_0, .int .i64 a0_1, .string a0_2]] w fun e w' => e = .returned (.bool r) ∧ Below w.heap.size w w' := by
  have hu83 := Tryz.underlying83
  have HB := Aside0.mk (Below.refl w.heap.size w)
  have H : (if a0_0 = 0 then (q6_Right.j0 k a0_0 (a0_0 == 0) a0_0 a0_1 a0_2) else (q6_Right.j0 k a0_0 (a0_0 == 1) a0_0 a0_1 a0_2)) = some r := h
  clear h
  have HC2 := Aside0.mk H
  clear H
  go_enter Tryz.func75, Tryz.ntmps75
  go_upto_if 5 with (first | ((with_reducible refine gate_dst (N := 1) rfl ?_); refine zX (N := 1) (cs := #[.int .i64 a0_0, .int .i64 a0_1, .string a0_2]) (t := 83) (h := ?_); intro gb169 hg w3 hbox hb; have BK169 := Aside0.mk hbox; have GW169 := Aside0.mk ((zS : w.heap.size ≤ gb169)); have GE169 := Aside0.mk ((zS : w.heap.size ≤ gb169)); replace HB := Aside0.mk (below_step zB hb); clear hb hbox hg; obtain ⟨hcz4_0, hcz4_1, hcz4_2, hfz4_0, hfz4_1, hfz4_2⟩ := zd3 BK169.out (.int .i64 a0_0) (.int .i64 a0_1) (.string a0_2)))
  (try simp only [Act.put, List.setIfInBounds_toArray, List.set_cons_zero, List.set_cons_succ])
  go_cut [5] (fun v5 wc => ∃ (kq : Nat) (x5_1 : Bool), v5 = .bool x5_1 ∧ Aside0 (q6_Right.j0 kq a0_0 x5_1 a0_0 a0_1 a0_2 = some r) ∧ Aside0 (kq ≤ k) ∧ Aside0 (wc.heap[gb169]? = some (.cells #[.int .i64 a0_0, .int .i64 a0_1, .string a0_2] 83 (0, 0))) ∧ Aside0 (Below w.heap.size w wc))
  case first =>
    have H := HC2.out
    clear HC2
    by_cases c5 : a0_0 = 0
    · rw [if_pos c5] at H
      have c5b0 : (a0_0 == 0) = true := beq_iff_eq.mpr c5
      have c5b1 : (a0_0 != 0) = false := bne_eq_false_iff_eq.mpr c5
      clear c5
      (first | rw [c5b0] | (simp only [i64_w, i32_w]; rw [c5b0]) | skip)
      have H' := Aside0.mk H
      clear H
      go_wp2
      go_meet
      case rel => exact ⟨_, ((a0_0 == 0)), zR, H', ⟨by first | omega | exact Nat.le_refl _⟩, ⟨zK⟩, ⟨zG⟩⟩
    · rw [if_neg c5] at H
      have c5b0 : (a0_0 == 0) = false := beq_eq_false_iff_ne.mpr c5
      have c5b1 : (a0_0 != 0) = true := bne_iff_ne.mpr c5
      (first | rw [c5b0] | (simp only [i64_w, i32_w]; rw [c5b0]) | skip)
      have H' := Aside0.mk H
      clear H
      go_wp2
      go_meet
      case rel => exact ⟨_, ((a0_0 == 1)), zR, H', ⟨by first | omega | exact Nat.le_refl _⟩, ⟨zK⟩, ⟨zG⟩⟩
  case rest =>
    clear HC2
    clear hcz4_0 hcz4_1 hcz4_2 hfz4_0 hfz4_1 hfz4_2
    obtain ⟨kq, x5_1, rfl, HA, HJ1, BK169, HB⟩ := hcut
    cases kq with
    | zero => exact absurd HA.out (by simp [q6_Right.j0])
    | succ kj1 =>
      have H := HA.out
      clear HA
      simp only [q6_Right.j0] at H
      by_cases c6 : x5_1 = true
      · subst c6
        rw [if_pos rfl] at H
        have HC7 := Aside0.mk H
        clear H
        go_upto_region 4 with (fail)
        go_cut [2] (fun v2 wc => ∃ (kq : Nat) (x2_6 : Bool), v2 = .bool x2_6 ∧ Aside0 (q6_Right.j1 kq x2_6 = some r) ∧ Aside0 (kq ≤ kj1) ∧ Aside0 (wc.heap[gb169]? = some (.cells #[.int .i64 a0_0, .int .i64 a0_1, .string a0_2] 83 (0, 0))) ∧ Aside0 (Below w.heap.size w wc))
        case first =>
          have H := HC7.out
          clear HC7
          by_cases c8 : a0_1 = 0
          · rw [if_pos c8] at H
            have c8b0 : (a0_1 == 0) = true := beq_iff_eq.mpr c8
            have c8b1 : (a0_1 != 0) = false := bne_eq_false_iff_eq.mpr c8
            clear c8
            (first | rw [c8b0] | (simp only [i64_w, i32_w]; rw [c8b0]) | skip)
            have H' := Aside0.mk H
            clear H
            obtain ⟨hcz9_0, hcz9_1, hcz9_2, hfz9_0, hfz9_1, hfz9_2⟩ := zd3 BK169.out (.int .i64 a0_0) (.int .i64 a0_1) (.string a0_2)
            go_wp2
            go_meet
            case rel => exact ⟨_, ((a0_2.toList == ([] : List UInt8))), zR, H', ⟨by have := HJ1.out; first | omega | exact Nat.le_refl _⟩, ⟨zK⟩, ⟨zG⟩⟩
          · rw [if_neg c8] at H
            have c8b0 : (a0_1 == 0) = false := beq_eq_false_iff_ne.mpr c8
            have c8b1 : (a0_1 != 0) = true := bne_iff_ne.mpr c8
            (first | rw [c8b0] | (simp only [i64_w, i32_w]; rw [c8b0]) | skip)
            have H' := Aside0.mk H
            clear H
            obtain ⟨hcz10_0, hcz10_1, hcz10_2, hfz10_0, hfz10_1, hfz10_2⟩ := zd3 BK169.out (.int .i64 a0_0) (.int .i64 a0_1) (.string a0_2)
            go_wp2
            go_meet
            case rel => exact ⟨_, (false), zR, H', ⟨by have := HJ1.out; first | omega | exact Nat.le_refl _⟩, ⟨zK⟩, ⟨zG⟩⟩
        case rest =>
          clear HC7
          obtain ⟨kq, x2_6, rfl, HA, HJ6, BK169, HB⟩ := hcut
          cases kq with
          | zero => exact absurd HA.out (by simp [q6_Right.j1])
          | succ kj6 =>
            have H := HA.out
            clear HA
            simp only [q6_Right.j1] at H
            obtain rfl := Option.some.inj H
            go_wp2
            go_ret
            exact ⟨zE, zG⟩
      · replace c6 := Bool.eq_false_iff.mpr c6
        subst c6
        rw [if_neg (show ¬ (false = true) by decide)] at H
        by_cases c11 : a0_0 = 2
        · rw [if_pos c11] at H
          have c11b0 : (a0_0 == 2) = true := beq_iff_eq.mpr c11
          have c11b1 : (a0_0 != 2) = false := bne_eq_false_iff_eq.mpr c11
          clear c11
          have HC12 := Aside0.mk H
          clear H
          go_upto_region 6 with (fail)
          go_cut [2] (fun v2 wc => ∃ (kq : Nat) (x2_11 : Bool), v2 = .bool x2_11 ∧ Aside0 (q6_Right.j2 kq x2_11 = some r) ∧ Aside0 (kq ≤ kj1) ∧ Aside0 (wc.heap[gb169]? = some (.cells #[.int .i64 a0_0, .int .i64 a0_1, .string a0_2] 83 (0, 0))) ∧ Aside0 (Below w.heap.size w wc))
          case first =>
            have H := HC12.out
            clear HC12
            by_cases c13 : a0_1 = 0
            · rw [if_pos c13] at H
              have c13b0 : (a0_1 == 0) = true := beq_iff_eq.mpr c13
              have c13b1 : (a0_1 != 0) = false := bne_eq_false_iff_eq.mpr c13
              clear c13
              (first | rw [c13b0] | (simp only [i64_w, i32_w]; rw [c13b0]) | skip)
              have H' := Aside0.mk H
              clear H
              obtain ⟨hcz14_0, hcz14_1, hcz14_2, hfz14_0, hfz14_1, hfz14_2⟩ := zd3 BK169.out (.int .i64 a0_0) (.int .i64 a0_1) (.string a0_2)
              go_wp2
              go_meet
              case rel => exact ⟨_, ((a0_2.toList == ([] : List UInt8))), zR, H', ⟨by have := HJ1.out; first | omega | exact Nat.le_refl _⟩, ⟨zK⟩, ⟨zG⟩⟩
            · rw [if_neg c13] at H
              have c13b0 : (a0_1 == 0) = false := beq_eq_false_iff_ne.mpr c13
              have c13b1 : (a0_1 != 0) = true := bne_iff_ne.mpr c13
              (first | rw [c13b0] | (simp only [i64_w, i32_w]; rw [c13b0]) | skip)
              by_cases c15 : a0_1 = 1
              · rw [if_pos c15] at H
                have c15b0 : (a0_1 == 1) = true := beq_iff_eq.mpr c15
                have c15b1 : (a0_1 != 1) = false := bne_eq_false_iff_eq.mpr c15
                clear c15
                have H' := Aside0.mk H
                clear H
                obtain ⟨hcz16_0, hcz16_1, hcz16_2, hfz16_0, hfz16_1, hfz16_2⟩ := zd3 BK169.out (.int .i64 a0_0) (.int .i64 a0_1) (.string a0_2)
                go_wp2
                go_meet
                case rel => exact ⟨_, ((a0_2.toList == ([] : List UInt8))), zR, H', ⟨by have := HJ1.out; first | omega | exact Nat.le_refl _⟩, ⟨zK⟩, ⟨zG⟩⟩
              · rw [if_neg c15] at H
                have c15b0 : (a0_1 == 1) = false := beq_eq_false_iff_ne.mpr c15
                have c15b1 : (a0_1 != 1) = true := bne_iff_ne.mpr c15
                have H' := Aside0.mk H
                clear H
                obtain ⟨hcz17_0, hcz17_1, hcz17_2, hfz17_0, hfz17_1, hfz17_2⟩ := zd3 BK169.out (.int .i64 a0_0) (.int .i64 a0_1) (.string a0_2)
                go_wp2
                go_meet
                case rel => exact ⟨_, (false), zR, H', ⟨by have := HJ1.out; first | omega | exact Nat.le_refl _⟩, ⟨zK⟩, ⟨zG⟩⟩
          case rest =>
            clear HC12
            clear c11b0 c11b1
            obtain ⟨kq, x2_11, rfl, HA, HJ11, BK169, HB⟩ := hcut
            cases kq with
            | zero => exact absurd HA.out (by simp [q6_Right.j2])
            | succ kj11 =>
              have H := HA.out
              clear HA
              simp only [q6_Right.j2] at H
              obtain rfl := Option.some.inj H
              go_wp2
              go_ret
              exact ⟨zE, zG⟩
        · rw [if_neg c11] at H
          have c11b0 : (a0_0 == 2) = false := beq_eq_false_iff_ne.mpr c11
          have c11b1 : (a0_0 != 2) = true := bne_iff_ne.mpr c11
          have HC18 := Aside0.mk H
          clear H
          go_upto_if 31 with (fail)
          go_cut [31] (fun v31 wc => ∃ (kq : Nat) (x31_17 : Bool), v31 = .bool x31_17 ∧ Aside0 (q6_Right.j3 kq x31_17 a0_0 a0_1 a0_2 = some r) ∧ Aside0 (kq ≤ kj1) ∧ Aside0 (wc.heap[gb169]? = some (.cells #[.int .i64 a0_0, .int .i64 a0_1, .string a0_2] 83 (0, 0))) ∧ Aside0 (Below w.heap.size w wc))
          case first =>
            have H := HC18.out
            clear HC18
            by_cases c19 : a0_0 = 3
            · rw [if_pos c19] at H
              have c19b0 : (a0_0 == 3) = true := beq_iff_eq.mpr c19
              have c19b1 : (a0_0 != 3) = false := bne_eq_false_iff_eq.mpr c19
              clear c19
              (first | rw [c19b0] | (simp only [i64_w, i32_w]; rw [c19b0]) | skip)
              have H' := Aside0.mk H
              clear H
              go_wp2
              go_meet
              case rel => exact ⟨_, ((a0_0 == 3)), zR, H', ⟨by have := HJ1.out; first | omega | exact Nat.le_refl _⟩, ⟨zK⟩, ⟨zG⟩⟩
            · rw [if_neg c19] at H
              have c19b0 : (a0_0 == 3) = false := beq_eq_false_iff_ne.mpr c19
              have c19b1 : (a0_0 != 3) = true := bne_iff_ne.mpr c19
              (first | rw [c19b0] | (simp only [i64_w, i32_w]; rw [c19b0]) | skip)
              have H' := Aside0.mk H
              clear H
              go_wp2
              go_meet
              case rel => exact ⟨_, ((a0_0 == 5)), zR, H', ⟨by have := HJ1.out; first | omega | exact Nat.le_refl _⟩, ⟨zK⟩, ⟨zG⟩⟩
          case rest =>
            clear HC18
            clear c11 c11b0 c11b1
            obtain ⟨kq, x31_17, rfl, HA, HJ17, BK169, HB⟩ := hcut
            cases kq with
            | zero => exact absurd HA.out (by simp [q6_Right.j3])
            | succ kj17 =>
              have H := HA.out
              clear HA
              simp only [q6_Right.j3] at H
              by_cases c20 : x31_17 = true
              · subst c20
                rw [if_pos rfl] at H
                obtain rfl := Option.some.inj H
                obtain ⟨hcz21_0, hcz21_1, hcz21_2, hfz21_0, hfz21_1, hfz21_2⟩ := zd3 BK169.out (.int .i64 a0_0) (.int .i64 a0_1) (.string a0_2)
                go_wp2
                go_ret
                exact ⟨zE, zG⟩
              · replace c20 := Bool.eq_false_iff.mpr c20
                subst c20
                rw [if_neg (show ¬ (false = true) by decide)] at H
                have HC22 := Aside0.mk H
                clear H
                go_upto_region 10 with (fail)
                go_cut [2] (fun v2 wc => ∃ (kq : Nat) (x2_21 : Bool), v2 = .bool x2_21 ∧ Aside0 (q6_Right.j4 kq x2_21 = some r) ∧ Aside0 (kq ≤ kj17) ∧ Aside0 (wc.heap[gb169]? = some (.cells #[.int .i64 a0_0, .int .i64 a0_1, .string a0_2] 83 (0, 0))) ∧ Aside0 (Below w.heap.size w wc))
                case first =>
                  have H := HC22.out
                  clear HC22
                  by_cases c23 : a0_0 = 4
                  · rw [if_pos c23] at H
                    have c23b0 : (a0_0 == 4) = true := beq_iff_eq.mpr c23
                    have c23b1 : (a0_0 != 4) = false := bne_eq_false_iff_eq.mpr c23
                    clear c23
                    (first | rw [c23b0] | (simp only [i64_w, i32_w]; rw [c23b0]) | skip)
                    have H' := Aside0.mk H
                    clear H
                    obtain ⟨hcz24_0, hcz24_1, hcz24_2, hfz24_0, hfz24_1, hfz24_2⟩ := zd3 BK169.out (.int .i64 a0_0) (.int .i64 a0_1) (.string a0_2)
                    go_wp2
                    go_meet
                    case rel => exact ⟨_, ((a0_1 == 0)), zR, H', ⟨by have := HJ1.out; have := HJ17.out; first | omega | exact Nat.le_refl _⟩, ⟨zK⟩, ⟨zG⟩⟩
                  · rw [if_neg c23] at H
                    have c23b0 : (a0_0 == 4) = false := beq_eq_false_iff_ne.mpr c23
                    have c23b1 : (a0_0 != 4) = true := bne_iff_ne.mpr c23
                    (first | rw [c23b0] | (simp only [i64_w, i32_w]; rw [c23b0]) | skip)
                    have H' := Aside0.mk H
                    clear H
                    obtain ⟨hcz25_0, hcz25_1, hcz25_2, hfz25_0, hfz25_1, hfz25_2⟩ := zd3 BK169.out (.int .i64 a0_0) (.int .i64 a0_1) (.string a0_2)
                    go_wp2
                    go_meet
                    case rel => exact ⟨_, (false), zR, H', ⟨by have := HJ1.out; have := HJ17.out; first | omega | exact Nat.le_refl _⟩, ⟨zK⟩, ⟨zG⟩⟩
                case rest =>
                  clear HC22
                  obtain ⟨kq, x2_21, rfl, HA, HJ21, BK169, HB⟩ := hcut
                  cases kq with
                  | zero => exact absurd HA.out (by simp [q6_Right.j4])
                  | succ kj21 =>
                    have H := HA.out
                    clear HA
                    simp only [q6_Right.j4] at H
                    obtain rfl := Option.some.inj H
                    go_wp2
                    go_ret
                    exact ⟨zE, zG⟩
end Go.Proofs.YtjlhhjfmekjbhaaGreatDoor.Pr

namespace Go.Proofs.YtjlhhjfmekjbhaaGreatDoor.Pr
open Go.RowKit Go.Proofs.YtjlhhjfmekjbhaaGreatDoorW.PrintWords Go.Proofs.YtjlhhjfmekjbhaaGreatDoorW.PrintLast Go.Proofs.YtjlhhjfmekjbhaaGreatDoorW.PrintMore
set_option linter.unusedVariables false
set_option linter.unusedSimpArgs false
/-! ### q6_digits: function 97 -/
mutual
def q6_digits.j0 : Nat → Int → ByteArray → Int → Option (ByteArray)
  | 0, _, _, _ => none
  | k + 1, x0, x3, x4 => q6_digits.l0 k x0 x3 x4
def q6_digits.l0 : Nat → Int → ByteArray → Int → Option (ByteArray)
  | 0, _, _, _ => none
  | k + 1, x0, x3, x4 => if x4 > 0 then ((some (([(IntKind.u64.wrap (48 + (Int.tmod x4 10))) % 256] : List Int) : List Int)).bind fun y170 => (if (strOfNums y170).size + x3.size ≤ 9223372036854775807 then (q6_digits.l0 k x0 ((strOfNums y170) ++ x3) (IntKind.u64.wrap (Int.tdiv x4 10))) else (none))) else (if x0 < 0 then (if 1 + x3.size ≤ 9223372036854775807 then (some ((⟨#[45]⟩ : ByteArray) ++ x3)) else (none)) else (some x3))
end
def q6_digits.f (k : Nat) (a0 : Int) : Option (ByteArray) := if a0 = 0 then (some (⟨#[48]⟩ : ByteArray)) else (if a0 < 0 then (q6_digits.j0 k a0 (⟨#[]⟩ : ByteArray) (IntKind.u64.wrap (-(IntKind.u64.wrap (a0))))) else (q6_digits.j0 k a0 (⟨#[]⟩ : ByteArray) (IntKind.u64.wrap (a0))))
set_option maxHeartbeats 8000000 in
set_option maxRecDepth 100000 in
theorem q6_digits.calls (k : Nat) (a0 : Int) (r : ByteArray) (w : World) (h : q6_digits.f k a0 = some r) :
    Calls Tryz.prog 97 #[.int .i64 a0] w fun e w' => e = .returned (.string r) ∧ Below w.heap.size w w' := by
  have HB := Aside0.mk (Below.refl w.heap.size w)
  have H : (if a0 = 0 then (some (⟨#[48]⟩ : ByteArray)) else (if a0 < 0 then (q6_digits.j0 k a0 (⟨#[]⟩ : ByteArray) (IntKind.u64.wrap (-(IntKind.u64.wrap (a0))))) else (q6_digits.j0 k a0 (⟨#[]⟩ : ByteArray) (IntKind.u64.wrap (a0))))) = some r := h
  clear h
  by_cases c2 : a0 = 0
  · rw [if_pos c2] at H
    have c2b0 : (a0 == 0) = true := beq_iff_eq.mpr c2
    have c2b1 : (a0 != 0) = false := bne_eq_false_iff_eq.mpr c2
    clear c2
    obtain rfl := Option.some.inj H
    go_enter Tryz.func97, Tryz.ntmps97
    go_wp2
    go_ret
    exact ⟨zE, zB⟩
  · rw [if_neg c2] at H
    have c2b0 : (a0 == 0) = false := beq_eq_false_iff_ne.mpr c2
    have c2b1 : (a0 != 0) = true := bne_iff_ne.mpr c2
    have HC3 := Aside0.mk H
    clear H
    go_enter Tryz.func97, Tryz.ntmps97
    go_upto_if 10 with (fail)
    go_cut [4] (fun v4 wc => ∃ (kq : Nat) (x4_2 : Int), v4 = .int .u64 x4_2 ∧ Aside0 (q6_digits.j0 kq a0 (⟨#[]⟩ : ByteArray) x4_2 = some r) ∧ Aside0 (kq ≤ k) ∧ Aside0 (Below w.heap.size w wc))
    case first =>
      have H := HC3.out
      clear HC3
      by_cases c4 : a0 < 0
      · rw [if_pos c4] at H
        have c4b0 : decide (a0 < 0) = true := decide_eq_true c4
        clear c4
        (first | rw [c4b0] | (simp only [i64_w, i32_w]; rw [c4b0]) | skip)
        have H' := Aside0.mk H
        clear H
        go_wp2
        go_meet
        case rel => exact ⟨_, (IntKind.u64.wrap (-(IntKind.u64.wrap (a0)))), zR, H', ⟨by first | omega | exact Nat.le_refl _⟩, ⟨zB⟩⟩
      · rw [if_neg c4] at H
        have c4b0 : decide (a0 < 0) = false := decide_eq_false c4
        clear c4
        (first | rw [c4b0] | (simp only [i64_w, i32_w]; rw [c4b0]) | skip)
        have H' := Aside0.mk H
        clear H
        go_wp2
        go_meet
        case rel => exact ⟨_, (IntKind.u64.wrap (a0)), zR, H', ⟨by first | omega | exact Nat.le_refl _⟩, ⟨zB⟩⟩
    case rest =>
      clear HC3
      clear c2 c2b0 c2b1
      obtain ⟨kq, x4_2, rfl, HA, HJ2, HB⟩ := hcut
      cases kq with
      | zero => exact absurd HA.out (by simp [q6_digits.j0])
      | succ kj2 =>
        have H := HA.out
        clear HA
        simp only [q6_digits.j0] at H
        have H' := Aside0.mk H
        clear H
        go_wp2
        go_loopg [3, 4] kj2 (fun kq v3 v4 w' => ∃ (x3_2 : ByteArray) (x4_2 : Int), v3 = .string x3_2 ∧ v4 = .int .u64 x4_2 ∧ Aside0 (q6_digits.l0 kq a0 x3_2 x4_2 = some r) ∧ Aside0 (kq ≤ kj2) ∧ Aside0 (Below w.heap.size w w'))
        case atStart => exact ⟨((⟨#[]⟩ : ByteArray)), (x4_2), zR, zR, H', ⟨Nat.le_refl _⟩, ⟨zB⟩⟩
        case round =>
          clear H'
          obtain ⟨x3_2, x4_2, rfl, rfl, HA, HK2, HB⟩ := hrel
          cases gk with
          | zero => exact absurd HA.out (by simp [q6_digits.l0])
          | succ k2 =>
            have H := HA.out
            clear HA
            simp only [q6_digits.l0] at H
            by_cases c5 : x4_2 > 0
            · rw [if_pos c5] at H
              have c5b0 : decide (0 < x4_2) = true := decide_eq_true c5
              clear c5
              obtain ⟨y170, hy170⟩ : ∃ y_ : List Int, y_ = (([(IntKind.u64.wrap (48 + (Int.tmod x4_2 10))) % 256] : List Int)) := ⟨_, rfl⟩
              replace H : (if (strOfNums y170).size + x3_2.size ≤ 9223372036854775807 then (q6_digits.l0 k2 a0 ((strOfNums y170) ++ x3_2) (IntKind.u64.wrap (Int.tdiv x4_2 10))) else (none)) = some r := by first | (rw [hy170]; with_reducible exact H) | (have H2_ := (Option.bind_some _ _).symm.trans H; rw [hy170]; with_reducible exact H2_) | (have H2_ := (Option.bind_some _ _).symm.trans H; with_reducible exact H2_) | with_reducible exact H | (rw [hy170]; exact H) | exact H
              have Ny170 := Aside0.mk hy170
              clear hy170
              by_cases c6 : (strOfNums y170).size + x3_2.size ≤ 9223372036854775807
              · rw [if_pos c6] at H
                have c6b0 := eq_true c6
                have c6b1 : decide ((strOfNums y170).size + x3_2.size ≤ 9223372036854775807) = true := decide_eq_true c6
                try have c6b2 : (9223372036854775807 < (strOfNums y170).size + x3_2.size) = False := eq_false (Nat.not_lt.2 c6)
                have H' := Aside0.mk H
                clear H
                go_wp2_with (first | ((with_reducible refine gate_dst (N := 19) rfl ?_); refine Kd.R_lit (Kd.int .u8) _ 5 ?hg (N := 19) ?hd (xs := ([(IntKind.u64.wrap (48 + (Int.tmod x4_2 10))) % 256] : List Int)) (inner := [.int .u8 ((IntKind.u64.wrap (48 + (Int.tmod x4_2 10))) % 256)]) (ok := fun _ => True) (okp := fun _ => True) ?hr ?hp (fun _ hk => hk) trivial (Below.refl _ _) (Nat.le_refl _) (by simp) ?_; (case hd => rfl); (case hg => rfl); (case hr => first | (go_simp; done) | (go_simp; rfl)); (case hp => exact (Reps.one (show Kd.M (Kd.int .u8) _ _ _ ((IntKind.u64.wrap (48 + (Int.tmod x4_2 10))) % 256) [.int .u8 ((IntKind.u64.wrap (48 + (Int.tmod x4_2 10))) % 256)] from rfl) (Reps.none _ _))); intro v171 w7 ho8 hb hg_ hnew_; clear hg_ hnew_; (first | rw [← Ny170.out] at ho8 | (simp only [Int.reduceToNat] at ho8; rw [← Ny170.out] at ho8)); have HO172 := Aside0.mk (Kd.R_lower ho8 (below_size zB)); replace HB := Aside0.mk (below_step zB hb); clear hb ho8; have hcv9 := own_string (P := Tryz.prog) Tryz.underlying53 Tryz.underlying5 Tryz.underlying9 (Kd.own_of_R HO172.out)))
                go_roundg k2
                case measure => have := HJ2.out; have := HK2.out; omega
                case rel => exact ⟨((strOfNums y170) ++ x3_2), (IntKind.u64.wrap (Int.tdiv x4_2 10)), zR, zR, H', ⟨by have := HJ2.out; have := HK2.out; omega⟩, ⟨zB⟩⟩
              · rw [if_neg c6] at H
                exact absurd H (by simp)
            · rw [if_neg c5] at H
              have c5b0 : decide (0 < x4_2) = false := decide_eq_false c5
              clear c5
              by_cases c10 : a0 < 0
              · rw [if_pos c10] at H
                have c10b0 : decide (a0 < 0) = true := decide_eq_true c10
                clear c10
                by_cases c11 : 1 + x3_2.size ≤ 9223372036854775807
                · rw [if_pos c11] at H
                  have c11b0 := eq_true c11
                  have c11b1 : decide (1 + x3_2.size ≤ 9223372036854775807) = true := decide_eq_true c11
                  try have c11b2 : (9223372036854775807 < 1 + x3_2.size) = False := eq_false (Nat.not_lt.2 c11)
                  obtain rfl := Option.some.inj H
                  go_wp2
                  go_ret
                  exact ⟨zE, zB⟩
                · rw [if_neg c11] at H
                  exact absurd H (by simp)
              · rw [if_neg c10] at H
                have c10b0 : decide (a0 < 0) = false := decide_eq_false c10
                clear c10
                obtain rfl := Option.some.inj H
                go_wp2
                go_ret
                exact ⟨zE, zB⟩
/-! ### q6_Key: function 84 -/
def q6_Key.f (k : Nat) (a0_0 : Int) (a0_1 : Int) (a0_2 : ByteArray) : Option (ByteArray) := if a0_0 = 0 then (some (⟨#[117, 110, 100, 101, 102, 105, 110, 101, 100]⟩ : ByteArray)) else (if a0_0 = 1 then (some (⟨#[110, 117, 108, 108]⟩ : ByteArray)) else (if a0_0 = 2 then (if a0_1 = 1 then (some (⟨#[116, 114, 117, 101]⟩ : ByteArray)) else (some (⟨#[102, 97, 108, 115, 101]⟩ : ByteArray))) else (if a0_0 = 3 then ((q6_digits.f k a0_1).bind fun t174 => (some t174)) else (if a0_0 = 4 then (some a0_2) else (some (⟨#[91, 111, 98, 106, 101, 99, 116, 93]⟩ : ByteArray))))))
set_option maxHeartbeats 8000000 in
set_option maxRecDepth 100000 in
theorem q6_Key.calls (k : Nat) (a0_0 : Int) (a0_1 : Int) (a0_2 : ByteArray) (r : ByteArray) (w : World) (h : q6_Key.f k a0_0 a0_1 a0_2 = some r) :
    Calls Tryz.prog 84 #[.agg #[.int .i64 a0_0, .int .i64 a0_1, .string a0_2]] w fun e w' => e = .returned (.string r) ∧ Below w.heap.size w w' := by
  have hu83 := Tryz.underlying83
  have HB := Aside0.mk (Below.refl w.heap.size w)
  have H : (if a0_0 = 0 then (some (⟨#[117, 110, 100, 101, 102, 105, 110, 101, 100]⟩ : ByteArray)) else (if a0_0 = 1 then (some (⟨#[110, 117, 108, 108]⟩ : ByteArray)) else (if a0_0 = 2 then (if a0_1 = 1 then (some (⟨#[116, 114, 117, 101]⟩ : ByteArray)) else (some (⟨#[102, 97, 108, 115, 101]⟩ : ByteArray))) else (if a0_0 = 3 then ((q6_digits.f k a0_1).bind fun t174 => (some t174)) else (if a0_0 = 4 then (some a0_2) else (some (⟨#[91, 111, 98, 106, 101, 99, 116, 93]⟩ : ByteArray))))))) = some r := h
  clear h
  by_cases c2 : a0_0 = 0
  · rw [if_pos c2] at H
    have c2b0 : (a0_0 == 0) = true := beq_iff_eq.mpr c2
    have c2b1 : (a0_0 != 0) = false := bne_eq_false_iff_eq.mpr c2
    clear c2
    obtain rfl := Option.some.inj H
    go_enter Tryz.func84, Tryz.ntmps84
    go_wp2_with (first | ((with_reducible refine gate_dst (N := 1) rfl ?_); refine zX (N := 1) (cs := #[.int .i64 a0_0, .int .i64 a0_1, .string a0_2]) (t := 83) (h := ?_); intro gb173 hg w3 hbox hb; have BK173 := Aside0.mk hbox; have GW173 := Aside0.mk ((zS : w.heap.size ≤ gb173)); have GE173 := Aside0.mk ((zS : w.heap.size ≤ gb173)); replace HB := Aside0.mk (below_step zB hb); clear hb hbox hg; obtain ⟨hcz4_0, hcz4_1, hcz4_2, hfz4_0, hfz4_1, hfz4_2⟩ := zd3 BK173.out (.int .i64 a0_0) (.int .i64 a0_1) (.string a0_2)))
    go_ret
    exact ⟨zE, zG⟩
  · rw [if_neg c2] at H
    have c2b0 : (a0_0 == 0) = false := beq_eq_false_iff_ne.mpr c2
    have c2b1 : (a0_0 != 0) = true := bne_iff_ne.mpr c2
    by_cases c5 : a0_0 = 1
    · rw [if_pos c5] at H
      have c5b0 : (a0_0 == 1) = true := beq_iff_eq.mpr c5
      have c5b1 : (a0_0 != 1) = false := bne_eq_false_iff_eq.mpr c5
      clear c5
      obtain rfl := Option.some.inj H
      go_enter Tryz.func84, Tryz.ntmps84
      go_wp2_with (first | ((with_reducible refine gate_dst (N := 1) rfl ?_); refine zX (N := 1) (cs := #[.int .i64 a0_0, .int .i64 a0_1, .string a0_2]) (t := 83) (h := ?_); intro gb173 hg w6 hbox hb; have BK173 := Aside0.mk hbox; have GW173 := Aside0.mk ((zS : w.heap.size ≤ gb173)); have GE173 := Aside0.mk ((zS : w.heap.size ≤ gb173)); replace HB := Aside0.mk (below_step zB hb); clear hb hbox hg; obtain ⟨hcz7_0, hcz7_1, hcz7_2, hfz7_0, hfz7_1, hfz7_2⟩ := zd3 BK173.out (.int .i64 a0_0) (.int .i64 a0_1) (.string a0_2)))
      go_ret
      exact ⟨zE, zG⟩
    · rw [if_neg c5] at H
      have c5b0 : (a0_0 == 1) = false := beq_eq_false_iff_ne.mpr c5
      have c5b1 : (a0_0 != 1) = true := bne_iff_ne.mpr c5
      by_cases c8 : a0_0 = 2
      · rw [if_pos c8] at H
        have c8b0 : (a0_0 == 2) = true := beq_iff_eq.mpr c8
        have c8b1 : (a0_0 != 2) = false := bne_eq_false_iff_eq.mpr c8
        clear c8
        by_cases c9 : a0_1 = 1
        · rw [if_pos c9] at H
          have c9b0 : (a0_1 == 1) = true := beq_iff_eq.mpr c9
          have c9b1 : (a0_1 != 1) = false := bne_eq_false_iff_eq.mpr c9
          clear c9
          obtain rfl := Option.some.inj H
          go_enter Tryz.func84, Tryz.ntmps84
          go_wp2_with (first | ((with_reducible refine gate_dst (N := 1) rfl ?_); refine zX (N := 1) (cs := #[.int .i64 a0_0, .int .i64 a0_1, .string a0_2]) (t := 83) (h := ?_); intro gb173 hg w10 hbox hb; have BK173 := Aside0.mk hbox; have GW173 := Aside0.mk ((zS : w.heap.size ≤ gb173)); have GE173 := Aside0.mk ((zS : w.heap.size ≤ gb173)); replace HB := Aside0.mk (below_step zB hb); clear hb hbox hg; obtain ⟨hcz11_0, hcz11_1, hcz11_2, hfz11_0, hfz11_1, hfz11_2⟩ := zd3 BK173.out (.int .i64 a0_0) (.int .i64 a0_1) (.string a0_2)))
          go_ret
          exact ⟨zE, zG⟩
        · rw [if_neg c9] at H
          have c9b0 : (a0_1 == 1) = false := beq_eq_false_iff_ne.mpr c9
          have c9b1 : (a0_1 != 1) = true := bne_iff_ne.mpr c9
          obtain rfl := Option.some.inj H
          go_enter Tryz.func84, Tryz.ntmps84
          go_wp2_with (first | ((with_reducible refine gate_dst (N := 1) rfl ?_); refine zX (N := 1) (cs := #[.int .i64 a0_0, .int .i64 a0_1, .string a0_2]) (t := 83) (h := ?_); intro gb173 hg w12 hbox hb; have BK173 := Aside0.mk hbox; have GW173 := Aside0.mk ((zS : w.heap.size ≤ gb173)); have GE173 := Aside0.mk ((zS : w.heap.size ≤ gb173)); replace HB := Aside0.mk (below_step zB hb); clear hb hbox hg; obtain ⟨hcz13_0, hcz13_1, hcz13_2, hfz13_0, hfz13_1, hfz13_2⟩ := zd3 BK173.out (.int .i64 a0_0) (.int .i64 a0_1) (.string a0_2)))
          go_ret
          exact ⟨zE, zG⟩
      · rw [if_neg c8] at H
        have c8b0 : (a0_0 == 2) = false := beq_eq_false_iff_ne.mpr c8
        have c8b1 : (a0_0 != 2) = true := bne_iff_ne.mpr c8
        by_cases c14 : a0_0 = 3
        · rw [if_pos c14] at H
          have c14b0 : (a0_0 == 3) = true := beq_iff_eq.mpr c14
          have c14b1 : (a0_0 != 3) = false := bne_eq_false_iff_eq.mpr c14
          clear c14
          obtain ⟨t174, A15, H⟩ := zO H
          obtain rfl := Option.some.inj H
          go_enter Tryz.func84, Tryz.ntmps84
          go_wp2_with (first | ((with_reducible refine gate_dst (N := 1) rfl ?_); refine zX (N := 1) (cs := #[.int .i64 a0_0, .int .i64 a0_1, .string a0_2]) (t := 83) (h := ?_); intro gb173 hg w16 hbox hb; have BK173 := Aside0.mk hbox; have GW173 := Aside0.mk ((zS : w.heap.size ≤ gb173)); have GE173 := Aside0.mk ((zS : w.heap.size ≤ gb173)); replace HB := Aside0.mk (below_step zB hb); clear hb hbox hg; obtain ⟨hcz17_0, hcz17_1, hcz17_2, hfz17_0, hfz17_1, hfz17_2⟩ := zd3 BK173.out (.int .i64 a0_0) (.int .i64 a0_1) (.string a0_2)) | ((with_reducible refine gate_callee (f := 97) rfl ?_); refine goesL_ (some 18) rfl rfl Tryz.func97 (by kernel_rfl) rfl #[.int .i64 a0_1] rfl zP ?_; (with_reducible refine (q6_digits.calls k a0_1 t174 _ A15.out).mono ?_); rintro e w18 ⟨rfl, hb⟩; refine ⟨_, rfl, ?_⟩; replace BK173 := Aside0.mk (blk_below (g := gb173) zK hb); replace HB := Aside0.mk (below_step zG hb); (try clear hb)))
          go_ret
          exact ⟨zE, zG⟩
        · rw [if_neg c14] at H
          have c14b0 : (a0_0 == 3) = false := beq_eq_false_iff_ne.mpr c14
          have c14b1 : (a0_0 != 3) = true := bne_iff_ne.mpr c14
          by_cases c19 : a0_0 = 4
          · rw [if_pos c19] at H
            have c19b0 : (a0_0 == 4) = true := beq_iff_eq.mpr c19
            have c19b1 : (a0_0 != 4) = false := bne_eq_false_iff_eq.mpr c19
            clear c19
            obtain rfl := Option.some.inj H
            go_enter Tryz.func84, Tryz.ntmps84
            go_wp2_with (first | ((with_reducible refine gate_dst (N := 1) rfl ?_); refine zX (N := 1) (cs := #[.int .i64 a0_0, .int .i64 a0_1, .string a0_2]) (t := 83) (h := ?_); intro gb173 hg w20 hbox hb; have BK173 := Aside0.mk hbox; have GW173 := Aside0.mk ((zS : w.heap.size ≤ gb173)); have GE173 := Aside0.mk ((zS : w.heap.size ≤ gb173)); replace HB := Aside0.mk (below_step zB hb); clear hb hbox hg; obtain ⟨hcz21_0, hcz21_1, hcz21_2, hfz21_0, hfz21_1, hfz21_2⟩ := zd3 BK173.out (.int .i64 a0_0) (.int .i64 a0_1) (.string a0_2)))
            go_ret
            exact ⟨zE, zG⟩
          · rw [if_neg c19] at H
            have c19b0 : (a0_0 == 4) = false := beq_eq_false_iff_ne.mpr c19
            have c19b1 : (a0_0 != 4) = true := bne_iff_ne.mpr c19
            obtain rfl := Option.some.inj H
            go_enter Tryz.func84, Tryz.ntmps84
            go_wp2_with (first | ((with_reducible refine gate_dst (N := 1) rfl ?_); refine zX (N := 1) (cs := #[.int .i64 a0_0, .int .i64 a0_1, .string a0_2]) (t := 83) (h := ?_); intro gb173 hg w22 hbox hb; have BK173 := Aside0.mk hbox; have GW173 := Aside0.mk ((zS : w.heap.size ≤ gb173)); have GE173 := Aside0.mk ((zS : w.heap.size ≤ gb173)); replace HB := Aside0.mk (below_step zB hb); clear hb hbox hg; obtain ⟨hcz23_0, hcz23_1, hcz23_2, hfz23_0, hfz23_1, hfz23_2⟩ := zd3 BK173.out (.int .i64 a0_0) (.int .i64 a0_1) (.string a0_2)))
            go_ret
            exact ⟨zE, zG⟩
end Go.Proofs.YtjlhhjfmekjbhaaGreatDoor.Pr

