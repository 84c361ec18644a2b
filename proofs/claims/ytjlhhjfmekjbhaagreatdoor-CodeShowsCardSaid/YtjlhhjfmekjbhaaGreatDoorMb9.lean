/- Lemmas for the claims of this seat (own texts, packed; what the claims do not use is left out). No condition. -/
import Derived.Test.YtjlhhjfmekjbhaaGreatDoorMb0
import Derived.Test.YtjlhhjfmekjbhaaGreatDoorMb1
namespace Go.Proofs.YtjlhhjfmekjbhaaGreatDoor.Pq
open Go.RowKit Go.Proofs.YtjlhhjfmekjbhaaGreatDoorW.PrintWords Go.Proofs.YtjlhhjfmekjbhaaGreatDoorW.PrintLast Go.Proofs.YtjlhhjfmekjbhaaGreatDoorW.PrintMore
set_option linter.unusedVariables false
set_option linter.unusedSimpArgs false
/-! ### q9_Marks: function 18 -/
mutual
def q9_Marks.l0 : Nat → List (S28) → List Int → Int → Option (List Int)
 | 0, _, _, _ => none
 | k + 1, x0, x3, x4 => if x4 < (x0.length : Int) then (q9_Marks.l1 k x0 x3 x4 0) else (some x3)
def q9_Marks.l1 : Nat → List (S28) → List Int → Int → Int → Option (List Int)
 | 0, _, _, _, _ => none
 | k + 1, x0, x3, x4, x5 => if 0 ≤ x4 then (if x4 < (x0.length : Int) then (if x5 < (((rd_T28 x0 x4).f1).length : Int) then (if 0 ≤ x5 then (if ((rd_T31 ((rd_T28 x0 x4).f1) x5).f0) = 6 then (if x3.length < 17592186044416 then (q9_Marks.l1 k x0 (x3 ++ [(rd_T31 ((rd_T28 x0 x4).f1) x5).f6]) x4 (wrap64 (x5 + 1))) else (none)) else (if ((rd_T31 ((rd_T28 x0 x4).f1) x5).f0) = 12 then (if x3.length < 17592186044416 then (q9_Marks.l1 k x0 (x3 ++ [(rd_T31 ((rd_T28 x0 x4).f1) x5).f6]) x4 (wrap64 (x5 + 1))) else (none)) else (if ((rd_T31 ((rd_T28 x0 x4).f1) x5).f0) = 13 then (if x3.length < 17592186044416 then (q9_Marks.l1 k x0 (x3 ++ [(rd_T31 ((rd_T28 x0 x4).f1) x5).f6]) x4 (wrap64 (x5 + 1))) else (none)) else (q9_Marks.l1 k x0 x3 x4 (wrap64 (x5 + 1)))))) else (none)) else (q9_Marks.l0 k x0 x3 (wrap64 (x4 + 1)))) else (none)) else (none)
end
def q9_Marks.f (k : Nat) (l0 : List (S28)) : Option (List Int) := q9_Marks.l0 k l0 ([] : List Int) 0
set_option maxHeartbeats 8000000 in
set_option maxRecDepth 100000 in
theorem q9_Marks.calls (k : Nat) (A0 : Option Addr) (c0 : Nat) (l0 : List (S28)) (r : List Int) (w : World) (hr0 : Kd.C k28 w A0 l0.length l0) (hc0 : l0.length ≤ c0) (h : q9_Marks.f k l0 = some r) :
  Calls Tryz.prog 18 #[.slice A0 l0.length c0] w fun e w' => ∃ v0_ : Value, e = .returned (v0_) ∧ Kd.R (Kd.int .i64) 3 w' w.heap.size (fun _ => True) v0_ r ∧ Below w.heap.size w w' := by
 have hu31 := Tryz.underlying31
 have HR0 := Aside0.mk hr0
 have HC0 := Aside0.mk hc0
 clear hr0 hc0
 have HB := Aside0.mk (Below.refl w.heap.size w)
 have H : (q9_Marks.l0 k l0 ([] : List Int) 0) = some r := h
 clear h
 have H' := Aside0.mk H
 clear H
 go_enter Tryz.func18, Tryz.ntmps18
 go_wp2
 go_loopg [3, 4] k (fun kq v3 v4 w' => ∃ (x3_1 : List Int) (x4_1 : Int), v4 = .int .i64 x4_1 ∧ Aside0 (q9_Marks.l0 kq l0 x3_1 x4_1 = some r) ∧ Aside0 (kq ≤ k) ∧ Aside0 (Kd.R (Kd.int .i64) 3 w' w.heap.size (fun _ => True) v3 x3_1) ∧ Aside0 (Below w.heap.size w w'))
 case atStart => exact ⟨(([] : List Int)), (0), zR, H', ⟨Nat.le_refl _⟩, ⟨by first | exact Kd.R_nil _ _ _ _ _ | exact Kd.N_nil _ _ _ _ _ | exact Kd.V_nil _ _ _ _ _ | exact Kd.Q_nil _ _ _ _ _ | exact Kd.S_nil _ _ _ _ _⟩, ⟨zB⟩⟩
 case round =>
  clear H'
  obtain ⟨x3_1, x4_1, rfl, HA, HK1, HO_3, HB⟩ := hrel
  cases gk with
  | zero => exact absurd HA.out (by simp [q9_Marks.l0])
  | succ k1 =>
   have H := HA.out
   clear HA
   simp only [q9_Marks.l0] at H
   by_cases c2 : x4_1 < (l0.length : Int)
   ·rw [if_pos c2] at H
    have c2b0 : decide (x4_1 < (l0.length : Int)) = true := decide_eq_true c2
    clear c2
    have H' := Aside0.mk H
    clear H
    go_wp2
    go_loopg [3, 5] k1 (fun kq v3 v5 w' => ∃ (x3_2 : List Int) (x5_2 : Int), v5 = .int .i64 x5_2 ∧ Aside0 (q9_Marks.l1 kq l0 x3_2 x4_1 x5_2 = some r) ∧ Aside0 (kq ≤ k1) ∧ Aside0 (Kd.R (Kd.int .i64) 3 w' w.heap.size (fun _ => True) v3 x3_2) ∧ Aside0 (Below w.heap.size w w'))
    case atStart => exact ⟨(x3_1), (0), zR, H', ⟨Nat.le_refl _⟩, ⟨by (with_reducible repeat (first | apply Kd.R_alloc | apply Kd.R_drewN | apply Kd.R_drew)); exact HO_3.out⟩, ⟨zB⟩⟩
    case round =>
     clear H'
     clear c2b0
     obtain ⟨x3_2, x5_2, rfl, HA, HK2, HO_3, HB⟩ := hrel
     cases gk with
     | zero => exact absurd HA.out (by simp [q9_Marks.l1])
     | succ k2 =>
      have H := HA.out
      clear HA
      simp only [q9_Marks.l1] at H
      by_cases c3 : 0 ≤ x4_1
      ·rw [if_pos c3] at H
       have c3b0 : decide (0 ≤ x4_1) = true := decide_eq_true c3
       clear c3
       by_cases c4 : x4_1 < (l0.length : Int)
       ·rw [if_pos c4] at H
        have c4b0 : decide (x4_1 < (l0.length : Int)) = true := decide_eq_true c4
        clear c4
        by_cases c5 : x5_2 < (((rd_T28 l0 x4_1).f1).length : Int)
        ·rw [if_pos c5] at H
         have c5b0 : decide (x5_2 < (((rd_T28 l0 x4_1).f1).length : Int)) = true := decide_eq_true c5
         clear c5
         by_cases c6 : 0 ≤ x5_2
         ·rw [if_pos c6] at H
          have c6b0 : decide (0 ≤ x5_2) = true := decide_eq_true c6
          clear c6
          by_cases c7 : ((rd_T31 ((rd_T28 l0 x4_1).f1) x5_2).f0) = 6
          ·rw [if_pos c7] at H
           have c7b0 : (((rd_T31 ((rd_T28 l0 x4_1).f1) x5_2).f0) == 6) = true := beq_iff_eq.mpr c7
           have c7b1 : (((rd_T31 ((rd_T28 l0 x4_1).f1) x5_2).f0) != 6) = false := bne_eq_false_iff_eq.mpr c7
           clear c7
           by_cases c8 : x3_2.length < 17592186044416
           ·rw [if_pos c8] at H
            have LMc8 := Aside0.mk c8
            clear c8
            obtain ⟨y176, hy176⟩ : ∃ y_ : List Int, y_ = (x3_2 ++ [(rd_T31 ((rd_T28 l0 x4_1).f1) x5_2).f6]) := ⟨_, rfl⟩
            replace H : (q9_Marks.l1 k2 l0 y176 x4_1 (wrap64 (x5_2 + 1))) = some r := by first | (rw [hy176]; with_reducible exact H) | (have H2_ := (Option.bind_some _ _).symm.trans H; rw [hy176]; with_reducible exact H2_) | (have H2_ := (Option.bind_some _ _).symm.trans H; with_reducible exact H2_) | with_reducible exact H | (rw [hy176]; exact H) | exact H
            have Ny176 := Aside0.mk hy176
            clear hy176
            have H' := Aside0.mk H
            clear H
            have p172 : 0 ≤ (x4_1 : Int) := of_decide_eq_true zA
            have q172 : x4_1 < (l0.length : Int) := of_decide_eq_true zA
            obtain ⟨ad172, A172_1, c172_1, e172, hx172_0, hx172_1, hl172_1, hi172_1⟩ := at_T28 HR0.out x4_1 p172 q172
            cases e172
            replace hx172_0 := (HB.out.cell (World.block_lt_of_cell? w _ hx172_0)).trans hx172_0
            replace hx172_1 := (HB.out.cell (World.block_lt_of_cell? w _ hx172_1)).trans hx172_1
            have HR172_1 := Aside0.mk hi172_1
            have HC172_1 := Aside0.mk hl172_1
            clear hi172_1 hl172_1
            replace p172 := eq_true p172
            replace q172 := eq_true q172
            have p173 : 0 ≤ (x4_1 : Int) := of_decide_eq_true zA
            have q173 : x4_1 < (l0.length : Int) := of_decide_eq_true zA
            obtain ⟨ad173, A173_1, c173_1, e173, hx173_0, hx173_1, hl173_1, hi173_1⟩ := at_T28 HR0.out x4_1 p173 q173
            obtain rfl : ad172 = ad173 := (by injection e173)
            replace hx173_0 := (HB.out.cell (World.block_lt_of_cell? w _ hx173_0)).trans hx173_0
            replace hx173_1 := (HB.out.cell (World.block_lt_of_cell? w _ hx173_1)).trans hx173_1
            have HR173_1 := Aside0.mk hi173_1
            have HC173_1 := Aside0.mk hl173_1
            clear hi173_1 hl173_1
            replace p173 := eq_true p173
            replace q173 := eq_true q173
            have ea_ := Option.some.inj (hx172_1.symm.trans hx173_1)
            injection ea_ with ea_ en_ ec_
            subst ea_
            subst ec_
            clear en_
            have p174 : 0 ≤ (x5_2 : Int) := of_decide_eq_true zA
            have q174 : x5_2 < (((rd_T28 l0 x4_1).f1).length : Int) := of_decide_eq_true zA
            obtain ⟨ad174, A174_7, c174_7, e174, hx174_0, hx174_1, hx174_2, hx174_3, hx174_4, hx174_5, hx174_6, hx174_7, hl174_7, hi174_7⟩ := at_T31 HR173_1.out x5_2 p174 q174
            cases e174
            replace hx174_0 := (HB.out.cell (World.block_lt_of_cell? w _ hx174_0)).trans hx174_0
            replace hx174_1 := (HB.out.cell (World.block_lt_of_cell? w _ hx174_1)).trans hx174_1
            replace hx174_2 := (HB.out.cell (World.block_lt_of_cell? w _ hx174_2)).trans hx174_2
            replace hx174_3 := (HB.out.cell (World.block_lt_of_cell? w _ hx174_3)).trans hx174_3
            replace hx174_4 := (HB.out.cell (World.block_lt_of_cell? w _ hx174_4)).trans hx174_4
            replace hx174_5 := (HB.out.cell (World.block_lt_of_cell? w _ hx174_5)).trans hx174_5
            replace hx174_6 := (HB.out.cell (World.block_lt_of_cell? w _ hx174_6)).trans hx174_6
            replace hx174_7 := (HB.out.cell (World.block_lt_of_cell? w _ hx174_7)).trans hx174_7
            have HR174_7 := Aside0.mk hi174_7
            have HC174_7 := Aside0.mk hl174_7
            clear hi174_7 hl174_7
            replace p174 := eq_true p174
            replace q174 := eq_true q174
            go_wp2_with (first | ((with_reducible refine gate_dst (N := 6) rfl ?_); refine zX (N := 6) (cs := #[.int .i64 0, .int .i64 0, .int .i64 0, .int .i64 0, .int .i64 0, .string (⟨#[]⟩ : ByteArray), .int .i64 0, .slice none 0 0]) (t := 31) (h := ?_); intro gb175 hg w9 hbox hb; have BK175 := Aside0.mk hbox; have GW175 := Aside0.mk ((zS : w.heap.size ≤ gb175)); have GE175 := Aside0.mk ((zS : w.heap.size ≤ gb175)); replace HO_3 := Aside0.mk (Kd.R_below (by (with_reducible repeat (first | apply Kd.R_alloc | apply Kd.R_drewN | apply Kd.R_drew)); exact HO_3.out) hb); replace HB := Aside0.mk (below_step zB hb); clear hb hbox hg; obtain ⟨hcz10_0, hcz10_1, hcz10_2, hcz10_3, hcz10_4, hcz10_5, hcz10_6, hcz10_7, hfz10_0, hfz10_1, hfz10_2, hfz10_3, hfz10_4, hfz10_5, hfz10_6, hfz10_7⟩ := zd8 BK175.out (.int .i64 0) (.int .i64 0) (.int .i64 0) (.int .i64 0) (.int .i64 0) (.string (⟨#[]⟩ : ByteArray)) (.int .i64 0) (.slice none 0 0)) | ((with_reducible refine gate_builtin (b := .append) (xs := #[.tmp 44, .tmp 47]) rfl ?_); at_builtin; refine Kd.R_append (Kd.int .i64) (w0 := w) w.heap.size rfl (.tmp 44) (.tmp 47) 29 3 (.int .i64 0) 8 rfl Tryz.underlying29 info3 rfl (by decide) (by omega) u3 x3_2 ((rd_T31 ((rd_T28 l0 x4_1).f1) x5_2).f6) [.int .i64 ((rd_T31 ((rd_T28 l0 x4_1).f1) x5_2).f6)] (fun _ => True) (fun _ => False) rfl (by first | (go_simp; done) | (go_simp; rfl)) ?aP (fun _ hk => hk.elim) ?aF ?aO ?aB ?aS ?aL ?_; (case aP => exact rfl); (case aB => exact zG); (case aF => exact (fun _ _ => trivial)); (case aO => exact (by (with_reducible repeat (first | apply Kd.R_alloc | apply Kd.R_drewN | apply Kd.R_drew)); exact Kd.R_mono (Kd.R_far (p := ⟨gb175, 7, none⟩) (Kd.R_far (p := ⟨gb175, 6, none⟩) (Kd.R_far (p := ⟨gb175, 5, none⟩) (Kd.R_far (p := ⟨gb175, 4, none⟩) (Kd.R_far (p := ⟨gb175, 3, none⟩) (Kd.R_far (p := ⟨gb175, 2, none⟩) (Kd.R_far (p := ⟨gb175, 1, none⟩) (Kd.R_far (p := ⟨gb175, 0, none⟩) (Kd.R_types HO_3.out BK175.out (by decide)) (fun _ hk => hk.2) (.int .i64 ((rd_T31 ((rd_T28 l0 x4_1).f1) x5_2).f0))) (fun _ hk => hk.2) (.int .i64 ((rd_T31 ((rd_T28 l0 x4_1).f1) x5_2).f1))) (fun _ hk => hk.2) (.int .i64 ((rd_T31 ((rd_T28 l0 x4_1).f1) x5_2).f2))) (fun _ hk => hk.2) (.int .i64 ((rd_T31 ((rd_T28 l0 x4_1).f1) x5_2).f3))) (fun _ hk => hk.2) (.int .i64 ((rd_T31 ((rd_T28 l0 x4_1).f1) x5_2).f4))) (fun _ hk => hk.2) (.string ((rd_T31 ((rd_T28 l0 x4_1).f1) x5_2).f5))) (fun _ hk => hk.2) (.int .i64 ((rd_T31 ((rd_T28 l0 x4_1).f1) x5_2).f6))) (fun _ hk => hk.2) (.slice A174_7 ((rd_T31 ((rd_T28 l0 x4_1).f1) x5_2).f7).length c174_7)) (fun _ hk => trivial))); (case aS => exact (below_size zG)); (case aL => have := LMc8.out; omega); intro v177 w11 ho hb hg hat; rw [← Ny176.out] at ho; have n0_ := Aside0.mk (blk_grown (g := gb175) (o := .cells #[.int .i64 ((rd_T31 ((rd_T28 l0 x4_1).f1) x5_2).f0), .int .i64 ((rd_T31 ((rd_T28 l0 x4_1).f1) x5_2).f1), .int .i64 ((rd_T31 ((rd_T28 l0 x4_1).f1) x5_2).f2), .int .i64 ((rd_T31 ((rd_T28 l0 x4_1).f1) x5_2).f3), .int .i64 ((rd_T31 ((rd_T28 l0 x4_1).f1) x5_2).f4), .string ((rd_T31 ((rd_T28 l0 x4_1).f1) x5_2).f5), .int .i64 ((rd_T31 ((rd_T28 l0 x4_1).f1) x5_2).f6), .slice A174_7 ((rd_T31 ((rd_T28 l0 x4_1).f1) x5_2).f7).length c174_7] 31 (0, 0)) (by (with_reducible repeat (first | refine blk_drewN ?_ _ | refine blk_drew ?_ | refine blk_alloc ?_ _)); refine blk_put (cs := #[.int .i64 ((rd_T31 ((rd_T28 l0 x4_1).f1) x5_2).f0), .int .i64 ((rd_T31 ((rd_T28 l0 x4_1).f1) x5_2).f1), .int .i64 ((rd_T31 ((rd_T28 l0 x4_1).f1) x5_2).f2), .int .i64 ((rd_T31 ((rd_T28 l0 x4_1).f1) x5_2).f3), .int .i64 ((rd_T31 ((rd_T28 l0 x4_1).f1) x5_2).f4), .string ((rd_T31 ((rd_T28 l0 x4_1).f1) x5_2).f5), .int .i64 ((rd_T31 ((rd_T28 l0 x4_1).f1) x5_2).f6), .slice none 0 0]) ?_ 7 _ rfl; (with_reducible repeat (first | refine blk_drewN ?_ _ | refine blk_drew ?_ | refine blk_alloc ?_ _)); refine blk_put (cs := #[.int .i64 ((rd_T31 ((rd_T28 l0 x4_1).f1) x5_2).f0), .int .i64 ((rd_T31 ((rd_T28 l0 x4_1).f1) x5_2).f1), .int .i64 ((rd_T31 ((rd_T28 l0 x4_1).f1) x5_2).f2), .int .i64 ((rd_T31 ((rd_T28 l0 x4_1).f1) x5_2).f3), .int .i64 ((rd_T31 ((rd_T28 l0 x4_1).f1) x5_2).f4), .string ((rd_T31 ((rd_T28 l0 x4_1).f1) x5_2).f5), .int .i64 0, .slice none 0 0]) ?_ 6 _ rfl; (with_reducible repeat (first | refine blk_drewN ?_ _ | refine blk_drew ?_ | refine blk_alloc ?_ _)); refine blk_put (cs := #[.int .i64 ((rd_T31 ((rd_T28 l0 x4_1).f1) x5_2).f0), .int .i64 ((rd_T31 ((rd_T28 l0 x4_1).f1) x5_2).f1), .int .i64 ((rd_T31 ((rd_T28 l0 x4_1).f1) x5_2).f2), .int .i64 ((rd_T31 ((rd_T28 l0 x4_1).f1) x5_2).f3), .int .i64 ((rd_T31 ((rd_T28 l0 x4_1).f1) x5_2).f4), .string (⟨#[]⟩ : ByteArray), .int .i64 0, .slice none 0 0]) ?_ 5 _ rfl; (with_reducible repeat (first | refine blk_drewN ?_ _ | refine blk_drew ?_ | refine blk_alloc ?_ _)); refine blk_put (cs := #[.int .i64 ((rd_T31 ((rd_T28 l0 x4_1).f1) x5_2).f0), .int .i64 ((rd_T31 ((rd_T28 l0 x4_1).f1) x5_2).f1), .int .i64 ((rd_T31 ((rd_T28 l0 x4_1).f1) x5_2).f2), .int .i64 ((rd_T31 ((rd_T28 l0 x4_1).f1) x5_2).f3), .int .i64 0, .string (⟨#[]⟩ : ByteArray), .int .i64 0, .slice none 0 0]) ?_ 4 _ rfl; (with_reducible repeat (first | refine blk_drewN ?_ _ | refine blk_drew ?_ | refine blk_alloc ?_ _)); refine blk_put (cs := #[.int .i64 ((rd_T31 ((rd_T28 l0 x4_1).f1) x5_2).f0), .int .i64 ((rd_T31 ((rd_T28 l0 x4_1).f1) x5_2).f1), .int .i64 ((rd_T31 ((rd_T28 l0 x4_1).f1) x5_2).f2), .int .i64 0, .int .i64 0, .string (⟨#[]⟩ : ByteArray), .int .i64 0, .slice none 0 0]) ?_ 3 _ rfl; (with_reducible repeat (first | refine blk_drewN ?_ _ | refine blk_drew ?_ | refine blk_alloc ?_ _)); refine blk_put (cs := #[.int .i64 ((rd_T31 ((rd_T28 l0 x4_1).f1) x5_2).f0), .int .i64 ((rd_T31 ((rd_T28 l0 x4_1).f1) x5_2).f1), .int .i64 0, .int .i64 0, .int .i64 0, .string (⟨#[]⟩ : ByteArray), .int .i64 0, .slice none 0 0]) ?_ 2 _ rfl; (with_reducible repeat (first | refine blk_drewN ?_ _ | refine blk_drew ?_ | refine blk_alloc ?_ _)); refine blk_put (cs := #[.int .i64 ((rd_T31 ((rd_T28 l0 x4_1).f1) x5_2).f0), .int .i64 0, .int .i64 0, .int .i64 0, .int .i64 0, .string (⟨#[]⟩ : ByteArray), .int .i64 0, .slice none 0 0]) ?_ 1 _ rfl; (with_reducible repeat (first | refine blk_drewN ?_ _ | refine blk_drew ?_ | refine blk_alloc ?_ _)); refine blk_put (cs := #[.int .i64 0, .int .i64 0, .int .i64 0, .int .i64 0, .int .i64 0, .string (⟨#[]⟩ : ByteArray), .int .i64 0, .slice none 0 0]) ?_ 0 _ rfl; (with_reducible repeat (first | refine blk_drewN ?_ _ | refine blk_drew ?_ | refine blk_alloc ?_ _)); exact BK175.out) hg (Kd.R_ne HO_3.out BK175.out (by decide))); have n1_ := Aside0.mk (hb); have n2_ := Aside0.mk (ho); clear BK175; clear HB; clear HO_3; have BK175 := n0_; have HB := n1_; have HO178 := n2_; clear n0_ n1_ n2_; clear ho hb hg hat))
            go_roundg k2
            case measure => have := HK1.out; have := HK2.out; omega
            case rel => exact ⟨(y176), (wrap64 (x5_2 + 1)), zR, H', ⟨by have := HK1.out; have := HK2.out; omega⟩, ⟨by (with_reducible repeat (first | apply Kd.R_alloc | apply Kd.R_drewN | apply Kd.R_drew)); exact HO178.out⟩, ⟨zG⟩⟩
           ·rw [if_neg c8] at H
            exact absurd H (by simp)
          ·rw [if_neg c7] at H
           have c7b0 : (((rd_T31 ((rd_T28 l0 x4_1).f1) x5_2).f0) == 6) = false := beq_eq_false_iff_ne.mpr c7
           have c7b1 : (((rd_T31 ((rd_T28 l0 x4_1).f1) x5_2).f0) != 6) = true := bne_iff_ne.mpr c7
           by_cases c12 : ((rd_T31 ((rd_T28 l0 x4_1).f1) x5_2).f0) = 12
           ·rw [if_pos c12] at H
            have c12b0 : (((rd_T31 ((rd_T28 l0 x4_1).f1) x5_2).f0) == 12) = true := beq_iff_eq.mpr c12
            have c12b1 : (((rd_T31 ((rd_T28 l0 x4_1).f1) x5_2).f0) != 12) = false := bne_eq_false_iff_eq.mpr c12
            clear c12
            by_cases c13 : x3_2.length < 17592186044416
            ·rw [if_pos c13] at H
             have LMc13 := Aside0.mk c13
             clear c13
             obtain ⟨y179, hy179⟩ : ∃ y_ : List Int, y_ = (x3_2 ++ [(rd_T31 ((rd_T28 l0 x4_1).f1) x5_2).f6]) := ⟨_, rfl⟩
             replace H : (q9_Marks.l1 k2 l0 y179 x4_1 (wrap64 (x5_2 + 1))) = some r := by first | (rw [hy179]; with_reducible exact H) | (have H2_ := (Option.bind_some _ _).symm.trans H; rw [hy179]; with_reducible exact H2_) | (have H2_ := (Option.bind_some _ _).symm.trans H; with_reducible exact H2_) | with_reducible exact H | (rw [hy179]; exact H) | exact H
             have Ny179 := Aside0.mk hy179
             clear hy179
             have H' := Aside0.mk H
             clear H
             have p172 : 0 ≤ (x4_1 : Int) := of_decide_eq_true zA
             have q172 : x4_1 < (l0.length : Int) := of_decide_eq_true zA
             obtain ⟨ad172, A172_1, c172_1, e172, hx172_0, hx172_1, hl172_1, hi172_1⟩ := at_T28 HR0.out x4_1 p172 q172
             cases e172
             replace hx172_0 := (HB.out.cell (World.block_lt_of_cell? w _ hx172_0)).trans hx172_0
             replace hx172_1 := (HB.out.cell (World.block_lt_of_cell? w _ hx172_1)).trans hx172_1
             have HR172_1 := Aside0.mk hi172_1
             have HC172_1 := Aside0.mk hl172_1
             clear hi172_1 hl172_1
             replace p172 := eq_true p172
             replace q172 := eq_true q172
             have p173 : 0 ≤ (x4_1 : Int) := of_decide_eq_true zA
             have q173 : x4_1 < (l0.length : Int) := of_decide_eq_true zA
             obtain ⟨ad173, A173_1, c173_1, e173, hx173_0, hx173_1, hl173_1, hi173_1⟩ := at_T28 HR0.out x4_1 p173 q173
             obtain rfl : ad172 = ad173 := (by injection e173)
             replace hx173_0 := (HB.out.cell (World.block_lt_of_cell? w _ hx173_0)).trans hx173_0
             replace hx173_1 := (HB.out.cell (World.block_lt_of_cell? w _ hx173_1)).trans hx173_1
             have HR173_1 := Aside0.mk hi173_1
             have HC173_1 := Aside0.mk hl173_1
             clear hi173_1 hl173_1
             replace p173 := eq_true p173
             replace q173 := eq_true q173
             have ea_ := Option.some.inj (hx172_1.symm.trans hx173_1)
             injection ea_ with ea_ en_ ec_
             subst ea_
             subst ec_
             clear en_
             have p174 : 0 ≤ (x5_2 : Int) := of_decide_eq_true zA
             have q174 : x5_2 < (((rd_T28 l0 x4_1).f1).length : Int) := of_decide_eq_true zA
             obtain ⟨ad174, A174_7, c174_7, e174, hx174_0, hx174_1, hx174_2, hx174_3, hx174_4, hx174_5, hx174_6, hx174_7, hl174_7, hi174_7⟩ := at_T31 HR173_1.out x5_2 p174 q174
             cases e174
             replace hx174_0 := (HB.out.cell (World.block_lt_of_cell? w _ hx174_0)).trans hx174_0
             replace hx174_1 := (HB.out.cell (World.block_lt_of_cell? w _ hx174_1)).trans hx174_1
             replace hx174_2 := (HB.out.cell (World.block_lt_of_cell? w _ hx174_2)).trans hx174_2
             replace hx174_3 := (HB.out.cell (World.block_lt_of_cell? w _ hx174_3)).trans hx174_3
             replace hx174_4 := (HB.out.cell (World.block_lt_of_cell? w _ hx174_4)).trans hx174_4
             replace hx174_5 := (HB.out.cell (World.block_lt_of_cell? w _ hx174_5)).trans hx174_5
             replace hx174_6 := (HB.out.cell (World.block_lt_of_cell? w _ hx174_6)).trans hx174_6
             replace hx174_7 := (HB.out.cell (World.block_lt_of_cell? w _ hx174_7)).trans hx174_7
             have HR174_7 := Aside0.mk hi174_7
             have HC174_7 := Aside0.mk hl174_7
             clear hi174_7 hl174_7
             replace p174 := eq_true p174
             replace q174 := eq_true q174
             go_wp2_with (first | ((with_reducible refine gate_dst (N := 6) rfl ?_); refine zX (N := 6) (cs := #[.int .i64 0, .int .i64 0, .int .i64 0, .int .i64 0, .int .i64 0, .string (⟨#[]⟩ : ByteArray), .int .i64 0, .slice none 0 0]) (t := 31) (h := ?_); intro gb175 hg w14 hbox hb; have BK175 := Aside0.mk hbox; have GW175 := Aside0.mk ((zS : w.heap.size ≤ gb175)); have GE175 := Aside0.mk ((zS : w.heap.size ≤ gb175)); replace HO_3 := Aside0.mk (Kd.R_below (by (with_reducible repeat (first | apply Kd.R_alloc | apply Kd.R_drewN | apply Kd.R_drew)); exact HO_3.out) hb); replace HB := Aside0.mk (below_step zB hb); clear hb hbox hg; obtain ⟨hcz15_0, hcz15_1, hcz15_2, hcz15_3, hcz15_4, hcz15_5, hcz15_6, hcz15_7, hfz15_0, hfz15_1, hfz15_2, hfz15_3, hfz15_4, hfz15_5, hfz15_6, hfz15_7⟩ := zd8 BK175.out (.int .i64 0) (.int .i64 0) (.int .i64 0) (.int .i64 0) (.int .i64 0) (.string (⟨#[]⟩ : ByteArray)) (.int .i64 0) (.slice none 0 0)) | ((with_reducible refine gate_builtin (b := .append) (xs := #[.tmp 44, .tmp 47]) rfl ?_); at_builtin; refine Kd.R_append (Kd.int .i64) (w0 := w) w.heap.size rfl (.tmp 44) (.tmp 47) 29 3 (.int .i64 0) 8 rfl Tryz.underlying29 info3 rfl (by decide) (by omega) u3 x3_2 ((rd_T31 ((rd_T28 l0 x4_1).f1) x5_2).f6) [.int .i64 ((rd_T31 ((rd_T28 l0 x4_1).f1) x5_2).f6)] (fun _ => True) (fun _ => False) rfl (by first | (go_simp; done) | (go_simp; rfl)) ?aP (fun _ hk => hk.elim) ?aF ?aO ?aB ?aS ?aL ?_; (case aP => exact rfl); (case aB => exact zG); (case aF => exact (fun _ _ => trivial)); (case aO => exact (by (with_reducible repeat (first | apply Kd.R_alloc | apply Kd.R_drewN | apply Kd.R_drew)); exact Kd.R_mono (Kd.R_far (p := ⟨gb175, 7, none⟩) (Kd.R_far (p := ⟨gb175, 6, none⟩) (Kd.R_far (p := ⟨gb175, 5, none⟩) (Kd.R_far (p := ⟨gb175, 4, none⟩) (Kd.R_far (p := ⟨gb175, 3, none⟩) (Kd.R_far (p := ⟨gb175, 2, none⟩) (Kd.R_far (p := ⟨gb175, 1, none⟩) (Kd.R_far (p := ⟨gb175, 0, none⟩) (Kd.R_types HO_3.out BK175.out (by decide)) (fun _ hk => hk.2) (.int .i64 ((rd_T31 ((rd_T28 l0 x4_1).f1) x5_2).f0))) (fun _ hk => hk.2) (.int .i64 ((rd_T31 ((rd_T28 l0 x4_1).f1) x5_2).f1))) (fun _ hk => hk.2) (.int .i64 ((rd_T31 ((rd_T28 l0 x4_1).f1) x5_2).f2))) (fun _ hk => hk.2) (.int .i64 ((rd_T31 ((rd_T28 l0 x4_1).f1) x5_2).f3))) (fun _ hk => hk.2) (.int .i64 ((rd_T31 ((rd_T28 l0 x4_1).f1) x5_2).f4))) (fun _ hk => hk.2) (.string ((rd_T31 ((rd_T28 l0 x4_1).f1) x5_2).f5))) (fun _ hk => hk.2) (.int .i64 ((rd_T31 ((rd_T28 l0 x4_1).f1) x5_2).f6))) (fun _ hk => hk.2) (.slice A174_7 ((rd_T31 ((rd_T28 l0 x4_1).f1) x5_2).f7).length c174_7)) (fun _ hk => trivial))); (case aS => exact (below_size zG)); (case aL => have := LMc13.out; omega); intro v180 w16 ho hb hg hat; rw [← Ny179.out] at ho; have n0_ := Aside0.mk (blk_grown (g := gb175) (o := .cells #[.int .i64 ((rd_T31 ((rd_T28 l0 x4_1).f1) x5_2).f0), .int .i64 ((rd_T31 ((rd_T28 l0 x4_1).f1) x5_2).f1), .int .i64 ((rd_T31 ((rd_T28 l0 x4_1).f1) x5_2).f2), .int .i64 ((rd_T31 ((rd_T28 l0 x4_1).f1) x5_2).f3), .int .i64 ((rd_T31 ((rd_T28 l0 x4_1).f1) x5_2).f4), .string ((rd_T31 ((rd_T28 l0 x4_1).f1) x5_2).f5), .int .i64 ((rd_T31 ((rd_T28 l0 x4_1).f1) x5_2).f6), .slice A174_7 ((rd_T31 ((rd_T28 l0 x4_1).f1) x5_2).f7).length c174_7] 31 (0, 0)) (by (with_reducible repeat (first | refine blk_drewN ?_ _ | refine blk_drew ?_ | refine blk_alloc ?_ _)); refine blk_put (cs := #[.int .i64 ((rd_T31 ((rd_T28 l0 x4_1).f1) x5_2).f0), .int .i64 ((rd_T31 ((rd_T28 l0 x4_1).f1) x5_2).f1), .int .i64 ((rd_T31 ((rd_T28 l0 x4_1).f1) x5_2).f2), .int .i64 ((rd_T31 ((rd_T28 l0 x4_1).f1) x5_2).f3), .int .i64 ((rd_T31 ((rd_T28 l0 x4_1).f1) x5_2).f4), .string ((rd_T31 ((rd_T28 l0 x4_1).f1) x5_2).f5), .int .i64 ((rd_T31 ((rd_T28 l0 x4_1).f1) x5_2).f6), .slice none 0 0]) ?_ 7 _ rfl; (with_reducible repeat (first | refine blk_drewN ?_ _ | refine blk_drew ?_ | refine blk_alloc ?_ _)); refine blk_put (cs := #[.int .i64 ((rd_T31 ((rd_T28 l0 x4_1).f1) x5_2).f0), .int .i64 ((rd_T31 ((rd_T28 l0 x4_1).f1) x5_2).f1), .int .i64 ((rd_T31 ((rd_T28 l0 x4_1).f1) x5_2).f2), .int .i64 ((rd_T31 ((rd_T28 l0 x4_1).f1) x5_2).f3), .int .i64 ((rd_T31 ((rd_T28 l0 x4_1).f1) x5_2).f4), .string ((rd_T31 ((rd_T28 l0 x4_1).f1) x5_2).f5), .int .i64 0, .slice none 0 0]) ?_ 6 _ rfl; (with_reducible repeat (first | refine blk_drewN ?_ _ | refine blk_drew ?_ | refine blk_alloc ?_ _)); refine blk_put (cs := #[.int .i64 ((rd_T31 ((rd_T28 l0 x4_1).f1) x5_2).f0), .int .i64 ((rd_T31 ((rd_T28 l0 x4_1).f1) x5_2).f1), .int .i64 ((rd_T31 ((rd_T28 l0 x4_1).f1) x5_2).f2), .int .i64 ((rd_T31 ((rd_T28 l0 x4_1).f1) x5_2).f3), .int .i64 ((rd_T31 ((rd_T28 l0 x4_1).f1) x5_2).f4), .string (⟨#[]⟩ : ByteArray), .int .i64 0, .slice none 0 0]) ?_ 5 _ rfl; (with_reducible repeat (first | refine blk_drewN ?_ _ | refine blk_drew ?_ | refine blk_alloc ?_ _)); refine blk_put (cs := #[.int .i64 ((rd_T31 ((rd_T28 l0 x4_1).f1) x5_2).f0), .int .i64 ((rd_T31 ((rd_T28 l0 x4_1).f1) x5_2).f1), .int .i64 ((rd_T31 ((rd_T28 l0 x4_1).f1) x5_2).f2), .int .i64 ((rd_T31 ((rd_T28 l0 x4_1).f1) x5_2).f3), .int .i64 0, .string (⟨#[]⟩ : ByteArray), .int .i64 0, .slice none 0 0]) ?_ 4 _ rfl; (with_reducible repeat (first | refine blk_drewN ?_ _ | refine blk_drew ?_ | refine blk_alloc ?_ _)); refine blk_put (cs := #[.int .i64 ((rd_T31 ((rd_T28 l0 x4_1).f1) x5_2).f0), .int .i64 ((rd_T31 ((rd_T28 l0 x4_1).f1) x5_2).f1), .int .i64 ((rd_T31 ((rd_T28 l0 x4_1).f1) x5_2).f2), .int .i64 0, .int .i64 0, .string (⟨#[]⟩ : ByteArray), .int .i64 0, .slice none 0 0]) ?_ 3 _ rfl; (with_reducible repeat (first | refine blk_drewN ?_ _ | refine blk_drew ?_ | refine blk_alloc ?_ _)); refine blk_put (cs := #[.int .i64 ((rd_T31 ((rd_T28 l0 x4_1).f1) x5_2).f0), .int .i64 ((rd_T31 ((rd_T28 l0 x4_1).f1) x5_2).f1), .int .i64 0, .int .i64 0, .int .i64 0, .string (⟨#[]⟩ : ByteArray), .int .i64 0, .slice none 0 0]) ?_ 2 _ rfl; (with_reducible repeat (first | refine blk_drewN ?_ _ | refine blk_drew ?_ | refine blk_alloc ?_ _)); refine blk_put (cs := #[.int .i64 ((rd_T31 ((rd_T28 l0 x4_1).f1) x5_2).f0), .int .i64 0, .int .i64 0, .int .i64 0, .int .i64 0, .string (⟨#[]⟩ : ByteArray), .int .i64 0, .slice none 0 0]) ?_ 1 _ rfl; (with_reducible repeat (first | refine blk_drewN ?_ _ | refine blk_drew ?_ | refine blk_alloc ?_ _)); refine blk_put (cs := #[.int .i64 0, .int .i64 0, .int .i64 0, .int .i64 0, .int .i64 0, .string (⟨#[]⟩ : ByteArray), .int .i64 0, .slice none 0 0]) ?_ 0 _ rfl; (with_reducible repeat (first | refine blk_drewN ?_ _ | refine blk_drew ?_ | refine blk_alloc ?_ _)); exact BK175.out) hg (Kd.R_ne HO_3.out BK175.out (by decide))); have n1_ := Aside0.mk (hb); have n2_ := Aside0.mk (ho); clear BK175; clear HB; clear HO_3; have BK175 := n0_; have HB := n1_; have HO181 := n2_; clear n0_ n1_ n2_; clear ho hb hg hat))
             go_roundg k2
             case measure => have := HK1.out; have := HK2.out; omega
             case rel => exact ⟨(y179), (wrap64 (x5_2 + 1)), zR, H', ⟨by have := HK1.out; have := HK2.out; omega⟩, ⟨by (with_reducible repeat (first | apply Kd.R_alloc | apply Kd.R_drewN | apply Kd.R_drew)); exact HO181.out⟩, ⟨zG⟩⟩
            ·rw [if_neg c13] at H
             exact absurd H (by simp)
           ·rw [if_neg c12] at H
            have c12b0 : (((rd_T31 ((rd_T28 l0 x4_1).f1) x5_2).f0) == 12) = false := beq_eq_false_iff_ne.mpr c12
            have c12b1 : (((rd_T31 ((rd_T28 l0 x4_1).f1) x5_2).f0) != 12) = true := bne_iff_ne.mpr c12
            by_cases c17 : ((rd_T31 ((rd_T28 l0 x4_1).f1) x5_2).f0) = 13
            ·rw [if_pos c17] at H
             have c17b0 : (((rd_T31 ((rd_T28 l0 x4_1).f1) x5_2).f0) == 13) = true := beq_iff_eq.mpr c17
             have c17b1 : (((rd_T31 ((rd_T28 l0 x4_1).f1) x5_2).f0) != 13) = false := bne_eq_false_iff_eq.mpr c17
             clear c17
             by_cases c18 : x3_2.length < 17592186044416
             ·rw [if_pos c18] at H
              have LMc18 := Aside0.mk c18
              clear c18
              obtain ⟨y182, hy182⟩ : ∃ y_ : List Int, y_ = (x3_2 ++ [(rd_T31 ((rd_T28 l0 x4_1).f1) x5_2).f6]) := ⟨_, rfl⟩
              replace H : (q9_Marks.l1 k2 l0 y182 x4_1 (wrap64 (x5_2 + 1))) = some r := by first | (rw [hy182]; with_reducible exact H) | (have H2_ := (Option.bind_some _ _).symm.trans H; rw [hy182]; with_reducible exact H2_) | (have H2_ := (Option.bind_some _ _).symm.trans H; with_reducible exact H2_) | with_reducible exact H | (rw [hy182]; exact H) | exact H
              have Ny182 := Aside0.mk hy182
              clear hy182
              have H' := Aside0.mk H
              clear H
              have p172 : 0 ≤ (x4_1 : Int) := of_decide_eq_true zA
              have q172 : x4_1 < (l0.length : Int) := of_decide_eq_true zA
              obtain ⟨ad172, A172_1, c172_1, e172, hx172_0, hx172_1, hl172_1, hi172_1⟩ := at_T28 HR0.out x4_1 p172 q172
              cases e172
              replace hx172_0 := (HB.out.cell (World.block_lt_of_cell? w _ hx172_0)).trans hx172_0
              replace hx172_1 := (HB.out.cell (World.block_lt_of_cell? w _ hx172_1)).trans hx172_1
              have HR172_1 := Aside0.mk hi172_1
              have HC172_1 := Aside0.mk hl172_1
              clear hi172_1 hl172_1
              replace p172 := eq_true p172
              replace q172 := eq_true q172
              have p173 : 0 ≤ (x4_1 : Int) := of_decide_eq_true zA
              have q173 : x4_1 < (l0.length : Int) := of_decide_eq_true zA
              obtain ⟨ad173, A173_1, c173_1, e173, hx173_0, hx173_1, hl173_1, hi173_1⟩ := at_T28 HR0.out x4_1 p173 q173
              obtain rfl : ad172 = ad173 := (by injection e173)
              replace hx173_0 := (HB.out.cell (World.block_lt_of_cell? w _ hx173_0)).trans hx173_0
              replace hx173_1 := (HB.out.cell (World.block_lt_of_cell? w _ hx173_1)).trans hx173_1
              have HR173_1 := Aside0.mk hi173_1
              have HC173_1 := Aside0.mk hl173_1
              clear hi173_1 hl173_1
              replace p173 := eq_true p173
              replace q173 := eq_true q173
              have ea_ := Option.some.inj (hx172_1.symm.trans hx173_1)
              injection ea_ with ea_ en_ ec_
              subst ea_
              subst ec_
              clear en_
              have p174 : 0 ≤ (x5_2 : Int) := of_decide_eq_true zA
              have q174 : x5_2 < (((rd_T28 l0 x4_1).f1).length : Int) := of_decide_eq_true zA
              obtain ⟨ad174, A174_7, c174_7, e174, hx174_0, hx174_1, hx174_2, hx174_3, hx174_4, hx174_5, hx174_6, hx174_7, hl174_7, hi174_7⟩ := at_T31 HR173_1.out x5_2 p174 q174
              cases e174
              replace hx174_0 := (HB.out.cell (World.block_lt_of_cell? w _ hx174_0)).trans hx174_0
              replace hx174_1 := (HB.out.cell (World.block_lt_of_cell? w _ hx174_1)).trans hx174_1
              replace hx174_2 := (HB.out.cell (World.block_lt_of_cell? w _ hx174_2)).trans hx174_2
              replace hx174_3 := (HB.out.cell (World.block_lt_of_cell? w _ hx174_3)).trans hx174_3
              replace hx174_4 := (HB.out.cell (World.block_lt_of_cell? w _ hx174_4)).trans hx174_4
              replace hx174_5 := (HB.out.cell (World.block_lt_of_cell? w _ hx174_5)).trans hx174_5
              replace hx174_6 := (HB.out.cell (World.block_lt_of_cell? w _ hx174_6)).trans hx174_6
              replace hx174_7 := (HB.out.cell (World.block_lt_of_cell? w _ hx174_7)).trans hx174_7
              have HR174_7 := Aside0.mk hi174_7
              have HC174_7 := Aside0.mk hl174_7
              clear hi174_7 hl174_7
              replace p174 := eq_true p174
              replace q174 := eq_true q174
              go_wp2_with (first | ((with_reducible refine gate_dst (N := 6) rfl ?_); refine zX (N := 6) (cs := #[.int .i64 0, .int .i64 0, .int .i64 0, .int .i64 0, .int .i64 0, .string (⟨#[]⟩ : ByteArray), .int .i64 0, .slice none 0 0]) (t := 31) (h := ?_); intro gb175 hg w19 hbox hb; have BK175 := Aside0.mk hbox; have GW175 := Aside0.mk ((zS : w.heap.size ≤ gb175)); have GE175 := Aside0.mk ((zS : w.heap.size ≤ gb175)); replace HO_3 := Aside0.mk (Kd.R_below (by (with_reducible repeat (first | apply Kd.R_alloc | apply Kd.R_drewN | apply Kd.R_drew)); exact HO_3.out) hb); replace HB := Aside0.mk (below_step zB hb); clear hb hbox hg; obtain ⟨hcz20_0, hcz20_1, hcz20_2, hcz20_3, hcz20_4, hcz20_5, hcz20_6, hcz20_7, hfz20_0, hfz20_1, hfz20_2, hfz20_3, hfz20_4, hfz20_5, hfz20_6, hfz20_7⟩ := zd8 BK175.out (.int .i64 0) (.int .i64 0) (.int .i64 0) (.int .i64 0) (.int .i64 0) (.string (⟨#[]⟩ : ByteArray)) (.int .i64 0) (.slice none 0 0)) | ((with_reducible refine gate_builtin (b := .append) (xs := #[.tmp 44, .tmp 47]) rfl ?_); at_builtin; refine Kd.R_append (Kd.int .i64) (w0 := w) w.heap.size rfl (.tmp 44) (.tmp 47) 29 3 (.int .i64 0) 8 rfl Tryz.underlying29 info3 rfl (by decide) (by omega) u3 x3_2 ((rd_T31 ((rd_T28 l0 x4_1).f1) x5_2).f6) [.int .i64 ((rd_T31 ((rd_T28 l0 x4_1).f1) x5_2).f6)] (fun _ => True) (fun _ => False) rfl (by first | (go_simp; done) | (go_simp; rfl)) ?aP (fun _ hk => hk.elim) ?aF ?aO ?aB ?aS ?aL ?_; (case aP => exact rfl); (case aB => exact zG); (case aF => exact (fun _ _ => trivial)); (case aO => exact (by (with_reducible repeat (first | apply Kd.R_alloc | apply Kd.R_drewN | apply Kd.R_drew)); exact Kd.R_mono (Kd.R_far (p := ⟨gb175, 7, none⟩) (Kd.R_far (p := ⟨gb175, 6, none⟩) (Kd.R_far (p := ⟨gb175, 5, none⟩) (Kd.R_far (p := ⟨gb175, 4, none⟩) (Kd.R_far (p := ⟨gb175, 3, none⟩) (Kd.R_far (p := ⟨gb175, 2, none⟩) (Kd.R_far (p := ⟨gb175, 1, none⟩) (Kd.R_far (p := ⟨gb175, 0, none⟩) (Kd.R_types HO_3.out BK175.out (by decide)) (fun _ hk => hk.2) (.int .i64 ((rd_T31 ((rd_T28 l0 x4_1).f1) x5_2).f0))) (fun _ hk => hk.2) (.int .i64 ((rd_T31 ((rd_T28 l0 x4_1).f1) x5_2).f1))) (fun _ hk => hk.2) (.int .i64 ((rd_T31 ((rd_T28 l0 x4_1).f1) x5_2).f2))) (fun _ hk => hk.2) (.int .i64 ((rd_T31 ((rd_T28 l0 x4_1).f1) x5_2).f3))) (fun _ hk => hk.2) (.int .i64 ((rd_T31 ((rd_T28 l0 x4_1).f1) x5_2).f4))) (fun _ hk => hk.2) (.string ((rd_T31 ((rd_T28 l0 x4_1).f1) x5_2).f5))) (fun _ hk => hk.2) (.int .i64 ((rd_T31 ((rd_T28 l0 x4_1).f1) x5_2).f6))) (fun _ hk => hk.2) (.slice A174_7 ((rd_T31 ((rd_T28 l0 x4_1).f1) x5_2).f7).length c174_7)) (fun _ hk => trivial))); (case aS => exact (below_size zG)); (case aL => have := LMc18.out; omega); intro v183 w21 ho hb hg hat; rw [← Ny182.out] at ho; have n0_ := Aside0.mk (blk_grown (g := gb175) (o := .cells #[.int .i64 ((rd_T31 ((rd_T28 l0 x4_1).f1) x5_2).f0), .int .i64 ((rd_T31 ((rd_T28 l0 x4_1).f1) x5_2).f1), .int .i64 ((rd_T31 ((rd_T28 l0 x4_1).f1) x5_2).f2), .int .i64 ((rd_T31 ((rd_T28 l0 x4_1).f1) x5_2).f3), .int .i64 ((rd_T31 ((rd_T28 l0 x4_1).f1) x5_2).f4), .string ((rd_T31 ((rd_T28 l0 x4_1).f1) x5_2).f5), .int .i64 ((rd_T31 ((rd_T28 l0 x4_1).f1) x5_2).f6), .slice A174_7 ((rd_T31 ((rd_T28 l0 x4_1).f1) x5_2).f7).length c174_7] 31 (0, 0)) (by (with_reducible repeat (first | refine blk_drewN ?_ _ | refine blk_drew ?_ | refine blk_alloc ?_ _)); refine blk_put (cs := #[.int .i64 ((rd_T31 ((rd_T28 l0 x4_1).f1) x5_2).f0), .int .i64 ((rd_T31 ((rd_T28 l0 x4_1).f1) x5_2).f1), .int .i64 ((rd_T31 ((rd_T28 l0 x4_1).f1) x5_2).f2), .int .i64 ((rd_T31 ((rd_T28 l0 x4_1).f1) x5_2).f3), .int .i64 ((rd_T31 ((rd_T28 l0 x4_1).f1) x5_2).f4), .string ((rd_T31 ((rd_T28 l0 x4_1).f1) x5_2).f5), .int .i64 ((rd_T31 ((rd_T28 l0 x4_1).f1) x5_2).f6), .slice none 0 0]) ?_ 7 _ rfl; (with_reducible repeat (first | refine blk_drewN ?_ _ | refine blk_drew ?_ | refine blk_alloc ?_ _)); refine blk_put (cs := #[.int .i64 ((rd_T31 ((rd_T28 l0 x4_1).f1) x5_2).f0), .int .i64 ((rd_T31 ((rd_T28 l0 x4_1).f1) x5_2).f1), .int .i64 ((rd_T31 ((rd_T28 l0 x4_1).f1) x5_2).f2), .int .i64 ((rd_T31 ((rd_T28 l0 x4_1).f1) x5_2).f3), .int .i64 ((rd_T31 ((rd_T28 l0 x4_1).f1) x5_2).f4), .string ((rd_T31 ((rd_T28 l0 x4_1).f1) x5_2).f5), .int .i64 0, .slice none 0 0]) ?_ 6 _ rfl; (with_reducible repeat (first | refine blk_drewN ?_ _ | refine blk_drew ?_ | refine blk_alloc ?_ _)); refine blk_put (cs := #[.int .i64 ((rd_T31 ((rd_T28 l0 x4_1).f1) x5_2).f0), .int .i64 ((rd_T31 ((rd_T28 l0 x4_1).f1) x5_2).f1), .int .i64 ((rd_T31 ((rd_T28 l0 x4_1).f1) x5_2).f2), .int .i64 ((rd_T31 ((rd_T28 l0 x4_1).f1) x5_2).f3), .int .i64 ((rd_T31 ((rd_T28 l0 x4_1).f1) x5_2).f4), .string (⟨#[]⟩ : ByteArray), .int .i64 0, .slice none 0 0]) ?_ 5 _ rfl; (with_reducible repeat (first | refine blk_drewN ?_ _ | refine blk_drew ?_ | refine blk_alloc ?_ _)); refine blk_put (cs := #[.int .i64 ((rd_T31 ((rd_T28 l0 x4_1).f1) x5_2).f0), .int .i64 ((rd_T31 ((rd_T28 l0 x4_1).f1) x5_2).f1), .int .i64 ((rd_T31 ((rd_T28 l0 x4_1).f1) x5_2).f2), .int .i64 ((rd_T31 ((rd_T28 l0 x4_1).f1) x5_2).f3), .int .i64 0, .string (⟨#[]⟩ : ByteArray), .int .i64 0, .slice none 0 0]) ?_ 4 _ rfl; (with_reducible repeat (first | refine blk_drewN ?_ _ | refine blk_drew ?_ | refine blk_alloc ?_ _)); refine blk_put (cs := #[.int .i64 ((rd_T31 ((rd_T28 l0 x4_1).f1) x5_2).f0), .int .i64 ((rd_T31 ((rd_T28 l0 x4_1).f1) x5_2).f1), .int .i64 ((rd_T31 ((rd_T28 l0 x4_1).f1) x5_2).f2), .int .i64 0, .int .i64 0, .string (⟨#[]⟩ : ByteArray), .int .i64 0, .slice none 0 0]) ?_ 3 _ rfl; (with_reducible repeat (first | refine blk_drewN ?_ _ | refine blk_drew ?_ | refine blk_alloc ?_ _)); refine blk_put (cs := #[.int .i64 ((rd_T31 ((rd_T28 l0 x4_1).f1) x5_2).f0), .int .i64 ((rd_T31 ((rd_T28 l0 x4_1).f1) x5_2).f1), .int .i64 0, .int .i64 0, .int .i64 0, .string (⟨#[]⟩ : ByteArray), .int .i64 0, .slice none 0 0]) ?_ 2 _ rfl; (with_reducible repeat (first | refine blk_drewN ?_ _ | refine blk_drew ?_ | refine blk_alloc ?_ _)); refine blk_put (cs := #[.int .i64 ((rd_T31 ((rd_T28 l0 x4_1).f1) x5_2).f0), .int .i64 0, .int .i64 0, .int .i64 0, .int .i64 0, .string (⟨#[]⟩ : ByteArray), .int .i64 0, .slice none 0 0]) ?_ 1 _ rfl; (with_reducible repeat (first | refine blk_drewN ?_ _ | refine blk_drew ?_ | refine blk_alloc ?_ _)); refine blk_put (cs := #[.int .i64 0, .int .i64 0, .int .i64 0, .int .i64 0, .int .i64 0, .string (⟨#[]⟩ : ByteArray), .int .i64 0, .slice none 0 0]) ?_ 0 _ rfl; (with_reducible repeat (first | refine blk_drewN ?_ _ | refine blk_drew ?_ | refine blk_alloc ?_ _)); exact BK175.out) hg (Kd.R_ne HO_3.out BK175.out (by decide))); have n1_ := Aside0.mk (hb); have n2_ := Aside0.mk (ho); clear BK175; clear HB; clear HO_3; have BK175 := n0_; have HB := n1_; have HO184 := n2_; clear n0_ n1_ n2_; clear ho hb hg hat))
              go_roundg k2
              case measure => have := HK1.out; have := HK2.out; omega
              case rel => exact ⟨(y182), (wrap64 (x5_2 + 1)), zR, H', ⟨by have := HK1.out; have := HK2.out; omega⟩, ⟨by (with_reducible repeat (first | apply Kd.R_alloc | apply Kd.R_drewN | apply Kd.R_drew)); exact HO184.out⟩, ⟨zG⟩⟩
             ·rw [if_neg c18] at H
              exact absurd H (by simp)
            ·rw [if_neg c17] at H
             have c17b0 : (((rd_T31 ((rd_T28 l0 x4_1).f1) x5_2).f0) == 13) = false := beq_eq_false_iff_ne.mpr c17
             have c17b1 : (((rd_T31 ((rd_T28 l0 x4_1).f1) x5_2).f0) != 13) = true := bne_iff_ne.mpr c17
             have H' := Aside0.mk H
             clear H
             have p172 : 0 ≤ (x4_1 : Int) := of_decide_eq_true zA
             have q172 : x4_1 < (l0.length : Int) := of_decide_eq_true zA
             obtain ⟨ad172, A172_1, c172_1, e172, hx172_0, hx172_1, hl172_1, hi172_1⟩ := at_T28 HR0.out x4_1 p172 q172
             cases e172
             replace hx172_0 := (HB.out.cell (World.block_lt_of_cell? w _ hx172_0)).trans hx172_0
             replace hx172_1 := (HB.out.cell (World.block_lt_of_cell? w _ hx172_1)).trans hx172_1
             have HR172_1 := Aside0.mk hi172_1
             have HC172_1 := Aside0.mk hl172_1
             clear hi172_1 hl172_1
             replace p172 := eq_true p172
             replace q172 := eq_true q172
             have p173 : 0 ≤ (x4_1 : Int) := of_decide_eq_true zA
             have q173 : x4_1 < (l0.length : Int) := of_decide_eq_true zA
             obtain ⟨ad173, A173_1, c173_1, e173, hx173_0, hx173_1, hl173_1, hi173_1⟩ := at_T28 HR0.out x4_1 p173 q173
             obtain rfl : ad172 = ad173 := (by injection e173)
             replace hx173_0 := (HB.out.cell (World.block_lt_of_cell? w _ hx173_0)).trans hx173_0
             replace hx173_1 := (HB.out.cell (World.block_lt_of_cell? w _ hx173_1)).trans hx173_1
             have HR173_1 := Aside0.mk hi173_1
             have HC173_1 := Aside0.mk hl173_1
             clear hi173_1 hl173_1
             replace p173 := eq_true p173
             replace q173 := eq_true q173
             have ea_ := Option.some.inj (hx172_1.symm.trans hx173_1)
             injection ea_ with ea_ en_ ec_
             subst ea_
             subst ec_
             clear en_
             have p174 : 0 ≤ (x5_2 : Int) := of_decide_eq_true zA
             have q174 : x5_2 < (((rd_T28 l0 x4_1).f1).length : Int) := of_decide_eq_true zA
             obtain ⟨ad174, A174_7, c174_7, e174, hx174_0, hx174_1, hx174_2, hx174_3, hx174_4, hx174_5, hx174_6, hx174_7, hl174_7, hi174_7⟩ := at_T31 HR173_1.out x5_2 p174 q174
             cases e174
             replace hx174_0 := (HB.out.cell (World.block_lt_of_cell? w _ hx174_0)).trans hx174_0
             replace hx174_1 := (HB.out.cell (World.block_lt_of_cell? w _ hx174_1)).trans hx174_1
             replace hx174_2 := (HB.out.cell (World.block_lt_of_cell? w _ hx174_2)).trans hx174_2
             replace hx174_3 := (HB.out.cell (World.block_lt_of_cell? w _ hx174_3)).trans hx174_3
             replace hx174_4 := (HB.out.cell (World.block_lt_of_cell? w _ hx174_4)).trans hx174_4
             replace hx174_5 := (HB.out.cell (World.block_lt_of_cell? w _ hx174_5)).trans hx174_5
             replace hx174_6 := (HB.out.cell (World.block_lt_of_cell? w _ hx174_6)).trans hx174_6
             replace hx174_7 := (HB.out.cell (World.block_lt_of_cell? w _ hx174_7)).trans hx174_7
             have HR174_7 := Aside0.mk hi174_7
             have HC174_7 := Aside0.mk hl174_7
             clear hi174_7 hl174_7
             replace p174 := eq_true p174
             replace q174 := eq_true q174
             go_wp2_with (first | ((with_reducible refine gate_dst (N := 6) rfl ?_); refine zX (N := 6) (cs := #[.int .i64 0, .int .i64 0, .int .i64 0, .int .i64 0, .int .i64 0, .string (⟨#[]⟩ : ByteArray), .int .i64 0, .slice none 0 0]) (t := 31) (h := ?_); intro gb175 hg w22 hbox hb; have BK175 := Aside0.mk hbox; have GW175 := Aside0.mk ((zS : w.heap.size ≤ gb175)); have GE175 := Aside0.mk ((zS : w.heap.size ≤ gb175)); replace HO_3 := Aside0.mk (Kd.R_below (by (with_reducible repeat (first | apply Kd.R_alloc | apply Kd.R_drewN | apply Kd.R_drew)); exact HO_3.out) hb); replace HB := Aside0.mk (below_step zB hb); clear hb hbox hg; obtain ⟨hcz23_0, hcz23_1, hcz23_2, hcz23_3, hcz23_4, hcz23_5, hcz23_6, hcz23_7, hfz23_0, hfz23_1, hfz23_2, hfz23_3, hfz23_4, hfz23_5, hfz23_6, hfz23_7⟩ := zd8 BK175.out (.int .i64 0) (.int .i64 0) (.int .i64 0) (.int .i64 0) (.int .i64 0) (.string (⟨#[]⟩ : ByteArray)) (.int .i64 0) (.slice none 0 0)))
             go_roundg k2
             case measure => have := HK1.out; have := HK2.out; omega
             case rel => exact ⟨(x3_2), (wrap64 (x5_2 + 1)), zR, H', ⟨by have := HK1.out; have := HK2.out; omega⟩, ⟨by (with_reducible repeat (first | apply Kd.R_alloc | apply Kd.R_drewN | apply Kd.R_drew)); exact Kd.R_mono (Kd.R_far (p := ⟨gb175, 7, none⟩) (Kd.R_far (p := ⟨gb175, 6, none⟩) (Kd.R_far (p := ⟨gb175, 5, none⟩) (Kd.R_far (p := ⟨gb175, 4, none⟩) (Kd.R_far (p := ⟨gb175, 3, none⟩) (Kd.R_far (p := ⟨gb175, 2, none⟩) (Kd.R_far (p := ⟨gb175, 1, none⟩) (Kd.R_far (p := ⟨gb175, 0, none⟩) (Kd.R_types HO_3.out BK175.out (by decide)) (fun _ hk => hk.2) (.int .i64 ((rd_T31 ((rd_T28 l0 x4_1).f1) x5_2).f0))) (fun _ hk => hk.2) (.int .i64 ((rd_T31 ((rd_T28 l0 x4_1).f1) x5_2).f1))) (fun _ hk => hk.2) (.int .i64 ((rd_T31 ((rd_T28 l0 x4_1).f1) x5_2).f2))) (fun _ hk => hk.2) (.int .i64 ((rd_T31 ((rd_T28 l0 x4_1).f1) x5_2).f3))) (fun _ hk => hk.2) (.int .i64 ((rd_T31 ((rd_T28 l0 x4_1).f1) x5_2).f4))) (fun _ hk => hk.2) (.string ((rd_T31 ((rd_T28 l0 x4_1).f1) x5_2).f5))) (fun _ hk => hk.2) (.int .i64 ((rd_T31 ((rd_T28 l0 x4_1).f1) x5_2).f6))) (fun _ hk => hk.2) (.slice A174_7 ((rd_T31 ((rd_T28 l0 x4_1).f1) x5_2).f7).length c174_7)) (fun _ hk => trivial)⟩, ⟨zG⟩⟩
         ·rw [if_neg c6] at H
          exact absurd H (by simp)
        ·rw [if_neg c5] at H
         have c5b0 : decide (x5_2 < (((rd_T28 l0 x4_1).f1).length : Int)) = false := decide_eq_false c5
         clear c5
         have H' := Aside0.mk H
         clear H
         have p172 : 0 ≤ (x4_1 : Int) := of_decide_eq_true zA
         have q172 : x4_1 < (l0.length : Int) := of_decide_eq_true zA
         obtain ⟨ad172, A172_1, c172_1, e172, hx172_0, hx172_1, hl172_1, hi172_1⟩ := at_T28 HR0.out x4_1 p172 q172
         cases e172
         replace hx172_0 := (HB.out.cell (World.block_lt_of_cell? w _ hx172_0)).trans hx172_0
         replace hx172_1 := (HB.out.cell (World.block_lt_of_cell? w _ hx172_1)).trans hx172_1
         have HR172_1 := Aside0.mk hi172_1
         have HC172_1 := Aside0.mk hl172_1
         clear hi172_1 hl172_1
         replace p172 := eq_true p172
         replace q172 := eq_true q172
         go_wp2
         go_roundg k2
         case measure => have := HK1.out; have := HK2.out; omega
         case rel => exact ⟨(x3_2), (wrap64 (x4_1 + 1)), zR, H', ⟨by have := HK1.out; have := HK2.out; omega⟩, ⟨by (with_reducible repeat (first | apply Kd.R_alloc | apply Kd.R_drewN | apply Kd.R_drew)); exact HO_3.out⟩, ⟨zB⟩⟩
       ·rw [if_neg c4] at H
        exact absurd H (by simp)
      ·rw [if_neg c3] at H
       exact absurd H (by simp)
   ·rw [if_neg c2] at H
    have c2b0 : decide (x4_1 < (l0.length : Int)) = false := decide_eq_false c2
    clear c2
    obtain rfl := Option.some.inj H
    go_wp2
    go_ret
    exact ⟨_, zE, by (with_reducible repeat (first | apply Kd.R_alloc | apply Kd.R_drewN | apply Kd.R_drew)); exact HO_3.out, zB⟩
end Go.Proofs.YtjlhhjfmekjbhaaGreatDoor.Pq

namespace Go.Proofs.YtjlhhjfmekjbhaaGreatDoor.Pq
open Go.RowKit Go.Proofs.YtjlhhjfmekjbhaaGreatDoorW.PrintWords Go.Proofs.YtjlhhjfmekjbhaaGreatDoorW.PrintLast Go.Proofs.YtjlhhjfmekjbhaaGreatDoorW.PrintMore
set_option linter.unusedVariables false
set_option linter.unusedSimpArgs false
/-! ### v9_Small: function 11 -/
mutual
def v9_Small.l0 : Nat → List (S28) → Int → Option (Int)
 | 0, _, _ => none
 | k + 1, x0, x3 => if x3 < (x0.length : Int) then (if 0 ≤ x3 then (if (((rd_T28 x0 x3).f1).length : Int) > 60 then (some 0) else (v9_Small.l1 k x0 x3 0)) else (none)) else (some 1)
def v9_Small.l1 : Nat → List (S28) → Int → Int → Option (Int)
 | 0, _, _, _ => none
 | k + 1, x0, x3, x4 => if 0 ≤ x3 then (if x3 < (x0.length : Int) then (if x4 < (((rd_T28 x0 x3).f1).length : Int) then (if 0 ≤ x4 then (if (((rd_T31 ((rd_T28 x0 x3).f1) x4).f7).length : Int) > 20 then (some 0) else (if (((rd_T31 ((rd_T28 x0 x3).f1) x4).f5).size : Int) > 100 then (some 0) else (v9_Small.l1 k x0 x3 (wrap64 (x4 + 1))))) else (none)) else (v9_Small.l0 k x0 (wrap64 (x3 + 1)))) else (none)) else (none)
end
def v9_Small.f (k : Nat) (l0 : List (S28)) : Option (Int) := if (l0.length : Int) > 15 then (some 0) else (v9_Small.l0 k l0 0)
set_option maxHeartbeats 8000000 in
set_option maxRecDepth 100000 in
theorem v9_Small.calls (k : Nat) (A0 : Option Addr) (c0 : Nat) (l0 : List (S28)) (r : Int) (w : World) (hr0 : Kd.C k28 w A0 l0.length l0) (hc0 : l0.length ≤ c0) (h : v9_Small.f k l0 = some r) :
  Calls Tryz.prog 11 #[.slice A0 l0.length c0] w fun e w' => e = .returned (.int .i64 r) ∧ Drawn0 w w' := by
 have HR0 := Aside0.mk hr0
 have HC0 := Aside0.mk hc0
 clear hr0 hc0
 have H : (if (l0.length : Int) > 15 then (some 0) else (v9_Small.l0 k l0 0)) = some r := h
 clear h
 by_cases c2 : (l0.length : Int) > 15
 ·rw [if_pos c2] at H
  have c2b0 : decide (15 < (l0.length : Int)) = true := decide_eq_true c2
  have c2b1 : decide (15 < l0.length) = true := decide_eq_true (by omega)
  clear c2
  obtain rfl := Option.some.inj H
  go_enter Tryz.func11, Tryz.ntmps11
  go_wp2
  go_ret
  exact ⟨zR, by repeat (first | exact Drawn0.refl _ | apply Drawn0.step)⟩
 ·rw [if_neg c2] at H
  have c2b0 : decide (15 < (l0.length : Int)) = false := decide_eq_false c2
  have c2b1 : decide (15 < l0.length) = false := decide_eq_false (by omega)
  clear c2
  have H' := Aside0.mk H
  clear H
  go_enter Tryz.func11, Tryz.ntmps11
  go_wp2
  go_loopg [3] k (fun kq v3 w' => ∃ (x3_1 : Int), v3 = .int .i64 x3_1 ∧ Aside0 (v9_Small.l0 kq l0 x3_1 = some r) ∧ Aside0 (kq ≤ k) ∧ Drawn0 w w')
  case atStart => exact ⟨(0), zR, H', ⟨Nat.le_refl _⟩, by repeat (first | exact Drawn0.refl _ | apply Drawn0.step)⟩
  case round =>
   clear H'
   clear c2b0 c2b1
   obtain ⟨x3_1, rfl, HA, HK1, ⟨m1, rfl⟩⟩ := hrel
   cases gk with
   | zero => exact absurd HA.out (by simp [v9_Small.l0])
   | succ k1 =>
    have H := HA.out
    clear HA
    simp only [v9_Small.l0] at H
    by_cases c3 : x3_1 < (l0.length : Int)
    ·rw [if_pos c3] at H
     have c3b0 : decide (x3_1 < (l0.length : Int)) = true := decide_eq_true c3
     clear c3
     by_cases c4 : 0 ≤ x3_1
     ·rw [if_pos c4] at H
      have c4b0 : decide (0 ≤ x3_1) = true := decide_eq_true c4
      clear c4
      by_cases c5 : (((rd_T28 l0 x3_1).f1).length : Int) > 60
      ·rw [if_pos c5] at H
       have c5b0 : decide (60 < (((rd_T28 l0 x3_1).f1).length : Int)) = true := decide_eq_true c5
       have c5b1 : decide (60 < ((rd_T28 l0 x3_1).f1).length) = true := decide_eq_true (by omega)
       clear c5
       obtain rfl := Option.some.inj H
       have p185 : 0 ≤ (x3_1 : Int) := of_decide_eq_true zA
       have q185 : x3_1 < (l0.length : Int) := of_decide_eq_true zA
       obtain ⟨ad185, A185_1, c185_1, e185, hx185_0, hx185_1, hl185_1, hi185_1⟩ := at_T28 HR0.out x3_1 p185 q185
       cases e185
       have HR185_1 := Aside0.mk hi185_1
       have HC185_1 := Aside0.mk hl185_1
       clear hi185_1 hl185_1
       replace p185 := eq_true p185
       replace q185 := eq_true q185
       go_wp2
       go_ret
       exact ⟨zR, by repeat (first | exact Drawn0.refl _ | apply Drawn0.step)⟩
      ·rw [if_neg c5] at H
       have c5b0 : decide (60 < (((rd_T28 l0 x3_1).f1).length : Int)) = false := decide_eq_false c5
       have c5b1 : decide (60 < ((rd_T28 l0 x3_1).f1).length) = false := decide_eq_false (by omega)
       clear c5
       have H' := Aside0.mk H
       clear H
       have p185 : 0 ≤ (x3_1 : Int) := of_decide_eq_true zA
       have q185 : x3_1 < (l0.length : Int) := of_decide_eq_true zA
       obtain ⟨ad185, A185_1, c185_1, e185, hx185_0, hx185_1, hl185_1, hi185_1⟩ := at_T28 HR0.out x3_1 p185 q185
       cases e185
       have HR185_1 := Aside0.mk hi185_1
       have HC185_1 := Aside0.mk hl185_1
       clear hi185_1 hl185_1
       replace p185 := eq_true p185
       replace q185 := eq_true q185
       go_wp2
       go_loopg [4] k1 (fun kq v4 w' => ∃ (x4_2 : Int), v4 = .int .i64 x4_2 ∧ Aside0 (v9_Small.l1 kq l0 x3_1 x4_2 = some r) ∧ Aside0 (kq ≤ k1) ∧ Drawn0 w w')
       case atStart => exact ⟨(0), zR, H', ⟨Nat.le_refl _⟩, by repeat (first | exact Drawn0.refl _ | apply Drawn0.step)⟩
       case round =>
        clear H'
        clear c3b0 c4b0 c5b0 c5b1 hx185_0 hx185_1 p185 q185
        obtain ⟨x4_2, rfl, HA, HK2, ⟨m2, rfl⟩⟩ := hrel
        cases gk with
        | zero => exact absurd HA.out (by simp [v9_Small.l1])
        | succ k2 =>
         have H := HA.out
         clear HA
         simp only [v9_Small.l1] at H
         by_cases c6 : 0 ≤ x3_1
         ·rw [if_pos c6] at H
          have c6b0 : decide (0 ≤ x3_1) = true := decide_eq_true c6
          clear c6
          by_cases c7 : x3_1 < (l0.length : Int)
          ·rw [if_pos c7] at H
           have c7b0 : decide (x3_1 < (l0.length : Int)) = true := decide_eq_true c7
           clear c7
           by_cases c8 : x4_2 < (((rd_T28 l0 x3_1).f1).length : Int)
           ·rw [if_pos c8] at H
            have c8b0 : decide (x4_2 < (((rd_T28 l0 x3_1).f1).length : Int)) = true := decide_eq_true c8
            clear c8
            by_cases c9 : 0 ≤ x4_2
            ·rw [if_pos c9] at H
             have c9b0 : decide (0 ≤ x4_2) = true := decide_eq_true c9
             clear c9
             by_cases c10 : (((rd_T31 ((rd_T28 l0 x3_1).f1) x4_2).f7).length : Int) > 20
             ·rw [if_pos c10] at H
              have c10b0 : decide (20 < (((rd_T31 ((rd_T28 l0 x3_1).f1) x4_2).f7).length : Int)) = true := decide_eq_true c10
              have c10b1 : decide (20 < ((rd_T31 ((rd_T28 l0 x3_1).f1) x4_2).f7).length) = true := decide_eq_true (by omega)
              clear c10
              obtain rfl := Option.some.inj H
              have p186 : 0 ≤ (x3_1 : Int) := of_decide_eq_true zA
              have q186 : x3_1 < (l0.length : Int) := of_decide_eq_true zA
              obtain ⟨ad186, A186_1, c186_1, e186, hx186_0, hx186_1, hl186_1, hi186_1⟩ := at_T28 HR0.out x3_1 p186 q186
              obtain rfl : ad185 = ad186 := (by injection e186)
              have HR186_1 := Aside0.mk hi186_1
              have HC186_1 := Aside0.mk hl186_1
              clear hi186_1 hl186_1
              replace p186 := eq_true p186
              replace q186 := eq_true q186
              have p187 : 0 ≤ (x3_1 : Int) := of_decide_eq_true zA
              have q187 : x3_1 < (l0.length : Int) := of_decide_eq_true zA
              obtain ⟨ad187, A187_1, c187_1, e187, hx187_0, hx187_1, hl187_1, hi187_1⟩ := at_T28 HR0.out x3_1 p187 q187
              obtain rfl : ad185 = ad187 := (by injection e187)
              have HR187_1 := Aside0.mk hi187_1
              have HC187_1 := Aside0.mk hl187_1
              clear hi187_1 hl187_1
              replace p187 := eq_true p187
              replace q187 := eq_true q187
              have ea_ := Option.some.inj (hx186_1.symm.trans hx187_1)
              injection ea_ with ea_ en_ ec_
              subst ea_
              subst ec_
              clear en_
              have p188 : 0 ≤ (x4_2 : Int) := of_decide_eq_true zA
              have q188 : x4_2 < (((rd_T28 l0 x3_1).f1).length : Int) := of_decide_eq_true zA
              obtain ⟨ad188, A188_7, c188_7, e188, hx188_0, hx188_1, hx188_2, hx188_3, hx188_4, hx188_5, hx188_6, hx188_7, hl188_7, hi188_7⟩ := at_T31 HR187_1.out x4_2 p188 q188
              cases e188
              have HR188_7 := Aside0.mk hi188_7
              have HC188_7 := Aside0.mk hl188_7
              clear hi188_7 hl188_7
              replace p188 := eq_true p188
              replace q188 := eq_true q188
              go_wp2
              go_ret
              exact ⟨zR, by repeat (first | exact Drawn0.refl _ | apply Drawn0.step)⟩
             ·rw [if_neg c10] at H
              have c10b0 : decide (20 < (((rd_T31 ((rd_T28 l0 x3_1).f1) x4_2).f7).length : Int)) = false := decide_eq_false c10
              have c10b1 : decide (20 < ((rd_T31 ((rd_T28 l0 x3_1).f1) x4_2).f7).length) = false := decide_eq_false (by omega)
              clear c10
              by_cases c11 : (((rd_T31 ((rd_T28 l0 x3_1).f1) x4_2).f5).size : Int) > 100
              ·rw [if_pos c11] at H
               have c11b0 : decide (100 < (((rd_T31 ((rd_T28 l0 x3_1).f1) x4_2).f5).size : Int)) = true := decide_eq_true c11
               have c11b1 : decide (100 < ((rd_T31 ((rd_T28 l0 x3_1).f1) x4_2).f5).size) = true := decide_eq_true (by omega)
               clear c11
               obtain rfl := Option.some.inj H
               have p186 : 0 ≤ (x3_1 : Int) := of_decide_eq_true zA
               have q186 : x3_1 < (l0.length : Int) := of_decide_eq_true zA
               obtain ⟨ad186, A186_1, c186_1, e186, hx186_0, hx186_1, hl186_1, hi186_1⟩ := at_T28 HR0.out x3_1 p186 q186
               obtain rfl : ad185 = ad186 := (by injection e186)
               have HR186_1 := Aside0.mk hi186_1
               have HC186_1 := Aside0.mk hl186_1
               clear hi186_1 hl186_1
               replace p186 := eq_true p186
               replace q186 := eq_true q186
               have p187 : 0 ≤ (x3_1 : Int) := of_decide_eq_true zA
               have q187 : x3_1 < (l0.length : Int) := of_decide_eq_true zA
               obtain ⟨ad187, A187_1, c187_1, e187, hx187_0, hx187_1, hl187_1, hi187_1⟩ := at_T28 HR0.out x3_1 p187 q187
               obtain rfl : ad185 = ad187 := (by injection e187)
               have HR187_1 := Aside0.mk hi187_1
               have HC187_1 := Aside0.mk hl187_1
               clear hi187_1 hl187_1
               replace p187 := eq_true p187
               replace q187 := eq_true q187
               have ea_ := Option.some.inj (hx186_1.symm.trans hx187_1)
               injection ea_ with ea_ en_ ec_
               subst ea_
               subst ec_
               clear en_
               have p188 : 0 ≤ (x4_2 : Int) := of_decide_eq_true zA
               have q188 : x4_2 < (((rd_T28 l0 x3_1).f1).length : Int) := of_decide_eq_true zA
               obtain ⟨ad188, A188_7, c188_7, e188, hx188_0, hx188_1, hx188_2, hx188_3, hx188_4, hx188_5, hx188_6, hx188_7, hl188_7, hi188_7⟩ := at_T31 HR187_1.out x4_2 p188 q188
               cases e188
               have HR188_7 := Aside0.mk hi188_7
               have HC188_7 := Aside0.mk hl188_7
               clear hi188_7 hl188_7
               replace p188 := eq_true p188
               replace q188 := eq_true q188
               have p189 : 0 ≤ (x3_1 : Int) := of_decide_eq_true zA
               have q189 : x3_1 < (l0.length : Int) := of_decide_eq_true zA
               obtain ⟨ad189, A189_1, c189_1, e189, hx189_0, hx189_1, hl189_1, hi189_1⟩ := at_T28 HR0.out x3_1 p189 q189
               obtain rfl : ad185 = ad189 := (by injection e189)
               have HR189_1 := Aside0.mk hi189_1
               have HC189_1 := Aside0.mk hl189_1
               clear hi189_1 hl189_1
               replace p189 := eq_true p189
               replace q189 := eq_true q189
               have ea_ := Option.some.inj (hx186_1.symm.trans hx189_1)
               injection ea_ with ea_ en_ ec_
               subst ea_
               subst ec_
               clear en_
               have p190 : 0 ≤ (x4_2 : Int) := of_decide_eq_true zA
               have q190 : x4_2 < (((rd_T28 l0 x3_1).f1).length : Int) := of_decide_eq_true zA
               obtain ⟨ad190, A190_7, c190_7, e190, hx190_0, hx190_1, hx190_2, hx190_3, hx190_4, hx190_5, hx190_6, hx190_7, hl190_7, hi190_7⟩ := at_T31 HR189_1.out x4_2 p190 q190
               cases e190
               have HR190_7 := Aside0.mk hi190_7
               have HC190_7 := Aside0.mk hl190_7
               clear hi190_7 hl190_7
               replace p190 := eq_true p190
               replace q190 := eq_true q190
               go_wp2
               go_ret
               exact ⟨zR, by repeat (first | exact Drawn0.refl _ | apply Drawn0.step)⟩
              ·rw [if_neg c11] at H
               have c11b0 : decide (100 < (((rd_T31 ((rd_T28 l0 x3_1).f1) x4_2).f5).size : Int)) = false := decide_eq_false c11
               have c11b1 : decide (100 < ((rd_T31 ((rd_T28 l0 x3_1).f1) x4_2).f5).size) = false := decide_eq_false (by omega)
               clear c11
               have H' := Aside0.mk H
               clear H
               have p186 : 0 ≤ (x3_1 : Int) := of_decide_eq_true zA
               have q186 : x3_1 < (l0.length : Int) := of_decide_eq_true zA
               obtain ⟨ad186, A186_1, c186_1, e186, hx186_0, hx186_1, hl186_1, hi186_1⟩ := at_T28 HR0.out x3_1 p186 q186
               obtain rfl : ad185 = ad186 := (by injection e186)
               have HR186_1 := Aside0.mk hi186_1
               have HC186_1 := Aside0.mk hl186_1
               clear hi186_1 hl186_1
               replace p186 := eq_true p186
               replace q186 := eq_true q186
               have p187 : 0 ≤ (x3_1 : Int) := of_decide_eq_true zA
               have q187 : x3_1 < (l0.length : Int) := of_decide_eq_true zA
               obtain ⟨ad187, A187_1, c187_1, e187, hx187_0, hx187_1, hl187_1, hi187_1⟩ := at_T28 HR0.out x3_1 p187 q187
               obtain rfl : ad185 = ad187 := (by injection e187)
               have HR187_1 := Aside0.mk hi187_1
               have HC187_1 := Aside0.mk hl187_1
               clear hi187_1 hl187_1
               replace p187 := eq_true p187
               replace q187 := eq_true q187
               have ea_ := Option.some.inj (hx186_1.symm.trans hx187_1)
               injection ea_ with ea_ en_ ec_
               subst ea_
               subst ec_
               clear en_
               have p188 : 0 ≤ (x4_2 : Int) := of_decide_eq_true zA
               have q188 : x4_2 < (((rd_T28 l0 x3_1).f1).length : Int) := of_decide_eq_true zA
               obtain ⟨ad188, A188_7, c188_7, e188, hx188_0, hx188_1, hx188_2, hx188_3, hx188_4, hx188_5, hx188_6, hx188_7, hl188_7, hi188_7⟩ := at_T31 HR187_1.out x4_2 p188 q188
               cases e188
               have HR188_7 := Aside0.mk hi188_7
               have HC188_7 := Aside0.mk hl188_7
               clear hi188_7 hl188_7
               replace p188 := eq_true p188
               replace q188 := eq_true q188
               have p189 : 0 ≤ (x3_1 : Int) := of_decide_eq_true zA
               have q189 : x3_1 < (l0.length : Int) := of_decide_eq_true zA
               obtain ⟨ad189, A189_1, c189_1, e189, hx189_0, hx189_1, hl189_1, hi189_1⟩ := at_T28 HR0.out x3_1 p189 q189
               obtain rfl : ad185 = ad189 := (by injection e189)
               have HR189_1 := Aside0.mk hi189_1
               have HC189_1 := Aside0.mk hl189_1
               clear hi189_1 hl189_1
               replace p189 := eq_true p189
               replace q189 := eq_true q189
               have ea_ := Option.some.inj (hx186_1.symm.trans hx189_1)
               injection ea_ with ea_ en_ ec_
               subst ea_
               subst ec_
               clear en_
               have p190 : 0 ≤ (x4_2 : Int) := of_decide_eq_true zA
               have q190 : x4_2 < (((rd_T28 l0 x3_1).f1).length : Int) := of_decide_eq_true zA
               obtain ⟨ad190, A190_7, c190_7, e190, hx190_0, hx190_1, hx190_2, hx190_3, hx190_4, hx190_5, hx190_6, hx190_7, hl190_7, hi190_7⟩ := at_T31 HR189_1.out x4_2 p190 q190
               cases e190
               have HR190_7 := Aside0.mk hi190_7
               have HC190_7 := Aside0.mk hl190_7
               clear hi190_7 hl190_7
               replace p190 := eq_true p190
               replace q190 := eq_true q190
               go_wp2
               go_roundg k2
               case measure => have := HK1.out; have := HK2.out; omega
               case rel => exact ⟨(wrap64 (x4_2 + 1)), zR, H', ⟨by have := HK1.out; have := HK2.out; omega⟩, by repeat (first | exact Drawn0.refl _ | apply Drawn0.step)⟩
            ·rw [if_neg c9] at H
             exact absurd H (by simp)
           ·rw [if_neg c8] at H
            have c8b0 : decide (x4_2 < (((rd_T28 l0 x3_1).f1).length : Int)) = false := decide_eq_false c8
            clear c8
            have H' := Aside0.mk H
            clear H
            have p186 : 0 ≤ (x3_1 : Int) := of_decide_eq_true zA
            have q186 : x3_1 < (l0.length : Int) := of_decide_eq_true zA
            obtain ⟨ad186, A186_1, c186_1, e186, hx186_0, hx186_1, hl186_1, hi186_1⟩ := at_T28 HR0.out x3_1 p186 q186
            obtain rfl : ad185 = ad186 := (by injection e186)
            have HR186_1 := Aside0.mk hi186_1
            have HC186_1 := Aside0.mk hl186_1
            clear hi186_1 hl186_1
            replace p186 := eq_true p186
            replace q186 := eq_true q186
            go_wp2
            go_roundg k2
            case measure => have := HK1.out; have := HK2.out; omega
            case rel => exact ⟨(wrap64 (x3_1 + 1)), zR, H', ⟨by have := HK1.out; have := HK2.out; omega⟩, by repeat (first | exact Drawn0.refl _ | apply Drawn0.step)⟩
          ·rw [if_neg c7] at H
           exact absurd H (by simp)
         ·rw [if_neg c6] at H
          exact absurd H (by simp)
     ·rw [if_neg c4] at H
      exact absurd H (by simp)
    ·rw [if_neg c3] at H
     have c3b0 : decide (x3_1 < (l0.length : Int)) = false := decide_eq_false c3
     clear c3
     obtain rfl := Option.some.inj H
     go_wp2
     go_ret
     exact ⟨zR, by repeat (first | exact Drawn0.refl _ | apply Drawn0.step)⟩
end Go.Proofs.YtjlhhjfmekjbhaaGreatDoor.Pq

namespace Go.Proofs.YtjlhhjfmekjbhaaGreatDoor.Pq
open Go.RowKit Go.Proofs.YtjlhhjfmekjbhaaGreatDoorW.PrintWords Go.Proofs.YtjlhhjfmekjbhaaGreatDoorW.PrintLast Go.Proofs.YtjlhhjfmekjbhaaGreatDoorW.PrintMore
set_option linter.unusedVariables false
set_option linter.unusedSimpArgs false
/-! ### q1_Same: function 16 -/
def q1_Same.l0 : Nat → List Int → List Int → Int → Option (Bool)
 | 0, _, _, _ => none
 | k + 1, x0, x1, x5 => if x5 < (x0.length : Int) then (if 0 ≤ x5 then (if x5 < (x1.length : Int) then (if (rd x0 x5) = (rd x1 x5) then (q1_Same.l0 k x0 x1 (wrap64 (x5 + 1))) else (some false)) else (none)) else (none)) else (some true)
def q1_Same.f (k : Nat) (l0 : List Int) (l1 : List Int) : Option (Bool) := if (l0.length : Int) = (l1.length : Int) then (q1_Same.l0 k l0 l1 0) else (some false)
set_option maxHeartbeats 8000000 in
set_option maxRecDepth 100000 in
theorem q1_Same.calls (k : Nat) (A0 : Option Addr) (c0 : Nat) (l0 : List Int) (A1 : Option Addr) (c1 : Nat) (l1 : List Int) (r : Bool) (w : World) (hr0 : Kd.C (Kd.int .i64) w A0 l0.length l0) (hc0 : l0.length ≤ c0) (hr1 : Kd.C (Kd.int .i64) w A1 l1.length l1) (hc1 : l1.length ≤ c1) (h : q1_Same.f k l0 l1 = some r) :
  Calls Tryz.prog 16 #[.slice A0 l0.length c0, .slice A1 l1.length c1] w fun e w' => e = .returned (.bool r) ∧ Drawn0 w w' := by
 have HR0 := Aside0.mk hr0
 have HC0 := Aside0.mk hc0
 clear hr0 hc0
 have HR1 := Aside0.mk hr1
 have HC1 := Aside0.mk hc1
 clear hr1 hc1
 have H : (if (l0.length : Int) = (l1.length : Int) then (q1_Same.l0 k l0 l1 0) else (some false)) = some r := h
 clear h
 by_cases c3 : (l0.length : Int) = (l1.length : Int)
 ·rw [if_pos c3] at H
  have c3b0 : ((l0.length : Int) == (l1.length : Int)) = true := beq_iff_eq.mpr c3
  have c3b1 : ((l0.length : Int) != (l1.length : Int)) = false := bne_eq_false_iff_eq.mpr c3
  have c3b2 : (l0.length == l1.length) = true := by first | simpa using c3 | (simp at c3 ⊢; omega)
  clear c3
  have H' := Aside0.mk H
  clear H
  go_enter Tryz.func16, Tryz.ntmps16
  go_wp2
  repeat (go_quiet (fail); try go_wp2)
  go_loopg [5] k (fun kq v5 w' => ∃ (x5_1 : Int), v5 = .int .i64 x5_1 ∧ Aside0 (q1_Same.l0 kq l0 l1 x5_1 = some r) ∧ Aside0 (kq ≤ k) ∧ Drawn0 w w')
  case atStart => exact ⟨(0), zR, H', ⟨Nat.le_refl _⟩, by repeat (first | exact Drawn0.refl _ | apply Drawn0.step)⟩
  case round =>
   clear H'
   clear c3b0 c3b1 c3b2
   obtain ⟨x5_1, rfl, HA, HK1, ⟨m1, rfl⟩⟩ := hrel
   cases gk with
   | zero => exact absurd HA.out (by simp [q1_Same.l0])
   | succ k1 =>
    have H := HA.out
    clear HA
    simp only [q1_Same.l0] at H
    by_cases c4 : x5_1 < (l0.length : Int)
    ·rw [if_pos c4] at H
     have c4b0 : decide (x5_1 < (l0.length : Int)) = true := decide_eq_true c4
     clear c4
     by_cases c5 : 0 ≤ x5_1
     ·rw [if_pos c5] at H
      have c5b0 : decide (0 ≤ x5_1) = true := decide_eq_true c5
      clear c5
      by_cases c6 : x5_1 < (l1.length : Int)
      ·rw [if_pos c6] at H
       have c6b0 : decide (x5_1 < (l1.length : Int)) = true := decide_eq_true c6
       clear c6
       by_cases c7 : (rd l0 x5_1) = (rd l1 x5_1)
       ·rw [if_pos c7] at H
        have c7b0 : ((rd l0 x5_1) == (rd l1 x5_1)) = true := beq_iff_eq.mpr c7
        have c7b1 : ((rd l0 x5_1) != (rd l1 x5_1)) = false := bne_eq_false_iff_eq.mpr c7
        clear c7
        have H' := Aside0.mk H
        clear H
        have p191 : 0 ≤ (x5_1 : Int) := of_decide_eq_true zA
        have q191 : x5_1 < (l0.length : Int) := of_decide_eq_true zA
        obtain ⟨ad191, e191, hx191_0⟩ := Kd.at_int HR0.out x5_1 p191 q191
        cases e191
        replace p191 := eq_true p191
        replace q191 := eq_true q191
        have p192 : 0 ≤ (x5_1 : Int) := of_decide_eq_true zA
        have q192 : x5_1 < (l1.length : Int) := of_decide_eq_true zA
        obtain ⟨ad192, e192, hx192_0⟩ := Kd.at_int HR1.out x5_1 p192 q192
        cases e192
        replace p192 := eq_true p192
        replace q192 := eq_true q192
        go_wp2
        repeat (go_quiet (fail); try go_wp2)
        go_roundg k1
        case measure => have := HK1.out; omega
        case rel => exact ⟨(wrap64 (x5_1 + 1)), zR, H', ⟨by have := HK1.out; omega⟩, by repeat (first | exact Drawn0.refl _ | apply Drawn0.step)⟩
       ·rw [if_neg c7] at H
        have c7b0 : ((rd l0 x5_1) == (rd l1 x5_1)) = false := beq_eq_false_iff_ne.mpr c7
        have c7b1 : ((rd l0 x5_1) != (rd l1 x5_1)) = true := bne_iff_ne.mpr c7
        obtain rfl := Option.some.inj H
        have p191 : 0 ≤ (x5_1 : Int) := of_decide_eq_true zA
        have q191 : x5_1 < (l0.length : Int) := of_decide_eq_true zA
        obtain ⟨ad191, e191, hx191_0⟩ := Kd.at_int HR0.out x5_1 p191 q191
        cases e191
        replace p191 := eq_true p191
        replace q191 := eq_true q191
        have p192 : 0 ≤ (x5_1 : Int) := of_decide_eq_true zA
        have q192 : x5_1 < (l1.length : Int) := of_decide_eq_true zA
        obtain ⟨ad192, e192, hx192_0⟩ := Kd.at_int HR1.out x5_1 p192 q192
        cases e192
        replace p192 := eq_true p192
        replace q192 := eq_true q192
        go_wp2
        repeat (go_quiet (fail); try go_wp2)
        go_ret
        exact ⟨zR, by repeat (first | exact Drawn0.refl _ | apply Drawn0.step)⟩
      ·rw [if_neg c6] at H
       exact absurd H (by simp)
     ·rw [if_neg c5] at H
      exact absurd H (by simp)
    ·rw [if_neg c4] at H
     have c4b0 : decide (x5_1 < (l0.length : Int)) = false := decide_eq_false c4
     clear c4
     obtain rfl := Option.some.inj H
     go_wp2
     repeat (go_quiet (fail); try go_wp2)
     go_ret
     exact ⟨zR, by repeat (first | exact Drawn0.refl _ | apply Drawn0.step)⟩
 ·rw [if_neg c3] at H
  have c3b0 : ((l0.length : Int) == (l1.length : Int)) = false := beq_eq_false_iff_ne.mpr c3
  have c3b1 : ((l0.length : Int) != (l1.length : Int)) = true := bne_iff_ne.mpr c3
  have c3b2 : (l0.length == l1.length) = false := by first | simpa using c3 | (simp at c3 ⊢; omega)
  obtain rfl := Option.some.inj H
  go_enter Tryz.func16, Tryz.ntmps16
  go_wp2
  repeat (go_quiet (fail); try go_wp2)
  go_ret
  exact ⟨zR, by repeat (first | exact Drawn0.refl _ | apply Drawn0.step)⟩
end Go.Proofs.YtjlhhjfmekjbhaaGreatDoor.Pq

namespace Go.Proofs.YtjlhhjfmekjbhaaGreatDoor.Pq
open Go.RowKit Go.Proofs.YtjlhhjfmekjbhaaGreatDoorW.PrintWords Go.Proofs.YtjlhhjfmekjbhaaGreatDoorW.PrintLast Go.Proofs.YtjlhhjfmekjbhaaGreatDoorW.PrintMore
set_option linter.unusedVariables false
set_option linter.unusedSimpArgs false
/-! ### code_isReg: function 50 -/
def code_isReg.f (a0 : Int) (a1_0 : Int) (l1_1 : List (S31)) (a1_2 : Int) : Option (Bool) := if a0 ≥ 0 then (some (decide (a0 < a1_0))) else (some false)
set_option maxHeartbeats 8000000 in
set_option maxRecDepth 100000 in
theorem code_isReg.calls (a0 : Int) (a1_0 : Int) (A1_1 : Option Addr) (c1_1 : Nat) (l1_1 : List (S31)) (a1_2 : Int) (r : Bool) (w : World) (hr1_1 : Kd.C k31 w A1_1 l1_1.length l1_1) (hc1_1 : l1_1.length ≤ c1_1) (h : code_isReg.f a0 a1_0 l1_1 a1_2 = some r) :
  Calls Tryz.prog 50 #[.int .i64 a0, .agg #[.int .i64 a1_0, .slice A1_1 l1_1.length c1_1, .int .i64 a1_2]] w fun e w' => e = .returned (.bool r) ∧ Below w.heap.size w w' := by
 have hu49 := Tryz.underlying49
 have HR1_1 := Aside0.mk hr1_1
 have HC1_1 := Aside0.mk hc1_1
 clear hr1_1 hc1_1
 have HB := Aside0.mk (Below.refl w.heap.size w)
 have H : (if a0 ≥ 0 then (some (decide (a0 < a1_0))) else (some false)) = some r := h
 clear h
 by_cases c3 : a0 ≥ 0
 ·rw [if_pos c3] at H
  have c3b0 : decide (0 ≤ a0) = true := decide_eq_true c3
  clear c3
  obtain rfl := Option.some.inj H
  go_enter Tryz.func50, Tryz.ntmps50
  go_wp2_with (first | ((with_reducible refine gate_dst (N := 3) rfl ?_); refine zX (N := 3) (cs := #[.int .i64 a1_0, .slice A1_1 l1_1.length c1_1, .int .i64 a1_2]) (t := 49) (h := ?_); intro gb193 hg w4 hbox hb; have BK193 := Aside0.mk hbox; have GW193 := Aside0.mk ((zS : w.heap.size ≤ gb193)); have GE193 := Aside0.mk ((zS : w.heap.size ≤ gb193)); replace HB := Aside0.mk (below_step zB hb); clear hb hbox hg; obtain ⟨hcz5_0, hcz5_1, hcz5_2, hfz5_0, hfz5_1, hfz5_2⟩ := zd3 BK193.out (.int .i64 a1_0) (.slice A1_1 l1_1.length c1_1) (.int .i64 a1_2)))
  go_ret
  exact ⟨zE, zG⟩
 ·rw [if_neg c3] at H
  have c3b0 : decide (0 ≤ a0) = false := decide_eq_false c3
  clear c3
  obtain rfl := Option.some.inj H
  go_enter Tryz.func50, Tryz.ntmps50
  go_wp2_with (first | ((with_reducible refine gate_dst (N := 3) rfl ?_); refine zX (N := 3) (cs := #[.int .i64 a1_0, .slice A1_1 l1_1.length c1_1, .int .i64 a1_2]) (t := 49) (h := ?_); intro gb193 hg w6 hbox hb; have BK193 := Aside0.mk hbox; have GW193 := Aside0.mk ((zS : w.heap.size ≤ gb193)); have GE193 := Aside0.mk ((zS : w.heap.size ≤ gb193)); replace HB := Aside0.mk (below_step zB hb); clear hb hbox hg))
  go_ret
  exact ⟨zE, zG⟩
/-! ### code_namesD: function 46 -/
def code_namesD.f (a0_0 : Int) (a0_1 : Int) (a0_2 : Int) (a0_3 : Int) (a0_4 : Int) (a0_5 : ByteArray) (a0_6 : Int) (l0_7 : List Int) (a1_0 : Int) (l1_1 : List (S31)) (a1_2 : Int) : Option (Bool) := (code_isReg.f a0_1 a1_0 l1_1 a1_2).bind fun t196 => (some t196)
set_option maxHeartbeats 8000000 in
set_option maxRecDepth 100000 in
theorem code_namesD.calls (a0_0 : Int) (a0_1 : Int) (a0_2 : Int) (a0_3 : Int) (a0_4 : Int) (a0_5 : ByteArray) (a0_6 : Int) (A0_7 : Option Addr) (c0_7 : Nat) (l0_7 : List Int) (a1_0 : Int) (A1_1 : Option Addr) (c1_1 : Nat) (l1_1 : List (S31)) (a1_2 : Int) (r : Bool) (w : World) (hr0_7 : Kd.C (Kd.int .i64) w A0_7 l0_7.length l0_7) (hc0_7 : l0_7.length ≤ c0_7) (hr1_1 : Kd.C k31 w A1_1 l1_1.length l1_1) (hc1_1 : l1_1.length ≤ c1_1) (h : code_namesD.f a0_0 a0_1 a0_2 a0_3 a0_4 a0_5 a0_6 l0_7 a1_0 l1_1 a1_2 = some r) :
  Calls Tryz.prog 46 #[.agg #[.int .i64 a0_0, .int .i64 a0_1, .int .i64 a0_2, .int .i64 a0_3, .int .i64 a0_4, .string a0_5, .int .i64 a0_6, .slice A0_7 l0_7.length c0_7], .agg #[.int .i64 a1_0, .slice A1_1 l1_1.length c1_1, .int .i64 a1_2]] w fun e w' => e = .returned (.bool r) ∧ Below w.heap.size w w' := by
 have hu31 := Tryz.underlying31
 have hu49 := Tryz.underlying49
 have HR0_7 := Aside0.mk hr0_7
 have HC0_7 := Aside0.mk hc0_7
 clear hr0_7 hc0_7
 have HR1_1 := Aside0.mk hr1_1
 have HC1_1 := Aside0.mk hc1_1
 clear hr1_1 hc1_1
 have HB := Aside0.mk (Below.refl w.heap.size w)
 have H : ((code_isReg.f a0_1 a1_0 l1_1 a1_2).bind fun t196 => (some t196)) = some r := h
 clear h
 obtain ⟨t196, A3, H⟩ := zO H
 obtain rfl := Option.some.inj H
 go_enter Tryz.func46, Tryz.ntmps46
 go_wp2_with (first | ((with_reducible refine gate_dst (N := 2) rfl ?_); refine zX (N := 2) (cs := #[.int .i64 a0_0, .int .i64 a0_1, .int .i64 a0_2, .int .i64 a0_3, .int .i64 a0_4, .string a0_5, .int .i64 a0_6, .slice A0_7 l0_7.length c0_7]) (t := 31) (h := ?_); intro gb194 hg w4 hbox hb; have BK194 := Aside0.mk hbox; have GW194 := Aside0.mk ((zS : w.heap.size ≤ gb194)); have GE194 := Aside0.mk ((zS : w.heap.size ≤ gb194)); replace HB := Aside0.mk (below_step zB hb); clear hb hbox hg) | ((with_reducible refine gate_dst (N := 3) rfl ?_); refine zX (N := 3) (cs := #[.int .i64 a1_0, .slice A1_1 l1_1.length c1_1, .int .i64 a1_2]) (t := 49) (h := ?_); intro gb195 hg w5 hbox hb; have BK195 := Aside0.mk hbox; have GW195 := Aside0.mk ((zT : w.heap.size ≤ gb195)); have GE195 := Aside0.mk ((zT : w.heap.size ≤ gb195)); have NB194_195 := Aside0.mk ((zL : gb194 ≠ gb195)); have NB195_194 := Aside0.mk ((zM : gb195 ≠ gb194)); replace BK194 := Aside0.mk (blk_below (g := gb194) zK hb); replace HB := Aside0.mk (below_step zG hb); clear hb hbox hg; have hnb6 := NB194_195.out; have hnc6 := NB195_194.out; obtain ⟨hcz7_0, hcz7_1, hcz7_2, hcz7_3, hcz7_4, hcz7_5, hcz7_6, hcz7_7, hfz7_0, hfz7_1, hfz7_2, hfz7_3, hfz7_4, hfz7_5, hfz7_6, hfz7_7⟩ := zd8 BK194.out (.int .i64 a0_0) (.int .i64 a0_1) (.int .i64 a0_2) (.int .i64 a0_3) (.int .i64 a0_4) (.string a0_5) (.int .i64 a0_6) (.slice A0_7 l0_7.length c0_7); obtain ⟨hcz8_0, hcz8_1, hcz8_2, hfz8_0, hfz8_1, hfz8_2⟩ := zd3 BK195.out (.int .i64 a1_0) (.slice A1_1 l1_1.length c1_1) (.int .i64 a1_2)) | ((with_reducible refine gate_callee (f := 50) rfl ?_); refine goesL_ (some 8) rfl rfl Tryz.func50 (by kernel_rfl) rfl #[.int .i64 a0_1, .agg #[.int .i64 a1_0, .slice A1_1 l1_1.length c1_1, .int .i64 a1_2]] rfl zP ?_; (with_reducible refine (code_isReg.calls a0_1 a1_0 _ _ l1_1 a1_2 t196 _ ?side1 ?side2 A3.out).mono ?_); (case side1 => repeat (first | exact (Kd.C_below HR1_1.out HB.out) | (with_reducible refine Kd.C_alloc ?_ _) | (with_reducible refine Kd.C_drewN ?_ _) | (with_reducible refine Kd.C_drew ?_))); (case side2 => exact HC1_1.out); rintro e w9 ⟨rfl, hb⟩; refine ⟨_, rfl, ?_⟩; replace BK194 := Aside0.mk (blk_below (g := gb194) zK hb); replace BK195 := Aside0.mk (blk_below (g := gb195) zK hb); replace HB := Aside0.mk (below_step zG hb); (try clear hb)))
 go_ret
 exact ⟨zE, zG⟩
/-! ### code_namesA: function 48 -/
def code_namesA.f (a0_0 : Int) (a0_1 : Int) (a0_2 : Int) (a0_3 : Int) (a0_4 : Int) (a0_5 : ByteArray) (a0_6 : Int) (l0_7 : List Int) (a1_0 : Int) (l1_1 : List (S31)) (a1_2 : Int) : Option (Bool) := (code_isReg.f a0_2 a1_0 l1_1 a1_2).bind fun t199 => (some t199)
set_option maxHeartbeats 8000000 in
set_option maxRecDepth 100000 in
theorem code_namesA.calls (a0_0 : Int) (a0_1 : Int) (a0_2 : Int) (a0_3 : Int) (a0_4 : Int) (a0_5 : ByteArray) (a0_6 : Int) (A0_7 : Option Addr) (c0_7 : Nat) (l0_7 : List Int) (a1_0 : Int) (A1_1 : Option Addr) (c1_1 : Nat) (l1_1 : List (S31)) (a1_2 : Int) (r : Bool) (w : World) (hr0_7 : Kd.C (Kd.int .i64) w A0_7 l0_7.length l0_7) (hc0_7 : l0_7.length ≤ c0_7) (hr1_1 : Kd.C k31 w A1_1 l1_1.length l1_1) (hc1_1 : l1_1.length ≤ c1_1) (h : code_namesA.f a0_0 a0_1 a0_2 a0_3 a0_4 a0_5 a0_6 l0_7 a1_0 l1_1 a1_2 = some r) :
  Calls Tryz.prog 48 #[.agg #[.int .i64 a0_0, .int .i64 a0_1, .int .i64 a0_2, .int .i64 a0_3, .int .i64 a0_4, .string a0_5, .int .i64 a0_6, .slice A0_7 l0_7.length c0_7], .agg #[.int .i64 a1_0, .slice A1_1 l1_1.length c1_1, .int .i64 a1_2]] w fun e w' => e = .returned (.bool r) ∧ Below w.heap.size w w' := by
 have hu31 := Tryz.underlying31
 have hu49 := Tryz.underlying49
 have HR0_7 := Aside0.mk hr0_7
 have HC0_7 := Aside0.mk hc0_7
 clear hr0_7 hc0_7
 have HR1_1 := Aside0.mk hr1_1
 have HC1_1 := Aside0.mk hc1_1
 clear hr1_1 hc1_1
 have HB := Aside0.mk (Below.refl w.heap.size w)
 have H : ((code_isReg.f a0_2 a1_0 l1_1 a1_2).bind fun t199 => (some t199)) = some r := h
 clear h
 obtain ⟨t199, A3, H⟩ := zO H
 obtain rfl := Option.some.inj H
 go_enter Tryz.func48, Tryz.ntmps48
 go_wp2_with (first | ((with_reducible refine gate_dst (N := 2) rfl ?_); refine zX (N := 2) (cs := #[.int .i64 a0_0, .int .i64 a0_1, .int .i64 a0_2, .int .i64 a0_3, .int .i64 a0_4, .string a0_5, .int .i64 a0_6, .slice A0_7 l0_7.length c0_7]) (t := 31) (h := ?_); intro gb197 hg w4 hbox hb; have BK197 := Aside0.mk hbox; have GW197 := Aside0.mk ((zS : w.heap.size ≤ gb197)); have GE197 := Aside0.mk ((zS : w.heap.size ≤ gb197)); replace HB := Aside0.mk (below_step zB hb); clear hb hbox hg) | ((with_reducible refine gate_dst (N := 3) rfl ?_); refine zX (N := 3) (cs := #[.int .i64 a1_0, .slice A1_1 l1_1.length c1_1, .int .i64 a1_2]) (t := 49) (h := ?_); intro gb198 hg w5 hbox hb; have BK198 := Aside0.mk hbox; have GW198 := Aside0.mk ((zT : w.heap.size ≤ gb198)); have GE198 := Aside0.mk ((zT : w.heap.size ≤ gb198)); have NB197_198 := Aside0.mk ((zL : gb197 ≠ gb198)); have NB198_197 := Aside0.mk ((zM : gb198 ≠ gb197)); replace BK197 := Aside0.mk (blk_below (g := gb197) zK hb); replace HB := Aside0.mk (below_step zG hb); clear hb hbox hg; have hnb6 := NB197_198.out; have hnc6 := NB198_197.out; obtain ⟨hcz7_0, hcz7_1, hcz7_2, hcz7_3, hcz7_4, hcz7_5, hcz7_6, hcz7_7, hfz7_0, hfz7_1, hfz7_2, hfz7_3, hfz7_4, hfz7_5, hfz7_6, hfz7_7⟩ := zd8 BK197.out (.int .i64 a0_0) (.int .i64 a0_1) (.int .i64 a0_2) (.int .i64 a0_3) (.int .i64 a0_4) (.string a0_5) (.int .i64 a0_6) (.slice A0_7 l0_7.length c0_7); obtain ⟨hcz8_0, hcz8_1, hcz8_2, hfz8_0, hfz8_1, hfz8_2⟩ := zd3 BK198.out (.int .i64 a1_0) (.slice A1_1 l1_1.length c1_1) (.int .i64 a1_2)) | ((with_reducible refine gate_callee (f := 50) rfl ?_); refine goesL_ (some 8) rfl rfl Tryz.func50 (by kernel_rfl) rfl #[.int .i64 a0_2, .agg #[.int .i64 a1_0, .slice A1_1 l1_1.length c1_1, .int .i64 a1_2]] rfl zP ?_; (with_reducible refine (code_isReg.calls a0_2 a1_0 _ _ l1_1 a1_2 t199 _ ?side1 ?side2 A3.out).mono ?_); (case side1 => repeat (first | exact (Kd.C_below HR1_1.out HB.out) | (with_reducible refine Kd.C_alloc ?_ _) | (with_reducible refine Kd.C_drewN ?_ _) | (with_reducible refine Kd.C_drew ?_))); (case side2 => exact HC1_1.out); rintro e w9 ⟨rfl, hb⟩; refine ⟨_, rfl, ?_⟩; replace BK197 := Aside0.mk (blk_below (g := gb197) zK hb); replace BK198 := Aside0.mk (blk_below (g := gb198) zK hb); replace HB := Aside0.mk (below_step zG hb); (try clear hb)))
 go_ret
 exact ⟨zE, zG⟩
end Go.Proofs.YtjlhhjfmekjbhaaGreatDoor.Pq

namespace Go.Proofs.YtjlhhjfmekjbhaaGreatDoor.Pq
open Go.RowKit Go.Proofs.YtjlhhjfmekjbhaaGreatDoorW.PrintWords Go.Proofs.YtjlhhjfmekjbhaaGreatDoorW.PrintLast Go.Proofs.YtjlhhjfmekjbhaaGreatDoorW.PrintMore
set_option linter.unusedVariables false
set_option linter.unusedSimpArgs false
/-! ### code_namesB: function 54 -/
def code_namesB.f (a0_0 : Int) (a0_1 : Int) (a0_2 : Int) (a0_3 : Int) (a0_4 : Int) (a0_5 : ByteArray) (a0_6 : Int) (l0_7 : List Int) (a1_0 : Int) (l1_1 : List (S31)) (a1_2 : Int) : Option (Bool) := (code_isReg.f a0_3 a1_0 l1_1 a1_2).bind fun t202 => (some t202)
set_option maxHeartbeats 8000000 in
set_option maxRecDepth 100000 in
theorem code_namesB.calls (a0_0 : Int) (a0_1 : Int) (a0_2 : Int) (a0_3 : Int) (a0_4 : Int) (a0_5 : ByteArray) (a0_6 : Int) (A0_7 : Option Addr) (c0_7 : Nat) (l0_7 : List Int) (a1_0 : Int) (A1_1 : Option Addr) (c1_1 : Nat) (l1_1 : List (S31)) (a1_2 : Int) (r : Bool) (w : World) (hr0_7 : Kd.C (Kd.int .i64) w A0_7 l0_7.length l0_7) (hc0_7 : l0_7.length ≤ c0_7) (hr1_1 : Kd.C k31 w A1_1 l1_1.length l1_1) (hc1_1 : l1_1.length ≤ c1_1) (h : code_namesB.f a0_0 a0_1 a0_2 a0_3 a0_4 a0_5 a0_6 l0_7 a1_0 l1_1 a1_2 = some r) :
  Calls Tryz.prog 54 #[.agg #[.int .i64 a0_0, .int .i64 a0_1, .int .i64 a0_2, .int .i64 a0_3, .int .i64 a0_4, .string a0_5, .int .i64 a0_6, .slice A0_7 l0_7.length c0_7], .agg #[.int .i64 a1_0, .slice A1_1 l1_1.length c1_1, .int .i64 a1_2]] w fun e w' => e = .returned (.bool r) ∧ Below w.heap.size w w' := by
 have hu31 := Tryz.underlying31
 have hu49 := Tryz.underlying49
 have HR0_7 := Aside0.mk hr0_7
 have HC0_7 := Aside0.mk hc0_7
 clear hr0_7 hc0_7
 have HR1_1 := Aside0.mk hr1_1
 have HC1_1 := Aside0.mk hc1_1
 clear hr1_1 hc1_1
 have HB := Aside0.mk (Below.refl w.heap.size w)
 have H : ((code_isReg.f a0_3 a1_0 l1_1 a1_2).bind fun t202 => (some t202)) = some r := h
 clear h
 obtain ⟨t202, A3, H⟩ := zO H
 obtain rfl := Option.some.inj H
 go_enter Tryz.func54, Tryz.ntmps54
 go_wp2_with (first | ((with_reducible refine gate_dst (N := 2) rfl ?_); refine zX (N := 2) (cs := #[.int .i64 a0_0, .int .i64 a0_1, .int .i64 a0_2, .int .i64 a0_3, .int .i64 a0_4, .string a0_5, .int .i64 a0_6, .slice A0_7 l0_7.length c0_7]) (t := 31) (h := ?_); intro gb200 hg w4 hbox hb; have BK200 := Aside0.mk hbox; have GW200 := Aside0.mk ((zS : w.heap.size ≤ gb200)); have GE200 := Aside0.mk ((zS : w.heap.size ≤ gb200)); replace HB := Aside0.mk (below_step zB hb); clear hb hbox hg) | ((with_reducible refine gate_dst (N := 3) rfl ?_); refine zX (N := 3) (cs := #[.int .i64 a1_0, .slice A1_1 l1_1.length c1_1, .int .i64 a1_2]) (t := 49) (h := ?_); intro gb201 hg w5 hbox hb; have BK201 := Aside0.mk hbox; have GW201 := Aside0.mk ((zT : w.heap.size ≤ gb201)); have GE201 := Aside0.mk ((zT : w.heap.size ≤ gb201)); have NB200_201 := Aside0.mk ((zL : gb200 ≠ gb201)); have NB201_200 := Aside0.mk ((zM : gb201 ≠ gb200)); replace BK200 := Aside0.mk (blk_below (g := gb200) zK hb); replace HB := Aside0.mk (below_step zG hb); clear hb hbox hg; have hnb6 := NB200_201.out; have hnc6 := NB201_200.out; obtain ⟨hcz7_0, hcz7_1, hcz7_2, hcz7_3, hcz7_4, hcz7_5, hcz7_6, hcz7_7, hfz7_0, hfz7_1, hfz7_2, hfz7_3, hfz7_4, hfz7_5, hfz7_6, hfz7_7⟩ := zd8 BK200.out (.int .i64 a0_0) (.int .i64 a0_1) (.int .i64 a0_2) (.int .i64 a0_3) (.int .i64 a0_4) (.string a0_5) (.int .i64 a0_6) (.slice A0_7 l0_7.length c0_7); obtain ⟨hcz8_0, hcz8_1, hcz8_2, hfz8_0, hfz8_1, hfz8_2⟩ := zd3 BK201.out (.int .i64 a1_0) (.slice A1_1 l1_1.length c1_1) (.int .i64 a1_2)) | ((with_reducible refine gate_callee (f := 50) rfl ?_); refine goesL_ (some 8) rfl rfl Tryz.func50 (by kernel_rfl) rfl #[.int .i64 a0_3, .agg #[.int .i64 a1_0, .slice A1_1 l1_1.length c1_1, .int .i64 a1_2]] rfl zP ?_; (with_reducible refine (code_isReg.calls a0_3 a1_0 _ _ l1_1 a1_2 t202 _ ?side1 ?side2 A3.out).mono ?_); (case side1 => repeat (first | exact (Kd.C_below HR1_1.out HB.out) | (with_reducible refine Kd.C_alloc ?_ _) | (with_reducible refine Kd.C_drewN ?_ _) | (with_reducible refine Kd.C_drew ?_))); (case side2 => exact HC1_1.out); rintro e w9 ⟨rfl, hb⟩; refine ⟨_, rfl, ?_⟩; replace BK200 := Aside0.mk (blk_below (g := gb200) zK hb); replace BK201 := Aside0.mk (blk_below (g := gb201) zK hb); replace HB := Aside0.mk (below_step zG hb); (try clear hb)))
 go_ret
 exact ⟨zE, zG⟩
/-! ### code_namesC: function 56 -/
def code_namesC.f (a0_0 : Int) (a0_1 : Int) (a0_2 : Int) (a0_3 : Int) (a0_4 : Int) (a0_5 : ByteArray) (a0_6 : Int) (l0_7 : List Int) (a1_0 : Int) (l1_1 : List (S31)) (a1_2 : Int) : Option (Bool) := (code_isReg.f a0_4 a1_0 l1_1 a1_2).bind fun t205 => (some t205)
set_option maxHeartbeats 8000000 in
set_option maxRecDepth 100000 in
theorem code_namesC.calls (a0_0 : Int) (a0_1 : Int) (a0_2 : Int) (a0_3 : Int) (a0_4 : Int) (a0_5 : ByteArray) (a0_6 : Int) (A0_7 : Option Addr) (c0_7 : Nat) (l0_7 : List Int) (a1_0 : Int) (A1_1 : Option Addr) (c1_1 : Nat) (l1_1 : List (S31)) (a1_2 : Int) (r : Bool) (w : World) (hr0_7 : Kd.C (Kd.int .i64) w A0_7 l0_7.length l0_7) (hc0_7 : l0_7.length ≤ c0_7) (hr1_1 : Kd.C k31 w A1_1 l1_1.length l1_1) (hc1_1 : l1_1.length ≤ c1_1) (h : code_namesC.f a0_0 a0_1 a0_2 a0_3 a0_4 a0_5 a0_6 l0_7 a1_0 l1_1 a1_2 = some r) :
  Calls Tryz.prog 56 #[.agg #[.int .i64 a0_0, .int .i64 a0_1, .int .i64 a0_2, .int .i64 a0_3, .int .i64 a0_4, .string a0_5, .int .i64 a0_6, .slice A0_7 l0_7.length c0_7], .agg #[.int .i64 a1_0, .slice A1_1 l1_1.length c1_1, .int .i64 a1_2]] w fun e w' => e = .returned (.bool r) ∧ Below w.heap.size w w' := by
 have hu31 := Tryz.underlying31
 have hu49 := Tryz.underlying49
 have HR0_7 := Aside0.mk hr0_7
 have HC0_7 := Aside0.mk hc0_7
 clear hr0_7 hc0_7
 have HR1_1 := Aside0.mk hr1_1
 have HC1_1 := Aside0.mk hc1_1
 clear hr1_1 hc1_1
 have HB := Aside0.mk (Below.refl w.heap.size w)
 have H : ((code_isReg.f a0_4 a1_0 l1_1 a1_2).bind fun t205 => (some t205)) = some r := h
 clear h
 obtain ⟨t205, A3, H⟩ := zO H
 obtain rfl := Option.some.inj H
 go_enter Tryz.func56, Tryz.ntmps56
 go_wp2_with (first | ((with_reducible refine gate_dst (N := 2) rfl ?_); refine zX (N := 2) (cs := #[.int .i64 a0_0, .int .i64 a0_1, .int .i64 a0_2, .int .i64 a0_3, .int .i64 a0_4, .string a0_5, .int .i64 a0_6, .slice A0_7 l0_7.length c0_7]) (t := 31) (h := ?_); intro gb203 hg w4 hbox hb; have BK203 := Aside0.mk hbox; have GW203 := Aside0.mk ((zS : w.heap.size ≤ gb203)); have GE203 := Aside0.mk ((zS : w.heap.size ≤ gb203)); replace HB := Aside0.mk (below_step zB hb); clear hb hbox hg) | ((with_reducible refine gate_dst (N := 3) rfl ?_); refine zX (N := 3) (cs := #[.int .i64 a1_0, .slice A1_1 l1_1.length c1_1, .int .i64 a1_2]) (t := 49) (h := ?_); intro gb204 hg w5 hbox hb; have BK204 := Aside0.mk hbox; have GW204 := Aside0.mk ((zT : w.heap.size ≤ gb204)); have GE204 := Aside0.mk ((zT : w.heap.size ≤ gb204)); have NB203_204 := Aside0.mk ((zL : gb203 ≠ gb204)); have NB204_203 := Aside0.mk ((zM : gb204 ≠ gb203)); replace BK203 := Aside0.mk (blk_below (g := gb203) zK hb); replace HB := Aside0.mk (below_step zG hb); clear hb hbox hg; have hnb6 := NB203_204.out; have hnc6 := NB204_203.out; obtain ⟨hcz7_0, hcz7_1, hcz7_2, hcz7_3, hcz7_4, hcz7_5, hcz7_6, hcz7_7, hfz7_0, hfz7_1, hfz7_2, hfz7_3, hfz7_4, hfz7_5, hfz7_6, hfz7_7⟩ := zd8 BK203.out (.int .i64 a0_0) (.int .i64 a0_1) (.int .i64 a0_2) (.int .i64 a0_3) (.int .i64 a0_4) (.string a0_5) (.int .i64 a0_6) (.slice A0_7 l0_7.length c0_7); obtain ⟨hcz8_0, hcz8_1, hcz8_2, hfz8_0, hfz8_1, hfz8_2⟩ := zd3 BK204.out (.int .i64 a1_0) (.slice A1_1 l1_1.length c1_1) (.int .i64 a1_2)) | ((with_reducible refine gate_callee (f := 50) rfl ?_); refine goesL_ (some 8) rfl rfl Tryz.func50 (by kernel_rfl) rfl #[.int .i64 a0_4, .agg #[.int .i64 a1_0, .slice A1_1 l1_1.length c1_1, .int .i64 a1_2]] rfl zP ?_; (with_reducible refine (code_isReg.calls a0_4 a1_0 _ _ l1_1 a1_2 t205 _ ?side1 ?side2 A3.out).mono ?_); (case side1 => repeat (first | exact (Kd.C_below HR1_1.out HB.out) | (with_reducible refine Kd.C_alloc ?_ _) | (with_reducible refine Kd.C_drewN ?_ _) | (with_reducible refine Kd.C_drew ?_))); (case side2 => exact HC1_1.out); rintro e w9 ⟨rfl, hb⟩; refine ⟨_, rfl, ?_⟩; replace BK203 := Aside0.mk (blk_below (g := gb203) zK hb); replace BK204 := Aside0.mk (blk_below (g := gb204) zK hb); replace HB := Aside0.mk (below_step zG hb); (try clear hb)))
 go_ret
 exact ⟨zE, zG⟩
end Go.Proofs.YtjlhhjfmekjbhaaGreatDoor.Pq

namespace Go.Proofs.YtjlhhjfmekjbhaaGreatDoor.Pq
open Go.RowKit Go.Proofs.YtjlhhjfmekjbhaaGreatDoorW.PrintWords Go.Proofs.YtjlhhjfmekjbhaaGreatDoorW.PrintLast Go.Proofs.YtjlhhjfmekjbhaaGreatDoorW.PrintMore
set_option linter.unusedVariables false
set_option linter.unusedSimpArgs false
/-! ### code_isBlank: function 71 -/
def code_isBlank.f (a0_0 : Int) (a0_1 : Int) (a0_2 : Int) (a0_3 : Int) (a0_4 : Int) (a0_5 : ByteArray) (a0_6 : Int) (l0_7 : List Int) : Option (Bool) := if a0_1 = 0 then (if a0_2 = 0 then (if a0_3 = 0 then (if a0_4 = 0 then (if a0_5.toList = ([] : List UInt8) then (if a0_6 = 0 then (some ((l0_7.length : Int) == 0)) else (some false)) else (some false)) else (some false)) else (some false)) else (some false)) else (some false)
end Go.Proofs.YtjlhhjfmekjbhaaGreatDoor.Pq

namespace Go.Proofs.YtjlhhjfmekjbhaaGreatDoor.Pq
open Go.RowKit Go.Proofs.YtjlhhjfmekjbhaaGreatDoorW.PrintWords Go.Proofs.YtjlhhjfmekjbhaaGreatDoorW.PrintLast Go.Proofs.YtjlhhjfmekjbhaaGreatDoorW.PrintMore
set_option linter.unusedVariables false
set_option linter.unusedSimpArgs false
def IsS31 (w0 W : World) (g : Nat) (f0 : Int) (f1 : Int) (f2 : Int) (f3 : Int) (f4 : Int) (f5 : ByteArray) (f6 : Int) (f7 : List Int) : Prop := ∃ A7 c7, W.heap[g]? = some (.cells #[.int .i64 f0, .int .i64 f1, .int .i64 f2, .int .i64 f3, .int .i64 f4, .string f5, .int .i64 f6, .slice A7 f7.length c7] 31 (0, 0)) ∧ w0.heap.size ≤ g ∧ Kd.C (Kd.int .i64) w0 A7 f7.length f7
theorem IsS31.grown {w0 W : World} {g : Nat} {f0 : Int} {f1 : Int} {f2 : Int} {f3 : Int} {f4 : Int} {f5 : ByteArray} {f6 : Int} {f7 : List Int} {W1 : World} {row : Option Nat} (h : IsS31 w0 W g f0 f1 f2 f3 f4 f5 f6 f7) (hw : W.grownBy W1 row) (hne : some g ≠ row) : IsS31 w0 W1 g f0 f1 f2 f3 f4 f5 f6 f7 := by
 obtain ⟨A7, c7, hb, hg, hr7⟩ := h
 exact ⟨A7, c7, blk_grown hb hw hne, hg, hr7⟩
theorem IsS31.below {w0 W : World} {g : Nat} {f0 : Int} {f1 : Int} {f2 : Int} {f3 : Int} {f4 : Int} {f5 : ByteArray} {f6 : Int} {f7 : List Int} {W1 : World} (h : IsS31 w0 W g f0 f1 f2 f3 f4 f5 f6 f7) (hw : Below W.heap.size W W1) : IsS31 w0 W1 g f0 f1 f2 f3 f4 f5 f6 f7 := h.grown (grown_of_below hw none) (by simp)
theorem IsS31.ge {w0 W : World} {g : Nat} {f0 : Int} {f1 : Int} {f2 : Int} {f3 : Int} {f4 : Int} {f5 : ByteArray} {f6 : Int} {f7 : List Int} (h : IsS31 w0 W g f0 f1 f2 f3 f4 f5 f6 f7) : w0.heap.size ≤ g := by
 obtain ⟨A7, c7, hb, hg, hr7⟩ := h
 exact hg
theorem cellS31_0 {W : World} {g : Nat} {A7 : Option Addr} {c7 : Nat} {f0 : Int} {f1 : Int} {f2 : Int} {f3 : Int} {f4 : Int} {f5 : ByteArray} {f6 : Int} {f7 : List Int} (h : W.heap[g]? = some (.cells #[.int .i64 f0, .int .i64 f1, .int .i64 f2, .int .i64 f3, .int .i64 f4, .string f5, .int .i64 f6, .slice A7 f7.length c7] 31 (0, 0))) : W.cell? ⟨g, 0, none⟩ = some (.int .i64 f0) := (blk_cell h 0).trans rfl
theorem cellS31_1 {W : World} {g : Nat} {A7 : Option Addr} {c7 : Nat} {f0 : Int} {f1 : Int} {f2 : Int} {f3 : Int} {f4 : Int} {f5 : ByteArray} {f6 : Int} {f7 : List Int} (h : W.heap[g]? = some (.cells #[.int .i64 f0, .int .i64 f1, .int .i64 f2, .int .i64 f3, .int .i64 f4, .string f5, .int .i64 f6, .slice A7 f7.length c7] 31 (0, 0))) : W.cell? ⟨g, 1, none⟩ = some (.int .i64 f1) := (blk_cell h 1).trans rfl
theorem IsS31.set_1 {w0 W : World} {g : Nat} {f0 : Int} {f1 : Int} {f2 : Int} {f3 : Int} {f4 : Int} {f5 : ByteArray} {f6 : Int} {f7 : List Int} (h : IsS31 w0 W g f0 f1 f2 f3 f4 f5 f6 f7) (x : Int) : IsS31 w0 (W.setCell ⟨g, 1, none⟩ (.int .i64 x)) g f0 x f2 f3 f4 f5 f6 f7 := by
 obtain ⟨A7, c7, hb, hg, hr7⟩ := h
 exact ⟨A7, c7, by simpa using blk_set hb 1 (.int .i64 x), hg, hr7⟩
theorem cellS31_2 {W : World} {g : Nat} {A7 : Option Addr} {c7 : Nat} {f0 : Int} {f1 : Int} {f2 : Int} {f3 : Int} {f4 : Int} {f5 : ByteArray} {f6 : Int} {f7 : List Int} (h : W.heap[g]? = some (.cells #[.int .i64 f0, .int .i64 f1, .int .i64 f2, .int .i64 f3, .int .i64 f4, .string f5, .int .i64 f6, .slice A7 f7.length c7] 31 (0, 0))) : W.cell? ⟨g, 2, none⟩ = some (.int .i64 f2) := (blk_cell h 2).trans rfl
theorem IsS31.set_2 {w0 W : World} {g : Nat} {f0 : Int} {f1 : Int} {f2 : Int} {f3 : Int} {f4 : Int} {f5 : ByteArray} {f6 : Int} {f7 : List Int} (h : IsS31 w0 W g f0 f1 f2 f3 f4 f5 f6 f7) (x : Int) : IsS31 w0 (W.setCell ⟨g, 2, none⟩ (.int .i64 x)) g f0 f1 x f3 f4 f5 f6 f7 := by
 obtain ⟨A7, c7, hb, hg, hr7⟩ := h
 exact ⟨A7, c7, by simpa using blk_set hb 2 (.int .i64 x), hg, hr7⟩
theorem cellS31_3 {W : World} {g : Nat} {A7 : Option Addr} {c7 : Nat} {f0 : Int} {f1 : Int} {f2 : Int} {f3 : Int} {f4 : Int} {f5 : ByteArray} {f6 : Int} {f7 : List Int} (h : W.heap[g]? = some (.cells #[.int .i64 f0, .int .i64 f1, .int .i64 f2, .int .i64 f3, .int .i64 f4, .string f5, .int .i64 f6, .slice A7 f7.length c7] 31 (0, 0))) : W.cell? ⟨g, 3, none⟩ = some (.int .i64 f3) := (blk_cell h 3).trans rfl
theorem IsS31.set_3 {w0 W : World} {g : Nat} {f0 : Int} {f1 : Int} {f2 : Int} {f3 : Int} {f4 : Int} {f5 : ByteArray} {f6 : Int} {f7 : List Int} (h : IsS31 w0 W g f0 f1 f2 f3 f4 f5 f6 f7) (x : Int) : IsS31 w0 (W.setCell ⟨g, 3, none⟩ (.int .i64 x)) g f0 f1 f2 x f4 f5 f6 f7 := by
 obtain ⟨A7, c7, hb, hg, hr7⟩ := h
 exact ⟨A7, c7, by simpa using blk_set hb 3 (.int .i64 x), hg, hr7⟩
theorem cellS31_4 {W : World} {g : Nat} {A7 : Option Addr} {c7 : Nat} {f0 : Int} {f1 : Int} {f2 : Int} {f3 : Int} {f4 : Int} {f5 : ByteArray} {f6 : Int} {f7 : List Int} (h : W.heap[g]? = some (.cells #[.int .i64 f0, .int .i64 f1, .int .i64 f2, .int .i64 f3, .int .i64 f4, .string f5, .int .i64 f6, .slice A7 f7.length c7] 31 (0, 0))) : W.cell? ⟨g, 4, none⟩ = some (.int .i64 f4) := (blk_cell h 4).trans rfl
theorem IsS31.set_4 {w0 W : World} {g : Nat} {f0 : Int} {f1 : Int} {f2 : Int} {f3 : Int} {f4 : Int} {f5 : ByteArray} {f6 : Int} {f7 : List Int} (h : IsS31 w0 W g f0 f1 f2 f3 f4 f5 f6 f7) (x : Int) : IsS31 w0 (W.setCell ⟨g, 4, none⟩ (.int .i64 x)) g f0 f1 f2 f3 x f5 f6 f7 := by
 obtain ⟨A7, c7, hb, hg, hr7⟩ := h
 exact ⟨A7, c7, by simpa using blk_set hb 4 (.int .i64 x), hg, hr7⟩
theorem cellS31_5 {W : World} {g : Nat} {A7 : Option Addr} {c7 : Nat} {f0 : Int} {f1 : Int} {f2 : Int} {f3 : Int} {f4 : Int} {f5 : ByteArray} {f6 : Int} {f7 : List Int} (h : W.heap[g]? = some (.cells #[.int .i64 f0, .int .i64 f1, .int .i64 f2, .int .i64 f3, .int .i64 f4, .string f5, .int .i64 f6, .slice A7 f7.length c7] 31 (0, 0))) : W.cell? ⟨g, 5, none⟩ = some (.string f5) := (blk_cell h 5).trans rfl
theorem IsS31.set_5 {w0 W : World} {g : Nat} {f0 : Int} {f1 : Int} {f2 : Int} {f3 : Int} {f4 : Int} {f5 : ByteArray} {f6 : Int} {f7 : List Int} (h : IsS31 w0 W g f0 f1 f2 f3 f4 f5 f6 f7) (x : ByteArray) : IsS31 w0 (W.setCell ⟨g, 5, none⟩ (.string x)) g f0 f1 f2 f3 f4 x f6 f7 := by
 obtain ⟨A7, c7, hb, hg, hr7⟩ := h
 exact ⟨A7, c7, by simpa using blk_set hb 5 (.string x), hg, hr7⟩
theorem cellS31_6 {W : World} {g : Nat} {A7 : Option Addr} {c7 : Nat} {f0 : Int} {f1 : Int} {f2 : Int} {f3 : Int} {f4 : Int} {f5 : ByteArray} {f6 : Int} {f7 : List Int} (h : W.heap[g]? = some (.cells #[.int .i64 f0, .int .i64 f1, .int .i64 f2, .int .i64 f3, .int .i64 f4, .string f5, .int .i64 f6, .slice A7 f7.length c7] 31 (0, 0))) : W.cell? ⟨g, 6, none⟩ = some (.int .i64 f6) := (blk_cell h 6).trans rfl
theorem IsS31.set_6 {w0 W : World} {g : Nat} {f0 : Int} {f1 : Int} {f2 : Int} {f3 : Int} {f4 : Int} {f5 : ByteArray} {f6 : Int} {f7 : List Int} (h : IsS31 w0 W g f0 f1 f2 f3 f4 f5 f6 f7) (x : Int) : IsS31 w0 (W.setCell ⟨g, 6, none⟩ (.int .i64 x)) g f0 f1 f2 f3 f4 f5 x f7 := by
 obtain ⟨A7, c7, hb, hg, hr7⟩ := h
 exact ⟨A7, c7, by simpa using blk_set hb 6 (.int .i64 x), hg, hr7⟩
theorem cellS31_7 {W : World} {g : Nat} {A7 : Option Addr} {c7 : Nat} {f0 : Int} {f1 : Int} {f2 : Int} {f3 : Int} {f4 : Int} {f5 : ByteArray} {f6 : Int} {f7 : List Int} (h : W.heap[g]? = some (.cells #[.int .i64 f0, .int .i64 f1, .int .i64 f2, .int .i64 f3, .int .i64 f4, .string f5, .int .i64 f6, .slice A7 f7.length c7] 31 (0, 0))) : W.cell? ⟨g, 7, none⟩ = some (.slice A7 f7.length c7) := (blk_cell h 7).trans rfl
/-! ### code_parts_1: function 42 -/
def code_parts_1.f (s0_0 : Int) (s0_1 : Int) (s0_2 : Int) (s0_3 : Int) (s0_4 : Int) (s0_5 : ByteArray) (s0_6 : Int) (s0_7 : List Int) : Option (Int × Int × Int × Int × Int × ByteArray × Int) := some (s0_0, s0_1, 0, s0_3, s0_4, s0_5, s0_6)
set_option maxHeartbeats 8000000 in
set_option maxRecDepth 100000 in
theorem code_parts_1.calls (g : Nat) (s0_0 : Int) (s0_1 : Int) (s0_2 : Int) (s0_3 : Int) (s0_4 : Int) (s0_5 : ByteArray) (s0_6 : Int) (s0_7 : List Int) (r1 : Int) (r2 : Int) (r3 : Int) (r4 : Int) (r5 : Int) (r6 : ByteArray) (r7 : Int) (w0 w : World) (hI : IsS31 w0 w g s0_0 s0_1 s0_2 s0_3 s0_4 s0_5 s0_6 s0_7) (hB : Below w0.heap.size w0 w) (h : code_parts_1.f s0_0 s0_1 s0_2 s0_3 s0_4 s0_5 s0_6 s0_7 = some (r1, r2, r3, r4, r5, r6, r7)) :
  Calls Tryz.prog 42 #[.pointer (some ⟨g, 0, none⟩)] w fun e w' => e = .returned (.tuple #[]) ∧ IsS31 w0 w' g r1 r2 r3 r4 r5 r6 r7 s0_7 ∧ Below w0.heap.size w0 w' ∧ KeepBut w w' g none := by
 have HI0 := Aside0.mk hI
 have HK := Aside0.mk (KeepBut.refl w g none)
 have HL := Aside0.mk hB.size
 clear hI
 have HW0 := Aside0.mk hB.size
 have HB := Aside0.mk hB
 clear hB
 have H : (some (s0_0, s0_1, 0, s0_3, s0_4, s0_5, s0_6)) = some (r1, r2, r3, r4, r5, r6, r7) := h
 clear h
 simp only [Option.some.injEq, Prod.mk.injEq] at H
 obtain ⟨rfl, rfl, rfl, rfl, rfl, rfl, rfl⟩ := H
 obtain ⟨ASz2_7, cSz2_7, HGz2, hgz2, HSz2_7⟩ := HI0.out
 have hcz2_0 := cellS31_0 HGz2
 have hcz2_1 := cellS31_1 HGz2
 have hcz2_2 := cellS31_2 HGz2
 have hcz2_3 := cellS31_3 HGz2
 have hcz2_4 := cellS31_4 HGz2
 have hcz2_5 := cellS31_5 HGz2
 have hcz2_6 := cellS31_6 HGz2
 have hcz2_7 := cellS31_7 HGz2
 have hfz2_0 := blk_frozen HGz2 0
 have hfz2_1 := blk_frozen HGz2 1
 have hfz2_2 := blk_frozen HGz2 2
 have hfz2_3 := blk_frozen HGz2 3
 have hfz2_4 := blk_frozen HGz2 4
 have hfz2_5 := blk_frozen HGz2 5
 have hfz2_6 := blk_frozen HGz2 6
 clear HGz2 hgz2
 go_enter Tryz.func42, Tryz.ntmps42
 go_wp2
 first | go_end0 | ((try simp only [Exit.inBlock, Exit.then]); refine bodyPost_ret (results_none rfl _ _ _) rfl ?_)
 exact ⟨zE, by repeat (first | (with_reducible first | exact HI0.out | apply IsS31.alloc | apply IsS31.drewN | apply IsS31.drew | apply IsS31.set_0 | apply IsS31.set_1 | apply IsS31.set_2 | apply IsS31.set_3 | apply IsS31.set_4 | apply IsS31.set_5 | apply IsS31.set_6) | exact HI0.out), by repeat (first | (with_reducible first | exact HB.out | apply below_alloc | apply pw_below_drewN | apply below_drew1 | refine below_set ?_ (IsS31.ge HI0.out)) | exact HB.out), by repeat (first | (with_reducible first | exact HK.out | apply KeepBut.set_ | apply keep_drewN | apply keep_drew | apply keep_alloc) | exact HK.out)⟩
end Go.Proofs.YtjlhhjfmekjbhaaGreatDoor.Pq

namespace Go.Proofs.YtjlhhjfmekjbhaaGreatDoor.Pq
open Go.RowKit Go.Proofs.YtjlhhjfmekjbhaaGreatDoorW.PrintWords Go.Proofs.YtjlhhjfmekjbhaaGreatDoorW.PrintLast Go.Proofs.YtjlhhjfmekjbhaaGreatDoorW.PrintMore
set_option linter.unusedVariables false
set_option linter.unusedSimpArgs false
/-! ### code_parts_2: function 43 -/
def code_parts_2.f (s0_0 : Int) (s0_1 : Int) (s0_2 : Int) (s0_3 : Int) (s0_4 : Int) (s0_5 : ByteArray) (s0_6 : Int) (s0_7 : List Int) : Option (Int × Int × Int × Int × Int × ByteArray × Int) := some (s0_0, s0_1, s0_2, 0, s0_4, s0_5, s0_6)
set_option maxHeartbeats 8000000 in
set_option maxRecDepth 100000 in
theorem code_parts_2.calls (g : Nat) (s0_0 : Int) (s0_1 : Int) (s0_2 : Int) (s0_3 : Int) (s0_4 : Int) (s0_5 : ByteArray) (s0_6 : Int) (s0_7 : List Int) (r1 : Int) (r2 : Int) (r3 : Int) (r4 : Int) (r5 : Int) (r6 : ByteArray) (r7 : Int) (w0 w : World) (hI : IsS31 w0 w g s0_0 s0_1 s0_2 s0_3 s0_4 s0_5 s0_6 s0_7) (hB : Below w0.heap.size w0 w) (h : code_parts_2.f s0_0 s0_1 s0_2 s0_3 s0_4 s0_5 s0_6 s0_7 = some (r1, r2, r3, r4, r5, r6, r7)) :
  Calls Tryz.prog 43 #[.pointer (some ⟨g, 0, none⟩)] w fun e w' => e = .returned (.tuple #[]) ∧ IsS31 w0 w' g r1 r2 r3 r4 r5 r6 r7 s0_7 ∧ Below w0.heap.size w0 w' ∧ KeepBut w w' g none := by
 have HI0 := Aside0.mk hI
 have HK := Aside0.mk (KeepBut.refl w g none)
 have HL := Aside0.mk hB.size
 clear hI
 have HW0 := Aside0.mk hB.size
 have HB := Aside0.mk hB
 clear hB
 have H : (some (s0_0, s0_1, s0_2, 0, s0_4, s0_5, s0_6)) = some (r1, r2, r3, r4, r5, r6, r7) := h
 clear h
 simp only [Option.some.injEq, Prod.mk.injEq] at H
 obtain ⟨rfl, rfl, rfl, rfl, rfl, rfl, rfl⟩ := H
 obtain ⟨ASz2_7, cSz2_7, HGz2, hgz2, HSz2_7⟩ := HI0.out
 have hcz2_0 := cellS31_0 HGz2
 have hcz2_1 := cellS31_1 HGz2
 have hcz2_2 := cellS31_2 HGz2
 have hcz2_3 := cellS31_3 HGz2
 have hcz2_4 := cellS31_4 HGz2
 have hcz2_5 := cellS31_5 HGz2
 have hcz2_6 := cellS31_6 HGz2
 have hcz2_7 := cellS31_7 HGz2
 have hfz2_0 := blk_frozen HGz2 0
 have hfz2_1 := blk_frozen HGz2 1
 have hfz2_2 := blk_frozen HGz2 2
 have hfz2_3 := blk_frozen HGz2 3
 have hfz2_4 := blk_frozen HGz2 4
 have hfz2_5 := blk_frozen HGz2 5
 have hfz2_6 := blk_frozen HGz2 6
 clear HGz2 hgz2
 go_enter Tryz.func43, Tryz.ntmps43
 go_wp2
 first | go_end0 | ((try simp only [Exit.inBlock, Exit.then]); refine bodyPost_ret (results_none rfl _ _ _) rfl ?_)
 exact ⟨zE, by repeat (first | (with_reducible first | exact HI0.out | apply IsS31.alloc | apply IsS31.drewN | apply IsS31.drew | apply IsS31.set_0 | apply IsS31.set_1 | apply IsS31.set_2 | apply IsS31.set_3 | apply IsS31.set_4 | apply IsS31.set_5 | apply IsS31.set_6) | exact HI0.out), by repeat (first | (with_reducible first | exact HB.out | apply below_alloc | apply pw_below_drewN | apply below_drew1 | refine below_set ?_ (IsS31.ge HI0.out)) | exact HB.out), by repeat (first | (with_reducible first | exact HK.out | apply KeepBut.set_ | apply keep_drewN | apply keep_drew | apply keep_alloc) | exact HK.out)⟩
/-! ### code_parts_3: function 44 -/
def code_parts_3.f (s0_0 : Int) (s0_1 : Int) (s0_2 : Int) (s0_3 : Int) (s0_4 : Int) (s0_5 : ByteArray) (s0_6 : Int) (s0_7 : List Int) : Option (Int × Int × Int × Int × Int × ByteArray × Int) := some (s0_0, s0_1, s0_2, s0_3, s0_4, s0_5, 0)
set_option maxHeartbeats 8000000 in
set_option maxRecDepth 100000 in
theorem code_parts_3.calls (g : Nat) (s0_0 : Int) (s0_1 : Int) (s0_2 : Int) (s0_3 : Int) (s0_4 : Int) (s0_5 : ByteArray) (s0_6 : Int) (s0_7 : List Int) (r1 : Int) (r2 : Int) (r3 : Int) (r4 : Int) (r5 : Int) (r6 : ByteArray) (r7 : Int) (w0 w : World) (hI : IsS31 w0 w g s0_0 s0_1 s0_2 s0_3 s0_4 s0_5 s0_6 s0_7) (hB : Below w0.heap.size w0 w) (h : code_parts_3.f s0_0 s0_1 s0_2 s0_3 s0_4 s0_5 s0_6 s0_7 = some (r1, r2, r3, r4, r5, r6, r7)) :
  Calls Tryz.prog 44 #[.pointer (some ⟨g, 0, none⟩)] w fun e w' => e = .returned (.tuple #[]) ∧ IsS31 w0 w' g r1 r2 r3 r4 r5 r6 r7 s0_7 ∧ Below w0.heap.size w0 w' ∧ KeepBut w w' g none := by
 have HI0 := Aside0.mk hI
 have HK := Aside0.mk (KeepBut.refl w g none)
 have HL := Aside0.mk hB.size
 clear hI
 have HW0 := Aside0.mk hB.size
 have HB := Aside0.mk hB
 clear hB
 have H : (some (s0_0, s0_1, s0_2, s0_3, s0_4, s0_5, 0)) = some (r1, r2, r3, r4, r5, r6, r7) := h
 clear h
 simp only [Option.some.injEq, Prod.mk.injEq] at H
 obtain ⟨rfl, rfl, rfl, rfl, rfl, rfl, rfl⟩ := H
 obtain ⟨ASz2_7, cSz2_7, HGz2, hgz2, HSz2_7⟩ := HI0.out
 have hcz2_0 := cellS31_0 HGz2
 have hcz2_1 := cellS31_1 HGz2
 have hcz2_2 := cellS31_2 HGz2
 have hcz2_3 := cellS31_3 HGz2
 have hcz2_4 := cellS31_4 HGz2
 have hcz2_5 := cellS31_5 HGz2
 have hcz2_6 := cellS31_6 HGz2
 have hcz2_7 := cellS31_7 HGz2
 have hfz2_0 := blk_frozen HGz2 0
 have hfz2_1 := blk_frozen HGz2 1
 have hfz2_2 := blk_frozen HGz2 2
 have hfz2_3 := blk_frozen HGz2 3
 have hfz2_4 := blk_frozen HGz2 4
 have hfz2_5 := blk_frozen HGz2 5
 have hfz2_6 := blk_frozen HGz2 6
 clear HGz2 hgz2
 go_enter Tryz.func44, Tryz.ntmps44
 go_wp2
 first | go_end0 | ((try simp only [Exit.inBlock, Exit.then]); refine bodyPost_ret (results_none rfl _ _ _) rfl ?_)
 exact ⟨zE, by repeat (first | (with_reducible first | exact HI0.out | apply IsS31.alloc | apply IsS31.drewN | apply IsS31.drew | apply IsS31.set_0 | apply IsS31.set_1 | apply IsS31.set_2 | apply IsS31.set_3 | apply IsS31.set_4 | apply IsS31.set_5 | apply IsS31.set_6) | exact HI0.out), by repeat (first | (with_reducible first | exact HB.out | apply below_alloc | apply pw_below_drewN | apply below_drew1 | refine below_set ?_ (IsS31.ge HI0.out)) | exact HB.out), by repeat (first | (with_reducible first | exact HK.out | apply KeepBut.set_ | apply keep_drewN | apply keep_drew | apply keep_alloc) | exact HK.out)⟩
end Go.Proofs.YtjlhhjfmekjbhaaGreatDoor.Pq

namespace Go.Proofs.YtjlhhjfmekjbhaaGreatDoor.Pq
open Go.RowKit Go.Proofs.YtjlhhjfmekjbhaaGreatDoorW.PrintWords Go.Proofs.YtjlhhjfmekjbhaaGreatDoorW.PrintLast Go.Proofs.YtjlhhjfmekjbhaaGreatDoorW.PrintMore
set_option linter.unusedVariables false
set_option linter.unusedSimpArgs false
/-! ### code_parts_4: function 45 -/
def code_parts_4.f (s0_0 : Int) (s0_1 : Int) (s0_2 : Int) (s0_3 : Int) (s0_4 : Int) (s0_5 : ByteArray) (s0_6 : Int) (s0_7 : List Int) : Option (Int × Int × Int × Int × Int × ByteArray × Int) := some (s0_0, s0_1, s0_2, s0_3, s0_4, (⟨#[]⟩ : ByteArray), s0_6)
set_option maxHeartbeats 8000000 in
set_option maxRecDepth 100000 in
theorem code_parts_4.calls (g : Nat) (s0_0 : Int) (s0_1 : Int) (s0_2 : Int) (s0_3 : Int) (s0_4 : Int) (s0_5 : ByteArray) (s0_6 : Int) (s0_7 : List Int) (r1 : Int) (r2 : Int) (r3 : Int) (r4 : Int) (r5 : Int) (r6 : ByteArray) (r7 : Int) (w0 w : World) (hI : IsS31 w0 w g s0_0 s0_1 s0_2 s0_3 s0_4 s0_5 s0_6 s0_7) (hB : Below w0.heap.size w0 w) (h : code_parts_4.f s0_0 s0_1 s0_2 s0_3 s0_4 s0_5 s0_6 s0_7 = some (r1, r2, r3, r4, r5, r6, r7)) :
  Calls Tryz.prog 45 #[.pointer (some ⟨g, 0, none⟩)] w fun e w' => e = .returned (.tuple #[]) ∧ IsS31 w0 w' g r1 r2 r3 r4 r5 r6 r7 s0_7 ∧ Below w0.heap.size w0 w' ∧ KeepBut w w' g none := by
 have HI0 := Aside0.mk hI
 have HK := Aside0.mk (KeepBut.refl w g none)
 have HL := Aside0.mk hB.size
 clear hI
 have HW0 := Aside0.mk hB.size
 have HB := Aside0.mk hB
 clear hB
 have H : (some (s0_0, s0_1, s0_2, s0_3, s0_4, (⟨#[]⟩ : ByteArray), s0_6)) = some (r1, r2, r3, r4, r5, r6, r7) := h
 clear h
 simp only [Option.some.injEq, Prod.mk.injEq] at H
 obtain ⟨rfl, rfl, rfl, rfl, rfl, rfl, rfl⟩ := H
 obtain ⟨ASz2_7, cSz2_7, HGz2, hgz2, HSz2_7⟩ := HI0.out
 have hcz2_0 := cellS31_0 HGz2
 have hcz2_1 := cellS31_1 HGz2
 have hcz2_2 := cellS31_2 HGz2
 have hcz2_3 := cellS31_3 HGz2
 have hcz2_4 := cellS31_4 HGz2
 have hcz2_5 := cellS31_5 HGz2
 have hcz2_6 := cellS31_6 HGz2
 have hcz2_7 := cellS31_7 HGz2
 have hfz2_0 := blk_frozen HGz2 0
 have hfz2_1 := blk_frozen HGz2 1
 have hfz2_2 := blk_frozen HGz2 2
 have hfz2_3 := blk_frozen HGz2 3
 have hfz2_4 := blk_frozen HGz2 4
 have hfz2_5 := blk_frozen HGz2 5
 have hfz2_6 := blk_frozen HGz2 6
 clear HGz2 hgz2
 go_enter Tryz.func45, Tryz.ntmps45
 go_wp2
 first | go_end0 | ((try simp only [Exit.inBlock, Exit.then]); refine bodyPost_ret (results_none rfl _ _ _) rfl ?_)
 exact ⟨zE, by repeat (first | (with_reducible first | exact HI0.out | apply IsS31.alloc | apply IsS31.drewN | apply IsS31.drew | apply IsS31.set_0 | apply IsS31.set_1 | apply IsS31.set_2 | apply IsS31.set_3 | apply IsS31.set_4 | apply IsS31.set_5 | apply IsS31.set_6) | exact HI0.out), by repeat (first | (with_reducible first | exact HB.out | apply below_alloc | apply pw_below_drewN | apply below_drew1 | refine below_set ?_ (IsS31.ge HI0.out)) | exact HB.out), by repeat (first | (with_reducible first | exact HK.out | apply KeepBut.set_ | apply keep_drewN | apply keep_drew | apply keep_alloc) | exact HK.out)⟩
/-! ### code_parts_5: function 47 -/
def code_parts_5.f (s0_0 : Int) (s0_1 : Int) (s0_2 : Int) (s0_3 : Int) (s0_4 : Int) (s0_5 : ByteArray) (s0_6 : Int) (s0_7 : List Int) : Option (Int × Int × Int × Int × Int × ByteArray × Int) := some (s0_0, 0, s0_2, s0_3, s0_4, s0_5, s0_6)
set_option maxHeartbeats 8000000 in
set_option maxRecDepth 100000 in
theorem code_parts_5.calls (g : Nat) (s0_0 : Int) (s0_1 : Int) (s0_2 : Int) (s0_3 : Int) (s0_4 : Int) (s0_5 : ByteArray) (s0_6 : Int) (s0_7 : List Int) (r1 : Int) (r2 : Int) (r3 : Int) (r4 : Int) (r5 : Int) (r6 : ByteArray) (r7 : Int) (w0 w : World) (hI : IsS31 w0 w g s0_0 s0_1 s0_2 s0_3 s0_4 s0_5 s0_6 s0_7) (hB : Below w0.heap.size w0 w) (h : code_parts_5.f s0_0 s0_1 s0_2 s0_3 s0_4 s0_5 s0_6 s0_7 = some (r1, r2, r3, r4, r5, r6, r7)) :
  Calls Tryz.prog 47 #[.pointer (some ⟨g, 0, none⟩)] w fun e w' => e = .returned (.tuple #[]) ∧ IsS31 w0 w' g r1 r2 r3 r4 r5 r6 r7 s0_7 ∧ Below w0.heap.size w0 w' ∧ KeepBut w w' g none := by
 have HI0 := Aside0.mk hI
 have HK := Aside0.mk (KeepBut.refl w g none)
 have HL := Aside0.mk hB.size
 clear hI
 have HW0 := Aside0.mk hB.size
 have HB := Aside0.mk hB
 clear hB
 have H : (some (s0_0, 0, s0_2, s0_3, s0_4, s0_5, s0_6)) = some (r1, r2, r3, r4, r5, r6, r7) := h
 clear h
 simp only [Option.some.injEq, Prod.mk.injEq] at H
 obtain ⟨rfl, rfl, rfl, rfl, rfl, rfl, rfl⟩ := H
 obtain ⟨ASz2_7, cSz2_7, HGz2, hgz2, HSz2_7⟩ := HI0.out
 have hcz2_0 := cellS31_0 HGz2
 have hcz2_1 := cellS31_1 HGz2
 have hcz2_2 := cellS31_2 HGz2
 have hcz2_3 := cellS31_3 HGz2
 have hcz2_4 := cellS31_4 HGz2
 have hcz2_5 := cellS31_5 HGz2
 have hcz2_6 := cellS31_6 HGz2
 have hcz2_7 := cellS31_7 HGz2
 have hfz2_0 := blk_frozen HGz2 0
 have hfz2_1 := blk_frozen HGz2 1
 have hfz2_2 := blk_frozen HGz2 2
 have hfz2_3 := blk_frozen HGz2 3
 have hfz2_4 := blk_frozen HGz2 4
 have hfz2_5 := blk_frozen HGz2 5
 have hfz2_6 := blk_frozen HGz2 6
 clear HGz2 hgz2
 go_enter Tryz.func47, Tryz.ntmps47
 go_wp2
 first | go_end0 | ((try simp only [Exit.inBlock, Exit.then]); refine bodyPost_ret (results_none rfl _ _ _) rfl ?_)
 exact ⟨zE, by repeat (first | (with_reducible first | exact HI0.out | apply IsS31.alloc | apply IsS31.drewN | apply IsS31.drew | apply IsS31.set_0 | apply IsS31.set_1 | apply IsS31.set_2 | apply IsS31.set_3 | apply IsS31.set_4 | apply IsS31.set_5 | apply IsS31.set_6) | exact HI0.out), by repeat (first | (with_reducible first | exact HB.out | apply below_alloc | apply pw_below_drewN | apply below_drew1 | refine below_set ?_ (IsS31.ge HI0.out)) | exact HB.out), by repeat (first | (with_reducible first | exact HK.out | apply KeepBut.set_ | apply keep_drewN | apply keep_drew | apply keep_alloc) | exact HK.out)⟩
end Go.Proofs.YtjlhhjfmekjbhaaGreatDoor.Pq

