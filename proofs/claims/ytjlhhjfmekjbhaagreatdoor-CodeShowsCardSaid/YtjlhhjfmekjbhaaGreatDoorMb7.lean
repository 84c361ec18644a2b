/- Lemmas for the claims of this seat (own texts, packed; what the claims do not use is left out). No condition. -/
import Derived.Test.YtjlhhjfmekjbhaaGreatDoorMb0
import Derived.Test.YtjlhhjfmekjbhaaGreatDoorMb1
import Derived.Test.YtjlhhjfmekjbhaaGreatDoorMb5
import Derived.Test.YtjlhhjfmekjbhaaGreatDoorMb6
namespace Go.Proofs.YtjlhhjfmekjbhaaGreatDoor.Pq
open Go.RowKit Go.Proofs.YtjlhhjfmekjbhaaGreatDoorW.PrintWords Go.Proofs.YtjlhhjfmekjbhaaGreatDoorW.PrintLast Go.Proofs.YtjlhhjfmekjbhaaGreatDoorW.PrintMore
set_option linter.unusedVariables false
set_option linter.unusedSimpArgs false
/-! ### q9_Right: function 13 -/
mutual
def q9_Right.l0 : Nat → List (S28) → Int → Option (Bool)
 | 0, _, _ => none
 | k + 1, x0, x3 => if x3 < (x0.length : Int) then (if 0 ≤ x3 then (if ((rd_T28 x0 x3).f0) < 0 then (q9_Right.j1 k x0 x3 (((rd_T28 x0 x3).f1).length : Int) true ((rd_T28 x0 x3).f0) ((rd_T28 x0 x3).f1)) else (if ((rd_T28 x0 x3).f0) > 60000 then (q9_Right.j1 k x0 x3 (((rd_T28 x0 x3).f1).length : Int) true ((rd_T28 x0 x3).f0) ((rd_T28 x0 x3).f1)) else (if (((rd_T28 x0 x3).f1).length : Int) < 1 then (q9_Right.j1 k x0 x3 (((rd_T28 x0 x3).f1).length : Int) true ((rd_T28 x0 x3).f0) ((rd_T28 x0 x3).f1)) else (if (((rd_T28 x0 x3).f1).length : Int) > 60000 then (q9_Right.j1 k x0 x3 (((rd_T28 x0 x3).f1).length : Int) true ((rd_T28 x0 x3).f0) ((rd_T28 x0 x3).f1)) else (if 0 ≤ (wrap64 ((((rd_T28 x0 x3).f1).length : Int) - 1)) then (if (wrap64 ((((rd_T28 x0 x3).f1).length : Int) - 1)) < (((rd_T28 x0 x3).f1).length : Int) then (q9_Right.j1 k x0 x3 (((rd_T28 x0 x3).f1).length : Int) (((rd_T31 ((rd_T28 x0 x3).f1) (wrap64 ((((rd_T28 x0 x3).f1).length : Int) - 1))).f0) != 20) ((rd_T28 x0 x3).f0) ((rd_T28 x0 x3).f1)) else (none)) else (none)))))) else (none)) else (some (decide ((x0.length : Int) > 0)))
def q9_Right.j1 : Nat → List (S28) → Int → Int → Bool → Int → List (S31) → Option (Bool)
 | 0, _, _, _, _, _, _ => none
 | k + 1, x0, x3, x5, x46, x138000, x138001 => if x46 = true then (some false) else (q9_Right.l1 k x0 x3 x5 0 x138000 x138001)
def q9_Right.l1 : Nat → List (S28) → Int → Int → Int → Int → List (S31) → Option (Bool)
 | 0, _, _, _, _, _, _ => none
 | k + 1, x0, x3, x5, x6, x138000, x138001 => if x6 < x5 then (if 0 ≤ x6 then (if x6 < (x138001.length : Int) then ((q9_ins.f k ((rd_T31 x138001 x6).f0) ((rd_T31 x138001 x6).f1) ((rd_T31 x138001 x6).f2) ((rd_T31 x138001 x6).f3) ((rd_T31 x138001 x6).f4) ((rd_T31 x138001 x6).f5) ((rd_T31 x138001 x6).f6) ((rd_T31 x138001 x6).f7) x138000 x138001 (x0.length : Int)).bind fun t140 => (if t140 = true then (q9_Right.l1 k x0 x3 x5 (wrap64 (x6 + 1)) x138000 x138001) else (some false))) else (none)) else (none)) else (q9_Right.l0 k x0 (wrap64 (x3 + 1)))
end
def q9_Right.f (k : Nat) (l0 : List (S28)) : Option (Bool) := q9_Right.l0 k l0 0
def q9_Right.T11 : Bool × List (List Nat × List Nat) := (true, [([], []), ([0], [0]), ([], []), ([1, 2], [1, 2]), ([3], [3]), ([], []), ([], []), ([6], [6]), ([4, 5, 7], [4, 5, 7]), ([8, 8, 0, 1, 2, 3, 4, 5, 6, 7, 8], [8])])
def q9_Right.B11 : List Nat := [0, 1, 0, 7, 15, 0, 0, 64, 255, 511]
theorem q9_Right.tab11 : rtab .any (opsOf Tryz.f13 11) = q9_Right.T11 := by kernel_rfl
theorem q9_Right.bits11 : waitsOk q9_Right.T11.2 q9_Right.B11 = true := by kernel_rfl
set_option maxHeartbeats 8000000 in
set_option maxRecDepth 100000 in
theorem q9_Right.calls (k : Nat) (A0 : Option Addr) (c0 : Nat) (l0 : List (S28)) (r : Bool) (w : World) (hr0 : Kd.C k28 w A0 l0.length l0) (hc0 : l0.length ≤ c0) (h : q9_Right.f k l0 = some r) :
  Calls Tryz.prog 13 #[.slice A0 l0.length c0] w fun e w' => e = .returned (.bool r) ∧ Below w.heap.size w w' := by
 have hu28 := Tryz.underlying28
 have hu31 := Tryz.underlying31
 have HR0 := Aside0.mk hr0
 have HC0 := Aside0.mk hc0
 clear hr0 hc0
 have HB := Aside0.mk (Below.refl w.heap.size w)
 have H : (q9_Right.l0 k l0 0) = some r := h
 clear h
 have H' := Aside0.mk H
 clear H
 go_enter Tryz.func13, Tryz.ntmps13
 go_wp2
 go_loopg [3] k (fun kq v3 w' => ∃ (x3_1 : Int), v3 = .int .i64 x3_1 ∧ Aside0 (q9_Right.l0 kq l0 x3_1 = some r) ∧ Aside0 (kq ≤ k) ∧ Aside0 (Below w.heap.size w w'))
 case atStart => exact ⟨(0), zR, H', ⟨Nat.le_refl _⟩, ⟨zB⟩⟩
 case round =>
  clear H'
  obtain ⟨x3_1, rfl, HA, HK1, HB⟩ := hrel
  cases gk with
  | zero => exact absurd HA.out (by simp [q9_Right.l0])
  | succ k1 =>
   have H := HA.out
   clear HA
   simp only [q9_Right.l0] at H
   by_cases c2 : x3_1 < (l0.length : Int)
   ·rw [if_pos c2] at H
    have c2b0 : decide (x3_1 < (l0.length : Int)) = true := decide_eq_true c2
    clear c2
    by_cases c3 : 0 ≤ x3_1
    ·rw [if_pos c3] at H
     have c3b0 : decide (0 ≤ x3_1) = true := decide_eq_true c3
     clear c3
     have HC4 := Aside0.mk H
     clear H
     have p136 : 0 ≤ (x3_1 : Int) := of_decide_eq_true zA
     have q136 : x3_1 < (l0.length : Int) := of_decide_eq_true zA
     obtain ⟨ad136, A136_1, c136_1, e136, hx136_0, hx136_1, hl136_1, hi136_1⟩ := at_T28 HR0.out x3_1 p136 q136
     cases e136
     replace hx136_0 := (HB.out.cell (World.block_lt_of_cell? w _ hx136_0)).trans hx136_0
     replace hx136_1 := (HB.out.cell (World.block_lt_of_cell? w _ hx136_1)).trans hx136_1
     have HR136_1 := Aside0.mk hi136_1
     have HC136_1 := Aside0.mk hl136_1
     clear hi136_1 hl136_1
     replace p136 := eq_true p136
     replace q136 := eq_true q136
     go_upto_region 6 with (first | ((with_reducible refine gate_dst (N := 4) rfl ?_); refine zX (N := 4) (cs := #[.int .i64 0, .slice none 0 0]) (t := 28) (h := ?_); intro gb137 hg w5 hbox hb; have BK137 := Aside0.mk hbox; have GW137 := Aside0.mk ((zS : w.heap.size ≤ gb137)); have GE137 := Aside0.mk ((zS : w.heap.size ≤ gb137)); replace HB := Aside0.mk (below_step zB hb); clear hb hbox hg; obtain ⟨hcz6_0, hcz6_1, hfz6_0, hfz6_1⟩ := zd2 BK137.out (.int .i64 0) (.slice none 0 0)))
     (try simp only [Act.put, List.setIfInBounds_toArray, List.set_cons_zero, List.set_cons_succ])
     go_cut [46] (fun v46 wc => ∃ (kq : Nat) (x46_3 : Bool), v46 = .bool x46_3 ∧ Aside0 (q9_Right.j1 kq l0 x3_1 (((rd_T28 l0 x3_1).f1).length : Int) x46_3 ((rd_T28 l0 x3_1).f0) ((rd_T28 l0 x3_1).f1) = some r) ∧ Aside0 (kq ≤ k1) ∧ Aside0 (wc.heap[gb137]? = some (.cells #[.int .i64 ((rd_T28 l0 x3_1).f0), (.slice A136_1 ((rd_T28 l0 x3_1).f1).length c136_1)] 28 (0, 0))) ∧ Aside0 (Below w.heap.size w wc))
     case first =>
      have H := HC4.out
      clear HC4
      by_cases c7 : ((rd_T28 l0 x3_1).f0) < 0
      ·rw [if_pos c7] at H
       have c7b0 : decide (((rd_T28 l0 x3_1).f0) < 0) = true := decide_eq_true c7
       clear c7
       (first | rw [c7b0] | (simp only [i64_w, i32_w]; rw [c7b0]) | skip)
       have H' := Aside0.mk H
       clear H
       obtain ⟨hcz8_0, hcz8_1, hfz8_0, hfz8_1⟩ := zd2 BK137.out (.int .i64 0) (.slice none 0 0)
       go_wp2
       go_meet
       case rel => exact ⟨_, (true), zR, H', ⟨by have := HK1.out; first | omega | exact Nat.le_refl _⟩, ⟨by (with_reducible repeat (first | refine blk_drewN ?_ _ | refine blk_drew ?_ | refine blk_alloc ?_ _)); refine blk_put (cs := #[.int .i64 ((rd_T28 l0 x3_1).f0), .slice none 0 0]) ?_ 1 _ rfl; (with_reducible repeat (first | refine blk_drewN ?_ _ | refine blk_drew ?_ | refine blk_alloc ?_ _)); refine blk_put (cs := #[.int .i64 0, .slice none 0 0]) ?_ 0 _ rfl; (with_reducible repeat (first | refine blk_drewN ?_ _ | refine blk_drew ?_ | refine blk_alloc ?_ _)); exact BK137.out⟩, ⟨zG⟩⟩
      ·rw [if_neg c7] at H
       have c7b0 : decide (((rd_T28 l0 x3_1).f0) < 0) = false := decide_eq_false c7
       clear c7
       (first | rw [c7b0] | (simp only [i64_w, i32_w]; rw [c7b0]) | skip)
       by_cases c9 : ((rd_T28 l0 x3_1).f0) > 60000
       ·rw [if_pos c9] at H
        have c9b0 : decide (60000 < ((rd_T28 l0 x3_1).f0)) = true := decide_eq_true c9
        clear c9
        have H' := Aside0.mk H
        clear H
        obtain ⟨hcz10_0, hcz10_1, hfz10_0, hfz10_1⟩ := zd2 BK137.out (.int .i64 0) (.slice none 0 0)
        go_wp2
        go_meet
        case rel => exact ⟨_, (true), zR, H', ⟨by have := HK1.out; first | omega | exact Nat.le_refl _⟩, ⟨by (with_reducible repeat (first | refine blk_drewN ?_ _ | refine blk_drew ?_ | refine blk_alloc ?_ _)); refine blk_put (cs := #[.int .i64 ((rd_T28 l0 x3_1).f0), .slice none 0 0]) ?_ 1 _ rfl; (with_reducible repeat (first | refine blk_drewN ?_ _ | refine blk_drew ?_ | refine blk_alloc ?_ _)); refine blk_put (cs := #[.int .i64 0, .slice none 0 0]) ?_ 0 _ rfl; (with_reducible repeat (first | refine blk_drewN ?_ _ | refine blk_drew ?_ | refine blk_alloc ?_ _)); exact BK137.out⟩, ⟨zG⟩⟩
       ·rw [if_neg c9] at H
        have c9b0 : decide (60000 < ((rd_T28 l0 x3_1).f0)) = false := decide_eq_false c9
        clear c9
        by_cases c11 : (((rd_T28 l0 x3_1).f1).length : Int) < 1
        ·rw [if_pos c11] at H
         have c11b0 : decide ((((rd_T28 l0 x3_1).f1).length : Int) < 1) = true := decide_eq_true c11
         have c11b1 : decide (((rd_T28 l0 x3_1).f1).length < 1) = true := decide_eq_true (by omega)
         clear c11
         have H' := Aside0.mk H
         clear H
         obtain ⟨hcz12_0, hcz12_1, hfz12_0, hfz12_1⟩ := zd2 BK137.out (.int .i64 0) (.slice none 0 0)
         go_wp2
         go_meet
         case rel => exact ⟨_, (true), zR, H', ⟨by have := HK1.out; first | omega | exact Nat.le_refl _⟩, ⟨by (with_reducible repeat (first | refine blk_drewN ?_ _ | refine blk_drew ?_ | refine blk_alloc ?_ _)); refine blk_put (cs := #[.int .i64 ((rd_T28 l0 x3_1).f0), .slice none 0 0]) ?_ 1 _ rfl; (with_reducible repeat (first | refine blk_drewN ?_ _ | refine blk_drew ?_ | refine blk_alloc ?_ _)); refine blk_put (cs := #[.int .i64 0, .slice none 0 0]) ?_ 0 _ rfl; (with_reducible repeat (first | refine blk_drewN ?_ _ | refine blk_drew ?_ | refine blk_alloc ?_ _)); exact BK137.out⟩, ⟨zG⟩⟩
        ·rw [if_neg c11] at H
         have c11b0 : decide ((((rd_T28 l0 x3_1).f1).length : Int) < 1) = false := decide_eq_false c11
         have c11b1 : decide (((rd_T28 l0 x3_1).f1).length < 1) = false := decide_eq_false (by omega)
         clear c11
         by_cases c13 : (((rd_T28 l0 x3_1).f1).length : Int) > 60000
         ·rw [if_pos c13] at H
          have c13b0 : decide (60000 < (((rd_T28 l0 x3_1).f1).length : Int)) = true := decide_eq_true c13
          have c13b1 : decide (60000 < ((rd_T28 l0 x3_1).f1).length) = true := decide_eq_true (by omega)
          clear c13
          have H' := Aside0.mk H
          clear H
          obtain ⟨hcz14_0, hcz14_1, hfz14_0, hfz14_1⟩ := zd2 BK137.out (.int .i64 0) (.slice none 0 0)
          go_wp2
          go_meet
          case rel => exact ⟨_, (true), zR, H', ⟨by have := HK1.out; first | omega | exact Nat.le_refl _⟩, ⟨by (with_reducible repeat (first | refine blk_drewN ?_ _ | refine blk_drew ?_ | refine blk_alloc ?_ _)); refine blk_put (cs := #[.int .i64 ((rd_T28 l0 x3_1).f0), .slice none 0 0]) ?_ 1 _ rfl; (with_reducible repeat (first | refine blk_drewN ?_ _ | refine blk_drew ?_ | refine blk_alloc ?_ _)); refine blk_put (cs := #[.int .i64 0, .slice none 0 0]) ?_ 0 _ rfl; (with_reducible repeat (first | refine blk_drewN ?_ _ | refine blk_drew ?_ | refine blk_alloc ?_ _)); exact BK137.out⟩, ⟨zG⟩⟩
         ·rw [if_neg c13] at H
          have c13b0 : decide (60000 < (((rd_T28 l0 x3_1).f1).length : Int)) = false := decide_eq_false c13
          have c13b1 : decide (60000 < ((rd_T28 l0 x3_1).f1).length) = false := decide_eq_false (by omega)
          clear c13
          obtain ⟨ji15, hji15⟩ : ∃ j_ : Int, (wrap64 ((((rd_T28 l0 x3_1).f1).length : Int) - 1)) = j_ := ⟨_, rfl⟩
          replace H : (if 0 ≤ (ji15) then (if (ji15) < (((rd_T28 l0 x3_1).f1).length : Int) then (q9_Right.j1 k1 l0 x3_1 (((rd_T28 l0 x3_1).f1).length : Int) (((rd_T31 ((rd_T28 l0 x3_1).f1) (ji15)).f0) != 20) ((rd_T28 l0 x3_1).f0) ((rd_T28 l0 x3_1).f1)) else (none)) else (none)) = some r := by first | (rw [hji15] at H; exact H) | (simp only [hji15] at H ⊢; exact H)
          have hji15w : (IntKind.i64.wrap ((((rd_T28 l0 x3_1).f1).length : Int) - 1)) = ji15 := (i64_w _).trans hji15
          by_cases c16 : 0 ≤ (ji15)
          ·rw [if_pos c16] at H
           have c16b0 : decide (0 ≤ (ji15)) = true := decide_eq_true c16
           clear c16
           by_cases c17 : (ji15) < (((rd_T28 l0 x3_1).f1).length : Int)
           ·rw [if_pos c17] at H
            have c17b0 : decide ((ji15) < (((rd_T28 l0 x3_1).f1).length : Int)) = true := decide_eq_true c17
            clear c17
            have H' := Aside0.mk H
            clear H
            obtain ⟨hcz18_0, hcz18_1, hfz18_0, hfz18_1⟩ := zd2 BK137.out (.int .i64 0) (.slice none 0 0)
            have p138 : 0 ≤ ((ji15) : Int) := of_decide_eq_true zA
            have q138 : (ji15) < (((rd_T28 l0 x3_1).f1).length : Int) := of_decide_eq_true zA
            obtain ⟨ad138, A138_7, c138_7, e138, hx138_0, hx138_1, hx138_2, hx138_3, hx138_4, hx138_5, hx138_6, hx138_7, hl138_7, hi138_7⟩ := at_T31 HR136_1.out (ji15) p138 q138
            cases e138
            have hn138_0 : ad138.block ≠ gb137 := Nat.ne_of_lt (Nat.lt_of_lt_of_le (by have := World.block_lt_of_cell? _ _ hx138_0; first | rwa [add_block] at this | exact this) GW137.out)
            have hn138_1 : ad138.block ≠ gb137 := Nat.ne_of_lt (Nat.lt_of_lt_of_le (by have := World.block_lt_of_cell? _ _ hx138_0; first | rwa [add_block] at this | exact this) GW137.out)
            replace hx138_0 := (HB.out.cell (World.block_lt_of_cell? w _ hx138_0)).trans hx138_0
            replace hx138_1 := (HB.out.cell (World.block_lt_of_cell? w _ hx138_1)).trans hx138_1
            replace hx138_2 := (HB.out.cell (World.block_lt_of_cell? w _ hx138_2)).trans hx138_2
            replace hx138_3 := (HB.out.cell (World.block_lt_of_cell? w _ hx138_3)).trans hx138_3
            replace hx138_4 := (HB.out.cell (World.block_lt_of_cell? w _ hx138_4)).trans hx138_4
            replace hx138_5 := (HB.out.cell (World.block_lt_of_cell? w _ hx138_5)).trans hx138_5
            replace hx138_6 := (HB.out.cell (World.block_lt_of_cell? w _ hx138_6)).trans hx138_6
            replace hx138_7 := (HB.out.cell (World.block_lt_of_cell? w _ hx138_7)).trans hx138_7
            have HR138_7 := Aside0.mk hi138_7
            have HC138_7 := Aside0.mk hl138_7
            clear hi138_7 hl138_7
            replace hx138_0 := (cell_far (p := ⟨gb137, 0, none⟩) (by first | (rw [add_block]; exact hn138_0) | (show (Addr.add _ _).block ≠ _; rw [add_block]; exact hn138_0) | exact hn138_0) (.int .i64 ((rd_T28 l0 x3_1).f0))).trans hx138_0
            replace hx138_1 := (cell_far (p := ⟨gb137, 0, none⟩) (by first | (rw [add_block]; exact hn138_0) | (show (Addr.add _ _).block ≠ _; rw [add_block]; exact hn138_0) | exact hn138_0) (.int .i64 ((rd_T28 l0 x3_1).f0))).trans hx138_1
            replace hx138_2 := (cell_far (p := ⟨gb137, 0, none⟩) (by first | (rw [add_block]; exact hn138_0) | (show (Addr.add _ _).block ≠ _; rw [add_block]; exact hn138_0) | exact hn138_0) (.int .i64 ((rd_T28 l0 x3_1).f0))).trans hx138_2
            replace hx138_3 := (cell_far (p := ⟨gb137, 0, none⟩) (by first | (rw [add_block]; exact hn138_0) | (show (Addr.add _ _).block ≠ _; rw [add_block]; exact hn138_0) | exact hn138_0) (.int .i64 ((rd_T28 l0 x3_1).f0))).trans hx138_3
            replace hx138_4 := (cell_far (p := ⟨gb137, 0, none⟩) (by first | (rw [add_block]; exact hn138_0) | (show (Addr.add _ _).block ≠ _; rw [add_block]; exact hn138_0) | exact hn138_0) (.int .i64 ((rd_T28 l0 x3_1).f0))).trans hx138_4
            replace hx138_5 := (cell_far (p := ⟨gb137, 0, none⟩) (by first | (rw [add_block]; exact hn138_0) | (show (Addr.add _ _).block ≠ _; rw [add_block]; exact hn138_0) | exact hn138_0) (.int .i64 ((rd_T28 l0 x3_1).f0))).trans hx138_5
            replace hx138_6 := (cell_far (p := ⟨gb137, 0, none⟩) (by first | (rw [add_block]; exact hn138_0) | (show (Addr.add _ _).block ≠ _; rw [add_block]; exact hn138_0) | exact hn138_0) (.int .i64 ((rd_T28 l0 x3_1).f0))).trans hx138_6
            replace hx138_7 := (cell_far (p := ⟨gb137, 0, none⟩) (by first | (rw [add_block]; exact hn138_0) | (show (Addr.add _ _).block ≠ _; rw [add_block]; exact hn138_0) | exact hn138_0) (.int .i64 ((rd_T28 l0 x3_1).f0))).trans hx138_7
            replace hx138_0 := (cell_far (p := ⟨gb137, 1, none⟩) (by first | (rw [add_block]; exact hn138_1) | (show (Addr.add _ _).block ≠ _; rw [add_block]; exact hn138_1) | exact hn138_1) (.slice (some ad138) ((rd_T28 l0 x3_1).f1).length c136_1)).trans hx138_0
            replace hx138_1 := (cell_far (p := ⟨gb137, 1, none⟩) (by first | (rw [add_block]; exact hn138_1) | (show (Addr.add _ _).block ≠ _; rw [add_block]; exact hn138_1) | exact hn138_1) (.slice (some ad138) ((rd_T28 l0 x3_1).f1).length c136_1)).trans hx138_1
            replace hx138_2 := (cell_far (p := ⟨gb137, 1, none⟩) (by first | (rw [add_block]; exact hn138_1) | (show (Addr.add _ _).block ≠ _; rw [add_block]; exact hn138_1) | exact hn138_1) (.slice (some ad138) ((rd_T28 l0 x3_1).f1).length c136_1)).trans hx138_2
            replace hx138_3 := (cell_far (p := ⟨gb137, 1, none⟩) (by first | (rw [add_block]; exact hn138_1) | (show (Addr.add _ _).block ≠ _; rw [add_block]; exact hn138_1) | exact hn138_1) (.slice (some ad138) ((rd_T28 l0 x3_1).f1).length c136_1)).trans hx138_3
            replace hx138_4 := (cell_far (p := ⟨gb137, 1, none⟩) (by first | (rw [add_block]; exact hn138_1) | (show (Addr.add _ _).block ≠ _; rw [add_block]; exact hn138_1) | exact hn138_1) (.slice (some ad138) ((rd_T28 l0 x3_1).f1).length c136_1)).trans hx138_4
            replace hx138_5 := (cell_far (p := ⟨gb137, 1, none⟩) (by first | (rw [add_block]; exact hn138_1) | (show (Addr.add _ _).block ≠ _; rw [add_block]; exact hn138_1) | exact hn138_1) (.slice (some ad138) ((rd_T28 l0 x3_1).f1).length c136_1)).trans hx138_5
            replace hx138_6 := (cell_far (p := ⟨gb137, 1, none⟩) (by first | (rw [add_block]; exact hn138_1) | (show (Addr.add _ _).block ≠ _; rw [add_block]; exact hn138_1) | exact hn138_1) (.slice (some ad138) ((rd_T28 l0 x3_1).f1).length c136_1)).trans hx138_6
            replace hx138_7 := (cell_far (p := ⟨gb137, 1, none⟩) (by first | (rw [add_block]; exact hn138_1) | (show (Addr.add _ _).block ≠ _; rw [add_block]; exact hn138_1) | exact hn138_1) (.slice (some ad138) ((rd_T28 l0 x3_1).f1).length c136_1)).trans hx138_7
            clear hn138_0
            clear hn138_1
            replace p138 := eq_true p138
            replace q138 := eq_true q138
            go_wp2
            go_meet
            case rel => exact ⟨_, ((((rd_T31 ((rd_T28 l0 x3_1).f1) (ji15)).f0) != 20)), (by first | rfl | (simp; done) | (simp only [← hji15] <;> (first | rfl | simp)) | (simp [*]; done)), H', ⟨by have := HK1.out; first | omega | exact Nat.le_refl _⟩, ⟨by (with_reducible repeat (first | refine blk_drewN ?_ _ | refine blk_drew ?_ | refine blk_alloc ?_ _)); refine blk_put (cs := #[.int .i64 ((rd_T28 l0 x3_1).f0), .slice none 0 0]) ?_ 1 _ rfl; (with_reducible repeat (first | refine blk_drewN ?_ _ | refine blk_drew ?_ | refine blk_alloc ?_ _)); refine blk_put (cs := #[.int .i64 0, .slice none 0 0]) ?_ 0 _ rfl; (with_reducible repeat (first | refine blk_drewN ?_ _ | refine blk_drew ?_ | refine blk_alloc ?_ _)); exact BK137.out⟩, ⟨zG⟩⟩
           ·rw [if_neg c17] at H
            exact absurd H (by simp)
          ·rw [if_neg c16] at H
           exact absurd H (by simp)
     case rest =>
      clear HC4
      clear c2b0 c3b0 hcz6_0 hcz6_1 hfz6_0 hfz6_1 hx136_0 hx136_1 p136 q136
      obtain ⟨kq, x46_3, rfl, HA, HJ3, BK137, HB⟩ := hcut
      cases kq with
      | zero => exact absurd HA.out (by simp [q9_Right.j1])
      | succ kj3 =>
       have H := HA.out
       clear HA
       simp only [q9_Right.j1] at H
       by_cases c19 : x46_3 = true
       ·subst c19
        rw [if_pos rfl] at H
        obtain rfl := Option.some.inj H
        go_wp2
        go_ret
        exact ⟨zE, zG⟩
       ·replace c19 := Bool.eq_false_iff.mpr c19
        subst c19
        rw [if_neg (show ¬ (false = true) by decide)] at H
        have H' := Aside0.mk H
        clear H
        go_wp2
        go_loopg [6] kj3 (fun kq v6 w' => ∃ (x6_3 : Int), v6 = .int .i64 x6_3 ∧ Aside0 (q9_Right.l1 kq l0 x3_1 (((rd_T28 l0 x3_1).f1).length : Int) x6_3 ((rd_T28 l0 x3_1).f0) ((rd_T28 l0 x3_1).f1) = some r) ∧ Aside0 (kq ≤ kj3) ∧ Aside0 (w'.heap[gb137]? = some (.cells #[.int .i64 ((rd_T28 l0 x3_1).f0), (.slice A136_1 ((rd_T28 l0 x3_1).f1).length c136_1)] 28 (0, 0))) ∧ Aside0 (Below w.heap.size w w'))
        case atStart => exact ⟨(0), zR, H', ⟨Nat.le_refl _⟩, ⟨zK⟩, ⟨zG⟩⟩
        case round =>
         clear H'
         obtain ⟨x6_3, rfl, HA, HK3, BK137, HB⟩ := hrel
         cases gk with
         | zero => exact absurd HA.out (by simp [q9_Right.l1])
         | succ k3 =>
          have H := HA.out
          clear HA
          simp only [q9_Right.l1] at H
          by_cases c20 : x6_3 < (((rd_T28 l0 x3_1).f1).length : Int)
          ·rw [if_pos c20] at H
           have c20b0 : decide (x6_3 < (((rd_T28 l0 x3_1).f1).length : Int)) = true := decide_eq_true c20
           clear c20
           by_cases c21 : 0 ≤ x6_3
           ·rw [if_pos c21] at H
            have c21b0 : decide (0 ≤ x6_3) = true := decide_eq_true c21
            clear c21
            by_cases c22 : x6_3 < (((rd_T28 l0 x3_1).f1).length : Int)
            ·rw [if_pos c22] at H
             have c22b0 : decide (x6_3 < (((rd_T28 l0 x3_1).f1).length : Int)) = true := decide_eq_true c22
             clear c22
             obtain ⟨t140, A23, H⟩ := zO H
             by_cases c24 : t140 = true
             ·subst c24
              rw [if_pos rfl] at H
              have H' := Aside0.mk H
              clear H
              try go_wp2
              have n0_ := Aside0.mk (blk_drew BK137.out)
              have n1_ := Aside0.mk (below_drew1 HB.out)
              clear BK137
              clear HB
              have BK137 := n0_
              have HB := n1_
              clear n0_ n1_
              have p139 : 0 ≤ (x6_3 : Int) := of_decide_eq_true zA
              have q139 : x6_3 < (((rd_T28 l0 x3_1).f1).length : Int) := of_decide_eq_true zA
              obtain ⟨ad139, A139_7, c139_7, e139, hx139_0, hx139_1, hx139_2, hx139_3, hx139_4, hx139_5, hx139_6, hx139_7, hl139_7, hi139_7⟩ := at_T31 HR136_1.out x6_3 p139 q139
              have hw139_7 := hx139_7
              have hw139_6 := hx139_6
              have hw139_5 := hx139_5
              have hw139_4 := hx139_4
              have hw139_3 := hx139_3
              have hw139_2 := hx139_2
              have hw139_1 := hx139_1
              have hw139_0 := hx139_0
              cases e139
              replace hx139_0 := (HB.out.cell (World.block_lt_of_cell? w _ hx139_0)).trans hx139_0
              replace hx139_1 := (HB.out.cell (World.block_lt_of_cell? w _ hx139_1)).trans hx139_1
              replace hx139_2 := (HB.out.cell (World.block_lt_of_cell? w _ hx139_2)).trans hx139_2
              replace hx139_3 := (HB.out.cell (World.block_lt_of_cell? w _ hx139_3)).trans hx139_3
              replace hx139_4 := (HB.out.cell (World.block_lt_of_cell? w _ hx139_4)).trans hx139_4
              replace hx139_5 := (HB.out.cell (World.block_lt_of_cell? w _ hx139_5)).trans hx139_5
              replace hx139_6 := (HB.out.cell (World.block_lt_of_cell? w _ hx139_6)).trans hx139_6
              replace hx139_7 := (HB.out.cell (World.block_lt_of_cell? w _ hx139_7)).trans hx139_7
              have HR139_7 := Aside0.mk hi139_7
              have HC139_7 := Aside0.mk hl139_7
              clear hi139_7 hl139_7
              replace p139 := eq_true p139
              replace q139 := eq_true q139
              refine start_ (n := 10) (S := fun w' => w'.cell? ⟨gb137, 0, none⟩ = some (.int .i64 ((rd_T28 l0 x3_1).f0)) ∧ w'.cell? ⟨gb137, 1, none⟩ = some (.slice (some ad139) ((rd_T28 l0 x3_1).f1).length c136_1) ∧ w'.cell? (ad139.add ((x6_3).toNat * 8)) = some (.int .i64 ((rd_T31 ((rd_T28 l0 x3_1).f1) x6_3).f0)) ∧ w'.cell? ⟨(ad139.add ((x6_3).toNat * 8)).block, (ad139.add ((x6_3).toNat * 8)).off + 1, none⟩ = some (.int .i64 ((rd_T31 ((rd_T28 l0 x3_1).f1) x6_3).f1)) ∧ w'.cell? ⟨(ad139.add ((x6_3).toNat * 8)).block, (ad139.add ((x6_3).toNat * 8)).off + 2, none⟩ = some (.int .i64 ((rd_T31 ((rd_T28 l0 x3_1).f1) x6_3).f2)) ∧ w'.cell? ⟨(ad139.add ((x6_3).toNat * 8)).block, (ad139.add ((x6_3).toNat * 8)).off + 3, none⟩ = some (.int .i64 ((rd_T31 ((rd_T28 l0 x3_1).f1) x6_3).f3)) ∧ w'.cell? ⟨(ad139.add ((x6_3).toNat * 8)).block, (ad139.add ((x6_3).toNat * 8)).off + 4, none⟩ = some (.int .i64 ((rd_T31 ((rd_T28 l0 x3_1).f1) x6_3).f4)) ∧ w'.cell? ⟨(ad139.add ((x6_3).toNat * 8)).block, (ad139.add ((x6_3).toNat * 8)).off + 5, none⟩ = some (.string ((rd_T31 ((rd_T28 l0 x3_1).f1) x6_3).f5)) ∧ w'.cell? ⟨(ad139.add ((x6_3).toNat * 8)).block, (ad139.add ((x6_3).toNat * 8)).off + 6, none⟩ = some (.int .i64 ((rd_T31 ((rd_T28 l0 x3_1).f1) x6_3).f6)) ∧ w'.cell? ⟨(ad139.add ((x6_3).toNat * 8)).block, (ad139.add ((x6_3).toNat * 8)).off + 7, none⟩ = some (.slice A139_7 ((rd_T31 ((rd_T28 l0 x3_1).f1) x6_3).f7).length c139_7)) (ds := []) #[false, false, false, false, false, false, false, false, false, false] (by kernel_rfl) rfl rfl ⟨(blk_cell BK137.out 0).trans rfl, (blk_cell BK137.out 1).trans rfl, ((HB.out.cell (World.block_lt_of_cell? w _ hw139_0)).trans hw139_0), ((HB.out.cell (World.block_lt_of_cell? w _ hw139_1)).trans hw139_1), ((HB.out.cell (World.block_lt_of_cell? w _ hw139_2)).trans hw139_2), ((HB.out.cell (World.block_lt_of_cell? w _ hw139_3)).trans hw139_3), ((HB.out.cell (World.block_lt_of_cell? w _ hw139_4)).trans hw139_4), ((HB.out.cell (World.block_lt_of_cell? w _ hw139_5)).trans hw139_5), ((HB.out.cell (World.block_lt_of_cell? w _ hw139_6)).trans hw139_6), ((HB.out.cell (World.block_lt_of_cell? w _ hw139_7)).trans hw139_7)⟩ (fun hHeld => ?_); refine with_tabW q9_Right.tab11 q9_Right.bits11 (fun HT_ HW_ => ?_)
              generalize wr.drew = w25 at BK137 HB HR139_7 hx139_0 hx139_1 hx139_2 hx139_3 hx139_4 hx139_5 hx139_6 hx139_7 hHeld ⊢
              refine pure_ (i := 0) (N := some 52) (v := ?_) (a' := ?_) #[true, false, false, false, false, false, false, false, false, false] rfl rfl (any_of HT_.out (by kernel_rfl)) (fun _ _ _ h => h) (Or.inl ⟨by rfl, ?_⟩) ?_ ?_
              rotate_left
              ·intro w'
               go_simp
               with_reducible rfl
              rotate_left
              ·simp only [Act.put, List.setIfInBounds_toArray, List.set_cons_zero, List.set_cons_succ, i64_w, i32_w]
               rfl
              refine pure_ (i := 2) (N := some 54) (v := ?_) (a' := ?_) #[true, false, true, false, false, false, false, false, false, false] rfl rfl (any_of HT_.out (by kernel_rfl)) (fun _ _ _ h => h) (Or.inl ⟨by rfl, ?_⟩) ?_ ?_
              rotate_left
              ·intro w'
               go_simp
               with_reducible rfl
              rotate_left
              ·simp only [Act.put, List.setIfInBounds_toArray, List.set_cons_zero, List.set_cons_succ, i64_w, i32_w]
               rfl
              refine pure_ (i := 6) (N := some 58) (v := ?_) (a' := ?_) #[true, false, true, false, false, false, true, false, false, false] rfl rfl (any_of HT_.out (by kernel_rfl)) (fun _ _ _ h => h) (Or.inl ⟨by rfl, ?_⟩) ?_ ?_
              rotate_left
              ·intro w'
               go_simp
               with_reducible rfl
              rotate_left
              ·simp only [Act.put, List.setIfInBounds_toArray, List.set_cons_zero, List.set_cons_succ, i64_w, i32_w]
               rfl
              refine pure_ (i := 7) (N := some 59) (v := ?_) (a' := ?_) #[true, false, true, false, false, false, true, true, false, false] rfl rfl (any_of HT_.out (by kernel_rfl)) (fun _ _ _ h => h) (Or.inl ⟨by rfl, ?_⟩) ?_ ?_
              rotate_left
              ·intro w'
               go_simp
               with_reducible rfl
              rotate_left
              ·simp only [Act.put, List.setIfInBounds_toArray, List.set_cons_zero, List.set_cons_succ, i64_w, i32_w]
               rfl
              refine take_ (i := 1) (N := some 53) (v := ?_) (a' := ?_) #[true, true, true, false, false, false, true, true, false, false] rfl rfl (take_ofW HT_.out HW_.out (by kernel_rfl)) (fun _ _ _ h => h) (Or.inl ⟨by rfl, ?_⟩) hHeld ?_ ?_
              rotate_left
              ·rintro w' ⟨s0, s1, s2, s3, s4, s5, s6, s7, s8, s9⟩
               go_simp
               with_reducible rfl
              rotate_left
              ·simp only [Act.put, List.setIfInBounds_toArray, List.set_cons_zero, List.set_cons_succ, i64_w, i32_w]
               rfl
              refine pure_ (i := 3) (N := some 55) (v := ?_) (a' := ?_) #[true, true, true, true, false, false, true, true, false, false] rfl rfl (any_of HT_.out (by kernel_rfl)) (fun _ _ _ h => h) (Or.inl ⟨by rfl, ?_⟩) ?_ ?_
              rotate_left
              ·intro w'
               go_simp
               with_reducible rfl
              rotate_left
              ·simp only [Act.put, List.setIfInBounds_toArray, List.set_cons_zero, List.set_cons_succ, i64_w, i32_w]
               rfl
              refine take_ (i := 4) (N := some 56) (v := ?_) (a' := ?_) #[true, true, true, true, true, false, true, true, false, false] rfl rfl (take_ofW HT_.out HW_.out (by kernel_rfl)) (fun _ _ _ h => h) (Or.inl ⟨by rfl, ?_⟩) hHeld ?_ ?_
              rotate_left
              ·rintro w' ⟨s0, s1, s2, s3, s4, s5, s6, s7, s8, s9⟩
               go_simp
               with_reducible rfl
              rotate_left
              ·simp only [Act.put, List.setIfInBounds_toArray, List.set_cons_zero, List.set_cons_succ, i64_w, i32_w]
               rfl
              refine take_ (i := 5) (N := some 57) (v := ?_) (a' := ?_) #[true, true, true, true, true, true, true, true, false, false] rfl rfl (take_ofW HT_.out HW_.out (by kernel_rfl)) (fun _ _ _ h => h) (Or.inl ⟨by rfl, ?_⟩) hHeld ?_ ?_
              rotate_left
              ·rintro w' ⟨s0, s1, s2, s3, s4, s5, s6, s7, s8, s9⟩
               go_simp
               with_reducible rfl
              rotate_left
              ·simp only [Act.put, List.setIfInBounds_toArray, List.set_cons_zero, List.set_cons_succ, i64_w, i32_w]
               rfl
              refine one_ (i := 8) (N := some 60) #[true, true, true, true, true, true, true, true, true, false] rfl rfl (one_of HT_.out (by kernel_rfl)) (by decide) (fun K hK => ?_)
              refine goes_ Tryz.func26 (by kernel_rfl) rfl #[.agg #[.int .i64 ((rd_T31 ((rd_T28 l0 x3_1).f1) x6_3).f0), .int .i64 ((rd_T31 ((rd_T28 l0 x3_1).f1) x6_3).f1), .int .i64 ((rd_T31 ((rd_T28 l0 x3_1).f1) x6_3).f2), .int .i64 ((rd_T31 ((rd_T28 l0 x3_1).f1) x6_3).f3), .int .i64 ((rd_T31 ((rd_T28 l0 x3_1).f1) x6_3).f4), .string ((rd_T31 ((rd_T28 l0 x3_1).f1) x6_3).f5), .int .i64 ((rd_T31 ((rd_T28 l0 x3_1).f1) x6_3).f6), .slice A139_7 ((rd_T31 ((rd_T28 l0 x3_1).f1) x6_3).f7).length c139_7], .agg #[.int .i64 ((rd_T28 l0 x3_1).f0), .slice (some ad139) ((rd_T28 l0 x3_1).f1).length c136_1], .int .i64 (l0.length : Int)] (by rfl) rfl rfl zP ?_
              with_reducible refine (q9_ins.calls k3 ((rd_T31 ((rd_T28 l0 x3_1).f1) x6_3).f0) ((rd_T31 ((rd_T28 l0 x3_1).f1) x6_3).f1) ((rd_T31 ((rd_T28 l0 x3_1).f1) x6_3).f2) ((rd_T31 ((rd_T28 l0 x3_1).f1) x6_3).f3) ((rd_T31 ((rd_T28 l0 x3_1).f1) x6_3).f4) ((rd_T31 ((rd_T28 l0 x3_1).f1) x6_3).f5) ((rd_T31 ((rd_T28 l0 x3_1).f1) x6_3).f6) _ _ ((rd_T31 ((rd_T28 l0 x3_1).f1) x6_3).f7) ((rd_T28 l0 x3_1).f0) _ _ ((rd_T28 l0 x3_1).f1) (l0.length : Int) true _ ?side1 ?side2 ?side3 ?side4 A23.out).mono ?_
              (case side1 => repeat (first | exact (Kd.C_below HR139_7.out HB.out) | (with_reducible refine Kd.C_alloc ?_ _) | (with_reducible refine Kd.C_drewN ?_ _) | (with_reducible refine Kd.C_drew ?_)))
              (case side2 => exact HC139_7.out)
              (case side3 => repeat (first | exact (Kd.C_below HR136_1.out HB.out) | (with_reducible refine Kd.C_alloc ?_ _) | (with_reducible refine Kd.C_drewN ?_ _) | (with_reducible refine Kd.C_drew ?_)))
              (case side4 => exact HC136_1.out)
              rintro e w26 ⟨rfl, hb⟩
              refine ⟨_, rfl, ?_⟩
              have n0_ := Aside0.mk (blk_below (g := gb137) zK hb)
              have n1_ := Aside0.mk (below_step zG hb)
              clear BK137
              clear HB
              have BK137 := n0_
              have HB := n1_
              clear n0_ n1_
              (try clear hb)
              (try clear hb2)
              (try clear hk)
              (try clear hi)
              refine hK.out _ _ ⟨(blk_cell BK137.out 0).trans rfl, (blk_cell BK137.out 1).trans rfl, ((HB.out.cell (World.block_lt_of_cell? w _ hw139_0)).trans hw139_0), ((HB.out.cell (World.block_lt_of_cell? w _ hw139_1)).trans hw139_1), ((HB.out.cell (World.block_lt_of_cell? w _ hw139_2)).trans hw139_2), ((HB.out.cell (World.block_lt_of_cell? w _ hw139_3)).trans hw139_3), ((HB.out.cell (World.block_lt_of_cell? w _ hw139_4)).trans hw139_4), ((HB.out.cell (World.block_lt_of_cell? w _ hw139_5)).trans hw139_5), ((HB.out.cell (World.block_lt_of_cell? w _ hw139_6)).trans hw139_6), ((HB.out.cell (World.block_lt_of_cell? w _ hw139_7)).trans hw139_7)⟩ (fun hHeld => ?_)
              clear hK K
              refine norm_ (a' := ?_) ?_ ?_
              rotate_left
              ·show Act.put _ (some 60) _ = _
               simp only [Act.put, List.setIfInBounds_toArray, List.set_cons_zero, List.set_cons_succ, i64_w, i32_w]
               rfl
              refine pure_ (i := 9) (N := some 7) (v := ?_) (a' := ?_) #[true, true, true, true, true, true, true, true, true, true] rfl rfl (any_of HT_.out (by kernel_rfl)) (fun _ _ _ h => h) (Or.inl ⟨by rfl, ?_⟩) ?_ ?_
              rotate_left
              ·intro w'
               go_simp
               with_reducible rfl
              rotate_left
              ·simp only [Act.put, List.setIfInBounds_toArray, List.set_cons_zero, List.set_cons_succ, i64_w, i32_w]
               rfl
              refine done_ (done_of HT_.out (by kernel_rfl)) ?_
              try go_wp2
              go_roundg k3
              case measure => have := HK1.out; have := HJ3.out; have := HK3.out; omega
              case rel => exact ⟨(wrap64 (x6_3 + 1)), zR, H', ⟨by have := HK1.out; have := HJ3.out; have := HK3.out; omega⟩, ⟨zK⟩, ⟨zG⟩⟩
             ·replace c24 := Bool.eq_false_iff.mpr c24
              subst c24
              rw [if_neg (show ¬ (false = true) by decide)] at H
              obtain rfl := Option.some.inj H
              try go_wp2
              have n0_ := Aside0.mk (blk_drew BK137.out)
              have n1_ := Aside0.mk (below_drew1 HB.out)
              clear BK137
              clear HB
              have BK137 := n0_
              have HB := n1_
              clear n0_ n1_
              have p139 : 0 ≤ (x6_3 : Int) := of_decide_eq_true zA
              have q139 : x6_3 < (((rd_T28 l0 x3_1).f1).length : Int) := of_decide_eq_true zA
              obtain ⟨ad139, A139_7, c139_7, e139, hx139_0, hx139_1, hx139_2, hx139_3, hx139_4, hx139_5, hx139_6, hx139_7, hl139_7, hi139_7⟩ := at_T31 HR136_1.out x6_3 p139 q139
              have hw139_7 := hx139_7
              have hw139_6 := hx139_6
              have hw139_5 := hx139_5
              have hw139_4 := hx139_4
              have hw139_3 := hx139_3
              have hw139_2 := hx139_2
              have hw139_1 := hx139_1
              have hw139_0 := hx139_0
              cases e139
              replace hx139_0 := (HB.out.cell (World.block_lt_of_cell? w _ hx139_0)).trans hx139_0
              replace hx139_1 := (HB.out.cell (World.block_lt_of_cell? w _ hx139_1)).trans hx139_1
              replace hx139_2 := (HB.out.cell (World.block_lt_of_cell? w _ hx139_2)).trans hx139_2
              replace hx139_3 := (HB.out.cell (World.block_lt_of_cell? w _ hx139_3)).trans hx139_3
              replace hx139_4 := (HB.out.cell (World.block_lt_of_cell? w _ hx139_4)).trans hx139_4
              replace hx139_5 := (HB.out.cell (World.block_lt_of_cell? w _ hx139_5)).trans hx139_5
              replace hx139_6 := (HB.out.cell (World.block_lt_of_cell? w _ hx139_6)).trans hx139_6
              replace hx139_7 := (HB.out.cell (World.block_lt_of_cell? w _ hx139_7)).trans hx139_7
              have HR139_7 := Aside0.mk hi139_7
              have HC139_7 := Aside0.mk hl139_7
              clear hi139_7 hl139_7
              replace p139 := eq_true p139
              replace q139 := eq_true q139
              refine start_ (n := 10) (S := fun w' => w'.cell? ⟨gb137, 0, none⟩ = some (.int .i64 ((rd_T28 l0 x3_1).f0)) ∧ w'.cell? ⟨gb137, 1, none⟩ = some (.slice (some ad139) ((rd_T28 l0 x3_1).f1).length c136_1) ∧ w'.cell? (ad139.add ((x6_3).toNat * 8)) = some (.int .i64 ((rd_T31 ((rd_T28 l0 x3_1).f1) x6_3).f0)) ∧ w'.cell? ⟨(ad139.add ((x6_3).toNat * 8)).block, (ad139.add ((x6_3).toNat * 8)).off + 1, none⟩ = some (.int .i64 ((rd_T31 ((rd_T28 l0 x3_1).f1) x6_3).f1)) ∧ w'.cell? ⟨(ad139.add ((x6_3).toNat * 8)).block, (ad139.add ((x6_3).toNat * 8)).off + 2, none⟩ = some (.int .i64 ((rd_T31 ((rd_T28 l0 x3_1).f1) x6_3).f2)) ∧ w'.cell? ⟨(ad139.add ((x6_3).toNat * 8)).block, (ad139.add ((x6_3).toNat * 8)).off + 3, none⟩ = some (.int .i64 ((rd_T31 ((rd_T28 l0 x3_1).f1) x6_3).f3)) ∧ w'.cell? ⟨(ad139.add ((x6_3).toNat * 8)).block, (ad139.add ((x6_3).toNat * 8)).off + 4, none⟩ = some (.int .i64 ((rd_T31 ((rd_T28 l0 x3_1).f1) x6_3).f4)) ∧ w'.cell? ⟨(ad139.add ((x6_3).toNat * 8)).block, (ad139.add ((x6_3).toNat * 8)).off + 5, none⟩ = some (.string ((rd_T31 ((rd_T28 l0 x3_1).f1) x6_3).f5)) ∧ w'.cell? ⟨(ad139.add ((x6_3).toNat * 8)).block, (ad139.add ((x6_3).toNat * 8)).off + 6, none⟩ = some (.int .i64 ((rd_T31 ((rd_T28 l0 x3_1).f1) x6_3).f6)) ∧ w'.cell? ⟨(ad139.add ((x6_3).toNat * 8)).block, (ad139.add ((x6_3).toNat * 8)).off + 7, none⟩ = some (.slice A139_7 ((rd_T31 ((rd_T28 l0 x3_1).f1) x6_3).f7).length c139_7)) (ds := []) #[false, false, false, false, false, false, false, false, false, false] (by kernel_rfl) rfl rfl ⟨(blk_cell BK137.out 0).trans rfl, (blk_cell BK137.out 1).trans rfl, ((HB.out.cell (World.block_lt_of_cell? w _ hw139_0)).trans hw139_0), ((HB.out.cell (World.block_lt_of_cell? w _ hw139_1)).trans hw139_1), ((HB.out.cell (World.block_lt_of_cell? w _ hw139_2)).trans hw139_2), ((HB.out.cell (World.block_lt_of_cell? w _ hw139_3)).trans hw139_3), ((HB.out.cell (World.block_lt_of_cell? w _ hw139_4)).trans hw139_4), ((HB.out.cell (World.block_lt_of_cell? w _ hw139_5)).trans hw139_5), ((HB.out.cell (World.block_lt_of_cell? w _ hw139_6)).trans hw139_6), ((HB.out.cell (World.block_lt_of_cell? w _ hw139_7)).trans hw139_7)⟩ (fun hHeld => ?_); refine with_tabW q9_Right.tab11 q9_Right.bits11 (fun HT_ HW_ => ?_)
              generalize wr.drew = w27 at BK137 HB HR139_7 hx139_0 hx139_1 hx139_2 hx139_3 hx139_4 hx139_5 hx139_6 hx139_7 hHeld ⊢
              refine pure_ (i := 0) (N := some 52) (v := ?_) (a' := ?_) #[true, false, false, false, false, false, false, false, false, false] rfl rfl (any_of HT_.out (by kernel_rfl)) (fun _ _ _ h => h) (Or.inl ⟨by rfl, ?_⟩) ?_ ?_
              rotate_left
              ·intro w'
               go_simp
               with_reducible rfl
              rotate_left
              ·simp only [Act.put, List.setIfInBounds_toArray, List.set_cons_zero, List.set_cons_succ, i64_w, i32_w]
               rfl
              refine pure_ (i := 2) (N := some 54) (v := ?_) (a' := ?_) #[true, false, true, false, false, false, false, false, false, false] rfl rfl (any_of HT_.out (by kernel_rfl)) (fun _ _ _ h => h) (Or.inl ⟨by rfl, ?_⟩) ?_ ?_
              rotate_left
              ·intro w'
               go_simp
               with_reducible rfl
              rotate_left
              ·simp only [Act.put, List.setIfInBounds_toArray, List.set_cons_zero, List.set_cons_succ, i64_w, i32_w]
               rfl
              refine pure_ (i := 6) (N := some 58) (v := ?_) (a' := ?_) #[true, false, true, false, false, false, true, false, false, false] rfl rfl (any_of HT_.out (by kernel_rfl)) (fun _ _ _ h => h) (Or.inl ⟨by rfl, ?_⟩) ?_ ?_
              rotate_left
              ·intro w'
               go_simp
               with_reducible rfl
              rotate_left
              ·simp only [Act.put, List.setIfInBounds_toArray, List.set_cons_zero, List.set_cons_succ, i64_w, i32_w]
               rfl
              refine pure_ (i := 7) (N := some 59) (v := ?_) (a' := ?_) #[true, false, true, false, false, false, true, true, false, false] rfl rfl (any_of HT_.out (by kernel_rfl)) (fun _ _ _ h => h) (Or.inl ⟨by rfl, ?_⟩) ?_ ?_
              rotate_left
              ·intro w'
               go_simp
               with_reducible rfl
              rotate_left
              ·simp only [Act.put, List.setIfInBounds_toArray, List.set_cons_zero, List.set_cons_succ, i64_w, i32_w]
               rfl
              refine take_ (i := 1) (N := some 53) (v := ?_) (a' := ?_) #[true, true, true, false, false, false, true, true, false, false] rfl rfl (take_ofW HT_.out HW_.out (by kernel_rfl)) (fun _ _ _ h => h) (Or.inl ⟨by rfl, ?_⟩) hHeld ?_ ?_
              rotate_left
              ·rintro w' ⟨s0, s1, s2, s3, s4, s5, s6, s7, s8, s9⟩
               go_simp
               with_reducible rfl
              rotate_left
              ·simp only [Act.put, List.setIfInBounds_toArray, List.set_cons_zero, List.set_cons_succ, i64_w, i32_w]
               rfl
              refine pure_ (i := 3) (N := some 55) (v := ?_) (a' := ?_) #[true, true, true, true, false, false, true, true, false, false] rfl rfl (any_of HT_.out (by kernel_rfl)) (fun _ _ _ h => h) (Or.inl ⟨by rfl, ?_⟩) ?_ ?_
              rotate_left
              ·intro w'
               go_simp
               with_reducible rfl
              rotate_left
              ·simp only [Act.put, List.setIfInBounds_toArray, List.set_cons_zero, List.set_cons_succ, i64_w, i32_w]
               rfl
              refine take_ (i := 4) (N := some 56) (v := ?_) (a' := ?_) #[true, true, true, true, true, false, true, true, false, false] rfl rfl (take_ofW HT_.out HW_.out (by kernel_rfl)) (fun _ _ _ h => h) (Or.inl ⟨by rfl, ?_⟩) hHeld ?_ ?_
              rotate_left
              ·rintro w' ⟨s0, s1, s2, s3, s4, s5, s6, s7, s8, s9⟩
               go_simp
               with_reducible rfl
              rotate_left
              ·simp only [Act.put, List.setIfInBounds_toArray, List.set_cons_zero, List.set_cons_succ, i64_w, i32_w]
               rfl
              refine take_ (i := 5) (N := some 57) (v := ?_) (a' := ?_) #[true, true, true, true, true, true, true, true, false, false] rfl rfl (take_ofW HT_.out HW_.out (by kernel_rfl)) (fun _ _ _ h => h) (Or.inl ⟨by rfl, ?_⟩) hHeld ?_ ?_
              rotate_left
              ·rintro w' ⟨s0, s1, s2, s3, s4, s5, s6, s7, s8, s9⟩
               go_simp
               with_reducible rfl
              rotate_left
              ·simp only [Act.put, List.setIfInBounds_toArray, List.set_cons_zero, List.set_cons_succ, i64_w, i32_w]
               rfl
              refine one_ (i := 8) (N := some 60) #[true, true, true, true, true, true, true, true, true, false] rfl rfl (one_of HT_.out (by kernel_rfl)) (by decide) (fun K hK => ?_)
              refine goes_ Tryz.func26 (by kernel_rfl) rfl #[.agg #[.int .i64 ((rd_T31 ((rd_T28 l0 x3_1).f1) x6_3).f0), .int .i64 ((rd_T31 ((rd_T28 l0 x3_1).f1) x6_3).f1), .int .i64 ((rd_T31 ((rd_T28 l0 x3_1).f1) x6_3).f2), .int .i64 ((rd_T31 ((rd_T28 l0 x3_1).f1) x6_3).f3), .int .i64 ((rd_T31 ((rd_T28 l0 x3_1).f1) x6_3).f4), .string ((rd_T31 ((rd_T28 l0 x3_1).f1) x6_3).f5), .int .i64 ((rd_T31 ((rd_T28 l0 x3_1).f1) x6_3).f6), .slice A139_7 ((rd_T31 ((rd_T28 l0 x3_1).f1) x6_3).f7).length c139_7], .agg #[.int .i64 ((rd_T28 l0 x3_1).f0), .slice (some ad139) ((rd_T28 l0 x3_1).f1).length c136_1], .int .i64 (l0.length : Int)] (by rfl) rfl rfl zP ?_
              with_reducible refine (q9_ins.calls k3 ((rd_T31 ((rd_T28 l0 x3_1).f1) x6_3).f0) ((rd_T31 ((rd_T28 l0 x3_1).f1) x6_3).f1) ((rd_T31 ((rd_T28 l0 x3_1).f1) x6_3).f2) ((rd_T31 ((rd_T28 l0 x3_1).f1) x6_3).f3) ((rd_T31 ((rd_T28 l0 x3_1).f1) x6_3).f4) ((rd_T31 ((rd_T28 l0 x3_1).f1) x6_3).f5) ((rd_T31 ((rd_T28 l0 x3_1).f1) x6_3).f6) _ _ ((rd_T31 ((rd_T28 l0 x3_1).f1) x6_3).f7) ((rd_T28 l0 x3_1).f0) _ _ ((rd_T28 l0 x3_1).f1) (l0.length : Int) false _ ?side1 ?side2 ?side3 ?side4 A23.out).mono ?_
              (case side1 => repeat (first | exact (Kd.C_below HR139_7.out HB.out) | (with_reducible refine Kd.C_alloc ?_ _) | (with_reducible refine Kd.C_drewN ?_ _) | (with_reducible refine Kd.C_drew ?_)))
              (case side2 => exact HC139_7.out)
              (case side3 => repeat (first | exact (Kd.C_below HR136_1.out HB.out) | (with_reducible refine Kd.C_alloc ?_ _) | (with_reducible refine Kd.C_drewN ?_ _) | (with_reducible refine Kd.C_drew ?_)))
              (case side4 => exact HC136_1.out)
              rintro e w28 ⟨rfl, hb⟩
              refine ⟨_, rfl, ?_⟩
              have n0_ := Aside0.mk (blk_below (g := gb137) zK hb)
              have n1_ := Aside0.mk (below_step zG hb)
              clear BK137
              clear HB
              have BK137 := n0_
              have HB := n1_
              clear n0_ n1_
              (try clear hb)
              (try clear hb2)
              (try clear hk)
              (try clear hi)
              refine hK.out _ _ ⟨(blk_cell BK137.out 0).trans rfl, (blk_cell BK137.out 1).trans rfl, ((HB.out.cell (World.block_lt_of_cell? w _ hw139_0)).trans hw139_0), ((HB.out.cell (World.block_lt_of_cell? w _ hw139_1)).trans hw139_1), ((HB.out.cell (World.block_lt_of_cell? w _ hw139_2)).trans hw139_2), ((HB.out.cell (World.block_lt_of_cell? w _ hw139_3)).trans hw139_3), ((HB.out.cell (World.block_lt_of_cell? w _ hw139_4)).trans hw139_4), ((HB.out.cell (World.block_lt_of_cell? w _ hw139_5)).trans hw139_5), ((HB.out.cell (World.block_lt_of_cell? w _ hw139_6)).trans hw139_6), ((HB.out.cell (World.block_lt_of_cell? w _ hw139_7)).trans hw139_7)⟩ (fun hHeld => ?_)
              clear hK K
              refine norm_ (a' := ?_) ?_ ?_
              rotate_left
              ·show Act.put _ (some 60) _ = _
               simp only [Act.put, List.setIfInBounds_toArray, List.set_cons_zero, List.set_cons_succ, i64_w, i32_w]
               rfl
              refine pure_ (i := 9) (N := some 7) (v := ?_) (a' := ?_) #[true, true, true, true, true, true, true, true, true, true] rfl rfl (any_of HT_.out (by kernel_rfl)) (fun _ _ _ h => h) (Or.inl ⟨by rfl, ?_⟩) ?_ ?_
              rotate_left
              ·intro w'
               go_simp
               with_reducible rfl
              rotate_left
              ·simp only [Act.put, List.setIfInBounds_toArray, List.set_cons_zero, List.set_cons_succ, i64_w, i32_w]
               rfl
              refine done_ (done_of HT_.out (by kernel_rfl)) ?_
              try go_wp2
              go_ret
              exact ⟨zE, zG⟩
            ·rw [if_neg c22] at H
             exact absurd H (by simp)
           ·rw [if_neg c21] at H
            exact absurd H (by simp)
          ·rw [if_neg c20] at H
           have c20b0 : decide (x6_3 < (((rd_T28 l0 x3_1).f1).length : Int)) = false := decide_eq_false c20
           clear c20
           have H' := Aside0.mk H
           clear H
           go_wp2
           go_roundg k3
           case measure => have := HK1.out; have := HJ3.out; have := HK3.out; omega
           case rel => exact ⟨(wrap64 (x3_1 + 1)), zR, H', ⟨by have := HK1.out; have := HJ3.out; have := HK3.out; omega⟩, ⟨zG⟩⟩
    ·rw [if_neg c3] at H
     exact absurd H (by simp)
   ·rw [if_neg c2] at H
    have c2b0 : decide (x3_1 < (l0.length : Int)) = false := decide_eq_false c2
    clear c2
    obtain rfl := Option.some.inj H
    go_wp2
    go_ret
    exact ⟨zE, zB⟩
end Go.Proofs.YtjlhhjfmekjbhaaGreatDoor.Pq

namespace Go.Proofs.YtjlhhjfmekjbhaaGreatDoor.Pq
open Go.RowKit Go.Proofs.YtjlhhjfmekjbhaaGreatDoor.Vb Go.Proofs.YtjlhhjfmekjbhaaGreatDoorW.PrintWords Go.Proofs.YtjlhhjfmekjbhaaGreatDoorW.PrintLast Go.Proofs.YtjlhhjfmekjbhaaGreatDoorW.PrintMore
set_option linter.unusedVariables false
set_option linter.unusedSimpArgs false
/-! ### q9_num: function 35 -/
def q9_num.f (a0 : Int) : Option (ByteArray) := (q6_Key.f 3 a0 (⟨#[]⟩ : ByteArray)).bind fun t141 => (some t141)
set_option maxHeartbeats 8000000 in
set_option maxRecDepth 100000 in
theorem q9_num.calls (a0 : Int) (r : ByteArray) (w : World) (h : q9_num.f a0 = some r) :
  Calls Tryz.prog 35 #[.int .i64 a0] w fun e w' => e = .returned (.string r) ∧ Below w.heap.size w w' := by
 have hu83 := Tryz.underlying83
 have HB := Aside0.mk (Below.refl w.heap.size w)
 have H : ((q6_Key.f 3 a0 (⟨#[]⟩ : ByteArray)).bind fun t141 => (some t141)) = some r := h
 clear h
 obtain ⟨t141, A2, H⟩ := zO H
 obtain rfl := Option.some.inj H
 go_enter Tryz.func35, Tryz.ntmps35
 go_wp2_with (first | ((with_reducible refine gate_callee (f := 84) rfl ?_); refine goesL_ (some 5) rfl rfl Tryz.func84 (by kernel_rfl) rfl #[.agg #[.int .i64 3, .int .i64 a0, .string (⟨#[]⟩ : ByteArray)]] rfl zP ?_; (with_reducible refine (q6_Key.calls 3 a0 (⟨#[]⟩ : ByteArray) t141 _ A2.out).mono ?_); rintro e w3 ⟨rfl, hb⟩; refine ⟨_, rfl, ?_⟩; replace HB := Aside0.mk (below_step zB hb); (try clear hb)))
 go_ret
 exact ⟨zE, zB⟩
end Go.Proofs.YtjlhhjfmekjbhaaGreatDoor.Pq

namespace Go.Proofs.YtjlhhjfmekjbhaaGreatDoor.Pq
open Go.RowKit Go.Proofs.YtjlhhjfmekjbhaaGreatDoorW.PrintWords Go.Proofs.YtjlhhjfmekjbhaaGreatDoorW.PrintLast Go.Proofs.YtjlhhjfmekjbhaaGreatDoorW.PrintMore
attribute [local go_sem] IntKind.wrap_u8
set_option linter.unusedVariables false
set_option linter.unusedSimpArgs false
/-! ### q2_Quote: function 36 -/
mutual
def q2_Quote.l0 : Nat → ByteArray → ByteArray → ByteArray → Int → Option (ByteArray)
 | 0, _, _, _, _ => none
 | k + 1, x0, x3, x4, x5 => if x5 < (x0.size : Int) then (if 0 ≤ x5 then (if (bt x0 x5) = 34 then (q2_Quote.j1 k x0 x3 x4 x5 (bt x0 x5) true) else (q2_Quote.j1 k x0 x3 x4 x5 (bt x0 x5) ((bt x0 x5) == 92))) else (none)) else (if x4.size + 1 ≤ 9223372036854775807 then (some (x4 ++ (⟨#[34]⟩ : ByteArray))) else (none))
def q2_Quote.j1 : Nat → ByteArray → ByteArray → ByteArray → Int → Int → Bool → Option (ByteArray)
 | 0, _, _, _, _, _, _ => none
 | k + 1, x0, x3, x4, x5, x6, x21 => if x21 = true then (if x4.size + 1 ≤ 9223372036854775807 then (if 0 ≤ x5 then (if x5 ≤ (wrap64 (x5 + 1)) then (if (wrap64 (x5 + 1)) ≤ (x0.size : Int) then (if (x4 ++ (⟨#[92]⟩ : ByteArray)).size + (x0.extract (x5 : Int).toNat ((wrap64 (x5 + 1)) : Int).toNat).size ≤ 9223372036854775807 then (q2_Quote.l0 k x0 x3 ((x4 ++ (⟨#[92]⟩ : ByteArray)) ++ (x0.extract (x5 : Int).toNat ((wrap64 (x5 + 1)) : Int).toNat)) (wrap64 (x5 + 1))) else (none)) else (none)) else (none)) else (none)) else (none)) else (if x6 = 10 then (if x4.size + 2 ≤ 9223372036854775807 then (q2_Quote.l0 k x0 x3 (x4 ++ (⟨#[92, 110]⟩ : ByteArray)) (wrap64 (x5 + 1))) else (none)) else (if x6 = 9 then (if x4.size + 2 ≤ 9223372036854775807 then (q2_Quote.l0 k x0 x3 (x4 ++ (⟨#[92, 116]⟩ : ByteArray)) (wrap64 (x5 + 1))) else (none)) else (if x6 ≥ 32 then (if x6 ≤ 126 then (if 0 ≤ x5 then (if x5 ≤ (wrap64 (x5 + 1)) then (if (wrap64 (x5 + 1)) ≤ (x0.size : Int) then (if x4.size + (x0.extract (x5 : Int).toNat ((wrap64 (x5 + 1)) : Int).toNat).size ≤ 9223372036854775807 then (q2_Quote.l0 k x0 x3 (x4 ++ (x0.extract (x5 : Int).toNat ((wrap64 (x5 + 1)) : Int).toNat)) (wrap64 (x5 + 1))) else (none)) else (none)) else (none)) else (none)) else (if x4.size + 2 ≤ 9223372036854775807 then (if 0 ≤ ((Int.tdiv x6 16) % 256) then (if ((Int.tdiv x6 16) % 256) ≤ ((((Int.tdiv x6 16) % 256) + 1) % 256) then (if ((((Int.tdiv x6 16) % 256) + 1) % 256) ≤ (x3.size : Int) then (if (x4 ++ (⟨#[92, 120]⟩ : ByteArray)).size + (x3.extract (((Int.tdiv x6 16) % 256) : Int).toNat (((((Int.tdiv x6 16) % 256) + 1) % 256) : Int).toNat).size ≤ 9223372036854775807 then (if 0 ≤ (Int.tmod x6 16) then (if (Int.tmod x6 16) ≤ (((Int.tmod x6 16) + 1) % 256) then (if (((Int.tmod x6 16) + 1) % 256) ≤ (x3.size : Int) then (if ((x4 ++ (⟨#[92, 120]⟩ : ByteArray)) ++ (x3.extract (((Int.tdiv x6 16) % 256) : Int).toNat (((((Int.tdiv x6 16) % 256) + 1) % 256) : Int).toNat)).size + (x3.extract ((Int.tmod x6 16) : Int).toNat ((((Int.tmod x6 16) + 1) % 256) : Int).toNat).size ≤ 9223372036854775807 then (q2_Quote.l0 k x0 x3 (((x4 ++ (⟨#[92, 120]⟩ : ByteArray)) ++ (x3.extract (((Int.tdiv x6 16) % 256) : Int).toNat (((((Int.tdiv x6 16) % 256) + 1) % 256) : Int).toNat)) ++ (x3.extract ((Int.tmod x6 16) : Int).toNat ((((Int.tmod x6 16) + 1) % 256) : Int).toNat)) (wrap64 (x5 + 1))) else (none)) else (none)) else (none)) else (none)) else (none)) else (none)) else (none)) else (none)) else (none))) else (if x4.size + 2 ≤ 9223372036854775807 then (if 0 ≤ ((Int.tdiv x6 16) % 256) then (if ((Int.tdiv x6 16) % 256) ≤ ((((Int.tdiv x6 16) % 256) + 1) % 256) then (if ((((Int.tdiv x6 16) % 256) + 1) % 256) ≤ (x3.size : Int) then (if (x4 ++ (⟨#[92, 120]⟩ : ByteArray)).size + (x3.extract (((Int.tdiv x6 16) % 256) : Int).toNat (((((Int.tdiv x6 16) % 256) + 1) % 256) : Int).toNat).size ≤ 9223372036854775807 then (if 0 ≤ (Int.tmod x6 16) then (if (Int.tmod x6 16) ≤ (((Int.tmod x6 16) + 1) % 256) then (if (((Int.tmod x6 16) + 1) % 256) ≤ (x3.size : Int) then (if ((x4 ++ (⟨#[92, 120]⟩ : ByteArray)) ++ (x3.extract (((Int.tdiv x6 16) % 256) : Int).toNat (((((Int.tdiv x6 16) % 256) + 1) % 256) : Int).toNat)).size + (x3.extract ((Int.tmod x6 16) : Int).toNat ((((Int.tmod x6 16) + 1) % 256) : Int).toNat).size ≤ 9223372036854775807 then (q2_Quote.l0 k x0 x3 (((x4 ++ (⟨#[92, 120]⟩ : ByteArray)) ++ (x3.extract (((Int.tdiv x6 16) % 256) : Int).toNat (((((Int.tdiv x6 16) % 256) + 1) % 256) : Int).toNat)) ++ (x3.extract ((Int.tmod x6 16) : Int).toNat ((((Int.tmod x6 16) + 1) % 256) : Int).toNat)) (wrap64 (x5 + 1))) else (none)) else (none)) else (none)) else (none)) else (none)) else (none)) else (none)) else (none)) else (none)))))
end
def q2_Quote.f (k : Nat) (a0 : ByteArray) : Option (ByteArray) := q2_Quote.l0 k a0 (⟨#[48, 49, 50, 51, 52, 53, 54, 55, 56, 57, 97, 98, 99, 100, 101, 102]⟩ : ByteArray) (⟨#[34]⟩ : ByteArray) 0
set_option maxHeartbeats 8000000 in
set_option maxRecDepth 100000 in
theorem q2_Quote.calls (k : Nat) (a0 : ByteArray) (r : ByteArray) (w : World) (h : q2_Quote.f k a0 = some r) :
  Calls Tryz.prog 36 #[.string a0] w fun e w' => e = .returned (.string r) ∧ Drawn0 w w' := by
 have H : (q2_Quote.l0 k a0 (⟨#[48, 49, 50, 51, 52, 53, 54, 55, 56, 57, 97, 98, 99, 100, 101, 102]⟩ : ByteArray) (⟨#[34]⟩ : ByteArray) 0) = some r := h
 clear h
 have H' := Aside0.mk H
 clear H
 go_enter Tryz.func36, Tryz.ntmps36
 go_wp2
 repeat (go_quiet (fail); try go_wp2)
 go_loopg [4, 5] k (fun kq v4 v5 w' => ∃ (x4_1 : ByteArray) (x5_1 : Int), v4 = .string x4_1 ∧ v5 = .int .i64 x5_1 ∧ Aside0 (q2_Quote.l0 kq a0 (⟨#[48, 49, 50, 51, 52, 53, 54, 55, 56, 57, 97, 98, 99, 100, 101, 102]⟩ : ByteArray) x4_1 x5_1 = some r) ∧ Aside0 (kq ≤ k) ∧ Drawn0 w w')
 case atStart => exact ⟨((⟨#[34]⟩ : ByteArray)), (0), zR, zR, H', ⟨Nat.le_refl _⟩, by repeat (first | exact Drawn0.refl _ | apply Drawn0.step)⟩
 case round =>
  clear H'
  obtain ⟨x4_1, x5_1, rfl, rfl, HA, HK1, ⟨m1, rfl⟩⟩ := hrel
  cases gk with
  | zero => exact absurd HA.out (by simp [q2_Quote.l0])
  | succ k1 =>
   have H := HA.out
   clear HA
   simp only [q2_Quote.l0] at H
   by_cases c2 : x5_1 < (a0.size : Int)
   ·rw [if_pos c2] at H
    have c2b0 : decide (x5_1 < (a0.size : Int)) = true := decide_eq_true c2
    clear c2
    by_cases c3 : 0 ≤ x5_1
    ·rw [if_pos c3] at H
     have c3b0 : decide (0 ≤ x5_1) = true := decide_eq_true c3
     clear c3
     have HC5 := Aside0.mk H
     clear H
     have p4 : 0 ≤ (x5_1 : Int) := of_decide_eq_true zA
     have q4 : x5_1 < (a0.size : Int) := of_decide_eq_true zA
     have hx4 := bt_at a0 x5_1
     replace p4 := eq_true p4
     replace q4 := eq_true q4
     go_upto_region 7 with (fail)
     repeat (go_quiet (fail); go_upto_region 7 with (fail))
     go_cut [21] (fun v21 wc => ∃ (kq : Nat) (x21_4 : Bool), v21 = .bool x21_4 ∧ Aside0 (q2_Quote.j1 kq a0 (⟨#[48, 49, 50, 51, 52, 53, 54, 55, 56, 57, 97, 98, 99, 100, 101, 102]⟩ : ByteArray) x4_1 x5_1 (bt a0 x5_1) x21_4 = some r) ∧ Aside0 (kq ≤ k1) ∧ Drawn0 w wc)
     case first =>
      have H := HC5.out
      clear HC5
      by_cases c6 : (bt a0 x5_1) = 34
      ·rw [if_pos c6] at H
       have c6b0 : ((bt a0 x5_1) == 34) = true := beq_iff_eq.mpr c6
       have c6b1 : ((bt a0 x5_1) != 34) = false := bne_eq_false_iff_eq.mpr c6
       clear c6
       (first | rw [c6b0] | (simp only [i64_w, i32_w]; rw [c6b0]) | skip)
       have H' := Aside0.mk H
       clear H
       go_wp2
       repeat (go_quiet (fail); try go_wp2)
       go_meet
       case rel => exact ⟨_, (true), zR, H', ⟨by have := HK1.out; first | omega | exact Nat.le_refl _⟩, by repeat (first | exact Drawn0.refl _ | apply Drawn0.step)⟩
      ·rw [if_neg c6] at H
       have c6b0 : ((bt a0 x5_1) == 34) = false := beq_eq_false_iff_ne.mpr c6
       have c6b1 : ((bt a0 x5_1) != 34) = true := bne_iff_ne.mpr c6
       (first | rw [c6b0] | (simp only [i64_w, i32_w]; rw [c6b0]) | skip)
       have H' := Aside0.mk H
       clear H
       go_wp2
       repeat (go_quiet (fail); try go_wp2)
       go_meet
       case rel => exact ⟨_, (((bt a0 x5_1) == 92)), zR, H', ⟨by have := HK1.out; first | omega | exact Nat.le_refl _⟩, by repeat (first | exact Drawn0.refl _ | apply Drawn0.step)⟩
     case rest =>
      clear HC5
      clear c2b0 c3b0 p4 q4 hx4
      obtain ⟨kq, x21_4, rfl, HA, HJ4, ⟨mc4, rfl⟩⟩ := hcut
      cases kq with
      | zero => exact absurd HA.out (by simp [q2_Quote.j1])
      | succ kj4 =>
       have H := HA.out
       clear HA
       simp only [q2_Quote.j1] at H
       by_cases c7 : x21_4 = true
       ·subst c7
        rw [if_pos rfl] at H
        by_cases c8 : x4_1.size + 1 ≤ 9223372036854775807
        ·rw [if_pos c8] at H
         have c8b0 := eq_true c8
         have c8b1 : decide (x4_1.size + 1 ≤ 9223372036854775807) = true := decide_eq_true c8
         try have c8b2 : (9223372036854775807 < x4_1.size + 1) = False := eq_false (Nat.not_lt.2 c8)
         by_cases c9 : 0 ≤ x5_1
         ·rw [if_pos c9] at H
          have c9b0 := eq_true c9
          have c9b1 : decide (0 ≤ x5_1) = true := decide_eq_true c9
          clear c9
          by_cases c10 : x5_1 ≤ (wrap64 (x5_1 + 1))
          ·rw [if_pos c10] at H
           have c10b0 := eq_true c10
           have c10b1 : decide (x5_1 ≤ (wrap64 (x5_1 + 1))) = true := decide_eq_true c10
           by_cases c11 : (wrap64 (x5_1 + 1)) ≤ (a0.size : Int)
           ·rw [if_pos c11] at H
            have c11b0 := eq_true c11
            have c11b1 : decide ((wrap64 (x5_1 + 1)) ≤ (a0.size : Int)) = true := decide_eq_true c11
            by_cases c12 : (x4_1 ++ (⟨#[92]⟩ : ByteArray)).size + (a0.extract (x5_1 : Int).toNat ((wrap64 (x5_1 + 1)) : Int).toNat).size ≤ 9223372036854775807
            ·rw [if_pos c12] at H
             have c12b0 := eq_true c12
             have c12b1 : decide ((x4_1 ++ (⟨#[92]⟩ : ByteArray)).size + (a0.extract (x5_1 : Int).toNat ((wrap64 (x5_1 + 1)) : Int).toNat).size ≤ 9223372036854775807) = true := decide_eq_true c12
             try have c12b2 : (9223372036854775807 < (x4_1 ++ (⟨#[92]⟩ : ByteArray)).size + (a0.extract (x5_1 : Int).toNat ((wrap64 (x5_1 + 1)) : Int).toNat).size) = False := eq_false (Nat.not_lt.2 c12)
             try have c12b7 : (9223372036854775807 < x4_1.size + 1 + (a0.extract (x5_1 : Int).toNat ((wrap64 (x5_1 + 1)) : Int).toNat).size) = False := by have hh_ := c12b2; simp only [ByteArray.size_append] at hh_; exact hh_
             have H' := Aside0.mk H
             clear H
             go_wp2
             repeat (go_quiet (fail); try go_wp2)
             go_roundg kj4
             case measure => have := HK1.out; have := HJ4.out; omega
             case rel => exact ⟨((x4_1 ++ (⟨#[92]⟩ : ByteArray)) ++ (a0.extract (x5_1 : Int).toNat ((wrap64 (x5_1 + 1)) : Int).toNat)), (wrap64 (x5_1 + 1)), zR, zR, H', ⟨by have := HK1.out; have := HJ4.out; omega⟩, by repeat (first | exact Drawn0.refl _ | apply Drawn0.step)⟩
            ·rw [if_neg c12] at H
             exact absurd H (by simp)
           ·rw [if_neg c11] at H
            exact absurd H (by simp)
          ·rw [if_neg c10] at H
           exact absurd H (by simp)
         ·rw [if_neg c9] at H
          exact absurd H (by simp)
        ·rw [if_neg c8] at H
         exact absurd H (by simp)
       ·replace c7 := Bool.eq_false_iff.mpr c7
        subst c7
        rw [if_neg (show ¬ (false = true) by decide)] at H
        by_cases c13 : (bt a0 x5_1) = 10
        ·rw [if_pos c13] at H
         have c13b0 : ((bt a0 x5_1) == 10) = true := beq_iff_eq.mpr c13
         have c13b1 : ((bt a0 x5_1) != 10) = false := bne_eq_false_iff_eq.mpr c13
         clear c13
         by_cases c14 : x4_1.size + 2 ≤ 9223372036854775807
         ·rw [if_pos c14] at H
          have c14b0 := eq_true c14
          have c14b1 : decide (x4_1.size + 2 ≤ 9223372036854775807) = true := decide_eq_true c14
          try have c14b2 : (9223372036854775807 < x4_1.size + 2) = False := eq_false (Nat.not_lt.2 c14)
          have H' := Aside0.mk H
          clear H
          go_wp2
          repeat (go_quiet (fail); try go_wp2)
          go_roundg kj4
          case measure => have := HK1.out; have := HJ4.out; omega
          case rel => exact ⟨(x4_1 ++ (⟨#[92, 110]⟩ : ByteArray)), (wrap64 (x5_1 + 1)), zR, zR, H', ⟨by have := HK1.out; have := HJ4.out; omega⟩, by repeat (first | exact Drawn0.refl _ | apply Drawn0.step)⟩
         ·rw [if_neg c14] at H
          exact absurd H (by simp)
        ·rw [if_neg c13] at H
         have c13b0 : ((bt a0 x5_1) == 10) = false := beq_eq_false_iff_ne.mpr c13
         have c13b1 : ((bt a0 x5_1) != 10) = true := bne_iff_ne.mpr c13
         by_cases c15 : (bt a0 x5_1) = 9
         ·rw [if_pos c15] at H
          have c15b0 : ((bt a0 x5_1) == 9) = true := beq_iff_eq.mpr c15
          have c15b1 : ((bt a0 x5_1) != 9) = false := bne_eq_false_iff_eq.mpr c15
          clear c15
          by_cases c16 : x4_1.size + 2 ≤ 9223372036854775807
          ·rw [if_pos c16] at H
           have c16b0 := eq_true c16
           have c16b1 : decide (x4_1.size + 2 ≤ 9223372036854775807) = true := decide_eq_true c16
           try have c16b2 : (9223372036854775807 < x4_1.size + 2) = False := eq_false (Nat.not_lt.2 c16)
           have H' := Aside0.mk H
           clear H
           go_wp2
           repeat (go_quiet (fail); try go_wp2)
           go_roundg kj4
           case measure => have := HK1.out; have := HJ4.out; omega
           case rel => exact ⟨(x4_1 ++ (⟨#[92, 116]⟩ : ByteArray)), (wrap64 (x5_1 + 1)), zR, zR, H', ⟨by have := HK1.out; have := HJ4.out; omega⟩, by repeat (first | exact Drawn0.refl _ | apply Drawn0.step)⟩
          ·rw [if_neg c16] at H
           exact absurd H (by simp)
         ·rw [if_neg c15] at H
          have c15b0 : ((bt a0 x5_1) == 9) = false := beq_eq_false_iff_ne.mpr c15
          have c15b1 : ((bt a0 x5_1) != 9) = true := bne_iff_ne.mpr c15
          by_cases c17 : (bt a0 x5_1) ≥ 32
          ·rw [if_pos c17] at H
           have c17b0 : decide (32 ≤ (bt a0 x5_1)) = true := decide_eq_true c17
           clear c17
           by_cases c18 : (bt a0 x5_1) ≤ 126
           ·rw [if_pos c18] at H
            have c18b0 : decide ((bt a0 x5_1) ≤ 126) = true := decide_eq_true c18
            clear c18
            by_cases c19 : 0 ≤ x5_1
            ·rw [if_pos c19] at H
             have c19b0 := eq_true c19
             have c19b1 : decide (0 ≤ x5_1) = true := decide_eq_true c19
             clear c19
             by_cases c20 : x5_1 ≤ (wrap64 (x5_1 + 1))
             ·rw [if_pos c20] at H
              have c20b0 := eq_true c20
              have c20b1 : decide (x5_1 ≤ (wrap64 (x5_1 + 1))) = true := decide_eq_true c20
              by_cases c21 : (wrap64 (x5_1 + 1)) ≤ (a0.size : Int)
              ·rw [if_pos c21] at H
               have c21b0 := eq_true c21
               have c21b1 : decide ((wrap64 (x5_1 + 1)) ≤ (a0.size : Int)) = true := decide_eq_true c21
               by_cases c22 : x4_1.size + (a0.extract (x5_1 : Int).toNat ((wrap64 (x5_1 + 1)) : Int).toNat).size ≤ 9223372036854775807
               ·rw [if_pos c22] at H
                have c22b0 := eq_true c22
                have c22b1 : decide (x4_1.size + (a0.extract (x5_1 : Int).toNat ((wrap64 (x5_1 + 1)) : Int).toNat).size ≤ 9223372036854775807) = true := decide_eq_true c22
                try have c22b2 : (9223372036854775807 < x4_1.size + (a0.extract (x5_1 : Int).toNat ((wrap64 (x5_1 + 1)) : Int).toNat).size) = False := eq_false (Nat.not_lt.2 c22)
                have H' := Aside0.mk H
                clear H
                go_wp2
                repeat (go_quiet (fail); try go_wp2)
                go_roundg kj4
                case measure => have := HK1.out; have := HJ4.out; omega
                case rel => exact ⟨(x4_1 ++ (a0.extract (x5_1 : Int).toNat ((wrap64 (x5_1 + 1)) : Int).toNat)), (wrap64 (x5_1 + 1)), zR, zR, H', ⟨by have := HK1.out; have := HJ4.out; omega⟩, by repeat (first | exact Drawn0.refl _ | apply Drawn0.step)⟩
               ·rw [if_neg c22] at H
                exact absurd H (by simp)
              ·rw [if_neg c21] at H
               exact absurd H (by simp)
             ·rw [if_neg c20] at H
              exact absurd H (by simp)
            ·rw [if_neg c19] at H
             exact absurd H (by simp)
           ·rw [if_neg c18] at H
            have c18b0 : decide ((bt a0 x5_1) ≤ 126) = false := decide_eq_false c18
            clear c18
            by_cases c23 : x4_1.size + 2 ≤ 9223372036854775807
            ·rw [if_pos c23] at H
             have c23b0 := eq_true c23
             have c23b1 : decide (x4_1.size + 2 ≤ 9223372036854775807) = true := decide_eq_true c23
             try have c23b2 : (9223372036854775807 < x4_1.size + 2) = False := eq_false (Nat.not_lt.2 c23)
             obtain ⟨ji24, hji24⟩ : ∃ j_ : Int, ((Int.tdiv (bt a0 x5_1) 16) % 256) = j_ := ⟨_, rfl⟩
             replace H : (if 0 ≤ (ji24) then (if (ji24) ≤ (((ji24) + 1) % 256) then (if (((ji24) + 1) % 256) ≤ ((⟨#[48, 49, 50, 51, 52, 53, 54, 55, 56, 57, 97, 98, 99, 100, 101, 102]⟩ : ByteArray).size : Int) then (if (x4_1 ++ (⟨#[92, 120]⟩ : ByteArray)).size + ((⟨#[48, 49, 50, 51, 52, 53, 54, 55, 56, 57, 97, 98, 99, 100, 101, 102]⟩ : ByteArray).extract ((ji24) : Int).toNat ((((ji24) + 1) % 256) : Int).toNat).size ≤ 9223372036854775807 then (if 0 ≤ (Int.tmod (bt a0 x5_1) 16) then (if (Int.tmod (bt a0 x5_1) 16) ≤ (((Int.tmod (bt a0 x5_1) 16) + 1) % 256) then (if (((Int.tmod (bt a0 x5_1) 16) + 1) % 256) ≤ ((⟨#[48, 49, 50, 51, 52, 53, 54, 55, 56, 57, 97, 98, 99, 100, 101, 102]⟩ : ByteArray).size : Int) then (if ((x4_1 ++ (⟨#[92, 120]⟩ : ByteArray)) ++ ((⟨#[48, 49, 50, 51, 52, 53, 54, 55, 56, 57, 97, 98, 99, 100, 101, 102]⟩ : ByteArray).extract ((ji24) : Int).toNat ((((ji24) + 1) % 256) : Int).toNat)).size + ((⟨#[48, 49, 50, 51, 52, 53, 54, 55, 56, 57, 97, 98, 99, 100, 101, 102]⟩ : ByteArray).extract ((Int.tmod (bt a0 x5_1) 16) : Int).toNat ((((Int.tmod (bt a0 x5_1) 16) + 1) % 256) : Int).toNat).size ≤ 9223372036854775807 then (q2_Quote.l0 kj4 a0 (⟨#[48, 49, 50, 51, 52, 53, 54, 55, 56, 57, 97, 98, 99, 100, 101, 102]⟩ : ByteArray) (((x4_1 ++ (⟨#[92, 120]⟩ : ByteArray)) ++ ((⟨#[48, 49, 50, 51, 52, 53, 54, 55, 56, 57, 97, 98, 99, 100, 101, 102]⟩ : ByteArray).extract ((ji24) : Int).toNat ((((ji24) + 1) % 256) : Int).toNat)) ++ ((⟨#[48, 49, 50, 51, 52, 53, 54, 55, 56, 57, 97, 98, 99, 100, 101, 102]⟩ : ByteArray).extract ((Int.tmod (bt a0 x5_1) 16) : Int).toNat ((((Int.tmod (bt a0 x5_1) 16) + 1) % 256) : Int).toNat)) (wrap64 (x5_1 + 1))) else (none)) else (none)) else (none)) else (none)) else (none)) else (none)) else (none)) else (none)) = some r := by first | (rw [hji24] at H; exact H) | (simp only [hji24] at H ⊢; exact H)
             by_cases c25 : 0 ≤ (ji24)
             ·rw [if_pos c25] at H
              have c25b0 := eq_true c25
              have c25b1 : decide (0 ≤ (ji24)) = true := decide_eq_true c25
              clear c25
              by_cases c26 : (ji24) ≤ (((ji24) + 1) % 256)
              ·rw [if_pos c26] at H
               have c26b0 := eq_true c26
               have c26b1 : decide ((ji24) ≤ (((ji24) + 1) % 256)) = true := decide_eq_true c26
               by_cases c27 : (((ji24) + 1) % 256) ≤ ((⟨#[48, 49, 50, 51, 52, 53, 54, 55, 56, 57, 97, 98, 99, 100, 101, 102]⟩ : ByteArray).size : Int)
               ·rw [if_pos c27] at H
                have c27b0 := eq_true c27
                have c27b1 : decide ((((ji24) + 1) % 256) ≤ ((⟨#[48, 49, 50, 51, 52, 53, 54, 55, 56, 57, 97, 98, 99, 100, 101, 102]⟩ : ByteArray).size : Int)) = true := decide_eq_true c27
                have c27b5 : decide ((((ji24) + 1) % 256) ≤ 16) = true := by have hh_ := c27b1; exact hh_
                have c27b6 : ((((ji24) + 1) % 256) ≤ 16) = True := eq_true (of_decide_eq_true c27b5)
                by_cases c28 : (x4_1 ++ (⟨#[92, 120]⟩ : ByteArray)).size + ((⟨#[48, 49, 50, 51, 52, 53, 54, 55, 56, 57, 97, 98, 99, 100, 101, 102]⟩ : ByteArray).extract ((ji24) : Int).toNat ((((ji24) + 1) % 256) : Int).toNat).size ≤ 9223372036854775807
                ·rw [if_pos c28] at H
                 have c28b0 := eq_true c28
                 have c28b1 : decide ((x4_1 ++ (⟨#[92, 120]⟩ : ByteArray)).size + ((⟨#[48, 49, 50, 51, 52, 53, 54, 55, 56, 57, 97, 98, 99, 100, 101, 102]⟩ : ByteArray).extract ((ji24) : Int).toNat ((((ji24) + 1) % 256) : Int).toNat).size ≤ 9223372036854775807) = true := decide_eq_true c28
                 try have c28b2 : (9223372036854775807 < (x4_1 ++ (⟨#[92, 120]⟩ : ByteArray)).size + ((⟨#[48, 49, 50, 51, 52, 53, 54, 55, 56, 57, 97, 98, 99, 100, 101, 102]⟩ : ByteArray).extract ((ji24) : Int).toNat ((((ji24) + 1) % 256) : Int).toNat).size) = False := eq_false (Nat.not_lt.2 c28)
                 try have c28b7 : (9223372036854775807 < x4_1.size + 2 + ((⟨#[48, 49, 50, 51, 52, 53, 54, 55, 56, 57, 97, 98, 99, 100, 101, 102]⟩ : ByteArray).extract ((ji24) : Int).toNat ((((ji24) + 1) % 256) : Int).toNat).size) = False := by have hh_ := c28b2; simp only [ByteArray.size_append] at hh_; exact hh_
                 obtain ⟨ji29, hji29⟩ : ∃ j_ : Int, (Int.tmod (bt a0 x5_1) 16) = j_ := ⟨_, rfl⟩
                 replace H : (if 0 ≤ (ji29) then (if (ji29) ≤ (((ji29) + 1) % 256) then (if (((ji29) + 1) % 256) ≤ ((⟨#[48, 49, 50, 51, 52, 53, 54, 55, 56, 57, 97, 98, 99, 100, 101, 102]⟩ : ByteArray).size : Int) then (if ((x4_1 ++ (⟨#[92, 120]⟩ : ByteArray)) ++ ((⟨#[48, 49, 50, 51, 52, 53, 54, 55, 56, 57, 97, 98, 99, 100, 101, 102]⟩ : ByteArray).extract ((ji24) : Int).toNat ((((ji24) + 1) % 256) : Int).toNat)).size + ((⟨#[48, 49, 50, 51, 52, 53, 54, 55, 56, 57, 97, 98, 99, 100, 101, 102]⟩ : ByteArray).extract ((ji29) : Int).toNat ((((ji29) + 1) % 256) : Int).toNat).size ≤ 9223372036854775807 then (q2_Quote.l0 kj4 a0 (⟨#[48, 49, 50, 51, 52, 53, 54, 55, 56, 57, 97, 98, 99, 100, 101, 102]⟩ : ByteArray) (((x4_1 ++ (⟨#[92, 120]⟩ : ByteArray)) ++ ((⟨#[48, 49, 50, 51, 52, 53, 54, 55, 56, 57, 97, 98, 99, 100, 101, 102]⟩ : ByteArray).extract ((ji24) : Int).toNat ((((ji24) + 1) % 256) : Int).toNat)) ++ ((⟨#[48, 49, 50, 51, 52, 53, 54, 55, 56, 57, 97, 98, 99, 100, 101, 102]⟩ : ByteArray).extract ((ji29) : Int).toNat ((((ji29) + 1) % 256) : Int).toNat)) (wrap64 (x5_1 + 1))) else (none)) else (none)) else (none)) else (none)) = some r := by first | (rw [hji29] at H; exact H) | (simp only [hji29] at H ⊢; exact H)
                 by_cases c30 : 0 ≤ (ji29)
                 ·rw [if_pos c30] at H
                  have c30b0 := eq_true c30
                  have c30b1 : decide (0 ≤ (ji29)) = true := decide_eq_true c30
                  clear c30
                  by_cases c31 : (ji29) ≤ (((ji29) + 1) % 256)
                  ·rw [if_pos c31] at H
                   have c31b0 := eq_true c31
                   have c31b1 : decide ((ji29) ≤ (((ji29) + 1) % 256)) = true := decide_eq_true c31
                   by_cases c32 : (((ji29) + 1) % 256) ≤ ((⟨#[48, 49, 50, 51, 52, 53, 54, 55, 56, 57, 97, 98, 99, 100, 101, 102]⟩ : ByteArray).size : Int)
                   ·rw [if_pos c32] at H
                    have c32b0 := eq_true c32
                    have c32b1 : decide ((((ji29) + 1) % 256) ≤ ((⟨#[48, 49, 50, 51, 52, 53, 54, 55, 56, 57, 97, 98, 99, 100, 101, 102]⟩ : ByteArray).size : Int)) = true := decide_eq_true c32
                    have c32b5 : decide ((((ji29) + 1) % 256) ≤ 16) = true := by have hh_ := c32b1; exact hh_
                    have c32b6 : ((((ji29) + 1) % 256) ≤ 16) = True := eq_true (of_decide_eq_true c32b5)
                    by_cases c33 : ((x4_1 ++ (⟨#[92, 120]⟩ : ByteArray)) ++ ((⟨#[48, 49, 50, 51, 52, 53, 54, 55, 56, 57, 97, 98, 99, 100, 101, 102]⟩ : ByteArray).extract ((ji24) : Int).toNat ((((ji24) + 1) % 256) : Int).toNat)).size + ((⟨#[48, 49, 50, 51, 52, 53, 54, 55, 56, 57, 97, 98, 99, 100, 101, 102]⟩ : ByteArray).extract ((ji29) : Int).toNat ((((ji29) + 1) % 256) : Int).toNat).size ≤ 9223372036854775807
                    ·rw [if_pos c33] at H
                     have c33b0 := eq_true c33
                     have c33b1 : decide (((x4_1 ++ (⟨#[92, 120]⟩ : ByteArray)) ++ ((⟨#[48, 49, 50, 51, 52, 53, 54, 55, 56, 57, 97, 98, 99, 100, 101, 102]⟩ : ByteArray).extract ((ji24) : Int).toNat ((((ji24) + 1) % 256) : Int).toNat)).size + ((⟨#[48, 49, 50, 51, 52, 53, 54, 55, 56, 57, 97, 98, 99, 100, 101, 102]⟩ : ByteArray).extract ((ji29) : Int).toNat ((((ji29) + 1) % 256) : Int).toNat).size ≤ 9223372036854775807) = true := decide_eq_true c33
                     try have c33b2 : (9223372036854775807 < ((x4_1 ++ (⟨#[92, 120]⟩ : ByteArray)) ++ ((⟨#[48, 49, 50, 51, 52, 53, 54, 55, 56, 57, 97, 98, 99, 100, 101, 102]⟩ : ByteArray).extract ((ji24) : Int).toNat ((((ji24) + 1) % 256) : Int).toNat)).size + ((⟨#[48, 49, 50, 51, 52, 53, 54, 55, 56, 57, 97, 98, 99, 100, 101, 102]⟩ : ByteArray).extract ((ji29) : Int).toNat ((((ji29) + 1) % 256) : Int).toNat).size) = False := eq_false (Nat.not_lt.2 c33)
                     try have c33b7 : (9223372036854775807 < x4_1.size + 2 + ((⟨#[48, 49, 50, 51, 52, 53, 54, 55, 56, 57, 97, 98, 99, 100, 101, 102]⟩ : ByteArray).extract ((ji24) : Int).toNat ((((ji24) + 1) % 256) : Int).toNat).size + ((⟨#[48, 49, 50, 51, 52, 53, 54, 55, 56, 57, 97, 98, 99, 100, 101, 102]⟩ : ByteArray).extract ((ji29) : Int).toNat ((((ji29) + 1) % 256) : Int).toNat).size) = False := by have hh_ := c33b2; simp only [ByteArray.size_append] at hh_; exact hh_
                     have H' := Aside0.mk H
                     clear H
                     go_wp2
                     repeat (go_quiet (fail); try go_wp2)
                     go_roundg kj4
                     case measure => have := HK1.out; have := HJ4.out; omega
                     case rel => exact ⟨(((x4_1 ++ (⟨#[92, 120]⟩ : ByteArray)) ++ ((⟨#[48, 49, 50, 51, 52, 53, 54, 55, 56, 57, 97, 98, 99, 100, 101, 102]⟩ : ByteArray).extract ((ji24) : Int).toNat ((((ji24) + 1) % 256) : Int).toNat)) ++ ((⟨#[48, 49, 50, 51, 52, 53, 54, 55, 56, 57, 97, 98, 99, 100, 101, 102]⟩ : ByteArray).extract ((ji29) : Int).toNat ((((ji29) + 1) % 256) : Int).toNat)), (wrap64 (x5_1 + 1)), (by first | rfl | (simp; done) | (simp only [← hji24, ← hji29] <;> (first | rfl | simp)) | (simp [*]; done)), zR, H', ⟨by have := HK1.out; have := HJ4.out; omega⟩, by repeat (first | exact Drawn0.refl _ | apply Drawn0.step)⟩
                    ·rw [if_neg c33] at H
                     exact absurd H (by simp)
                   ·rw [if_neg c32] at H
                    exact absurd H (by simp)
                  ·rw [if_neg c31] at H
                   exact absurd H (by simp)
                 ·rw [if_neg c30] at H
                  exact absurd H (by simp)
                ·rw [if_neg c28] at H
                 exact absurd H (by simp)
               ·rw [if_neg c27] at H
                exact absurd H (by simp)
              ·rw [if_neg c26] at H
               exact absurd H (by simp)
             ·rw [if_neg c25] at H
              exact absurd H (by simp)
            ·rw [if_neg c23] at H
             exact absurd H (by simp)
          ·rw [if_neg c17] at H
           have c17b0 : decide (32 ≤ (bt a0 x5_1)) = false := decide_eq_false c17
           clear c17
           by_cases c34 : x4_1.size + 2 ≤ 9223372036854775807
           ·rw [if_pos c34] at H
            have c34b0 := eq_true c34
            have c34b1 : decide (x4_1.size + 2 ≤ 9223372036854775807) = true := decide_eq_true c34
            try have c34b2 : (9223372036854775807 < x4_1.size + 2) = False := eq_false (Nat.not_lt.2 c34)
            obtain ⟨ji35, hji35⟩ : ∃ j_ : Int, ((Int.tdiv (bt a0 x5_1) 16) % 256) = j_ := ⟨_, rfl⟩
            replace H : (if 0 ≤ (ji35) then (if (ji35) ≤ (((ji35) + 1) % 256) then (if (((ji35) + 1) % 256) ≤ ((⟨#[48, 49, 50, 51, 52, 53, 54, 55, 56, 57, 97, 98, 99, 100, 101, 102]⟩ : ByteArray).size : Int) then (if (x4_1 ++ (⟨#[92, 120]⟩ : ByteArray)).size + ((⟨#[48, 49, 50, 51, 52, 53, 54, 55, 56, 57, 97, 98, 99, 100, 101, 102]⟩ : ByteArray).extract ((ji35) : Int).toNat ((((ji35) + 1) % 256) : Int).toNat).size ≤ 9223372036854775807 then (if 0 ≤ (Int.tmod (bt a0 x5_1) 16) then (if (Int.tmod (bt a0 x5_1) 16) ≤ (((Int.tmod (bt a0 x5_1) 16) + 1) % 256) then (if (((Int.tmod (bt a0 x5_1) 16) + 1) % 256) ≤ ((⟨#[48, 49, 50, 51, 52, 53, 54, 55, 56, 57, 97, 98, 99, 100, 101, 102]⟩ : ByteArray).size : Int) then (if ((x4_1 ++ (⟨#[92, 120]⟩ : ByteArray)) ++ ((⟨#[48, 49, 50, 51, 52, 53, 54, 55, 56, 57, 97, 98, 99, 100, 101, 102]⟩ : ByteArray).extract ((ji35) : Int).toNat ((((ji35) + 1) % 256) : Int).toNat)).size + ((⟨#[48, 49, 50, 51, 52, 53, 54, 55, 56, 57, 97, 98, 99, 100, 101, 102]⟩ : ByteArray).extract ((Int.tmod (bt a0 x5_1) 16) : Int).toNat ((((Int.tmod (bt a0 x5_1) 16) + 1) % 256) : Int).toNat).size ≤ 9223372036854775807 then (q2_Quote.l0 kj4 a0 (⟨#[48, 49, 50, 51, 52, 53, 54, 55, 56, 57, 97, 98, 99, 100, 101, 102]⟩ : ByteArray) (((x4_1 ++ (⟨#[92, 120]⟩ : ByteArray)) ++ ((⟨#[48, 49, 50, 51, 52, 53, 54, 55, 56, 57, 97, 98, 99, 100, 101, 102]⟩ : ByteArray).extract ((ji35) : Int).toNat ((((ji35) + 1) % 256) : Int).toNat)) ++ ((⟨#[48, 49, 50, 51, 52, 53, 54, 55, 56, 57, 97, 98, 99, 100, 101, 102]⟩ : ByteArray).extract ((Int.tmod (bt a0 x5_1) 16) : Int).toNat ((((Int.tmod (bt a0 x5_1) 16) + 1) % 256) : Int).toNat)) (wrap64 (x5_1 + 1))) else (none)) else (none)) else (none)) else (none)) else (none)) else (none)) else (none)) else (none)) = some r := by first | (rw [hji35] at H; exact H) | (simp only [hji35] at H ⊢; exact H)
            by_cases c36 : 0 ≤ (ji35)
            ·rw [if_pos c36] at H
             have c36b0 := eq_true c36
             have c36b1 : decide (0 ≤ (ji35)) = true := decide_eq_true c36
             clear c36
             by_cases c37 : (ji35) ≤ (((ji35) + 1) % 256)
             ·rw [if_pos c37] at H
              have c37b0 := eq_true c37
              have c37b1 : decide ((ji35) ≤ (((ji35) + 1) % 256)) = true := decide_eq_true c37
              by_cases c38 : (((ji35) + 1) % 256) ≤ ((⟨#[48, 49, 50, 51, 52, 53, 54, 55, 56, 57, 97, 98, 99, 100, 101, 102]⟩ : ByteArray).size : Int)
              ·rw [if_pos c38] at H
               have c38b0 := eq_true c38
               have c38b1 : decide ((((ji35) + 1) % 256) ≤ ((⟨#[48, 49, 50, 51, 52, 53, 54, 55, 56, 57, 97, 98, 99, 100, 101, 102]⟩ : ByteArray).size : Int)) = true := decide_eq_true c38
               have c38b5 : decide ((((ji35) + 1) % 256) ≤ 16) = true := by have hh_ := c38b1; exact hh_
               have c38b6 : ((((ji35) + 1) % 256) ≤ 16) = True := eq_true (of_decide_eq_true c38b5)
               by_cases c39 : (x4_1 ++ (⟨#[92, 120]⟩ : ByteArray)).size + ((⟨#[48, 49, 50, 51, 52, 53, 54, 55, 56, 57, 97, 98, 99, 100, 101, 102]⟩ : ByteArray).extract ((ji35) : Int).toNat ((((ji35) + 1) % 256) : Int).toNat).size ≤ 9223372036854775807
               ·rw [if_pos c39] at H
                have c39b0 := eq_true c39
                have c39b1 : decide ((x4_1 ++ (⟨#[92, 120]⟩ : ByteArray)).size + ((⟨#[48, 49, 50, 51, 52, 53, 54, 55, 56, 57, 97, 98, 99, 100, 101, 102]⟩ : ByteArray).extract ((ji35) : Int).toNat ((((ji35) + 1) % 256) : Int).toNat).size ≤ 9223372036854775807) = true := decide_eq_true c39
                try have c39b2 : (9223372036854775807 < (x4_1 ++ (⟨#[92, 120]⟩ : ByteArray)).size + ((⟨#[48, 49, 50, 51, 52, 53, 54, 55, 56, 57, 97, 98, 99, 100, 101, 102]⟩ : ByteArray).extract ((ji35) : Int).toNat ((((ji35) + 1) % 256) : Int).toNat).size) = False := eq_false (Nat.not_lt.2 c39)
                try have c39b7 : (9223372036854775807 < x4_1.size + 2 + ((⟨#[48, 49, 50, 51, 52, 53, 54, 55, 56, 57, 97, 98, 99, 100, 101, 102]⟩ : ByteArray).extract ((ji35) : Int).toNat ((((ji35) + 1) % 256) : Int).toNat).size) = False := by have hh_ := c39b2; simp only [ByteArray.size_append] at hh_; exact hh_
                obtain ⟨ji40, hji40⟩ : ∃ j_ : Int, (Int.tmod (bt a0 x5_1) 16) = j_ := ⟨_, rfl⟩
                replace H : (if 0 ≤ (ji40) then (if (ji40) ≤ (((ji40) + 1) % 256) then (if (((ji40) + 1) % 256) ≤ ((⟨#[48, 49, 50, 51, 52, 53, 54, 55, 56, 57, 97, 98, 99, 100, 101, 102]⟩ : ByteArray).size : Int) then (if ((x4_1 ++ (⟨#[92, 120]⟩ : ByteArray)) ++ ((⟨#[48, 49, 50, 51, 52, 53, 54, 55, 56, 57, 97, 98, 99, 100, 101, 102]⟩ : ByteArray).extract ((ji35) : Int).toNat ((((ji35) + 1) % 256) : Int).toNat)).size + ((⟨#[48, 49, 50, 51, 52, 53, 54, 55, 56, 57, 97, 98, 99, 100, 101, 102]⟩ : ByteArray).extract ((ji40) : Int).toNat ((((ji40) + 1) % 256) : Int).toNat).size ≤ 9223372036854775807 then (q2_Quote.l0 kj4 a0 (⟨#[48, 49, 50, 51, 52, 53, 54, 55, 56, 57, 97, 98, 99, 100, 101, 102]⟩ : ByteArray) (((x4_1 ++ (⟨#[92, 120]⟩ : ByteArray)) ++ ((⟨#[48, 49, 50, 51, 52, 53, 54, 55, 56, 57, 97, 98, 99, 100, 101, 102]⟩ : ByteArray).extract ((ji35) : Int).toNat ((((ji35) + 1) % 256) : Int).toNat)) ++ ((⟨#[48, 49, 50, 51, 52, 53, 54, 55, 56, 57, 97, 98, 99, 100, 101, 102]⟩ : ByteArray).extract ((ji40) : Int).toNat ((((ji40) + 1) % 256) : Int).toNat)) (wrap64 (x5_1 + 1))) else (none)) else (none)) else (none)) else (none)) = some r := by first | (rw [hji40] at H; exact H) | (simp only [hji40] at H ⊢; exact H)
                by_cases c41 : 0 ≤ (ji40)
                ·rw [if_pos c41] at H
                 have c41b0 := eq_true c41
                 have c41b1 : decide (0 ≤ (ji40)) = true := decide_eq_true c41
                 clear c41
                 by_cases c42 : (ji40) ≤ (((ji40) + 1) % 256)
                 ·rw [if_pos c42] at H
                  have c42b0 := eq_true c42
                  have c42b1 : decide ((ji40) ≤ (((ji40) + 1) % 256)) = true := decide_eq_true c42
                  by_cases c43 : (((ji40) + 1) % 256) ≤ ((⟨#[48, 49, 50, 51, 52, 53, 54, 55, 56, 57, 97, 98, 99, 100, 101, 102]⟩ : ByteArray).size : Int)
                  ·rw [if_pos c43] at H
                   have c43b0 := eq_true c43
                   have c43b1 : decide ((((ji40) + 1) % 256) ≤ ((⟨#[48, 49, 50, 51, 52, 53, 54, 55, 56, 57, 97, 98, 99, 100, 101, 102]⟩ : ByteArray).size : Int)) = true := decide_eq_true c43
                   have c43b5 : decide ((((ji40) + 1) % 256) ≤ 16) = true := by have hh_ := c43b1; exact hh_
                   have c43b6 : ((((ji40) + 1) % 256) ≤ 16) = True := eq_true (of_decide_eq_true c43b5)
                   by_cases c44 : ((x4_1 ++ (⟨#[92, 120]⟩ : ByteArray)) ++ ((⟨#[48, 49, 50, 51, 52, 53, 54, 55, 56, 57, 97, 98, 99, 100, 101, 102]⟩ : ByteArray).extract ((ji35) : Int).toNat ((((ji35) + 1) % 256) : Int).toNat)).size + ((⟨#[48, 49, 50, 51, 52, 53, 54, 55, 56, 57, 97, 98, 99, 100, 101, 102]⟩ : ByteArray).extract ((ji40) : Int).toNat ((((ji40) + 1) % 256) : Int).toNat).size ≤ 9223372036854775807
                   ·rw [if_pos c44] at H
                    have c44b0 := eq_true c44
                    have c44b1 : decide (((x4_1 ++ (⟨#[92, 120]⟩ : ByteArray)) ++ ((⟨#[48, 49, 50, 51, 52, 53, 54, 55, 56, 57, 97, 98, 99, 100, 101, 102]⟩ : ByteArray).extract ((ji35) : Int).toNat ((((ji35) + 1) % 256) : Int).toNat)).size + ((⟨#[48, 49, 50, 51, 52, 53, 54, 55, 56, 57, 97, 98, 99, 100, 101, 102]⟩ : ByteArray).extract ((ji40) : Int).toNat ((((ji40) + 1) % 256) : Int).toNat).size ≤ 9223372036854775807) = true := decide_eq_true c44
                    try have c44b2 : (9223372036854775807 < ((x4_1 ++ (⟨#[92, 120]⟩ : ByteArray)) ++ ((⟨#[48, 49, 50, 51, 52, 53, 54, 55, 56, 57, 97, 98, 99, 100, 101, 102]⟩ : ByteArray).extract ((ji35) : Int).toNat ((((ji35) + 1) % 256) : Int).toNat)).size + ((⟨#[48, 49, 50, 51, 52, 53, 54, 55, 56, 57, 97, 98, 99, 100, 101, 102]⟩ : ByteArray).extract ((ji40) : Int).toNat ((((ji40) + 1) % 256) : Int).toNat).size) = False := eq_false (Nat.not_lt.2 c44)
                    try have c44b7 : (9223372036854775807 < x4_1.size + 2 + ((⟨#[48, 49, 50, 51, 52, 53, 54, 55, 56, 57, 97, 98, 99, 100, 101, 102]⟩ : ByteArray).extract ((ji35) : Int).toNat ((((ji35) + 1) % 256) : Int).toNat).size + ((⟨#[48, 49, 50, 51, 52, 53, 54, 55, 56, 57, 97, 98, 99, 100, 101, 102]⟩ : ByteArray).extract ((ji40) : Int).toNat ((((ji40) + 1) % 256) : Int).toNat).size) = False := by have hh_ := c44b2; simp only [ByteArray.size_append] at hh_; exact hh_
                    have H' := Aside0.mk H
                    clear H
                    go_wp2
                    repeat (go_quiet (fail); try go_wp2)
                    go_roundg kj4
                    case measure => have := HK1.out; have := HJ4.out; omega
                    case rel => exact ⟨(((x4_1 ++ (⟨#[92, 120]⟩ : ByteArray)) ++ ((⟨#[48, 49, 50, 51, 52, 53, 54, 55, 56, 57, 97, 98, 99, 100, 101, 102]⟩ : ByteArray).extract ((ji35) : Int).toNat ((((ji35) + 1) % 256) : Int).toNat)) ++ ((⟨#[48, 49, 50, 51, 52, 53, 54, 55, 56, 57, 97, 98, 99, 100, 101, 102]⟩ : ByteArray).extract ((ji40) : Int).toNat ((((ji40) + 1) % 256) : Int).toNat)), (wrap64 (x5_1 + 1)), (by first | rfl | (simp; done) | (simp only [← hji35, ← hji40] <;> (first | rfl | simp)) | (simp [*]; done)), zR, H', ⟨by have := HK1.out; have := HJ4.out; omega⟩, by repeat (first | exact Drawn0.refl _ | apply Drawn0.step)⟩
                   ·rw [if_neg c44] at H
                    exact absurd H (by simp)
                  ·rw [if_neg c43] at H
                   exact absurd H (by simp)
                 ·rw [if_neg c42] at H
                  exact absurd H (by simp)
                ·rw [if_neg c41] at H
                 exact absurd H (by simp)
               ·rw [if_neg c39] at H
                exact absurd H (by simp)
              ·rw [if_neg c38] at H
               exact absurd H (by simp)
             ·rw [if_neg c37] at H
              exact absurd H (by simp)
            ·rw [if_neg c36] at H
             exact absurd H (by simp)
           ·rw [if_neg c34] at H
            exact absurd H (by simp)
    ·rw [if_neg c3] at H
     exact absurd H (by simp)
   ·rw [if_neg c2] at H
    have c2b0 : decide (x5_1 < (a0.size : Int)) = false := decide_eq_false c2
    clear c2
    by_cases c45 : x4_1.size + 1 ≤ 9223372036854775807
    ·rw [if_pos c45] at H
     have c45b0 := eq_true c45
     have c45b1 : decide (x4_1.size + 1 ≤ 9223372036854775807) = true := decide_eq_true c45
     try have c45b2 : (9223372036854775807 < x4_1.size + 1) = False := eq_false (Nat.not_lt.2 c45)
     obtain rfl := Option.some.inj H
     go_wp2
     repeat (go_quiet (fail); try go_wp2)
     go_ret
     exact ⟨zR, by repeat (first | exact Drawn0.refl _ | apply Drawn0.step)⟩
    ·rw [if_neg c45] at H
     exact absurd H (by simp)
end Go.Proofs.YtjlhhjfmekjbhaaGreatDoor.Pq

