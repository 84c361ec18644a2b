/- Lemmas for the claims of this seat (own texts, packed; what the claims do not use is left out). No condition. -/
import Derived.Test.YtjlhhjfmekjbhaaGreatDoorMa0
import Derived.Test.YtjlhhjfmekjbhaaGreatDoorMa1
import Derived.Test.YtjlhhjfmekjbhaaGreatDoorMa5
import Derived.Test.YtjlhhjfmekjbhaaGreatDoorMa6
namespace Go.Proofs.YtjlhhjfmekjbhaaGreatDoor.Pq
open Go.RowKit Go.Proofs.YtjlhhjfmekjbhaaGreatDoorW.PrintWords Go.Proofs.YtjlhhjfmekjbhaaGreatDoorW.PrintLast Go.Proofs.YtjlhhjfmekjbhaaGreatDoorW.PrintMore
set_option linter.unusedVariables false
set_option linter.unusedSimpArgs false
/-! ### gumshoeref09_Right: function 13 -/
mutual
def gumshoeref09_Right.l0 : Nat → List (S28) → Int → Option (Bool)
 | 0, _, _ => none
 | k + 1, x0, x3 => if x3 < (x0.length : Int) then (if 0 ≤ x3 then (if ((rd_T28 x0 x3).f0) < 0 then (gumshoeref09_Right.j1 k x0 x3 (((rd_T28 x0 x3).f1).length : Int) true ((rd_T28 x0 x3).f0) ((rd_T28 x0 x3).f1)) else (if ((rd_T28 x0 x3).f0) > 60000 then (gumshoeref09_Right.j1 k x0 x3 (((rd_T28 x0 x3).f1).length : Int) true ((rd_T28 x0 x3).f0) ((rd_T28 x0 x3).f1)) else (if (((rd_T28 x0 x3).f1).length : Int) < 1 then (gumshoeref09_Right.j1 k x0 x3 (((rd_T28 x0 x3).f1).length : Int) true ((rd_T28 x0 x3).f0) ((rd_T28 x0 x3).f1)) else (if (((rd_T28 x0 x3).f1).length : Int) > 60000 then (gumshoeref09_Right.j1 k x0 x3 (((rd_T28 x0 x3).f1).length : Int) true ((rd_T28 x0 x3).f0) ((rd_T28 x0 x3).f1)) else (if 0 ≤ (wrap64 ((((rd_T28 x0 x3).f1).length : Int) - 1)) then (if (wrap64 ((((rd_T28 x0 x3).f1).length : Int) - 1)) < (((rd_T28 x0 x3).f1).length : Int) then (gumshoeref09_Right.j1 k x0 x3 (((rd_T28 x0 x3).f1).length : Int) (((rd_T31 ((rd_T28 x0 x3).f1) (wrap64 ((((rd_T28 x0 x3).f1).length : Int) - 1))).f0) != 20) ((rd_T28 x0 x3).f0) ((rd_T28 x0 x3).f1)) else (none)) else (none)))))) else (none)) else (some (decide ((x0.length : Int) > 0)))
def gumshoeref09_Right.j1 : Nat → List (S28) → Int → Int → Bool → Int → List (S31) → Option (Bool)
 | 0, _, _, _, _, _, _ => none
 | k + 1, x0, x3, x5, x46, x138000, x138001 => if x46 = true then (some false) else (gumshoeref09_Right.l1 k x0 x3 x5 0 x138000 x138001)
def gumshoeref09_Right.l1 : Nat → List (S28) → Int → Int → Int → Int → List (S31) → Option (Bool)
 | 0, _, _, _, _, _, _ => none
 | k + 1, x0, x3, x5, x6, x138000, x138001 => if x6 < x5 then (if 0 ≤ x6 then (if x6 < (x138001.length : Int) then ((gumshoeref09_ins.f k ((rd_T31 x138001 x6).f0) ((rd_T31 x138001 x6).f1) ((rd_T31 x138001 x6).f2) ((rd_T31 x138001 x6).f3) ((rd_T31 x138001 x6).f4) ((rd_T31 x138001 x6).f5) ((rd_T31 x138001 x6).f6) ((rd_T31 x138001 x6).f7) x138000 x138001 (x0.length : Int)).bind fun t140 => (if t140 = true then (gumshoeref09_Right.l1 k x0 x3 x5 (wrap64 (x6 + 1)) x138000 x138001) else (some false))) else (none)) else (none)) else (gumshoeref09_Right.l0 k x0 (wrap64 (x3 + 1)))
end
def gumshoeref09_Right.f (k : Nat) (l0 : List (S28)) : Option (Bool) := gumshoeref09_Right.l0 k l0 0
def gumshoeref09_Right.T11 : Bool × List (List Nat × List Nat) := (true, [([], []), ([0], [0]), ([], []), ([1, 2], [1, 2]), ([3], [3]), ([], []), ([], []), ([6], [6]), ([4, 5, 7], [4, 5, 7]), ([8, 8, 0, 1, 2, 3, 4, 5, 6, 7, 8], [8])])
def gumshoeref09_Right.B11 : List Nat := [0, 1, 0, 7, 15, 0, 0, 64, 255, 511]
theorem gumshoeref09_Right.tab11 : rtab .any (opsOf Tryz.f13 11) = gumshoeref09_Right.T11 := by kernel_rfl
theorem gumshoeref09_Right.bits11 : waitsOk gumshoeref09_Right.T11.2 gumshoeref09_Right.B11 = true := by kernel_rfl
set_option maxHeartbeats 8000000 in
set_option maxRecDepth 100000 in
theorem gumshoeref09_Right.calls (k : Nat) (A0 : Option Addr) (c0 : Nat) (l0 : List (S28)) (r : Bool) (w : World) (hr0 : Kd.C k28 w A0 l0.length l0) (hc0 : l0.length ≤ c0) (h : gumshoeref09_Right.f k l0 = some r) :
  Calls Tryz.prog 13 #[.slice A0 l0.length c0] w fun e w' => e = .returned (.bool r) ∧ Below w.heap.size w w' := by
 have hu28 := Tryz.underlying28
 have hu31 := Tryz.underlying31
 have HR0 := Aside0.mk hr0
 have HC0 := Aside0.mk hc0
 clear hr0 hc0
 have HB := Aside0.mk (Below.refl w.heap.size w)
 have H : (gumshoeref09_Right.l0 k l0 0) = some r := h
 clear h
 have H' := Aside0.mk H
 clear H
 go_enter Tryz.func13, Tryz.ntmps13
 go_wp2
 go_loopg [3] k (fun kq v3 w' => ∃ (x3_1 : Int), v3 = .int .i64 x3_1 ∧ Aside0 (gumshoeref09_Right.l0 kq l0 x3_1 = some r) ∧ Aside0 (kq ≤ k) ∧ Aside0 (Below w.heap.size w w'))
 case atStart => exact ⟨(0), zR, H', ⟨Nat.le_refl _⟩, ⟨zB⟩⟩
 case round =>
  clear H'
  obtain ⟨x3_1, rfl, HA, HK1, HB⟩ := hrel
  cases gk with
  | zero => exact absurd HA.out (by simp [gumshoeref09_Right.l0])
  | succ k1 =>
   have H := HA.out
   clear HA
   simp only [gumshoeref09_Right.l0] at H
   by_cases c2 : x3_1 < (l0.length : Int)
   ·rw [if_pos c2] at H
    have c2b0 : decide (x3_1 < (l0.length : Int)) = true := decide_eq_true c2
    clear c2
    by_cases c3 : 0 ≤ x3_1
    ·rw [if_pos c3] at H
     have c3b0 : decide (0 ≤ x3_1) = true := decide_eq_true c3
     clear c3
     have HC4 := Aside0.mk H
     clear H
     have p136 : 0 ≤ (x3_1 : Int) := of_decide_eq_true zA
     have q136 : x3_1 < (l0.length : Int) := of_decide_eq_true zA
     obtain ⟨ad136, A136_1, c136_1, e136, hx136_0, hx136_1, hl136_1, hi136_1⟩ := at_T28 HR0.out x3_1 p136 q136
     cases e136
     replace hx136_0 := (HB.out.cell (World.block_lt_of_cell? w _ hx136_0)).trans hx136_0
     replace hx136_1 := (HB.out.cell (World.block_lt_of_cell? w _ hx136_1)).trans hx136_1
     have HR136_1 := Aside0.mk hi136_1
     have HC136_1 := Aside0.mk hl136_1
     clear hi136_1 hl136_1
     replace p136 := eq_true p136
     replace q136 := eq_true q136
     go_upto_region 6 with (first | ((with_reducible refine gate_dst (N := 4) rfl ?_); refine zX (N := 4) (cs := #[.int .i64 0, .slice none 0 0]) (t := 28) (h := ?_); intro gb137 hg w5 hbox hb; have BK137 := Aside0.mk hbox; have GW137 := Aside0.mk ((zS : w.heap.size ≤ gb137)); have GE137 := Aside0.mk ((zS : w.heap.size ≤ gb137)); replace HB := Aside0.mk (below_step zB hb); clear hb hbox hg; obtain ⟨hcz6_0, hcz6_1, hfz6_0, hfz6_1⟩ := zd2 BK137.out (.int .i64 0) (.slice none 0 0)))
     (try simp only [Act.put, List.setIfInBounds_toArray, List.set_cons_zero, List.set_cons_succ])
     go_cut [46] (fun v46 wc => ∃ (kq : Nat) (x46_3 : Bool), v46 = .bool x46_3 ∧ Aside0 (gumshoeref09_Right.j1 kq l0 x3_1 (((rd_T28 l0 x3_1).f1).length : Int) x46_3 ((rd_T28 l0 x3_1).f0) ((rd_T28 l0 x3_1).f1) = some r) ∧ Aside0 (kq ≤ k1) ∧ Aside0 (wc.heap[gb137]? = some (.cells #[.int .i64 ((rd_T28 l0 x3_1).f0), (.slice A136_1 ((rd_T28 l0 x3_1).f1).length c136_1)] 28 (0, 0))) ∧ Aside0 (Below w.heap.size w wc))
     case first =>
      have H := HC4.out
      clear HC4
      by_cases c7 : ((rd_T28 l0 x3_1).f0) < 0
      ·rw [if_pos c7] at H
       have c7b0 : decide (((rd_T28 l0 x3_1).f0) < 0) = true := decide_eq_true c7
       clear c7
       (first | rw [c7b0] | (simp only [i64_w, i32_w]; rw [c7b0]) | skip)
       have H' := Aside0.mk H
       clear H
       obtain ⟨hcz8_0, hcz8_1, hfz8_0, hfz8_1⟩ := zd2 BK137.out (.int .i64 0) (.slice none 0 0)
       go_wp2
       go_meet
       case rel => exact ⟨_, (true), zR, H', ⟨by have := HK1.out; first | omega | exact Nat.le_refl _⟩, ⟨by (with_reducible repeat (first | refine blk_drewN ?_ _ | refine blk_drew ?_ | refine blk_alloc ?_ _)); refine blk_put (cs := #[.int .i64 ((rd_T28 l0 x3_1).f0), .slice none 0 0]) ?_ 1 _ rfl; (with_reducible repeat (first | refine blk_drewN ?_ _ | refine blk_drew ?_ | refine blk_alloc ?_ _)); refine blk_put (cs := #[.int .i64 0, .slice none 0 0]) ?_ 0 _ rfl; (with_reducible repeat (first | refine blk_drewN ?_ _ | refine blk_drew ?_ | refine blk_alloc ?_ _)); exact BK137.out⟩, ⟨zG⟩⟩
      ·rw [if_neg c7] at H
       have c7b0 : decide (((rd_T28 l0 x3_1).f0) < 0) = false := decide_eq_false c7
       clear c7
       (first | rw [c7b0] | (simp only [i64_w, i32_w]; rw [c7b0]) | skip)
       by_cases c9 : ((rd_T28 l0 x3_1).f0) > 60000
       ·rw [if_pos c9] at H
        have c9b0 : decide (60000 < ((rd_T28 l0 x3_1).f0)) = true := decide_eq_true c9
        clear c9
        have H' := Aside0.mk H
        clear H
        obtain ⟨hcz10_0, hcz10_1, hfz10_0, hfz10_1⟩ := zd2 BK137.out (.int .i64 0) (.slice none 0 0)
        go_wp2
        go_meet
        case rel => exact ⟨_, (true), zR, H', ⟨by have := HK1.out; first | omega | exact Nat.le_refl _⟩, ⟨by (with_reducible repeat (first | refine blk_drewN ?_ _ | refine blk_drew ?_ | refine blk_alloc ?_ _)); refine blk_put (cs := #[.int .i64 ((rd_T28 l0 x3_1).f0), .slice none 0 0]) ?_ 1 _ rfl; (with_reducible repeat (first | refine blk_drewN ?_ _ | refine blk_drew ?_ | refine blk_alloc ?_ _)); refine blk_put (cs := #[.int .i64 0, .slice none 0 0]) ?_ 0 _ rfl; (with_reducible repeat (first | refine blk_drewN ?_ _ | refine blk_drew ?_ | refine blk_alloc ?_ _)); exact BK137.out⟩, ⟨zG⟩⟩
       ·rw [if_neg c9] at H
        have c9b0 : decide (60000 < ((rd_T28 l0 x3_1).f0)) = false := decide_eq_false c9
        clear c9
        by_cases c11 : (((rd_T28 l0 x3_1).f1).length : Int) < 1
        ·rw [if_pos c11] at H
         have c11b0 : decide ((((rd_T28 l0 x3_1).f1).length : Int) < 1) = true := decide_eq_true c11
         have c11b1 : decide (((rd_T28 l0 x3_1).f1).length < 1) = true := decide_eq_true (by omega)
         clear c11
         have H' := Aside0.mk H
         clear H
         obtain ⟨hcz12_0, hcz12_1, hfz12_0, hfz12_1⟩ := zd2 BK137.out (.int .i64 0) (.slice none 0 0)
         go_wp2
         go_meet
         case rel => exact ⟨_, (true), zR, H', ⟨by have := HK1.out; first | omega | exact Nat.le_refl _⟩, ⟨by (with_reducible repeat (first | refine blk_drewN ?_ _ | refine blk_drew ?_ | refine blk_alloc ?_ _)); refine blk_put (cs := #[.int .i64 ((rd_T28 l0 x3_1).f0), .slice none 0 0]) ?_ 1 _ rfl; (with_reducible repeat (first | refine blk_drewN ?_ _ | refine blk_drew ?_ | refine blk_alloc ?_ _)); refine blk_put (cs := #[.int .i64 0, .slice none 0 0]) ?_ 0 _ rfl; (with_reducible repeat (first | refine blk_drewN ?_ _ | refine blk_drew ?_ | refine blk_alloc ?_ _)); exact BK137.out⟩, ⟨zG⟩⟩
        ·rw [if_neg c11] at H
         have c11b0 : decide ((((rd_T28 l0 x3_1).f1).length : Int) < 1) = false := decide_eq_false c11
         have c11b1 : decide (((rd_T28 l0 x3_1).f1).length < 1) = false := decide_eq_false (by omega)
         clear c11
         by_cases c13 : (((rd_T28 l0 x3_1).f1).length : Int) > 60000
         ·rw [if_pos c13] at H
          have c13b0 : decide (60000 < (((rd_T28 l0 x3_1).f1).length : Int)) = true := decide_eq_true c13
          have c13b1 : decide (60000 < ((rd_T28 l0 x3_1).f1).length) = true := decide_eq_true (by omega)
          clear c13
          have H' := Aside0.mk H
          clear H
          obtain ⟨hcz14_0, hcz14_1, hfz14_0, hfz14_1⟩ := zd2 BK137.out (.int .i64 0) (.slice none 0 0)
          go_wp2
          go_meet
          case rel => exact ⟨_, (true), zR, H', ⟨by have := HK1.out; first | omega | exact Nat.le_refl _⟩, ⟨by (with_reducible repeat (first | refine blk_drewN ?_ _ | refine blk_drew ?_ | refine blk_alloc ?_ _)); refine blk_put (cs := #[.int .i64 ((rd_T28 l0 x3_1).f0), .slice none 0 0]) ?_ 1 _ rfl; (with_reducible repeat (first | refine blk_drewN ?_ _ | refine blk_drew ?_ | refine blk_alloc ?_ _)); refine blk_put (cs := #[.int .i64 0, .slice none 0 0]) ?_ 0 _ rfl; (with_reducible repeat (first | refine blk_drewN ?_ _ | refine blk_drew ?_ | refine blk_alloc ?_ _)); exact BK137.out⟩, ⟨zG⟩⟩
         ·rw [if_neg c13] at H
          have c13b0 : decide (60000 < (((rd_T28 l0 x3_1).f1).length : Int)) = false := decide_eq_false c13
          have c13b1 : decide (60000 < ((rd_T28 l0 x3_1).f1).length) = false := decide_eq_false (by omega)
          clear c13
          obtain ⟨ji15, hji15⟩ : ∃ j_ : Int, (wrap64 ((((rd_T28 l0 x3_1).f1).length : Int) - 1)) = j_ := ⟨_, rfl⟩
          replace H : (if 0 ≤ (ji15) then (if (ji15) < (((rd_T28 l0 x3_1).f1).length : Int) then (gumshoeref09_Right.j1 k1 l0 x3_1 (((rd_T28 l0 x3_1).f1).length : Int) (((rd_T31 ((rd_T28 l0 x3_1).f1) (ji15)).f0) != 20) ((rd_T28 l0 x3_1).f0) ((rd_T28 l0 x3_1).f1)) else (none)) else (none)) = some r := by first | (rw [hji15] at H; exact H) | (simp only [hji15] at H ⊢; exact H)
          have hji15w : (IntKind.i64.wrap ((((rd_T28 l0 x3_1).f1).length : Int) - 1)) = ji15 := (i64_w _).trans hji15
          by_cases c16 : 0 ≤ (ji15)
          ·rw [if_pos c16] at H
           have c16b0 : decide (0 ≤ (ji15)) = true := decide_eq_true c16
           clear c16
           by_cases c17 : (ji15) < (((rd_T28 l0 x3_1).f1).length : Int)
           ·rw [if_pos c17] at H
            have c17b0 : decide ((ji15) < (((rd_T28 l0 x3_1).f1).length : Int)) = true := decide_eq_true c17
            clear c17
            have H' := Aside0.mk H
            clear H
            obtain ⟨hcz18_0, hcz18_1, hfz18_0, hfz18_1⟩ := zd2 BK137.out (.int .i64 0) (.slice none 0 0)
            have p138 : 0 ≤ ((ji15) : Int) := of_decide_eq_true zA
            have q138 : (ji15) < (((rd_T28 l0 x3_1).f1).length : Int) := of_decide_eq_true zA
            obtain ⟨ad138, A138_7, c138_7, e138, hx138_0, hx138_1, hx138_2, hx138_3, hx138_4, hx138_5, hx138_6, hx138_7, hl138_7, hi138_7⟩ := at_T31 HR136_1.out (ji15) p138 q138
            cases e138
            have hn138_0 : ad138.block ≠ gb137 := Nat.ne_of_lt (Nat.lt_of_lt_of_le (by have := World.block_lt_of_cell? _ _ hx138_0; first | rwa [add_block] at this | exact this) GW137.out)
            have hn138_1 : ad138.block ≠ gb137 := Nat.ne_of_lt (Nat.lt_of_lt_of_le (by have := World.block_lt_of_cell? _ _ hx138_0; first | rwa [add_block] at this | exact this) GW137.out)
            replace hx138_0 := (HB.out.cell (World.block_lt_of_cell? w _ hx138_0)).trans hx138_0
            replace hx138_1 := (HB.out.cell (World.block_lt_of_cell? w _ hx138_1)).trans hx138_1
            replace hx138_2 := (HB.out.cell (World.block_lt_of_cell? w _ hx138_2)).trans hx138_2
            replace hx138_3 := (HB.out.cell (World.block_lt_of_cell? w _ hx138_3)).trans hx138_3
            replace hx138_4 := (HB.out.cell (World.block_lt_of_cell? w _ hx138_4)).trans hx138_4
            replace hx138_5 := (HB.out.cell (World.block_lt_of_cell? w _ hx138_5)).trans hx138_5
            replace hx138_6 := (HB.out.cell (World.block_lt_of_cell? w _ hx138_6)).trans hx138_6
            replace hx138_7 := (HB.out.cell (World.block_lt_of_cell? w _ hx138_7)).trans hx138_7
            have HR138_7 := Aside0.mk hi138_7
            have HC138_7 := Aside0.mk hl138_7
            clear hi138_7 hl138_7
            replace hx138_0 := (cell_far (p := ⟨gb137, 0, none⟩) (by first | (rw [add_block]; exact hn138_0) | (show (Addr.add _ _).block ≠ _; rw [add_block]; exact hn138_0) | exact hn138_0) (.int .i64 ((rd_T28 l0 x3_1).f0))).trans hx138_0
            replace hx138_1 := (cell_far (p := ⟨gb137, 0, none⟩) (by first | (rw [add_block]; exact hn138_0) | (show (Addr.add _ _).block ≠ _; rw [add_block]; exact hn138_0) | exact hn138_0) (.int .i64 ((rd_T28 l0 x3_1).f0))).trans hx138_1
            replace hx138_2 := (cell_far (p := ⟨gb137, 0, none⟩) (by first | (rw [add_block]; exact hn138_0) | (show (Addr.add _ _).block ≠ _; rw [add_block]; exact hn138_0) | exact hn138_0) (.int .i64 ((rd_T28 l0 x3_1).f0))).trans hx138_2
            replace hx138_3 := (cell_far (p := ⟨gb137, 0, none⟩) (by first | (rw [add_block]; exact hn138_0) | (show (Addr.add _ _).block ≠ _; rw [add_block]; exact hn138_0) | exact hn138_0) (.int .i64 ((rd_T28 l0 x3_1).f0))).trans hx138_3
            replace hx138_4 := (cell_far (p := ⟨gb137, 0, none⟩) (by first | (rw [add_block]; exact hn138_0) | (show (Addr.add _ _).block ≠ _; rw [add_block]; exact hn138_0) | exact hn138_0) (.int .i64 ((rd_T28 l0 x3_1).f0))).trans hx138_4
            replace hx138_5 := (cell_far (p := ⟨gb137, 0, none⟩) (by first | (rw [add_block]; exact hn138_0) | (show (Addr.add _ _).block ≠ _; rw [add_block]; exact hn138_0) | exact hn138_0) (.int .i64 ((rd_T28 l0 x3_1).f0))).trans hx138_5
            replace hx138_6 := (cell_far (p := ⟨gb137, 0, none⟩) (by first | (rw [add_block]; exact hn138_0) | (show (Addr.add _ _).block ≠ _; rw [add_block]; exact hn138_0) | exact hn138_0) (.int .i64 ((rd_T28 l0 x3_1).f0))).trans hx138_6
            replace hx138_7 := (cell_far (p := ⟨gb137, 0, none⟩) (by first | (rw [add_block]; exact hn138_0) | (show (Addr.add _ _).block ≠ _; rw [add_block]; exact hn138_0) | exact hn138_0) (.int .i64 ((rd_T28 l0 x3_1).f0))).trans hx138_7
            replace hx138_0 := (cell_far (p := ⟨gb137, 1, none⟩) (by first | (rw [add_block]; exact hn138_1) | (show (Addr.add _ _).block ≠ _; rw [add_block]; exact hn138_1) | exact hn138_1) (.slice (some ad138) ((rd_T28 l0 x3_1).f1).length c136_1)).trans hx138_0
            replace hx138_1 := (cell_far (p := ⟨gb137, 1, none⟩) (by first | (rw [add_block]; exact hn138_1) | (show (Addr.add _ _).block ≠ _; rw [add_block]; exact hn138_1) | exact hn138_1) (.slice (some ad138) ((rd_T28 l0 x3_1).f1).length c136_1)).trans hx138_1
            replace hx138_2 := (cell_far (p := ⟨gb137, 1, none⟩) (by first | (rw [add_block]; exact hn138_1) | (show (Addr.add _ _).block ≠ _; rw [add_block]; exact hn138_1) | exact hn138_1) (.slice (some ad138) ((rd_T28 l0 x3_1).f1).length c136_1)).trans hx138_2
            replace hx138_3 := (cell_far (p := ⟨gb137, 1, none⟩) (by first | (rw [add_block]; exact hn138_1) | (show (Addr.add _ _).block ≠ _; rw [add_block]; exact hn138_1) | exact hn138_1) (.slice (some ad138) ((rd_T28 l0 x3_1).f1).length c136_1)).trans hx138_3
            replace hx138_4 := (cell_far (p := ⟨gb137, 1, none⟩) (by first | (rw [add_block]; exact hn138_1) | (show (Addr.add _ _).block ≠ _; rw [add_block]; exact hn138_1) | exact hn138_1) (.slice (some ad138) ((rd_T28 l0 x3_1).f1).length c136_1)).trans hx138_4
            replace hx138_5 := (cell_far (p := ⟨gb137, 1, none⟩) (by first | (rw [add_block]; exact hn138_1) | (show (Addr.add _ _).block ≠ _; rw [add_block]; exact hn138_1) | exact hn138_1) (.slice (some ad138) ((rd_T28 l0 x3_1).f1).length c136_1)).trans hx138_5
            replace hx138_6 := (cell_far (p := ⟨gb137, 1, none⟩) (by first | (rw [add_block]; exact hn138_1) | (show (Addr.add _ _).block ≠ _; rw [add_block]; exact hn138_1) | exact hn138_1) (.slice (some ad138) ((rd_T28 l0 x3_1).f1).length c136_1)).trans hx138_6
            replace hx138_7 := (cell_far (p := ⟨gb137, 1, none⟩) (by first | (rw [add_block]; exact hn138_1) | (show (Addr.add _ _).block ≠ _; rw [add_block]; exact hn138_1) | exact hn138_1) (.slice (some ad138) ((rd_T28 l0 x3_1).f1).length c136_1)).trans hx138_7
            clear hn138_0
            clear hn138_1
            replace p138 := eq_true p138
            replace q138 := eq_true q138
            go_wp2
            go_meet
            case rel => exact ⟨_, ((((rd_T31 ((rd_T28 l0 x3_1).f1) (ji15)).f0) != 20)), (by first | rfl | (simp; done) | (simp only [← hji15] <;> (first | rfl | simp)) | (simp [*]; done)), H', ⟨by have := HK1.out; first | omega | exact Nat.le_refl _⟩, ⟨by (with_reducible repeat (first | refine blk_drewN ?_ _ | refine blk_drew ?_ | refine blk_alloc ?_ _)); refine blk_put (cs := #[.int .i64 ((rd_T28 l0 x3_1).f0), .slice none 0 0]) ?_ 1 _ rfl; (with_reducible repeat (first | refine blk_drewN ?_ _ | refine blk_drew ?_ | refine blk_alloc ?_ _)); refine blk_put (cs := #[.int .i64 0, .slice none 0 0]) ?_ 0 _ rfl; (with_reducible repeat (first | refine blk_drewN ?_ _ | refine blk_drew ?_ | refine blk_alloc ?_ _)); exact BK137.out⟩, ⟨zG⟩⟩
           ·rw [if_neg c17] at H
            exact absurd H (by simp)
          ·rw [if_neg c16] at H
           exact absurd H (by simp)
     case rest =>
      clear HC4
      clear c2b0 c3b0 hcz6_0 hcz6_1 hfz6_0 hfz6_1 hx136_0 hx136_1 p136 q136
      obtain ⟨kq, x46_3, rfl, HA, HJ3, BK137, HB⟩ := hcut
      cases kq with
      | zero => exact absurd HA.out (by simp [gumshoeref09_Right.j1])
      | succ kj3 =>
       have H := HA.out
       clear HA
       simp only [gumshoeref09_Right.j1] at H
       by_cases c19 : x46_3 = true
       ·subst c19
        rw [if_pos rfl] at H
        obtain rfl := Option.some.inj H
        go_wp2
        go_ret
        exact ⟨zE, zG⟩
       ·replace c19 := Bool.eq_false_iff.mpr c19
        subst c19
        rw [if_neg (show ¬ (false = true) by decide)] at H
        have H' := Aside0.mk H
        clear H
        go_wp2
        go_loopg [6] kj3 (fun kq v6 w' => ∃ (x6_3 : Int), v6 = .int .i64 x6_3 ∧ Aside0 (gumshoeref09_Right.l1 kq l0 x3_1 (((rd_T28 l0 x3_1).f1).length : Int) x6_3 ((rd_T28 l0 x3_1).f0) ((rd_T28 l0 x3_1).f1) = some r) ∧ Aside0 (kq ≤ kj3) ∧ Aside0 (w'.heap[gb137]? = some (.cells #[.int .i64 ((rd_T28 l0 x3_1).f0), (.slice A136_1 ((rd_T28 l0 x3_1).f1).length c136_1)] 28 (0, 0))) ∧ Aside0 (Below w.heap.size w w'))
        case atStart => exact ⟨(0), zR, H', ⟨Nat.le_refl _⟩, ⟨zK⟩, ⟨zG⟩⟩
        case round =>
         clear H'
         obtain ⟨x6_3, rfl, HA, HK3, BK137, HB⟩ := hrel
         cases gk with
         | zero => exact absurd HA.out (by simp [gumshoeref09_Right.l1])
         | succ k3 =>
          have H := HA.out
          clear HA
          simp only [gumshoeref09_Right.l1] at H
          by_cases c20 : x6_3 < (((rd_T28 l0 x3_1).f1).length : Int)
          ·rw [if_pos c20] at H
           have c20b0 : decide (x6_3 < (((rd_T28 l0 x3_1).f1).length : Int)) = true := decide_eq_true c20
           clear c20
           by_cases c21 : 0 ≤ x6_3
           ·rw [if_pos c21] at H
            have c21b0 : decide (0 ≤ x6_3) = true := decide_eq_true c21
            clear c21
            by_cases c22 : x6_3 < (((rd_T28 l0 x3_1).f1).length : Int)
            ·rw [if_pos c22] at H
             have c22b0 : decide (x6_3 < (((rd_T28 l0 x3_1).f1).length : Int)) = true := decide_eq_true c22
             clear c22
             obtain ⟨t140, A23, H⟩ := zO H
             by_cases c24 : t140 = true
             ·subst c24
              rw [if_pos rfl] at H
              have H' := Aside0.mk H
              clear H
              try go_wp2
              have n0_ := Aside0.mk (blk_drew BK137.out)
              have n1_ := Aside0.mk (below_drew1 HB.out)
              clear BK137
              clear HB
              have BK137 := n0_
              have HB := n1_
              clear n0_ n1_
              have p139 : 0 ≤ (x6_3 : Int) := of_decide_eq_true zA
              have q139 : x6_3 < (((rd_T28 l0 x3_1).f1).length : Int) := of_decide_eq_true zA
              obtain ⟨ad139, A139_7, c139_7, e139, hx139_0, hx139_1, hx139_2, hx139_3, hx139_4, hx139_5, hx139_6, hx139_7, hl139_7, hi139_7⟩ := at_T31 HR136_1.out x6_3 p139 q139
              have hw139_7 := hx139_7
              have hw139_6 := hx139_6
              have hw139_5 := hx139_5
              have hw139_4 := hx139_4
              have hw139_3 := hx139_3
              have hw139_2 := hx139_2
              have hw139_1 := hx139_1
              have hw139_0 := hx139_0
              cases e139
              replace hx139_0 := (HB.out.cell (World.block_lt_of_cell? w _ hx139_0)).trans hx139_0
              replace hx139_1 := (HB.out.cell (World.block_lt_of_cell? w _ hx139_1)).trans hx139_1
              replace hx139_2 := (HB.out.cell (World.block_lt_of_cell? w _ hx139_2)).trans hx139_2
              replace hx139_3 := (HB.out.cell (World.block_lt_of_cell? w _ hx139_3)).trans hx139_3
              replace hx139_4 := (HB.out.cell (World.block_lt_of_cell? w _ hx139_4)).trans hx139_4
              replace hx139_5 := (HB.out.cell (World.block_lt_of_cell? w _ hx139_5)).trans hx139_5
              replace hx139_6 := (HB.out.cell (World.block_lt_of_cell? w _ hx139_6)).trans hx139_6
              replace hx139_7 := (HB.out.cell (World.block_lt_of_cell? w _ hx139_7)).trans hx139_7
              have HR139_7 := Aside0.mk hi139_7
              have HC139_7 := Aside0.mk hl139_7
              clear hi139_7 hl139_7
              replace p139 := eq_true p139
              replace q139 := eq_true q139
              refine start_ (n := 10) (S := fun w' => w'.cell? ⟨gb137, 0, none⟩ = some (.int .i64 ((rd_T28 l0 x3_1).f0)) ∧ w'.cell? ⟨gb137, 1, none⟩ = some (.slice (some ad139) ((rd_T28 l0 x3_1).f1).length c136_1) ∧ w'.cell? (ad139.add ((x6_3).toNat * 8)) = some (.int .i64 ((rd_T31 ((rd_T28 l0 x3_1).f1) x6_3).f0)) ∧ w'.cell? ⟨(ad139.add ((x6_3).toNat * 8)).block, (ad139.add ((x6_3).toNat * 8)).off + 1, none⟩ = some (.int .i64 ((rd_T31 ((rd_T28 l0 x3_1).f1) x6_3).f1)) ∧ w'.cell? ⟨(ad139.add ((x6_3).toNat * 8)).block, (ad139.add ((x6_3).toNat * 8)).off + 2, none⟩ = some (.int .i64 ((rd_T31 ((rd_T28 l0 x3_1).f1) x6_3).f2)) ∧ w'.cell? ⟨(ad139.add ((x6_3).toNat * 8)).block, (ad139.add ((x6_3).toNat * 8)).off + 3, none⟩ = some (.int .i64 ((rd_T31 ((rd_T28 l0 x3_1).f1) x6_3).f3)) ∧ w'.cell? ⟨(ad139.add ((x6_3).toNat * 8)).block, (ad139.add ((x6_3).toNat * 8)).off + 4, none⟩ = some (.int .i64 ((rd_T31 ((rd_T28 l0 x3_1).f1) x6_3).f4)) ∧ w'.cell? ⟨(ad139.add ((x6_3).toNat * 8)).block, (ad139.add ((x6_3).toNat * 8)).off + 5, none⟩ = some (.string ((rd_T31 ((rd_T28 l0 x3_1).f1) x6_3).f5)) ∧ w'.cell? ⟨(ad139.add ((x6_3).toNat * 8)).block, (ad139.add ((x6_3).toNat * 8)).off + 6, none⟩ = some (.int .i64 ((rd_T31 ((rd_T28 l0 x3_1).f1) x6_3).f6)) ∧ w'.cell? ⟨(ad139.add ((x6_3).toNat * 8)).block, (ad139.add ((x6_3).toNat * 8)).off + 7, none⟩ = some (.slice A139_7 ((rd_T31 ((rd_T28 l0 x3_1).f1) x6_3).f7).length c139_7)) (ds := []) #[false, false, false, false, false, false, false, false, false, false] (by kernel_rfl) rfl rfl ⟨(blk_cell BK137.out 0).trans rfl, (blk_cell BK137.out 1).trans rfl, ((HB.out.cell (World.block_lt_of_cell? w _ hw139_0)).trans hw139_0), ((HB.out.cell (World.block_lt_of_cell? w _ hw139_1)).trans hw139_1), ((HB.out.cell (World.block_lt_of_cell? w _ hw139_2)).trans hw139_2), ((HB.out.cell (World.block_lt_of_cell? w _ hw139_3)).trans hw139_3), ((HB.out.cell (World.block_lt_of_cell? w _ hw139_4)).trans hw139_4), ((HB.out.cell (World.block_lt_of_cell? w _ hw139_5)).trans hw139_5), ((HB.out.cell (World.block_lt_of_cell? w _ hw139_6)).trans hw139_6), ((HB.out.cell (World.block_lt_of_cell? w _ hw139_7)).trans hw139_7)⟩ (fun hHeld => ?_); refine with_tabW gumshoeref09_Right.tab11 gumshoeref09_Right.bits11 (fun HT_ HW_ => ?_)
              generalize wr.drew = w25 at BK137 HB HR139_7 hx139_0 hx139_1 hx139_2 hx139_3 hx139_4 hx139_5 hx139_6 hx139_7 hHeld ⊢
              refine pure_ (i := 0) (N := some 52) (v := ?_) (a' := ?_) #[true, false, false, false, false, false, false, false, false, false] rfl rfl (any_of HT_.out (by kernel_rfl)) (fun _ _ _ h => h) (Or.inl ⟨by rfl, ?_⟩) ?_ ?_
              rotate_left
              ·intro w'
               go_simp
               with_reducible rfl
              rotate_left
              ·simp only [Act.put, List.setIfInBounds_toArray, List.set_cons_zero, List.set_cons_succ, i64_w, i32_w]
               rfl
              refine pure_ (i := 2) (N := some 54) (v := ?_) (a' := ?_) #[true, false, true, false, false, false, false, false, false, false] rfl rfl (any_of HT_.out (by kernel_rfl)) (fun _ _ _ h => h) (Or.inl ⟨by rfl, ?_⟩) ?_ ?_
              rotate_left
              ·intro w'
               go_simp
               with_reducible rfl
              rotate_left
              ·simp only [Act.put, List.setIfInBounds_toArray, List.set_cons_zero, List.set_cons_succ, i64_w, i32_w]
               rfl
              refine pure_ (i := 6) (N := some 58) (v := ?_) (a' := ?_) #[true, false, true, false, false, false, true, false, false, false] rfl rfl (any_of HT_.out (by kernel_rfl)) (fun _ _ _ h => h) (Or.inl ⟨by rfl, ?_⟩) ?_ ?_
              rotate_left
              ·intro w'
               go_simp
               with_reducible rfl
              rotate_left
              ·simp only [Act.put, List.setIfInBounds_toArray, List.set_cons_zero, List.set_cons_succ, i64_w, i32_w]
               rfl
              refine pure_ (i := 7) (N := some 59) (v := ?_) (a' := ?_) #[true, false, true, false, false, false, true, true, false, false] rfl rfl (any_of HT_.out (by kernel_rfl)) (fun _ _ _ h => h) (Or.inl ⟨by rfl, ?_⟩) ?_ ?_
              rotate_left
              ·intro w'
               go_simp
               with_reducible rfl
              rotate_left
              ·simp only [Act.put, List.setIfInBounds_toArray, List.set_cons_zero, List.set_cons_succ, i64_w, i32_w]
               rfl
              refine take_ (i := 1) (N := some 53) (v := ?_) (a' := ?_) #[true, true, true, false, false, false, true, true, false, false] rfl rfl (take_ofW HT_.out HW_.out (by kernel_rfl)) (fun _ _ _ h => h) (Or.inl ⟨by rfl, ?_⟩) hHeld ?_ ?_
              rotate_left
              ·rintro w' ⟨s0, s1, s2, s3, s4, s5, s6, s7, s8, s9⟩
               go_simp
               with_reducible rfl
              rotate_left
              ·simp only [Act.put, List.setIfInBounds_toArray, List.set_cons_zero, List.set_cons_succ, i64_w, i32_w]
               rfl
              refine pure_ (i := 3) (N := some 55) (v := ?_) (a' := ?_) #[true, true, true, true, false, false, true, true, false, false] rfl rfl (any_of HT_.out (by kernel_rfl)) (fun _ _ _ h => h) (Or.inl ⟨by rfl, ?_⟩) ?_ ?_
              rotate_left
              ·intro w'
               go_simp
               with_reducible rfl
              rotate_left
              ·simp only [Act.put, List.setIfInBounds_toArray, List.set_cons_zero, List.set_cons_succ, i64_w, i32_w]
               rfl
              refine take_ (i := 4) (N := some 56) (v := ?_) (a' := ?_) #[true, true, true, true, true, false, true, true, false, false] rfl rfl (take_ofW HT_.out HW_.out (by kernel_rfl)) (fun _ _ _ h => h) (Or.inl ⟨by rfl, ?_⟩) hHeld ?_ ?_
              rotate_left
              ·rintro w' ⟨s0, s1, s2, s3, s4, s5, s6, s7, s8, s9⟩
               go_simp
               with_reducible rfl
              rotate_left
              ·simp only [Act.put, List.setIfInBounds_toArray, List.set_cons_zero, List.set_cons_succ, i64_w, i32_w]
               rfl
              refine take_ (i := 5) (N := some 57) (v := ?_) (a' := ?_) #[true, true, true, true, true, true, true, true, false, false] rfl rfl (take_ofW HT_.out HW_.out (by kernel_rfl)) (fun _ _ _ h => h) (Or.inl ⟨by rfl, ?_⟩) hHeld ?_ ?_
              rotate_left
              ·rintro w' ⟨s0, s1, s2, s3, s4, s5, s6, s7, s8, s9⟩
               go_simp
               with_reducible rfl
              rotate_left
              ·simp only [Act.put, List.setIfInBounds_toArray, List.set_cons_zero, List.set_cons_succ, i64_w, i32_w]
               rfl
              refine one_ (i := 8) (N := some 60) #[true, true, true, true, true, true, true, true, true, false] rfl rfl (one_of HT_.out (by kernel_rfl)) (by decide) (fun K hK => ?_)
              refine goes_ Tryz.func26 (by kernel_rfl) rfl #[.agg #[.int .i64 ((rd_T31 ((rd_T28 l0 x3_1).f1) x6_3).f0), .int .i64 ((rd_T31 ((rd_T28 l0 x3_1).f1) x6_3).f1), .int .i64 ((rd_T31 ((rd_T28 l0 x3_1).f1) x6_3).f2), .int .i64 ((rd_T31 ((rd_T28 l0 x3_1).f1) x6_3).f3), .int .i64 ((rd_T31 ((rd_T28 l0 x3_1).f1) x6_3).f4), .string ((rd_T31 ((rd_T28 l0 x3_1).f1) x6_3).f5), .int .i64 ((rd_T31 ((rd_T28 l0 x3_1).f1) x6_3).f6), .slice A139_7 ((rd_T31 ((rd_T28 l0 x3_1).f1) x6_3).f7).length c139_7], .agg #[.int .i64 ((rd_T28 l0 x3_1).f0), .slice (some ad139) ((rd_T28 l0 x3_1).f1).length c136_1], .int .i64 (l0.length : Int)] (by rfl) rfl rfl zP ?_
              with_reducible refine (gumshoeref09_ins.calls k3 ((rd_T31 ((rd_T28 l0 x3_1).f1) x6_3).f0) ((rd_T31 ((rd_T28 l0 x3_1).f1) x6_3).f1) ((rd_T31 ((rd_T28 l0 x3_1).f1) x6_3).f2) ((rd_T31 ((rd_T28 l0 x3_1).f1) x6_3).f3) ((rd_T31 ((rd_T28 l0 x3_1).f1) x6_3).f4) ((rd_T31 ((rd_T28 l0 x3_1).f1) x6_3).f5) ((rd_T31 ((rd_T28 l0 x3_1).f1) x6_3).f6) _ _ ((rd_T31 ((rd_T28 l0 x3_1).f1) x6_3).f7) ((rd_T28 l0 x3_1).f0) _ _ ((rd_T28 l0 x3_1).f1) (l0.length : Int) true _ ?side1 ?side2 ?side3 ?side4 A23.out).mono ?_
              (case side1 => repeat (first | exact (Kd.C_below HR139_7.out HB.out) | (with_reducible refine Kd.C_alloc ?_ _) | (with_reducible refine Kd.C_drewN ?_ _) | (with_reducible refine Kd.C_drew ?_)))
              (case side2 => exact HC139_7.out)
              (case side3 => repeat (first | exact (Kd.C_below HR136_1.out HB.out) | (with_reducible refine Kd.C_alloc ?_ _) | (with_reducible refine Kd.C_drewN ?_ _) | (with_reducible refine Kd.C_drew ?_)))
              (case side4 => exact HC136_1.out)
              rintro e w26 ⟨rfl, hb⟩
              refine ⟨_, rfl, ?_⟩
              have n0_ := Aside0.mk (blk_below (g := gb137) zK hb)
              have n1_ := Aside0.mk (below_step zG hb)
              clear BK137
              clear HB
              have BK137 := n0_
              have HB := n1_
              clear n0_ n1_
              (try clear hb)
              (try clear hb2)
              (try clear hk)
              (try clear hi)
              refine hK.out _ _ ⟨(blk_cell BK137.out 0).trans rfl, (blk_cell BK137.out 1).trans rfl, ((HB.out.cell (World.block_lt_of_cell? w _ hw139_0)).trans hw139_0), ((HB.out.cell (World.block_lt_of_cell? w _ hw139_1)).trans hw139_1), ((HB.out.cell (World.block_lt_of_cell? w _ hw139_2)).trans hw139_2), ((HB.out.cell (World.block_lt_of_cell? w _ hw139_3)).trans hw139_3), ((HB.out.cell (World.block_lt_of_cell? w _ hw139_4)).trans hw139_4), ((HB.out.cell (World.block_lt_of_cell? w _ hw139_5)).trans hw139_5), ((HB.out.cell (World.block_lt_of_cell? w _ hw139_6)).trans hw139_6), ((HB.out.cell (World.block_lt_of_cell? w _ hw139_7)).trans hw139_7)⟩ (fun hHeld => ?_)
              clear hK K
              refine norm_ (a' := ?_) ?_ ?_
              rotate_left
              ·show Act.put _ (some 60) _ = _
               simp only [Act.put, List.setIfInBounds_toArray, List.set_cons_zero, List.set_cons_succ, i64_w, i32_w]
               rfl
              refine pure_ (i := 9) (N := some 7) (v := ?_) (a' := ?_) #[true, true, true, true, true, true, true, true, true, true] rfl rfl (any_of HT_.out (by kernel_rfl)) (fun _ _ _ h => h) (Or.inl ⟨by rfl, ?_⟩) ?_ ?_
              rotate_left
              ·intro w'
               go_simp
               with_reducible rfl
              rotate_left
              ·simp only [Act.put, List.setIfInBounds_toArray, List.set_cons_zero, List.set_cons_succ, i64_w, i32_w]
               rfl
              refine done_ (done_of HT_.out (by kernel_rfl)) ?_
              try go_wp2
              go_roundg k3
              case measure => have := HK1.out; have := HJ3.out; have := HK3.out; omega
              case rel => exact ⟨(wrap64 (x6_3 + 1)), zR, H', ⟨by have := HK1.out; have := HJ3.out; have := HK3.out; omega⟩, ⟨zK⟩, ⟨zG⟩⟩
             ·replace c24 := Bool.eq_false_iff.mpr c24
              subst c24
              rw [if_neg (show ¬ (false = true) by decide)] at H
              obtain rfl := Option.some.inj H
              try go_wp2
              have n0_ := Aside0.mk (blk_drew BK137.out)
              have n1_ := Aside0.mk (below_drew1 HB.out)
              clear BK137
              clear HB
              have BK137 := n0_
              have HB := n1_
              clear n0_ n1_
              have p139 : 0 ≤ (x6_3 : Int) := of_decide_eq_true zA
              have q139 : x6_3 < (((rd_T28 l0 x3_1).f1).length : Int) := of_decide_eq_true zA
              obtain ⟨ad139, A139_7, c139_7, e139, hx139_0, hx139_1, hx139_2, hx139_3, hx139_4, hx139_5, hx139_6, hx139_7, hl139_7, hi139_7⟩ := at_T31 HR136_1.out x6_3 p139 q139
              have hw139_7 := hx139_7
              have hw139_6 := hx139_6
              have hw139_5 := hx139_5
              have hw139_4 := hx139_4
              have hw139_3 := hx139_3
              have hw139_2 := hx139_2
              have hw139_1 := hx139_1
              have hw139_0 := hx139_0
              cases e139
              replace hx139_0 := (HB.out.cell (World.block_lt_of_cell? w _ hx139_0)).trans hx139_0
              replace hx139_1 := (HB.out.cell (World.block_lt_of_cell? w _ hx139_1)).trans hx139_1
              replace hx139_2 := (HB.out.cell (World.block_lt_of_cell? w _ hx139_2)).trans hx139_2
              replace hx139_3 := (HB.out.cell (World.block_lt_of_cell? w _ hx139_3)).trans hx139_3
              replace hx139_4 := (HB.out.cell (World.block_lt_of_cell? w _ hx139_4)).trans hx139_4
              replace hx139_5 := (HB.out.cell (World.block_lt_of_cell? w _ hx139_5)).trans hx139_5
              replace hx139_6 := (HB.out.cell (World.block_lt_of_cell? w _ hx139_6)).trans hx139_6
              replace hx139_7 := (HB.out.cell (World.block_lt_of_cell? w _ hx139_7)).trans hx139_7
              have HR139_7 := Aside0.mk hi139_7
              have HC139_7 := Aside0.mk hl139_7
              clear hi139_7 hl139_7
              replace p139 := eq_true p139
              replace q139 := eq_true q139
              refine start_ (n := 10) (S := fun w' => w'.cell? ⟨gb137, 0, none⟩ = some (.int .i64 ((rd_T28 l0 x3_1).f0)) ∧ w'.cell? ⟨gb137, 1, none⟩ = some (.slice (some ad139) ((rd_T28 l0 x3_1).f1).length c136_1) ∧ w'.cell? (ad139.add ((x6_3).toNat * 8)) = some (.int .i64 ((rd_T31 ((rd_T28 l0 x3_1).f1) x6_3).f0)) ∧ w'.cell? ⟨(ad139.add ((x6_3).toNat * 8)).block, (ad139.add ((x6_3).toNat * 8)).off + 1, none⟩ = some (.int .i64 ((rd_T31 ((rd_T28 l0 x3_1).f1) x6_3).f1)) ∧ w'.cell? ⟨(ad139.add ((x6_3).toNat * 8)).block, (ad139.add ((x6_3).toNat * 8)).off + 2, none⟩ = some (.int .i64 ((rd_T31 ((rd_T28 l0 x3_1).f1) x6_3).f2)) ∧ w'.cell? ⟨(ad139.add ((x6_3).toNat * 8)).block, (ad139.add ((x6_3).toNat * 8)).off + 3, none⟩ = some (.int .i64 ((rd_T31 ((rd_T28 l0 x3_1).f1) x6_3).f3)) ∧ w'.cell? ⟨(ad139.add ((x6_3).toNat * 8)).block, (ad139.add ((x6_3).toNat * 8)).off + 4, none⟩ = some (.int .i64 ((rd_T31 ((rd_T28 l0 x3_1).f1) x6_3).f4)) ∧ w'.cell? ⟨(ad139.add ((x6_3).toNat * 8)).block, (ad139.add ((x6_3).toNat * 8)).off + 5, none⟩ = some (.string ((rd_T31 ((rd_T28 l0 x3_1).f1) x6_3).f5)) ∧ w'.cell? ⟨(ad139.add ((x6_3).toNat * 8)).block, (ad139.add ((x6_3).toNat * 8)).off + 6, none⟩ = some (.int .i64 ((rd_T31 ((rd_T28 l0 x3_1).f1) x6_3).f6)) ∧ w'.cell? ⟨(ad139.add ((x6_3).toNat * 8)).block, (ad139.add ((x6_3).toNat * 8)).off + 7, none⟩ = some (.slice A139_7 ((rd_T31 ((rd_T28 l0 x3_1).f1) x6_3).f7).length c139_7)) (ds := []) #[false, false, false, false, false, false, false, false, false, false] (by kernel_rfl) rfl rfl ⟨(blk_cell BK137.out 0).trans rfl, (blk_cell BK137.out 1).trans rfl, ((HB.out.cell (World.block_lt_of_cell? w _ hw139_0)).trans hw139_0), ((HB.out.cell (World.block_lt_of_cell? w _ hw139_1)).trans hw139_1), ((HB.out.cell (World.block_lt_of_cell? w _ hw139_2)).trans hw139_2), ((HB.out.cell (World.block_lt_of_cell? w _ hw139_3)).trans hw139_3), ((HB.out.cell (World.block_lt_of_cell? w _ hw139_4)).trans hw139_4), ((HB.out.cell (World.block_lt_of_cell? w _ hw139_5)).trans hw139_5), ((HB.out.cell (World.block_lt_of_cell? w _ hw139_6)).trans hw139_6), ((HB.out.cell (World.block_lt_of_cell? w _ hw139_7)).trans hw139_7)⟩ (fun hHeld => ?_); refine with_tabW gumshoeref09_Right.tab11 gumshoeref09_Right.bits11 (fun HT_ HW_ => ?_)
              generalize wr.drew = w27 at BK137 HB HR139_7 hx139_0 hx139_1 hx139_2 hx139_3 hx139_4 hx139_5 hx139_6 hx139_7 hHeld ⊢
              refine pure_ (i := 0) (N := some 52) (v := ?_) (a' := ?_) #[true, false, false, false, false, false, false, false, false, false] rfl rfl (any_of HT_.out (by kernel_rfl)) (fun _ _ _ h => h) (Or.inl ⟨by rfl, ?_⟩) ?_ ?_
              rotate_left
              ·intro w'
               go_simp
               with_reducible rfl
              rotate_left
              ·simp only [Act.put, List.setIfInBounds_toArray, List.set_cons_zero, List.set_cons_succ, i64_w, i32_w]
               rfl
              refine pure_ (i := 2) (N := some 54) (v := ?_) (a' := ?_) #[true, false, true, false, false, false, false, false, false, false] rfl rfl (any_of HT_.out (by kernel_rfl)) (fun _ _ _ h => h) (Or.inl ⟨by rfl, ?_⟩) ?_ ?_
              rotate_left
              ·intro w'
               go_simp
               with_reducible rfl
              rotate_left
              ·simp only [Act.put, List.setIfInBounds_toArray, List.set_cons_zero, List.set_cons_succ, i64_w, i32_w]
               rfl
              refine pure_ (i := 6) (N := some 58) (v := ?_) (a' := ?_) #[true, false, true, false, false, false, true, false, false, false] rfl rfl (any_of HT_.out (by kernel_rfl)) (fun _ _ _ h => h) (Or.inl ⟨by rfl, ?_⟩) ?_ ?_
              rotate_left
              ·intro w'
               go_simp
               with_reducible rfl
              rotate_left
              ·simp only [Act.put, List.setIfInBounds_toArray, List.set_cons_zero, List.set_cons_succ, i64_w, i32_w]
               rfl
              refine pure_ (i := 7) (N := some 59) (v := ?_) (a' := ?_) #[true, false, true, false, false, false, true, true, false, false] rfl rfl (any_of HT_.out (by kernel_rfl)) (fun _ _ _ h => h) (Or.inl ⟨by rfl, ?_⟩) ?_ ?_
              rotate_left
              ·intro w'
               go_simp
               with_reducible rfl
              rotate_left
              ·simp only [Act.put, List.setIfInBounds_toArray, List.set_cons_zero, List.set_cons_succ, i64_w, i32_w]
               rfl
              refine take_ (i := 1) (N := some 53) (v := ?_) (a' := ?_) #[true, true, true, false, false, false, true, true, false, false] rfl rfl (take_ofW HT_.out HW_.out (by kernel_rfl)) (fun _ _ _ h => h) (Or.inl ⟨by rfl, ?_⟩) hHeld ?_ ?_
              rotate_left
              ·rintro w' ⟨s0, s1, s2, s3, s4, s5, s6, s7, s8, s9⟩
               go_simp
               with_reducible rfl
              rotate_left
              ·simp only [Act.put, List.setIfInBounds_toArray, List.set_cons_zero, List.set_cons_succ, i64_w, i32_w]
               rfl
              refine pure_ (i := 3) (N := some 55) (v := ?_) (a' := ?_) #[true, true, true, true, false, false, true, true, false, false] rfl rfl (any_of HT_.out (by kernel_rfl)) (fun _ _ _ h => h) (Or.inl ⟨by rfl, ?_⟩) ?_ ?_
              rotate_left
              ·intro w'
               go_simp
               with_reducible rfl
              rotate_left
              ·simp only [Act.put, List.setIfInBounds_toArray, List.set_cons_zero, List.set_cons_succ, i64_w, i32_w]
               rfl
              refine take_ (i := 4) (N := some 56) (v := ?_) (a' := ?_) #[true, true, true, true, true, false, true, true, false, false] rfl rfl (take_ofW HT_.out HW_.out (by kernel_rfl)) (fun _ _ _ h => h) (Or.inl ⟨by rfl, ?_⟩) hHeld ?_ ?_
              rotate_left
              ·rintro w' ⟨s0, s1, s2, s3, s4, s5, s6, s7, s8, s9⟩
               go_simp
               with_reducible rfl
              rotate_left
              ·simp only [Act.put, List.setIfInBounds_toArray, List.set_cons_zero, List.set_cons_succ, i64_w, i32_w]
               rfl
              refine take_ (i := 5) (N := some 57) (v := ?_) (a' := ?_) #[true, true, true, true, true, true, true, true, false, false] rfl rfl (take_ofW HT_.out HW_.out (by kernel_rfl)) (fun _ _ _ h => h) (Or.inl ⟨by rfl, ?_⟩) hHeld ?_ ?_
              rotate_left
              ·rintro w' ⟨s0, s1, s2, s3, s4, s5, s6, s7, s8, s9⟩
               go_simp
               with_reducible rfl
              rotate_left
              ·simp only [Act.put, List.setIfInBounds_toArray, List.set_cons_zero, List.set_cons_succ, i64_w, i32_w]
               rfl
              refine one_ (i := 8) (N := some 60) #[true, true, true, true, true, true, true, true, true, false] rfl rfl (one_of HT_.out (by kernel_rfl)) (by decide) (fun K hK => ?_)
              refine goes_ Tryz.func26 (by kernel_rfl) rfl #[.agg #[.int .i64 ((rd_T31 ((rd_T28 l0 x3_1).f1) x6_3).f0), .int .i64 ((rd_T31 ((rd_T28 l0 x3_1).f1) x6_3).f1), .int .i64 ((rd_T31 ((rd_T28 l0 x3_1).f1) x6_3).f2), .int .i64 ((rd_T31 ((rd_T28 l0 x3_1).f1) x6_3).f3), .int .i64 ((rd_T31 ((rd_T28 l0 x3_1).f1) x6_3).f4), .string ((rd_T31 ((rd_T28 l0 x3_1).f1) x6_3).f5), .int .i64 ((rd_T31 ((rd_T28 l0 x3_1).f1) x6_3).f6), .slice A139_7 ((rd_T31 ((rd_T28 l0 x3_1).f1) x6_3).f7).length c139_7], .agg #[.int .i64 ((rd_T28 l0 x3_1).f0), .slice (some ad139) ((rd_T28 l0 x3_1).f1).length c136_1], .int .i64 (l0.length : Int)] (by rfl) rfl rfl zP ?_
              with_reducible refine (gumshoeref09_ins.calls k3 ((rd_T31 ((rd_T28 l0 x3_1).f1) x6_3).f0) ((rd_T31 ((rd_T28 l0 x3_1).f1) x6_3).f1) ((rd_T31 ((rd_T28 l0 x3_1).f1) x6_3).f2) ((rd_T31 ((rd_T28 l0 x3_1).f1) x6_3).f3) ((rd_T31 ((rd_T28 l0 x3_1).f1) x6_3).f4) ((rd_T31 ((rd_T28 l0 x3_1).f1) x6_3).f5) ((rd_T31 ((rd_T28 l0 x3_1).f1) x6_3).f6) _ _ ((rd_T31 ((rd_T28 l0 x3_1).f1) x6_3).f7) ((rd_T28 l0 x3_1).f0) _ _ ((rd_T28 l0 x3_1).f1) (l0.length : Int) false _ ?side1 ?side2 ?side3 ?side4 A23.out).mono ?_
              (case side1 => repeat (first | exact (Kd.C_below HR139_7.out HB.out) | (with_reducible refine Kd.C_alloc ?_ _) | (with_reducible refine Kd.C_drewN ?_ _) | (with_reducible refine Kd.C_drew ?_)))
              (case side2 => exact HC139_7.out)
              (case side3 => repeat (first | exact (Kd.C_below HR136_1.out HB.out) | (with_reducible refine Kd.C_alloc ?_ _) | (with_reducible refine Kd.C_drewN ?_ _) | (with_reducible refine Kd.C_drew ?_)))
              (case side4 => exact HC136_1.out)
              rintro e w28 ⟨rfl, hb⟩
              refine ⟨_, rfl, ?_⟩
              have n0_ := Aside0.mk (blk_below (g := gb137) zK hb)
              have n1_ := Aside0.mk (below_step zG hb)
              clear BK137
              clear HB
              have BK137 := n0_
              have HB := n1_
              clear n0_ n1_
              (try clear hb)
              (try clear hb2)
              (try clear hk)
              (try clear hi)
              refine hK.out _ _ ⟨(blk_cell BK137.out 0).trans rfl, (blk_cell BK137.out 1).trans rfl, ((HB.out.cell (World.block_lt_of_cell? w _ hw139_0)).trans hw139_0), ((HB.out.cell (World.block_lt_of_cell? w _ hw139_1)).trans hw139_1), ((HB.out.cell (World.block_lt_of_cell? w _ hw139_2)).trans hw139_2), ((HB.out.cell (World.block_lt_of_cell? w _ hw139_3)).trans hw139_3), ((HB.out.cell (World.block_lt_of_cell? w _ hw139_4)).trans hw139_4), ((HB.out.cell (World.block_lt_of_cell? w _ hw139_5)).trans hw139_5), ((HB.out.cell (World.block_lt_of_cell? w _ hw139_6)).trans hw139_6), ((HB.out.cell (World.block_lt_of_cell? w _ hw139_7)).trans hw139_7)⟩ (fun hHeld => ?_)
              clear hK K
              refine norm_ (a' := ?_) ?_ ?_
              rotate_left
              ·show Act.put _ (some 60) _ = _
               simp only [Act.put, List.setIfInBounds_toArray, List.set_cons_zero, List.set_cons_succ, i64_w, i32_w]
               rfl
              refine pure_ (i := 9) (N := some 7) (v := ?_) (a' := ?_) #[true, true, true, true, true, true, true, true, true, true] rfl rfl (any_of HT_.out (by kernel_rfl)) (fun _ _ _ h => h) (Or.inl ⟨by rfl, ?_⟩) ?_ ?_
              rotate_left
              ·intro w'
               go_simp
               with_reducible rfl
              rotate_left
              ·simp only [Act.put, List.setIfInBounds_toArray, List.set_cons_zero, List.set_cons_succ, i64_w, i32_w]
               rfl
              refine done_ (done_of HT_.out (by kernel_rfl)) ?_
              try go_wp2
              go_ret
              exact ⟨zE, zG⟩
            ·rw [if_neg c22] at H
             exact absurd H (by simp)
           ·rw [if_neg c21] at H
            exact absurd H (by simp)
          ·rw [if_neg c20] at H
           have c20b0 : decide (x6_3 < (((rd_T28 l0 x3_1).f1).length : Int)) = false := decide_eq_false c20
           clear c20
           have H' := Aside0.mk H
           clear H
           go_wp2
           go_roundg k3
           case measure => have := HK1.out; have := HJ3.out; have := HK3.out; omega
           case rel => exact ⟨(wrap64 (x3_1 + 1)), zR, H', ⟨by have := HK1.out; have := HJ3.out; have := HK3.out; omega⟩, ⟨zG⟩⟩
    ·rw [if_neg c3] at H
     exact absurd H (by simp)
   ·rw [if_neg c2] at H
    have c2b0 : decide (x3_1 < (l0.length : Int)) = false := decide_eq_false c2
    clear c2
    obtain rfl := Option.some.inj H
    go_wp2
    go_ret
    exact ⟨zE, zB⟩
end Go.Proofs.YtjlhhjfmekjbhaaGreatDoor.Pq

namespace Go.Proofs.YtjlhhjfmekjbhaaGreatDoor.Pq
open Go.RowKit Go.Proofs.YtjlhhjfmekjbhaaGreatDoor.Vb Go.Proofs.YtjlhhjfmekjbhaaGreatDoorW.PrintWords Go.Proofs.YtjlhhjfmekjbhaaGreatDoorW.PrintLast Go.Proofs.YtjlhhjfmekjbhaaGreatDoorW.PrintMore
set_option linter.unusedVariables false
set_option linter.unusedSimpArgs false
/-! ### gumshoeref09_num: function 35 -/
def gumshoeref09_num.f (a0 : Int) : Option (ByteArray) := (gumshoeref06_Key.f 3 a0 (⟨#[]⟩ : ByteArray)).bind fun t141 => (some t141)
end Go.Proofs.YtjlhhjfmekjbhaaGreatDoor.Pq

namespace Go.Proofs.YtjlhhjfmekjbhaaGreatDoor.Pq
open Go.RowKit Go.Proofs.YtjlhhjfmekjbhaaGreatDoorW.PrintWords Go.Proofs.YtjlhhjfmekjbhaaGreatDoorW.PrintLast Go.Proofs.YtjlhhjfmekjbhaaGreatDoorW.PrintMore
attribute [local go_sem] IntKind.wrap_u8
set_option linter.unusedVariables false
set_option linter.unusedSimpArgs false
/-! ### gumshoeref02_Quote: function 36 -/
mutual
def gumshoeref02_Quote.l0 : Nat → ByteArray → ByteArray → ByteArray → Int → Option (ByteArray)
 | 0, _, _, _, _ => none
 | k + 1, x0, x3, x4, x5 => if x5 < (x0.size : Int) then (if 0 ≤ x5 then (if (bt x0 x5) = 34 then (gumshoeref02_Quote.j1 k x0 x3 x4 x5 (bt x0 x5) true) else (gumshoeref02_Quote.j1 k x0 x3 x4 x5 (bt x0 x5) ((bt x0 x5) == 92))) else (none)) else (if x4.size + 1 ≤ 9223372036854775807 then (some (x4 ++ (⟨#[34]⟩ : ByteArray))) else (none))
def gumshoeref02_Quote.j1 : Nat → ByteArray → ByteArray → ByteArray → Int → Int → Bool → Option (ByteArray)
 | 0, _, _, _, _, _, _ => none
 | k + 1, x0, x3, x4, x5, x6, x21 => if x21 = true then (if x4.size + 1 ≤ 9223372036854775807 then (if 0 ≤ x5 then (if x5 ≤ (wrap64 (x5 + 1)) then (if (wrap64 (x5 + 1)) ≤ (x0.size : Int) then (if (x4 ++ (⟨#[92]⟩ : ByteArray)).size + (x0.extract (x5 : Int).toNat ((wrap64 (x5 + 1)) : Int).toNat).size ≤ 9223372036854775807 then (gumshoeref02_Quote.l0 k x0 x3 ((x4 ++ (⟨#[92]⟩ : ByteArray)) ++ (x0.extract (x5 : Int).toNat ((wrap64 (x5 + 1)) : Int).toNat)) (wrap64 (x5 + 1))) else (none)) else (none)) else (none)) else (none)) else (none)) else (if x6 = 10 then (if x4.size + 2 ≤ 9223372036854775807 then (gumshoeref02_Quote.l0 k x0 x3 (x4 ++ (⟨#[92, 110]⟩ : ByteArray)) (wrap64 (x5 + 1))) else (none)) else (if x6 = 9 then (if x4.size + 2 ≤ 9223372036854775807 then (gumshoeref02_Quote.l0 k x0 x3 (x4 ++ (⟨#[92, 116]⟩ : ByteArray)) (wrap64 (x5 + 1))) else (none)) else (if x6 ≥ 32 then (if x6 ≤ 126 then (if 0 ≤ x5 then (if x5 ≤ (wrap64 (x5 + 1)) then (if (wrap64 (x5 + 1)) ≤ (x0.size : Int) then (if x4.size + (x0.extract (x5 : Int).toNat ((wrap64 (x5 + 1)) : Int).toNat).size ≤ 9223372036854775807 then (gumshoeref02_Quote.l0 k x0 x3 (x4 ++ (x0.extract (x5 : Int).toNat ((wrap64 (x5 + 1)) : Int).toNat)) (wrap64 (x5 + 1))) else (none)) else (none)) else (none)) else (none)) else (if x4.size + 2 ≤ 9223372036854775807 then (if 0 ≤ ((Int.tdiv x6 16) % 256) then (if ((Int.tdiv x6 16) % 256) ≤ ((((Int.tdiv x6 16) % 256) + 1) % 256) then (if ((((Int.tdiv x6 16) % 256) + 1) % 256) ≤ (x3.size : Int) then (if (x4 ++ (⟨#[92, 120]⟩ : ByteArray)).size + (x3.extract (((Int.tdiv x6 16) % 256) : Int).toNat (((((Int.tdiv x6 16) % 256) + 1) % 256) : Int).toNat).size ≤ 9223372036854775807 then (if 0 ≤ (Int.tmod x6 16) then (if (Int.tmod x6 16) ≤ (((Int.tmod x6 16) + 1) % 256) then (if (((Int.tmod x6 16) + 1) % 256) ≤ (x3.size : Int) then (if ((x4 ++ (⟨#[92, 120]⟩ : ByteArray)) ++ (x3.extract (((Int.tdiv x6 16) % 256) : Int).toNat (((((Int.tdiv x6 16) % 256) + 1) % 256) : Int).toNat)).size + (x3.extract ((Int.tmod x6 16) : Int).toNat ((((Int.tmod x6 16) + 1) % 256) : Int).toNat).size ≤ 9223372036854775807 then (gumshoeref02_Quote.l0 k x0 x3 (((x4 ++ (⟨#[92, 120]⟩ : ByteArray)) ++ (x3.extract (((Int.tdiv x6 16) % 256) : Int).toNat (((((Int.tdiv x6 16) % 256) + 1) % 256) : Int).toNat)) ++ (x3.extract ((Int.tmod x6 16) : Int).toNat ((((Int.tmod x6 16) + 1) % 256) : Int).toNat)) (wrap64 (x5 + 1))) else (none)) else (none)) else (none)) else (none)) else (none)) else (none)) else (none)) else (none)) else (none))) else (if x4.size + 2 ≤ 9223372036854775807 then (if 0 ≤ ((Int.tdiv x6 16) % 256) then (if ((Int.tdiv x6 16) % 256) ≤ ((((Int.tdiv x6 16) % 256) + 1) % 256) then (if ((((Int.tdiv x6 16) % 256) + 1) % 256) ≤ (x3.size : Int) then (if (x4 ++ (⟨#[92, 120]⟩ : ByteArray)).size + (x3.extract (((Int.tdiv x6 16) % 256) : Int).toNat (((((Int.tdiv x6 16) % 256) + 1) % 256) : Int).toNat).size ≤ 9223372036854775807 then (if 0 ≤ (Int.tmod x6 16) then (if (Int.tmod x6 16) ≤ (((Int.tmod x6 16) + 1) % 256) then (if (((Int.tmod x6 16) + 1) % 256) ≤ (x3.size : Int) then (if ((x4 ++ (⟨#[92, 120]⟩ : ByteArray)) ++ (x3.extract (((Int.tdiv x6 16) % 256) : Int).toNat (((((Int.tdiv x6 16) % 256) + 1) % 256) : Int).toNat)).size + (x3.extract ((Int.tmod x6 16) : Int).toNat ((((Int.tmod x6 16) + 1) % 256) : Int).toNat).size ≤ 9223372036854775807 then (gumshoeref02_Quote.l0 k x0 x3 (((x4 ++ (⟨#[92, 120]⟩ : ByteArray)) ++ (x3.extract (((Int.tdiv x6 16) % 256) : Int).toNat (((((Int.tdiv x6 16) % 256) + 1) % 256) : Int).toNat)) ++ (x3.extract ((Int.tmod x6 16) : Int).toNat ((((Int.tmod x6 16) + 1) % 256) : Int).toNat)) (wrap64 (x5 + 1))) else (none)) else (none)) else (none)) else (none)) else (none)) else (none)) else (none)) else (none)) else (none)))))
end
def gumshoeref02_Quote.f (k : Nat) (a0 : ByteArray) : Option (ByteArray) := gumshoeref02_Quote.l0 k a0 (⟨#[48, 49, 50, 51, 52, 53, 54, 55, 56, 57, 97, 98, 99, 100, 101, 102]⟩ : ByteArray) (⟨#[34]⟩ : ByteArray) 0
end Go.Proofs.YtjlhhjfmekjbhaaGreatDoor.Pq

namespace Go.Proofs.YtjlhhjfmekjbhaaGreatDoor.Pq
open Go.RowKit Go.Proofs.YtjlhhjfmekjbhaaGreatDoorW.PrintWords Go.Proofs.YtjlhhjfmekjbhaaGreatDoorW.PrintLast Go.Proofs.YtjlhhjfmekjbhaaGreatDoorW.PrintMore
set_option linter.unusedVariables false
set_option linter.unusedSimpArgs false
/-! ### gumshoeref09_Show: function 15 -/
mutual
def gumshoeref09_Show.l0 : Nat → List (S28) → ByteArray → Int → Option (ByteArray × Int)
 | 0, _, _, _ => none
 | k + 1, x0, x5, x6 => if x6 < (x0.length : Int) then (if x5.size + 5 ≤ 9223372036854775807 then (if 0 ≤ x6 then ((gumshoeref09_num.f ((rd_T28 x0 x6).f0)).bind fun t144 => (if (x5 ++ (⟨#[112, 114, 111, 99, 32]⟩ : ByteArray)).size + t144.size ≤ 9223372036854775807 then (if ((x5 ++ (⟨#[112, 114, 111, 99, 32]⟩ : ByteArray)) ++ t144).size + 1 ≤ 9223372036854775807 then (gumshoeref09_Show.l1 k x0 (((x5 ++ (⟨#[112, 114, 111, 99, 32]⟩ : ByteArray)) ++ t144) ++ (⟨#[10]⟩ : ByteArray)) x6 0) else (none)) else (none))) else (none)) else (none)) else (some (x5, 0))
def gumshoeref09_Show.l1 : Nat → List (S28) → ByteArray → Int → Int → Option (ByteArray × Int)
 | 0, _, _, _, _ => none
 | k + 1, x0, x5, x6, x7 => if 0 ≤ x6 then (if x6 < (x0.length : Int) then (if x7 < (((rd_T28 x0 x6).f1).length : Int) then (if 0 ≤ x7 then ((gumshoeref09_num.f ((rd_T31 ((rd_T28 x0 x6).f1) x7).f0)).bind fun t149 => (if x5.size + t149.size ≤ 9223372036854775807 then (if (x5 ++ t149).size + 1 ≤ 9223372036854775807 then ((gumshoeref09_num.f ((rd_T31 ((rd_T28 x0 x6).f1) x7).f1)).bind fun t150 => (if ((x5 ++ t149) ++ (⟨#[32]⟩ : ByteArray)).size + t150.size ≤ 9223372036854775807 then (if (((x5 ++ t149) ++ (⟨#[32]⟩ : ByteArray)) ++ t150).size + 1 ≤ 9223372036854775807 then ((gumshoeref09_num.f ((rd_T31 ((rd_T28 x0 x6).f1) x7).f2)).bind fun t151 => (if ((((x5 ++ t149) ++ (⟨#[32]⟩ : ByteArray)) ++ t150) ++ (⟨#[32]⟩ : ByteArray)).size + t151.size ≤ 9223372036854775807 then (if (((((x5 ++ t149) ++ (⟨#[32]⟩ : ByteArray)) ++ t150) ++ (⟨#[32]⟩ : ByteArray)) ++ t151).size + 1 ≤ 9223372036854775807 then ((gumshoeref09_num.f ((rd_T31 ((rd_T28 x0 x6).f1) x7).f3)).bind fun t152 => (if ((((((x5 ++ t149) ++ (⟨#[32]⟩ : ByteArray)) ++ t150) ++ (⟨#[32]⟩ : ByteArray)) ++ t151) ++ (⟨#[32]⟩ : ByteArray)).size + t152.size ≤ 9223372036854775807 then (if (((((((x5 ++ t149) ++ (⟨#[32]⟩ : ByteArray)) ++ t150) ++ (⟨#[32]⟩ : ByteArray)) ++ t151) ++ (⟨#[32]⟩ : ByteArray)) ++ t152).size + 1 ≤ 9223372036854775807 then ((gumshoeref09_num.f ((rd_T31 ((rd_T28 x0 x6).f1) x7).f4)).bind fun t153 => (if ((((((((x5 ++ t149) ++ (⟨#[32]⟩ : ByteArray)) ++ t150) ++ (⟨#[32]⟩ : ByteArray)) ++ t151) ++ (⟨#[32]⟩ : ByteArray)) ++ t152) ++ (⟨#[32]⟩ : ByteArray)).size + t153.size ≤ 9223372036854775807 then (if (((((((((x5 ++ t149) ++ (⟨#[32]⟩ : ByteArray)) ++ t150) ++ (⟨#[32]⟩ : ByteArray)) ++ t151) ++ (⟨#[32]⟩ : ByteArray)) ++ t152) ++ (⟨#[32]⟩ : ByteArray)) ++ t153).size + 1 ≤ 9223372036854775807 then ((gumshoeref09_num.f ((rd_T31 ((rd_T28 x0 x6).f1) x7).f6)).bind fun t154 => (if ((((((((((x5 ++ t149) ++ (⟨#[32]⟩ : ByteArray)) ++ t150) ++ (⟨#[32]⟩ : ByteArray)) ++ t151) ++ (⟨#[32]⟩ : ByteArray)) ++ t152) ++ (⟨#[32]⟩ : ByteArray)) ++ t153) ++ (⟨#[32]⟩ : ByteArray)).size + t154.size ≤ 9223372036854775807 then (gumshoeref09_Show.l2 k x0 (((((((((((x5 ++ t149) ++ (⟨#[32]⟩ : ByteArray)) ++ t150) ++ (⟨#[32]⟩ : ByteArray)) ++ t151) ++ (⟨#[32]⟩ : ByteArray)) ++ t152) ++ (⟨#[32]⟩ : ByteArray)) ++ t153) ++ (⟨#[32]⟩ : ByteArray)) ++ t154) x6 x7 0 ((rd_T31 ((rd_T28 x0 x6).f1) x7).f0) ((rd_T31 ((rd_T28 x0 x6).f1) x7).f1) ((rd_T31 ((rd_T28 x0 x6).f1) x7).f2) ((rd_T31 ((rd_T28 x0 x6).f1) x7).f3) ((rd_T31 ((rd_T28 x0 x6).f1) x7).f4) ((rd_T31 ((rd_T28 x0 x6).f1) x7).f5) ((rd_T31 ((rd_T28 x0 x6).f1) x7).f6) ((rd_T31 ((rd_T28 x0 x6).f1) x7).f7)) else (none))) else (none)) else (none))) else (none)) else (none))) else (none)) else (none))) else (none)) else (none))) else (none)) else (none))) else (none)) else (gumshoeref09_Show.l0 k x0 x5 (wrap64 (x6 + 1)))) else (none)) else (none)
def gumshoeref09_Show.l2 : Nat → List (S28) → ByteArray → Int → Int → Int → Int → Int → Int → Int → Int → ByteArray → Int → List Int → Option (ByteArray × Int)
 | 0, _, _, _, _, _, _, _, _, _, _, _, _, _ => none
 | k + 1, x0, x5, x6, x7, x9, x149000, x149001, x149002, x149003, x149004, x149005, x149006, x149007 => if x9 < (x149007.length : Int) then (if x5.size + 1 ≤ 9223372036854775807 then (if 0 ≤ x9 then ((gumshoeref09_num.f (rd x149007 x9)).bind fun t156 => (if (x5 ++ (⟨#[32]⟩ : ByteArray)).size + t156.size ≤ 9223372036854775807 then (gumshoeref09_Show.l2 k x0 ((x5 ++ (⟨#[32]⟩ : ByteArray)) ++ t156) x6 x7 (wrap64 (x9 + 1)) x149000 x149001 x149002 x149003 x149004 x149005 x149006 x149007) else (none))) else (none)) else (none)) else (if x5.size + 1 ≤ 9223372036854775807 then ((gumshoeref02_Quote.f k x149005).bind fun t157 => (if (x5 ++ (⟨#[32]⟩ : ByteArray)).size + t157.size ≤ 9223372036854775807 then (if ((x5 ++ (⟨#[32]⟩ : ByteArray)) ++ t157).size + 1 ≤ 9223372036854775807 then (gumshoeref09_Show.l1 k x0 (((x5 ++ (⟨#[32]⟩ : ByteArray)) ++ t157) ++ (⟨#[10]⟩ : ByteArray)) x6 (wrap64 (x7 + 1))) else (none)) else (none))) else (none))
end
def gumshoeref09_Show.f (k : Nat) (l0 : List (S28)) : Option (ByteArray × Int) := (gumshoeref09_Right.f k l0).bind fun t142 => (if t142 = true then (gumshoeref09_Show.l0 k l0 (⟨#[]⟩ : ByteArray) 0) else (some ((⟨#[]⟩ : ByteArray), 90)))
end Go.Proofs.YtjlhhjfmekjbhaaGreatDoor.Pq

namespace Go.Proofs.YtjlhhjfmekjbhaaGreatDoor.Pq
open Go.RowKit Go.Proofs.YtjlhhjfmekjbhaaGreatDoorW.PrintWords Go.Proofs.YtjlhhjfmekjbhaaGreatDoorW.PrintLast Go.Proofs.YtjlhhjfmekjbhaaGreatDoorW.PrintMore
set_option linter.unusedVariables false
set_option linter.unusedSimpArgs false
/-! ### gumshoeref09_sameIns: function 41 -/
def gumshoeref09_sameIns.l0 : Nat → Int → Int → Int → Int → Int → Int → ByteArray → Int → List Int → Int → Int → Int → Int → Int → ByteArray → Int → List Int → Option (Bool)
 | 0, _, _, _, _, _, _, _, _, _, _, _, _, _, _, _, _, _ => none
 | k + 1, x5, x159000, x159001, x159002, x159003, x159004, x159005, x159006, x159007, x160000, x160001, x160002, x160003, x160004, x160005, x160006, x160007 => if x5 < (x159007.length : Int) then (if 0 ≤ x5 then (if x5 < (x160007.length : Int) then (if (rd x159007 x5) = (rd x160007 x5) then (gumshoeref09_sameIns.l0 k (wrap64 (x5 + 1)) x159000 x159001 x159002 x159003 x159004 x159005 x159006 x159007 x160000 x160001 x160002 x160003 x160004 x160005 x160006 x160007) else (some false)) else (none)) else (none)) else (if x159000 = x160000 then (if x159001 = x160001 then (if x159002 = x160002 then (if x159003 = x160003 then (if x159004 = x160004 then (if x159005.toList = x160005.toList then (some (x159006 == x160006)) else (some false)) else (some false)) else (some false)) else (some false)) else (some false)) else (some false))
def gumshoeref09_sameIns.f (k : Nat) (a0_0 : Int) (a0_1 : Int) (a0_2 : Int) (a0_3 : Int) (a0_4 : Int) (a0_5 : ByteArray) (a0_6 : Int) (l0_7 : List Int) (a1_0 : Int) (a1_1 : Int) (a1_2 : Int) (a1_3 : Int) (a1_4 : Int) (a1_5 : ByteArray) (a1_6 : Int) (l1_7 : List Int) : Option (Bool) := if (l0_7.length : Int) = (l1_7.length : Int) then (gumshoeref09_sameIns.l0 k 0 a0_0 a0_1 a0_2 a0_3 a0_4 a0_5 a0_6 l0_7 a1_0 a1_1 a1_2 a1_3 a1_4 a1_5 a1_6 l1_7) else (some false)
end Go.Proofs.YtjlhhjfmekjbhaaGreatDoor.Pq

namespace Go.Proofs.YtjlhhjfmekjbhaaGreatDoor.Pq
open Go.RowKit Go.Proofs.YtjlhhjfmekjbhaaGreatDoorW.PrintWords Go.Proofs.YtjlhhjfmekjbhaaGreatDoorW.PrintLast Go.Proofs.YtjlhhjfmekjbhaaGreatDoorW.PrintMore
set_option linter.unusedVariables false
set_option linter.unusedSimpArgs false
/-! ### gumshoeref09_Same: function 20 -/
mutual
def gumshoeref09_Same.l0 : Nat → List (S28) → List (S28) → Int → Option (Bool)
 | 0, _, _, _ => none
 | k + 1, x0, x1, x5 => if x5 < (x0.length : Int) then (if 0 ≤ x5 then (if x5 < (x1.length : Int) then (if ((rd_T28 x0 x5).f0) = ((rd_T28 x1 x5).f0) then (gumshoeref09_Same.j1 k x0 x1 x5 ((((rd_T28 x0 x5).f1).length : Int) != (((rd_T28 x1 x5).f1).length : Int))) else (gumshoeref09_Same.j1 k x0 x1 x5 true)) else (none)) else (none)) else (some true)
def gumshoeref09_Same.j1 : Nat → List (S28) → List (S28) → Int → Bool → Option (Bool)
 | 0, _, _, _, _ => none
 | k + 1, x0, x1, x5, x43 => if x43 = true then (some false) else (gumshoeref09_Same.l1 k x0 x1 x5 0)
def gumshoeref09_Same.l1 : Nat → List (S28) → List (S28) → Int → Int → Option (Bool)
 | 0, _, _, _, _ => none
 | k + 1, x0, x1, x5, x6 => if 0 ≤ x5 then (if x5 < (x0.length : Int) then (if x6 < (((rd_T28 x0 x5).f1).length : Int) then (if 0 ≤ x6 then (if x5 < (x1.length : Int) then (if x6 < (((rd_T28 x1 x5).f1).length : Int) then ((gumshoeref09_sameIns.f k ((rd_T31 ((rd_T28 x0 x5).f1) x6).f0) ((rd_T31 ((rd_T28 x0 x5).f1) x6).f1) ((rd_T31 ((rd_T28 x0 x5).f1) x6).f2) ((rd_T31 ((rd_T28 x0 x5).f1) x6).f3) ((rd_T31 ((rd_T28 x0 x5).f1) x6).f4) ((rd_T31 ((rd_T28 x0 x5).f1) x6).f5) ((rd_T31 ((rd_T28 x0 x5).f1) x6).f6) ((rd_T31 ((rd_T28 x0 x5).f1) x6).f7) ((rd_T31 ((rd_T28 x1 x5).f1) x6).f0) ((rd_T31 ((rd_T28 x1 x5).f1) x6).f1) ((rd_T31 ((rd_T28 x1 x5).f1) x6).f2) ((rd_T31 ((rd_T28 x1 x5).f1) x6).f3) ((rd_T31 ((rd_T28 x1 x5).f1) x6).f4) ((rd_T31 ((rd_T28 x1 x5).f1) x6).f5) ((rd_T31 ((rd_T28 x1 x5).f1) x6).f6) ((rd_T31 ((rd_T28 x1 x5).f1) x6).f7)).bind fun t171 => (if t171 = true then (gumshoeref09_Same.l1 k x0 x1 x5 (wrap64 (x6 + 1))) else (some false))) else (none)) else (none)) else (none)) else (gumshoeref09_Same.l0 k x0 x1 (wrap64 (x5 + 1)))) else (none)) else (none)
end
def gumshoeref09_Same.f (k : Nat) (l0 : List (S28)) (l1 : List (S28)) : Option (Bool) := if (l0.length : Int) = (l1.length : Int) then (gumshoeref09_Same.l0 k l0 l1 0) else (some false)
end Go.Proofs.YtjlhhjfmekjbhaaGreatDoor.Pq

namespace Go.Proofs.YtjlhhjfmekjbhaaGreatDoor.Pq
open Go.RowKit Go.Proofs.YtjlhhjfmekjbhaaGreatDoorW.PrintWords Go.Proofs.YtjlhhjfmekjbhaaGreatDoorW.PrintLast Go.Proofs.YtjlhhjfmekjbhaaGreatDoorW.PrintMore
set_option linter.unusedVariables false
set_option linter.unusedSimpArgs false
/-! ### gumshoeref09_Marks: function 18 -/
mutual
def gumshoeref09_Marks.l0 : Nat → List (S28) → List Int → Int → Option (List Int)
 | 0, _, _, _ => none
 | k + 1, x0, x3, x4 => if x4 < (x0.length : Int) then (gumshoeref09_Marks.l1 k x0 x3 x4 0) else (some x3)
def gumshoeref09_Marks.l1 : Nat → List (S28) → List Int → Int → Int → Option (List Int)
 | 0, _, _, _, _ => none
 | k + 1, x0, x3, x4, x5 => if 0 ≤ x4 then (if x4 < (x0.length : Int) then (if x5 < (((rd_T28 x0 x4).f1).length : Int) then (if 0 ≤ x5 then (if ((rd_T31 ((rd_T28 x0 x4).f1) x5).f0) = 6 then (if x3.length < 17592186044416 then (gumshoeref09_Marks.l1 k x0 (x3 ++ [(rd_T31 ((rd_T28 x0 x4).f1) x5).f6]) x4 (wrap64 (x5 + 1))) else (none)) else (if ((rd_T31 ((rd_T28 x0 x4).f1) x5).f0) = 12 then (if x3.length < 17592186044416 then (gumshoeref09_Marks.l1 k x0 (x3 ++ [(rd_T31 ((rd_T28 x0 x4).f1) x5).f6]) x4 (wrap64 (x5 + 1))) else (none)) else (if ((rd_T31 ((rd_T28 x0 x4).f1) x5).f0) = 13 then (if x3.length < 17592186044416 then (gumshoeref09_Marks.l1 k x0 (x3 ++ [(rd_T31 ((rd_T28 x0 x4).f1) x5).f6]) x4 (wrap64 (x5 + 1))) else (none)) else (gumshoeref09_Marks.l1 k x0 x3 x4 (wrap64 (x5 + 1)))))) else (none)) else (gumshoeref09_Marks.l0 k x0 x3 (wrap64 (x4 + 1)))) else (none)) else (none)
end
def gumshoeref09_Marks.f (k : Nat) (l0 : List (S28)) : Option (List Int) := gumshoeref09_Marks.l0 k l0 ([] : List Int) 0
end Go.Proofs.YtjlhhjfmekjbhaaGreatDoor.Pq

namespace Go.Proofs.YtjlhhjfmekjbhaaGreatDoor.Pq
open Go.RowKit Go.Proofs.YtjlhhjfmekjbhaaGreatDoorW.PrintWords Go.Proofs.YtjlhhjfmekjbhaaGreatDoorW.PrintLast Go.Proofs.YtjlhhjfmekjbhaaGreatDoorW.PrintMore
set_option linter.unusedVariables false
set_option linter.unusedSimpArgs false
/-! ### gumshoelaw09_Small: function 11 -/
mutual
def gumshoelaw09_Small.l0 : Nat → List (S28) → Int → Option (Int)
 | 0, _, _ => none
 | k + 1, x0, x3 => if x3 < (x0.length : Int) then (if 0 ≤ x3 then (if (((rd_T28 x0 x3).f1).length : Int) > 60 then (some 0) else (gumshoelaw09_Small.l1 k x0 x3 0)) else (none)) else (some 1)
def gumshoelaw09_Small.l1 : Nat → List (S28) → Int → Int → Option (Int)
 | 0, _, _, _ => none
 | k + 1, x0, x3, x4 => if 0 ≤ x3 then (if x3 < (x0.length : Int) then (if x4 < (((rd_T28 x0 x3).f1).length : Int) then (if 0 ≤ x4 then (if (((rd_T31 ((rd_T28 x0 x3).f1) x4).f7).length : Int) > 20 then (some 0) else (if (((rd_T31 ((rd_T28 x0 x3).f1) x4).f5).size : Int) > 100 then (some 0) else (gumshoelaw09_Small.l1 k x0 x3 (wrap64 (x4 + 1))))) else (none)) else (gumshoelaw09_Small.l0 k x0 (wrap64 (x3 + 1)))) else (none)) else (none)
end
def gumshoelaw09_Small.f (k : Nat) (l0 : List (S28)) : Option (Int) := if (l0.length : Int) > 15 then (some 0) else (gumshoelaw09_Small.l0 k l0 0)
set_option maxHeartbeats 8000000 in
set_option maxRecDepth 100000 in
theorem gumshoelaw09_Small.calls (k : Nat) (A0 : Option Addr) (c0 : Nat) (l0 : List (S28)) (r : Int) (w : World) (hr0 : Kd.C k28 w A0 l0.length l0) (hc0 : l0.length ≤ c0) (h : gumshoelaw09_Small.f k l0 = some r) :
  Calls Tryz.prog 11 #[.slice A0 l0.length c0] w fun e w' => e = .returned (.int .i64 r) ∧ Drawn0 w w' := by
 have HR0 := Aside0.mk hr0
 have HC0 := Aside0.mk hc0
 clear hr0 hc0
 have H : (if (l0.length : Int) > 15 then (some 0) else (gumshoelaw09_Small.l0 k l0 0)) = some r := h
 clear h
 by_cases c2 : (l0.length : Int) > 15
 ·rw [if_pos c2] at H
  have c2b0 : decide (15 < (l0.length : Int)) = true := decide_eq_true c2
  have c2b1 : decide (15 < l0.length) = true := decide_eq_true (by omega)
  clear c2
  obtain rfl := Option.some.inj H
  go_enter Tryz.func11, Tryz.ntmps11
  go_wp2
  go_ret
  exact ⟨zR, by repeat (first | exact Drawn0.refl _ | apply Drawn0.step)⟩
 ·rw [if_neg c2] at H
  have c2b0 : decide (15 < (l0.length : Int)) = false := decide_eq_false c2
  have c2b1 : decide (15 < l0.length) = false := decide_eq_false (by omega)
  clear c2
  have H' := Aside0.mk H
  clear H
  go_enter Tryz.func11, Tryz.ntmps11
  go_wp2
  go_loopg [3] k (fun kq v3 w' => ∃ (x3_1 : Int), v3 = .int .i64 x3_1 ∧ Aside0 (gumshoelaw09_Small.l0 kq l0 x3_1 = some r) ∧ Aside0 (kq ≤ k) ∧ Drawn0 w w')
  case atStart => exact ⟨(0), zR, H', ⟨Nat.le_refl _⟩, by repeat (first | exact Drawn0.refl _ | apply Drawn0.step)⟩
  case round =>
   clear H'
   clear c2b0 c2b1
   obtain ⟨x3_1, rfl, HA, HK1, ⟨m1, rfl⟩⟩ := hrel
   cases gk with
   | zero => exact absurd HA.out (by simp [gumshoelaw09_Small.l0])
   | succ k1 =>
    have H := HA.out
    clear HA
    simp only [gumshoelaw09_Small.l0] at H
    by_cases c3 : x3_1 < (l0.length : Int)
    ·rw [if_pos c3] at H
     have c3b0 : decide (x3_1 < (l0.length : Int)) = true := decide_eq_true c3
     clear c3
     by_cases c4 : 0 ≤ x3_1
     ·rw [if_pos c4] at H
      have c4b0 : decide (0 ≤ x3_1) = true := decide_eq_true c4
      clear c4
      by_cases c5 : (((rd_T28 l0 x3_1).f1).length : Int) > 60
      ·rw [if_pos c5] at H
       have c5b0 : decide (60 < (((rd_T28 l0 x3_1).f1).length : Int)) = true := decide_eq_true c5
       have c5b1 : decide (60 < ((rd_T28 l0 x3_1).f1).length) = true := decide_eq_true (by omega)
       clear c5
       obtain rfl := Option.some.inj H
       have p185 : 0 ≤ (x3_1 : Int) := of_decide_eq_true zA
       have q185 : x3_1 < (l0.length : Int) := of_decide_eq_true zA
       obtain ⟨ad185, A185_1, c185_1, e185, hx185_0, hx185_1, hl185_1, hi185_1⟩ := at_T28 HR0.out x3_1 p185 q185
       cases e185
       have HR185_1 := Aside0.mk hi185_1
       have HC185_1 := Aside0.mk hl185_1
       clear hi185_1 hl185_1
       replace p185 := eq_true p185
       replace q185 := eq_true q185
       go_wp2
       go_ret
       exact ⟨zR, by repeat (first | exact Drawn0.refl _ | apply Drawn0.step)⟩
      ·rw [if_neg c5] at H
       have c5b0 : decide (60 < (((rd_T28 l0 x3_1).f1).length : Int)) = false := decide_eq_false c5
       have c5b1 : decide (60 < ((rd_T28 l0 x3_1).f1).length) = false := decide_eq_false (by omega)
       clear c5
       have H' := Aside0.mk H
       clear H
       have p185 : 0 ≤ (x3_1 : Int) := of_decide_eq_true zA
       have q185 : x3_1 < (l0.length : Int) := of_decide_eq_true zA
       obtain ⟨ad185, A185_1, c185_1, e185, hx185_0, hx185_1, hl185_1, hi185_1⟩ := at_T28 HR0.out x3_1 p185 q185
       cases e185
       have HR185_1 := Aside0.mk hi185_1
       have HC185_1 := Aside0.mk hl185_1
       clear hi185_1 hl185_1
       replace p185 := eq_true p185
       replace q185 := eq_true q185
       go_wp2
       go_loopg [4] k1 (fun kq v4 w' => ∃ (x4_2 : Int), v4 = .int .i64 x4_2 ∧ Aside0 (gumshoelaw09_Small.l1 kq l0 x3_1 x4_2 = some r) ∧ Aside0 (kq ≤ k1) ∧ Drawn0 w w')
       case atStart => exact ⟨(0), zR, H', ⟨Nat.le_refl _⟩, by repeat (first | exact Drawn0.refl _ | apply Drawn0.step)⟩
       case round =>
        clear H'
        clear c3b0 c4b0 c5b0 c5b1 hx185_0 hx185_1 p185 q185
        obtain ⟨x4_2, rfl, HA, HK2, ⟨m2, rfl⟩⟩ := hrel
        cases gk with
        | zero => exact absurd HA.out (by simp [gumshoelaw09_Small.l1])
        | succ k2 =>
         have H := HA.out
         clear HA
         simp only [gumshoelaw09_Small.l1] at H
         by_cases c6 : 0 ≤ x3_1
         ·rw [if_pos c6] at H
          have c6b0 : decide (0 ≤ x3_1) = true := decide_eq_true c6
          clear c6
          by_cases c7 : x3_1 < (l0.length : Int)
          ·rw [if_pos c7] at H
           have c7b0 : decide (x3_1 < (l0.length : Int)) = true := decide_eq_true c7
           clear c7
           by_cases c8 : x4_2 < (((rd_T28 l0 x3_1).f1).length : Int)
           ·rw [if_pos c8] at H
            have c8b0 : decide (x4_2 < (((rd_T28 l0 x3_1).f1).length : Int)) = true := decide_eq_true c8
            clear c8
            by_cases c9 : 0 ≤ x4_2
            ·rw [if_pos c9] at H
             have c9b0 : decide (0 ≤ x4_2) = true := decide_eq_true c9
             clear c9
             by_cases c10 : (((rd_T31 ((rd_T28 l0 x3_1).f1) x4_2).f7).length : Int) > 20
             ·rw [if_pos c10] at H
              have c10b0 : decide (20 < (((rd_T31 ((rd_T28 l0 x3_1).f1) x4_2).f7).length : Int)) = true := decide_eq_true c10
              have c10b1 : decide (20 < ((rd_T31 ((rd_T28 l0 x3_1).f1) x4_2).f7).length) = true := decide_eq_true (by omega)
              clear c10
              obtain rfl := Option.some.inj H
              have p186 : 0 ≤ (x3_1 : Int) := of_decide_eq_true zA
              have q186 : x3_1 < (l0.length : Int) := of_decide_eq_true zA
              obtain ⟨ad186, A186_1, c186_1, e186, hx186_0, hx186_1, hl186_1, hi186_1⟩ := at_T28 HR0.out x3_1 p186 q186
              obtain rfl : ad185 = ad186 := (by injection e186)
              have HR186_1 := Aside0.mk hi186_1
              have HC186_1 := Aside0.mk hl186_1
              clear hi186_1 hl186_1
              replace p186 := eq_true p186
              replace q186 := eq_true q186
              have p187 : 0 ≤ (x3_1 : Int) := of_decide_eq_true zA
              have q187 : x3_1 < (l0.length : Int) := of_decide_eq_true zA
              obtain ⟨ad187, A187_1, c187_1, e187, hx187_0, hx187_1, hl187_1, hi187_1⟩ := at_T28 HR0.out x3_1 p187 q187
              obtain rfl : ad185 = ad187 := (by injection e187)
              have HR187_1 := Aside0.mk hi187_1
              have HC187_1 := Aside0.mk hl187_1
              clear hi187_1 hl187_1
              replace p187 := eq_true p187
              replace q187 := eq_true q187
              have ea_ := Option.some.inj (hx186_1.symm.trans hx187_1)
              injection ea_ with ea_ en_ ec_
              subst ea_
              subst ec_
              clear en_
              have p188 : 0 ≤ (x4_2 : Int) := of_decide_eq_true zA
              have q188 : x4_2 < (((rd_T28 l0 x3_1).f1).length : Int) := of_decide_eq_true zA
              obtain ⟨ad188, A188_7, c188_7, e188, hx188_0, hx188_1, hx188_2, hx188_3, hx188_4, hx188_5, hx188_6, hx188_7, hl188_7, hi188_7⟩ := at_T31 HR187_1.out x4_2 p188 q188
              cases e188
              have HR188_7 := Aside0.mk hi188_7
              have HC188_7 := Aside0.mk hl188_7
              clear hi188_7 hl188_7
              replace p188 := eq_true p188
              replace q188 := eq_true q188
              go_wp2
              go_ret
              exact ⟨zR, by repeat (first | exact Drawn0.refl _ | apply Drawn0.step)⟩
             ·rw [if_neg c10] at H
              have c10b0 : decide (20 < (((rd_T31 ((rd_T28 l0 x3_1).f1) x4_2).f7).length : Int)) = false := decide_eq_false c10
              have c10b1 : decide (20 < ((rd_T31 ((rd_T28 l0 x3_1).f1) x4_2).f7).length) = false := decide_eq_false (by omega)
              clear c10
              by_cases c11 : (((rd_T31 ((rd_T28 l0 x3_1).f1) x4_2).f5).size : Int) > 100
              ·rw [if_pos c11] at H
               have c11b0 : decide (100 < (((rd_T31 ((rd_T28 l0 x3_1).f1) x4_2).f5).size : Int)) = true := decide_eq_true c11
               have c11b1 : decide (100 < ((rd_T31 ((rd_T28 l0 x3_1).f1) x4_2).f5).size) = true := decide_eq_true (by omega)
               clear c11
               obtain rfl := Option.some.inj H
               have p186 : 0 ≤ (x3_1 : Int) := of_decide_eq_true zA
               have q186 : x3_1 < (l0.length : Int) := of_decide_eq_true zA
               obtain ⟨ad186, A186_1, c186_1, e186, hx186_0, hx186_1, hl186_1, hi186_1⟩ := at_T28 HR0.out x3_1 p186 q186
               obtain rfl : ad185 = ad186 := (by injection e186)
               have HR186_1 := Aside0.mk hi186_1
               have HC186_1 := Aside0.mk hl186_1
               clear hi186_1 hl186_1
               replace p186 := eq_true p186
               replace q186 := eq_true q186
               have p187 : 0 ≤ (x3_1 : Int) := of_decide_eq_true zA
               have q187 : x3_1 < (l0.length : Int) := of_decide_eq_true zA
               obtain ⟨ad187, A187_1, c187_1, e187, hx187_0, hx187_1, hl187_1, hi187_1⟩ := at_T28 HR0.out x3_1 p187 q187
               obtain rfl : ad185 = ad187 := (by injection e187)
               have HR187_1 := Aside0.mk hi187_1
               have HC187_1 := Aside0.mk hl187_1
               clear hi187_1 hl187_1
               replace p187 := eq_true p187
               replace q187 := eq_true q187
               have ea_ := Option.some.inj (hx186_1.symm.trans hx187_1)
               injection ea_ with ea_ en_ ec_
               subst ea_
               subst ec_
               clear en_
               have p188 : 0 ≤ (x4_2 : Int) := of_decide_eq_true zA
               have q188 : x4_2 < (((rd_T28 l0 x3_1).f1).length : Int) := of_decide_eq_true zA
               obtain ⟨ad188, A188_7, c188_7, e188, hx188_0, hx188_1, hx188_2, hx188_3, hx188_4, hx188_5, hx188_6, hx188_7, hl188_7, hi188_7⟩ := at_T31 HR187_1.out x4_2 p188 q188
               cases e188
               have HR188_7 := Aside0.mk hi188_7
               have HC188_7 := Aside0.mk hl188_7
               clear hi188_7 hl188_7
               replace p188 := eq_true p188
               replace q188 := eq_true q188
               have p189 : 0 ≤ (x3_1 : Int) := of_decide_eq_true zA
               have q189 : x3_1 < (l0.length : Int) := of_decide_eq_true zA
               obtain ⟨ad189, A189_1, c189_1, e189, hx189_0, hx189_1, hl189_1, hi189_1⟩ := at_T28 HR0.out x3_1 p189 q189
               obtain rfl : ad185 = ad189 := (by injection e189)
               have HR189_1 := Aside0.mk hi189_1
               have HC189_1 := Aside0.mk hl189_1
               clear hi189_1 hl189_1
               replace p189 := eq_true p189
               replace q189 := eq_true q189
               have ea_ := Option.some.inj (hx186_1.symm.trans hx189_1)
               injection ea_ with ea_ en_ ec_
               subst ea_
               subst ec_
               clear en_
               have p190 : 0 ≤ (x4_2 : Int) := of_decide_eq_true zA
               have q190 : x4_2 < (((rd_T28 l0 x3_1).f1).length : Int) := of_decide_eq_true zA
               obtain ⟨ad190, A190_7, c190_7, e190, hx190_0, hx190_1, hx190_2, hx190_3, hx190_4, hx190_5, hx190_6, hx190_7, hl190_7, hi190_7⟩ := at_T31 HR189_1.out x4_2 p190 q190
               cases e190
               have HR190_7 := Aside0.mk hi190_7
               have HC190_7 := Aside0.mk hl190_7
               clear hi190_7 hl190_7
               replace p190 := eq_true p190
               replace q190 := eq_true q190
               go_wp2
               go_ret
               exact ⟨zR, by repeat (first | exact Drawn0.refl _ | apply Drawn0.step)⟩
              ·rw [if_neg c11] at H
               have c11b0 : decide (100 < (((rd_T31 ((rd_T28 l0 x3_1).f1) x4_2).f5).size : Int)) = false := decide_eq_false c11
               have c11b1 : decide (100 < ((rd_T31 ((rd_T28 l0 x3_1).f1) x4_2).f5).size) = false := decide_eq_false (by omega)
               clear c11
               have H' := Aside0.mk H
               clear H
               have p186 : 0 ≤ (x3_1 : Int) := of_decide_eq_true zA
               have q186 : x3_1 < (l0.length : Int) := of_decide_eq_true zA
               obtain ⟨ad186, A186_1, c186_1, e186, hx186_0, hx186_1, hl186_1, hi186_1⟩ := at_T28 HR0.out x3_1 p186 q186
               obtain rfl : ad185 = ad186 := (by injection e186)
               have HR186_1 := Aside0.mk hi186_1
               have HC186_1 := Aside0.mk hl186_1
               clear hi186_1 hl186_1
               replace p186 := eq_true p186
               replace q186 := eq_true q186
               have p187 : 0 ≤ (x3_1 : Int) := of_decide_eq_true zA
               have q187 : x3_1 < (l0.length : Int) := of_decide_eq_true zA
               obtain ⟨ad187, A187_1, c187_1, e187, hx187_0, hx187_1, hl187_1, hi187_1⟩ := at_T28 HR0.out x3_1 p187 q187
               obtain rfl : ad185 = ad187 := (by injection e187)
               have HR187_1 := Aside0.mk hi187_1
               have HC187_1 := Aside0.mk hl187_1
               clear hi187_1 hl187_1
               replace p187 := eq_true p187
               replace q187 := eq_true q187
               have ea_ := Option.some.inj (hx186_1.symm.trans hx187_1)
               injection ea_ with ea_ en_ ec_
               subst ea_
               subst ec_
               clear en_
               have p188 : 0 ≤ (x4_2 : Int) := of_decide_eq_true zA
               have q188 : x4_2 < (((rd_T28 l0 x3_1).f1).length : Int) := of_decide_eq_true zA
               obtain ⟨ad188, A188_7, c188_7, e188, hx188_0, hx188_1, hx188_2, hx188_3, hx188_4, hx188_5, hx188_6, hx188_7, hl188_7, hi188_7⟩ := at_T31 HR187_1.out x4_2 p188 q188
               cases e188
               have HR188_7 := Aside0.mk hi188_7
               have HC188_7 := Aside0.mk hl188_7
               clear hi188_7 hl188_7
               replace p188 := eq_true p188
               replace q188 := eq_true q188
               have p189 : 0 ≤ (x3_1 : Int) := of_decide_eq_true zA
               have q189 : x3_1 < (l0.length : Int) := of_decide_eq_true zA
               obtain ⟨ad189, A189_1, c189_1, e189, hx189_0, hx189_1, hl189_1, hi189_1⟩ := at_T28 HR0.out x3_1 p189 q189
               obtain rfl : ad185 = ad189 := (by injection e189)
               have HR189_1 := Aside0.mk hi189_1
               have HC189_1 := Aside0.mk hl189_1
               clear hi189_1 hl189_1
               replace p189 := eq_true p189
               replace q189 := eq_true q189
               have ea_ := Option.some.inj (hx186_1.symm.trans hx189_1)
               injection ea_ with ea_ en_ ec_
               subst ea_
               subst ec_
               clear en_
               have p190 : 0 ≤ (x4_2 : Int) := of_decide_eq_true zA
               have q190 : x4_2 < (((rd_T28 l0 x3_1).f1).length : Int) := of_decide_eq_true zA
               obtain ⟨ad190, A190_7, c190_7, e190, hx190_0, hx190_1, hx190_2, hx190_3, hx190_4, hx190_5, hx190_6, hx190_7, hl190_7, hi190_7⟩ := at_T31 HR189_1.out x4_2 p190 q190
               cases e190
               have HR190_7 := Aside0.mk hi190_7
               have HC190_7 := Aside0.mk hl190_7
               clear hi190_7 hl190_7
               replace p190 := eq_true p190
               replace q190 := eq_true q190
               go_wp2
               go_roundg k2
               case measure => have := HK1.out; have := HK2.out; omega
               case rel => exact ⟨(wrap64 (x4_2 + 1)), zR, H', ⟨by have := HK1.out; have := HK2.out; omega⟩, by repeat (first | exact Drawn0.refl _ | apply Drawn0.step)⟩
            ·rw [if_neg c9] at H
             exact absurd H (by simp)
           ·rw [if_neg c8] at H
            have c8b0 : decide (x4_2 < (((rd_T28 l0 x3_1).f1).length : Int)) = false := decide_eq_false c8
            clear c8
            have H' := Aside0.mk H
            clear H
            have p186 : 0 ≤ (x3_1 : Int) := of_decide_eq_true zA
            have q186 : x3_1 < (l0.length : Int) := of_decide_eq_true zA
            obtain ⟨ad186, A186_1, c186_1, e186, hx186_0, hx186_1, hl186_1, hi186_1⟩ := at_T28 HR0.out x3_1 p186 q186
            obtain rfl : ad185 = ad186 := (by injection e186)
            have HR186_1 := Aside0.mk hi186_1
            have HC186_1 := Aside0.mk hl186_1
            clear hi186_1 hl186_1
            replace p186 := eq_true p186
            replace q186 := eq_true q186
            go_wp2
            go_roundg k2
            case measure => have := HK1.out; have := HK2.out; omega
            case rel => exact ⟨(wrap64 (x3_1 + 1)), zR, H', ⟨by have := HK1.out; have := HK2.out; omega⟩, by repeat (first | exact Drawn0.refl _ | apply Drawn0.step)⟩
          ·rw [if_neg c7] at H
           exact absurd H (by simp)
         ·rw [if_neg c6] at H
          exact absurd H (by simp)
     ·rw [if_neg c4] at H
      exact absurd H (by simp)
    ·rw [if_neg c3] at H
     have c3b0 : decide (x3_1 < (l0.length : Int)) = false := decide_eq_false c3
     clear c3
     obtain rfl := Option.some.inj H
     go_wp2
     go_ret
     exact ⟨zR, by repeat (first | exact Drawn0.refl _ | apply Drawn0.step)⟩
end Go.Proofs.YtjlhhjfmekjbhaaGreatDoor.Pq

namespace Go.Proofs.YtjlhhjfmekjbhaaGreatDoor.Pq
open Go.RowKit Go.Proofs.YtjlhhjfmekjbhaaGreatDoorW.PrintWords Go.Proofs.YtjlhhjfmekjbhaaGreatDoorW.PrintLast Go.Proofs.YtjlhhjfmekjbhaaGreatDoorW.PrintMore
set_option linter.unusedVariables false
set_option linter.unusedSimpArgs false
/-! ### gumshoeref01_Same: function 16 -/
def gumshoeref01_Same.l0 : Nat → List Int → List Int → Int → Option (Bool)
 | 0, _, _, _ => none
 | k + 1, x0, x1, x5 => if x5 < (x0.length : Int) then (if 0 ≤ x5 then (if x5 < (x1.length : Int) then (if (rd x0 x5) = (rd x1 x5) then (gumshoeref01_Same.l0 k x0 x1 (wrap64 (x5 + 1))) else (some false)) else (none)) else (none)) else (some true)
def gumshoeref01_Same.f (k : Nat) (l0 : List Int) (l1 : List Int) : Option (Bool) := if (l0.length : Int) = (l1.length : Int) then (gumshoeref01_Same.l0 k l0 l1 0) else (some false)
end Go.Proofs.YtjlhhjfmekjbhaaGreatDoor.Pq

namespace Go.Proofs.YtjlhhjfmekjbhaaGreatDoor.Pq
open Go.RowKit Go.Proofs.YtjlhhjfmekjbhaaGreatDoorW.PrintWords Go.Proofs.YtjlhhjfmekjbhaaGreatDoorW.PrintLast Go.Proofs.YtjlhhjfmekjbhaaGreatDoorW.PrintMore
set_option linter.unusedVariables false
set_option linter.unusedSimpArgs false
/-! ### code_isReg: function 50 -/
def code_isReg.f (a0 : Int) (a1_0 : Int) (l1_1 : List (S31)) (a1_2 : Int) : Option (Bool) := if a0 ≥ 0 then (some (decide (a0 < a1_0))) else (some false)
set_option maxHeartbeats 8000000 in
set_option maxRecDepth 100000 in
theorem code_isReg.calls (a0 : Int) (a1_0 : Int) (A1_1 : Option Addr) (c1_1 : Nat) (l1_1 : List (S31)) (a1_2 : Int) (r : Bool) (w : World) (hr1_1 : Kd.C k31 w A1_1 l1_1.length l1_1) (hc1_1 : l1_1.length ≤ c1_1) (h : code_isReg.f a0 a1_0 l1_1 a1_2 = some r) :
  Calls Tryz.prog 50 #[.int .i64 a0, .agg #[.int .i64 a1_0, .slice A1_1 l1_1.length c1_1, .int .i64 a1_2]] w fun e w' => e = .returned (.bool r) ∧ Below w.heap.size w w' := by
 have hu49 := Tryz.underlying49
 have HR1_1 := Aside0.mk hr1_1
 have HC1_1 := Aside0.mk hc1_1
 clear hr1_1 hc1_1
 have HB := Aside0.mk (Below.refl w.heap.size w)
 have H : (if a0 ≥ 0 then (some (decide (a0 < a1_0))) else (some false)) = some r := h
 clear h
 by_cases c3 : a0 ≥ 0
 ·rw [if_pos c3] at H
  have c3b0 : decide (0 ≤ a0) = true := decide_eq_true c3
  clear c3
  obtain rfl := Option.some.inj H
  go_enter Tryz.func50, Tryz.ntmps50
  go_wp2_with (first | ((with_reducible refine gate_dst (N := 3) rfl ?_); refine zX (N := 3) (cs := #[.int .i64 a1_0, .slice A1_1 l1_1.length c1_1, .int .i64 a1_2]) (t := 49) (h := ?_); intro gb193 hg w4 hbox hb; have BK193 := Aside0.mk hbox; have GW193 := Aside0.mk ((zS : w.heap.size ≤ gb193)); have GE193 := Aside0.mk ((zS : w.heap.size ≤ gb193)); replace HB := Aside0.mk (below_step zB hb); clear hb hbox hg; obtain ⟨hcz5_0, hcz5_1, hcz5_2, hfz5_0, hfz5_1, hfz5_2⟩ := zd3 BK193.out (.int .i64 a1_0) (.slice A1_1 l1_1.length c1_1) (.int .i64 a1_2)))
  go_ret
  exact ⟨zE, zG⟩
 ·rw [if_neg c3] at H
  have c3b0 : decide (0 ≤ a0) = false := decide_eq_false c3
  clear c3
  obtain rfl := Option.some.inj H
  go_enter Tryz.func50, Tryz.ntmps50
  go_wp2_with (first | ((with_reducible refine gate_dst (N := 3) rfl ?_); refine zX (N := 3) (cs := #[.int .i64 a1_0, .slice A1_1 l1_1.length c1_1, .int .i64 a1_2]) (t := 49) (h := ?_); intro gb193 hg w6 hbox hb; have BK193 := Aside0.mk hbox; have GW193 := Aside0.mk ((zS : w.heap.size ≤ gb193)); have GE193 := Aside0.mk ((zS : w.heap.size ≤ gb193)); replace HB := Aside0.mk (below_step zB hb); clear hb hbox hg))
  go_ret
  exact ⟨zE, zG⟩
/-! ### code_namesD: function 46 -/
def code_namesD.f (a0_0 : Int) (a0_1 : Int) (a0_2 : Int) (a0_3 : Int) (a0_4 : Int) (a0_5 : ByteArray) (a0_6 : Int) (l0_7 : List Int) (a1_0 : Int) (l1_1 : List (S31)) (a1_2 : Int) : Option (Bool) := (code_isReg.f a0_1 a1_0 l1_1 a1_2).bind fun t196 => (some t196)
set_option maxHeartbeats 8000000 in
set_option maxRecDepth 100000 in
theorem code_namesD.calls (a0_0 : Int) (a0_1 : Int) (a0_2 : Int) (a0_3 : Int) (a0_4 : Int) (a0_5 : ByteArray) (a0_6 : Int) (A0_7 : Option Addr) (c0_7 : Nat) (l0_7 : List Int) (a1_0 : Int) (A1_1 : Option Addr) (c1_1 : Nat) (l1_1 : List (S31)) (a1_2 : Int) (r : Bool) (w : World) (hr0_7 : Kd.C (Kd.int .i64) w A0_7 l0_7.length l0_7) (hc0_7 : l0_7.length ≤ c0_7) (hr1_1 : Kd.C k31 w A1_1 l1_1.length l1_1) (hc1_1 : l1_1.length ≤ c1_1) (h : code_namesD.f a0_0 a0_1 a0_2 a0_3 a0_4 a0_5 a0_6 l0_7 a1_0 l1_1 a1_2 = some r) :
  Calls Tryz.prog 46 #[.agg #[.int .i64 a0_0, .int .i64 a0_1, .int .i64 a0_2, .int .i64 a0_3, .int .i64 a0_4, .string a0_5, .int .i64 a0_6, .slice A0_7 l0_7.length c0_7], .agg #[.int .i64 a1_0, .slice A1_1 l1_1.length c1_1, .int .i64 a1_2]] w fun e w' => e = .returned (.bool r) ∧ Below w.heap.size w w' := by
 have hu31 := Tryz.underlying31
 have hu49 := Tryz.underlying49
 have HR0_7 := Aside0.mk hr0_7
 have HC0_7 := Aside0.mk hc0_7
 clear hr0_7 hc0_7
 have HR1_1 := Aside0.mk hr1_1
 have HC1_1 := Aside0.mk hc1_1
 clear hr1_1 hc1_1
 have HB := Aside0.mk (Below.refl w.heap.size w)
 have H : ((code_isReg.f a0_1 a1_0 l1_1 a1_2).bind fun t196 => (some t196)) = some r := h
 clear h
 obtain ⟨t196, A3, H⟩ := zO H
 obtain rfl := Option.some.inj H
 go_enter Tryz.func46, Tryz.ntmps46
 go_wp2_with (first | ((with_reducible refine gate_dst (N := 2) rfl ?_); refine zX (N := 2) (cs := #[.int .i64 a0_0, .int .i64 a0_1, .int .i64 a0_2, .int .i64 a0_3, .int .i64 a0_4, .string a0_5, .int .i64 a0_6, .slice A0_7 l0_7.length c0_7]) (t := 31) (h := ?_); intro gb194 hg w4 hbox hb; have BK194 := Aside0.mk hbox; have GW194 := Aside0.mk ((zS : w.heap.size ≤ gb194)); have GE194 := Aside0.mk ((zS : w.heap.size ≤ gb194)); replace HB := Aside0.mk (below_step zB hb); clear hb hbox hg) | ((with_reducible refine gate_dst (N := 3) rfl ?_); refine zX (N := 3) (cs := #[.int .i64 a1_0, .slice A1_1 l1_1.length c1_1, .int .i64 a1_2]) (t := 49) (h := ?_); intro gb195 hg w5 hbox hb; have BK195 := Aside0.mk hbox; have GW195 := Aside0.mk ((zT : w.heap.size ≤ gb195)); have GE195 := Aside0.mk ((zT : w.heap.size ≤ gb195)); have NB194_195 := Aside0.mk ((zL : gb194 ≠ gb195)); have NB195_194 := Aside0.mk ((zM : gb195 ≠ gb194)); replace BK194 := Aside0.mk (blk_below (g := gb194) zK hb); replace HB := Aside0.mk (below_step zG hb); clear hb hbox hg; have hnb6 := NB194_195.out; have hnc6 := NB195_194.out; obtain ⟨hcz7_0, hcz7_1, hcz7_2, hcz7_3, hcz7_4, hcz7_5, hcz7_6, hcz7_7, hfz7_0, hfz7_1, hfz7_2, hfz7_3, hfz7_4, hfz7_5, hfz7_6, hfz7_7⟩ := zd8 BK194.out (.int .i64 a0_0) (.int .i64 a0_1) (.int .i64 a0_2) (.int .i64 a0_3) (.int .i64 a0_4) (.string a0_5) (.int .i64 a0_6) (.slice A0_7 l0_7.length c0_7); obtain ⟨hcz8_0, hcz8_1, hcz8_2, hfz8_0, hfz8_1, hfz8_2⟩ := zd3 BK195.out (.int .i64 a1_0) (.slice A1_1 l1_1.length c1_1) (.int .i64 a1_2)) | ((with_reducible refine gate_callee (f := 50) rfl ?_); refine goesL_ (some 8) rfl rfl Tryz.func50 (by kernel_rfl) rfl #[.int .i64 a0_1, .agg #[.int .i64 a1_0, .slice A1_1 l1_1.length c1_1, .int .i64 a1_2]] rfl zP ?_; (with_reducible refine (code_isReg.calls a0_1 a1_0 _ _ l1_1 a1_2 t196 _ ?side1 ?side2 A3.out).mono ?_); (case side1 => repeat (first | exact (Kd.C_below HR1_1.out HB.out) | (with_reducible refine Kd.C_alloc ?_ _) | (with_reducible refine Kd.C_drewN ?_ _) | (with_reducible refine Kd.C_drew ?_))); (case side2 => exact HC1_1.out); rintro e w9 ⟨rfl, hb⟩; refine ⟨_, rfl, ?_⟩; replace BK194 := Aside0.mk (blk_below (g := gb194) zK hb); replace BK195 := Aside0.mk (blk_below (g := gb195) zK hb); replace HB := Aside0.mk (below_step zG hb); (try clear hb)))
 go_ret
 exact ⟨zE, zG⟩
/-! ### code_namesA: function 48 -/
def code_namesA.f (a0_0 : Int) (a0_1 : Int) (a0_2 : Int) (a0_3 : Int) (a0_4 : Int) (a0_5 : ByteArray) (a0_6 : Int) (l0_7 : List Int) (a1_0 : Int) (l1_1 : List (S31)) (a1_2 : Int) : Option (Bool) := (code_isReg.f a0_2 a1_0 l1_1 a1_2).bind fun t199 => (some t199)
set_option maxHeartbeats 8000000 in
set_option maxRecDepth 100000 in
theorem code_namesA.calls (a0_0 : Int) (a0_1 : Int) (a0_2 : Int) (a0_3 : Int) (a0_4 : Int) (a0_5 : ByteArray) (a0_6 : Int) (A0_7 : Option Addr) (c0_7 : Nat) (l0_7 : List Int) (a1_0 : Int) (A1_1 : Option Addr) (c1_1 : Nat) (l1_1 : List (S31)) (a1_2 : Int) (r : Bool) (w : World) (hr0_7 : Kd.C (Kd.int .i64) w A0_7 l0_7.length l0_7) (hc0_7 : l0_7.length ≤ c0_7) (hr1_1 : Kd.C k31 w A1_1 l1_1.length l1_1) (hc1_1 : l1_1.length ≤ c1_1) (h : code_namesA.f a0_0 a0_1 a0_2 a0_3 a0_4 a0_5 a0_6 l0_7 a1_0 l1_1 a1_2 = some r) :
  Calls Tryz.prog 48 #[.agg #[.int .i64 a0_0, .int .i64 a0_1, .int .i64 a0_2, .int .i64 a0_3, .int .i64 a0_4, .string a0_5, .int .i64 a0_6, .slice A0_7 l0_7.length c0_7], .agg #[.int .i64 a1_0, .slice A1_1 l1_1.length c1_1, .int .i64 a1_2]] w fun e w' => e = .returned (.bool r) ∧ Below w.heap.size w w' := by
 have hu31 := Tryz.underlying31
 have hu49 := Tryz.underlying49
 have HR0_7 := Aside0.mk hr0_7
 have HC0_7 := Aside0.mk hc0_7
 clear hr0_7 hc0_7
 have HR1_1 := Aside0.mk hr1_1
 have HC1_1 := Aside0.mk hc1_1
 clear hr1_1 hc1_1
 have HB := Aside0.mk (Below.refl w.heap.size w)
 have H : ((code_isReg.f a0_2 a1_0 l1_1 a1_2).bind fun t199 => (some t199)) = some r := h
 clear h
 obtain ⟨t199, A3, H⟩ := zO H
 obtain rfl := Option.some.inj H
 go_enter Tryz.func48, Tryz.ntmps48
 go_wp2_with (first | ((with_reducible refine gate_dst (N := 2) rfl ?_); refine zX (N := 2) (cs := #[.int .i64 a0_0, .int .i64 a0_1, .int .i64 a0_2, .int .i64 a0_3, .int .i64 a0_4, .string a0_5, .int .i64 a0_6, .slice A0_7 l0_7.length c0_7]) (t := 31) (h := ?_); intro gb197 hg w4 hbox hb; have BK197 := Aside0.mk hbox; have GW197 := Aside0.mk ((zS : w.heap.size ≤ gb197)); have GE197 := Aside0.mk ((zS : w.heap.size ≤ gb197)); replace HB := Aside0.mk (below_step zB hb); clear hb hbox hg) | ((with_reducible refine gate_dst (N := 3) rfl ?_); refine zX (N := 3) (cs := #[.int .i64 a1_0, .slice A1_1 l1_1.length c1_1, .int .i64 a1_2]) (t := 49) (h := ?_); intro gb198 hg w5 hbox hb; have BK198 := Aside0.mk hbox; have GW198 := Aside0.mk ((zT : w.heap.size ≤ gb198)); have GE198 := Aside0.mk ((zT : w.heap.size ≤ gb198)); have NB197_198 := Aside0.mk ((zL : gb197 ≠ gb198)); have NB198_197 := Aside0.mk ((zM : gb198 ≠ gb197)); replace BK197 := Aside0.mk (blk_below (g := gb197) zK hb); replace HB := Aside0.mk (below_step zG hb); clear hb hbox hg; have hnb6 := NB197_198.out; have hnc6 := NB198_197.out; obtain ⟨hcz7_0, hcz7_1, hcz7_2, hcz7_3, hcz7_4, hcz7_5, hcz7_6, hcz7_7, hfz7_0, hfz7_1, hfz7_2, hfz7_3, hfz7_4, hfz7_5, hfz7_6, hfz7_7⟩ := zd8 BK197.out (.int .i64 a0_0) (.int .i64 a0_1) (.int .i64 a0_2) (.int .i64 a0_3) (.int .i64 a0_4) (.string a0_5) (.int .i64 a0_6) (.slice A0_7 l0_7.length c0_7); obtain ⟨hcz8_0, hcz8_1, hcz8_2, hfz8_0, hfz8_1, hfz8_2⟩ := zd3 BK198.out (.int .i64 a1_0) (.slice A1_1 l1_1.length c1_1) (.int .i64 a1_2)) | ((with_reducible refine gate_callee (f := 50) rfl ?_); refine goesL_ (some 8) rfl rfl Tryz.func50 (by kernel_rfl) rfl #[.int .i64 a0_2, .agg #[.int .i64 a1_0, .slice A1_1 l1_1.length c1_1, .int .i64 a1_2]] rfl zP ?_; (with_reducible refine (code_isReg.calls a0_2 a1_0 _ _ l1_1 a1_2 t199 _ ?side1 ?side2 A3.out).mono ?_); (case side1 => repeat (first | exact (Kd.C_below HR1_1.out HB.out) | (with_reducible refine Kd.C_alloc ?_ _) | (with_reducible refine Kd.C_drewN ?_ _) | (with_reducible refine Kd.C_drew ?_))); (case side2 => exact HC1_1.out); rintro e w9 ⟨rfl, hb⟩; refine ⟨_, rfl, ?_⟩; replace BK197 := Aside0.mk (blk_below (g := gb197) zK hb); replace BK198 := Aside0.mk (blk_below (g := gb198) zK hb); replace HB := Aside0.mk (below_step zG hb); (try clear hb)))
 go_ret
 exact ⟨zE, zG⟩
end Go.Proofs.YtjlhhjfmekjbhaaGreatDoor.Pq

namespace Go.Proofs.YtjlhhjfmekjbhaaGreatDoor.Pq
open Go.RowKit Go.Proofs.YtjlhhjfmekjbhaaGreatDoorW.PrintWords Go.Proofs.YtjlhhjfmekjbhaaGreatDoorW.PrintLast Go.Proofs.YtjlhhjfmekjbhaaGreatDoorW.PrintMore
set_option linter.unusedVariables false
set_option linter.unusedSimpArgs false
/-! ### code_namesB: function 54 -/
def code_namesB.f (a0_0 : Int) (a0_1 : Int) (a0_2 : Int) (a0_3 : Int) (a0_4 : Int) (a0_5 : ByteArray) (a0_6 : Int) (l0_7 : List Int) (a1_0 : Int) (l1_1 : List (S31)) (a1_2 : Int) : Option (Bool) := (code_isReg.f a0_3 a1_0 l1_1 a1_2).bind fun t202 => (some t202)
set_option maxHeartbeats 8000000 in
set_option maxRecDepth 100000 in
theorem code_namesB.calls (a0_0 : Int) (a0_1 : Int) (a0_2 : Int) (a0_3 : Int) (a0_4 : Int) (a0_5 : ByteArray) (a0_6 : Int) (A0_7 : Option Addr) (c0_7 : Nat) (l0_7 : List Int) (a1_0 : Int) (A1_1 : Option Addr) (c1_1 : Nat) (l1_1 : List (S31)) (a1_2 : Int) (r : Bool) (w : World) (hr0_7 : Kd.C (Kd.int .i64) w A0_7 l0_7.length l0_7) (hc0_7 : l0_7.length ≤ c0_7) (hr1_1 : Kd.C k31 w A1_1 l1_1.length l1_1) (hc1_1 : l1_1.length ≤ c1_1) (h : code_namesB.f a0_0 a0_1 a0_2 a0_3 a0_4 a0_5 a0_6 l0_7 a1_0 l1_1 a1_2 = some r) :
  Calls Tryz.prog 54 #[.agg #[.int .i64 a0_0, .int .i64 a0_1, .int .i64 a0_2, .int .i64 a0_3, .int .i64 a0_4, .string a0_5, .int .i64 a0_6, .slice A0_7 l0_7.length c0_7], .agg #[.int .i64 a1_0, .slice A1_1 l1_1.length c1_1, .int .i64 a1_2]] w fun e w' => e = .returned (.bool r) ∧ Below w.heap.size w w' := by
 have hu31 := Tryz.underlying31
 have hu49 := Tryz.underlying49
 have HR0_7 := Aside0.mk hr0_7
 have HC0_7 := Aside0.mk hc0_7
 clear hr0_7 hc0_7
 have HR1_1 := Aside0.mk hr1_1
 have HC1_1 := Aside0.mk hc1_1
 clear hr1_1 hc1_1
 have HB := Aside0.mk (Below.refl w.heap.size w)
 have H : ((code_isReg.f a0_3 a1_0 l1_1 a1_2).bind fun t202 => (some t202)) = some r := h
 clear h
 obtain ⟨t202, A3, H⟩ := zO H
 obtain rfl := Option.some.inj H
 go_enter Tryz.func54, Tryz.ntmps54
 go_wp2_with (first | ((with_reducible refine gate_dst (N := 2) rfl ?_); refine zX (N := 2) (cs := #[.int .i64 a0_0, .int .i64 a0_1, .int .i64 a0_2, .int .i64 a0_3, .int .i64 a0_4, .string a0_5, .int .i64 a0_6, .slice A0_7 l0_7.length c0_7]) (t := 31) (h := ?_); intro gb200 hg w4 hbox hb; have BK200 := Aside0.mk hbox; have GW200 := Aside0.mk ((zS : w.heap.size ≤ gb200)); have GE200 := Aside0.mk ((zS : w.heap.size ≤ gb200)); replace HB := Aside0.mk (below_step zB hb); clear hb hbox hg) | ((with_reducible refine gate_dst (N := 3) rfl ?_); refine zX (N := 3) (cs := #[.int .i64 a1_0, .slice A1_1 l1_1.length c1_1, .int .i64 a1_2]) (t := 49) (h := ?_); intro gb201 hg w5 hbox hb; have BK201 := Aside0.mk hbox; have GW201 := Aside0.mk ((zT : w.heap.size ≤ gb201)); have GE201 := Aside0.mk ((zT : w.heap.size ≤ gb201)); have NB200_201 := Aside0.mk ((zL : gb200 ≠ gb201)); have NB201_200 := Aside0.mk ((zM : gb201 ≠ gb200)); replace BK200 := Aside0.mk (blk_below (g := gb200) zK hb); replace HB := Aside0.mk (below_step zG hb); clear hb hbox hg; have hnb6 := NB200_201.out; have hnc6 := NB201_200.out; obtain ⟨hcz7_0, hcz7_1, hcz7_2, hcz7_3, hcz7_4, hcz7_5, hcz7_6, hcz7_7, hfz7_0, hfz7_1, hfz7_2, hfz7_3, hfz7_4, hfz7_5, hfz7_6, hfz7_7⟩ := zd8 BK200.out (.int .i64 a0_0) (.int .i64 a0_1) (.int .i64 a0_2) (.int .i64 a0_3) (.int .i64 a0_4) (.string a0_5) (.int .i64 a0_6) (.slice A0_7 l0_7.length c0_7); obtain ⟨hcz8_0, hcz8_1, hcz8_2, hfz8_0, hfz8_1, hfz8_2⟩ := zd3 BK201.out (.int .i64 a1_0) (.slice A1_1 l1_1.length c1_1) (.int .i64 a1_2)) | ((with_reducible refine gate_callee (f := 50) rfl ?_); refine goesL_ (some 8) rfl rfl Tryz.func50 (by kernel_rfl) rfl #[.int .i64 a0_3, .agg #[.int .i64 a1_0, .slice A1_1 l1_1.length c1_1, .int .i64 a1_2]] rfl zP ?_; (with_reducible refine (code_isReg.calls a0_3 a1_0 _ _ l1_1 a1_2 t202 _ ?side1 ?side2 A3.out).mono ?_); (case side1 => repeat (first | exact (Kd.C_below HR1_1.out HB.out) | (with_reducible refine Kd.C_alloc ?_ _) | (with_reducible refine Kd.C_drewN ?_ _) | (with_reducible refine Kd.C_drew ?_))); (case side2 => exact HC1_1.out); rintro e w9 ⟨rfl, hb⟩; refine ⟨_, rfl, ?_⟩; replace BK200 := Aside0.mk (blk_below (g := gb200) zK hb); replace BK201 := Aside0.mk (blk_below (g := gb201) zK hb); replace HB := Aside0.mk (below_step zG hb); (try clear hb)))
 go_ret
 exact ⟨zE, zG⟩
/-! ### code_namesC: function 56 -/
def code_namesC.f (a0_0 : Int) (a0_1 : Int) (a0_2 : Int) (a0_3 : Int) (a0_4 : Int) (a0_5 : ByteArray) (a0_6 : Int) (l0_7 : List Int) (a1_0 : Int) (l1_1 : List (S31)) (a1_2 : Int) : Option (Bool) := (code_isReg.f a0_4 a1_0 l1_1 a1_2).bind fun t205 => (some t205)
set_option maxHeartbeats 8000000 in
set_option maxRecDepth 100000 in
theorem code_namesC.calls (a0_0 : Int) (a0_1 : Int) (a0_2 : Int) (a0_3 : Int) (a0_4 : Int) (a0_5 : ByteArray) (a0_6 : Int) (A0_7 : Option Addr) (c0_7 : Nat) (l0_7 : List Int) (a1_0 : Int) (A1_1 : Option Addr) (c1_1 : Nat) (l1_1 : List (S31)) (a1_2 : Int) (r : Bool) (w : World) (hr0_7 : Kd.C (Kd.int .i64) w A0_7 l0_7.length l0_7) (hc0_7 : l0_7.length ≤ c0_7) (hr1_1 : Kd.C k31 w A1_1 l1_1.length l1_1) (hc1_1 : l1_1.length ≤ c1_1) (h : code_namesC.f a0_0 a0_1 a0_2 a0_3 a0_4 a0_5 a0_6 l0_7 a1_0 l1_1 a1_2 = some r) :
  Calls Tryz.prog 56 #[.agg #[.int .i64 a0_0, .int .i64 a0_1, .int .i64 a0_2, .int .i64 a0_3, .int .i64 a0_4, .string a0_5, .int .i64 a0_6, .slice A0_7 l0_7.length c0_7], .agg #[.int .i64 a1_0, .slice A1_1 l1_1.length c1_1, .int .i64 a1_2]] w fun e w' => e = .returned (.bool r) ∧ Below w.heap.size w w' := by
 have hu31 := Tryz.underlying31
 have hu49 := Tryz.underlying49
 have HR0_7 := Aside0.mk hr0_7
 have HC0_7 := Aside0.mk hc0_7
 clear hr0_7 hc0_7
 have HR1_1 := Aside0.mk hr1_1
 have HC1_1 := Aside0.mk hc1_1
 clear hr1_1 hc1_1
 have HB := Aside0.mk (Below.refl w.heap.size w)
 have H : ((code_isReg.f a0_4 a1_0 l1_1 a1_2).bind fun t205 => (some t205)) = some r := h
 clear h
 obtain ⟨t205, A3, H⟩ := zO H
 obtain rfl := Option.some.inj H
 go_enter Tryz.func56, Tryz.ntmps56
 go_wp2_with (first | ((with_reducible refine gate_dst (N := 2) rfl ?_); refine zX (N := 2) (cs := #[.int .i64 a0_0, .int .i64 a0_1, .int .i64 a0_2, .int .i64 a0_3, .int .i64 a0_4, .string a0_5, .int .i64 a0_6, .slice A0_7 l0_7.length c0_7]) (t := 31) (h := ?_); intro gb203 hg w4 hbox hb; have BK203 := Aside0.mk hbox; have GW203 := Aside0.mk ((zS : w.heap.size ≤ gb203)); have GE203 := Aside0.mk ((zS : w.heap.size ≤ gb203)); replace HB := Aside0.mk (below_step zB hb); clear hb hbox hg) | ((with_reducible refine gate_dst (N := 3) rfl ?_); refine zX (N := 3) (cs := #[.int .i64 a1_0, .slice A1_1 l1_1.length c1_1, .int .i64 a1_2]) (t := 49) (h := ?_); intro gb204 hg w5 hbox hb; have BK204 := Aside0.mk hbox; have GW204 := Aside0.mk ((zT : w.heap.size ≤ gb204)); have GE204 := Aside0.mk ((zT : w.heap.size ≤ gb204)); have NB203_204 := Aside0.mk ((zL : gb203 ≠ gb204)); have NB204_203 := Aside0.mk ((zM : gb204 ≠ gb203)); replace BK203 := Aside0.mk (blk_below (g := gb203) zK hb); replace HB := Aside0.mk (below_step zG hb); clear hb hbox hg; have hnb6 := NB203_204.out; have hnc6 := NB204_203.out; obtain ⟨hcz7_0, hcz7_1, hcz7_2, hcz7_3, hcz7_4, hcz7_5, hcz7_6, hcz7_7, hfz7_0, hfz7_1, hfz7_2, hfz7_3, hfz7_4, hfz7_5, hfz7_6, hfz7_7⟩ := zd8 BK203.out (.int .i64 a0_0) (.int .i64 a0_1) (.int .i64 a0_2) (.int .i64 a0_3) (.int .i64 a0_4) (.string a0_5) (.int .i64 a0_6) (.slice A0_7 l0_7.length c0_7); obtain ⟨hcz8_0, hcz8_1, hcz8_2, hfz8_0, hfz8_1, hfz8_2⟩ := zd3 BK204.out (.int .i64 a1_0) (.slice A1_1 l1_1.length c1_1) (.int .i64 a1_2)) | ((with_reducible refine gate_callee (f := 50) rfl ?_); refine goesL_ (some 8) rfl rfl Tryz.func50 (by kernel_rfl) rfl #[.int .i64 a0_4, .agg #[.int .i64 a1_0, .slice A1_1 l1_1.length c1_1, .int .i64 a1_2]] rfl zP ?_; (with_reducible refine (code_isReg.calls a0_4 a1_0 _ _ l1_1 a1_2 t205 _ ?side1 ?side2 A3.out).mono ?_); (case side1 => repeat (first | exact (Kd.C_below HR1_1.out HB.out) | (with_reducible refine Kd.C_alloc ?_ _) | (with_reducible refine Kd.C_drewN ?_ _) | (with_reducible refine Kd.C_drew ?_))); (case side2 => exact HC1_1.out); rintro e w9 ⟨rfl, hb⟩; refine ⟨_, rfl, ?_⟩; replace BK203 := Aside0.mk (blk_below (g := gb203) zK hb); replace BK204 := Aside0.mk (blk_below (g := gb204) zK hb); replace HB := Aside0.mk (below_step zG hb); (try clear hb)))
 go_ret
 exact ⟨zE, zG⟩
end Go.Proofs.YtjlhhjfmekjbhaaGreatDoor.Pq

namespace Go.Proofs.YtjlhhjfmekjbhaaGreatDoor.Pq
open Go.RowKit Go.Proofs.YtjlhhjfmekjbhaaGreatDoorW.PrintWords Go.Proofs.YtjlhhjfmekjbhaaGreatDoorW.PrintLast Go.Proofs.YtjlhhjfmekjbhaaGreatDoorW.PrintMore
set_option linter.unusedVariables false
set_option linter.unusedSimpArgs false
/-! ### code_isBlank: function 71 -/
def code_isBlank.f (a0_0 : Int) (a0_1 : Int) (a0_2 : Int) (a0_3 : Int) (a0_4 : Int) (a0_5 : ByteArray) (a0_6 : Int) (l0_7 : List Int) : Option (Bool) := if a0_1 = 0 then (if a0_2 = 0 then (if a0_3 = 0 then (if a0_4 = 0 then (if a0_5.toList = ([] : List UInt8) then (if a0_6 = 0 then (some ((l0_7.length : Int) == 0)) else (some false)) else (some false)) else (some false)) else (some false)) else (some false)) else (some false)
end Go.Proofs.YtjlhhjfmekjbhaaGreatDoor.Pq

namespace Go.Proofs.YtjlhhjfmekjbhaaGreatDoor.Pq
open Go.RowKit Go.Proofs.YtjlhhjfmekjbhaaGreatDoorW.PrintWords Go.Proofs.YtjlhhjfmekjbhaaGreatDoorW.PrintLast Go.Proofs.YtjlhhjfmekjbhaaGreatDoorW.PrintMore
set_option linter.unusedVariables false
set_option linter.unusedSimpArgs false
def IsS31 (w0 W : World) (g : Nat) (f0 : Int) (f1 : Int) (f2 : Int) (f3 : Int) (f4 : Int) (f5 : ByteArray) (f6 : Int) (f7 : List Int) : Prop := ∃ A7 c7, W.heap[g]? = some (.cells #[.int .i64 f0, .int .i64 f1, .int .i64 f2, .int .i64 f3, .int .i64 f4, .string f5, .int .i64 f6, .slice A7 f7.length c7] 31 (0, 0)) ∧ w0.heap.size ≤ g ∧ Kd.C (Kd.int .i64) w0 A7 f7.length f7
theorem IsS31.grown {w0 W : World} {g : Nat} {f0 : Int} {f1 : Int} {f2 : Int} {f3 : Int} {f4 : Int} {f5 : ByteArray} {f6 : Int} {f7 : List Int} {W1 : World} {row : Option Nat} (h : IsS31 w0 W g f0 f1 f2 f3 f4 f5 f6 f7) (hw : W.grownBy W1 row) (hne : some g ≠ row) : IsS31 w0 W1 g f0 f1 f2 f3 f4 f5 f6 f7 := by
 obtain ⟨A7, c7, hb, hg, hr7⟩ := h
 exact ⟨A7, c7, blk_grown hb hw hne, hg, hr7⟩
theorem IsS31.below {w0 W : World} {g : Nat} {f0 : Int} {f1 : Int} {f2 : Int} {f3 : Int} {f4 : Int} {f5 : ByteArray} {f6 : Int} {f7 : List Int} {W1 : World} (h : IsS31 w0 W g f0 f1 f2 f3 f4 f5 f6 f7) (hw : Below W.heap.size W W1) : IsS31 w0 W1 g f0 f1 f2 f3 f4 f5 f6 f7 := h.grown (grown_of_below hw none) (by simp)
theorem IsS31.ge {w0 W : World} {g : Nat} {f0 : Int} {f1 : Int} {f2 : Int} {f3 : Int} {f4 : Int} {f5 : ByteArray} {f6 : Int} {f7 : List Int} (h : IsS31 w0 W g f0 f1 f2 f3 f4 f5 f6 f7) : w0.heap.size ≤ g := by
 obtain ⟨A7, c7, hb, hg, hr7⟩ := h
 exact hg
theorem cellS31_0 {W : World} {g : Nat} {A7 : Option Addr} {c7 : Nat} {f0 : Int} {f1 : Int} {f2 : Int} {f3 : Int} {f4 : Int} {f5 : ByteArray} {f6 : Int} {f7 : List Int} (h : W.heap[g]? = some (.cells #[.int .i64 f0, .int .i64 f1, .int .i64 f2, .int .i64 f3, .int .i64 f4, .string f5, .int .i64 f6, .slice A7 f7.length c7] 31 (0, 0))) : W.cell? ⟨g, 0, none⟩ = some (.int .i64 f0) := (blk_cell h 0).trans rfl
theorem cellS31_1 {W : World} {g : Nat} {A7 : Option Addr} {c7 : Nat} {f0 : Int} {f1 : Int} {f2 : Int} {f3 : Int} {f4 : Int} {f5 : ByteArray} {f6 : Int} {f7 : List Int} (h : W.heap[g]? = some (.cells #[.int .i64 f0, .int .i64 f1, .int .i64 f2, .int .i64 f3, .int .i64 f4, .string f5, .int .i64 f6, .slice A7 f7.length c7] 31 (0, 0))) : W.cell? ⟨g, 1, none⟩ = some (.int .i64 f1) := (blk_cell h 1).trans rfl
theorem IsS31.set_1 {w0 W : World} {g : Nat} {f0 : Int} {f1 : Int} {f2 : Int} {f3 : Int} {f4 : Int} {f5 : ByteArray} {f6 : Int} {f7 : List Int} (h : IsS31 w0 W g f0 f1 f2 f3 f4 f5 f6 f7) (x : Int) : IsS31 w0 (W.setCell ⟨g, 1, none⟩ (.int .i64 x)) g f0 x f2 f3 f4 f5 f6 f7 := by
 obtain ⟨A7, c7, hb, hg, hr7⟩ := h
 exact ⟨A7, c7, by simpa using blk_set hb 1 (.int .i64 x), hg, hr7⟩
theorem cellS31_2 {W : World} {g : Nat} {A7 : Option Addr} {c7 : Nat} {f0 : Int} {f1 : Int} {f2 : Int} {f3 : Int} {f4 : Int} {f5 : ByteArray} {f6 : Int} {f7 : List Int} (h : W.heap[g]? = some (.cells #[.int .i64 f0, .int .i64 f1, .int .i64 f2, .int .i64 f3, .int .i64 f4, .string f5, .int .i64 f6, .slice A7 f7.length c7] 31 (0, 0))) : W.cell? ⟨g, 2, none⟩ = some (.int .i64 f2) := (blk_cell h 2).trans rfl
theorem IsS31.set_2 {w0 W : World} {g : Nat} {f0 : Int} {f1 : Int} {f2 : Int} {f3 : Int} {f4 : Int} {f5 : ByteArray} {f6 : Int} {f7 : List Int} (h : IsS31 w0 W g f0 f1 f2 f3 f4 f5 f6 f7) (x : Int) : IsS31 w0 (W.setCell ⟨g, 2, none⟩ (.int .i64 x)) g f0 f1 x f3 f4 f5 f6 f7 := by
 obtain ⟨A7, c7, hb, hg, hr7⟩ := h
 exact ⟨A7, c7, by simpa using blk_set hb 2 (.int .i64 x), hg, hr7⟩
theorem cellS31_3 {W : World} {g : Nat} {A7 : Option Addr} {c7 : Nat} {f0 : Int} {f1 : Int} {f2 : Int} {f3 : Int} {f4 : Int} {f5 : ByteArray} {f6 : Int} {f7 : List Int} (h : W.heap[g]? = some (.cells #[.int .i64 f0, .int .i64 f1, .int .i64 f2, .int .i64 f3, .int .i64 f4, .string f5, .int .i64 f6, .slice A7 f7.length c7] 31 (0, 0))) : W.cell? ⟨g, 3, none⟩ = some (.int .i64 f3) := (blk_cell h 3).trans rfl
theorem IsS31.set_3 {w0 W : World} {g : Nat} {f0 : Int} {f1 : Int} {f2 : Int} {f3 : Int} {f4 : Int} {f5 : ByteArray} {f6 : Int} {f7 : List Int} (h : IsS31 w0 W g f0 f1 f2 f3 f4 f5 f6 f7) (x : Int) : IsS31 w0 (W.setCell ⟨g, 3, none⟩ (.int .i64 x)) g f0 f1 f2 x f4 f5 f6 f7 := by
 obtain ⟨A7, c7, hb, hg, hr7⟩ := h
 exact ⟨A7, c7, by simpa using blk_set hb 3 (.int .i64 x), hg, hr7⟩
theorem cellS31_4 {W : World} {g : Nat} {A7 : Option Addr} {c7 : Nat} {f0 : Int} {f1 : Int} {f2 : Int} {f3 : Int} {f4 : Int} {f5 : ByteArray} {f6 : Int} {f7 : List Int} (h : W.heap[g]? = some (.cells #[.int .i64 f0, .int .i64 f1, .int .i64 f2, .int .i64 f3, .int .i64 f4, .string f5, .int .i64 f6, .slice A7 f7.length c7] 31 (0, 0))) : W.cell? ⟨g, 4, none⟩ = some (.int .i64 f4) := (blk_cell h 4).trans rfl
theorem IsS31.set_4 {w0 W : World} {g : Nat} {f0 : Int} {f1 : Int} {f2 : Int} {f3 : Int} {f4 : Int} {f5 : ByteArray} {f6 : Int} {f7 : List Int} (h : IsS31 w0 W g f0 f1 f2 f3 f4 f5 f6 f7) (x : Int) : IsS31 w0 (W.setCell ⟨g, 4, none⟩ (.int .i64 x)) g f0 f1 f2 f3 x f5 f6 f7 := by
 obtain ⟨A7, c7, hb, hg, hr7⟩ := h
 exact ⟨A7, c7, by simpa using blk_set hb 4 (.int .i64 x), hg, hr7⟩
theorem cellS31_5 {W : World} {g : Nat} {A7 : Option Addr} {c7 : Nat} {f0 : Int} {f1 : Int} {f2 : Int} {f3 : Int} {f4 : Int} {f5 : ByteArray} {f6 : Int} {f7 : List Int} (h : W.heap[g]? = some (.cells #[.int .i64 f0, .int .i64 f1, .int .i64 f2, .int .i64 f3, .int .i64 f4, .string f5, .int .i64 f6, .slice A7 f7.length c7] 31 (0, 0))) : W.cell? ⟨g, 5, none⟩ = some (.string f5) := (blk_cell h 5).trans rfl
theorem IsS31.set_5 {w0 W : World} {g : Nat} {f0 : Int} {f1 : Int} {f2 : Int} {f3 : Int} {f4 : Int} {f5 : ByteArray} {f6 : Int} {f7 : List Int} (h : IsS31 w0 W g f0 f1 f2 f3 f4 f5 f6 f7) (x : ByteArray) : IsS31 w0 (W.setCell ⟨g, 5, none⟩ (.string x)) g f0 f1 f2 f3 f4 x f6 f7 := by
 obtain ⟨A7, c7, hb, hg, hr7⟩ := h
 exact ⟨A7, c7, by simpa using blk_set hb 5 (.string x), hg, hr7⟩
theorem cellS31_6 {W : World} {g : Nat} {A7 : Option Addr} {c7 : Nat} {f0 : Int} {f1 : Int} {f2 : Int} {f3 : Int} {f4 : Int} {f5 : ByteArray} {f6 : Int} {f7 : List Int} (h : W.heap[g]? = some (.cells #[.int .i64 f0, .int .i64 f1, .int .i64 f2, .int .i64 f3, .int .i64 f4, .string f5, .int .i64 f6, .slice A7 f7.length c7] 31 (0, 0))) : W.cell? ⟨g, 6, none⟩ = some (.int .i64 f6) := (blk_cell h 6).trans rfl
theorem IsS31.set_6 {w0 W : World} {g : Nat} {f0 : Int} {f1 : Int} {f2 : Int} {f3 : Int} {f4 : Int} {f5 : ByteArray} {f6 : Int} {f7 : List Int} (h : IsS31 w0 W g f0 f1 f2 f3 f4 f5 f6 f7) (x : Int) : IsS31 w0 (W.setCell ⟨g, 6, none⟩ (.int .i64 x)) g f0 f1 f2 f3 f4 f5 x f7 := by
 obtain ⟨A7, c7, hb, hg, hr7⟩ := h
 exact ⟨A7, c7, by simpa using blk_set hb 6 (.int .i64 x), hg, hr7⟩
theorem cellS31_7 {W : World} {g : Nat} {A7 : Option Addr} {c7 : Nat} {f0 : Int} {f1 : Int} {f2 : Int} {f3 : Int} {f4 : Int} {f5 : ByteArray} {f6 : Int} {f7 : List Int} (h : W.heap[g]? = some (.cells #[.int .i64 f0, .int .i64 f1, .int .i64 f2, .int .i64 f3, .int .i64 f4, .string f5, .int .i64 f6, .slice A7 f7.length c7] 31 (0, 0))) : W.cell? ⟨g, 7, none⟩ = some (.slice A7 f7.length c7) := (blk_cell h 7).trans rfl
/-! ### code_parts_1: function 42 -/
def code_parts_1.f (s0_0 : Int) (s0_1 : Int) (s0_2 : Int) (s0_3 : Int) (s0_4 : Int) (s0_5 : ByteArray) (s0_6 : Int) (s0_7 : List Int) : Option (Int × Int × Int × Int × Int × ByteArray × Int) := some (s0_0, s0_1, 0, s0_3, s0_4, s0_5, s0_6)
set_option maxHeartbeats 8000000 in
set_option maxRecDepth 100000 in
theorem code_parts_1.calls (g : Nat) (s0_0 : Int) (s0_1 : Int) (s0_2 : Int) (s0_3 : Int) (s0_4 : Int) (s0_5 : ByteArray) (s0_6 : Int) (s0_7 : List Int) (r1 : Int) (r2 : Int) (r3 : Int) (r4 : Int) (r5 : Int) (r6 : ByteArray) (r7 : Int) (w0 w : World) (hI : IsS31 w0 w g s0_0 s0_1 s0_2 s0_3 s0_4 s0_5 s0_6 s0_7) (hB : Below w0.heap.size w0 w) (h : code_parts_1.f s0_0 s0_1 s0_2 s0_3 s0_4 s0_5 s0_6 s0_7 = some (r1, r2, r3, r4, r5, r6, r7)) :
  Calls Tryz.prog 42 #[.pointer (some ⟨g, 0, none⟩)] w fun e w' => e = .returned (.tuple #[]) ∧ IsS31 w0 w' g r1 r2 r3 r4 r5 r6 r7 s0_7 ∧ Below w0.heap.size w0 w' ∧ KeepBut w w' g none := by
 have HI0 := Aside0.mk hI
 have HK := Aside0.mk (KeepBut.refl w g none)
 have HL := Aside0.mk hB.size
 clear hI
 have HW0 := Aside0.mk hB.size
 have HB := Aside0.mk hB
 clear hB
 have H : (some (s0_0, s0_1, 0, s0_3, s0_4, s0_5, s0_6)) = some (r1, r2, r3, r4, r5, r6, r7) := h
 clear h
 simp only [Option.some.injEq, Prod.mk.injEq] at H
 obtain ⟨rfl, rfl, rfl, rfl, rfl, rfl, rfl⟩ := H
 obtain ⟨ASz2_7, cSz2_7, HGz2, hgz2, HSz2_7⟩ := HI0.out
 have hcz2_0 := cellS31_0 HGz2
 have hcz2_1 := cellS31_1 HGz2
 have hcz2_2 := cellS31_2 HGz2
 have hcz2_3 := cellS31_3 HGz2
 have hcz2_4 := cellS31_4 HGz2
 have hcz2_5 := cellS31_5 HGz2
 have hcz2_6 := cellS31_6 HGz2
 have hcz2_7 := cellS31_7 HGz2
 have hfz2_0 := blk_frozen HGz2 0
 have hfz2_1 := blk_frozen HGz2 1
 have hfz2_2 := blk_frozen HGz2 2
 have hfz2_3 := blk_frozen HGz2 3
 have hfz2_4 := blk_frozen HGz2 4
 have hfz2_5 := blk_frozen HGz2 5
 have hfz2_6 := blk_frozen HGz2 6
 clear HGz2 hgz2
 go_enter Tryz.func42, Tryz.ntmps42
 go_wp2
 first | go_end0 | ((try simp only [Exit.inBlock, Exit.then]); refine bodyPost_ret (results_none rfl _ _ _) rfl ?_)
 exact ⟨zE, by repeat (first | (with_reducible first | exact HI0.out | apply IsS31.alloc | apply IsS31.drewN | apply IsS31.drew | apply IsS31.set_0 | apply IsS31.set_1 | apply IsS31.set_2 | apply IsS31.set_3 | apply IsS31.set_4 | apply IsS31.set_5 | apply IsS31.set_6) | exact HI0.out), by repeat (first | (with_reducible first | exact HB.out | apply below_alloc | apply pw_below_drewN | apply below_drew1 | refine below_set ?_ (IsS31.ge HI0.out)) | exact HB.out), by repeat (first | (with_reducible first | exact HK.out | apply KeepBut.set_ | apply keep_drewN | apply keep_drew | apply keep_alloc) | exact HK.out)⟩
end Go.Proofs.YtjlhhjfmekjbhaaGreatDoor.Pq

