/- Lemmas for the claims of this seat (own texts, packed; what the claims do not use is left out). No condition. -/
import Derived.Maps.OwnSet
import Derived.Maps.Views
import Derived.StringKeys
import Derived.Test.YtjlhhjfmekjbhaaGreatDoorMg0
import Derived.Test.YtjlhhjfmekjbhaaGreatDoorMg1
import Derived.Test.YtjlhhjfmekjbhaaGreatDoorMg2
namespace Go.Proofs.YtjlhhjfmekjbhaaGreatDoor.Pr
open Go.RowKit Go.Proofs.YtjlhhjfmekjbhaaGreatDoorW.PrintWords Go.Proofs.YtjlhhjfmekjbhaaGreatDoorW.PrintLast Go.Proofs.YtjlhhjfmekjbhaaGreatDoorW.PrintMore
set_option linter.unusedVariables false
set_option linter.unusedSimpArgs false
attribute [local go_sem high] eqA83
/-! ### value_Right: function 52 -/
mutual
def value_Right.j4 : Nat → Int → Int → ByteArray → Int → Int → ByteArray → Option (Bool)
  | 0, _, _, _, _, _, _ => none
  | k + 1, x168000, x168001, x168002, x169000, x169001, x169002 => some (x168000 == x169000 && (x168001 == x169001 && (x168002.toList == x169002.toList)))
def value_Right.j3 : Nat → Int → Int → ByteArray → Int → Int → ByteArray → Option (Bool)
  | 0, _, _, _, _, _, _ => none
  | k + 1, x168000, x168001, x168002, x169000, x169001, x169002 => value_Right.j4 k x168000 x168001 x168002 x169000 x168001 x169002
def value_Right.j2 : Nat → Bool → Int → Int → ByteArray → Int → Int → ByteArray → Option (Bool)
  | 0, _, _, _, _, _, _, _ => none
  | k + 1, x29, x168000, x168001, x168002, x169000, x169001, x169002 => if x29 = true then (some false) else (value_Right.j3 k x168000 x168001 x168002 x169000 x169001 x169002)
def value_Right.j0 : Nat → Int → Bool → Int → Int → ByteArray → Int → Int → ByteArray → Option (Bool)
  | 0, _, _, _, _, _, _, _, _ => none
  | k + 1, x8, x13, x168000, x168001, x168002, x169000, x169001, x169002 => if x13 = true then (value_Right.j3 k x168000 x168001 x168002 x169000 x169001 x169002) else (if x8 = 0 then (value_Right.j1 k (x8 == 0) x168000 x168001 x168002 x169000 x169001 x169002) else (value_Right.j1 k (x8 == 1) x168000 x168001 x168002 x169000 x169001 x169002))
def value_Right.j1 : Nat → Bool → Int → Int → ByteArray → Int → Int → ByteArray → Option (Bool)
  | 0, _, _, _, _, _, _, _ => none
  | k + 1, x16, x168000, x168001, x168002, x169000, x169001, x169002 => if x16 = true then (value_Right.j4 k x168000 x168001 x168002 x169000 x169001 x169002) else (some false)
end
def value_Right.f (k : Nat) (a0_0 : Int) (a0_1 : Int) (a0_2 : ByteArray) : Option (Bool) := if a0_0 = 4 then (value_Right.j4 k a0_0 a0_1 a0_2 a0_0 0 a0_2) else (if a0_0 = 2 then (if a0_1 < 0 then (value_Right.j2 k true a0_0 a0_1 a0_2 a0_0 0 (⟨#[]⟩ : ByteArray)) else (value_Right.j2 k (decide (a0_1 > 1)) a0_0 a0_1 a0_2 a0_0 0 (⟨#[]⟩ : ByteArray))) else (if a0_0 = 3 then (value_Right.j0 k a0_0 (a0_0 == 3) a0_0 a0_1 a0_2 a0_0 0 (⟨#[]⟩ : ByteArray)) else (value_Right.j0 k a0_0 (a0_0 == 5) a0_0 a0_1 a0_2 a0_0 0 (⟨#[]⟩ : ByteArray))))
set_option maxHeartbeats 8000000 in
set_option maxRecDepth 100000 in
theorem value_Right.calls (k : Nat) (a0_0 : Int) (a0_1 : Int) (a0_2 : ByteArray) (r : Bool) (w : World) (h : value_Right.f k a0_0 a0_1 a0_2 = some r) :
    Calls Tryz.prog 52 #[.agg #[.int .i64 a0_0, .int .i64 a0_1, .string a0_2]] w fun e w' => e = .returned (.bool r) ∧ Below w.heap.size w w' := by
  have hu83 := Tryz.underlying83
  have HB := Aside0.mk (Below.refl w.heap.size w)
  have H : (if a0_0 = 4 then (value_Right.j4 k a0_0 a0_1 a0_2 a0_0 0 a0_2) else (if a0_0 = 2 then (if a0_1 < 0 then (value_Right.j2 k true a0_0 a0_1 a0_2 a0_0 0 (⟨#[]⟩ : ByteArray)) else (value_Right.j2 k (decide (a0_1 > 1)) a0_0 a0_1 a0_2 a0_0 0 (⟨#[]⟩ : ByteArray))) else (if a0_0 = 3 then (value_Right.j0 k a0_0 (a0_0 == 3) a0_0 a0_1 a0_2 a0_0 0 (⟨#[]⟩ : ByteArray)) else (value_Right.j0 k a0_0 (a0_0 == 5) a0_0 a0_1 a0_2 a0_0 0 (⟨#[]⟩ : ByteArray))))) = some r := h
  clear h
  have HC2 := Aside0.mk H
  clear H
  go_enter Tryz.func52, Tryz.ntmps52
  go_upto_block 0 with (first | ((with_reducible refine gate_dst (N := 1) rfl ?_); refine zX (N := 1) (cs := #[.int .i64 a0_0, .int .i64 a0_1, .string a0_2]) (t := 83) (h := ?_); intro gb167 hg w3 hbox hb; have BK167 := Aside0.mk hbox; have GW167 := Aside0.mk ((zS : w.heap.size ≤ gb167)); have GE167 := Aside0.mk ((zS : w.heap.size ≤ gb167)); replace HB := Aside0.mk (below_step zB hb); clear hb hbox hg; obtain ⟨hcz4_0, hcz4_1, hcz4_2, hfz4_0, hfz4_1, hfz4_2⟩ := zd3 BK167.out (.int .i64 a0_0) (.int .i64 a0_1) (.string a0_2)) | ((with_reducible refine gate_dst (N := 3) rfl ?_); refine zX (N := 3) (cs := #[.int .i64 0, .int .i64 0, .string (⟨#[]⟩ : ByteArray)]) (t := 83) (h := ?_); intro gb168 hg w5 hbox hb; have BK168 := Aside0.mk hbox; have GW168 := Aside0.mk ((zT : w.heap.size ≤ gb168)); have GE168 := Aside0.mk ((zT : w.heap.size ≤ gb168)); have NB167_168 := Aside0.mk ((zL : gb167 ≠ gb168)); have NB168_167 := Aside0.mk ((zM : gb168 ≠ gb167)); replace BK167 := Aside0.mk (blk_below (g := gb167) zK hb); replace HB := Aside0.mk (below_step zG hb); clear hb hbox hg; have hnb6 := NB168_167.out; have hnc6 := NB167_168.out; obtain ⟨hcz7_0, hcz7_1, hcz7_2, hfz7_0, hfz7_1, hfz7_2⟩ := zd3 BK168.out (.int .i64 0) (.int .i64 0) (.string (⟨#[]⟩ : ByteArray)); obtain ⟨hcz8_0, hcz8_1, hcz8_2, hfz8_0, hfz8_1, hfz8_2⟩ := zd3 BK167.out (.int .i64 a0_0) (.int .i64 a0_1) (.string a0_2)))
  (try simp only [Act.put, List.setIfInBounds_toArray, List.set_cons_zero, List.set_cons_succ])
  go_cut [] (fun wc => ∃ (kq : Nat) (x169001_1 : Int) (x169002_1 : ByteArray), Aside0 (value_Right.j4 kq a0_0 a0_1 a0_2 a0_0 x169001_1 x169002_1 = some r) ∧ Aside0 (kq ≤ k) ∧ Aside0 (wc.heap[gb167]? = some (.cells #[.int .i64 a0_0, .int .i64 a0_1, .string a0_2] 83 (0, 0))) ∧ Aside0 (wc.heap[gb168]? = some (.cells #[.int .i64 a0_0, .int .i64 x169001_1, .string x169002_1] 83 (0, 0))) ∧ Aside0 (Below w.heap.size w wc))
  case first =>
    have H := HC2.out
    clear HC2
    have HC9 := Aside0.mk H
    clear H
    go_upto_block 3 with (fail)
    go_cut [] (fun wc => ∃ (kq : Nat) (x169002_8 : ByteArray), Aside0 (value_Right.j3 kq a0_0 a0_1 a0_2 a0_0 0 x169002_8 = some r) ∧ Aside0 (kq ≤ k) ∧ Aside0 (wc.heap[gb167]? = some (.cells #[.int .i64 a0_0, .int .i64 a0_1, .string a0_2] 83 (0, 0))) ∧ Aside0 (wc.heap[gb168]? = some (.cells #[.int .i64 a0_0, .int .i64 0, .string x169002_8] 83 (0, 0))) ∧ Aside0 (Below w.heap.size w wc))
    case first =>
      have H := HC9.out
      clear HC9
      by_cases c10 : a0_0 = 4
      · rw [if_pos c10] at H
        have c10b0 : (a0_0 == 4) = true := beq_iff_eq.mpr c10
        have c10b1 : (a0_0 != 4) = false := bne_eq_false_iff_eq.mpr c10
        clear c10
        (first | rw [c10b0] | (simp only [i64_w, i32_w]; rw [c10b0]) | skip)
        have H' := Aside0.mk H
        clear H
        have hnb11 := NB167_168.out
        have hnc11 := NB168_167.out
        obtain ⟨hcz12_0, hcz12_1, hcz12_2, hfz12_0, hfz12_1, hfz12_2⟩ := zd3 BK167.out (.int .i64 a0_0) (.int .i64 a0_1) (.string a0_2)
        obtain ⟨hcz13_0, hcz13_1, hcz13_2, hfz13_0, hfz13_1, hfz13_2⟩ := zd3 BK168.out (.int .i64 0) (.int .i64 0) (.string (⟨#[]⟩ : ByteArray))
        go_wp2
        go_meet
        case rel => exact ⟨_, (0), (a0_2), H', ⟨by first | omega | exact Nat.le_refl _⟩, ⟨by (with_reducible repeat (first | refine blk_drewN ?_ _ | refine blk_drew ?_ | refine blk_alloc ?_ _)); refine blk_far ?_ NB167_168.out _; (with_reducible repeat (first | refine blk_drewN ?_ _ | refine blk_drew ?_ | refine blk_alloc ?_ _)); refine blk_far ?_ NB167_168.out _; (with_reducible repeat (first | refine blk_drewN ?_ _ | refine blk_drew ?_ | refine blk_alloc ?_ _)); refine blk_far ?_ NB167_168.out _; (with_reducible repeat (first | refine blk_drewN ?_ _ | refine blk_drew ?_ | refine blk_alloc ?_ _)); refine blk_far ?_ NB167_168.out _; (with_reducible repeat (first | refine blk_drewN ?_ _ | refine blk_drew ?_ | refine blk_alloc ?_ _)); exact BK167.out⟩, ⟨by (with_reducible repeat (first | refine blk_drewN ?_ _ | refine blk_drew ?_ | refine blk_alloc ?_ _)); refine blk_put (cs := #[.int .i64 a0_0, .int .i64 0, .string (⟨#[]⟩ : ByteArray)]) ?_ 2 _ rfl; (with_reducible repeat (first | refine blk_drewN ?_ _ | refine blk_drew ?_ | refine blk_alloc ?_ _)); refine blk_put (cs := #[.int .i64 a0_0, .int .i64 0, .string (⟨#[]⟩ : ByteArray)]) ?_ 2 _ rfl; (with_reducible repeat (first | refine blk_drewN ?_ _ | refine blk_drew ?_ | refine blk_alloc ?_ _)); refine blk_put (cs := #[.int .i64 a0_0, .int .i64 0, .string (⟨#[]⟩ : ByteArray)]) ?_ 1 _ rfl; (with_reducible repeat (first | refine blk_drewN ?_ _ | refine blk_drew ?_ | refine blk_alloc ?_ _)); refine blk_put (cs := #[.int .i64 0, .int .i64 0, .string (⟨#[]⟩ : ByteArray)]) ?_ 0 _ rfl; (with_reducible repeat (first | refine blk_drewN ?_ _ | refine blk_drew ?_ | refine blk_alloc ?_ _)); exact BK168.out⟩, ⟨zG⟩⟩
      · rw [if_neg c10] at H
        have c10b0 : (a0_0 == 4) = false := beq_eq_false_iff_ne.mpr c10
        have c10b1 : (a0_0 != 4) = true := bne_iff_ne.mpr c10
        (first | rw [c10b0] | (simp only [i64_w, i32_w]; rw [c10b0]) | skip)
        by_cases c14 : a0_0 = 2
        · rw [if_pos c14] at H
          have c14b0 : (a0_0 == 2) = true := beq_iff_eq.mpr c14
          have c14b1 : (a0_0 != 2) = false := bne_eq_false_iff_eq.mpr c14
          clear c14
          have HC15 := Aside0.mk H
          clear H
          go_upto_region 10 with (fail)
          go_cut [29] (fun v29 wc => ∃ (kq : Nat) (x29_14 : Bool), v29 = .bool x29_14 ∧ Aside0 (value_Right.j2 kq x29_14 a0_0 a0_1 a0_2 a0_0 0 (⟨#[]⟩ : ByteArray) = some r) ∧ Aside0 (kq ≤ k) ∧ Aside0 (wc.heap[gb167]? = some (.cells #[.int .i64 a0_0, .int .i64 a0_1, .string a0_2] 83 (0, 0))) ∧ Aside0 (wc.heap[gb168]? = some (.cells #[.int .i64 a0_0, .int .i64 0, .string (⟨#[]⟩ : ByteArray)] 83 (0, 0))) ∧ Aside0 (Below w.heap.size w wc))
          case first =>
            have H := HC15.out
            clear HC15
            by_cases c16 : a0_1 < 0
            · rw [if_pos c16] at H
              have c16b0 : decide (a0_1 < 0) = true := decide_eq_true c16
              clear c16
              (first | rw [c16b0] | (simp only [i64_w, i32_w]; rw [c16b0]) | skip)
              have H' := Aside0.mk H
              clear H
              have hnb17 := NB167_168.out
              have hnc17 := NB168_167.out
              obtain ⟨hcz18_0, hcz18_1, hcz18_2, hfz18_0, hfz18_1, hfz18_2⟩ := zd3 BK167.out (.int .i64 a0_0) (.int .i64 a0_1) (.string a0_2)
              go_wp2
              go_meet
              case rel => exact ⟨_, (true), zR, H', ⟨by first | omega | exact Nat.le_refl _⟩, ⟨by (with_reducible repeat (first | refine blk_drewN ?_ _ | refine blk_drew ?_ | refine blk_alloc ?_ _)); refine blk_far ?_ NB167_168.out _; (with_reducible repeat (first | refine blk_drewN ?_ _ | refine blk_drew ?_ | refine blk_alloc ?_ _)); refine blk_far ?_ NB167_168.out _; (with_reducible repeat (first | refine blk_drewN ?_ _ | refine blk_drew ?_ | refine blk_alloc ?_ _)); refine blk_far ?_ NB167_168.out _; (with_reducible repeat (first | refine blk_drewN ?_ _ | refine blk_drew ?_ | refine blk_alloc ?_ _)); exact BK167.out⟩, ⟨by (with_reducible repeat (first | refine blk_drewN ?_ _ | refine blk_drew ?_ | refine blk_alloc ?_ _)); refine blk_put (cs := #[.int .i64 a0_0, .int .i64 0, .string (⟨#[]⟩ : ByteArray)]) ?_ 2 _ rfl; (with_reducible repeat (first | refine blk_drewN ?_ _ | refine blk_drew ?_ | refine blk_alloc ?_ _)); refine blk_put (cs := #[.int .i64 a0_0, .int .i64 0, .string (⟨#[]⟩ : ByteArray)]) ?_ 1 _ rfl; (with_reducible repeat (first | refine blk_drewN ?_ _ | refine blk_drew ?_ | refine blk_alloc ?_ _)); refine blk_put (cs := #[.int .i64 0, .int .i64 0, .string (⟨#[]⟩ : ByteArray)]) ?_ 0 _ rfl; (with_reducible repeat (first | refine blk_drewN ?_ _ | refine blk_drew ?_ | refine blk_alloc ?_ _)); exact BK168.out⟩, ⟨zG⟩⟩
            · rw [if_neg c16] at H
              have c16b0 : decide (a0_1 < 0) = false := decide_eq_false c16
              clear c16
              (first | rw [c16b0] | (simp only [i64_w, i32_w]; rw [c16b0]) | skip)
              have H' := Aside0.mk H
              clear H
              have hnb19 := NB167_168.out
              have hnc19 := NB168_167.out
              obtain ⟨hcz20_0, hcz20_1, hcz20_2, hfz20_0, hfz20_1, hfz20_2⟩ := zd3 BK167.out (.int .i64 a0_0) (.int .i64 a0_1) (.string a0_2)
              go_wp2
              go_meet
              case rel => exact ⟨_, (decide (a0_1 > 1)), zR, H', ⟨by first | omega | exact Nat.le_refl _⟩, ⟨by (with_reducible repeat (first | refine blk_drewN ?_ _ | refine blk_drew ?_ | refine blk_alloc ?_ _)); refine blk_far ?_ NB167_168.out _; (with_reducible repeat (first | refine blk_drewN ?_ _ | refine blk_drew ?_ | refine blk_alloc ?_ _)); refine blk_far ?_ NB167_168.out _; (with_reducible repeat (first | refine blk_drewN ?_ _ | refine blk_drew ?_ | refine blk_alloc ?_ _)); refine blk_far ?_ NB167_168.out _; (with_reducible repeat (first | refine blk_drewN ?_ _ | refine blk_drew ?_ | refine blk_alloc ?_ _)); exact BK167.out⟩, ⟨by (with_reducible repeat (first | refine blk_drewN ?_ _ | refine blk_drew ?_ | refine blk_alloc ?_ _)); refine blk_put (cs := #[.int .i64 a0_0, .int .i64 0, .string (⟨#[]⟩ : ByteArray)]) ?_ 2 _ rfl; (with_reducible repeat (first | refine blk_drewN ?_ _ | refine blk_drew ?_ | refine blk_alloc ?_ _)); refine blk_put (cs := #[.int .i64 a0_0, .int .i64 0, .string (⟨#[]⟩ : ByteArray)]) ?_ 1 _ rfl; (with_reducible repeat (first | refine blk_drewN ?_ _ | refine blk_drew ?_ | refine blk_alloc ?_ _)); refine blk_put (cs := #[.int .i64 0, .int .i64 0, .string (⟨#[]⟩ : ByteArray)]) ?_ 0 _ rfl; (with_reducible repeat (first | refine blk_drewN ?_ _ | refine blk_drew ?_ | refine blk_alloc ?_ _)); exact BK168.out⟩, ⟨zG⟩⟩
          case rest =>
            clear HC15
            clear c10 c10b0 c10b1 c14b0 c14b1 hcz4_0 hcz4_1 hcz4_2 hcz7_0 hcz7_1 hcz7_2 hcz8_0 hcz8_1 hcz8_2 hfz4_0 hfz4_1 hfz4_2 hfz7_0 hfz7_1 hfz7_2 hfz8_0 hfz8_1 hfz8_2
            obtain ⟨kq, x29_14, rfl, HA, HJ14, BK167, BK168, HB⟩ := hcut
            cases kq with
            | zero => exact absurd HA.out (by simp [value_Right.j2])
            | succ kj14 =>
              have H := HA.out
              clear HA
              simp only [value_Right.j2] at H
              by_cases c21 : x29_14 = true
              · subst c21
                rw [if_pos rfl] at H
                obtain rfl := Option.some.inj H
                go_wp2
                go_ret
                exact ⟨zE, zG⟩
              · replace c21 := Bool.eq_false_iff.mpr c21
                subst c21
                rw [if_neg (show ¬ (false = true) by decide)] at H
                have H' := Aside0.mk H
                clear H
                go_wp2
                go_meet
                case rel => exact ⟨_, ((⟨#[]⟩ : ByteArray)), H', ⟨by have := HJ14.out; first | omega | exact Nat.le_refl _⟩, ⟨zK⟩, ⟨zK⟩, ⟨zG⟩⟩
        · rw [if_neg c14] at H
          have c14b0 : (a0_0 == 2) = false := beq_eq_false_iff_ne.mpr c14
          have c14b1 : (a0_0 != 2) = true := bne_iff_ne.mpr c14
          have HC22 := Aside0.mk H
          clear H
          go_upto_if 13 with (fail)
          go_cut [13] (fun v13 wc => ∃ (kq : Nat) (x13_21 : Bool), v13 = .bool x13_21 ∧ Aside0 (value_Right.j0 kq a0_0 x13_21 a0_0 a0_1 a0_2 a0_0 0 (⟨#[]⟩ : ByteArray) = some r) ∧ Aside0 (kq ≤ k) ∧ Aside0 (wc.heap[gb167]? = some (.cells #[.int .i64 a0_0, .int .i64 a0_1, .string a0_2] 83 (0, 0))) ∧ Aside0 (wc.heap[gb168]? = some (.cells #[.int .i64 a0_0, .int .i64 0, .string (⟨#[]⟩ : ByteArray)] 83 (0, 0))) ∧ Aside0 (Below w.heap.size w wc))
          case first =>
            have H := HC22.out
            clear HC22
            by_cases c23 : a0_0 = 3
            · rw [if_pos c23] at H
              have c23b0 : (a0_0 == 3) = true := beq_iff_eq.mpr c23
              have c23b1 : (a0_0 != 3) = false := bne_eq_false_iff_eq.mpr c23
              clear c23
              (first | rw [c23b0] | (simp only [i64_w, i32_w]; rw [c23b0]) | skip)
              have H' := Aside0.mk H
              clear H
              go_wp2
              go_meet
              case rel => exact ⟨_, ((a0_0 == 3)), zR, H', ⟨by first | omega | exact Nat.le_refl _⟩, ⟨by (with_reducible repeat (first | refine blk_drewN ?_ _ | refine blk_drew ?_ | refine blk_alloc ?_ _)); refine blk_far ?_ NB167_168.out _; (with_reducible repeat (first | refine blk_drewN ?_ _ | refine blk_drew ?_ | refine blk_alloc ?_ _)); refine blk_far ?_ NB167_168.out _; (with_reducible repeat (first | refine blk_drewN ?_ _ | refine blk_drew ?_ | refine blk_alloc ?_ _)); refine blk_far ?_ NB167_168.out _; (with_reducible repeat (first | refine blk_drewN ?_ _ | refine blk_drew ?_ | refine blk_alloc ?_ _)); exact BK167.out⟩, ⟨by (with_reducible repeat (first | refine blk_drewN ?_ _ | refine blk_drew ?_ | refine blk_alloc ?_ _)); refine blk_put (cs := #[.int .i64 a0_0, .int .i64 0, .string (⟨#[]⟩ : ByteArray)]) ?_ 2 _ rfl; (with_reducible repeat (first | refine blk_drewN ?_ _ | refine blk_drew ?_ | refine blk_alloc ?_ _)); refine blk_put (cs := #[.int .i64 a0_0, .int .i64 0, .string (⟨#[]⟩ : ByteArray)]) ?_ 1 _ rfl; (with_reducible repeat (first | refine blk_drewN ?_ _ | refine blk_drew ?_ | refine blk_alloc ?_ _)); refine blk_put (cs := #[.int .i64 0, .int .i64 0, .string (⟨#[]⟩ : ByteArray)]) ?_ 0 _ rfl; (with_reducible repeat (first | refine blk_drewN ?_ _ | refine blk_drew ?_ | refine blk_alloc ?_ _)); exact BK168.out⟩, ⟨zG⟩⟩
            · rw [if_neg c23] at H
              have c23b0 : (a0_0 == 3) = false := beq_eq_false_iff_ne.mpr c23
              have c23b1 : (a0_0 != 3) = true := bne_iff_ne.mpr c23
              (first | rw [c23b0] | (simp only [i64_w, i32_w]; rw [c23b0]) | skip)
              have H' := Aside0.mk H
              clear H
              go_wp2
              go_meet
              case rel => exact ⟨_, ((a0_0 == 5)), zR, H', ⟨by first | omega | exact Nat.le_refl _⟩, ⟨by (with_reducible repeat (first | refine blk_drewN ?_ _ | refine blk_drew ?_ | refine blk_alloc ?_ _)); refine blk_far ?_ NB167_168.out _; (with_reducible repeat (first | refine blk_drewN ?_ _ | refine blk_drew ?_ | refine blk_alloc ?_ _)); refine blk_far ?_ NB167_168.out _; (with_reducible repeat (first | refine blk_drewN ?_ _ | refine blk_drew ?_ | refine blk_alloc ?_ _)); refine blk_far ?_ NB167_168.out _; (with_reducible repeat (first | refine blk_drewN ?_ _ | refine blk_drew ?_ | refine blk_alloc ?_ _)); exact BK167.out⟩, ⟨by (with_reducible repeat (first | refine blk_drewN ?_ _ | refine blk_drew ?_ | refine blk_alloc ?_ _)); refine blk_put (cs := #[.int .i64 a0_0, .int .i64 0, .string (⟨#[]⟩ : ByteArray)]) ?_ 2 _ rfl; (with_reducible repeat (first | refine blk_drewN ?_ _ | refine blk_drew ?_ | refine blk_alloc ?_ _)); refine blk_put (cs := #[.int .i64 a0_0, .int .i64 0, .string (⟨#[]⟩ : ByteArray)]) ?_ 1 _ rfl; (with_reducible repeat (first | refine blk_drewN ?_ _ | refine blk_drew ?_ | refine blk_alloc ?_ _)); refine blk_put (cs := #[.int .i64 0, .int .i64 0, .string (⟨#[]⟩ : ByteArray)]) ?_ 0 _ rfl; (with_reducible repeat (first | refine blk_drewN ?_ _ | refine blk_drew ?_ | refine blk_alloc ?_ _)); exact BK168.out⟩, ⟨zG⟩⟩
          case rest =>
            clear HC22
            clear c10 c10b0 c10b1 c14 c14b0 c14b1 hcz4_0 hcz4_1 hcz4_2 hcz7_0 hcz7_1 hcz7_2 hcz8_0 hcz8_1 hcz8_2 hfz4_0 hfz4_1 hfz4_2 hfz7_0 hfz7_1 hfz7_2 hfz8_0 hfz8_1 hfz8_2
            obtain ⟨kq, x13_21, rfl, HA, HJ21, BK167, BK168, HB⟩ := hcut
            cases kq with
            | zero => exact absurd HA.out (by simp [value_Right.j0])
            | succ kj21 =>
              have H := HA.out
              clear HA
              simp only [value_Right.j0] at H
              by_cases c24 : x13_21 = true
              · subst c24
                rw [if_pos rfl] at H
                have H' := Aside0.mk H
                clear H
                go_wp2
                go_meet
                case rel => exact ⟨_, ((⟨#[]⟩ : ByteArray)), H', ⟨by have := HJ21.out; first | omega | exact Nat.le_refl _⟩, ⟨zK⟩, ⟨zK⟩, ⟨zG⟩⟩
              · replace c24 := Bool.eq_false_iff.mpr c24
                subst c24
                rw [if_neg (show ¬ (false = true) by decide)] at H
                have HC25 := Aside0.mk H
                clear H
                go_upto_if 16 with (fail)
                go_cut [16] (fun v16 wc => ∃ (kq : Nat) (x16_24 : Bool), v16 = .bool x16_24 ∧ Aside0 (value_Right.j1 kq x16_24 a0_0 a0_1 a0_2 a0_0 0 (⟨#[]⟩ : ByteArray) = some r) ∧ Aside0 (kq ≤ kj21) ∧ Aside0 (wc.heap[gb167]? = some (.cells #[.int .i64 a0_0, .int .i64 a0_1, .string a0_2] 83 (0, 0))) ∧ Aside0 (wc.heap[gb168]? = some (.cells #[.int .i64 a0_0, .int .i64 0, .string (⟨#[]⟩ : ByteArray)] 83 (0, 0))) ∧ Aside0 (Below w.heap.size w wc))
                case first =>
                  have H := HC25.out
                  clear HC25
                  by_cases c26 : a0_0 = 0
                  · rw [if_pos c26] at H
                    have c26b0 : (a0_0 == 0) = true := beq_iff_eq.mpr c26
                    have c26b1 : (a0_0 != 0) = false := bne_eq_false_iff_eq.mpr c26
                    clear c26
                    (first | rw [c26b0] | (simp only [i64_w, i32_w]; rw [c26b0]) | skip)
                    have H' := Aside0.mk H
                    clear H
                    go_wp2
                    go_meet
                    case rel => exact ⟨_, ((a0_0 == 0)), zR, H', ⟨by have := HJ21.out; first | omega | exact Nat.le_refl _⟩, ⟨zK⟩, ⟨zK⟩, ⟨zG⟩⟩
                  · rw [if_neg c26] at H
                    have c26b0 : (a0_0 == 0) = false := beq_eq_false_iff_ne.mpr c26
                    have c26b1 : (a0_0 != 0) = true := bne_iff_ne.mpr c26
                    (first | rw [c26b0] | (simp only [i64_w, i32_w]; rw [c26b0]) | skip)
                    have H' := Aside0.mk H
                    clear H
                    go_wp2
                    go_meet
                    case rel => exact ⟨_, ((a0_0 == 1)), zR, H', ⟨by have := HJ21.out; first | omega | exact Nat.le_refl _⟩, ⟨zK⟩, ⟨zK⟩, ⟨zG⟩⟩
                case rest =>
                  clear HC25
                  obtain ⟨kq, x16_24, rfl, HA, HJ24, BK167, BK168, HB⟩ := hcut
                  cases kq with
                  | zero => exact absurd HA.out (by simp [value_Right.j1])
                  | succ kj24 =>
                    have H := HA.out
                    clear HA
                    simp only [value_Right.j1] at H
                    by_cases c27 : x16_24 = true
                    · subst c27
                      rw [if_pos rfl] at H
                      have H' := Aside0.mk H
                      clear H
                      go_wp2
                      go_meet
                      case rel => exact ⟨_, (0), ((⟨#[]⟩ : ByteArray)), H', ⟨by have := HJ21.out; have := HJ24.out; first | omega | exact Nat.le_refl _⟩, ⟨zK⟩, ⟨zK⟩, ⟨zG⟩⟩
                    · replace c27 := Bool.eq_false_iff.mpr c27
                      subst c27
                      rw [if_neg (show ¬ (false = true) by decide)] at H
                      obtain rfl := Option.some.inj H
                      go_wp2
                      go_ret
                      exact ⟨zE, zG⟩
    case rest =>
      clear HC9
      clear hcz4_0 hcz4_1 hcz4_2 hcz7_0 hcz7_1 hcz7_2 hcz8_0 hcz8_1 hcz8_2 hfz4_0 hfz4_1 hfz4_2 hfz7_0 hfz7_1 hfz7_2 hfz8_0 hfz8_1 hfz8_2
      obtain ⟨kq, x169002_8, HA, HJ8, BK167, BK168, HB⟩ := hcut
      cases kq with
      | zero => exact absurd HA.out (by simp [value_Right.j3])
      | succ kj8 =>
        have H := HA.out
        clear HA
        simp only [value_Right.j3] at H
        have H' := Aside0.mk H
        clear H
        have hnb28 := NB167_168.out
        have hnc28 := NB168_167.out
        obtain ⟨hcz29_0, hcz29_1, hcz29_2, hfz29_0, hfz29_1, hfz29_2⟩ := zd3 BK167.out (.int .i64 a0_0) (.int .i64 a0_1) (.string a0_2)
        obtain ⟨hcz30_0, hcz30_1, hcz30_2, hfz30_0, hfz30_1, hfz30_2⟩ := zd3 BK168.out (.int .i64 a0_0) (.int .i64 0) (.string x169002_8)
        go_wp2
        go_meet
        case rel => exact ⟨_, (a0_1), (x169002_8), H', ⟨by have := HJ8.out; first | omega | exact Nat.le_refl _⟩, ⟨by (with_reducible repeat (first | refine blk_drewN ?_ _ | refine blk_drew ?_ | refine blk_alloc ?_ _)); refine blk_far ?_ NB167_168.out _; (with_reducible repeat (first | refine blk_drewN ?_ _ | refine blk_drew ?_ | refine blk_alloc ?_ _)); exact BK167.out⟩, ⟨by (with_reducible repeat (first | refine blk_drewN ?_ _ | refine blk_drew ?_ | refine blk_alloc ?_ _)); refine blk_put (cs := #[.int .i64 a0_0, .int .i64 0, .string x169002_8]) ?_ 1 _ rfl; (with_reducible repeat (first | refine blk_drewN ?_ _ | refine blk_drew ?_ | refine blk_alloc ?_ _)); exact BK168.out⟩, ⟨zG⟩⟩
  case rest =>
    clear HC2
    clear hcz4_0 hcz4_1 hcz4_2 hcz7_0 hcz7_1 hcz7_2 hcz8_0 hcz8_1 hcz8_2 hfz4_0 hfz4_1 hfz4_2 hfz7_0 hfz7_1 hfz7_2 hfz8_0 hfz8_1 hfz8_2
    obtain ⟨kq, x169001_1, x169002_1, HA, HJ1, BK167, BK168, HB⟩ := hcut
    cases kq with
    | zero => exact absurd HA.out (by simp [value_Right.j4])
    | succ kj1 =>
      have H := HA.out
      clear HA
      simp only [value_Right.j4] at H
      obtain rfl := Option.some.inj H
      have hnb31 := NB167_168.out
      have hnc31 := NB168_167.out
      obtain ⟨hcz32_0, hcz32_1, hcz32_2, hfz32_0, hfz32_1, hfz32_2⟩ := zd3 BK167.out (.int .i64 a0_0) (.int .i64 a0_1) (.string a0_2)
      obtain ⟨hcz33_0, hcz33_1, hcz33_2, hfz33_0, hfz33_1, hfz33_2⟩ := zd3 BK168.out (.int .i64 a0_0) (.int .i64 x169001_1) (.string x169002_1)
      go_wp2
      go_ret
      exact ⟨zE, zG⟩
end Go.Proofs.YtjlhhjfmekjbhaaGreatDoor.Pr

namespace Go.Proofs.YtjlhhjfmekjbhaaGreatDoor.Pr
open Go.RowKit Go.Proofs.YtjlhhjfmekjbhaaGreatDoorW.PrintWords Go.Proofs.YtjlhhjfmekjbhaaGreatDoorW.PrintLast Go.Proofs.YtjlhhjfmekjbhaaGreatDoorW.PrintMore
set_option linter.unusedVariables false
set_option linter.unusedSimpArgs false
/-! ### q6_Right: function 75 -/
mutual
def q6_Right.j0 : Nat → Int → Bool → Int → Int → ByteArray → Option (Bool)
  | 0, _, _, _, _, _ => none
  | k + 1, x4, x5, x170000, x170001, x170002 => if x5 = true then (if x170001 = 0 then (q6_Right.j1 k (x170002.toList == ([] : List UInt8))) else (q6_Right.j1 k false)) else (if x4 = 2 then (if x170001 = 0 then (q6_Right.j2 k (x170002.toList == ([] : List UInt8))) else (if x170001 = 1 then (q6_Right.j2 k (x170002.toList == ([] : List UInt8))) else (q6_Right.j2 k false))) else (if x4 = 3 then (q6_Right.j3 k (x4 == 3) x170000 x170001 x170002) else (q6_Right.j3 k (x4 == 5) x170000 x170001 x170002)))
def q6_Right.j1 : Nat → Bool → Option (Bool)
  | 0, _ => none
  | k + 1, x2 => some x2
def q6_Right.j2 : Nat → Bool → Option (Bool)
  | 0, _ => none
  | k + 1, x2 => some x2
def q6_Right.j3 : Nat → Bool → Int → Int → ByteArray → Option (Bool)
  | 0, _, _, _, _ => none
  | k + 1, x31, x170000, x170001, x170002 => if x31 = true then (some (x170002.toList == ([] : List UInt8))) else (if x170000 = 4 then (q6_Right.j4 k (x170001 == 0)) else (q6_Right.j4 k false))
def q6_Right.j4 : Nat → Bool → Option (Bool)
  | 0, _ => none
  | k + 1, x2 => some x2
end
def q6_Right.f (k : Nat) (a0_0 : Int) (a0_1 : Int) (a0_2 : ByteArray) : Option (Bool) := if a0_0 = 0 then (q6_Right.j0 k a0_0 (a0_0 == 0) a0_0 a0_1 a0_2) else (q6_Right.j0 k a0_0 (a0_0 == 1) a0_0 a0_1 a0_2)
end Go.Proofs.YtjlhhjfmekjbhaaGreatDoor.Pr

namespace Go.Proofs.YtjlhhjfmekjbhaaGreatDoor.Pr
open Go.RowKit Go.Proofs.YtjlhhjfmekjbhaaGreatDoorW.PrintWords Go.Proofs.YtjlhhjfmekjbhaaGreatDoorW.PrintLast Go.Proofs.YtjlhhjfmekjbhaaGreatDoorW.PrintMore
set_option linter.unusedVariables false
set_option linter.unusedSimpArgs false
/-! ### q6_digits: function 97 -/
mutual
def q6_digits.j0 : Nat → Int → ByteArray → Int → Option (ByteArray)
  | 0, _, _, _ => none
  | k + 1, x0, x3, x4 => q6_digits.l0 k x0 x3 x4
def q6_digits.l0 : Nat → Int → ByteArray → Int → Option (ByteArray)
  | 0, _, _, _ => none
  | k + 1, x0, x3, x4 => if x4 > 0 then ((some (([(IntKind.u64.wrap (48 + (Int.tmod x4 10))) % 256] : List Int) : List Int)).bind fun y170 => (if (strOfNums y170).size + x3.size ≤ 9223372036854775807 then (q6_digits.l0 k x0 ((strOfNums y170) ++ x3) (IntKind.u64.wrap (Int.tdiv x4 10))) else (none))) else (if x0 < 0 then (if 1 + x3.size ≤ 9223372036854775807 then (some ((⟨#[45]⟩ : ByteArray) ++ x3)) else (none)) else (some x3))
end
def q6_digits.f (k : Nat) (a0 : Int) : Option (ByteArray) := if a0 = 0 then (some (⟨#[48]⟩ : ByteArray)) else (if a0 < 0 then (q6_digits.j0 k a0 (⟨#[]⟩ : ByteArray) (IntKind.u64.wrap (-(IntKind.u64.wrap (a0))))) else (q6_digits.j0 k a0 (⟨#[]⟩ : ByteArray) (IntKind.u64.wrap (a0))))
/-! ### q6_Key: function 84 -/
def q6_Key.f (k : Nat) (a0_0 : Int) (a0_1 : Int) (a0_2 : ByteArray) : Option (ByteArray) := if a0_0 = 0 then (some (⟨#[117, 110, 100, 101, 102, 105, 110, 101, 100]⟩ : ByteArray)) else (if a0_0 = 1 then (some (⟨#[110, 117, 108, 108]⟩ : ByteArray)) else (if a0_0 = 2 then (if a0_1 = 1 then (some (⟨#[116, 114, 117, 101]⟩ : ByteArray)) else (some (⟨#[102, 97, 108, 115, 101]⟩ : ByteArray))) else (if a0_0 = 3 then ((q6_digits.f k a0_1).bind fun t174 => (some t174)) else (if a0_0 = 4 then (some a0_2) else (some (⟨#[91, 111, 98, 106, 101, 99, 116, 93]⟩ : ByteArray))))))
end Go.Proofs.YtjlhhjfmekjbhaaGreatDoor.Pr

namespace Go.Proofs.YtjlhhjfmekjbhaaGreatDoor.Pr
open Go.RowKit Go.Proofs.YtjlhhjfmekjbhaaGreatDoorW.PrintWords Go.Proofs.YtjlhhjfmekjbhaaGreatDoorW.PrintLast Go.Proofs.YtjlhhjfmekjbhaaGreatDoorW.PrintMore
set_option linter.unusedVariables false
set_option linter.unusedSimpArgs false
/-! ### q6_Num: function 110 -/
mutual
def q6_Num.j0 : Nat → Bool → Int → Int → ByteArray → Option (Int)
  | 0, _, _, _, _ => none
  | k + 1, x13, x176000, x176001, x176002 => if x13 = true then (some x176001) else (if x176000 = 4 then (if (x176002.size : Int) = 0 then (q6_Num.j1 k true x176000 x176001 x176002) else (q6_Num.j1 k (decide ((x176002.size : Int) > 20)) x176000 x176001 x176002)) else (q6_Num.j1 k true x176000 x176001 x176002))
def q6_Num.j1 : Nat → Bool → Int → Int → ByteArray → Option (Int)
  | 0, _, _, _, _ => none
  | k + 1, x30, x176000, x176001, x176002 => if x30 = true then (some 0) else (if 0 < (x176002.size : Int) then (if (bt x176002 0) = 45 then (q6_Num.j2 k 0 1 x176000 x176001 x176002) else (q6_Num.j2 k 0 0 x176000 x176001 x176002)) else (none))
def q6_Num.j2 : Nat → Int → Int → Int → Int → ByteArray → Option (Int)
  | 0, _, _, _, _, _ => none
  | k + 1, x3, x4, x176000, x176001, x176002 => q6_Num.l0 k x3 x4 x4 x176000 x176001 x176002
def q6_Num.l0 : Nat → Int → Int → Int → Int → Int → ByteArray → Option (Int)
  | 0, _, _, _, _, _, _ => none
  | k + 1, x3, x4, x5, x176000, x176001, x176002 => if x5 < (x176002.size : Int) then (if 0 ≤ x5 then (if (bt x176002 x5) < 48 then (q6_Num.j4 k x3 x4 x5 true x176000 x176001 x176002) else (q6_Num.j4 k x3 x4 x5 (decide ((bt x176002 x5) > 57)) x176000 x176001 x176002)) else (none)) else (if x4 = 1 then (q6_Num.j5 k (wrap64 (-x3)) x176000 x176001 x176002) else (q6_Num.j5 k x3 x176000 x176001 x176002))
def q6_Num.j4 : Nat → Int → Int → Int → Bool → Int → Int → ByteArray → Option (Int)
  | 0, _, _, _, _, _, _, _ => none
  | k + 1, x3, x4, x5, x54, x176000, x176001, x176002 => if x54 = true then (some 0) else (if 0 ≤ x5 then (if x5 < (x176002.size : Int) then (q6_Num.l0 k (wrap64 ((wrap64 (10 * x3)) + (((bt x176002 x5) - 48) % 256))) x4 (wrap64 (x5 + 1)) x176000 x176001 x176002) else (none)) else (none))
def q6_Num.j5 : Nat → Int → Int → Int → ByteArray → Option (Int)
  | 0, _, _, _, _ => none
  | k + 1, x3, x176000, x176001, x176002 => (q6_digits.f k x3).bind fun t176 => (if t176.toList = x176002.toList then (some x3) else (some 0))
end
def q6_Num.f (k : Nat) (a0_0 : Int) (a0_1 : Int) (a0_2 : ByteArray) : Option (Int) := if a0_0 = 2 then (q6_Num.j0 k true a0_0 a0_1 a0_2) else (q6_Num.j0 k (a0_0 == 3) a0_0 a0_1 a0_2)
end Go.Proofs.YtjlhhjfmekjbhaaGreatDoor.Pr

namespace Go.Proofs.YtjlhhjfmekjbhaaGreatDoor.Pr
open Go.RowKit Go.Proofs.YtjlhhjfmekjbhaaGreatDoorW.PrintWords Go.Proofs.YtjlhhjfmekjbhaaGreatDoorW.PrintLast Go.Proofs.YtjlhhjfmekjbhaaGreatDoorW.PrintMore
set_option linter.unusedVariables false
set_option linter.unusedSimpArgs false
/-! ### q6_less: function 112 -/
def q6_less.j0 : Nat → Bool → Int → Int → ByteArray → Int → Int → ByteArray → Option (Int)
  | 0, _, _, _, _, _, _, _ => none
  | k + 1, x14, x178000, x178001, x178002, x179000, x179001, x179002 => if x14 = true then (if x178002.toList = x179002.toList then (some 0) else (if (Op.bytesLess x178002.toList x179002.toList) = true then (some (-1)) else (some 1))) else ((q6_Num.f k x178000 x178001 x178002).bind fun t179 => ((q6_Num.f k x179000 x179001 x179002).bind fun t180 => (if t179 = t180 then (some 0) else (if t179 < t180 then (some (-1)) else (some 1)))))
def q6_less.f (k : Nat) (a0_0 : Int) (a0_1 : Int) (a0_2 : ByteArray) (a1_0 : Int) (a1_1 : Int) (a1_2 : ByteArray) : Option (Int) := if a0_0 = 4 then (q6_less.j0 k (a1_0 == 4) a0_0 a0_1 a0_2 a1_0 a1_1 a1_2) else (q6_less.j0 k false a0_0 a0_1 a0_2 a1_0 a1_1 a1_2)
/-! ### q6_Bool: function 111 -/
def q6_Bool.f (a0 : Bool) : Option (Int × Int × ByteArray) := if a0 = true then (some (2, 1, (⟨#[]⟩ : ByteArray))) else (some (2, 0, (⟨#[]⟩ : ByteArray)))
end Go.Proofs.YtjlhhjfmekjbhaaGreatDoor.Pr

/- Closed forms of value's and the reference's small functions, and what their calls do. No condition. -/
namespace Go.Proofs.YtjlhhjfmekjbhaaGreatDoor.Va
open Go.RowKit Go.Proofs.YtjlhhjfmekjbhaaGreatDoorW.PrintWords Go.Proofs.YtjlhhjfmekjbhaaGreatDoorW.PrintLast Go.Proofs.YtjlhhjfmekjbhaaGreatDoorW.PrintMore Go.Proofs.YtjlhhjfmekjbhaaGreatDoor.Pr Go.Proofs.YtjlhhjfmekjbhaaGreatDoor.Ev
set_option linter.unusedVariables false
set_option linter.unusedSimpArgs false
theorem nDigits_le : ∀ (k u : Nat), u < 10 ^ (k + 1) → Lib.nDigits u ≤ k + 1
  | 0, u, h => by rw [Lib.nDigits_small (by simpa using h)]; omega
  | k + 1, u, h => by
    by_cases h1 : u < 10
    · rw [Lib.nDigits_small h1]; omega
    · rw [Lib.nDigits_big h1]
      have := nDigits_le k (u / 10) (by rw [Nat.pow_succ] at h; omega)
      omega
theorem itoa_len (n : Int) (h : I64 n) : 0 < (Lib.itoa n).length ∧ (Lib.itoa n).length ≤ 20 := by
  obtain ⟨h1, h2⟩ := h
  by_cases hn : n < 0
  · obtain ⟨u, rfl⟩ : ∃ u : Nat, n = -(u : Int) := ⟨n.natAbs, by omega⟩
    rw [Lib.itoa_neg u (by omega)]
    have := nDigits_le 18 u (by have : (10 : Nat) ^ (18 + 1) = 10000000000000000000 := by decide
                                omega)
    rw [List.length_cons, Lib.decDigits_length]
    omega
  · obtain ⟨u, rfl⟩ : ∃ u : Nat, n = (u : Int) := ⟨n.toNat, by omega⟩
    rw [Lib.itoa_nonneg u]
    have := nDigits_le 18 u (by have : (10 : Nat) ^ (18 + 1) = 10000000000000000000 := by decide
                                omega)
    have := Lib.nDigits_pos u
    rw [Lib.decDigits_length]
    omega
def numS (K N : Int) (S : ByteArray) : Int := if K = 2 ∨ K = 3 then N else if K = 4 then numL S.data.toList else 0
theorem vnum_tells (K N : Int) (S : ByteArray) (hs : S.size ≤ 281474976710656) : value_Num.f K N S = some (numS K N S) := by
  unfold value_Num.f numS
  rw [if_pos hs]
  split
  · rfl
  · split
    · rfl
    · rfl
def keyS (K N : Int) (S : ByteArray) : ByteArray := if K = 0 then ⟨#[117, 110, 100, 101, 102, 105, 110, 101, 100]⟩ else if K = 1 then ⟨#[110, 117, 108, 108]⟩ else if K = 2 then (if N = 1 then ⟨#[116, 114, 117, 101]⟩ else ⟨#[102, 97, 108, 115, 101]⟩) else if K = 3 then ⟨(Lib.itoa N).toArray⟩ else if K = 4 then S else ⟨#[91, 111, 98, 106, 101, 99, 116, 93]⟩
theorem vkey_tells (K N : Int) (S : ByteArray) (hN : I64 N) : value_Key.f K N S = some (keyS K N S) := by
  have hF : strconv_FormatInt.f N 10 = some ⟨(Lib.itoa N).toArray⟩ := by unfold strconv_FormatInt.f; rw [if_pos ⟨rfl, hN.1, hN.2⟩]
  have hT : strconv_FormatBool.f (N == 1) = some (if N = 1 then ⟨#[116, 114, 117, 101]⟩ else ⟨#[102, 97, 108, 115, 101]⟩) := by
    unfold strconv_FormatBool.f
    by_cases h : N = 1
    · rw [if_pos h, show (N == 1) = true from beq_iff_eq.mpr h]; decide
    · rw [if_neg h, show (N == 1) = false from beq_eq_false_iff_ne.mpr h]; decide
  unfold value_Key.f keyS
  rw [hF, hT]
  by_cases h0 : K = 0
  · rw [if_pos h0, if_pos h0]
  by_cases h1 : K = 1
  · rw [if_neg h0, if_pos h1, if_neg h0, if_pos h1]
  by_cases h2 : K = 2
  · rw [if_neg h0, if_neg h1, if_pos h2, if_neg h0, if_neg h1, if_pos h2]; rfl
  by_cases h3 : K = 3
  · rw [if_neg h0, if_neg h1, if_neg h2, if_pos h3, if_neg h0, if_neg h1, if_neg h2, if_pos h3]; rfl
  by_cases h4 : K = 4
  · rw [if_neg h0, if_neg h1, if_neg h2, if_neg h3, if_pos h4, if_neg h0, if_neg h1, if_neg h2, if_neg h3, if_pos h4]
  · rw [if_neg h0, if_neg h1, if_neg h2, if_neg h3, if_neg h4, if_neg h0, if_neg h1, if_neg h2, if_neg h3, if_neg h4]
def rightS (K N : Int) (S : ByteArray) : Bool := if K = 0 ∨ K = 1 then decide (N = 0) && decide (S.size = 0) else if K = 2 then decide (N = 0 ∨ N = 1) && decide (S.size = 0) else if K = 3 ∨ K = 5 then decide (S.size = 0) else decide (K = 4) && decide (N = 0)
def truthyS (K N : Int) (S : ByteArray) : Bool := if K = 0 ∨ K = 1 then false else if K = 5 then true else decide (N ≠ 0) || decide (S.size ≠ 0)
theorem emp (S : ByteArray) : (S.toList == ([] : List UInt8)) = decide (S.size = 0) := by
  have hl : S.toList.length = S.size := by rw [ByteArray.toList_eq]; rfl
  by_cases h : S.size = 0
  · rw [List.eq_nil_of_length_eq_zero (hl.trans h), decide_eq_true h]; rfl
  · rw [decide_eq_false h]
    exact beq_eq_false_iff_ne.mpr (fun e => h (by rw [← hl, e]; rfl))
end Go.Proofs.YtjlhhjfmekjbhaaGreatDoor.Va

/- What value's and the reference's small functions tell, without rounds. No condition. -/
namespace Go.Proofs.YtjlhhjfmekjbhaaGreatDoor.Va
open Go.RowKit Go.Proofs.YtjlhhjfmekjbhaaGreatDoorW.PrintWords Go.Proofs.YtjlhhjfmekjbhaaGreatDoorW.PrintLast Go.Proofs.YtjlhhjfmekjbhaaGreatDoorW.PrintMore Go.Proofs.YtjlhhjfmekjbhaaGreatDoor.Pr Go.Proofs.YtjlhhjfmekjbhaaGreatDoor.Ev
set_option linter.unusedVariables false
set_option linter.unusedSimpArgs false
theorem beq_dec (a b : Int) : (a == b) = decide (a = b) := by rw [Bool.eq_iff_iff]; simp
theorem empty_list : (⟨#[]⟩ : ByteArray).toList = [] := by rw [ByteArray.toList_eq]
theorem vright_tells (K N : Int) (S : ByteArray) : value_Right.f 6 K N S = some (rightS K N S) := by
  have e := emp S
  unfold value_Right.f rightS
  by_cases h4 : K = 4
  · subst h4
    simp [value_Right.j4, beq_dec]
  · by_cases h2 : K = 2
    · subst h2
      by_cases hn : N < 0
      · simp [value_Right.j2, hn]; omega
      · by_cases hn1 : N > 1
        · simp [value_Right.j2, hn, hn1]; omega
        · have : N = 0 ∨ N = 1 := by omega
          simp [value_Right.j2, value_Right.j3, value_Right.j4, hn, hn1, empty_list, e, this]
    · by_cases h3 : K = 3
      · subst h3
        simp [value_Right.j0, value_Right.j3, value_Right.j4, empty_list, e]
      · by_cases h5 : K = 5
        · subst h5
          simp [value_Right.j0, value_Right.j3, value_Right.j4, empty_list, e]
        · have b5 : (K == 5) = false := beq_eq_false_iff_ne.mpr h5
          by_cases h0 : K = 0
          · subst h0
            simp [value_Right.j0, value_Right.j1, value_Right.j4, empty_list, e, beq_dec]
          · by_cases h1 : K = 1
            · subst h1
              simp [value_Right.j0, value_Right.j1, value_Right.j4, empty_list, e, beq_dec]
            · simp [value_Right.j0, value_Right.j1, h0, h1, h2, h3, h4, h5]
end Go.Proofs.YtjlhhjfmekjbhaaGreatDoor.Va

/- value.makers: which function a sign has. No condition. -/
namespace Go.Proofs.YtjlhhjfmekjbhaaGreatDoor.Va
open Go.RowKit Go.Proofs.YtjlhhjfmekjbhaaGreatDoorW.PrintWords Go.Proofs.YtjlhhjfmekjbhaaGreatDoorW.PrintLast Go.Proofs.YtjlhhjfmekjbhaaGreatDoorW.PrintMore
set_option linter.unusedVariables false
set_option linter.unusedSimpArgs false
def fv (n : Nat) : Value := .func (.func n) #[] #[]
theorem fv_inj {n m : Nat} (h : fv n = fv m) : n = m := by
  unfold fv at h
  injection h with h
  injection h
open Classical in
/-- How a function value is read: its number. -/
noncomputable def fnElem (v : Value) : Option (DataW Unit × List MemPlace) :=
  if h : ∃ n, v = fv n then some (.lit (.int .i64 ((Classical.choose h : Nat) : Int)), []) else some (.nil, [])
theorem fnElem_fv (n : Nat) : fnElem (fv n) = some (.lit (.int .i64 (n : Int)), []) := by
  have h : ∃ m, fv n = fv m := ⟨n, rfl⟩
  unfold fnElem
  rw [dif_pos h]
  have := Classical.choose_spec h
  rw [← fv_inj this]
theorem fnElem_nil : fnElem .nilFunc = some (.nil, []) := by
  unfold fnElem
  rw [dif_neg (by rintro ⟨n, h⟩; cases h)]
theorem fnElem_inv {v : Value} {n : Nat} {ps : List MemPlace} (h : fnElem v = some (.lit (.int .i64 (n : Int)), ps)) : v = fv n := by
  unfold fnElem at h
  split at h
  · rename_i hx
    have hs := Classical.choose_spec hx
    injection h with h
    injection h with h1 h2
    injection h1 with h1
    injection h1 with h1 h3
    rw [hs]
    congr 1
    exact Int.ofNat_inj.1 h3
  · injection h with h
    injection h with h1 h2
    cases h1
def sign (s : List UInt8) : Option Nat :=
  if s = [33, 61, 61] then some 109 else if s = [61, 61, 61] then some 108 else if s = [60, 61] then some 107 else if s = [60] then some 104
  else if s = [42] then some 103 else if s = [45] then some 102 else if s = [43] then some 98 else none
def Signs (W : World) (b : Nat) : Prop := ∀ s : ByteArray, s.size ≤ maxLen → ∃ v, (Instr.lookup 104 (.map (some b)) (.string s) true).run Tryz.prog W = .ok (.tuple #[v, .bool (sign s.data.toList).isSome]) W ∧ ∀ n, sign s.data.toList = some n → v = fv n
theorem key_ok (s : ByteArray) (h : s.size ≤ maxLen) : keyOf Tryz.prog 9 (.string s) = some (.string s.data.toList) := Go.WideMaps.keyOf_string_mk Tryz.underlying9 h
theorem one_put {W : World} {b n : Nat} {D : DataW Unit} (h : W.ownsMap Tryz.prog 9 fnElem b n D) (hn : n < 100) (s : ByteArray) (hs : s.size ≤ maxLen) (m : Nat) :
    ∃ W', (Instr.mapUpdate 104 (.map (some b)) (.string s) (fv m)).run Tryz.prog W = .ok () W' ∧ W'.ownsMap Tryz.prog 9 fnElem b (n + 1) (D.put (.string s.data.toList) (.lit (.int .i64 (m : Int)))) ∧ W.mapTurned W' b :=
  h.store (Maps.string_keyed Tryz.underlying9) Tryz.underlying104 (by simp only [maxLen]; omega) (key_ok s hs) (fnElem_fv m)
def makersD : DataW Unit := (((((((DataW.map []).put (.string [43]) (.lit (.int .i64 98))).put (.string [45]) (.lit (.int .i64 102))).put (.string [42]) (.lit (.int .i64 103))).put (.string [60]) (.lit (.int .i64 104))).put (.string [60, 61]) (.lit (.int .i64 107))).put (.string [61, 61, 61]) (.lit (.int .i64 108))).put (.string [33, 61, 61]) (.lit (.int .i64 109))
theorem put_has {D : DataW Unit} (hD : Maps.IsMap D) (c : List UInt8) (d : DataW Unit) (s : List UInt8) : Maps.has (D.put (.string c) d) (.string s) = if s = c then true else Maps.has D (.string s) := by
  by_cases h : s = c
  · subst h; rw [if_pos rfl, Maps.has_put_same hD (by trivial)]
  · rw [if_neg h, Maps.has_put_other (by intro e; injection e with e; exact h e)]
theorem put_at {D : DataW Unit} (hD : Maps.IsMap D) (c : List UInt8) (d z : DataW Unit) (s : List UInt8) : (D.put (.string c) d).atKey (.string s) z = if s = c then d else D.atKey (.string s) z := by
  by_cases h : s = c
  · subst h; rw [if_pos rfl, Maps.atKey_put_same hD (by trivial)]
  · rw [if_neg h, Maps.atKey_put_other (by intro e; injection e with e; exact h e)]
theorem makers_has (s : List UInt8) : Maps.has makersD (.string s) = (sign s).isSome := by
  unfold makersD sign
  have m0 : Maps.IsMap (DataW.map [] : DataW Unit) := ⟨_, rfl⟩
  rw [put_has (by repeat (first | exact m0 | apply Maps.IsMap.put)), put_has (by repeat (first | exact m0 | apply Maps.IsMap.put)), put_has (by repeat (first | exact m0 | apply Maps.IsMap.put)), put_has (by repeat (first | exact m0 | apply Maps.IsMap.put)), put_has (by repeat (first | exact m0 | apply Maps.IsMap.put)), put_has (by repeat (first | exact m0 | apply Maps.IsMap.put)), put_has m0]
  repeat' split
  all_goals rfl
theorem makers_at (s : List UInt8) (n : Nat) (h : sign s = some n) : makersD.atKey (.string s) .nil = .lit (.int .i64 (n : Int)) := by
  unfold sign at h
  unfold makersD
  have m0 : Maps.IsMap (DataW.map [] : DataW Unit) := ⟨_, rfl⟩
  rw [put_at (by repeat (first | exact m0 | apply Maps.IsMap.put)), put_at (by repeat (first | exact m0 | apply Maps.IsMap.put)), put_at (by repeat (first | exact m0 | apply Maps.IsMap.put)), put_at (by repeat (first | exact m0 | apply Maps.IsMap.put)), put_at (by repeat (first | exact m0 | apply Maps.IsMap.put)), put_at (by repeat (first | exact m0 | apply Maps.IsMap.put)), put_at m0]
  by_cases h0 : s = [33, 61, 61]
  · rw [if_pos h0] at h ⊢; injection h with h; subst h; rfl
  rw [if_neg h0] at h ⊢
  by_cases h1 : s = [61, 61, 61]
  · rw [if_pos h1] at h ⊢; injection h with h; subst h; rfl
  rw [if_neg h1] at h ⊢
  by_cases h2 : s = [60, 61]
  · rw [if_pos h2] at h ⊢; injection h with h; subst h; rfl
  rw [if_neg h2] at h ⊢
  by_cases h3 : s = [60]
  · rw [if_pos h3] at h ⊢; injection h with h; subst h; rfl
  rw [if_neg h3] at h ⊢
  by_cases h4 : s = [42]
  · rw [if_pos h4] at h ⊢; injection h with h; subst h; rfl
  rw [if_neg h4] at h ⊢
  by_cases h5 : s = [45]
  · rw [if_pos h5] at h ⊢; injection h with h; subst h; rfl
  rw [if_neg h5] at h ⊢
  by_cases h6 : s = [43]
  · rw [if_pos h6] at h ⊢; injection h with h; subst h; rfl
  rw [if_neg h6] at h ⊢
  cases h
theorem signs_of {W : World} {b n : Nat} (h : W.ownsMap Tryz.prog 9 fnElem b n makersD) : Signs W b := by
  intro s hs
  obtain ⟨v, ps, hrun, hv⟩ := h.look_ok (Maps.string_keyed Tryz.underlying9) Tryz.underlying104 (Tryz.zeroValue102 W) fnElem_nil (key_ok s hs)
  rw [makers_has] at hrun
  refine ⟨v, hrun, fun n hn => ?_⟩
  rw [makers_at _ n hn] at hv
  exact fnElem_inv hv
def MakersPost (w : World) (e : Ending) (w' : World) : Prop := ∃ b, e = .returned (.map (some b)) ∧ Signs w' b ∧ Below w.heap.size w w'
set_option maxHeartbeats 1000000 in
set_option maxRecDepth 100000 in
theorem makers_calls (w : World) : Calls Tryz.prog 86 #[] w (MakersPost w) := by
  have hmk : ∀ W : World, (Instr.makeMap 104 none).run Tryz.prog W = .ok (.map (some W.heap.size)) (W.alloc (.map #[] 0)) := fun _ => rfl
  have o0 := World.ownsMap_made w Tryz.prog 9 fnElem
  obtain ⟨W1, h1, o1, t1⟩ := one_put o0 (by omega) ⟨#[43]⟩ (by decide) 98
  obtain ⟨W2, h2, o2, t2⟩ := one_put o1 (by omega) ⟨#[45]⟩ (by decide) 102
  obtain ⟨W3, h3, o3, t3⟩ := one_put o2 (by omega) ⟨#[42]⟩ (by decide) 103
  obtain ⟨W4, h4, o4, t4⟩ := one_put o3 (by omega) ⟨#[60]⟩ (by decide) 104
  obtain ⟨W5, h5, o5, t5⟩ := one_put o4 (by omega) ⟨#[60, 61]⟩ (by decide) 107
  obtain ⟨W6, h6, o6, t6⟩ := one_put o5 (by omega) ⟨#[61, 61, 61]⟩ (by decide) 108
  obtain ⟨W7, h7, o7, t7⟩ := one_put o6 (by omega) ⟨#[33, 61, 61]⟩ (by decide) 109
  have HS := Aside0.mk (signs_of (W := W7) (b := w.heap.size) o7)
  have HB := Aside0.mk (show Below w.heap.size w W7 from by
    have ht := (((((t1.trans t2).trans t3).trans t4).trans t5).trans t6).trans t7
    exact ((Below.refl w.heap.size w).alloc (Nat.le_refl _) _).grown ht.grown (by simp) (fun k hk => by injection hk with hk; omega))
  clear o0 o1 o2 o3 o4 o5 o6 o7 t1 t2 t3 t4 t5 t6 t7
  unfold fv at h1 h2 h3 h4 h5 h6 h7
  go_enter Tryz.func86, Tryz.ntmps86
  go_wp2
  go_ret
  exact ⟨_, rfl, HS.out, HB.out⟩
end Go.Proofs.YtjlhhjfmekjbhaaGreatDoor.Va

/- value.Two. No condition. -/
namespace Go.Proofs.YtjlhhjfmekjbhaaGreatDoor.Va
open Go.RowKit Go.Proofs.YtjlhhjfmekjbhaaGreatDoorW.PrintWords Go.Proofs.YtjlhhjfmekjbhaaGreatDoorW.PrintLast Go.Proofs.YtjlhhjfmekjbhaaGreatDoorW.PrintMore Go.Proofs.YtjlhhjfmekjbhaaGreatDoor.Pr
set_option linter.unusedVariables false
set_option linter.unusedSimpArgs false
abbrev VR := Int × Int × ByteArray
def mkf (k n : Nat) (a0 a1 : Int) (a2 : ByteArray) (b0 b1 : Int) (b2 : ByteArray) : Option VR :=
  if n = 98 then value_makers_1.f k a0 a1 a2 b0 b1 b2 else if n = 102 then value_makers_2.f a0 a1 a2 b0 b1 b2 else if n = 103 then value_makers_3.f a0 a1 a2 b0 b1 b2
  else if n = 104 then value_makers_4.f k a0 a1 a2 b0 b1 b2 else if n = 107 then value_makers_5.f k a0 a1 a2 b0 b1 b2 else if n = 108 then value_makers_6.f k a0 a1 a2 b0 b1 b2
  else if n = 109 then value_makers_7.f k a0 a1 a2 b0 b1 b2 else none
theorem mkf_calls (k n : Nat) (a0 a1 : Int) (a2 : ByteArray) (b0 b1 : Int) (b2 : ByteArray) (r1 r2 : Int) (r3 : ByteArray) (w : World) (hL : Laid w) (h : mkf k n a0 a1 a2 b0 b1 b2 = some (r1, r2, r3)) :
    Calls Tryz.prog n #[.agg #[.int .i64 a0, .int .i64 a1, .string a2], .agg #[.int .i64 b0, .int .i64 b1, .string b2]] w fun e w' => e = .returned (.agg #[.int .i64 r1, .int .i64 r2, .string r3]) ∧ Below w.heap.size w w' := by
  unfold mkf at h
  by_cases h1 : n = 98
  · subst h1; rw [if_pos rfl] at h; exact value_makers_1.calls k a0 a1 a2 b0 b1 b2 r1 r2 r3 w hL h
  rw [if_neg h1] at h
  by_cases h2 : n = 102
  · subst h2; rw [if_pos rfl] at h; exact value_makers_2.calls  a0 a1 a2 b0 b1 b2 r1 r2 r3 w hL h
  rw [if_neg h2] at h
  by_cases h3 : n = 103
  · subst h3; rw [if_pos rfl] at h; exact value_makers_3.calls  a0 a1 a2 b0 b1 b2 r1 r2 r3 w hL h
  rw [if_neg h3] at h
  by_cases h4 : n = 104
  · subst h4; rw [if_pos rfl] at h; exact value_makers_4.calls k a0 a1 a2 b0 b1 b2 r1 r2 r3 w hL h
  rw [if_neg h4] at h
  by_cases h5 : n = 107
  · subst h5; rw [if_pos rfl] at h; exact value_makers_5.calls k a0 a1 a2 b0 b1 b2 r1 r2 r3 w hL h
  rw [if_neg h5] at h
  by_cases h6 : n = 108
  · subst h6; rw [if_pos rfl] at h; exact value_makers_6.calls k a0 a1 a2 b0 b1 b2 r1 r2 r3 w  h
  rw [if_neg h6] at h
  by_cases h7 : n = 109
  · subst h7; rw [if_pos rfl] at h; exact value_makers_7.calls k a0 a1 a2 b0 b1 b2 r1 r2 r3 w  h
  rw [if_neg h7] at h
  cases h
theorem sign_cases {l : List UInt8} {n : Nat} (h : sign l = some n) : n = 98 ∨ n = 102 ∨ n = 103 ∨ n = 104 ∨ n = 107 ∨ n = 108 ∨ n = 109 := by
  unfold sign at h
  repeat' split at h
  all_goals first | (injection h with h; omega) | cases h
theorem enters {n : Nat} {fn : Func} (hf : Tryz.prog.funcs[n]? = some fn) (hn : (fn.name == "runtime.NumGoroutine") = false) (hb : fn.body.isNone = false) (args : Array Value) (W : World) : (callFunc n args).run Tryz.prog W = .ok (.enter n args) W := by
  have hn' : ¬ fn.name = "runtime.NumGoroutine" := by simpa using hn
  have hb' : ¬ fn.body = none := fun e => by rw [e] at hb; cases hb
  unfold callFunc
  simp [go_sem, hf, hn', hb']
theorem callFunc_ok {l : List UInt8} {n : Nat} (h : sign l = some n) (args : Array Value) (W : World) : (callFunc n args).run Tryz.prog W = .ok (.enter n args) W := by
  rcases sign_cases h with rfl | rfl | rfl | rfl | rfl | rfl | rfl
  · exact enters Tryz.func98 (by kernel_rfl) (by kernel_rfl) args W
  · exact enters Tryz.func102 (by kernel_rfl) (by kernel_rfl) args W
  · exact enters Tryz.func103 (by kernel_rfl) (by kernel_rfl) args W
  · exact enters Tryz.func104 (by kernel_rfl) (by kernel_rfl) args W
  · exact enters Tryz.func107 (by kernel_rfl) (by kernel_rfl) args W
  · exact enters Tryz.func108 (by kernel_rfl) (by kernel_rfl) args W
  · exact enters Tryz.func109 (by kernel_rfl) (by kernel_rfl) args W
theorem three_boxes (w : World) (O1 O2 O3 : Obj) : (((w.alloc O1).alloc O2).alloc O3).heap[w.heap.size]? = some O1 ∧ (((w.alloc O1).alloc O2).alloc O3).heap[w.heap.size + 1]? = some O2 ∧ (((w.alloc O1).alloc O2).alloc O3).heap[w.heap.size + 1 + 1]? = some O3 ∧ Below w.heap.size w (((w.alloc O1).alloc O2).alloc O3) := by
  have h1 : (w.alloc O1).heap[w.heap.size]? = some O1 := heap_alloc_new w O1
  have h2 : ((w.alloc O1).alloc O2).heap[w.heap.size + 1]? = some O2 := by have := heap_alloc_new (w.alloc O1) O2; simpa using this
  have h3 : (((w.alloc O1).alloc O2).alloc O3).heap[w.heap.size + 1 + 1]? = some O3 := by have := heap_alloc_new ((w.alloc O1).alloc O2) O3; simpa using this
  exact ⟨blk_alloc (blk_alloc h1 _) _, blk_alloc h2 _, h3, below_alloc (below_alloc (below_alloc (Below.refl _ _) _) _) _⟩
def value_Two.f (k : Nat) (s : ByteArray) (a0 a1 : Int) (a2 : ByteArray) (b0 b1 : Int) (b2 : ByteArray) : Option (Int × Int × ByteArray × Int) :=
  if s.size ≤ maxLen then match sign s.data.toList with
    | none => some (0, 0, ⟨#[]⟩, 60)
    | some n => (mkf k n a0 a1 a2 b0 b1 b2).bind fun r => if r.2.2.size ≤ 9223372036854775807 then (if 65536 < r.2.2.size then some (0, 0, ⟨#[]⟩, 61) else some (r.1, r.2.1, r.2.2, 0)) else none
  else none
set_option maxHeartbeats 4000000 in
set_option maxRecDepth 100000 in
theorem value_Two.calls (k : Nat) (a0 : ByteArray) (a1_0 a1_1 : Int) (a1_2 : ByteArray) (a2_0 a2_1 : Int) (a2_2 : ByteArray) (r1 r2 : Int) (r3 : ByteArray) (r4 : Int) (w : World) (hL : Laid w) (h : value_Two.f k a0 a1_0 a1_1 a1_2 a2_0 a2_1 a2_2 = some (r1, r2, r3, r4)) :
    Calls Tryz.prog 60 #[.string a0, .agg #[.int .i64 a1_0, .int .i64 a1_1, .string a1_2], .agg #[.int .i64 a2_0, .int .i64 a2_1, .string a2_2]] w fun e w' => e = .returned (.tuple #[.agg #[.int .i64 r1, .int .i64 r2, .string r3], .int .i64 r4]) ∧ Below w.heap.size w w' := by
  unfold value_Two.f at h
  by_cases hs : a0.size ≤ maxLen
  case neg => rw [if_neg hs] at h; cases h
  rw [if_pos hs] at h
  have HL := Aside0.mk hL
  have HS := Aside0.mk hs
  have HM := Aside0.mk (fun W => makers_calls W)
  clear hL hs
  cases hsg : sign a0.data.toList with
  | none =>
    rw [hsg] at h
    simp only [Option.some.injEq, Prod.mk.injEq] at h
    obtain ⟨rfl, rfl, rfl, rfl⟩ := h
    have HSG := Aside0.mk hsg
    clear hsg
    go_enter Tryz.func60, Tryz.ntmps60
    go_wp2_with (go_at_call 86; refine (HM.out _).mono ?_; rintro e w1 ⟨b, rfl, hS, hb⟩; have HB1 := Aside0.mk (below_step (three_boxes w _ _ _).2.2.2 hb); have BK := Aside0.mk (blk_below (three_boxes w _ _ _).2.2.1 hb); obtain ⟨v, hlk, hv⟩ := hS a0 HS.out; rw [HSG.out] at hlk; have hfz0 := blk_frozen BK.out 0; have hfz1 := blk_frozen BK.out 1; have hfz2 := blk_frozen BK.out 2; have hc0 := (blk_cell BK.out 0).trans rfl; have hc1 := (blk_cell BK.out 1).trans rfl; have hc2 := (blk_cell BK.out 2).trans rfl; clear hS hb hv)
    refine bodyPost_ret (results_ct rfl _ _ (w.heap.size + 1 + 1) 83 #[.int .i64 0, .int .i64 0, .string (⟨#[]⟩ : ByteArray)] (0, 0) _ rfl (blk_set (blk_set (blk_set BK.out 0 _) 1 _) 2 _) Tryz.underlying83 rfl (by kernel_rfl)) rfl ⟨rfl, ?_⟩
    exact below_set (below_set (below_set HB1.out (by omega)) (by omega)) (by omega)
  | some n =>
    rw [hsg] at h
    have h' : (mkf k n a1_0 a1_1 a1_2 a2_0 a2_1 a2_2).bind (fun r => if r.2.2.size ≤ 9223372036854775807 then (if 65536 < r.2.2.size then some (0, 0, (⟨#[]⟩ : ByteArray), 61) else some (r.1, r.2.1, r.2.2, 0)) else none) = some (r1, r2, r3, r4) := h
    clear h
    obtain ⟨⟨q1, q2, q3⟩, hq, h⟩ := Option.bind_eq_some_iff.1 h'
    clear h'
    have HQ := Aside0.mk hq
    have HSG := Aside0.mk hsg
    have hcf := callFunc_ok hsg
    clear hsg hq
    by_cases hz : q3.size ≤ 9223372036854775807
    case neg => rw [if_neg (show ¬ (q1, q2, q3).2.2.size ≤ 9223372036854775807 from hz)] at h; cases h
    rw [if_pos (show (q1, q2, q3).2.2.size ≤ 9223372036854775807 from hz)] at h
    by_cases h65 : 65536 < q3.size
    · rw [if_pos (show 65536 < (q1, q2, q3).2.2.size from h65)] at h
      simp only [Option.some.injEq, Prod.mk.injEq] at h
      obtain ⟨rfl, rfl, rfl, rfl⟩ := h
      have hgt : (65536 : Int) < (q3.size : Int) := by omega
      go_enter Tryz.func60, Tryz.ntmps60
      go_wp2_with (first | (go_at_call 86; refine (HM.out _).mono ?_; rintro e w1 ⟨b, rfl, hS, hb⟩; have HB1 := Aside0.mk (below_step (three_boxes w _ _ _).2.2.2 hb); have BA := Aside0.mk (blk_below (three_boxes w _ _ _).1 hb); have BB := Aside0.mk (blk_below (three_boxes w _ _ _).2.1 hb); have BK := Aside0.mk (blk_below (three_boxes w _ _ _).2.2.1 hb); obtain ⟨v, hlk, hv⟩ := hS a0 HS.out; obtain rfl := hv n HSG.out; rw [HSG.out] at hlk; unfold fv at hlk; have ha0 := (blk_cell BA.out 0).trans rfl; have ha1 := (blk_cell BA.out 1).trans rfl; have ha2 := (blk_cell BA.out 2).trans rfl; have hb0 := (blk_cell BB.out 0).trans rfl; have hb1 := (blk_cell BB.out 1).trans rfl; have hb2 := (blk_cell BB.out 2).trans rfl; clear hS hb hv) | (refine (mkf_calls k n a1_0 a1_1 a1_2 a2_0 a2_1 a2_2 q1 q2 q3 w1 (HL.out.below HB1.out) HQ.out).mono ?_; rintro e w2 ⟨rfl, hb⟩; have HB2 := Aside0.mk (below_step HB1.out hb); have BK2 := Aside0.mk (blk_alloc (blk_below BK.out hb) (.cells #[.int .i64 q1, .int .i64 q2, .string q3] 83)); have hfz0 := blk_frozen BK2.out 0; have hfz1 := blk_frozen BK2.out 1; have hfz2 := blk_frozen BK2.out 2; have hc0 := (blk_cell BK2.out 0).trans rfl; have hc1 := (blk_cell BK2.out 1).trans rfl; have hc2 := (blk_cell BK2.out 2).trans rfl; clear hb))
      refine bodyPost_ret (results_ct rfl _ _ (w.heap.size + 1 + 1) 83 #[.int .i64 0, .int .i64 0, .string (⟨#[]⟩ : ByteArray)] (0, 0) _ rfl (blk_set (blk_set (blk_set BK2.out 0 _) 1 _) 2 _) Tryz.underlying83 rfl (by kernel_rfl)) rfl ⟨rfl, ?_⟩
      exact below_set (below_set (below_set (below_alloc HB2.out _) (by omega)) (by omega)) (by omega)
    · rw [if_neg (show ¬ 65536 < (q1, q2, q3).2.2.size from h65)] at h
      simp only [Option.some.injEq, Prod.mk.injEq] at h
      obtain ⟨rfl, rfl, rfl, rfl⟩ := h
      have hgt : ¬ (65536 : Int) < (q3.size : Int) := by omega
      go_enter Tryz.func60, Tryz.ntmps60
      go_wp2_with (first | (go_at_call 86; refine (HM.out _).mono ?_; rintro e w1 ⟨b, rfl, hS, hb⟩; have HB1 := Aside0.mk (below_step (three_boxes w _ _ _).2.2.2 hb); have BA := Aside0.mk (blk_below (three_boxes w _ _ _).1 hb); have BB := Aside0.mk (blk_below (three_boxes w _ _ _).2.1 hb); have BK := Aside0.mk (blk_below (three_boxes w _ _ _).2.2.1 hb); obtain ⟨v, hlk, hv⟩ := hS a0 HS.out; obtain rfl := hv n HSG.out; rw [HSG.out] at hlk; unfold fv at hlk; have ha0 := (blk_cell BA.out 0).trans rfl; have ha1 := (blk_cell BA.out 1).trans rfl; have ha2 := (blk_cell BA.out 2).trans rfl; have hb0 := (blk_cell BB.out 0).trans rfl; have hb1 := (blk_cell BB.out 1).trans rfl; have hb2 := (blk_cell BB.out 2).trans rfl; clear hS hb hv) | (refine (mkf_calls k n a1_0 a1_1 a1_2 a2_0 a2_1 a2_2 q1 q2 q3 w1 (HL.out.below HB1.out) HQ.out).mono ?_; rintro e w2 ⟨rfl, hb⟩; have HB2 := Aside0.mk (below_step HB1.out hb); have BK2 := Aside0.mk (blk_alloc (blk_below BK.out hb) (.cells #[.int .i64 q1, .int .i64 q2, .string q3] 83)); have hfz0 := blk_frozen BK2.out 0; have hfz1 := blk_frozen BK2.out 1; have hfz2 := blk_frozen BK2.out 2; have hc0 := (blk_cell BK2.out 0).trans rfl; have hc1 := (blk_cell BK2.out 1).trans rfl; have hc2 := (blk_cell BK2.out 2).trans rfl; clear hb))
      refine bodyPost_ret (results_ct rfl _ _ (w.heap.size + 1 + 1) 83 #[.int .i64 q1, .int .i64 q2, .string q3] (0, 0) _ rfl (blk_set (blk_set (blk_set BK2.out 0 _) 1 _) 2 _) Tryz.underlying83 rfl (by kernel_rfl)) rfl ⟨rfl, ?_⟩
      exact below_set (below_set (below_set (below_alloc HB2.out _) (by omega)) (by omega)) (by omega)
end Go.Proofs.YtjlhhjfmekjbhaaGreatDoor.Va

/- How two values stand, and what value.Two makes of them: closed forms. No condition. -/
namespace Go.Proofs.YtjlhhjfmekjbhaaGreatDoor.Va
open Go.RowKit Go.Proofs.YtjlhhjfmekjbhaaGreatDoorW.PrintWords Go.Proofs.YtjlhhjfmekjbhaaGreatDoorW.PrintLast Go.Proofs.YtjlhhjfmekjbhaaGreatDoorW.PrintMore Go.Proofs.YtjlhhjfmekjbhaaGreatDoor.Pr Go.Proofs.YtjlhhjfmekjbhaaGreatDoor.Ev
set_option linter.unusedVariables false
set_option linter.unusedSimpArgs false
structure Fits (a : VR) : Prop where
  num : I64 a.2.1
  size : a.2.2.size ≤ 140737488355328
def cmpS (a b : VR) : Int :=
  if a.1 = 4 ∧ b.1 = 4 then (if Op.bytesLess a.2.2.toList b.2.2.toList = true then -1 else if (a.2.2.toList == b.2.2.toList) = true then 0 else 1)
  else (if numS a.1 a.2.1 a.2.2 < numS b.1 b.2.1 b.2.2 then -1 else if numS a.1 a.2.1 a.2.2 > numS b.1 b.2.1 b.2.2 then 1 else 0)
theorem vcmp_tells (a b : VR) (ha : Fits a) (hb : Fits b) : value_compared.f 6 a.1 a.2.1 a.2.2 b.1 b.2.1 b.2.2 = some (cmpS a b) := by
  obtain ⟨a0, a1, a2⟩ := a
  obtain ⟨b0, b1, b2⟩ := b
  have h1 := vnum_tells a0 a1 a2 (by have := ha.size; simp only at this; omega)
  have h2 := vnum_tells b0 b1 b2 (by have := hb.size; simp only at this; omega)
  unfold cmpS
  simp only
  unfold value_compared.f
  by_cases ka : a0 = 4
  · rw [if_pos ka]
    by_cases kb : b0 = 4
    · rw [if_pos ⟨ka, kb⟩, show (b0 == 4) = true from beq_iff_eq.mpr kb]
      simp [value_compared.j0, cmp_Compare_string.f]
    · rw [if_neg (fun h => kb h.2), show (b0 == 4) = false from beq_eq_false_iff_ne.mpr kb]
      simp only [value_compared.j0, h1, h2, Option.bind_some, cmp_Compare_int64.f, cmp_isNaN_int64.f]
      simp
      repeat' split
      all_goals first | rfl | omega
  · rw [if_neg ka, if_neg (fun h => ka h.1)]
    simp only [value_compared.j0, h1, h2, Option.bind_some, cmp_Compare_int64.f, cmp_isNaN_int64.f]
    simp
    repeat' split
    all_goals first | rfl | omega
def boolS (b : Bool) : VR := (2, if b then 1 else 0, ⟨#[]⟩)
theorem truth_tells (b : Bool) : value_truth.f 6 b = some (boolS b) := by
  unfold value_truth.f boolS
  cases b <;> rfl
theorem keyS_size (K N : Int) (S : ByteArray) (hN : I64 N) : (keyS K N S).size ≤ S.size + 30 := by
  have hl := (itoa_len N hN).2
  have c1 : (⟨#[117, 110, 100, 101, 102, 105, 110, 101, 100]⟩ : ByteArray).size = 9 := rfl
  have c2 : (⟨#[110, 117, 108, 108]⟩ : ByteArray).size = 4 := rfl
  have c3 : (⟨#[116, 114, 117, 101]⟩ : ByteArray).size = 4 := rfl
  have c4 : (⟨#[102, 97, 108, 115, 101]⟩ : ByteArray).size = 5 := rfl
  have c5 : (⟨(Lib.itoa N).toArray⟩ : ByteArray).size = (Lib.itoa N).length := rfl
  have c6 : (⟨#[91, 111, 98, 106, 101, 99, 116, 93]⟩ : ByteArray).size = 8 := rfl
  unfold keyS
  repeat' split
  all_goals omega
def eqS (a b : VR) : Bool := a.1 == b.1 && (a.2.1 == b.2.1 && (a.2.2.toList == b.2.2.toList))
def mkS (n : Nat) (a b : VR) : VR :=
  if n = 98 then (if a.1 = 4 ∨ b.1 = 4 then (4, 0, keyS a.1 a.2.1 a.2.2 ++ keyS b.1 b.2.1 b.2.2) else (3, wrap64 (numS a.1 a.2.1 a.2.2 + numS b.1 b.2.1 b.2.2), ⟨#[]⟩))
  else if n = 102 then (3, wrap64 (numS a.1 a.2.1 a.2.2 - numS b.1 b.2.1 b.2.2), ⟨#[]⟩)
  else if n = 103 then (3, wrap64 (numS a.1 a.2.1 a.2.2 * numS b.1 b.2.1 b.2.2), ⟨#[]⟩)
  else if n = 104 then boolS (decide (cmpS a b < 0))
  else if n = 107 then boolS (decide (cmpS a b ≤ 0))
  else if n = 108 then boolS (eqS a b)
  else boolS (!eqS a b)
theorem mk_tells (n : Nat) (a b : VR) (ha : Fits a) (hb : Fits b) (hn : n = 98 ∨ n = 102 ∨ n = 103 ∨ n = 104 ∨ n = 107 ∨ n = 108 ∨ n = 109) :
    mkf 6 n a.1 a.2.1 a.2.2 b.1 b.2.1 b.2.2 = some (mkS n a b) := by
  have hc := vcmp_tells a b ha hb
  obtain ⟨a0, a1, a2⟩ := a
  obtain ⟨b0, b1, b2⟩ := b
  have h1 := vnum_tells a0 a1 a2 (by have := ha.size; simp only at this; omega)
  have h2 := vnum_tells b0 b1 b2 (by have := hb.size; simp only at this; omega)
  have k1 := vkey_tells a0 a1 a2 ha.num
  have k2 := vkey_tells b0 b1 b2 hb.num
  have z1 := keyS_size a0 a1 a2 ha.num
  have z2 := keyS_size b0 b1 b2 hb.num
  have sa : a2.size ≤ 140737488355328 := ha.size
  have sb : b2.size ≤ 140737488355328 := hb.size
  simp only at hc
  unfold mkf mkS
  simp only
  rcases hn with rfl | rfl | rfl | rfl | rfl | rfl | rfl
  · rw [if_pos rfl, if_pos rfl]
    unfold value_makers_1.f
    by_cases ka : a0 = 4
    · rw [if_pos ka, if_pos (.inl ka)]
      simp only [value_makers_1.j0, k1, k2, Option.bind_some, if_true]
      rw [if_pos (by omega)]
    · rw [if_neg ka]
      by_cases kb : b0 = 4
      · rw [if_pos (.inr kb), show (b0 == 4) = true from beq_iff_eq.mpr kb]
        simp only [value_makers_1.j0, k1, k2, Option.bind_some, if_true]
        rw [if_pos (by omega)]
      · rw [if_neg (by omega), show (b0 == 4) = false from beq_eq_false_iff_ne.mpr kb]
        simp [value_makers_1.j0, h1, h2, value_number.f]
  · simp [value_makers_2.f, h1, h2, value_number.f]
  · simp [value_makers_3.f, h1, h2, value_number.f]
  · simp [value_makers_4.f, hc, truth_tells, boolS]
  · simp [value_makers_5.f, hc, truth_tells, boolS]
  · simp [value_makers_6.f, truth_tells, boolS, eqS]
  · simp [value_makers_7.f, truth_tells, boolS, eqS]
def twoS (s : List UInt8) (a b : VR) : VR × Int := match sign s with
  | none => ((0, 0, ⟨#[]⟩), 60)
  | some n => if 65536 < (mkS n a b).2.2.size then ((0, 0, ⟨#[]⟩), 61) else (mkS n a b, 0)
theorem mkS_size (n : Nat) (a b : VR) (ha : Fits a) (hb : Fits b) : (mkS n a b).2.2.size ≤ 9223372036854775807 := by
  have z1 := keyS_size a.1 a.2.1 a.2.2 ha.num
  have z2 := keyS_size b.1 b.2.1 b.2.2 hb.num
  have sa := ha.size
  have sb := hb.size
  have e0 : (⟨#[]⟩ : ByteArray).size = 0 := rfl
  have e1 : (keyS a.1 a.2.1 a.2.2 ++ keyS b.1 b.2.1 b.2.2).size = (keyS a.1 a.2.1 a.2.2).size + (keyS b.1 b.2.1 b.2.2).size := ByteArray.size_append
  unfold mkS boolS
  repeat' split
  all_goals (first | (simp only [e0]; omega) | (simp only [e1]; omega))
theorem two_tells (s : ByteArray) (a b : VR) (hs : s.size ≤ maxLen) (ha : Fits a) (hb : Fits b) :
    value_Two.f 6 s a.1 a.2.1 a.2.2 b.1 b.2.1 b.2.2 = some ((twoS s.data.toList a b).1.1, (twoS s.data.toList a b).1.2.1, (twoS s.data.toList a b).1.2.2, (twoS s.data.toList a b).2) := by
  unfold value_Two.f twoS
  rw [if_pos hs]
  cases hg : sign s.data.toList with
  | none => rfl
  | some n =>
    simp only
    rw [mk_tells n a b ha hb (sign_cases hg), Option.bind_some, if_pos (mkS_size n a b ha hb)]
    split <;> rfl
end Go.Proofs.YtjlhhjfmekjbhaaGreatDoor.Va

/- What calls of the reference's functions do, without rounds. No condition. -/
namespace Go.Proofs.YtjlhhjfmekjbhaaGreatDoor.Va
open Go.RowKit Go.Proofs.YtjlhhjfmekjbhaaGreatDoorW.PrintWords Go.Proofs.YtjlhhjfmekjbhaaGreatDoorW.PrintLast Go.Proofs.YtjlhhjfmekjbhaaGreatDoorW.PrintMore Go.Proofs.YtjlhhjfmekjbhaaGreatDoor.Pr Go.Proofs.YtjlhhjfmekjbhaaGreatDoor.Ev
set_option linter.unusedVariables false
set_option linter.unusedSimpArgs false
def agg (a : VR) : Value := .agg #[.int .i64 a.1, .int .i64 a.2.1, .string a.2.2]
theorem vright_run (a : VR) (W : World) : Calls Tryz.prog 52 #[agg a] W fun e W' => e = .returned (.bool (rightS a.1 a.2.1 a.2.2)) ∧ Below W.heap.size W W' :=
  value_Right.calls 6 a.1 a.2.1 a.2.2 _ W (vright_tells _ _ _)
def negS (a : VR) : VR := (3, wrap64 (-numS a.1 a.2.1 a.2.2), ⟨#[]⟩)
theorem vtwo_run (s : ByteArray) (a b : VR) (hs : s.size ≤ maxLen) (ha : Fits a) (hb : Fits b) (W : World) (hL : Laid W) : Calls Tryz.prog 60 #[.string s, agg a, agg b] W fun e W' => e = .returned (.tuple #[agg (twoS s.data.toList a b).1, .int .i64 (twoS s.data.toList a b).2]) ∧ Below W.heap.size W W' :=
  value_Two.calls 6 s a.1 a.2.1 a.2.2 b.1 b.2.1 b.2.2 _ _ _ _ W hL (two_tells s a b hs ha hb)
end Go.Proofs.YtjlhhjfmekjbhaaGreatDoor.Va

/- The closed forms of the values' functions, as contracts that hprint takes. No condition. -/
namespace Go.Proofs.YtjlhhjfmekjbhaaGreatDoor.Vb
open Go.RowKit Go.Proofs.YtjlhhjfmekjbhaaGreatDoorW.PrintWords Go.Proofs.YtjlhhjfmekjbhaaGreatDoorW.PrintLast Go.Proofs.YtjlhhjfmekjbhaaGreatDoorW.PrintMore Go.Proofs.YtjlhhjfmekjbhaaGreatDoor.Va
set_option linter.unusedVariables false
set_option linter.unusedSimpArgs false
abbrev Laid (w : World) : Prop := Va.Laid w
theorem Laid.below {w w' : World} (h : Laid w) (hb : Below w.heap.size w w') : Laid w' := Va.Laid.below h hb
def FB (n : Int) (s : ByteArray) : Prop := (-9223372036854775808 ≤ n ∧ n ≤ 9223372036854775807) ∧ s.size ≤ 140737488355328
instance (n : Int) (s : ByteArray) : Decidable (FB n s) := inferInstanceAs (Decidable (_ ∧ _))
theorem FB.fits {k n : Int} {s : ByteArray} (h : FB n s) : Fits (k, n, s) := ⟨by have := h.1; simp only [I64]; omega, h.2⟩
def value_Right.f (a0 a1 : Int) (a2 : ByteArray) : Option (Bool) := some (rightS a0 a1 a2)
theorem value_Right.calls (a0_0 a0_1 : Int) (a0_2 : ByteArray) (r : Bool) (w : World) (h : value_Right.f a0_0 a0_1 a0_2 = some r) :
    Calls Tryz.prog 52 #[.agg #[.int .i64 a0_0, .int .i64 a0_1, .string a0_2]] w fun e w' => e = .returned (.bool r) ∧ Below w.heap.size w w' := by
  unfold value_Right.f at h
  cases h
  exact vright_run (a0_0, a0_1, a0_2) w
def value_Key.f (a0 a1 : Int) (a2 : ByteArray) : Option (ByteArray) := if FB a1 a2 then some (keyS a0 a1 a2) else none
def value_Num.f (a0 a1 : Int) (a2 : ByteArray) : Option (Int) := if FB a1 a2 then some (numS a0 a1 a2) else none
def q6_Right.f (a0 a1 : Int) (a2 : ByteArray) : Option (Bool) := some (rightS a0 a1 a2)
def q6_Key.f (a0 a1 : Int) (a2 : ByteArray) : Option (ByteArray) := if FB a1 a2 then some (keyS a0 a1 a2) else none
def q6_Num.f (a0 a1 : Int) (a2 : ByteArray) : Option (Int) := if FB a1 a2 then some (numS a0 a1 a2) else none
def q6_Neg.f (a0 a1 : Int) (a2 : ByteArray) : Option (Int × Int × ByteArray) := if FB a1 a2 then some (negS (a0, a1, a2)) else none
def q6_Not.f (a0 a1 : Int) (a2 : ByteArray) : Option (Int × Int × ByteArray) := if rightS a0 a1 a2 = true then some (boolS (!truthyS a0 a1 a2)) else none
def value_Two.f (s : ByteArray) (a0 a1 : Int) (a2 : ByteArray) (b0 b1 : Int) (b2 : ByteArray) : Option (Int × Int × ByteArray × Int) := if FB a1 a2 ∧ FB b1 b2 ∧ s.size ≤ maxLen then some ((twoS s.data.toList (a0, a1, a2) (b0, b1, b2)).1.1, (twoS s.data.toList (a0, a1, a2) (b0, b1, b2)).1.2.1, (twoS s.data.toList (a0, a1, a2) (b0, b1, b2)).1.2.2, (twoS s.data.toList (a0, a1, a2) (b0, b1, b2)).2) else none
theorem value_Two.calls (s : ByteArray) (a0 a1 : Int) (a2 : ByteArray) (b0 b1 : Int) (b2 : ByteArray) (r1 r2 : Int) (r3 : ByteArray) (r4 : Int) (w : World) (hL : Laid w) (h : value_Two.f s a0 a1 a2 b0 b1 b2 = some (r1, r2, r3, r4)) :
    Calls Tryz.prog 60 #[.string s, .agg #[.int .i64 a0, .int .i64 a1, .string a2], .agg #[.int .i64 b0, .int .i64 b1, .string b2]] w fun e w' => e = .returned (.tuple #[.agg #[.int .i64 r1, .int .i64 r2, .string r3], .int .i64 r4]) ∧ Below w.heap.size w w' := by
  unfold value_Two.f at h
  by_cases hc : FB a1 a2 ∧ FB b1 b2 ∧ s.size ≤ maxLen
  case neg => rw [if_neg hc] at h; cases h
  rw [if_pos hc] at h
  cases h
  exact vtwo_run s (a0, a1, a2) (b0, b1, b2) hc.2.2 hc.1.fits hc.2.1.fits w hL
def q6_Two.f (s : ByteArray) (a0 a1 : Int) (a2 : ByteArray) (b0 b1 : Int) (b2 : ByteArray) : Option (Int × Int × ByteArray × Int) := if FB a1 a2 ∧ FB b1 b2 then some ((twoS s.data.toList (a0, a1, a2) (b0, b1, b2)).1.1, (twoS s.data.toList (a0, a1, a2) (b0, b1, b2)).1.2.1, (twoS s.data.toList (a0, a1, a2) (b0, b1, b2)).1.2.2, (twoS s.data.toList (a0, a1, a2) (b0, b1, b2)).2) else none
def gumshoelaw06_text.f (s : ByteArray) : Option (Int × Int × ByteArray) := some (4, 0, s)
def gumshoelaw06_num.f (n : Int) : Option (Int × Int × ByteArray) := some (3, n, ⟨#[]⟩)
end Go.Proofs.YtjlhhjfmekjbhaaGreatDoor.Vb

namespace Go.Proofs.YtjlhhjfmekjbhaaGreatDoor.Pq
open Go.RowKit Go.Proofs.YtjlhhjfmekjbhaaGreatDoor.Vb Go.Proofs.YtjlhhjfmekjbhaaGreatDoorW.PrintWords Go.Proofs.YtjlhhjfmekjbhaaGreatDoorW.PrintLast Go.Proofs.YtjlhhjfmekjbhaaGreatDoorW.PrintMore
set_option linter.unusedVariables false
set_option linter.unusedSimpArgs false
/-! ### q9_sign: function 76 -/
def q9_sign.f (a0 : ByteArray) : Option (Bool) := (q6_Two.f a0 0 0 (⟨#[]⟩ : ByteArray) 0 0 (⟨#[]⟩ : ByteArray)).bind fun bt101 => (some (bt101.2.2.2 == 0))
end Go.Proofs.YtjlhhjfmekjbhaaGreatDoor.Pq

namespace Go.Proofs.YtjlhhjfmekjbhaaGreatDoor.Pq
open Go.RowKit Go.Proofs.YtjlhhjfmekjbhaaGreatDoorW.PrintWords Go.Proofs.YtjlhhjfmekjbhaaGreatDoorW.PrintLast Go.Proofs.YtjlhhjfmekjbhaaGreatDoorW.PrintMore
set_option linter.unusedVariables false
set_option linter.unusedSimpArgs false
/-! ### q9_number: function 77 -/
def q9_number.f (k : Nat) (a0_0 : Int) (a0_1 : Int) (a0_2 : Int) (a0_3 : Int) (a0_4 : Int) (a0_5 : ByteArray) (a0_6 : Int) (l0_7 : List Int) (a1 : ByteArray) (a2_0 : Int) (l2_1 : List (S31)) (a3 : Int) : Option (Bool) := (q9_has.f k a1 78).bind fun t108 => (if t108 = true then (some true) else ((q9_has.f k a1 118).bind fun t109 => (if t109 = true then (if a0_6 ≥ 0 then (if a0_6 < (wrap64 (a3 * 1000)) then (some (decide ((Int.tmod a0_6 1000) < 200))) else (some false)) else (some false)) else ((q9_has.f k a1 109).bind fun t110 => (if t110 = true then (if a0_6 ≥ 4 then (some (decide (a0_6 ≤ 1000000))) else (some false)) else ((q9_has.f k a1 102).bind fun t111 => (if t111 = true then (if a0_6 > 0 then (some (decide (a0_6 < a3))) else (some false)) else ((q9_has.f k a1 106).bind fun t112 => (if t112 = true then (if a0_6 ≥ 0 then (some (decide (a0_6 < (l2_1.length : Int)))) else (some false)) else (some (a0_6 == 0)))))))))))
end Go.Proofs.YtjlhhjfmekjbhaaGreatDoor.Pq

namespace Go.Proofs.YtjlhhjfmekjbhaaGreatDoor.Pq
open Go.RowKit Go.Proofs.YtjlhhjfmekjbhaaGreatDoor.Vb Go.Proofs.YtjlhhjfmekjbhaaGreatDoorW.PrintWords Go.Proofs.YtjlhhjfmekjbhaaGreatDoorW.PrintLast Go.Proofs.YtjlhhjfmekjbhaaGreatDoorW.PrintMore
set_option linter.unusedVariables false
set_option linter.unusedSimpArgs false
/-! ### q9_ins: function 26 -/
mutual
def q9_ins.j0 : Nat → Int → ByteArray → Bool → Int → Int → Int → Int → Int → ByteArray → Int → List Int → Int → List (S31) → Option (Bool)
 | 0, _, _, _, _, _, _, _, _, _, _, _, _, _ => none
 | k + 1, x2, x7, x8, x114000, x114001, x114002, x114003, x114004, x114005, x114006, x114007, x115000, x115001 => (q9_has.f k x7 114).bind fun t121 => (if t121 = true then (if x114002 ≥ (-1) then (q9_ins.j1 k x2 x7 (decide (x114002 < x115000)) x114000 x114001 x114002 x114003 x114004 x114005 x114006 x114007 x115000 x115001) else (q9_ins.j1 k x2 x7 false x114000 x114001 x114002 x114003 x114004 x114005 x114006 x114007 x115000 x115001)) else (q9_ins.j1 k x2 x7 x8 x114000 x114001 x114002 x114003 x114004 x114005 x114006 x114007 x115000 x115001))
def q9_ins.j1 : Nat → Int → ByteArray → Bool → Int → Int → Int → Int → Int → ByteArray → Int → List Int → Int → List (S31) → Option (Bool)
 | 0, _, _, _, _, _, _, _, _, _, _, _, _, _ => none
 | k + 1, x2, x7, x8, x114000, x114001, x114002, x114003, x114004, x114005, x114006, x114007, x115000, x115001 => (q9_has.f k x7 66).bind fun t122 => ((q9_reg.f x114003 t122 x115000).bind fun t123 => ((q9_has.f k x7 98).bind fun t124 => (if t124 = true then (if x114003 ≥ (-1) then (q9_ins.j2 k x2 x7 x8 (decide (x114003 < x115000)) x114000 x114001 x114002 x114003 x114004 x114005 x114006 x114007 x115000 x115001) else (q9_ins.j2 k x2 x7 x8 false x114000 x114001 x114002 x114003 x114004 x114005 x114006 x114007 x115000 x115001)) else (q9_ins.j2 k x2 x7 x8 t123 x114000 x114001 x114002 x114003 x114004 x114005 x114006 x114007 x115000 x115001))))
def q9_ins.j2 : Nat → Int → ByteArray → Bool → Bool → Int → Int → Int → Int → Int → ByteArray → Int → List Int → Int → List (S31) → Option (Bool)
 | 0, _, _, _, _, _, _, _, _, _, _, _, _, _, _ => none
 | k + 1, x2, x7, x8, x11, x114000, x114001, x114002, x114003, x114004, x114005, x114006, x114007, x115000, x115001 => if x114005.toList = ([] : List UInt8) then (q9_ins.j3 k x2 x7 x8 x11 true x114000 x114001 x114002 x114003 x114004 x114005 x114006 x114007 x115000 x115001) else ((q9_has.f k x7 83).bind fun t125 => (q9_ins.j3 k x2 x7 x8 x11 t125 x114000 x114001 x114002 x114003 x114004 x114005 x114006 x114007 x115000 x115001))
def q9_ins.j3 : Nat → Int → ByteArray → Bool → Bool → Bool → Int → Int → Int → Int → Int → ByteArray → Int → List Int → Int → List (S31) → Option (Bool)
 | 0, _, _, _, _, _, _, _, _, _, _, _, _, _, _, _ => none
 | k + 1, x2, x7, x8, x11, x12, x114000, x114001, x114002, x114003, x114004, x114005, x114006, x114007, x115000, x115001 => (q9_has.f k x7 115).bind fun t126 => (if t126 = true then ((q9_sign.f x114005).bind fun t127 => (q9_ins.j4 k x2 x7 x8 x11 t127 x114000 x114001 x114002 x114003 x114004 x114005 x114006 x114007 x115000 x115001)) else (q9_ins.j4 k x2 x7 x8 x11 x12 x114000 x114001 x114002 x114003 x114004 x114005 x114006 x114007 x115000 x115001))
def q9_ins.j4 : Nat → Int → ByteArray → Bool → Bool → Bool → Int → Int → Int → Int → Int → ByteArray → Int → List Int → Int → List (S31) → Option (Bool)
 | 0, _, _, _, _, _, _, _, _, _, _, _, _, _, _, _ => none
 | k + 1, x2, x7, x8, x11, x12, x114000, x114001, x114002, x114003, x114004, x114005, x114006, x114007, x115000, x115001 => if (x114007.length : Int) > 0 then ((q9_has.f k x7 76).bind fun t128 => (q9_ins.j5 k x2 x7 x8 x11 x12 (!t128) x114000 x114001 x114002 x114003 x114004 x114005 x114006 x114007 x115000 x115001)) else (q9_ins.j5 k x2 x7 x8 x11 x12 false x114000 x114001 x114002 x114003 x114004 x114005 x114006 x114007 x115000 x115001)
def q9_ins.j5 : Nat → Int → ByteArray → Bool → Bool → Bool → Bool → Int → Int → Int → Int → Int → ByteArray → Int → List Int → Int → List (S31) → Option (Bool)
 | 0, _, _, _, _, _, _, _, _, _, _, _, _, _, _, _, _ => none
 | k + 1, x2, x7, x8, x11, x12, x95, x114000, x114001, x114002, x114003, x114004, x114005, x114006, x114007, x115000, x115001 => if x95 = true then (some false) else (q9_ins.l0 k x2 x7 x8 x11 x12 0 x114000 x114001 x114002 x114003 x114004 x114005 x114006 x114007 x115000 x115001)
def q9_ins.l0 : Nat → Int → ByteArray → Bool → Bool → Bool → Int → Int → Int → Int → Int → Int → ByteArray → Int → List Int → Int → List (S31) → Option (Bool)
 | 0, _, _, _, _, _, _, _, _, _, _, _, _, _, _, _, _ => none
 | k + 1, x2, x7, x8, x11, x12, x13, x114000, x114001, x114002, x114003, x114004, x114005, x114006, x114007, x115000, x115001 => if x13 < (x114007.length : Int) then (if 0 ≤ x13 then (if (rd x114007 x13) < 0 then (some false) else (if (rd x114007 x13) ≥ x115000 then (some false) else (q9_ins.l0 k x2 x7 x8 x11 x12 (wrap64 (x13 + 1)) x114000 x114001 x114002 x114003 x114004 x114005 x114006 x114007 x115000 x115001))) else (none)) else ((q9_number.f k x114000 x114001 x114002 x114003 x114004 x114005 x114006 x114007 x7 x115000 x115001 x2).bind fun t131 => (if x8 = true then (if x11 = true then (if x12 = true then (if t131 = true then ((q9_has.f k x7 68).bind fun t132 => ((q9_reg.f x114001 t132 x115000).bind fun t133 => (if t133 = true then ((q9_has.f k x7 67).bind fun t134 => ((q9_reg.f x114004 t134 x115000).bind fun t135 => (some t135))) else (some false)))) else (some false)) else (some false)) else (some false)) else (some false)))
end
def q9_ins.f (k : Nat) (a0_0 : Int) (a0_1 : Int) (a0_2 : Int) (a0_3 : Int) (a0_4 : Int) (a0_5 : ByteArray) (a0_6 : Int) (l0_7 : List Int) (a1_0 : Int) (l1_1 : List (S31)) (a2 : Int) : Option (Bool) := (q9_names.f k a0_0).bind fun t115 => (if t115.toList = ([45] : List UInt8) then (some false) else ((q9_has.f k t115 65).bind fun t116 => ((q9_reg.f a0_2 t116 a1_0).bind fun t117 => ((q9_has.f k t115 97).bind fun t118 => (if t118 = true then ((q6_Right.f a0_2 a0_6 a0_5).bind fun t120 => (if t120 = true then (q9_ins.j0 k a2 t115 (a0_2 != 5) a0_0 a0_1 a0_2 a0_3 a0_4 a0_5 a0_6 l0_7 a1_0 l1_1) else (q9_ins.j0 k a2 t115 false a0_0 a0_1 a0_2 a0_3 a0_4 a0_5 a0_6 l0_7 a1_0 l1_1))) else (q9_ins.j0 k a2 t115 t117 a0_0 a0_1 a0_2 a0_3 a0_4 a0_5 a0_6 l0_7 a1_0 l1_1))))))
end Go.Proofs.YtjlhhjfmekjbhaaGreatDoor.Pq

namespace Go.Proofs.YtjlhhjfmekjbhaaGreatDoor.Pq
open Go.RowKit Go.Proofs.YtjlhhjfmekjbhaaGreatDoorW.PrintWords Go.Proofs.YtjlhhjfmekjbhaaGreatDoorW.PrintLast Go.Proofs.YtjlhhjfmekjbhaaGreatDoorW.PrintMore
set_option linter.unusedVariables false
set_option linter.unusedSimpArgs false
/-! ### q9_Right: function 13 -/
mutual
def q9_Right.l0 : Nat → List (S28) → Int → Option (Bool)
 | 0, _, _ => none
 | k + 1, x0, x3 => if x3 < (x0.length : Int) then (if 0 ≤ x3 then (if ((rd_T28 x0 x3).f0) < 0 then (q9_Right.j1 k x0 x3 (((rd_T28 x0 x3).f1).length : Int) true ((rd_T28 x0 x3).f0) ((rd_T28 x0 x3).f1)) else (if ((rd_T28 x0 x3).f0) > 60000 then (q9_Right.j1 k x0 x3 (((rd_T28 x0 x3).f1).length : Int) true ((rd_T28 x0 x3).f0) ((rd_T28 x0 x3).f1)) else (if (((rd_T28 x0 x3).f1).length : Int) < 1 then (q9_Right.j1 k x0 x3 (((rd_T28 x0 x3).f1).length : Int) true ((rd_T28 x0 x3).f0) ((rd_T28 x0 x3).f1)) else (if (((rd_T28 x0 x3).f1).length : Int) > 60000 then (q9_Right.j1 k x0 x3 (((rd_T28 x0 x3).f1).length : Int) true ((rd_T28 x0 x3).f0) ((rd_T28 x0 x3).f1)) else (if 0 ≤ (wrap64 ((((rd_T28 x0 x3).f1).length : Int) - 1)) then (if (wrap64 ((((rd_T28 x0 x3).f1).length : Int) - 1)) < (((rd_T28 x0 x3).f1).length : Int) then (q9_Right.j1 k x0 x3 (((rd_T28 x0 x3).f1).length : Int) (((rd_T31 ((rd_T28 x0 x3).f1) (wrap64 ((((rd_T28 x0 x3).f1).length : Int) - 1))).f0) != 20) ((rd_T28 x0 x3).f0) ((rd_T28 x0 x3).f1)) else (none)) else (none)))))) else (none)) else (some (decide ((x0.length : Int) > 0)))
def q9_Right.j1 : Nat → List (S28) → Int → Int → Bool → Int → List (S31) → Option (Bool)
 | 0, _, _, _, _, _, _ => none
 | k + 1, x0, x3, x5, x46, x138000, x138001 => if x46 = true then (some false) else (q9_Right.l1 k x0 x3 x5 0 x138000 x138001)
def q9_Right.l1 : Nat → List (S28) → Int → Int → Int → Int → List (S31) → Option (Bool)
 | 0, _, _, _, _, _, _ => none
 | k + 1, x0, x3, x5, x6, x138000, x138001 => if x6 < x5 then (if 0 ≤ x6 then (if x6 < (x138001.length : Int) then ((q9_ins.f k ((rd_T31 x138001 x6).f0) ((rd_T31 x138001 x6).f1) ((rd_T31 x138001 x6).f2) ((rd_T31 x138001 x6).f3) ((rd_T31 x138001 x6).f4) ((rd_T31 x138001 x6).f5) ((rd_T31 x138001 x6).f6) ((rd_T31 x138001 x6).f7) x138000 x138001 (x0.length : Int)).bind fun t140 => (if t140 = true then (q9_Right.l1 k x0 x3 x5 (wrap64 (x6 + 1)) x138000 x138001) else (some false))) else (none)) else (none)) else (q9_Right.l0 k x0 (wrap64 (x3 + 1)))
end
def q9_Right.f (k : Nat) (l0 : List (S28)) : Option (Bool) := q9_Right.l0 k l0 0
end Go.Proofs.YtjlhhjfmekjbhaaGreatDoor.Pq

namespace Go.Proofs.YtjlhhjfmekjbhaaGreatDoor.Pq
open Go.RowKit Go.Proofs.YtjlhhjfmekjbhaaGreatDoor.Vb Go.Proofs.YtjlhhjfmekjbhaaGreatDoorW.PrintWords Go.Proofs.YtjlhhjfmekjbhaaGreatDoorW.PrintLast Go.Proofs.YtjlhhjfmekjbhaaGreatDoorW.PrintMore
set_option linter.unusedVariables false
set_option linter.unusedSimpArgs false
/-! ### q9_num: function 35 -/
def q9_num.f (a0 : Int) : Option (ByteArray) := (q6_Key.f 3 a0 (⟨#[]⟩ : ByteArray)).bind fun t141 => (some t141)
end Go.Proofs.YtjlhhjfmekjbhaaGreatDoor.Pq

namespace Go.Proofs.YtjlhhjfmekjbhaaGreatDoor.Pq
open Go.RowKit Go.Proofs.YtjlhhjfmekjbhaaGreatDoorW.PrintWords Go.Proofs.YtjlhhjfmekjbhaaGreatDoorW.PrintLast Go.Proofs.YtjlhhjfmekjbhaaGreatDoorW.PrintMore
attribute [local go_sem] IntKind.wrap_u8
set_option linter.unusedVariables false
set_option linter.unusedSimpArgs false
/-! ### q2_Quote: function 36 -/
mutual
def q2_Quote.l0 : Nat → ByteArray → ByteArray → ByteArray → Int → Option (ByteArray)
 | 0, _, _, _, _ => none
 | k + 1, x0, x3, x4, x5 => if x5 < (x0.size : Int) then (if 0 ≤ x5 then (if (bt x0 x5) = 34 then (q2_Quote.j1 k x0 x3 x4 x5 (bt x0 x5) true) else (q2_Quote.j1 k x0 x3 x4 x5 (bt x0 x5) ((bt x0 x5) == 92))) else (none)) else (if x4.size + 1 ≤ 9223372036854775807 then (some (x4 ++ (⟨#[34]⟩ : ByteArray))) else (none))
def q2_Quote.j1 : Nat → ByteArray → ByteArray → ByteArray → Int → Int → Bool → Option (ByteArray)
 | 0, _, _, _, _, _, _ => none
 | k + 1, x0, x3, x4, x5, x6, x21 => if x21 = true then (if x4.size + 1 ≤ 9223372036854775807 then (if 0 ≤ x5 then (if x5 ≤ (wrap64 (x5 + 1)) then (if (wrap64 (x5 + 1)) ≤ (x0.size : Int) then (if (x4 ++ (⟨#[92]⟩ : ByteArray)).size + (x0.extract (x5 : Int).toNat ((wrap64 (x5 + 1)) : Int).toNat).size ≤ 9223372036854775807 then (q2_Quote.l0 k x0 x3 ((x4 ++ (⟨#[92]⟩ : ByteArray)) ++ (x0.extract (x5 : Int).toNat ((wrap64 (x5 + 1)) : Int).toNat)) (wrap64 (x5 + 1))) else (none)) else (none)) else (none)) else (none)) else (none)) else (if x6 = 10 then (if x4.size + 2 ≤ 9223372036854775807 then (q2_Quote.l0 k x0 x3 (x4 ++ (⟨#[92, 110]⟩ : ByteArray)) (wrap64 (x5 + 1))) else (none)) else (if x6 = 9 then (if x4.size + 2 ≤ 9223372036854775807 then (q2_Quote.l0 k x0 x3 (x4 ++ (⟨#[92, 116]⟩ : ByteArray)) (wrap64 (x5 + 1))) else (none)) else (if x6 ≥ 32 then (if x6 ≤ 126 then (if 0 ≤ x5 then (if x5 ≤ (wrap64 (x5 + 1)) then (if (wrap64 (x5 + 1)) ≤ (x0.size : Int) then (if x4.size + (x0.extract (x5 : Int).toNat ((wrap64 (x5 + 1)) : Int).toNat).size ≤ 9223372036854775807 then (q2_Quote.l0 k x0 x3 (x4 ++ (x0.extract (x5 : Int).toNat ((wrap64 (x5 + 1)) : Int).toNat)) (wrap64 (x5 + 1))) else (none)) else (none)) else (none)) else (none)) else (if x4.size + 2 ≤ 9223372036854775807 then (if 0 ≤ ((Int.tdiv x6 16) % 256) then (if ((Int.tdiv x6 16) % 256) ≤ ((((Int.tdiv x6 16) % 256) + 1) % 256) then (if ((((Int.tdiv x6 16) % 256) + 1) % 256) ≤ (x3.size : Int) then (if (x4 ++ (⟨#[92, 120]⟩ : ByteArray)).size + (x3.extract (((Int.tdiv x6 16) % 256) : Int).toNat (((((Int.tdiv x6 16) % 256) + 1) % 256) : Int).toNat).size ≤ 9223372036854775807 then (if 0 ≤ (Int.tmod x6 16) then (if (Int.tmod x6 16) ≤ (((Int.tmod x6 16) + 1) % 256) then (if (((Int.tmod x6 16) + 1) % 256) ≤ (x3.size : Int) then (if ((x4 ++ (⟨#[92, 120]⟩ : ByteArray)) ++ (x3.extract (((Int.tdiv x6 16) % 256) : Int).toNat (((((Int.tdiv x6 16) % 256) + 1) % 256) : Int).toNat)).size + (x3.extract ((Int.tmod x6 16) : Int).toNat ((((Int.tmod x6 16) + 1) % 256) : Int).toNat).size ≤ 9223372036854775807 then (q2_Quote.l0 k x0 x3 (((x4 ++ (⟨#[92, 120]⟩ : ByteArray)) ++ (x3.extract (((Int.tdiv x6 16) % 256) : Int).toNat (((((Int.tdiv x6 16) % 256) + 1) % 256) : Int).toNat)) ++ (x3.extract ((Int.tmod x6 16) : Int).toNat ((((Int.tmod x6 16) + 1) % 256) : Int).toNat)) (wrap64 (x5 + 1))) else (none)) else (none)) else (none)) else (none)) else (none)) else (none)) else (none)) else (none)) else (none))) else (if x4.size + 2 ≤ 9223372036854775807 then (if 0 ≤ ((Int.tdiv x6 16) % 256) then (if ((Int.tdiv x6 16) % 256) ≤ ((((Int.tdiv x6 16) % 256) + 1) % 256) then (if ((((Int.tdiv x6 16) % 256) + 1) % 256) ≤ (x3.size : Int) then (if (x4 ++ (⟨#[92, 120]⟩ : ByteArray)).size + (x3.extract (((Int.tdiv x6 16) % 256) : Int).toNat (((((Int.tdiv x6 16) % 256) + 1) % 256) : Int).toNat).size ≤ 9223372036854775807 then (if 0 ≤ (Int.tmod x6 16) then (if (Int.tmod x6 16) ≤ (((Int.tmod x6 16) + 1) % 256) then (if (((Int.tmod x6 16) + 1) % 256) ≤ (x3.size : Int) then (if ((x4 ++ (⟨#[92, 120]⟩ : ByteArray)) ++ (x3.extract (((Int.tdiv x6 16) % 256) : Int).toNat (((((Int.tdiv x6 16) % 256) + 1) % 256) : Int).toNat)).size + (x3.extract ((Int.tmod x6 16) : Int).toNat ((((Int.tmod x6 16) + 1) % 256) : Int).toNat).size ≤ 9223372036854775807 then (q2_Quote.l0 k x0 x3 (((x4 ++ (⟨#[92, 120]⟩ : ByteArray)) ++ (x3.extract (((Int.tdiv x6 16) % 256) : Int).toNat (((((Int.tdiv x6 16) % 256) + 1) % 256) : Int).toNat)) ++ (x3.extract ((Int.tmod x6 16) : Int).toNat ((((Int.tmod x6 16) + 1) % 256) : Int).toNat)) (wrap64 (x5 + 1))) else (none)) else (none)) else (none)) else (none)) else (none)) else (none)) else (none)) else (none)) else (none)))))
end
def q2_Quote.f (k : Nat) (a0 : ByteArray) : Option (ByteArray) := q2_Quote.l0 k a0 (⟨#[48, 49, 50, 51, 52, 53, 54, 55, 56, 57, 97, 98, 99, 100, 101, 102]⟩ : ByteArray) (⟨#[34]⟩ : ByteArray) 0
end Go.Proofs.YtjlhhjfmekjbhaaGreatDoor.Pq

namespace Go.Proofs.YtjlhhjfmekjbhaaGreatDoor.Pq
open Go.RowKit Go.Proofs.YtjlhhjfmekjbhaaGreatDoorW.PrintWords Go.Proofs.YtjlhhjfmekjbhaaGreatDoorW.PrintLast Go.Proofs.YtjlhhjfmekjbhaaGreatDoorW.PrintMore
set_option linter.unusedVariables false
set_option linter.unusedSimpArgs false
/-! ### q9_Show: function 15 -/
mutual
def q9_Show.l0 : Nat → List (S28) → ByteArray → Int → Option (ByteArray × Int)
 | 0, _, _, _ => none
 | k + 1, x0, x5, x6 => if x6 < (x0.length : Int) then (if x5.size + 5 ≤ 9223372036854775807 then (if 0 ≤ x6 then ((q9_num.f ((rd_T28 x0 x6).f0)).bind fun t144 => (if (x5 ++ (⟨#[112, 114, 111, 99, 32]⟩ : ByteArray)).size + t144.size ≤ 9223372036854775807 then (if ((x5 ++ (⟨#[112, 114, 111, 99, 32]⟩ : ByteArray)) ++ t144).size + 1 ≤ 9223372036854775807 then (q9_Show.l1 k x0 (((x5 ++ (⟨#[112, 114, 111, 99, 32]⟩ : ByteArray)) ++ t144) ++ (⟨#[10]⟩ : ByteArray)) x6 0) else (none)) else (none))) else (none)) else (none)) else (some (x5, 0))
def q9_Show.l1 : Nat → List (S28) → ByteArray → Int → Int → Option (ByteArray × Int)
 | 0, _, _, _, _ => none
 | k + 1, x0, x5, x6, x7 => if 0 ≤ x6 then (if x6 < (x0.length : Int) then (if x7 < (((rd_T28 x0 x6).f1).length : Int) then (if 0 ≤ x7 then ((q9_num.f ((rd_T31 ((rd_T28 x0 x6).f1) x7).f0)).bind fun t149 => (if x5.size + t149.size ≤ 9223372036854775807 then (if (x5 ++ t149).size + 1 ≤ 9223372036854775807 then ((q9_num.f ((rd_T31 ((rd_T28 x0 x6).f1) x7).f1)).bind fun t150 => (if ((x5 ++ t149) ++ (⟨#[32]⟩ : ByteArray)).size + t150.size ≤ 9223372036854775807 then (if (((x5 ++ t149) ++ (⟨#[32]⟩ : ByteArray)) ++ t150).size + 1 ≤ 9223372036854775807 then ((q9_num.f ((rd_T31 ((rd_T28 x0 x6).f1) x7).f2)).bind fun t151 => (if ((((x5 ++ t149) ++ (⟨#[32]⟩ : ByteArray)) ++ t150) ++ (⟨#[32]⟩ : ByteArray)).size + t151.size ≤ 9223372036854775807 then (if (((((x5 ++ t149) ++ (⟨#[32]⟩ : ByteArray)) ++ t150) ++ (⟨#[32]⟩ : ByteArray)) ++ t151).size + 1 ≤ 9223372036854775807 then ((q9_num.f ((rd_T31 ((rd_T28 x0 x6).f1) x7).f3)).bind fun t152 => (if ((((((x5 ++ t149) ++ (⟨#[32]⟩ : ByteArray)) ++ t150) ++ (⟨#[32]⟩ : ByteArray)) ++ t151) ++ (⟨#[32]⟩ : ByteArray)).size + t152.size ≤ 9223372036854775807 then (if (((((((x5 ++ t149) ++ (⟨#[32]⟩ : ByteArray)) ++ t150) ++ (⟨#[32]⟩ : ByteArray)) ++ t151) ++ (⟨#[32]⟩ : ByteArray)) ++ t152).size + 1 ≤ 9223372036854775807 then ((q9_num.f ((rd_T31 ((rd_T28 x0 x6).f1) x7).f4)).bind fun t153 => (if ((((((((x5 ++ t149) ++ (⟨#[32]⟩ : ByteArray)) ++ t150) ++ (⟨#[32]⟩ : ByteArray)) ++ t151) ++ (⟨#[32]⟩ : ByteArray)) ++ t152) ++ (⟨#[32]⟩ : ByteArray)).size + t153.size ≤ 9223372036854775807 then (if (((((((((x5 ++ t149) ++ (⟨#[32]⟩ : ByteArray)) ++ t150) ++ (⟨#[32]⟩ : ByteArray)) ++ t151) ++ (⟨#[32]⟩ : ByteArray)) ++ t152) ++ (⟨#[32]⟩ : ByteArray)) ++ t153).size + 1 ≤ 9223372036854775807 then ((q9_num.f ((rd_T31 ((rd_T28 x0 x6).f1) x7).f6)).bind fun t154 => (if ((((((((((x5 ++ t149) ++ (⟨#[32]⟩ : ByteArray)) ++ t150) ++ (⟨#[32]⟩ : ByteArray)) ++ t151) ++ (⟨#[32]⟩ : ByteArray)) ++ t152) ++ (⟨#[32]⟩ : ByteArray)) ++ t153) ++ (⟨#[32]⟩ : ByteArray)).size + t154.size ≤ 9223372036854775807 then (q9_Show.l2 k x0 (((((((((((x5 ++ t149) ++ (⟨#[32]⟩ : ByteArray)) ++ t150) ++ (⟨#[32]⟩ : ByteArray)) ++ t151) ++ (⟨#[32]⟩ : ByteArray)) ++ t152) ++ (⟨#[32]⟩ : ByteArray)) ++ t153) ++ (⟨#[32]⟩ : ByteArray)) ++ t154) x6 x7 0 ((rd_T31 ((rd_T28 x0 x6).f1) x7).f0) ((rd_T31 ((rd_T28 x0 x6).f1) x7).f1) ((rd_T31 ((rd_T28 x0 x6).f1) x7).f2) ((rd_T31 ((rd_T28 x0 x6).f1) x7).f3) ((rd_T31 ((rd_T28 x0 x6).f1) x7).f4) ((rd_T31 ((rd_T28 x0 x6).f1) x7).f5) ((rd_T31 ((rd_T28 x0 x6).f1) x7).f6) ((rd_T31 ((rd_T28 x0 x6).f1) x7).f7)) else (none))) else (none)) else (none))) else (none)) else (none))) else (none)) else (none))) else (none)) else (none))) else (none)) else (none))) else (none)) else (q9_Show.l0 k x0 x5 (wrap64 (x6 + 1)))) else (none)) else (none)
def q9_Show.l2 : Nat → List (S28) → ByteArray → Int → Int → Int → Int → Int → Int → Int → Int → ByteArray → Int → List Int → Option (ByteArray × Int)
 | 0, _, _, _, _, _, _, _, _, _, _, _, _, _ => none
 | k + 1, x0, x5, x6, x7, x9, x149000, x149001, x149002, x149003, x149004, x149005, x149006, x149007 => if x9 < (x149007.length : Int) then (if x5.size + 1 ≤ 9223372036854775807 then (if 0 ≤ x9 then ((q9_num.f (rd x149007 x9)).bind fun t156 => (if (x5 ++ (⟨#[32]⟩ : ByteArray)).size + t156.size ≤ 9223372036854775807 then (q9_Show.l2 k x0 ((x5 ++ (⟨#[32]⟩ : ByteArray)) ++ t156) x6 x7 (wrap64 (x9 + 1)) x149000 x149001 x149002 x149003 x149004 x149005 x149006 x149007) else (none))) else (none)) else (none)) else (if x5.size + 1 ≤ 9223372036854775807 then ((q2_Quote.f k x149005).bind fun t157 => (if (x5 ++ (⟨#[32]⟩ : ByteArray)).size + t157.size ≤ 9223372036854775807 then (if ((x5 ++ (⟨#[32]⟩ : ByteArray)) ++ t157).size + 1 ≤ 9223372036854775807 then (q9_Show.l1 k x0 (((x5 ++ (⟨#[32]⟩ : ByteArray)) ++ t157) ++ (⟨#[10]⟩ : ByteArray)) x6 (wrap64 (x7 + 1))) else (none)) else (none))) else (none))
end
def q9_Show.f (k : Nat) (l0 : List (S28)) : Option (ByteArray × Int) := (q9_Right.f k l0).bind fun t142 => (if t142 = true then (q9_Show.l0 k l0 (⟨#[]⟩ : ByteArray) 0) else (some ((⟨#[]⟩ : ByteArray), 90)))
end Go.Proofs.YtjlhhjfmekjbhaaGreatDoor.Pq

namespace Go.Proofs.YtjlhhjfmekjbhaaGreatDoor.Pq
open Go.RowKit Go.Proofs.YtjlhhjfmekjbhaaGreatDoorW.PrintWords Go.Proofs.YtjlhhjfmekjbhaaGreatDoorW.PrintLast Go.Proofs.YtjlhhjfmekjbhaaGreatDoorW.PrintMore
set_option linter.unusedVariables false
set_option linter.unusedSimpArgs false
/-! ### q9_sameIns: function 41 -/
def q9_sameIns.l0 : Nat → Int → Int → Int → Int → Int → Int → ByteArray → Int → List Int → Int → Int → Int → Int → Int → ByteArray → Int → List Int → Option (Bool)
 | 0, _, _, _, _, _, _, _, _, _, _, _, _, _, _, _, _, _ => none
 | k + 1, x5, x159000, x159001, x159002, x159003, x159004, x159005, x159006, x159007, x160000, x160001, x160002, x160003, x160004, x160005, x160006, x160007 => if x5 < (x159007.length : Int) then (if 0 ≤ x5 then (if x5 < (x160007.length : Int) then (if (rd x159007 x5) = (rd x160007 x5) then (q9_sameIns.l0 k (wrap64 (x5 + 1)) x159000 x159001 x159002 x159003 x159004 x159005 x159006 x159007 x160000 x160001 x160002 x160003 x160004 x160005 x160006 x160007) else (some false)) else (none)) else (none)) else (if x159000 = x160000 then (if x159001 = x160001 then (if x159002 = x160002 then (if x159003 = x160003 then (if x159004 = x160004 then (if x159005.toList = x160005.toList then (some (x159006 == x160006)) else (some false)) else (some false)) else (some false)) else (some false)) else (some false)) else (some false))
def q9_sameIns.f (k : Nat) (a0_0 : Int) (a0_1 : Int) (a0_2 : Int) (a0_3 : Int) (a0_4 : Int) (a0_5 : ByteArray) (a0_6 : Int) (l0_7 : List Int) (a1_0 : Int) (a1_1 : Int) (a1_2 : Int) (a1_3 : Int) (a1_4 : Int) (a1_5 : ByteArray) (a1_6 : Int) (l1_7 : List Int) : Option (Bool) := if (l0_7.length : Int) = (l1_7.length : Int) then (q9_sameIns.l0 k 0 a0_0 a0_1 a0_2 a0_3 a0_4 a0_5 a0_6 l0_7 a1_0 a1_1 a1_2 a1_3 a1_4 a1_5 a1_6 l1_7) else (some false)
end Go.Proofs.YtjlhhjfmekjbhaaGreatDoor.Pq

namespace Go.Proofs.YtjlhhjfmekjbhaaGreatDoor.Pq
open Go.RowKit Go.Proofs.YtjlhhjfmekjbhaaGreatDoorW.PrintWords Go.Proofs.YtjlhhjfmekjbhaaGreatDoorW.PrintLast Go.Proofs.YtjlhhjfmekjbhaaGreatDoorW.PrintMore
set_option linter.unusedVariables false
set_option linter.unusedSimpArgs false
/-! ### q9_Same: function 20 -/
mutual
def q9_Same.l0 : Nat → List (S28) → List (S28) → Int → Option (Bool)
 | 0, _, _, _ => none
 | k + 1, x0, x1, x5 => if x5 < (x0.length : Int) then (if 0 ≤ x5 then (if x5 < (x1.length : Int) then (if ((rd_T28 x0 x5).f0) = ((rd_T28 x1 x5).f0) then (q9_Same.j1 k x0 x1 x5 ((((rd_T28 x0 x5).f1).length : Int) != (((rd_T28 x1 x5).f1).length : Int))) else (q9_Same.j1 k x0 x1 x5 true)) else (none)) else (none)) else (some true)
def q9_Same.j1 : Nat → List (S28) → List (S28) → Int → Bool → Option (Bool)
 | 0, _, _, _, _ => none
 | k + 1, x0, x1, x5, x43 => if x43 = true then (some false) else (q9_Same.l1 k x0 x1 x5 0)
def q9_Same.l1 : Nat → List (S28) → List (S28) → Int → Int → Option (Bool)
 | 0, _, _, _, _ => none
 | k + 1, x0, x1, x5, x6 => if 0 ≤ x5 then (if x5 < (x0.length : Int) then (if x6 < (((rd_T28 x0 x5).f1).length : Int) then (if 0 ≤ x6 then (if x5 < (x1.length : Int) then (if x6 < (((rd_T28 x1 x5).f1).length : Int) then ((q9_sameIns.f k ((rd_T31 ((rd_T28 x0 x5).f1) x6).f0) ((rd_T31 ((rd_T28 x0 x5).f1) x6).f1) ((rd_T31 ((rd_T28 x0 x5).f1) x6).f2) ((rd_T31 ((rd_T28 x0 x5).f1) x6).f3) ((rd_T31 ((rd_T28 x0 x5).f1) x6).f4) ((rd_T31 ((rd_T28 x0 x5).f1) x6).f5) ((rd_T31 ((rd_T28 x0 x5).f1) x6).f6) ((rd_T31 ((rd_T28 x0 x5).f1) x6).f7) ((rd_T31 ((rd_T28 x1 x5).f1) x6).f0) ((rd_T31 ((rd_T28 x1 x5).f1) x6).f1) ((rd_T31 ((rd_T28 x1 x5).f1) x6).f2) ((rd_T31 ((rd_T28 x1 x5).f1) x6).f3) ((rd_T31 ((rd_T28 x1 x5).f1) x6).f4) ((rd_T31 ((rd_T28 x1 x5).f1) x6).f5) ((rd_T31 ((rd_T28 x1 x5).f1) x6).f6) ((rd_T31 ((rd_T28 x1 x5).f1) x6).f7)).bind fun t171 => (if t171 = true then (q9_Same.l1 k x0 x1 x5 (wrap64 (x6 + 1))) else (some false))) else (none)) else (none)) else (none)) else (q9_Same.l0 k x0 x1 (wrap64 (x5 + 1)))) else (none)) else (none)
end
def q9_Same.f (k : Nat) (l0 : List (S28)) (l1 : List (S28)) : Option (Bool) := if (l0.length : Int) = (l1.length : Int) then (q9_Same.l0 k l0 l1 0) else (some false)
end Go.Proofs.YtjlhhjfmekjbhaaGreatDoor.Pq

namespace Go.Proofs.YtjlhhjfmekjbhaaGreatDoor.Pq
open Go.RowKit Go.Proofs.YtjlhhjfmekjbhaaGreatDoorW.PrintWords Go.Proofs.YtjlhhjfmekjbhaaGreatDoorW.PrintLast Go.Proofs.YtjlhhjfmekjbhaaGreatDoorW.PrintMore
set_option linter.unusedVariables false
set_option linter.unusedSimpArgs false
/-! ### q9_Marks: function 18 -/
mutual
def q9_Marks.l0 : Nat → List (S28) → List Int → Int → Option (List Int)
 | 0, _, _, _ => none
 | k + 1, x0, x3, x4 => if x4 < (x0.length : Int) then (q9_Marks.l1 k x0 x3 x4 0) else (some x3)
def q9_Marks.l1 : Nat → List (S28) → List Int → Int → Int → Option (List Int)
 | 0, _, _, _, _ => none
 | k + 1, x0, x3, x4, x5 => if 0 ≤ x4 then (if x4 < (x0.length : Int) then (if x5 < (((rd_T28 x0 x4).f1).length : Int) then (if 0 ≤ x5 then (if ((rd_T31 ((rd_T28 x0 x4).f1) x5).f0) = 6 then (if x3.length < 17592186044416 then (q9_Marks.l1 k x0 (x3 ++ [(rd_T31 ((rd_T28 x0 x4).f1) x5).f6]) x4 (wrap64 (x5 + 1))) else (none)) else (if ((rd_T31 ((rd_T28 x0 x4).f1) x5).f0) = 12 then (if x3.length < 17592186044416 then (q9_Marks.l1 k x0 (x3 ++ [(rd_T31 ((rd_T28 x0 x4).f1) x5).f6]) x4 (wrap64 (x5 + 1))) else (none)) else (if ((rd_T31 ((rd_T28 x0 x4).f1) x5).f0) = 13 then (if x3.length < 17592186044416 then (q9_Marks.l1 k x0 (x3 ++ [(rd_T31 ((rd_T28 x0 x4).f1) x5).f6]) x4 (wrap64 (x5 + 1))) else (none)) else (q9_Marks.l1 k x0 x3 x4 (wrap64 (x5 + 1)))))) else (none)) else (q9_Marks.l0 k x0 x3 (wrap64 (x4 + 1)))) else (none)) else (none)
end
def q9_Marks.f (k : Nat) (l0 : List (S28)) : Option (List Int) := q9_Marks.l0 k l0 ([] : List Int) 0
end Go.Proofs.YtjlhhjfmekjbhaaGreatDoor.Pq

namespace Go.Proofs.YtjlhhjfmekjbhaaGreatDoor.Pq
open Go.RowKit Go.Proofs.YtjlhhjfmekjbhaaGreatDoorW.PrintWords Go.Proofs.YtjlhhjfmekjbhaaGreatDoorW.PrintLast Go.Proofs.YtjlhhjfmekjbhaaGreatDoorW.PrintMore
set_option linter.unusedVariables false
set_option linter.unusedSimpArgs false
/-! ### v9_Small: function 11 -/
mutual
def v9_Small.l0 : Nat → List (S28) → Int → Option (Int)
 | 0, _, _ => none
 | k + 1, x0, x3 => if x3 < (x0.length : Int) then (if 0 ≤ x3 then (if (((rd_T28 x0 x3).f1).length : Int) > 60 then (some 0) else (v9_Small.l1 k x0 x3 0)) else (none)) else (some 1)
def v9_Small.l1 : Nat → List (S28) → Int → Int → Option (Int)
 | 0, _, _, _ => none
 | k + 1, x0, x3, x4 => if 0 ≤ x3 then (if x3 < (x0.length : Int) then (if x4 < (((rd_T28 x0 x3).f1).length : Int) then (if 0 ≤ x4 then (if (((rd_T31 ((rd_T28 x0 x3).f1) x4).f7).length : Int) > 20 then (some 0) else (if (((rd_T31 ((rd_T28 x0 x3).f1) x4).f5).size : Int) > 100 then (some 0) else (v9_Small.l1 k x0 x3 (wrap64 (x4 + 1))))) else (none)) else (v9_Small.l0 k x0 (wrap64 (x3 + 1)))) else (none)) else (none)
end
def v9_Small.f (k : Nat) (l0 : List (S28)) : Option (Int) := if (l0.length : Int) > 15 then (some 0) else (v9_Small.l0 k l0 0)
end Go.Proofs.YtjlhhjfmekjbhaaGreatDoor.Pq

namespace Go.Proofs.YtjlhhjfmekjbhaaGreatDoor.Pq
open Go.RowKit Go.Proofs.YtjlhhjfmekjbhaaGreatDoorW.PrintWords Go.Proofs.YtjlhhjfmekjbhaaGreatDoorW.PrintLast Go.Proofs.YtjlhhjfmekjbhaaGreatDoorW.PrintMore
set_option linter.unusedVariables false
set_option linter.unusedSimpArgs false
/-! ### q1_Same: function 16 -/
def q1_Same.l0 : Nat → List Int → List Int → Int → Option (Bool)
 | 0, _, _, _ => none
 | k + 1, x0, x1, x5 => if x5 < (x0.length : Int) then (if 0 ≤ x5 then (if x5 < (x1.length : Int) then (if (rd x0 x5) = (rd x1 x5) then (q1_Same.l0 k x0 x1 (wrap64 (x5 + 1))) else (some false)) else (none)) else (none)) else (some true)
def q1_Same.f (k : Nat) (l0 : List Int) (l1 : List Int) : Option (Bool) := if (l0.length : Int) = (l1.length : Int) then (q1_Same.l0 k l0 l1 0) else (some false)
end Go.Proofs.YtjlhhjfmekjbhaaGreatDoor.Pq

namespace Go.Proofs.YtjlhhjfmekjbhaaGreatDoor.Pq
open Go.RowKit Go.Proofs.YtjlhhjfmekjbhaaGreatDoorW.PrintWords Go.Proofs.YtjlhhjfmekjbhaaGreatDoorW.PrintLast Go.Proofs.YtjlhhjfmekjbhaaGreatDoorW.PrintMore
set_option linter.unusedVariables false
set_option linter.unusedSimpArgs false
/-! ### code_isReg: function 50 -/
def code_isReg.f (a0 : Int) (a1_0 : Int) (l1_1 : List (S31)) (a1_2 : Int) : Option (Bool) := if a0 ≥ 0 then (some (decide (a0 < a1_0))) else (some false)
set_option maxHeartbeats 8000000 in
set_option maxRecDepth 100000 in
theorem code_isReg.calls (a0 : Int) (a1_0 : Int) (A1_1 : Option Addr) (c1_1 : Nat) (l1_1 : List (S31)) (a1_2 : Int) (r : Bool) (w : World) (hr1_1 : Kd.C k31 w A1_1 l1_1.length l1_1) (hc1_1 : l1_1.length ≤ c1_1) (h : code_isReg.f a0 a1_0 l1_1 a1_2 = some r) :
  Calls Tryz.prog 50 #[.int .i64 a0, .agg #[.int .i64 a1_0, .slice A1_1 l1_1.length c1_1, .int .i64 a1_2]] w fun e w' => e = .returned (.bool r) ∧ Below w.heap.size w w' := by
 have hu49 := Tryz.underlying49
 have HR1_1 := Aside0.mk hr1_1
 have HC1_1 := Aside0.mk hc1_1
 clear hr1_1 hc1_1
 have HB := Aside0.mk (Below.refl w.heap.size w)
 have H : (if a0 ≥ 0 then (some (decide (a0 < a1_0))) else (some false)) = some r := h
 clear h
 by_cases c3 : a0 ≥ 0
 ·rw [if_pos c3] at H
  have c3b0 : decide (0 ≤ a0) = true := decide_eq_true c3
  clear c3
  obtain rfl := Option.some.inj H
  go_enter Tryz.func50, Tryz.ntmps50
  go_wp2_with (first | ((with_reducible refine gate_dst (N := 3) rfl ?_); refine zX (N := 3) (cs := #[.int .i64 a1_0, .slice A1_1 l1_1.length c1_1, .int .i64 a1_2]) (t := 49) (h := ?_); intro gb193 hg w4 hbox hb; have BK193 := Aside0.mk hbox; have GW193 := Aside0.mk ((zS : w.heap.size ≤ gb193)); have GE193 := Aside0.mk ((zS : w.heap.size ≤ gb193)); replace HB := Aside0.mk (below_step zB hb); clear hb hbox hg; obtain ⟨hcz5_0, hcz5_1, hcz5_2, hfz5_0, hfz5_1, hfz5_2⟩ := zd3 BK193.out (.int .i64 a1_0) (.slice A1_1 l1_1.length c1_1) (.int .i64 a1_2)))
  go_ret
  exact ⟨zE, zG⟩
 ·rw [if_neg c3] at H
  have c3b0 : decide (0 ≤ a0) = false := decide_eq_false c3
  clear c3
  obtain rfl := Option.some.inj H
  go_enter Tryz.func50, Tryz.ntmps50
  go_wp2_with (first | ((with_reducible refine gate_dst (N := 3) rfl ?_); refine zX (N := 3) (cs := #[.int .i64 a1_0, .slice A1_1 l1_1.length c1_1, .int .i64 a1_2]) (t := 49) (h := ?_); intro gb193 hg w6 hbox hb; have BK193 := Aside0.mk hbox; have GW193 := Aside0.mk ((zS : w.heap.size ≤ gb193)); have GE193 := Aside0.mk ((zS : w.heap.size ≤ gb193)); replace HB := Aside0.mk (below_step zB hb); clear hb hbox hg))
  go_ret
  exact ⟨zE, zG⟩
/-! ### code_namesD: function 46 -/
def code_namesD.f (a0_0 : Int) (a0_1 : Int) (a0_2 : Int) (a0_3 : Int) (a0_4 : Int) (a0_5 : ByteArray) (a0_6 : Int) (l0_7 : List Int) (a1_0 : Int) (l1_1 : List (S31)) (a1_2 : Int) : Option (Bool) := (code_isReg.f a0_1 a1_0 l1_1 a1_2).bind fun t196 => (some t196)
set_option maxHeartbeats 8000000 in
set_option maxRecDepth 100000 in
theorem code_namesD.calls (a0_0 : Int) (a0_1 : Int) (a0_2 : Int) (a0_3 : Int) (a0_4 : Int) (a0_5 : ByteArray) (a0_6 : Int) (A0_7 : Option Addr) (c0_7 : Nat) (l0_7 : List Int) (a1_0 : Int) (A1_1 : Option Addr) (c1_1 : Nat) (l1_1 : List (S31)) (a1_2 : Int) (r : Bool) (w : World) (hr0_7 : Kd.C (Kd.int .i64) w A0_7 l0_7.length l0_7) (hc0_7 : l0_7.length ≤ c0_7) (hr1_1 : Kd.C k31 w A1_1 l1_1.length l1_1) (hc1_1 : l1_1.length ≤ c1_1) (h : code_namesD.f a0_0 a0_1 a0_2 a0_3 a0_4 a0_5 a0_6 l0_7 a1_0 l1_1 a1_2 = some r) :
  Calls Tryz.prog 46 #[.agg #[.int .i64 a0_0, .int .i64 a0_1, .int .i64 a0_2, .int .i64 a0_3, .int .i64 a0_4, .string a0_5, .int .i64 a0_6, .slice A0_7 l0_7.length c0_7], .agg #[.int .i64 a1_0, .slice A1_1 l1_1.length c1_1, .int .i64 a1_2]] w fun e w' => e = .returned (.bool r) ∧ Below w.heap.size w w' := by
 have hu31 := Tryz.underlying31
 have hu49 := Tryz.underlying49
 have HR0_7 := Aside0.mk hr0_7
 have HC0_7 := Aside0.mk hc0_7
 clear hr0_7 hc0_7
 have HR1_1 := Aside0.mk hr1_1
 have HC1_1 := Aside0.mk hc1_1
 clear hr1_1 hc1_1
 have HB := Aside0.mk (Below.refl w.heap.size w)
 have H : ((code_isReg.f a0_1 a1_0 l1_1 a1_2).bind fun t196 => (some t196)) = some r := h
 clear h
 obtain ⟨t196, A3, H⟩ := zO H
 obtain rfl := Option.some.inj H
 go_enter Tryz.func46, Tryz.ntmps46
 go_wp2_with (first | ((with_reducible refine gate_dst (N := 2) rfl ?_); refine zX (N := 2) (cs := #[.int .i64 a0_0, .int .i64 a0_1, .int .i64 a0_2, .int .i64 a0_3, .int .i64 a0_4, .string a0_5, .int .i64 a0_6, .slice A0_7 l0_7.length c0_7]) (t := 31) (h := ?_); intro gb194 hg w4 hbox hb; have BK194 := Aside0.mk hbox; have GW194 := Aside0.mk ((zS : w.heap.size ≤ gb194)); have GE194 := Aside0.mk ((zS : w.heap.size ≤ gb194)); replace HB := Aside0.mk (below_step zB hb); clear hb hbox hg) | ((with_reducible refine gate_dst (N := 3) rfl ?_); refine zX (N := 3) (cs := #[.int .i64 a1_0, .slice A1_1 l1_1.length c1_1, .int .i64 a1_2]) (t := 49) (h := ?_); intro gb195 hg w5 hbox hb; have BK195 := Aside0.mk hbox; have GW195 := Aside0.mk ((zT : w.heap.size ≤ gb195)); have GE195 := Aside0.mk ((zT : w.heap.size ≤ gb195)); have NB194_195 := Aside0.mk ((zL : gb194 ≠ gb195)); have NB195_194 := Aside0.mk ((zM : gb195 ≠ gb194)); replace BK194 := Aside0.mk (blk_below (g := gb194) zK hb); replace HB := Aside0.mk (below_step zG hb); clear hb hbox hg; have hnb6 := NB194_195.out; have hnc6 := NB195_194.out; obtain ⟨hcz7_0, hcz7_1, hcz7_2, hcz7_3, hcz7_4, hcz7_5, hcz7_6, hcz7_7, hfz7_0, hfz7_1, hfz7_2, hfz7_3, hfz7_4, hfz7_5, hfz7_6, hfz7_7⟩ := zd8 BK194.out (.int .i64 a0_0) (.int .i64 a0_1) (.int .i64 a0_2) (.int .i64 a0_3) (.int .i64 a0_4) (.string a0_5) (.int .i64 a0_6) (.slice A0_7 l0_7.length c0_7); obtain ⟨hcz8_0, hcz8_1, hcz8_2, hfz8_0, hfz8_1, hfz8_2⟩ := zd3 BK195.out (.int .i64 a1_0) (.slice A1_1 l1_1.length c1_1) (.int .i64 a1_2)) | ((with_reducible refine gate_callee (f := 50) rfl ?_); refine goesL_ (some 8) rfl rfl Tryz.func50 (by kernel_rfl) rfl #[.int .i64 a0_1, .agg #[.int .i64 a1_0, .slice A1_1 l1_1.length c1_1, .int .i64 a1_2]] rfl zP ?_; (with_reducible refine (code_isReg.calls a0_1 a1_0 _ _ l1_1 a1_2 t196 _ ?side1 ?side2 A3.out).mono ?_); (case side1 => repeat (first | exact (Kd.C_below HR1_1.out HB.out) | (with_reducible refine Kd.C_alloc ?_ _) | (with_reducible refine Kd.C_drewN ?_ _) | (with_reducible refine Kd.C_drew ?_))); (case side2 => exact HC1_1.out); rintro e w9 ⟨rfl, hb⟩; refine ⟨_, rfl, ?_⟩; replace BK194 := Aside0.mk (blk_below (g := gb194) zK hb); replace BK195 := Aside0.mk (blk_below (g := gb195) zK hb); replace HB := Aside0.mk (below_step zG hb); (try clear hb)))
 go_ret
 exact ⟨zE, zG⟩
/-! ### code_namesA: function 48 -/
def code_namesA.f (a0_0 : Int) (a0_1 : Int) (a0_2 : Int) (a0_3 : Int) (a0_4 : Int) (a0_5 : ByteArray) (a0_6 : Int) (l0_7 : List Int) (a1_0 : Int) (l1_1 : List (S31)) (a1_2 : Int) : Option (Bool) := (code_isReg.f a0_2 a1_0 l1_1 a1_2).bind fun t199 => (some t199)
set_option maxHeartbeats 8000000 in
set_option maxRecDepth 100000 in
theorem code_namesA.calls (a0_0 : Int) (a0_1 : Int) (a0_2 : Int) (a0_3 : Int) (a0_4 : Int) (a0_5 : ByteArray) (a0_6 : Int) (A0_7 : Option Addr) (c0_7 : Nat) (l0_7 : List Int) (a1_0 : Int) (A1_1 : Option Addr) (c1_1 : Nat) (l1_1 : List (S31)) (a1_2 : Int) (r : Bool) (w : World) (hr0_7 : Kd.C (Kd.int .i64) w A0_7 l0_7.length l0_7) (hc0_7 : l0_7.length ≤ c0_7) (hr1_1 : Kd.C k31 w A1_1 l1_1.length l1_1) (hc1_1 : l1_1.length ≤ c1_1) (h : code_namesA.f a0_0 a0_1 a0_2 a0_3 a0_4 a0_5 a0_6 l0_7 a1_0 l1_1 a1_2 = some r) :
  Calls Tryz.prog 48 #[.agg #[.int .i64 a0_0, .int .i64 a0_1, .int .i64 a0_2, .int .i64 a0_3, .int .i64 a0_4, .string a0_5, .int .i64 a0_6, .slice A0_7 l0_7.length c0_7], .agg #[.int .i64 a1_0, .slice A1_1 l1_1.length c1_1, .int .i64 a1_2]] w fun e w' => e = .returned (.bool r) ∧ Below w.heap.size w w' := by
 have hu31 := Tryz.underlying31
 have hu49 := Tryz.underlying49
 have HR0_7 := Aside0.mk hr0_7
 have HC0_7 := Aside0.mk hc0_7
 clear hr0_7 hc0_7
 have HR1_1 := Aside0.mk hr1_1
 have HC1_1 := Aside0.mk hc1_1
 clear hr1_1 hc1_1
 have HB := Aside0.mk (Below.refl w.heap.size w)
 have H : ((code_isReg.f a0_2 a1_0 l1_1 a1_2).bind fun t199 => (some t199)) = some r := h
 clear h
 obtain ⟨t199, A3, H⟩ := zO H
 obtain rfl := Option.some.inj H
 go_enter Tryz.func48, Tryz.ntmps48
 go_wp2_with (first | ((with_reducible refine gate_dst (N := 2) rfl ?_); refine zX (N := 2) (cs := #[.int .i64 a0_0, .int .i64 a0_1, .int .i64 a0_2, .int .i64 a0_3, .int .i64 a0_4, .string a0_5, .int .i64 a0_6, .slice A0_7 l0_7.length c0_7]) (t := 31) (h := ?_); intro gb197 hg w4 hbox hb; have BK197 := Aside0.mk hbox; have GW197 := Aside0.mk ((zS : w.heap.size ≤ gb197)); have GE197 := Aside0.mk ((zS : w.heap.size ≤ gb197)); replace HB := Aside0.mk (below_step zB hb); clear hb hbox hg) | ((with_reducible refine gate_dst (N := 3) rfl ?_); refine zX (N := 3) (cs := #[.int .i64 a1_0, .slice A1_1 l1_1.length c1_1, .int .i64 a1_2]) (t := 49) (h := ?_); intro gb198 hg w5 hbox hb; have BK198 := Aside0.mk hbox; have GW198 := Aside0.mk ((zT : w.heap.size ≤ gb198)); have GE198 := Aside0.mk ((zT : w.heap.size ≤ gb198)); have NB197_198 := Aside0.mk ((zL : gb197 ≠ gb198)); have NB198_197 := Aside0.mk ((zM : gb198 ≠ gb197)); replace BK197 := Aside0.mk (blk_below (g := gb197) zK hb); replace HB := Aside0.mk (below_step zG hb); clear hb hbox hg; have hnb6 := NB197_198.out; have hnc6 := NB198_197.out; obtain ⟨hcz7_0, hcz7_1, hcz7_2, hcz7_3, hcz7_4, hcz7_5, hcz7_6, hcz7_7, hfz7_0, hfz7_1, hfz7_2, hfz7_3, hfz7_4, hfz7_5, hfz7_6, hfz7_7⟩ := zd8 BK197.out (.int .i64 a0_0) (.int .i64 a0_1) (.int .i64 a0_2) (.int .i64 a0_3) (.int .i64 a0_4) (.string a0_5) (.int .i64 a0_6) (.slice A0_7 l0_7.length c0_7); obtain ⟨hcz8_0, hcz8_1, hcz8_2, hfz8_0, hfz8_1, hfz8_2⟩ := zd3 BK198.out (.int .i64 a1_0) (.slice A1_1 l1_1.length c1_1) (.int .i64 a1_2)) | ((with_reducible refine gate_callee (f := 50) rfl ?_); refine goesL_ (some 8) rfl rfl Tryz.func50 (by kernel_rfl) rfl #[.int .i64 a0_2, .agg #[.int .i64 a1_0, .slice A1_1 l1_1.length c1_1, .int .i64 a1_2]] rfl zP ?_; (with_reducible refine (code_isReg.calls a0_2 a1_0 _ _ l1_1 a1_2 t199 _ ?side1 ?side2 A3.out).mono ?_); (case side1 => repeat (first | exact (Kd.C_below HR1_1.out HB.out) | (with_reducible refine Kd.C_alloc ?_ _) | (with_reducible refine Kd.C_drewN ?_ _) | (with_reducible refine Kd.C_drew ?_))); (case side2 => exact HC1_1.out); rintro e w9 ⟨rfl, hb⟩; refine ⟨_, rfl, ?_⟩; replace BK197 := Aside0.mk (blk_below (g := gb197) zK hb); replace BK198 := Aside0.mk (blk_below (g := gb198) zK hb); replace HB := Aside0.mk (below_step zG hb); (try clear hb)))
 go_ret
 exact ⟨zE, zG⟩
end Go.Proofs.YtjlhhjfmekjbhaaGreatDoor.Pq

