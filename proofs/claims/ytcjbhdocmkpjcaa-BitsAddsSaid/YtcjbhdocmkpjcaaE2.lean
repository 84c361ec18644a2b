/- slices.Grow of nil, slices.Concat, slices.Sort and slices.Compact of a list of one's own; bits.Union. -/
import Derived.Test.YtcjbhdocmkpjcaaE1
import Derived.Test.YtcjbhdocmkpjcaaShelf
import Derived.Sort.OwnSortedInts
import Derived.Lib.OwnBridge
import Derived.Lib.SlicesCompact
import Derived.Lib.RowBridge
namespace Go.Proofs.Ytcjbhdocmkpjcaa.Ext
open Go.RowKit Go.Proofs.YtcjbhdocmkpjcaaW.PrintWords Go.Proofs.YtcjbhdocmkpjcaaW.PrintLast Go.Proofs.Ytcjbhdocmkpjcaa.Pr Go.Proofs.Ytcjbhdocmkpjcaa.Base
set_option linter.unusedVariables false
set_option linter.unusedSimpArgs false

abbrev OwnI (W : World) (base : Nat) (v : Value) (xs : List Int) : Prop := Kd.R (Kd.int .i64) 3 W base (fun _ => True) v xs

theorem infoI : (Try.prog.info? 3).map (fun i => (i.zero, i.size, i.bytes)) = some (some (.int .i64 0), 1, 8) := by kernel_rfl

theorem own_slice3 {w : World} {base : Nat} {v : Value} {xs : List Int} (h : OwnI w base v xs) : ∃ A c, v = .slice A xs.length c ∧ xs.length ≤ c ∧ c ≤ 9223372036854775807 := by
  have ho := Kd.own_of_R h
  rcases ho.2 with ⟨rfl, h0⟩ | ⟨g, cap, cur, rfl, _, _, h1, h2, _⟩
  · exact ⟨none, 0, by rw [h0], by omega, by omega⟩
  · exact ⟨_, cap, rfl, h1, h2⟩

def OwnPost (w : World) (xs : List Int) (e : Ending) (w' : World) : Prop := ∃ v : Value, e = .returned v ∧ OwnI w' w.heap.size v xs ∧ Below w.heap.size w w'

set_option maxHeartbeats 400000 in
theorem grow_nil (n : Int) (w : World) (h0 : 0 ≤ n) (hn : n ≤ 17592186044416) :
    Calls Try.prog 45 #[.slice none 0 0, .int .i64 n] w (OwnPost w []) := by
  by_cases hz : 0 < n
  · go_enter Try.func45, Try.ntmps45
    go_wp2_with ((with_reducible refine gate_builtin (b := .append) (xs := #[.tmp 20, .tmp 21]) rfl ?_); at_builtin; refine Kd.R_append_zeros (Kd.int .i64) (w0 := w) w.heap.size rfl (.tmp 20) (.tmp 21) 24 3 3 (.int .i64 0) 8 rfl Try.underlying24 Try.underlying3 infoI rfl (by decide) (by decide) (.slice none 0 0) ([] : List Int) (0 : Int) n (fun _ => True) rfl rfl ?cM (fun _ _ => trivial) ?cO h0 ?cB ?cS ?cL ?_; (case cM => rfl); (case cO => exact Kd.R_nil _ _ _ _ _); (case cB => exact Below.refl _ _); (case cS => exact Nat.le_refl _); (case cL => simp only [List.length_nil]; omega); intro v1 w1 hO hB hG hA; obtain ⟨A1, c1, rfl, hl1, hc1⟩ := own_slice3 hO; have HO := Aside0.mk hO; have HB := Aside0.mk hB; clear hO hB hG hA)
    go_ret
    exact ⟨_, rfl, Kd.R_take HO.out (Nat.zero_le _), HB.out⟩
  · obtain rfl : n = 0 := by omega
    clear h0 hn hz
    go_enter Try.func45, Try.ntmps45
    go_wp2
    go_ret
    exact ⟨_, rfl, Kd.R_nil _ _ _ _ _, Below.refl _ _⟩

/-! ### slices.Sort and slices.Compact on what the call owns -/
theorem sort_own (v : Value) (xs : List Int) (base : Nat) (w : World) (h : OwnI w base v xs) (hl : xs.length < 4611686018427387904) :
    Calls Try.prog 31 #[v] w fun e w' => e = .returned (.tuple #[]) ∧ OwnI w' base v (xs.mergeSort fun x y => decide (x ≤ y)) ∧ w.grownBy w' v.ownBlock := by
  have ho := Kd.own_of_R h
  rcases ho.2 with ⟨rfl, h0⟩ | ⟨g, cap, cur, rfl, hb, hg, h1, h2, h3, h4⟩
  · obtain rfl : xs = [] := List.eq_nil_of_length_eq_zero h0
    refine (Try.slices_Sort_int_none none 0 w).mono ?_
    rintro e w' ⟨rfl, rfl⟩
    exact ⟨rfl, by simpa using h, World.grownBy.refl _ _⟩
  · have hH : Sort.Holds (Value.int .i64) w g 0 xs.toArray := holds_of_blockI hg (by rw [Nat.mul_one] at h4; exact h4)
    refine (Try.slices_Sort_int g 0 cap xs w hH (Array.getElem?_eq_some_iff.1 hg).1 hl).mono ?_
    rintro e w' ⟨rfl, n, os, rfl⟩
    have hlen : (xs.mergeSort fun x y => decide (x ≤ y)).length = xs.length := List.length_mergeSort _
    have hs := ownsRow_sortedI (w := w) (n := n) (os := os) (ss := xs) (ts := xs.mergeSort fun x y => decide (x ≤ y)) hlen hb hg h1 h2 h3
    refine ⟨rfl, Kd.R_of_own ?_ (fun _ _ => trivial), grownBy_sortedI _⟩
    rw [hlen]
    exact hs

theorem putRow_sort (w : World) (q g : Nat) (d : Array Int) : Sort.putRow (Value.int .i64) (Sort.ahead w q) g 0 d = Sort.grow (Sort.putRow (Value.int .i64) (Sort.ahead w q) g 0 d) #[] := by rw [Sort.grow_empty]

theorem compact_own (v : Value) (xs : List Int) (base : Nat) (w : World) (h : OwnI w base v xs) (hl : xs.length < 4611686018427387904) :
    Calls Try.prog 32 #[v] w fun e w' => ∃ v', e = .returned v' ∧ OwnI w' base v' (Lib.compact xs) ∧ w.grownBy w' v.ownBlock ∧ v'.ownBlock = v.ownBlock := by
  have ho := Kd.own_of_R h
  rcases ho.2 with ⟨rfl, h0⟩ | ⟨g, cap, cur, rfl, hb, hg, h1, h2, h3, h4⟩
  · obtain rfl : xs = [] := List.eq_nil_of_length_eq_zero h0
    refine (Try.slices_Compact_int_empty none 0 w).mono ?_
    rintro e w' ⟨rfl, rfl⟩
    exact ⟨_, rfl, Kd.R_nil _ _ _ _ _, World.grownBy.refl _ _, rfl⟩
  · have hH : Sort.Holds (Value.int .i64) w g 0 xs.toArray := holds_of_blockI hg (by rw [Nat.mul_one] at h4; exact h4)
    refine (Try.slices_Compact_int g 0 cap xs w hH (by omega) h1).mono ?_
    rintro e w' ⟨rfl, q, rfl⟩
    have hcl : (Lib.compact xs).length ≤ xs.length := Lib.compact_length_le xs
    have hr := Lib.ownsRow_putRow (enc := Value.int .i64) (q := q) (k := (Lib.compact xs).length) (ys := Lib.compact xs ++ List.replicate (xs.length - (Lib.compact xs).length) 0) ho (by simp; omega) hcl
    refine ⟨_, rfl, Kd.R_of_own ?_ (fun _ _ => trivial), ?_, rfl⟩
    · have hr' := hr
      simp only [List.take_left'] at hr'
      exact hr'
    · have := grownBy_sortedI (w := w) (g := g) (n := q) (os := #[]) (Lib.compact xs ++ List.replicate (xs.length - (Lib.compact xs).length) 0).toArray
      rw [Sort.grow_empty] at this
      exact this

/-! ### slices.Concat -/
theorem flat_succ (l : List (List Int)) (k : Nat) (hk : k < l.length) : (l.take (k + 1)).flatten = (l.take k).flatten ++ l.getD k [] := by
  rw [List.take_succ_eq_append_getElem hk, List.flatten_append, List.getD_eq_getElem?_getD, List.getElem?_eq_getElem hk]
  simp
theorem flat_len (l : List (List Int)) (k : Nat) : (l.take k).flatten.length ≤ l.flatten.length := by
  conv => rhs; rw [← List.take_append_drop k l]
  rw [List.flatten_append, List.length_append]
  omega
theorem rd_L1_at (l : List (List Int)) (k : Nat) : rd_L1 l (k : Int) = l.getD k [] := by unfold rd_L1; rw [Int.toNat_natCast]

/-- How many numbers the first k lists have. -/
def catLen (l : List (List Int)) (k : Nat) : Nat := (l.take k).flatten.length
theorem catLen_zero (l : List (List Int)) : catLen l 0 = 0 := by simp [catLen]
theorem catLen_succ (l : List (List Int)) (k : Nat) (hk : k < l.length) : catLen l (k + 1) = catLen l k + (l.getD k []).length := by
  unfold catLen; rw [flat_succ l k hk, List.length_append]
theorem catLen_le (l : List (List Int)) (k : Nat) (hT : l.flatten.length ≤ 17592186044416) : catLen l k ≤ 17592186044416 := Nat.le_trans (flat_len l k) hT

structure CatRel (l : List (List Int)) (w : World) (v : Value) (w' : World) (k : Nat) : Prop where
  le : k ≤ l.length
  own : OwnI w' w.heap.size v (l.take k).flatten
  below : Below w.heap.size w w'

set_option maxHeartbeats 1000000 in
theorem concat_calls (A : Option Addr) (c : Nat) (l : List (List Int)) (w : World) (hr : Kd.C (Kd.slice 3 (Kd.int .i64)) w A l.length l) (hc : l.length ≤ c) (hT : l.flatten.length ≤ 17592186044416) :
    Calls Try.prog 30 #[.slice A l.length c] w (OwnPost w l.flatten) := by
  have HR := Aside0.mk hr
  have hm : l.length ≤ 9223372036854775807 := hr.2.1
  clear hr hc
  go_enter Try.func30, Try.ntmps30
  go_wp2
  go_loop [3, 5, 11] (fun s _ i => ∃ k : Nat, k ≤ l.length ∧ i = .int .i64 k ∧ s = .int .i64 (catLen l k)) (fun _ _ i => l.length - (intOf i).toNat)
  case atStart => exact ⟨0, Nat.zero_le _, rfl, by rw [catLen_zero]; rfl⟩
  case round =>
    obtain ⟨k, hk, rfl, rfl⟩ := hrel
    have hs := catLen_le l k hT
    by_cases hlt : k < l.length
    · obtain ⟨ad, A0, c0, rfl, hcell, hl0, hC⟩ := at_L1 HR.out (k : Int) (by omega) (by omega)
      rw [Int.toNat_natCast] at hcell
      have HS := Aside0.mk (catLen_succ l k hlt)
      have hs1 := catLen_le l (k + 1) hT
      rw [HS.out] at hs1
      rw [rd_L1_at] at hcell
      clear hC
      generalize l.getD k [] = x at *
      go_wp2
      go_round
      case rel => exact ⟨k + 1, by omega, by go_num, by rw [HS.out]; go_num⟩
      case measure => simp [intOf]; omega
    · obtain rfl : k = l.length := by omega
      have hn0 : (0 : Int) ≤ (catLen l l.length : Int) := by omega
      go_wp2_with (go_at_call 45; refine (grow_nil _ _ hn0 (by omega)).mono ?_; rintro e w1 ⟨v, rfl, hO, hB⟩; have HO := Aside0.mk hO; have HB := Aside0.mk hB; clear hO hB)
      go_loopw [6, 8, 27] (fun v _ i w' => ∃ k : Nat, i = .int .i64 k ∧ CatRel l w v w' k) (fun _ _ i _ => l.length - (intOf i).toNat)
      case atStart => exact ⟨0, rfl, ⟨Nat.zero_le _, by simpa using HO.out, HB.out⟩⟩
      case round =>
        clear HO HB
        obtain ⟨k, rfl, hk, hO, hB⟩ := hrel
        have HO := Aside0.mk hO
        have HB := Aside0.mk hB
        clear hO hB
        by_cases hlt : k < l.length
        · obtain ⟨ad, A0, c0, rfl, hcell, hl0, hC⟩ := at_L1 (Kd.C_below HR.out HB.out) (k : Int) (by omega) (by omega)
          rw [Int.toNat_natCast] at hcell
          have HS := Aside0.mk (flat_succ l k hlt)
          have hs1 := catLen_le l (k + 1) hT
          rw [catLen_succ l k hlt] at hs1
          have HL := Aside0.mk (show (l.take k).flatten.length = catLen l k from rfl)
          rw [rd_L1_at] at hcell hC
          have HC := Aside0.mk hC
          clear hC
          generalize l.getD k [] = x at *
          go_wp2_with ((with_reducible refine gate_builtin (b := .append) (xs := #[.tmp 31, .tmp 32]) rfl ?_); at_builtin; refine Kd.R_append_row (Value.int .i64) (0 : Int) (w0 := w) w.heap.size rfl (.tmp 31) (.tmp 32) 24 3 (.int .i64 0) 8 rfl Try.underlying24 infoI rfl (by decide) _ _ x _ _ _ (fun _ => True) rfl rfl (fun _ _ => trivial) HO.out HC.out HB.out HB.out.size (by rw [HL.out]; omega) ?_; intro v1 w1 hO1 hB1 _ _; have HO1 := Aside0.mk hO1; have HB1 := Aside0.mk hB1; clear hO1 hB1)
          go_roundw
          case rel => exact ⟨k + 1, by go_num, ⟨by omega, by rw [HS.out]; exact HO1.out, HB1.out⟩⟩
          case measure => simp [intOf]; omega
        · obtain rfl : k = l.length := by omega
          have HX := Aside0.mk (show (l.take l.length).flatten = l.flatten by rw [List.take_length])
          go_wp2
          go_ret
          exact ⟨_, rfl, by rw [← HX.out]; exact HO.out, HB.out⟩

end Go.Proofs.Ytcjbhdocmkpjcaa.Ext
