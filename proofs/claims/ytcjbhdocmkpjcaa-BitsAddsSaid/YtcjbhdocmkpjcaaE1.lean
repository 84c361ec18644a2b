/- bits.Right's loop tells which lists are sets; bits.areSets tells whether all are. -/
import Derived.Test.YtcjbhdocmkpjcaaPr7
import Derived.Test.YtcjbhdocmkpjcaaBase
import Derived.RangeFuncNested
import Derived.RangeFuncBound
import Derived.RangeFuncCalls
import Derived.RangeFuncLeaves
import Derived.Shelf.Abstract
import Derived.Shelf.RegionOpen
import Derived.OwnWalkIn
import Derived.TacticsInMore
import Derived.LoopNIn
import Derived.LoopIn
namespace Go.Proofs.Ytcjbhdocmkpjcaa.Ext
open Go.RowKit Go.Proofs.YtcjbhdocmkpjcaaW.PrintWords Go.Proofs.YtcjbhdocmkpjcaaW.PrintLast Go.Proofs.Ytcjbhdocmkpjcaa.Pr Go.Proofs.Ytcjbhdocmkpjcaa.Base
set_option linter.unusedVariables false
set_option linter.unusedSimpArgs false

theorem wrap_in (x : Int) (h0 : -9223372036854775808 ≤ x) (h1 : x ≤ 9223372036854775807) : wrap64 x = x := by
  unfold wrap64; omega

open Classical in
theorem right_loop (l : List Int) (hl : l.length ≤ 9223372036854775807) (d : Nat) : ∀ (k : Nat) (i : Int), 0 ≤ i → i ≤ l.length → (l.length : Int) - i = d → d < k →
    bits_Right.l0 k l l (l.length : Int) i = some (decide (∀ j, i.toNat ≤ j → j < l.length → okAt l j)) := by
  induction d with
  | zero =>
    intro k i h0 h1 hd hk
    obtain ⟨k, rfl⟩ : ∃ m, k = m + 1 := ⟨k - 1, by omega⟩
    simp only [bits_Right.l0]
    rw [if_neg (by omega), decide_eq_true (fun j hj hlt => by omega)]
  | succ d ih =>
    intro k i h0 h1 hd hk
    obtain ⟨k, rfl⟩ : ∃ m, k = m + 1 := ⟨k - 1, by omega⟩
    have hlt : i < (l.length : Int) := by omega
    have hn := ih k (i + 1) (by omega) (by omega) (by omega) (by omega)
    have hstep : (∀ j, i.toNat ≤ j → j < l.length → okAt l j) ↔ (okAt l i.toNat ∧ ∀ j, (i + 1).toNat ≤ j → j < l.length → okAt l j) := by
      constructor
      · intro h
        exact ⟨h _ (Nat.le_refl _) (by omega), fun j hj hlt => h j (by omega) hlt⟩
      · rintro ⟨h1, h2⟩ j hj hlt
        rcases Nat.eq_or_lt_of_le hj with e | e
        · rw [← e]; exact h1
        · exact h2 j (by omega) hlt
    have hw : wrap64 (i + 1) = i + 1 := wrap_in _ (by omega) (by omega)
    have hw1 : wrap64 (i - 1) = i - 1 := wrap_in _ (by omega) (by omega)
    have e1 : (i - 1).toNat = i.toNat - 1 := by omega
    simp only [bits_Right.l0]
    rw [if_pos hlt, if_pos h0, if_pos hlt]
    unfold bits_isNumber.f
    have hok : okAt l i.toNat ↔ (0 ≤ rd l i ∧ rd l i ≤ 1073741824 ∧ (0 < i → rd l (i - 1) < rd l i)) := by
      unfold okAt rd
      rw [e1]
      constructor
      · rintro ⟨a, b, c⟩; exact ⟨a, b, fun h => c (by omega)⟩
      · rintro ⟨a, b, c⟩; exact ⟨a, b, fun h => c (by omega)⟩
    by_cases c1 : rd l i ≥ 0
    · rw [if_pos c1]
      simp only [Option.bind_some]
      by_cases c2 : rd l i ≤ 1073741824
      · rw [if_pos (decide_eq_true c2)]
        by_cases c3 : i > 0
        · rw [if_pos c3, hw1, if_pos (by omega), if_pos (by omega)]
          by_cases c4 : rd l (i - 1) ≥ rd l i
          · rw [if_pos c4]
            symm
            congr 1
            rw [decide_eq_false_iff_not, hstep, hok]
            rintro ⟨⟨_, _, h⟩, _⟩
            have := h c3
            omega
          · rw [if_neg c4, hw, hn]
            congr 1
            rw [decide_eq_decide, hstep, hok]
            exact ⟨fun h => ⟨⟨c1, c2, fun _ => by omega⟩, h⟩, fun h => h.2⟩
        · rw [if_neg c3, hw, hn]
          congr 1
          rw [decide_eq_decide, hstep, hok]
          exact ⟨fun h => ⟨⟨c1, c2, fun _ => by omega⟩, h⟩, fun h => h.2⟩
      · rw [if_neg (by rw [decide_eq_false c2]; decide)]
        congr 1
        symm
        rw [decide_eq_false_iff_not, hstep, hok]
        rintro ⟨⟨_, h, _⟩, _⟩
        exact c2 h
    · rw [if_neg c1]
      simp only [Option.bind_some]
      rw [if_neg (by decide)]
      congr 1
      symm
      rw [decide_eq_false_iff_not, hstep, hok]
      rintro ⟨⟨h, _, _⟩, _⟩
      exact c1 h

theorem right_tells (l : List Int) (hl : l.length ≤ 9223372036854775807) : ∃ k, bits_Right.f k l = some (setB l) := by
  refine ⟨l.length + 1, ?_⟩
  unfold bits_Right.f
  rw [right_loop l hl l.length (l.length + 1) 0 (by omega) (by omega) (by omega) (by omega)]
  unfold setB
  congr 1
  rw [decide_eq_decide, setOk_iff]
  exact ⟨fun h j hj => h j (by omega) hj, fun h j _ hj => h j hj⟩

/-- bits.Right: is it a set? -/
theorem right_calls (A : Option Addr) (c : Nat) (l : List Int) (w : World) (hr : Kd.C (Kd.int .i64) w A l.length l) (hc : l.length ≤ c) :
    Calls Try.prog 25 #[.slice A l.length c] w fun e w' => e = .returned (.bool (setB l)) ∧ Drawn0 w w' := by
  obtain ⟨k, hk⟩ := right_tells l hr.2.1
  exact bits_Right.calls k A c l _ w hr hc hk

set_option maxHeartbeats 400000 in
theorem areSets1_calls (A : Option Addr) (c : Nat) (l : List Int) (w : World) (hr : Kd.C (Kd.int .i64) w A l.length l) (hc : l.length ≤ c) :
    Calls Try.prog 44 #[.slice A l.length c] w fun e w' => e = .returned (.bool (!setB l)) ∧ Drawn0 w w' := by
  have HC := right_calls A c l w hr hc
  clear hr hc
  have HCs := Aside0.mk HC
  clear HC
  generalize setB l = b at *
  go_enter Try.func44, Try.ntmps44
  go_wp2_with (go_at_call 25; refine HCs.out.mono ?_; rintro e w' ⟨rfl, ⟨⟨n, rfl⟩⟩⟩)
  go_ret
  exact ⟨by simp, ⟨⟨n, rfl⟩⟩⟩

theorem drawnC {α : Type} {d : Kd α} {w w' : World} {A : Option Addr} {n : Nat} {xs : List α} (h : d.C w A n xs) (hd : Drawn0 w w') : d.C w' A n xs := Kd.C_below h hd.below
theorem drawn_trans {w w1 w2 : World} (h : Drawn0 w w1) (k : Drawn0 w1 w2) : Drawn0 w w2 := by
  obtain ⟨m, rfl⟩ := h
  obtain ⟨n, rfl⟩ := k
  exact ⟨⟨m + n, World.drewN_drewN ..⟩⟩

/-- What slices.IndexFunc's rounds know: no one ahead is no set. -/
structure IxRel (l : List (List Int)) (w w' : World) (k : Nat) : Prop where
  le : k ≤ l.length
  all : ∀ j, j < k → setB (l.getD j []) = true
  dr : Drawn0 w w'

/-- What slices.IndexFunc tells. -/
def IxPost (l : List (List Int)) (w : World) (e : Ending) (w' : World) : Prop := ∃ r : Int, e = .returned (.int .i64 r) ∧ (decide (r ≥ 0) = !(l.all setB)) ∧ Drawn0 w w'

theorem all_of_getD (l : List (List Int)) (h : ∀ j, j < l.length → setB (l.getD j []) = true) : l.all setB = true := by
  rw [List.all_eq_true]
  intro x hx
  obtain ⟨j, hj, rfl⟩ := List.mem_iff_getElem.1 hx
  have := h j hj
  rwa [List.getD_eq_getElem?_getD, List.getElem?_eq_getElem hj] at this
theorem not_all_of_getD (l : List (List Int)) (j : Nat) (hj : j < l.length) (h : setB (l.getD j []) = false) : l.all setB = false := by
  rw [List.all_eq_false]
  refine ⟨l.getD j [], ?_, by rw [h]; decide⟩
  rw [List.getD_eq_getElem?_getD, List.getElem?_eq_getElem hj]
  exact List.getElem_mem hj

set_option maxHeartbeats 800000 in
theorem indexFunc_calls (A : Option Addr) (c : Nat) (l : List (List Int)) (w : World) (hr : Kd.C (Kd.slice 3 (Kd.int .i64)) w A l.length l) (hc : l.length ≤ c) :
    Calls Try.prog 54 #[.slice A l.length c, .func (.func 44) #[] #[]] w (IxPost l w) := by
  have HR := Aside0.mk hr
  have hm : l.length ≤ 9223372036854775807 := hr.2.1
  clear hr hc
  go_enter Try.func54, Try.ntmps54
  go_wp2
  go_loopw [5, 8] (fun _ i w' => ∃ k : Nat, i = .int .i64 k ∧ IxRel l w w' k) (fun _ i _ => l.length - (intOf i).toNat)
  case atStart => exact ⟨0, rfl, ⟨Nat.zero_le _, fun j hj => by omega, Drawn0.refl w⟩⟩
  case round =>
    obtain ⟨k, rfl, hk, hall, hd⟩ := hrel
    have HALL := Aside0.mk hall
    have HD := Aside0.mk hd
    clear hall hd
    by_cases hlt : k < l.length
    · obtain ⟨ad, A0, c0, rfl, hcell, hl0, hC⟩ := at_L1 (drawnC HR.out HD.out) (k : Int) (by omega) (by omega)
      rw [Int.toNat_natCast] at hcell
      have HB := Aside0.mk (areSets1_calls A0 c0 (rd_L1 l k) wr hC hl0)
      have HX := Aside0.mk (show rd_L1 l (k : Int) = l.getD k [] by unfold rd_L1; rw [Int.toNat_natCast])
      clear hC hl0
      generalize rd_L1 l (k : Int) = x at *
      cases hb : setB x with
      | true =>
        rw [hb] at HB
        have Hb := Aside0.mk hb
        clear hb
        go_wp2_with (go_at_call 44; refine HB.out.mono ?_; rintro e w' ⟨rfl, hd⟩; have HD' := Aside0.mk (drawn_trans HD.out hd); clear hd)
        go_roundw
        case rel => exact ⟨k + 1, by go_num, by omega, fun j hj => by
          rcases Nat.lt_or_ge j k with h | h
          · exact HALL.out j h
          · have : j = k := by omega
            subst this
            rw [← HX.out]
            exact Hb.out, HD'.out⟩
        case measure => simp [intOf]; omega
      | false =>
        rw [hb] at HB
        have Hb := Aside0.mk hb
        clear hb
        have HN := Aside0.mk (not_all_of_getD l k hlt (by rw [← HX.out]; exact Hb.out))
        go_wp2_with (go_at_call 44; refine HB.out.mono ?_; rintro e w' ⟨rfl, hd⟩; have HD' := Aside0.mk (drawn_trans HD.out hd); clear hd)
        go_ret
        exact ⟨k, rfl, by rw [HN.out]; simp, HD'.out⟩
    · have HA := Aside0.mk (all_of_getD l (fun j hj => HALL.out j (by omega)))
      go_wp2
      go_ret
      exact ⟨-1, rfl, by rw [HA.out]; rfl, HD.out⟩

set_option maxHeartbeats 400000 in
theorem containsFunc_calls (A : Option Addr) (c : Nat) (l : List (List Int)) (w : World) (hr : Kd.C (Kd.slice 3 (Kd.int .i64)) w A l.length l) (hc : l.length ≤ c) :
    Calls Try.prog 43 #[.slice A l.length c, .func (.func 44) #[] #[]] w fun e w' => e = .returned (.bool (!(l.all setB))) ∧ Drawn0 w w' := by
  have HI := Aside0.mk (indexFunc_calls A c l w hr hc)
  clear hr hc
  generalize hb : l.all setB = b
  have Hb := Aside0.mk hb
  clear hb
  go_enter Try.func43, Try.ntmps43
  go_wp2_with (go_at_call 54; refine HI.out.mono ?_; rintro e w' ⟨r, rfl, hq, hd⟩; have HQ := Aside0.mk hq; have HD := Aside0.mk hd; clear hq hd)
  go_ret
  exact ⟨by rw [← Hb.out, ← HQ.out]; rfl, HD.out⟩

/-- bits.areSets: are all sets? -/
def bits_areSets.f (l0 : List (List Int)) : Option Bool := some (l0.all setB)
set_option maxHeartbeats 400000 in
theorem bits_areSets.calls (A0 : Option Addr) (c0 : Nat) (l0 : List (List Int)) (r : Bool) (w : World) (hr0 : Kd.C (Kd.slice 3 (Kd.int .i64)) w A0 l0.length l0) (hc0 : l0.length ≤ c0) (h : bits_areSets.f l0 = some r) :
    Calls Try.prog 29 #[.slice A0 l0.length c0] w fun e w' => e = .returned (.bool r) ∧ Drawn0 w w' := by
  have HI := Aside0.mk (containsFunc_calls A0 c0 l0 w hr0 hc0)
  obtain rfl := Option.some.inj h
  clear hr0 hc0 h
  generalize hb : l0.all setB = b at *
  clear hb
  go_enter Try.func29, Try.ntmps29
  go_wp2_with (go_at_call 43; refine HI.out.mono ?_; rintro e w' ⟨rfl, hd⟩; have HD := Aside0.mk hd; clear hd)
  go_ret
  exact ⟨by simp, HD.out⟩

end Go.Proofs.Ytcjbhdocmkpjcaa.Ext
