/- bits.Has and bits.Add. No condition. -/
import Derived.Test.YtcjbhdocmkpjcaaE14
namespace Go.Proofs.Ytcjbhdocmkpjcaa.Ext
open Go.RowKit Go.Proofs.YtcjbhdocmkpjcaaW.PrintWords Go.Proofs.YtcjbhdocmkpjcaaW.PrintLast Go.Proofs.Ytcjbhdocmkpjcaa.Pr Go.Proofs.Ytcjbhdocmkpjcaa.Base Go.Proofs.Ytcjbhdocmkpjcaa.Iter Go.Proofs.Ytcjbhdocmkpjcaa.ISet Go.Proofs.Ytcjbhdocmkpjcaa.Sets
set_option linter.unusedVariables false
set_option linter.unusedSimpArgs false

theorem C_plain {W : World} {A : Option Addr} {l : List Int} (h : Kd.C (Kd.int .i64) W A l.length l) (hn : 0 < l.length) : ∃ b off, A = some ⟨b, off, none⟩ ∧ ∀ j, j < l.length → W.cell? ⟨b, off + j, none⟩ = some (.int .i64 (l.getD j 0)) := by
  obtain ⟨ad, rfl, hc⟩ := at_getD h 0 hn
  have hs : ad.spot = none := by
    have h0 : ad.add 0 = ad := by simp [Addr.add]
    rw [h0] at hc
    unfold World.cell? at hc
    cases hsp : ad.spot with
    | none => rfl
    | some p => simp [hsp] at hc; split at hc <;> simp at hc
  obtain ⟨b, off, sp⟩ := ad
  obtain rfl : sp = none := hs
  refine ⟨b, off, rfl, fun j hj => ?_⟩
  obtain ⟨ad, e, hc⟩ := at_getD h j hj
  injection e with e
  subst e
  have : (⟨b, off, none⟩ : Addr).add j = ⟨b, off + j, none⟩ := by by_cases hj0 : j = 0 <;> simp [Addr.add, hj0]
  rw [← this]
  exact hc

theorem contains_calls (A : Option Addr) (c : Nat) (l : List Int) (x : Int) (W : World) (h : Kd.C (Kd.int .i64) W A l.length l) :
    Calls Try.prog 42 #[.slice A l.length c, .int .i64 x] W fun e W' => e = .returned (.bool (l.contains x)) ∧ W' = W := by
  cases l with
  | nil => exact Try.slices_Contains_int_empty A c x W
  | cons y r =>
    obtain ⟨b, off, rfl, hc⟩ := C_plain h (by simp)
    have := Try.slices_Contains_int b off (y :: r).length c (y :: r) x W (Nat.le_refl _) h.2.1 hc
    rwa [List.take_length] at this

theorem search_calls (A : Option Addr) (c : Nat) (l : List Int) (x : Int) (W : World) (h : Kd.C (Kd.int .i64) W A l.length l) (hl : l.length ≤ 4398046511104) (hs : l.Pairwise (· ≤ ·)) :
    Calls Try.prog 38 #[.slice A l.length c, .int .i64 x] W fun e W' => e = .returned (.tuple #[.int .i64 (l.countP (· < x) : Nat), .bool (l.contains x)]) ∧ Drawn0 W W' := by
  cases l with
  | nil =>
    refine (Try.slices_BinarySearch_int_empty A c x W).mono ?_
    rintro e W' ⟨rfl, rfl⟩
    exact ⟨rfl, Drawn0.refl _⟩
  | cons y r =>
    obtain ⟨b, off, rfl, hc⟩ := C_plain h (by simp)
    have := Try.slices_BinarySearch_int b off (y :: r).length c (y :: r) x W (Nat.le_refl _) (by omega) hc (by rw [List.take_length]; exact hs)
    rw [List.take_length] at this
    refine this.mono ?_
    rintro e W' ⟨rfl, q, rfl⟩
    exact ⟨rfl, ⟨⟨q, rfl⟩⟩⟩

theorem clone_calls (A : Option Addr) (c : Nat) (l : List Int) (W : World) (h : Kd.C (Kd.int .i64) W A l.length l) (hl : l.length ≤ 4398046511104) :
    Calls Try.prog 39 #[.slice A l.length c] W (OwnPost W l) := by
  cases l with
  | nil =>
    cases A with
    | none =>
      refine (Try.slices_Clone_int_nil 0 c W).mono ?_
      rintro e W' ⟨rfl, rfl⟩
      exact ⟨_, rfl, Kd.R_nil _ _ _ _ _, Below.refl _ _⟩
    | some a =>
      refine (Try.slices_Clone_int_zero a c W).mono ?_
      rintro e W' ⟨v, rfl, ho, _, hb⟩
      exact ⟨_, rfl, Kd.R_of_own (show W'.ownsRow W.heap.size 3 1 v ([] : List Int).length (encs (Value.int .i64) []) from ho) (fun _ _ => trivial), hb⟩
  | cons y r =>
    obtain ⟨b, off, rfl, hc⟩ := C_plain h (by simp)
    have := Try.slices_Clone_int b off (y :: r).length c (y :: r) W (Nat.le_refl _) (by omega) hc
    rw [List.take_length] at this
    refine this.mono ?_
    rintro e W' ⟨v, rfl, ho, _, hb⟩
    exact ⟨_, rfl, Kd.R_of_own (show W'.ownsRow W.heap.size 3 1 v (y :: r).length (encs (Value.int .i64) (y :: r)) from ho) (fun _ _ => trivial), hb⟩

def bits_Has.f (l : List Int) (n : Int) : Option Bool := some (l.contains n)
set_option maxHeartbeats 400000 in
theorem bits_Has.calls (A0 : Option Addr) (c0 : Nat) (l0 : List Int) (a1 : Int) (r : Bool) (w : World) (hr0 : Kd.C (Kd.int .i64) w A0 l0.length l0) (hc0 : l0.length ≤ c0) (h : bits_Has.f l0 a1 = some r) :
    Calls Try.prog 28 #[.slice A0 l0.length c0, .int .i64 a1] w fun e w' => e = .returned (.bool r) ∧ Drawn0 w w' := by
  obtain rfl := Option.some.inj h
  have HC := Aside0.mk (contains_calls A0 c0 l0 a1 w hr0)
  clear hr0 hc0 h
  generalize l0.contains a1 = r at *
  go_enter Try.func28, Try.ntmps28
  go_wp2_with (go_at_call 42; refine HC.out.mono ?_; rintro e w' ⟨rfl, rfl⟩)
  go_ret
  exact ⟨rfl, Drawn0.refl _⟩

theorem insL_at (x : Int) : ∀ (l : List Int), l.Pairwise (· < ·) → x ∉ l → l.take (l.countP (· < x)) ++ x :: l.drop (l.countP (· < x)) = Ref.insL x l
  | [], _, _ => rfl
  | a :: r, hp, hx => by
    have hp' := List.pairwise_cons.1 hp
    have hax : a ≠ x := fun e => hx (by simp [e])
    unfold Ref.insL
    by_cases h : a < x
    · rw [if_neg (by omega), List.countP_cons, if_pos (by simpa using h), List.take_succ_cons, List.drop_succ_cons, List.cons_append, insL_at x r hp'.2 (fun h => hx (List.mem_cons_of_mem _ h))]
    · have h0 : (a :: r).countP (· < x) = 0 := by
        rw [List.countP_eq_zero]
        intro y hy
        rcases List.mem_cons.1 hy with rfl | hy
        · simpa using h
        · have := hp'.1 y hy
          simp; omega
      rw [if_pos (by omega), h0]
      rfl

def bits_Add.f (l : List Int) (n : Int) : Option (List Int × Bool × Int) :=
  if l.length ≤ 4398046511104 then some (if setB l = true ∧ 0 ≤ n ∧ n ≤ 1073741824 then (Ref.withL l n, !l.contains n, 0) else ([], false, 2)) else none
set_option maxHeartbeats 1000000 in
theorem bits_Add.calls (A0 : Option Addr) (c0 : Nat) (l0 : List Int) (a1 : Int) (r1 : List Int) (r2 : Bool) (r3 : Int) (w : World) (hr0 : Kd.C (Kd.int .i64) w A0 l0.length l0) (hc0 : l0.length ≤ c0) (h : bits_Add.f l0 a1 = some (r1, r2, r3)) :
    Calls Try.prog 26 #[.slice A0 l0.length c0, .int .i64 a1] w fun e w' => ∃ v0_ : Value, e = .returned (.tuple #[v0_, .bool r2, .int .i64 r3]) ∧ Kd.R (Kd.int .i64) 3 w' w.heap.size (fun _ => True) v0_ r1 ∧ Below w.heap.size w w' := by
  unfold bits_Add.f at h
  by_cases hl : l0.length ≤ 4398046511104
  case neg => rw [if_neg hl] at h; cases h
  rw [if_pos hl] at h
  have h := Option.some.inj h
  have HR := Aside0.mk (right_calls A0 c0 l0 w hr0 hc0)
  have HC := Aside0.mk hr0
  have HL := Aside0.mk hl
  clear hr0 hc0 hl
  by_cases hset : setB l0 = true
  case neg =>
    rw [if_neg (fun h => hset h.1)] at h
    simp only [Prod.mk.injEq] at h
    obtain ⟨rfl, rfl, rfl⟩ := h
    rw [Bool.eq_false_iff.2 hset] at HR
    clear hset
    go_enter Try.func26, Try.ntmps26
    go_wp2_with (go_at_call 25; refine HR.out.mono ?_; rintro e w' ⟨rfl, hd⟩; have HD := Aside0.mk hd; clear hd)
    go_ret3
    exact ⟨_, rfl, Kd.R_nil _ _ _ _ _, HD.out.below⟩
  case pos =>
    have HS := Aside0.mk (show l0.Pairwise (· < ·) from (of_decide_eq_true hset : SetOk l0).2)
    rw [hset] at HR
    by_cases hn : 0 ≤ a1 ∧ a1 ≤ 1073741824
    case neg =>
      rw [if_neg (fun h => hn h.2)] at h
      simp only [Prod.mk.injEq] at h
      obtain ⟨rfl, rfl, rfl⟩ := h
      clear hset
      have HN := Aside0.mk (fun W => bits_isNumber.calls a1 false W (by unfold bits_isNumber.f; simp; omega))
      clear hn
      go_enter Try.func26, Try.ntmps26
      go_wp2_with (first
        | (go_at_call 25; refine HR.out.mono ?_; rintro e w' ⟨rfl, hd⟩; have HD := Aside0.mk hd; clear hd)
        | (go_at_call 37; refine (HN.out _).mono ?_; rintro e w2 ⟨rfl, hd⟩; have HD2 := Aside0.mk hd; clear hd))
      go_ret3
      exact ⟨_, rfl, Kd.R_nil _ _ _ _ _, (drawn_trans HD.out HD2.out).below⟩
    case pos =>
      rw [if_pos ⟨hset, hn⟩] at h
      simp only [Prod.mk.injEq] at h
      obtain ⟨rfl, rfl, rfl⟩ := h
      clear hset
      have HN := Aside0.mk (fun W => bits_isNumber.calls a1 true W (by unfold bits_isNumber.f; rw [if_pos hn.1]; simp [hn.2]))
      clear hn
      have HB := Aside0.mk (fun W (hd : Drawn0 w W) => search_calls A0 c0 l0 a1 W (drawnC HC.out hd) HL.out (HS.out.imp (fun h => by omega)))
      have HK := Aside0.mk (fun W (hd : Drawn0 w W) => clone_calls A0 c0 l0 W (drawnC HC.out hd) HL.out)
      by_cases hm : a1 ∈ l0
      · have hc : l0.contains a1 = true := List.contains_iff_mem.2 hm
        have hw : Ref.withL l0 a1 = l0 := by unfold Ref.withL; rw [if_pos hc]
        rw [hw]
        rw [hc] at HB ⊢
        clear hw hc hm
        generalize l0.countP (· < a1) = i at *
        go_enter Try.func26, Try.ntmps26
        go_wp2_with (first
          | (go_at_call 25; refine HR.out.mono ?_; rintro e w' ⟨rfl, hd⟩; have HD := Aside0.mk hd; clear hd)
          | (go_at_call 37; refine (HN.out _).mono ?_; rintro e w2 ⟨rfl, hd⟩; have HD2 := Aside0.mk (drawn_trans HD.out hd); clear hd)
          | (go_at_call 38; refine (HB.out _ HD2.out).mono ?_; rintro e w3 ⟨rfl, hd⟩; have HD3 := Aside0.mk (drawn_trans HD2.out hd); clear hd)
          | (go_at_call 39; refine (HK.out _ HD3.out).mono ?_; rintro e w4 ⟨v, rfl, ho, hb⟩; have HO := Aside0.mk ho; have HBB := Aside0.mk hb; clear ho hb))
        go_ret3
        exact ⟨_, rfl, Kd.R_lower HO.out HD3.out.below.size, HD3.out.below.trans (HBB.out.mono HD3.out.below.size)⟩
      · have hc : l0.contains a1 = false := Bool.eq_false_iff.2 (fun h => hm (List.contains_iff_mem.1 h))
        have hw : Ref.withL l0 a1 = l0.take (l0.countP (· < a1)) ++ a1 :: l0.drop (l0.countP (· < a1)) := by unfold Ref.withL; rw [hc, if_neg (by decide), insL_at a1 l0 HS.out hm]
        rw [hw]
        rw [hc] at HB ⊢
        clear hw hc hm
        have HI := Aside0.mk (show l0.countP (· < a1) ≤ l0.length from List.countP_le_length)
        generalize l0.countP (· < a1) = i at *
        go_enter Try.func26, Try.ntmps26
        go_wp2_with (first
          | (go_at_call 25; refine HR.out.mono ?_; rintro e w' ⟨rfl, hd⟩; have HD := Aside0.mk hd; clear hd)
          | (go_at_call 37; refine (HN.out _).mono ?_; rintro e w2 ⟨rfl, hd⟩; have HD2 := Aside0.mk (drawn_trans HD.out hd); clear hd)
          | (go_at_call 38; refine (HB.out _ HD2.out).mono ?_; rintro e w3 ⟨rfl, hd⟩; have HD3 := Aside0.mk (drawn_trans HD2.out hd); clear hd)
          | (go_at_call 39; refine (HK.out _ HD3.out).mono ?_; rintro e w4 ⟨v, rfl, ho, hb⟩; have HO := Aside0.mk ho; have HBB := Aside0.mk hb; clear ho hb)
          | (go_at_call 40; refine (insert_own v l0 a1 i w3.heap.size w4.heap.size _ (Kd.R_alloc HO.out _) HL.out HI.out (by simp; have := HBB.out.size; omega) (heap_alloc_new w4 _) (fun e => by have := Kd.R_lt HO.out _ e; omega)).mono ?_; rintro e w5 ⟨v5, rfl, ho, hb⟩; have HO5 := Aside0.mk ho; have HB5 := Aside0.mk ((HBB.out.alloc HBB.out.size _).trans hb); clear ho hb))
        go_ret3
        exact ⟨_, rfl, Kd.R_lower HO5.out HD3.out.below.size, HD3.out.below.trans (HB5.out.mono HD3.out.below.size)⟩
end Go.Proofs.Ytcjbhdocmkpjcaa.Ext
