/- Lemmas for the claims of this seat (own texts, packed; what the claims do not use is left out). No condition. -/
import Derived.Lib.ParseIntBTie
import Derived.Lib.ParseIntBCases
import Derived.Deep.RegionHeld3
import Derived.Test.YtjlhhjfmekjbhaaGreatDoorProg
import Derived.Below
import Derived.Deep.Draws
import Derived.Deep.AppendLies
import Derived.Maps.AppendAt
import Derived.OwnWalk
import Derived.Laws.BytesArg
import Derived.Laws.MakeOwn
import Derived.Laws.OwnMore
import Derived.Deep.OwnRows
import Derived.Tactics
import Derived.Lib.ConvBytes
import Derived.Laws.Slices
import Derived.WalkKit
import Derived.KernelRfl
import Derived.RowKit3
import Derived.Deep.LoopGhost
import Derived.Deep.QuietTactic
import Derived.BigQuiet
import Derived.WideLaws
import Derived.Deep.DeepCutAuto
import Derived.Deep.CutBlock
import Derived.Laws.Rows
import Derived.Lib.AppendStr
import Derived.ArgAppend
import Derived.Laws.IdiomCopy
import Derived.OrdersHeld
import Derived.Laws.BitsLemmas
import Derived.RowKit
import Derived.Laws.Cover1
import Derived.Test.YtjlhhjfmekjbhaaGreatDoorMb0
import Derived.Test.YtjlhhjfmekjbhaaGreatDoorMb1
/- Numerals; value.Num. No condition. -/
namespace Go.Proofs.YtjlhhjfmekjbhaaGreatDoor.Va
open Go.RowKit Go.Proofs.YtjlhhjfmekjbhaaGreatDoorW.PrintWords Go.Proofs.YtjlhhjfmekjbhaaGreatDoorW.PrintLast Go.Proofs.YtjlhhjfmekjbhaaGreatDoorW.PrintMore
set_option linter.unusedVariables false
set_option linter.unusedSimpArgs false
def I64 (n : Int) : Prop := -9223372036854775808 ≤ n ∧ n ≤ 9223372036854775807
theorem i64_of_wf {n : Int} (h : (Lit.int .i64 n).wf = true) : I64 n := by
  simp [Lit.wf, IntKind.min, IntKind.max, IntKind.bits, IntKind.signed] at h
  exact ⟨by omega, by omega⟩
def numL (l : List UInt8) : Int := match Lib.parseIntB 64 l with
  | .ok v => if Lib.itoa v = l then v else 0
  | _ => 0
theorem byte_toNat (k : Nat) (h : k < 256) : (UInt8.ofNat k).toNat = k := by simp; omega
theorem parse_dec (u : Nat) : ∀ rest, u < 18446744073709551616 → Lib.parseUintM 18446744073709551615 0 (Lib.decDigits u ++ rest) = Lib.parseUintM 18446744073709551615 u rest := by
  induction u using Nat.strongRecOn with
  | _ u ih =>
    intro rest hu
    rw [Lib.decDigits]
    by_cases h : u < 10
    · rw [dif_pos h, List.singleton_append, Lib.parseUintM, byte_toNat _ (by omega), if_pos (by omega), if_neg (by omega), if_neg (by omega)]
      congr 1
      omega
    · rw [dif_neg h, List.append_assoc, ih (u / 10) (by omega) _ (by omega), List.singleton_append, Lib.parseUintM, byte_toNat _ (by omega), if_pos (by omega), if_neg (by omega), if_neg (by omega)]
      congr 1
      omega
theorem dec_ne (u : Nat) : Lib.decDigits u ≠ [] := by
  intro h
  have := Lib.decDigits_length u
  rw [h] at this
  have := Lib.nDigits_pos u
  simp at *
  omega
theorem dec_digit (u : Nat) : ∀ c ∈ Lib.decDigits u, 48 ≤ c.toNat ∧ c.toNat ≤ 57 := by
  induction u using Nat.strongRecOn with
  | _ u ih =>
    intro c hc
    rw [Lib.decDigits] at hc
    by_cases h : u < 10
    · rw [dif_pos h] at hc
      obtain rfl := List.mem_singleton.1 hc
      rw [byte_toNat _ (by omega)]
      omega
    · rw [dif_neg h, List.mem_append] at hc
      rcases hc with hc | hc
      · exact ih _ (by omega) c hc
      · obtain rfl := List.mem_singleton.1 hc
        rw [byte_toNat _ (by omega)]
        omega
theorem parse_dec_all (u : Nat) (h : u < 18446744073709551616) : Lib.parseUintB 64 (Lib.decDigits u) = .ok u := by
  unfold Lib.parseUintB
  rw [if_neg (dec_ne u), show (2 ^ 64 - 1 : Nat) = 18446744073709551615 from rfl]
  have := parse_dec u [] h
  rw [List.append_nil] at this
  rw [this]
  rfl
theorem parse_itoa (n : Int) (h : I64 n) : Lib.parseIntB 64 (Lib.itoa n) = .ok n := by
  obtain ⟨h1, h2⟩ := h
  by_cases hn : n < 0
  · obtain ⟨u, rfl⟩ : ∃ u : Nat, n = -(u : Int) := ⟨n.natAbs, by omega⟩
    rw [Lib.itoa_neg u (by omega), Lib.parseIntB_minus, parse_dec_all u (by omega)]
    unfold Lib.signedC
    simp
    omega
  · obtain ⟨u, rfl⟩ : ∃ u : Nat, n = (u : Int) := ⟨n.toNat, by omega⟩
    rw [Lib.itoa_nonneg u]
    have hp := parse_dec_all u (by omega)
    cases hd : Lib.decDigits u with
    | nil => exact absurd hd (dec_ne u)
    | cons c r =>
      have hc := dec_digit u c (by rw [hd]; exact List.mem_cons_self)
      rw [hd] at hp
      rw [Lib.parseIntB_plain _ c r (by omega) (by omega), hp]
      unfold Lib.signlessC
      simp
      omega
theorem numL_itoa (n : Int) (h : I64 n) : numL (Lib.itoa n) = n := by
  unfold numL
  rw [parse_itoa n h]
  simp
theorem numL_not (l : List UInt8) (h : ∀ n, I64 n → Lib.itoa n ≠ l) : numL l = 0 := by
  unfold numL
  cases hp : Lib.parseIntB 64 l with
  | ok v =>
    have hb := Lib.parseIntB_bounds hp
    exact if_neg (h v ⟨by have := hb.1; simp at this; omega, by have := hb.2; simp at this; omega⟩)
  | range => rfl
  | _ => rfl
theorem byte_at (s : ByteArray) (j : Nat) (h : j < s.size) : s[j]?.getD 0 = s.data.toList.getD j 0 := by
  rw [getD_byte s j h, List.getD_eq_getElem?_getD]
  have h' : j < s.data.toList.length := by simpa using h
  rw [List.getElem?_eq_getElem h', Option.getD_some]
  rfl
theorem digB_itoa (s : ByteArray) (n : Int) (h : Lib.itoa n = s.data.toList) : digB s = true := by
  have hl : s.data.toList.length = s.size := rfl
  have hcase : (∃ u, s.data.toList = Lib.decDigits u) ∨ ∃ u, s.data.toList = 45 :: Lib.decDigits u := by
    rw [← h]
    unfold Lib.itoa
    split
    · exact .inr ⟨_, rfl⟩
    · exact .inl ⟨_, rfl⟩
  have hd : ∀ (u j : Nat), j < (Lib.decDigits u).length → 48 ≤ ((Lib.decDigits u).getD j 0).toNat ∧ ((Lib.decDigits u).getD j 0).toNat ≤ 57 := fun u j hj => by
    rw [List.getD_eq_getElem?_getD, List.getElem?_eq_getElem hj]
    exact dec_digit u _ (List.getElem_mem hj)
  rcases hcase with ⟨u, hu⟩ | ⟨u, hu⟩
  · refine digB_true s (by rw [← hl, hu]; exact List.length_pos_iff.2 (dec_ne u)) (fun j hj => ?_)
    unfold okDig
    rw [byte_at s j hj, hu]
    exact .inl (hd u j (by rw [← hu, hl]; exact hj))
  · refine digB_true s (by rw [← hl, hu]; simp) (fun j hj => ?_)
    unfold okDig
    rw [byte_at s j hj, hu]
    cases j with
    | zero => exact .inr ⟨rfl, rfl⟩
    | succ j => exact .inl (hd u j (by have : s.data.toList.length = (Lib.decDigits u).length + 1 := by rw [hu]; rfl
                                       omega))
theorem numL_dig (s : ByteArray) (h : digB s = false) : numL s.data.toList = 0 := numL_not _ fun n _ hn => by
  rw [digB_itoa s n hn] at h
  cases h
def ParsePost (s : ByteArray) (w : World) (e : Ending) (w' : World) : Prop := Below w.heap.size w w' ∧
  ((∃ n, Lib.parseIntB 64 s.data.toList = .ok n ∧ e = .returned (.tuple #[.int .i64 n, .nilIface])) ∨ ∃ n t p, (∀ v, Lib.parseIntB 64 s.data.toList ≠ .ok v) ∧ e = .returned (.tuple #[.int .i64 n, .iface t p]))
theorem parse_calls (s : ByteArray) (w : World) (hL : Laid w) (hs : s.size ≤ 281474976710656) :
    Calls Tryz.prog 121 #[.string s, .int .i64 10, .int .i64 64] w (ParsePost s w) := by
  obtain ⟨tp, pp, hsy⟩ := hL.syn
  obtain ⟨tr, pr, hrg⟩ := hL.rng
  cases hp : Lib.parseIntB 64 s.data.toList with
  | ok v =>
    refine (Tryz.strconv_ParseInt_10_at64_ok s (by omega) v hp w).mono ?_
    rintro e w' ⟨rfl, h⟩
    refine ⟨?_, .inl ⟨v, hp, rfl⟩⟩
    rcases h with rfl | ⟨t, rfl⟩
    · exact Below.refl _ _
    · exact Lib.bytesWorld_below _ _ _
  | range =>
    refine (Tryz.strconv_ParseInt_10_at64_range_var s hs hp tr pr w hrg).mono ?_
    rintro e w' ⟨N, rfl, _, _, hb⟩
    exact ⟨hb, .inr ⟨_, _, _, (fun v h => by rw [hp] at h; cases h), rfl⟩⟩
  | _ =>
    refine (Tryz.strconv_ParseInt_10_at64_syntax_var s hs hp tp pp w hsy).mono ?_
    rintro e w' ⟨N, rfl, _, _, hb⟩
    exact ⟨hb, .inr ⟨_, _, _, (fun v h => by rw [hp] at h; cases h), rfl⟩⟩
structure NumS (w W' : World) (s : ByteArray) : Prop where
  cell : W'.cell? ⟨w.heap.size, 2, none⟩ = some (.string s)
  laid : Laid W'
  bel : Below w.heap.size w W'
  lt : w.heap.size < W'.heap.size
theorem NumS.step {w W W' : World} {s : ByteArray} (h : NumS w W s) (hb : Below W.heap.size W W') : NumS w W' s :=
  ⟨by rw [hb.cell (p := ⟨w.heap.size, 2, none⟩) h.lt]; exact h.cell, h.laid.below hb, below_step h.bel hb, Nat.lt_of_lt_of_le h.lt hb.size⟩
theorem NumS.drew {w W : World} {s : ByteArray} (h : NumS w W s) : NumS w W.drew s := h.step (below_drew1 (Below.refl _ _))
theorem fmt_run (n : Int) (h : I64 n) (w W : World) (s : ByteArray) (hS : NumS w W s) : Calls Tryz.prog 32 #[.int .i64 n, .int .i64 10] W fun e W' => e = .returned (.string ⟨(Lib.itoa n).toArray⟩) ∧ NumS w W' s :=
  (strconv_FormatInt.calls n 10 _ W hS.laid (by unfold strconv_FormatInt.f; rw [if_pos ⟨rfl, h.1, h.2⟩])).mono fun e W' h => ⟨h.1, hS.step h.2⟩
def value_Num.f (a0_0 a0_1 : Int) (a0_2 : ByteArray) : Option Int :=
  if a0_0 = 2 ∨ a0_0 = 3 then some a0_1 else if a0_0 = 4 then (if a0_2.size ≤ 281474976710656 then some (numL a0_2.data.toList) else none) else some 0
set_option maxHeartbeats 2000000 in
set_option maxRecDepth 100000 in
theorem value_Num.calls (a0_0 a0_1 : Int) (a0_2 : ByteArray) (r : Int) (w : World) (hL : Laid w) (h : value_Num.f a0_0 a0_1 a0_2 = some r) :
    Calls Tryz.prog 101 #[.agg #[.int .i64 a0_0, .int .i64 a0_1, .string a0_2]] w fun e w' => e = .returned (.int .i64 r) ∧ Below w.heap.size w w' := by
  unfold value_Num.f at h
  have HB := Aside0.mk (Below.refl w.heap.size w)
  have HL := Aside0.mk hL
  clear hL
  by_cases h23 : a0_0 = 2 ∨ a0_0 = 3
  · rw [if_pos h23] at h
    obtain rfl := Option.some.inj h
    clear h
    rcases h23 with rfl | rfl
    · go_enter Tryz.func101, Tryz.ntmps101
      go_wp2
      go_ret
      exact ⟨rfl, by repeat (first | exact Below.refl _ _ | apply below_alloc | apply pw_below_drewN | apply below_drew1)⟩
    · go_enter Tryz.func101, Tryz.ntmps101
      go_wp2
      go_ret
      exact ⟨rfl, by repeat (first | exact Below.refl _ _ | apply below_alloc | apply pw_below_drewN | apply below_drew1)⟩
  · rw [if_neg h23] at h
    have c2 : (a0_0 == 2) = false := beq_eq_false_iff_ne.mpr (fun e => h23 (.inl e))
    have c3 : (a0_0 == 3) = false := beq_eq_false_iff_ne.mpr (fun e => h23 (.inr e))
    by_cases h4 : a0_0 = 4
    · rw [if_pos h4] at h
      by_cases hs : a0_2.size ≤ 281474976710656
      · rw [if_pos hs] at h
        obtain rfl := Option.some.inj h
        clear h h23 c2 c3
        subst h4
        have HD := Aside0.mk (fun W => isDigits_calls a0_2 W (by omega))
        cases hd : digB a0_2 with
        | false =>
          rw [numL_dig a0_2 hd]
          rw [hd] at HD
          clear hd hs
          go_enter Tryz.func101, Tryz.ntmps101
          go_wp2_with (go_at_call 120; refine (HD.out _).mono ?_; rintro e w1 ⟨rfl, hb⟩; have HB1 := Aside0.mk (below_step (below_alloc HB.out _) hb); clear hb)
          go_ret
          exact ⟨rfl, HB1.out⟩
        | true =>
          rw [hd] at HD
          clear hd
          have HS := Aside0.mk hs
          clear hs
          go_enter Tryz.func101, Tryz.ntmps101
          go_wp2_with (go_at_call 120; refine (HD.out _).mono ?_; rintro e w2 ⟨rfl, hb⟩; have HB2 := Aside0.mk (below_step (below_alloc HB.out _) hb); have BK2 := Aside0.mk (blk_below (heap_alloc_new w _) hb); have hc2 := (blk_cell BK2.out 2).trans rfl; clear hb)
          refine (parse_calls a0_2 w2 (HL.out.below HB2.out) HS.out).mono ?_
          rintro e w3 ⟨hb, ⟨n, hp, rfl⟩ | ⟨n, t, p, hp, rfl⟩⟩
          · have HB3 := Aside0.mk (below_step HB2.out hb)
            have BK3 := Aside0.mk (blk_below BK2.out hb)
            have hc3 := (blk_cell BK3.out 2).trans rfl
            have hv := Lib.parseIntB_bounds hp
            have HV := Aside0.mk (show I64 n from ⟨by have := hv.1; simp at this; omega, by have := hv.2; simp at this; omega⟩)
            have HN := Aside0.mk (show numL a0_2.data.toList = if Lib.itoa n = a0_2.data.toList then n else 0 from by unfold numL; rw [hp])
            have hS := NumS.mk hc3 ((HL.out.below HB2.out).below hb) HB3.out (blk_lt BK3.out)
            clear hb hc2 hv hp hc3 HB2 BK2 HB3 BK3 HD
            go_wp2
            go_region_held3 (fun w' => w'.cell? ⟨w.heap.size, 2, none⟩ = some (.string a0_2) ∧ NumS w w' a0_2) (first | assumption | exact ⟨NumS.cell (by assumption), by assumption⟩ | exact ⟨(NumS.drew (by assumption)).cell, NumS.drew (by assumption)⟩)
              (first | (go_at_call 32; refine (fmt_run n HV.out w _ a0_2 (by first | assumption | (refine And.right ?_; assumption) | (apply NumS.drew; assumption))).mono ?_; rintro e w' ⟨rfl, hS'⟩))
            rename_i hS'
            have HS' := Aside0.mk (show NumS w _ a0_2 from by first | exact hS'.2 | exact hS')
            by_cases he : Lib.itoa n = a0_2.data.toList
            · have hb : (Lib.itoa n == a0_2.toList) = true := by rw [ByteArray.toList_eq, he]; exact beq_self_eq_true _
              rw [hb]
              have HN' := Aside0.mk (HN.out.trans (if_pos he))
              clear hb he HN
              go_wp2
              go_ret
              exact ⟨by rw [HN'.out]; rfl, HS'.out.bel⟩
            · have hb : (Lib.itoa n == a0_2.toList) = false := by rw [ByteArray.toList_eq]; exact beq_eq_false_iff_ne.mpr he
              rw [hb]
              have HN' := Aside0.mk (HN.out.trans (if_neg he))
              clear hb he HN
              go_wp2
              go_ret
              exact ⟨by rw [HN'.out]; rfl, HS'.out.bel⟩
          · have HB3 := Aside0.mk (below_step HB2.out hb)
            have HN := Aside0.mk (show numL a0_2.data.toList = 0 from by unfold numL; split; (exact absurd (by assumption) (hp _)); rfl)
            clear hb hc2 hp
            go_wp2
            go_quiet (fail)
            go_wp2
            go_ret
            exact ⟨by rw [HN.out]; rfl, by repeat (first | exact HB3.out | apply pw_below_drewN | apply below_drew1)⟩
      · rw [if_neg hs] at h; cases h
    · rw [if_neg h4] at h
      obtain rfl := Option.some.inj h
      have c4 : (a0_0 == 4) = false := beq_eq_false_iff_ne.mpr h4
      clear h h23 h4
      go_enter Tryz.func101, Tryz.ntmps101
      go_wp2
      go_ret
      exact ⟨rfl, by repeat (first | exact Below.refl _ _ | apply below_alloc | apply pw_below_drewN | apply below_drew1)⟩
end Go.Proofs.YtjlhhjfmekjbhaaGreatDoor.Va

/- What holds for all large numbers of rounds; small facts on lists and whole numbers. No condition. -/
namespace Go.Proofs.YtjlhhjfmekjbhaaGreatDoor.Ev
open Go.RowKit Go.Proofs.YtjlhhjfmekjbhaaGreatDoorW.PrintWords
def Ev (p : Nat → Prop) : Prop := ∃ K, ∀ k, K ≤ k → p k
theorem Ev.all {p : Nat → Prop} (h : ∀ k, p k) : Ev p := ⟨0, fun k _ => h k⟩
theorem Ev.ex {p : Nat → Prop} (h : Ev p) : ∃ k, p k := by obtain ⟨K, h⟩ := h; exact ⟨K, h K (Nat.le_refl _)⟩
theorem Ev.and {p q : Nat → Prop} (h : Ev p) (g : Ev q) : Ev fun k => p k ∧ q k := by
  obtain ⟨K, h⟩ := h
  obtain ⟨M, g⟩ := g
  exact ⟨K + M, fun k hk => ⟨h k (by omega), g k (by omega)⟩⟩
theorem Ev.mono {p q : Nat → Prop} (h : Ev p) (f : ∀ k, p k → q k) : Ev q := by
  obtain ⟨K, h⟩ := h
  exact ⟨K, fun k hk => f k (h k hk)⟩
theorem Ev.succ {p q : Nat → Prop} (h : Ev p) (f : ∀ k, p k → q (k + 1)) : Ev q := by
  obtain ⟨K, h⟩ := h
  refine ⟨K + 1, fun k hk => ?_⟩
  obtain ⟨k, rfl⟩ : ∃ j, k = j + 1 := ⟨k - 1, by omega⟩
  exact f k (h k (by omega))
theorem Ev.step {q : Nat → Prop} (f : ∀ k, q (k + 1)) : Ev q := (Ev.all (p := fun _ => True) fun _ => trivial).succ fun k _ => f k
theorem rd_nat (l : List Int) (i : Nat) : rd l (i : Int) = l.getD i 0 := by unfold rd; rw [Int.toNat_natCast]
theorem drop_at {α : Type} (l : List α) (i : Nat) (d : α) (h : i < l.length) : l.drop i = l.getD i d :: l.drop (i + 1) := by
  rw [List.drop_eq_getElem_cons h, List.getD_eq_getElem?_getD, List.getElem?_eq_getElem h]
  rfl
theorem wrap_nat (i : Nat) (h : i + 1 ≤ 9223372036854775807) : wrap64 ((i : Int) + 1) = ((i + 1 : Nat) : Int) := by
  unfold wrap64
  omega
theorem wrap_id (x : Int) (h0 : -9223372036854775808 ≤ x) (h1 : x ≤ 9223372036854775807) : wrap64 x = x := by
  unfold wrap64
  omega
end Go.Proofs.YtjlhhjfmekjbhaaGreatDoor.Ev

-- WRITTEN BY hprint.py (a patched scratch copy of print.py, see NOTES.md): out of the translation and of contracts proved by hand.
namespace Go.Proofs.YtjlhhjfmekjbhaaGreatDoor.Pr
open Go.RowKit Go.Proofs.YtjlhhjfmekjbhaaGreatDoorW.PrintWords Go.Proofs.YtjlhhjfmekjbhaaGreatDoorW.PrintLast Go.Proofs.YtjlhhjfmekjbhaaGreatDoorW.PrintMore
set_option linter.unusedVariables false
set_option linter.unusedSimpArgs false
def errW : Option Int → Value
  | none => .nilIface
  | some c => .iface 0 (.int .i64 c)
theorem errW_none : errW none = .nilIface := rfl
theorem errW_some (c : Int) : errW (some c) = .iface 0 (.int .i64 c) := rfl
end Go.Proofs.YtjlhhjfmekjbhaaGreatDoor.Pr

-- WRITTEN BY hprint.py (a patched scratch copy of print.py, see NOTES.md): out of the translation and of contracts proved by hand.
namespace Go.Proofs.YtjlhhjfmekjbhaaGreatDoor.Pr
open Go.RowKit Go.Proofs.YtjlhhjfmekjbhaaGreatDoorW.PrintWords Go.Proofs.YtjlhhjfmekjbhaaGreatDoorW.PrintLast Go.Proofs.YtjlhhjfmekjbhaaGreatDoorW.PrintMore
set_option linter.unusedVariables false
set_option linter.unusedSimpArgs false
theorem eqA83 (d : Nat) (w : World) (x0 y0 : Int) (x1 y1 : Int) (x2 y2 : ByteArray) :
    (Op.equalIn (d + 2) 83 (.agg #[.int .i64 x0, .int .i64 x1, .string x2]) (.agg #[.int .i64 y0, .int .i64 y1, .string y2])).run Tryz.prog w = .ok (x0 == y0 && (x1 == y1 && (x2.toList == y2.toList))) w := by
  refine eqA_of Tryz.underlying83 (by kernel_rfl) ?_
  refine eqf_cons (by rfl) (by go_simp; rfl) (by go_simp; rfl) (by go_simp) ?_
  refine eqf_cons (by rfl) (by go_simp; rfl) (by go_simp; rfl) (by go_simp) ?_
  exact eqf_last (by rfl) (by go_simp; rfl) (by go_simp; rfl) (by go_simp)
end Go.Proofs.YtjlhhjfmekjbhaaGreatDoor.Pr

namespace Go.Proofs.YtjlhhjfmekjbhaaGreatDoor.Pr
open Go.RowKit Go.Proofs.YtjlhhjfmekjbhaaGreatDoor.Va Go.Proofs.YtjlhhjfmekjbhaaGreatDoorW.PrintWords Go.Proofs.YtjlhhjfmekjbhaaGreatDoorW.PrintLast Go.Proofs.YtjlhhjfmekjbhaaGreatDoorW.PrintMore
set_option linter.unusedVariables false
set_option linter.unusedSimpArgs false
/-! ### value_Key: function 99 -/
def value_Key.f (a0_0 : Int) (a0_1 : Int) (a0_2 : ByteArray) : Option (ByteArray) := if a0_0 = 0 then (some (⟨#[117, 110, 100, 101, 102, 105, 110, 101, 100]⟩ : ByteArray)) else (if a0_0 = 1 then (some (⟨#[110, 117, 108, 108]⟩ : ByteArray)) else (if a0_0 = 2 then ((strconv_FormatBool.f (a0_1 == 1)).bind fun t102 => (some t102)) else (if a0_0 = 3 then ((strconv_FormatInt.f a0_1 10).bind fun t103 => (some t103)) else (if a0_0 = 4 then (some a0_2) else (some (⟨#[91, 111, 98, 106, 101, 99, 116, 93]⟩ : ByteArray))))))
set_option maxHeartbeats 8000000 in
set_option maxRecDepth 100000 in
theorem value_Key.calls (a0_0 : Int) (a0_1 : Int) (a0_2 : ByteArray) (r : ByteArray) (w : World) (hL : Laid w) (h : value_Key.f a0_0 a0_1 a0_2 = some r) :
    Calls Tryz.prog 99 #[.agg #[.int .i64 a0_0, .int .i64 a0_1, .string a0_2]] w fun e w' => e = .returned (.string r) ∧ Below w.heap.size w w' := by
  have HL := Aside0.mk hL
  clear hL
  have hu83 := Tryz.underlying83
  have HB := Aside0.mk (Below.refl w.heap.size w)
  have H : (if a0_0 = 0 then (some (⟨#[117, 110, 100, 101, 102, 105, 110, 101, 100]⟩ : ByteArray)) else (if a0_0 = 1 then (some (⟨#[110, 117, 108, 108]⟩ : ByteArray)) else (if a0_0 = 2 then ((strconv_FormatBool.f (a0_1 == 1)).bind fun t102 => (some t102)) else (if a0_0 = 3 then ((strconv_FormatInt.f a0_1 10).bind fun t103 => (some t103)) else (if a0_0 = 4 then (some a0_2) else (some (⟨#[91, 111, 98, 106, 101, 99, 116, 93]⟩ : ByteArray))))))) = some r := h
  clear h
  by_cases c2 : a0_0 = 0
  · rw [if_pos c2] at H
    have c2b0 : (a0_0 == 0) = true := beq_iff_eq.mpr c2
    have c2b1 : (a0_0 != 0) = false := bne_eq_false_iff_eq.mpr c2
    clear c2
    obtain rfl := Option.some.inj H
    go_enter Tryz.func99, Tryz.ntmps99
    go_wp2_with (first | ((with_reducible refine gate_dst (N := 1) rfl ?_); refine zX (N := 1) (cs := #[.int .i64 a0_0, .int .i64 a0_1, .string a0_2]) (t := 83) (h := ?_); intro gb101 hg w3 hbox hb; have BK101 := Aside0.mk hbox; have GW101 := Aside0.mk ((zS : w.heap.size ≤ gb101)); have GE101 := Aside0.mk ((zS : w.heap.size ≤ gb101)); replace HB := Aside0.mk (below_step zB hb); clear hb hbox hg; obtain ⟨hcz4_0, hcz4_1, hcz4_2, hfz4_0, hfz4_1, hfz4_2⟩ := zd3 BK101.out (.int .i64 a0_0) (.int .i64 a0_1) (.string a0_2)))
    go_ret
    exact ⟨zE, zG⟩
  · rw [if_neg c2] at H
    have c2b0 : (a0_0 == 0) = false := beq_eq_false_iff_ne.mpr c2
    have c2b1 : (a0_0 != 0) = true := bne_iff_ne.mpr c2
    by_cases c5 : a0_0 = 1
    · rw [if_pos c5] at H
      have c5b0 : (a0_0 == 1) = true := beq_iff_eq.mpr c5
      have c5b1 : (a0_0 != 1) = false := bne_eq_false_iff_eq.mpr c5
      clear c5
      obtain rfl := Option.some.inj H
      go_enter Tryz.func99, Tryz.ntmps99
      go_wp2_with (first | ((with_reducible refine gate_dst (N := 1) rfl ?_); refine zX (N := 1) (cs := #[.int .i64 a0_0, .int .i64 a0_1, .string a0_2]) (t := 83) (h := ?_); intro gb101 hg w6 hbox hb; have BK101 := Aside0.mk hbox; have GW101 := Aside0.mk ((zS : w.heap.size ≤ gb101)); have GE101 := Aside0.mk ((zS : w.heap.size ≤ gb101)); replace HB := Aside0.mk (below_step zB hb); clear hb hbox hg; obtain ⟨hcz7_0, hcz7_1, hcz7_2, hfz7_0, hfz7_1, hfz7_2⟩ := zd3 BK101.out (.int .i64 a0_0) (.int .i64 a0_1) (.string a0_2)))
      go_ret
      exact ⟨zE, zG⟩
    · rw [if_neg c5] at H
      have c5b0 : (a0_0 == 1) = false := beq_eq_false_iff_ne.mpr c5
      have c5b1 : (a0_0 != 1) = true := bne_iff_ne.mpr c5
      by_cases c8 : a0_0 = 2
      · rw [if_pos c8] at H
        have c8b0 : (a0_0 == 2) = true := beq_iff_eq.mpr c8
        have c8b1 : (a0_0 != 2) = false := bne_eq_false_iff_eq.mpr c8
        clear c8
        obtain ⟨t102, A9, H⟩ := zO H
        obtain rfl := Option.some.inj H
        go_enter Tryz.func99, Tryz.ntmps99
        go_wp2_with (first | ((with_reducible refine gate_dst (N := 1) rfl ?_); refine zX (N := 1) (cs := #[.int .i64 a0_0, .int .i64 a0_1, .string a0_2]) (t := 83) (h := ?_); intro gb101 hg w10 hbox hb; have BK101 := Aside0.mk hbox; have GW101 := Aside0.mk ((zS : w.heap.size ≤ gb101)); have GE101 := Aside0.mk ((zS : w.heap.size ≤ gb101)); replace HB := Aside0.mk (below_step zB hb); clear hb hbox hg; obtain ⟨hcz11_0, hcz11_1, hcz11_2, hfz11_0, hfz11_1, hfz11_2⟩ := zd3 BK101.out (.int .i64 a0_0) (.int .i64 a0_1) (.string a0_2)) | ((with_reducible refine gate_callee (f := 119) rfl ?_); refine goesL_ (some 14) rfl rfl Tryz.func119 (by kernel_rfl) rfl #[.bool (a0_1 == 1)] rfl zP ?_; (with_reducible refine (strconv_FormatBool.calls (a0_1 == 1) t102 _ A9.out).mono ?_); rintro e w' ⟨rfl, ⟨nd, rfl⟩⟩; refine ⟨_, rfl, ?_⟩))
        go_ret
        exact ⟨zE, zG⟩
      · rw [if_neg c8] at H
        have c8b0 : (a0_0 == 2) = false := beq_eq_false_iff_ne.mpr c8
        have c8b1 : (a0_0 != 2) = true := bne_iff_ne.mpr c8
        by_cases c12 : a0_0 = 3
        · rw [if_pos c12] at H
          have c12b0 : (a0_0 == 3) = true := beq_iff_eq.mpr c12
          have c12b1 : (a0_0 != 3) = false := bne_eq_false_iff_eq.mpr c12
          clear c12
          obtain ⟨t103, A13, H⟩ := zO H
          obtain rfl := Option.some.inj H
          go_enter Tryz.func99, Tryz.ntmps99
          go_wp2_with (first | ((with_reducible refine gate_dst (N := 1) rfl ?_); refine zX (N := 1) (cs := #[.int .i64 a0_0, .int .i64 a0_1, .string a0_2]) (t := 83) (h := ?_); intro gb101 hg w14 hbox hb; have BK101 := Aside0.mk hbox; have GW101 := Aside0.mk ((zS : w.heap.size ≤ gb101)); have GE101 := Aside0.mk ((zS : w.heap.size ≤ gb101)); replace HB := Aside0.mk (below_step zB hb); clear hb hbox hg; obtain ⟨hcz15_0, hcz15_1, hcz15_2, hfz15_0, hfz15_1, hfz15_2⟩ := zd3 BK101.out (.int .i64 a0_0) (.int .i64 a0_1) (.string a0_2)) | ((with_reducible refine gate_callee (f := 32) rfl ?_); refine goesL_ (some 19) rfl rfl Tryz.func32 (by kernel_rfl) rfl #[.int .i64 a0_1, .int .i64 10] rfl zP ?_; (with_reducible refine (strconv_FormatInt.calls (hL := ?sideL) a0_1 10 t103 _ A13.out).mono ?_); (case sideL => exact Laid.below HL.out zG); rintro e w16 ⟨rfl, hb⟩; refine ⟨_, rfl, ?_⟩; replace BK101 := Aside0.mk (blk_below (g := gb101) zK hb); replace HB := Aside0.mk (below_step zG hb); (try clear hb)))
          go_ret
          exact ⟨zE, zG⟩
        · rw [if_neg c12] at H
          have c12b0 : (a0_0 == 3) = false := beq_eq_false_iff_ne.mpr c12
          have c12b1 : (a0_0 != 3) = true := bne_iff_ne.mpr c12
          by_cases c17 : a0_0 = 4
          · rw [if_pos c17] at H
            have c17b0 : (a0_0 == 4) = true := beq_iff_eq.mpr c17
            have c17b1 : (a0_0 != 4) = false := bne_eq_false_iff_eq.mpr c17
            clear c17
            obtain rfl := Option.some.inj H
            go_enter Tryz.func99, Tryz.ntmps99
            go_wp2_with (first | ((with_reducible refine gate_dst (N := 1) rfl ?_); refine zX (N := 1) (cs := #[.int .i64 a0_0, .int .i64 a0_1, .string a0_2]) (t := 83) (h := ?_); intro gb101 hg w18 hbox hb; have BK101 := Aside0.mk hbox; have GW101 := Aside0.mk ((zS : w.heap.size ≤ gb101)); have GE101 := Aside0.mk ((zS : w.heap.size ≤ gb101)); replace HB := Aside0.mk (below_step zB hb); clear hb hbox hg; obtain ⟨hcz19_0, hcz19_1, hcz19_2, hfz19_0, hfz19_1, hfz19_2⟩ := zd3 BK101.out (.int .i64 a0_0) (.int .i64 a0_1) (.string a0_2)))
            go_ret
            exact ⟨zE, zG⟩
          · rw [if_neg c17] at H
            have c17b0 : (a0_0 == 4) = false := beq_eq_false_iff_ne.mpr c17
            have c17b1 : (a0_0 != 4) = true := bne_iff_ne.mpr c17
            obtain rfl := Option.some.inj H
            go_enter Tryz.func99, Tryz.ntmps99
            go_wp2_with (first | ((with_reducible refine gate_dst (N := 1) rfl ?_); refine zX (N := 1) (cs := #[.int .i64 a0_0, .int .i64 a0_1, .string a0_2]) (t := 83) (h := ?_); intro gb101 hg w20 hbox hb; have BK101 := Aside0.mk hbox; have GW101 := Aside0.mk ((zS : w.heap.size ≤ gb101)); have GE101 := Aside0.mk ((zS : w.heap.size ≤ gb101)); replace HB := Aside0.mk (below_step zB hb); clear hb hbox hg; obtain ⟨hcz21_0, hcz21_1, hcz21_2, hfz21_0, hfz21_1, hfz21_2⟩ := zd3 BK101.out (.int .i64 a0_0) (.int .i64 a0_1) (.string a0_2)))
            go_ret
            exact ⟨zE, zG⟩
/-! ### value_number: function 100 -/
def value_number.f (a0 : Int) : Option (Int × Int × ByteArray) := some (3, a0, (⟨#[]⟩ : ByteArray))
set_option maxHeartbeats 8000000 in
set_option maxRecDepth 100000 in
theorem value_number.calls (a0 : Int) (r1 : Int) (r2 : Int) (r3 : ByteArray) (w : World) (h : value_number.f a0 = some (r1, r2, r3)) :
    Calls Tryz.prog 100 #[.int .i64 a0] w fun e w' => e = .returned (.agg #[.int .i64 r1, .int .i64 r2, .string r3]) ∧ Below w.heap.size w w' := by
  have hu83 := Tryz.underlying83
  have HB := Aside0.mk (Below.refl w.heap.size w)
  have H : (some (3, a0, (⟨#[]⟩ : ByteArray))) = some (r1, r2, r3) := h
  clear h
  simp only [Option.some.injEq, Prod.mk.injEq] at H
  obtain ⟨rfl, rfl, rfl⟩ := H
  go_enter Tryz.func100, Tryz.ntmps100
  go_wp2_with (first | ((with_reducible refine gate_dst (N := 2) rfl ?_); refine zX (N := 2) (cs := #[.int .i64 0, .int .i64 0, .string (⟨#[]⟩ : ByteArray)]) (t := 83) (h := ?_); intro gb104 hg w2 hbox hb; have BK104 := Aside0.mk hbox; have GW104 := Aside0.mk ((zS : w.heap.size ≤ gb104)); have GE104 := Aside0.mk ((zS : w.heap.size ≤ gb104)); replace HB := Aside0.mk (below_step zB hb); clear hb hbox hg; obtain ⟨hcz3_0, hcz3_1, hcz3_2, hfz3_0, hfz3_1, hfz3_2⟩ := zd3 BK104.out (.int .i64 0) (.int .i64 0) (.string (⟨#[]⟩ : ByteArray))))
  refine bodyPost_ret (results_cell_row rfl _ _ gb104 83 #[.int .i64 3, .int .i64 a0, .string (⟨#[]⟩ : ByteArray)] (0, 0) _ rfl (by (with_reducible repeat (first | refine blk_drewN ?_ _ | refine blk_drew ?_ | refine blk_alloc ?_ _)); refine blk_put (cs := #[.int .i64 3, .int .i64 a0, .string (⟨#[]⟩ : ByteArray)]) ?_ 2 _ rfl; (with_reducible repeat (first | refine blk_drewN ?_ _ | refine blk_drew ?_ | refine blk_alloc ?_ _)); refine blk_put (cs := #[.int .i64 3, .int .i64 0, .string (⟨#[]⟩ : ByteArray)]) ?_ 1 _ rfl; (with_reducible repeat (first | refine blk_drewN ?_ _ | refine blk_drew ?_ | refine blk_alloc ?_ _)); refine blk_put (cs := #[.int .i64 0, .int .i64 0, .string (⟨#[]⟩ : ByteArray)]) ?_ 0 _ rfl; (with_reducible repeat (first | refine blk_drewN ?_ _ | refine blk_drew ?_ | refine blk_alloc ?_ _)); exact BK104.out) Tryz.underlying83 rfl (by kernel_rfl)) rfl ?_
  exact ⟨zE, zG⟩
end Go.Proofs.YtjlhhjfmekjbhaaGreatDoor.Pr

namespace Go.Proofs.YtjlhhjfmekjbhaaGreatDoor.Pr
open Go.RowKit Go.Proofs.YtjlhhjfmekjbhaaGreatDoor.Va Go.Proofs.YtjlhhjfmekjbhaaGreatDoorW.PrintWords Go.Proofs.YtjlhhjfmekjbhaaGreatDoorW.PrintLast Go.Proofs.YtjlhhjfmekjbhaaGreatDoorW.PrintMore
set_option linter.unusedVariables false
set_option linter.unusedSimpArgs false
/-! ### value_makers_1: function 98 -/
def value_makers_1.j0 : Nat → Bool → Int → Int → ByteArray → Int → Int → ByteArray → Option (Int × Int × ByteArray)
  | 0, _, _, _, _, _, _, _ => none
  | k + 1, x12, x106000, x106001, x106002, x107000, x107001, x107002 => if x12 = true then ((value_Key.f x106000 x106001 x106002).bind fun t108 => ((value_Key.f x107000 x107001 x107002).bind fun t109 => (if t108.size + t109.size ≤ 9223372036854775807 then (some (4, 0, t108 ++ t109)) else (none)))) else ((value_Num.f x106000 x106001 x106002).bind fun t110 => ((value_Num.f x107000 x107001 x107002).bind fun t111 => ((value_number.f (wrap64 (t110 + t111))).bind fun bt112 => (some (bt112.1, bt112.2.1, bt112.2.2)))))
def value_makers_1.f (k : Nat) (a0_0 : Int) (a0_1 : Int) (a0_2 : ByteArray) (a1_0 : Int) (a1_1 : Int) (a1_2 : ByteArray) : Option (Int × Int × ByteArray) := if a0_0 = 4 then (value_makers_1.j0 k true a0_0 a0_1 a0_2 a1_0 a1_1 a1_2) else (value_makers_1.j0 k (a1_0 == 4) a0_0 a0_1 a0_2 a1_0 a1_1 a1_2)
set_option maxHeartbeats 8000000 in
set_option maxRecDepth 100000 in
theorem value_makers_1.calls (k : Nat) (a0_0 : Int) (a0_1 : Int) (a0_2 : ByteArray) (a1_0 : Int) (a1_1 : Int) (a1_2 : ByteArray) (r1 : Int) (r2 : Int) (r3 : ByteArray) (w : World) (hL : Laid w) (h : value_makers_1.f k a0_0 a0_1 a0_2 a1_0 a1_1 a1_2 = some (r1, r2, r3)) :
    Calls Tryz.prog 98 #[.agg #[.int .i64 a0_0, .int .i64 a0_1, .string a0_2], .agg #[.int .i64 a1_0, .int .i64 a1_1, .string a1_2]] w fun e w' => e = .returned (.agg #[.int .i64 r1, .int .i64 r2, .string r3]) ∧ Below w.heap.size w w' := by
  have HL := Aside0.mk hL
  clear hL
  have hu83 := Tryz.underlying83
  have HB := Aside0.mk (Below.refl w.heap.size w)
  have H : (if a0_0 = 4 then (value_makers_1.j0 k true a0_0 a0_1 a0_2 a1_0 a1_1 a1_2) else (value_makers_1.j0 k (a1_0 == 4) a0_0 a0_1 a0_2 a1_0 a1_1 a1_2)) = some (r1, r2, r3) := h
  clear h
  have HC3 := Aside0.mk H
  clear H
  go_enter Tryz.func98, Tryz.ntmps98
  go_upto_region 1 with (first | ((with_reducible refine gate_dst (N := 2) rfl ?_); refine zX (N := 2) (cs := #[.int .i64 a0_0, .int .i64 a0_1, .string a0_2]) (t := 83) (h := ?_); intro gb105 hg w4 hbox hb; have BK105 := Aside0.mk hbox; have GW105 := Aside0.mk ((zS : w.heap.size ≤ gb105)); have GE105 := Aside0.mk ((zS : w.heap.size ≤ gb105)); replace HB := Aside0.mk (below_step zB hb); clear hb hbox hg) | ((with_reducible refine gate_dst (N := 3) rfl ?_); refine zX (N := 3) (cs := #[.int .i64 a1_0, .int .i64 a1_1, .string a1_2]) (t := 83) (h := ?_); intro gb106 hg w5 hbox hb; have BK106 := Aside0.mk hbox; have GW106 := Aside0.mk ((zT : w.heap.size ≤ gb106)); have GE106 := Aside0.mk ((zT : w.heap.size ≤ gb106)); have NB105_106 := Aside0.mk ((zL : gb105 ≠ gb106)); have NB106_105 := Aside0.mk ((zM : gb106 ≠ gb105)); replace BK105 := Aside0.mk (blk_below (g := gb105) zK hb); replace HB := Aside0.mk (below_step zG hb); clear hb hbox hg) | ((with_reducible refine gate_dst (N := 4) rfl ?_); refine zX (N := 4) (cs := #[.int .i64 0, .int .i64 0, .string (⟨#[]⟩ : ByteArray)]) (t := 83) (h := ?_); intro gb107 hg w6 hbox hb; have BK107 := Aside0.mk hbox; have GW107 := Aside0.mk ((zT : w.heap.size ≤ gb107)); have GE107 := Aside0.mk ((zT : w.heap.size ≤ gb107)); have NB105_107 := Aside0.mk ((zL : gb105 ≠ gb107)); have NB107_105 := Aside0.mk ((zM : gb107 ≠ gb105)); have NB106_107 := Aside0.mk ((zL : gb106 ≠ gb107)); have NB107_106 := Aside0.mk ((zM : gb107 ≠ gb106)); replace BK105 := Aside0.mk (blk_below (g := gb105) zK hb); replace BK106 := Aside0.mk (blk_below (g := gb106) zK hb); replace HB := Aside0.mk (below_step zG hb); clear hb hbox hg))
  (try simp only [Act.put, List.setIfInBounds_toArray, List.set_cons_zero, List.set_cons_succ])
  go_cut [12] (fun v12 wc => ∃ (kq : Nat) (x12_2 : Bool), v12 = .bool x12_2 ∧ Aside0 (value_makers_1.j0 kq x12_2 a0_0 a0_1 a0_2 a1_0 a1_1 a1_2 = some (r1, r2, r3)) ∧ Aside0 (kq ≤ k) ∧ Aside0 (wc.heap[gb105]? = some (.cells #[.int .i64 a0_0, .int .i64 a0_1, .string a0_2] 83 (0, 0))) ∧ Aside0 (wc.heap[gb106]? = some (.cells #[.int .i64 a1_0, .int .i64 a1_1, .string a1_2] 83 (0, 0))) ∧ Aside0 (wc.heap[gb107]? = some (.cells #[.int .i64 0, .int .i64 0, .string (⟨#[]⟩ : ByteArray)] 83 (0, 0))) ∧ Aside0 (Below w.heap.size w wc))
  case first =>
    have H := HC3.out
    clear HC3
    by_cases c7 : a0_0 = 4
    · rw [if_pos c7] at H
      have c7b0 : (a0_0 == 4) = true := beq_iff_eq.mpr c7
      have c7b1 : (a0_0 != 4) = false := bne_eq_false_iff_eq.mpr c7
      clear c7
      (first | rw [c7b0] | (simp only [i64_w, i32_w]; rw [c7b0]) | skip)
      have H' := Aside0.mk H
      clear H
      have hnb8 := NB105_106.out
      have hnc8 := NB106_105.out
      have hnb9 := NB105_107.out
      have hnc9 := NB107_105.out
      have hcz10_0 : w6.cell? ⟨gb105, 0, none⟩ = some (.int .i64 a0_0) := (blk_cell BK105.out 0).trans rfl
      have hcz10_1 : w6.cell? ⟨gb105, 1, none⟩ = some (.int .i64 a0_1) := (blk_cell BK105.out 1).trans rfl
      have hcz10_2 : w6.cell? ⟨gb105, 2, none⟩ = some (.string a0_2) := (blk_cell BK105.out 2).trans rfl
      have hfz10_0 := blk_frozen BK105.out 0
      have hfz10_1 := blk_frozen BK105.out 1
      have hfz10_2 := blk_frozen BK105.out 2
      go_wp2
      go_meet
      case rel => exact ⟨_, (true), zR, H', ⟨by first | omega | exact Nat.le_refl _⟩, ⟨zK⟩, ⟨zK⟩, ⟨zK⟩, ⟨zG⟩⟩
    · rw [if_neg c7] at H
      have c7b0 : (a0_0 == 4) = false := beq_eq_false_iff_ne.mpr c7
      have c7b1 : (a0_0 != 4) = true := bne_iff_ne.mpr c7
      (first | rw [c7b0] | (simp only [i64_w, i32_w]; rw [c7b0]) | skip)
      have H' := Aside0.mk H
      clear H
      have hnb11 := NB105_106.out
      have hnc11 := NB106_105.out
      have hnb12 := NB105_107.out
      have hnc12 := NB107_105.out
      have hcz13_0 : w6.cell? ⟨gb105, 0, none⟩ = some (.int .i64 a0_0) := (blk_cell BK105.out 0).trans rfl
      have hcz13_1 : w6.cell? ⟨gb105, 1, none⟩ = some (.int .i64 a0_1) := (blk_cell BK105.out 1).trans rfl
      have hcz13_2 : w6.cell? ⟨gb105, 2, none⟩ = some (.string a0_2) := (blk_cell BK105.out 2).trans rfl
      have hfz13_0 := blk_frozen BK105.out 0
      have hfz13_1 := blk_frozen BK105.out 1
      have hfz13_2 := blk_frozen BK105.out 2
      have hnb14 := NB106_107.out
      have hnc14 := NB107_106.out
      have hcz15_0 : w6.cell? ⟨gb106, 0, none⟩ = some (.int .i64 a1_0) := (blk_cell BK106.out 0).trans rfl
      have hcz15_1 : w6.cell? ⟨gb106, 1, none⟩ = some (.int .i64 a1_1) := (blk_cell BK106.out 1).trans rfl
      have hcz15_2 : w6.cell? ⟨gb106, 2, none⟩ = some (.string a1_2) := (blk_cell BK106.out 2).trans rfl
      have hfz15_0 := blk_frozen BK106.out 0
      have hfz15_1 := blk_frozen BK106.out 1
      have hfz15_2 := blk_frozen BK106.out 2
      go_wp2
      go_meet
      case rel => exact ⟨_, ((a1_0 == 4)), zR, H', ⟨by first | omega | exact Nat.le_refl _⟩, ⟨zK⟩, ⟨zK⟩, ⟨zK⟩, ⟨zG⟩⟩
  case rest =>
    clear HC3
    obtain ⟨kq, x12_2, rfl, HA, HJ2, BK105, BK106, BK107, HB⟩ := hcut
    cases kq with
    | zero => exact absurd HA.out (by simp [value_makers_1.j0])
    | succ kj2 =>
      have H := HA.out
      clear HA
      simp only [value_makers_1.j0] at H
      by_cases c16 : x12_2 = true
      · subst c16
        rw [if_pos rfl] at H
        obtain ⟨t108, A17, H⟩ := zO H
        obtain ⟨t109, A18, H⟩ := zO H
        by_cases c19 : t108.size + t109.size ≤ 9223372036854775807
        · rw [if_pos c19] at H
          have c19b0 := eq_true c19
          have c19b1 : decide (t108.size + t109.size ≤ 9223372036854775807) = true := decide_eq_true c19
          try have c19b2 : (9223372036854775807 < t108.size + t109.size) = False := eq_false (Nat.not_lt.2 c19)
          simp only [Option.some.injEq, Prod.mk.injEq] at H
          obtain ⟨rfl, rfl, rfl⟩ := H
          try go_wp2
          have n0_ := Aside0.mk (blk_drew BK105.out)
          have n1_ := Aside0.mk (blk_drew BK106.out)
          have n2_ := Aside0.mk (blk_drew BK107.out)
          have n3_ := Aside0.mk (below_drew1 HB.out)
          clear BK105
          clear BK106
          clear BK107
          clear HB
          have BK105 := n0_
          have BK106 := n1_
          have BK107 := n2_
          have HB := n3_
          clear n0_ n1_ n2_ n3_
          refine start_ (n := 7) (S := fun w' => w'.cell? ⟨gb105, 0, none⟩ = some (.int .i64 a0_0) ∧ w'.cell? ⟨gb105, 1, none⟩ = some (.int .i64 a0_1) ∧ w'.cell? ⟨gb105, 2, none⟩ = some (.string a0_2) ∧ w'.cell? ⟨gb106, 0, none⟩ = some (.int .i64 a1_0) ∧ w'.cell? ⟨gb106, 1, none⟩ = some (.int .i64 a1_1) ∧ w'.cell? ⟨gb106, 2, none⟩ = some (.string a1_2)) (ds := []) #[false, false, false, false, false, false, false] (by kernel_rfl) rfl rfl ⟨(blk_cell BK105.out 0).trans rfl, (blk_cell BK105.out 1).trans rfl, (blk_cell BK105.out 2).trans rfl, (blk_cell BK106.out 0).trans rfl, (blk_cell BK106.out 1).trans rfl, (blk_cell BK106.out 2).trans rfl⟩ (fun hHeld => ?_)
          generalize wc.drew = w20 at BK105 BK106 BK107 HB hHeld ⊢
          refine take_ (i := 0) (N := some 13) (v := ?_) (a' := ?_) #[true, false, false, false, false, false, false] rfl rfl (by kernel_rfl) (fun _ _ _ h => h) (Or.inl ⟨by rfl, ?_⟩) hHeld ?_ ?_
          rotate_left
          · rintro w' ⟨s0, s1, s2, s3, s4, s5⟩
            go_simp
            with_reducible rfl
          rotate_left
          · simp only [Act.put, List.setIfInBounds_toArray, List.set_cons_zero, List.set_cons_succ, i64_w, i32_w]
            rfl
          refine take_ (i := 2) (N := some 15) (v := ?_) (a' := ?_) #[true, false, true, false, false, false, false] rfl rfl (by kernel_rfl) (fun _ _ _ h => h) (Or.inl ⟨by rfl, ?_⟩) hHeld ?_ ?_
          rotate_left
          · rintro w' ⟨s0, s1, s2, s3, s4, s5⟩
            go_simp
            with_reducible rfl
          rotate_left
          · simp only [Act.put, List.setIfInBounds_toArray, List.set_cons_zero, List.set_cons_succ, i64_w, i32_w]
            rfl
          refine one_ (i := 1) (N := some 14) #[true, true, true, false, false, false, false] rfl rfl (by kernel_rfl) (by decide) (fun K hK => ?_)
          refine goes_ Tryz.func99 (by kernel_rfl) rfl #[.agg #[.int .i64 a0_0, .int .i64 a0_1, .string a0_2]] (by rfl) rfl rfl zP ?_
          with_reducible refine (value_Key.calls (hL := ?sideL) a0_0 a0_1 a0_2 t108 _ A17.out).mono ?_
          (case sideL => exact Laid.below HL.out zG)
          rintro e w21 ⟨rfl, hb⟩
          refine ⟨_, rfl, ?_⟩
          have n0_ := Aside0.mk (blk_below (g := gb105) zK hb)
          have n1_ := Aside0.mk (blk_below (g := gb106) zK hb)
          have n2_ := Aside0.mk (blk_below (g := gb107) zK hb)
          have n3_ := Aside0.mk (below_step zG hb)
          clear BK105
          clear BK106
          clear BK107
          clear HB
          have BK105 := n0_
          have BK106 := n1_
          have BK107 := n2_
          have HB := n3_
          clear n0_ n1_ n2_ n3_
          (try clear hb)
          (try clear hb2)
          (try clear hk)
          (try clear hi)
          refine hK.out _ _ ⟨(blk_cell BK105.out 0).trans rfl, (blk_cell BK105.out 1).trans rfl, (blk_cell BK105.out 2).trans rfl, (blk_cell BK106.out 0).trans rfl, (blk_cell BK106.out 1).trans rfl, (blk_cell BK106.out 2).trans rfl⟩ (fun hHeld => ?_)
          clear hK K
          refine norm_ (a' := ?_) ?_ ?_
          rotate_left
          · show Act.put _ (some 14) _ = _
            simp only [Act.put, List.setIfInBounds_toArray, List.set_cons_zero, List.set_cons_succ, i64_w, i32_w]
            rfl
          refine one_ (i := 3) (N := some 16) #[true, true, true, true, false, false, false] rfl rfl (by kernel_rfl) (by decide) (fun K hK => ?_)
          refine goes_ Tryz.func99 (by kernel_rfl) rfl #[.agg #[.int .i64 a1_0, .int .i64 a1_1, .string a1_2]] (by rfl) rfl rfl zP ?_
          with_reducible refine (value_Key.calls (hL := ?sideL) a1_0 a1_1 a1_2 t109 _ A18.out).mono ?_
          (case sideL => exact Laid.below HL.out zG)
          rintro e w22 ⟨rfl, hb⟩
          refine ⟨_, rfl, ?_⟩
          have n0_ := Aside0.mk (blk_below (g := gb105) zK hb)
          have n1_ := Aside0.mk (blk_below (g := gb106) zK hb)
          have n2_ := Aside0.mk (blk_below (g := gb107) zK hb)
          have n3_ := Aside0.mk (below_step zG hb)
          clear BK105
          clear BK106
          clear BK107
          clear HB
          have BK105 := n0_
          have BK106 := n1_
          have BK107 := n2_
          have HB := n3_
          clear n0_ n1_ n2_ n3_
          (try clear hb)
          (try clear hb2)
          (try clear hk)
          (try clear hi)
          refine hK.out _ _ ⟨(blk_cell BK105.out 0).trans rfl, (blk_cell BK105.out 1).trans rfl, (blk_cell BK105.out 2).trans rfl, (blk_cell BK106.out 0).trans rfl, (blk_cell BK106.out 1).trans rfl, (blk_cell BK106.out 2).trans rfl⟩ (fun hHeld => ?_)
          clear hK K
          refine norm_ (a' := ?_) ?_ ?_
          rotate_left
          · show Act.put _ (some 16) _ = _
            simp only [Act.put, List.setIfInBounds_toArray, List.set_cons_zero, List.set_cons_succ, i64_w, i32_w]
            rfl
          refine pure_ (i := 4) (N := some 17) (v := ?_) (a' := ?_) #[true, true, true, true, true, false, false] rfl rfl (by kernel_rfl) (fun _ _ _ h => h) (Or.inl ⟨by rfl, ?_⟩) ?_ ?_
          rotate_left
          · intro w'
            go_simp
            with_reducible rfl
          rotate_left
          · simp only [Act.put, List.setIfInBounds_toArray, List.set_cons_zero, List.set_cons_succ, i64_w, i32_w]
            rfl
          refine pure_ (i := 5) (N := some 18) (v := ?_) (a' := ?_) #[true, true, true, true, true, true, false] rfl rfl (by kernel_rfl) (fun _ _ _ h => h) (Or.inl ⟨by rfl, ?_⟩) ?_ ?_
          rotate_left
          · intro w'
            go_simp
            with_reducible rfl
          rotate_left
          · simp only [Act.put, List.setIfInBounds_toArray, List.set_cons_zero, List.set_cons_succ, i64_w, i32_w]
            rfl
          refine one_ (i := 6) (N := none) #[true, true, true, true, true, true, true] rfl rfl (by kernel_rfl) (by decide) (fun K hK => ?_)
          have hs23 : w22.cell? ⟨gb107, 0, none⟩ = some (.int .i64 0) := (blk_cell BK107.out 0).trans rfl
          have hfs23 := blk_frozen BK107.out 0
          have hns23_0 := NB105_107.out
          have hns23_1 := NB106_107.out
          have hms23_0 := NB107_105.out
          have hms23_1 := NB107_106.out
          have hs24 : w22.cell? ⟨gb107, 1, none⟩ = some (.int .i64 0) := (blk_cell BK107.out 1).trans rfl
          have hfs24 := blk_frozen BK107.out 1
          have hns24_0 := NB105_107.out
          have hns24_1 := NB106_107.out
          have hms24_0 := NB107_105.out
          have hms24_1 := NB107_106.out
          have hs25 : w22.cell? ⟨gb107, 2, none⟩ = some (.string (⟨#[]⟩ : ByteArray)) := (blk_cell BK107.out 2).trans rfl
          have hfs25 := blk_frozen BK107.out 2
          have hns25_0 := NB105_107.out
          have hns25_1 := NB106_107.out
          have hms25_0 := NB107_105.out
          have hms25_1 := NB107_106.out
          refine skip_ (w1 := ?_) (by rfl) rfl ?_ ?_
          rotate_left
          · go_simp
            rfl
          refine hK.out _ _ ⟨((cell_far (p := ⟨gb107, _, none⟩) NB105_107.out _).trans (((cell_far (p := ⟨gb107, _, none⟩) NB105_107.out _).trans (((cell_far (p := ⟨gb107, _, none⟩) NB105_107.out _).trans (hHeld.1)))))), ((cell_far (p := ⟨gb107, _, none⟩) NB105_107.out _).trans (((cell_far (p := ⟨gb107, _, none⟩) NB105_107.out _).trans (((cell_far (p := ⟨gb107, _, none⟩) NB105_107.out _).trans (hHeld.2.1)))))), ((cell_far (p := ⟨gb107, _, none⟩) NB105_107.out _).trans (((cell_far (p := ⟨gb107, _, none⟩) NB105_107.out _).trans (((cell_far (p := ⟨gb107, _, none⟩) NB105_107.out _).trans (hHeld.2.2.1)))))), ((cell_far (p := ⟨gb107, _, none⟩) NB106_107.out _).trans (((cell_far (p := ⟨gb107, _, none⟩) NB106_107.out _).trans (((cell_far (p := ⟨gb107, _, none⟩) NB106_107.out _).trans (hHeld.2.2.2.1)))))), ((cell_far (p := ⟨gb107, _, none⟩) NB106_107.out _).trans (((cell_far (p := ⟨gb107, _, none⟩) NB106_107.out _).trans (((cell_far (p := ⟨gb107, _, none⟩) NB106_107.out _).trans (hHeld.2.2.2.2.1)))))), ((cell_far (p := ⟨gb107, _, none⟩) NB106_107.out _).trans (((cell_far (p := ⟨gb107, _, none⟩) NB106_107.out _).trans (((cell_far (p := ⟨gb107, _, none⟩) NB106_107.out _).trans (hHeld.2.2.2.2.2))))))⟩ (fun hHeld => ?_)
          clear hK K
          refine done_ (by kernel_rfl) ?_
          try go_wp2
          refine bodyPost_ret (results_cell_row rfl _ _ gb107 83 #[.int .i64 4, .int .i64 0, .string (t108 ++ t109)] (0, 0) _ rfl (by (with_reducible repeat (first | refine blk_drewN ?_ _ | refine blk_drew ?_ | refine blk_alloc ?_ _)); refine blk_put (cs := #[.int .i64 4, .int .i64 0, .string (⟨#[]⟩ : ByteArray)]) ?_ 2 _ rfl; (with_reducible repeat (first | refine blk_drewN ?_ _ | refine blk_drew ?_ | refine blk_alloc ?_ _)); refine blk_put (cs := #[.int .i64 4, .int .i64 0, .string (⟨#[]⟩ : ByteArray)]) ?_ 1 _ rfl; (with_reducible repeat (first | refine blk_drewN ?_ _ | refine blk_drew ?_ | refine blk_alloc ?_ _)); refine blk_put (cs := #[.int .i64 0, .int .i64 0, .string (⟨#[]⟩ : ByteArray)]) ?_ 0 _ rfl; (with_reducible repeat (first | refine blk_drewN ?_ _ | refine blk_drew ?_ | refine blk_alloc ?_ _)); exact BK107.out) Tryz.underlying83 rfl (by kernel_rfl)) rfl ?_
          exact ⟨zE, zG⟩
        · rw [if_neg c19] at H
          exact absurd H (by simp)
      · replace c16 := Bool.eq_false_iff.mpr c16
        subst c16
        rw [if_neg (show ¬ (false = true) by decide)] at H
        obtain ⟨t110, A26, H⟩ := zO H
        obtain ⟨t111, A27, H⟩ := zO H
        replace H := Option.bind_eq_some_iff.mp H
        obtain ⟨⟨t112, t113, t114⟩, A280, H⟩ := H
        replace H : (some (t112, t113, t114)) = some (r1, r2, r3) := H
        have A28 := Aside0.mk A280
        clear A280
        simp only [Option.some.injEq, Prod.mk.injEq] at H
        obtain ⟨rfl, rfl, rfl⟩ := H
        try go_wp2
        have n0_ := Aside0.mk (blk_drew BK105.out)
        have n1_ := Aside0.mk (blk_drew BK106.out)
        have n2_ := Aside0.mk (blk_drew BK107.out)
        have n3_ := Aside0.mk (below_drew1 HB.out)
        clear BK105
        clear BK106
        clear BK107
        clear HB
        have BK105 := n0_
        have BK106 := n1_
        have BK107 := n2_
        have HB := n3_
        clear n0_ n1_ n2_ n3_
        refine start_ (n := 7) (S := fun w' => w'.cell? ⟨gb105, 0, none⟩ = some (.int .i64 a0_0) ∧ w'.cell? ⟨gb105, 1, none⟩ = some (.int .i64 a0_1) ∧ w'.cell? ⟨gb105, 2, none⟩ = some (.string a0_2) ∧ w'.cell? ⟨gb106, 0, none⟩ = some (.int .i64 a1_0) ∧ w'.cell? ⟨gb106, 1, none⟩ = some (.int .i64 a1_1) ∧ w'.cell? ⟨gb106, 2, none⟩ = some (.string a1_2)) (ds := []) #[false, false, false, false, false, false, false] (by kernel_rfl) rfl rfl ⟨(blk_cell BK105.out 0).trans rfl, (blk_cell BK105.out 1).trans rfl, (blk_cell BK105.out 2).trans rfl, (blk_cell BK106.out 0).trans rfl, (blk_cell BK106.out 1).trans rfl, (blk_cell BK106.out 2).trans rfl⟩ (fun hHeld => ?_)
        generalize wc.drew = w29 at BK105 BK106 BK107 HB hHeld ⊢
        refine take_ (i := 0) (N := some 19) (v := ?_) (a' := ?_) #[true, false, false, false, false, false, false] rfl rfl (by kernel_rfl) (fun _ _ _ h => h) (Or.inl ⟨by rfl, ?_⟩) hHeld ?_ ?_
        rotate_left
        · rintro w' ⟨s0, s1, s2, s3, s4, s5⟩
          go_simp
          with_reducible rfl
        rotate_left
        · simp only [Act.put, List.setIfInBounds_toArray, List.set_cons_zero, List.set_cons_succ, i64_w, i32_w]
          rfl
        refine take_ (i := 2) (N := some 21) (v := ?_) (a' := ?_) #[true, false, true, false, false, false, false] rfl rfl (by kernel_rfl) (fun _ _ _ h => h) (Or.inl ⟨by rfl, ?_⟩) hHeld ?_ ?_
        rotate_left
        · rintro w' ⟨s0, s1, s2, s3, s4, s5⟩
          go_simp
          with_reducible rfl
        rotate_left
        · simp only [Act.put, List.setIfInBounds_toArray, List.set_cons_zero, List.set_cons_succ, i64_w, i32_w]
          rfl
        refine one_ (i := 1) (N := some 20) #[true, true, true, false, false, false, false] rfl rfl (by kernel_rfl) (by decide) (fun K hK => ?_)
        refine goes_ Tryz.func101 (by kernel_rfl) rfl #[.agg #[.int .i64 a0_0, .int .i64 a0_1, .string a0_2]] (by rfl) rfl rfl zP ?_
        with_reducible refine (value_Num.calls (hL := ?sideL) a0_0 a0_1 a0_2 t110 _ A26.out).mono ?_
        (case sideL => exact Laid.below HL.out zG)
        rintro e w30 ⟨rfl, hb⟩
        refine ⟨_, rfl, ?_⟩
        have n0_ := Aside0.mk (blk_below (g := gb105) zK hb)
        have n1_ := Aside0.mk (blk_below (g := gb106) zK hb)
        have n2_ := Aside0.mk (blk_below (g := gb107) zK hb)
        have n3_ := Aside0.mk (below_step zG hb)
        clear BK105
        clear BK106
        clear BK107
        clear HB
        have BK105 := n0_
        have BK106 := n1_
        have BK107 := n2_
        have HB := n3_
        clear n0_ n1_ n2_ n3_
        (try clear hb)
        (try clear hb2)
        (try clear hk)
        (try clear hi)
        refine hK.out _ _ ⟨(blk_cell BK105.out 0).trans rfl, (blk_cell BK105.out 1).trans rfl, (blk_cell BK105.out 2).trans rfl, (blk_cell BK106.out 0).trans rfl, (blk_cell BK106.out 1).trans rfl, (blk_cell BK106.out 2).trans rfl⟩ (fun hHeld => ?_)
        clear hK K
        refine norm_ (a' := ?_) ?_ ?_
        rotate_left
        · show Act.put _ (some 20) _ = _
          simp only [Act.put, List.setIfInBounds_toArray, List.set_cons_zero, List.set_cons_succ, i64_w, i32_w]
          rfl
        refine one_ (i := 3) (N := some 22) #[true, true, true, true, false, false, false] rfl rfl (by kernel_rfl) (by decide) (fun K hK => ?_)
        refine goes_ Tryz.func101 (by kernel_rfl) rfl #[.agg #[.int .i64 a1_0, .int .i64 a1_1, .string a1_2]] (by rfl) rfl rfl zP ?_
        with_reducible refine (value_Num.calls (hL := ?sideL) a1_0 a1_1 a1_2 t111 _ A27.out).mono ?_
        (case sideL => exact Laid.below HL.out zG)
        rintro e w31 ⟨rfl, hb⟩
        refine ⟨_, rfl, ?_⟩
        have n0_ := Aside0.mk (blk_below (g := gb105) zK hb)
        have n1_ := Aside0.mk (blk_below (g := gb106) zK hb)
        have n2_ := Aside0.mk (blk_below (g := gb107) zK hb)
        have n3_ := Aside0.mk (below_step zG hb)
        clear BK105
        clear BK106
        clear BK107
        clear HB
        have BK105 := n0_
        have BK106 := n1_
        have BK107 := n2_
        have HB := n3_
        clear n0_ n1_ n2_ n3_
        (try clear hb)
        (try clear hb2)
        (try clear hk)
        (try clear hi)
        refine hK.out _ _ ⟨(blk_cell BK105.out 0).trans rfl, (blk_cell BK105.out 1).trans rfl, (blk_cell BK105.out 2).trans rfl, (blk_cell BK106.out 0).trans rfl, (blk_cell BK106.out 1).trans rfl, (blk_cell BK106.out 2).trans rfl⟩ (fun hHeld => ?_)
        clear hK K
        refine norm_ (a' := ?_) ?_ ?_
        rotate_left
        · show Act.put _ (some 22) _ = _
          simp only [Act.put, List.setIfInBounds_toArray, List.set_cons_zero, List.set_cons_succ, i64_w, i32_w]
          rfl
        refine pure_ (i := 4) (N := some 23) (v := ?_) (a' := ?_) #[true, true, true, true, true, false, false] rfl rfl (by kernel_rfl) (fun _ _ _ h => h) (Or.inl ⟨by rfl, ?_⟩) ?_ ?_
        rotate_left
        · intro w'
          go_simp
          with_reducible rfl
        rotate_left
        · simp only [Act.put, List.setIfInBounds_toArray, List.set_cons_zero, List.set_cons_succ, i64_w, i32_w]
          rfl
        refine one_ (i := 5) (N := some 24) #[true, true, true, true, true, true, false] rfl rfl (by kernel_rfl) (by decide) (fun K hK => ?_)
        refine goes_ Tryz.func100 (by kernel_rfl) rfl #[.int .i64 (wrap64 (t110 + t111))] (by rfl) rfl rfl zP ?_
        with_reducible refine (value_number.calls (wrap64 (t110 + t111)) t112 t113 t114 _ A28.out).mono ?_
        rintro e w32 ⟨rfl, hb⟩
        refine ⟨_, rfl, ?_⟩
        have n0_ := Aside0.mk (blk_below (g := gb105) zK hb)
        have n1_ := Aside0.mk (blk_below (g := gb106) zK hb)
        have n2_ := Aside0.mk (blk_below (g := gb107) zK hb)
        have n3_ := Aside0.mk (below_step zG hb)
        clear BK105
        clear BK106
        clear BK107
        clear HB
        have BK105 := n0_
        have BK106 := n1_
        have BK107 := n2_
        have HB := n3_
        clear n0_ n1_ n2_ n3_
        (try clear hb)
        (try clear hb2)
        (try clear hk)
        (try clear hi)
        refine hK.out _ _ ⟨(blk_cell BK105.out 0).trans rfl, (blk_cell BK105.out 1).trans rfl, (blk_cell BK105.out 2).trans rfl, (blk_cell BK106.out 0).trans rfl, (blk_cell BK106.out 1).trans rfl, (blk_cell BK106.out 2).trans rfl⟩ (fun hHeld => ?_)
        clear hK K
        refine norm_ (a' := ?_) ?_ ?_
        rotate_left
        · show Act.put _ (some 24) _ = _
          simp only [Act.put, List.setIfInBounds_toArray, List.set_cons_zero, List.set_cons_succ, i64_w, i32_w]
          rfl
        refine one_ (i := 6) (N := none) #[true, true, true, true, true, true, true] rfl rfl (by kernel_rfl) (by decide) (fun K hK => ?_)
        have hs33 : w32.cell? ⟨gb107, 0, none⟩ = some (.int .i64 0) := (blk_cell BK107.out 0).trans rfl
        have hfs33 := blk_frozen BK107.out 0
        have hns33_0 := NB105_107.out
        have hns33_1 := NB106_107.out
        have hms33_0 := NB107_105.out
        have hms33_1 := NB107_106.out
        have hs34 : w32.cell? ⟨gb107, 1, none⟩ = some (.int .i64 0) := (blk_cell BK107.out 1).trans rfl
        have hfs34 := blk_frozen BK107.out 1
        have hns34_0 := NB105_107.out
        have hns34_1 := NB106_107.out
        have hms34_0 := NB107_105.out
        have hms34_1 := NB107_106.out
        have hs35 : w32.cell? ⟨gb107, 2, none⟩ = some (.string (⟨#[]⟩ : ByteArray)) := (blk_cell BK107.out 2).trans rfl
        have hfs35 := blk_frozen BK107.out 2
        have hns35_0 := NB105_107.out
        have hns35_1 := NB106_107.out
        have hms35_0 := NB107_105.out
        have hms35_1 := NB107_106.out
        refine skip_ (w1 := ?_) (by rfl) rfl ?_ ?_
        rotate_left
        · go_simp
          rfl
        refine hK.out _ _ ⟨((cell_far (p := ⟨gb107, _, none⟩) NB105_107.out _).trans (((cell_far (p := ⟨gb107, _, none⟩) NB105_107.out _).trans (((cell_far (p := ⟨gb107, _, none⟩) NB105_107.out _).trans (hHeld.1)))))), ((cell_far (p := ⟨gb107, _, none⟩) NB105_107.out _).trans (((cell_far (p := ⟨gb107, _, none⟩) NB105_107.out _).trans (((cell_far (p := ⟨gb107, _, none⟩) NB105_107.out _).trans (hHeld.2.1)))))), ((cell_far (p := ⟨gb107, _, none⟩) NB105_107.out _).trans (((cell_far (p := ⟨gb107, _, none⟩) NB105_107.out _).trans (((cell_far (p := ⟨gb107, _, none⟩) NB105_107.out _).trans (hHeld.2.2.1)))))), ((cell_far (p := ⟨gb107, _, none⟩) NB106_107.out _).trans (((cell_far (p := ⟨gb107, _, none⟩) NB106_107.out _).trans (((cell_far (p := ⟨gb107, _, none⟩) NB106_107.out _).trans (hHeld.2.2.2.1)))))), ((cell_far (p := ⟨gb107, _, none⟩) NB106_107.out _).trans (((cell_far (p := ⟨gb107, _, none⟩) NB106_107.out _).trans (((cell_far (p := ⟨gb107, _, none⟩) NB106_107.out _).trans (hHeld.2.2.2.2.1)))))), ((cell_far (p := ⟨gb107, _, none⟩) NB106_107.out _).trans (((cell_far (p := ⟨gb107, _, none⟩) NB106_107.out _).trans (((cell_far (p := ⟨gb107, _, none⟩) NB106_107.out _).trans (hHeld.2.2.2.2.2))))))⟩ (fun hHeld => ?_)
        clear hK K
        refine done_ (by kernel_rfl) ?_
        try go_wp2
        refine bodyPost_ret (results_cell_row rfl _ _ gb107 83 #[.int .i64 t112, .int .i64 t113, .string t114] (0, 0) _ rfl (by (with_reducible repeat (first | refine blk_drewN ?_ _ | refine blk_drew ?_ | refine blk_alloc ?_ _)); refine blk_put (cs := #[.int .i64 t112, .int .i64 t113, .string (⟨#[]⟩ : ByteArray)]) ?_ 2 _ rfl; (with_reducible repeat (first | refine blk_drewN ?_ _ | refine blk_drew ?_ | refine blk_alloc ?_ _)); refine blk_put (cs := #[.int .i64 t112, .int .i64 0, .string (⟨#[]⟩ : ByteArray)]) ?_ 1 _ rfl; (with_reducible repeat (first | refine blk_drewN ?_ _ | refine blk_drew ?_ | refine blk_alloc ?_ _)); refine blk_put (cs := #[.int .i64 0, .int .i64 0, .string (⟨#[]⟩ : ByteArray)]) ?_ 0 _ rfl; (with_reducible repeat (first | refine blk_drewN ?_ _ | refine blk_drew ?_ | refine blk_alloc ?_ _)); exact BK107.out) Tryz.underlying83 rfl (by kernel_rfl)) rfl ?_
        exact ⟨zE, zG⟩
end Go.Proofs.YtjlhhjfmekjbhaaGreatDoor.Pr

namespace Go.Proofs.YtjlhhjfmekjbhaaGreatDoor.Pr
open Go.RowKit Go.Proofs.YtjlhhjfmekjbhaaGreatDoor.Va Go.Proofs.YtjlhhjfmekjbhaaGreatDoorW.PrintWords Go.Proofs.YtjlhhjfmekjbhaaGreatDoorW.PrintLast Go.Proofs.YtjlhhjfmekjbhaaGreatDoorW.PrintMore
set_option linter.unusedVariables false
set_option linter.unusedSimpArgs false
/-! ### value_makers_2: function 102 -/
def value_makers_2.f (a0_0 : Int) (a0_1 : Int) (a0_2 : ByteArray) (a1_0 : Int) (a1_1 : Int) (a1_2 : ByteArray) : Option (Int × Int × ByteArray) := (value_Num.f a0_0 a0_1 a0_2).bind fun t118 => ((value_Num.f a1_0 a1_1 a1_2).bind fun t119 => ((value_number.f (wrap64 (t118 - t119))).bind fun bt120 => (some (bt120.1, bt120.2.1, bt120.2.2))))
set_option maxHeartbeats 8000000 in
set_option maxRecDepth 100000 in
theorem value_makers_2.calls (a0_0 : Int) (a0_1 : Int) (a0_2 : ByteArray) (a1_0 : Int) (a1_1 : Int) (a1_2 : ByteArray) (r1 : Int) (r2 : Int) (r3 : ByteArray) (w : World) (hL : Laid w) (h : value_makers_2.f a0_0 a0_1 a0_2 a1_0 a1_1 a1_2 = some (r1, r2, r3)) :
    Calls Tryz.prog 102 #[.agg #[.int .i64 a0_0, .int .i64 a0_1, .string a0_2], .agg #[.int .i64 a1_0, .int .i64 a1_1, .string a1_2]] w fun e w' => e = .returned (.agg #[.int .i64 r1, .int .i64 r2, .string r3]) ∧ Below w.heap.size w w' := by
  have HL := Aside0.mk hL
  clear hL
  have hu83 := Tryz.underlying83
  have HB := Aside0.mk (Below.refl w.heap.size w)
  have H : ((value_Num.f a0_0 a0_1 a0_2).bind fun t118 => ((value_Num.f a1_0 a1_1 a1_2).bind fun t119 => ((value_number.f (wrap64 (t118 - t119))).bind fun bt120 => (some (bt120.1, bt120.2.1, bt120.2.2))))) = some (r1, r2, r3) := h
  clear h
  obtain ⟨t118, A3, H⟩ := zO H
  obtain ⟨t119, A4, H⟩ := zO H
  replace H := Option.bind_eq_some_iff.mp H
  obtain ⟨⟨t120, t121, t122⟩, A50, H⟩ := H
  replace H : (some (t120, t121, t122)) = some (r1, r2, r3) := H
  have A5 := Aside0.mk A50
  clear A50
  simp only [Option.some.injEq, Prod.mk.injEq] at H
  obtain ⟨rfl, rfl, rfl⟩ := H
  go_enter Tryz.func102, Tryz.ntmps102
  try go_wp2_with (first | ((with_reducible refine gate_dst (N := 2) rfl ?_); refine zX (N := 2) (cs := #[.int .i64 a0_0, .int .i64 a0_1, .string a0_2]) (t := 83) (h := ?_); intro gb115 hg w6 hbox hb; have BK115 := Aside0.mk hbox; have GW115 := Aside0.mk ((zS : w.heap.size ≤ gb115)); have GE115 := Aside0.mk ((zS : w.heap.size ≤ gb115)); replace HB := Aside0.mk (below_step zB hb); clear hb hbox hg) | ((with_reducible refine gate_dst (N := 3) rfl ?_); refine zX (N := 3) (cs := #[.int .i64 a1_0, .int .i64 a1_1, .string a1_2]) (t := 83) (h := ?_); intro gb116 hg w7 hbox hb; have BK116 := Aside0.mk hbox; have GW116 := Aside0.mk ((zT : w.heap.size ≤ gb116)); have GE116 := Aside0.mk ((zT : w.heap.size ≤ gb116)); have NB115_116 := Aside0.mk ((zL : gb115 ≠ gb116)); have NB116_115 := Aside0.mk ((zM : gb116 ≠ gb115)); replace BK115 := Aside0.mk (blk_below (g := gb115) zK hb); replace HB := Aside0.mk (below_step zG hb); clear hb hbox hg) | ((with_reducible refine gate_dst (N := 4) rfl ?_); refine zX (N := 4) (cs := #[.int .i64 0, .int .i64 0, .string (⟨#[]⟩ : ByteArray)]) (t := 83) (h := ?_); intro gb117 hg w8 hbox hb; have BK117 := Aside0.mk hbox; have GW117 := Aside0.mk ((zT : w.heap.size ≤ gb117)); have GE117 := Aside0.mk ((zT : w.heap.size ≤ gb117)); have NB115_117 := Aside0.mk ((zL : gb115 ≠ gb117)); have NB117_115 := Aside0.mk ((zM : gb117 ≠ gb115)); have NB116_117 := Aside0.mk ((zL : gb116 ≠ gb117)); have NB117_116 := Aside0.mk ((zM : gb117 ≠ gb116)); replace BK115 := Aside0.mk (blk_below (g := gb115) zK hb); replace BK116 := Aside0.mk (blk_below (g := gb116) zK hb); replace HB := Aside0.mk (below_step zG hb); clear hb hbox hg))
  have n0_ := Aside0.mk (blk_drew BK115.out)
  have n1_ := Aside0.mk (blk_drew BK116.out)
  have n2_ := Aside0.mk (blk_drew BK117.out)
  have n3_ := Aside0.mk (below_drew1 HB.out)
  clear BK115
  clear BK116
  clear BK117
  clear HB
  have BK115 := n0_
  have BK116 := n1_
  have BK117 := n2_
  have HB := n3_
  clear n0_ n1_ n2_ n3_
  refine start_ (n := 7) (S := fun w' => w'.cell? ⟨gb115, 0, none⟩ = some (.int .i64 a0_0) ∧ w'.cell? ⟨gb115, 1, none⟩ = some (.int .i64 a0_1) ∧ w'.cell? ⟨gb115, 2, none⟩ = some (.string a0_2) ∧ w'.cell? ⟨gb116, 0, none⟩ = some (.int .i64 a1_0) ∧ w'.cell? ⟨gb116, 1, none⟩ = some (.int .i64 a1_1) ∧ w'.cell? ⟨gb116, 2, none⟩ = some (.string a1_2)) (ds := []) #[false, false, false, false, false, false, false] (by kernel_rfl) rfl rfl ⟨(blk_cell BK115.out 0).trans rfl, (blk_cell BK115.out 1).trans rfl, (blk_cell BK115.out 2).trans rfl, (blk_cell BK116.out 0).trans rfl, (blk_cell BK116.out 1).trans rfl, (blk_cell BK116.out 2).trans rfl⟩ (fun hHeld => ?_)
  generalize w8.drew = w9 at BK115 BK116 BK117 HB hHeld ⊢
  refine take_ (i := 0) (N := some 5) (v := ?_) (a' := ?_) #[true, false, false, false, false, false, false] rfl rfl (by kernel_rfl) (fun _ _ _ h => h) (Or.inl ⟨by rfl, ?_⟩) hHeld ?_ ?_
  rotate_left
  · rintro w' ⟨s0, s1, s2, s3, s4, s5⟩
    go_simp
    with_reducible rfl
  rotate_left
  · simp only [Act.put, List.setIfInBounds_toArray, List.set_cons_zero, List.set_cons_succ, i64_w, i32_w]
    rfl
  refine take_ (i := 2) (N := some 7) (v := ?_) (a' := ?_) #[true, false, true, false, false, false, false] rfl rfl (by kernel_rfl) (fun _ _ _ h => h) (Or.inl ⟨by rfl, ?_⟩) hHeld ?_ ?_
  rotate_left
  · rintro w' ⟨s0, s1, s2, s3, s4, s5⟩
    go_simp
    with_reducible rfl
  rotate_left
  · simp only [Act.put, List.setIfInBounds_toArray, List.set_cons_zero, List.set_cons_succ, i64_w, i32_w]
    rfl
  refine one_ (i := 1) (N := some 6) #[true, true, true, false, false, false, false] rfl rfl (by kernel_rfl) (by decide) (fun K hK => ?_)
  refine goes_ Tryz.func101 (by kernel_rfl) rfl #[.agg #[.int .i64 a0_0, .int .i64 a0_1, .string a0_2]] (by rfl) rfl rfl zP ?_
  with_reducible refine (value_Num.calls (hL := ?sideL) a0_0 a0_1 a0_2 t118 _ A3.out).mono ?_
  (case sideL => exact Laid.below HL.out zG)
  rintro e w10 ⟨rfl, hb⟩
  refine ⟨_, rfl, ?_⟩
  have n0_ := Aside0.mk (blk_below (g := gb115) zK hb)
  have n1_ := Aside0.mk (blk_below (g := gb116) zK hb)
  have n2_ := Aside0.mk (blk_below (g := gb117) zK hb)
  have n3_ := Aside0.mk (below_step zG hb)
  clear BK115
  clear BK116
  clear BK117
  clear HB
  have BK115 := n0_
  have BK116 := n1_
  have BK117 := n2_
  have HB := n3_
  clear n0_ n1_ n2_ n3_
  (try clear hb)
  (try clear hb2)
  (try clear hk)
  (try clear hi)
  refine hK.out _ _ ⟨(blk_cell BK115.out 0).trans rfl, (blk_cell BK115.out 1).trans rfl, (blk_cell BK115.out 2).trans rfl, (blk_cell BK116.out 0).trans rfl, (blk_cell BK116.out 1).trans rfl, (blk_cell BK116.out 2).trans rfl⟩ (fun hHeld => ?_)
  clear hK K
  refine norm_ (a' := ?_) ?_ ?_
  rotate_left
  · show Act.put _ (some 6) _ = _
    simp only [Act.put, List.setIfInBounds_toArray, List.set_cons_zero, List.set_cons_succ, i64_w, i32_w]
    rfl
  refine one_ (i := 3) (N := some 8) #[true, true, true, true, false, false, false] rfl rfl (by kernel_rfl) (by decide) (fun K hK => ?_)
  refine goes_ Tryz.func101 (by kernel_rfl) rfl #[.agg #[.int .i64 a1_0, .int .i64 a1_1, .string a1_2]] (by rfl) rfl rfl zP ?_
  with_reducible refine (value_Num.calls (hL := ?sideL) a1_0 a1_1 a1_2 t119 _ A4.out).mono ?_
  (case sideL => exact Laid.below HL.out zG)
  rintro e w11 ⟨rfl, hb⟩
  refine ⟨_, rfl, ?_⟩
  have n0_ := Aside0.mk (blk_below (g := gb115) zK hb)
  have n1_ := Aside0.mk (blk_below (g := gb116) zK hb)
  have n2_ := Aside0.mk (blk_below (g := gb117) zK hb)
  have n3_ := Aside0.mk (below_step zG hb)
  clear BK115
  clear BK116
  clear BK117
  clear HB
  have BK115 := n0_
  have BK116 := n1_
  have BK117 := n2_
  have HB := n3_
  clear n0_ n1_ n2_ n3_
  (try clear hb)
  (try clear hb2)
  (try clear hk)
  (try clear hi)
  refine hK.out _ _ ⟨(blk_cell BK115.out 0).trans rfl, (blk_cell BK115.out 1).trans rfl, (blk_cell BK115.out 2).trans rfl, (blk_cell BK116.out 0).trans rfl, (blk_cell BK116.out 1).trans rfl, (blk_cell BK116.out 2).trans rfl⟩ (fun hHeld => ?_)
  clear hK K
  refine norm_ (a' := ?_) ?_ ?_
  rotate_left
  · show Act.put _ (some 8) _ = _
    simp only [Act.put, List.setIfInBounds_toArray, List.set_cons_zero, List.set_cons_succ, i64_w, i32_w]
    rfl
  refine pure_ (i := 4) (N := some 9) (v := ?_) (a' := ?_) #[true, true, true, true, true, false, false] rfl rfl (by kernel_rfl) (fun _ _ _ h => h) (Or.inl ⟨by rfl, ?_⟩) ?_ ?_
  rotate_left
  · intro w'
    go_simp
    with_reducible rfl
  rotate_left
  · simp only [Act.put, List.setIfInBounds_toArray, List.set_cons_zero, List.set_cons_succ, i64_w, i32_w]
    rfl
  refine one_ (i := 5) (N := some 10) #[true, true, true, true, true, true, false] rfl rfl (by kernel_rfl) (by decide) (fun K hK => ?_)
  refine goes_ Tryz.func100 (by kernel_rfl) rfl #[.int .i64 (wrap64 (t118 - t119))] (by rfl) rfl rfl zP ?_
  with_reducible refine (value_number.calls (wrap64 (t118 - t119)) t120 t121 t122 _ A5.out).mono ?_
  rintro e w12 ⟨rfl, hb⟩
  refine ⟨_, rfl, ?_⟩
  have n0_ := Aside0.mk (blk_below (g := gb115) zK hb)
  have n1_ := Aside0.mk (blk_below (g := gb116) zK hb)
  have n2_ := Aside0.mk (blk_below (g := gb117) zK hb)
  have n3_ := Aside0.mk (below_step zG hb)
  clear BK115
  clear BK116
  clear BK117
  clear HB
  have BK115 := n0_
  have BK116 := n1_
  have BK117 := n2_
  have HB := n3_
  clear n0_ n1_ n2_ n3_
  (try clear hb)
  (try clear hb2)
  (try clear hk)
  (try clear hi)
  refine hK.out _ _ ⟨(blk_cell BK115.out 0).trans rfl, (blk_cell BK115.out 1).trans rfl, (blk_cell BK115.out 2).trans rfl, (blk_cell BK116.out 0).trans rfl, (blk_cell BK116.out 1).trans rfl, (blk_cell BK116.out 2).trans rfl⟩ (fun hHeld => ?_)
  clear hK K
  refine norm_ (a' := ?_) ?_ ?_
  rotate_left
  · show Act.put _ (some 10) _ = _
    simp only [Act.put, List.setIfInBounds_toArray, List.set_cons_zero, List.set_cons_succ, i64_w, i32_w]
    rfl
  refine one_ (i := 6) (N := none) #[true, true, true, true, true, true, true] rfl rfl (by kernel_rfl) (by decide) (fun K hK => ?_)
  have hs13 : w12.cell? ⟨gb117, 0, none⟩ = some (.int .i64 0) := (blk_cell BK117.out 0).trans rfl
  have hfs13 := blk_frozen BK117.out 0
  have hns13_0 := NB115_117.out
  have hns13_1 := NB116_117.out
  have hms13_0 := NB117_115.out
  have hms13_1 := NB117_116.out
  have hs14 : w12.cell? ⟨gb117, 1, none⟩ = some (.int .i64 0) := (blk_cell BK117.out 1).trans rfl
  have hfs14 := blk_frozen BK117.out 1
  have hns14_0 := NB115_117.out
  have hns14_1 := NB116_117.out
  have hms14_0 := NB117_115.out
  have hms14_1 := NB117_116.out
  have hs15 : w12.cell? ⟨gb117, 2, none⟩ = some (.string (⟨#[]⟩ : ByteArray)) := (blk_cell BK117.out 2).trans rfl
  have hfs15 := blk_frozen BK117.out 2
  have hns15_0 := NB115_117.out
  have hns15_1 := NB116_117.out
  have hms15_0 := NB117_115.out
  have hms15_1 := NB117_116.out
  refine skip_ (w1 := ?_) (by rfl) rfl ?_ ?_
  rotate_left
  · go_simp
    rfl
  refine hK.out _ _ ⟨((cell_far (p := ⟨gb117, _, none⟩) NB115_117.out _).trans (((cell_far (p := ⟨gb117, _, none⟩) NB115_117.out _).trans (((cell_far (p := ⟨gb117, _, none⟩) NB115_117.out _).trans (hHeld.1)))))), ((cell_far (p := ⟨gb117, _, none⟩) NB115_117.out _).trans (((cell_far (p := ⟨gb117, _, none⟩) NB115_117.out _).trans (((cell_far (p := ⟨gb117, _, none⟩) NB115_117.out _).trans (hHeld.2.1)))))), ((cell_far (p := ⟨gb117, _, none⟩) NB115_117.out _).trans (((cell_far (p := ⟨gb117, _, none⟩) NB115_117.out _).trans (((cell_far (p := ⟨gb117, _, none⟩) NB115_117.out _).trans (hHeld.2.2.1)))))), ((cell_far (p := ⟨gb117, _, none⟩) NB116_117.out _).trans (((cell_far (p := ⟨gb117, _, none⟩) NB116_117.out _).trans (((cell_far (p := ⟨gb117, _, none⟩) NB116_117.out _).trans (hHeld.2.2.2.1)))))), ((cell_far (p := ⟨gb117, _, none⟩) NB116_117.out _).trans (((cell_far (p := ⟨gb117, _, none⟩) NB116_117.out _).trans (((cell_far (p := ⟨gb117, _, none⟩) NB116_117.out _).trans (hHeld.2.2.2.2.1)))))), ((cell_far (p := ⟨gb117, _, none⟩) NB116_117.out _).trans (((cell_far (p := ⟨gb117, _, none⟩) NB116_117.out _).trans (((cell_far (p := ⟨gb117, _, none⟩) NB116_117.out _).trans (hHeld.2.2.2.2.2))))))⟩ (fun hHeld => ?_)
  clear hK K
  refine done_ (by kernel_rfl) ?_
  try go_wp2
  refine bodyPost_ret (results_cell_row rfl _ _ gb117 83 #[.int .i64 t120, .int .i64 t121, .string t122] (0, 0) _ rfl (by (with_reducible repeat (first | refine blk_drewN ?_ _ | refine blk_drew ?_ | refine blk_alloc ?_ _)); refine blk_put (cs := #[.int .i64 t120, .int .i64 t121, .string (⟨#[]⟩ : ByteArray)]) ?_ 2 _ rfl; (with_reducible repeat (first | refine blk_drewN ?_ _ | refine blk_drew ?_ | refine blk_alloc ?_ _)); refine blk_put (cs := #[.int .i64 t120, .int .i64 0, .string (⟨#[]⟩ : ByteArray)]) ?_ 1 _ rfl; (with_reducible repeat (first | refine blk_drewN ?_ _ | refine blk_drew ?_ | refine blk_alloc ?_ _)); refine blk_put (cs := #[.int .i64 0, .int .i64 0, .string (⟨#[]⟩ : ByteArray)]) ?_ 0 _ rfl; (with_reducible repeat (first | refine blk_drewN ?_ _ | refine blk_drew ?_ | refine blk_alloc ?_ _)); exact BK117.out) Tryz.underlying83 rfl (by kernel_rfl)) rfl ?_
  exact ⟨zE, zG⟩
/-! ### value_makers_3: function 103 -/
def value_makers_3.f (a0_0 : Int) (a0_1 : Int) (a0_2 : ByteArray) (a1_0 : Int) (a1_1 : Int) (a1_2 : ByteArray) : Option (Int × Int × ByteArray) := (value_Num.f a0_0 a0_1 a0_2).bind fun t126 => ((value_Num.f a1_0 a1_1 a1_2).bind fun t127 => ((value_number.f (wrap64 (t126 * t127))).bind fun bt128 => (some (bt128.1, bt128.2.1, bt128.2.2))))
set_option maxHeartbeats 8000000 in
set_option maxRecDepth 100000 in
theorem value_makers_3.calls (a0_0 : Int) (a0_1 : Int) (a0_2 : ByteArray) (a1_0 : Int) (a1_1 : Int) (a1_2 : ByteArray) (r1 : Int) (r2 : Int) (r3 : ByteArray) (w : World) (hL : Laid w) (h : value_makers_3.f a0_0 a0_1 a0_2 a1_0 a1_1 a1_2 = some (r1, r2, r3)) :
    Calls Tryz.prog 103 #[.agg #[.int .i64 a0_0, .int .i64 a0_1, .string a0_2], .agg #[.int .i64 a1_0, .int .i64 a1_1, .string a1_2]] w fun e w' => e = .returned (.agg #[.int .i64 r1, .int .i64 r2, .string r3]) ∧ Below w.heap.size w w' := by
  have HL := Aside0.mk hL
  clear hL
  have hu83 := Tryz.underlying83
  have HB := Aside0.mk (Below.refl w.heap.size w)
  have H : ((value_Num.f a0_0 a0_1 a0_2).bind fun t126 => ((value_Num.f a1_0 a1_1 a1_2).bind fun t127 => ((value_number.f (wrap64 (t126 * t127))).bind fun bt128 => (some (bt128.1, bt128.2.1, bt128.2.2))))) = some (r1, r2, r3) := h
  clear h
  obtain ⟨t126, A3, H⟩ := zO H
  obtain ⟨t127, A4, H⟩ := zO H
  replace H := Option.bind_eq_some_iff.mp H
  obtain ⟨⟨t128, t129, t130⟩, A50, H⟩ := H
  replace H : (some (t128, t129, t130)) = some (r1, r2, r3) := H
  have A5 := Aside0.mk A50
  clear A50
  simp only [Option.some.injEq, Prod.mk.injEq] at H
  obtain ⟨rfl, rfl, rfl⟩ := H
  go_enter Tryz.func103, Tryz.ntmps103
  try go_wp2_with (first | ((with_reducible refine gate_dst (N := 2) rfl ?_); refine zX (N := 2) (cs := #[.int .i64 a0_0, .int .i64 a0_1, .string a0_2]) (t := 83) (h := ?_); intro gb123 hg w6 hbox hb; have BK123 := Aside0.mk hbox; have GW123 := Aside0.mk ((zS : w.heap.size ≤ gb123)); have GE123 := Aside0.mk ((zS : w.heap.size ≤ gb123)); replace HB := Aside0.mk (below_step zB hb); clear hb hbox hg) | ((with_reducible refine gate_dst (N := 3) rfl ?_); refine zX (N := 3) (cs := #[.int .i64 a1_0, .int .i64 a1_1, .string a1_2]) (t := 83) (h := ?_); intro gb124 hg w7 hbox hb; have BK124 := Aside0.mk hbox; have GW124 := Aside0.mk ((zT : w.heap.size ≤ gb124)); have GE124 := Aside0.mk ((zT : w.heap.size ≤ gb124)); have NB123_124 := Aside0.mk ((zL : gb123 ≠ gb124)); have NB124_123 := Aside0.mk ((zM : gb124 ≠ gb123)); replace BK123 := Aside0.mk (blk_below (g := gb123) zK hb); replace HB := Aside0.mk (below_step zG hb); clear hb hbox hg) | ((with_reducible refine gate_dst (N := 4) rfl ?_); refine zX (N := 4) (cs := #[.int .i64 0, .int .i64 0, .string (⟨#[]⟩ : ByteArray)]) (t := 83) (h := ?_); intro gb125 hg w8 hbox hb; have BK125 := Aside0.mk hbox; have GW125 := Aside0.mk ((zT : w.heap.size ≤ gb125)); have GE125 := Aside0.mk ((zT : w.heap.size ≤ gb125)); have NB123_125 := Aside0.mk ((zL : gb123 ≠ gb125)); have NB125_123 := Aside0.mk ((zM : gb125 ≠ gb123)); have NB124_125 := Aside0.mk ((zL : gb124 ≠ gb125)); have NB125_124 := Aside0.mk ((zM : gb125 ≠ gb124)); replace BK123 := Aside0.mk (blk_below (g := gb123) zK hb); replace BK124 := Aside0.mk (blk_below (g := gb124) zK hb); replace HB := Aside0.mk (below_step zG hb); clear hb hbox hg))
  have n0_ := Aside0.mk (blk_drew BK123.out)
  have n1_ := Aside0.mk (blk_drew BK124.out)
  have n2_ := Aside0.mk (blk_drew BK125.out)
  have n3_ := Aside0.mk (below_drew1 HB.out)
  clear BK123
  clear BK124
  clear BK125
  clear HB
  have BK123 := n0_
  have BK124 := n1_
  have BK125 := n2_
  have HB := n3_
  clear n0_ n1_ n2_ n3_
  refine start_ (n := 7) (S := fun w' => w'.cell? ⟨gb123, 0, none⟩ = some (.int .i64 a0_0) ∧ w'.cell? ⟨gb123, 1, none⟩ = some (.int .i64 a0_1) ∧ w'.cell? ⟨gb123, 2, none⟩ = some (.string a0_2) ∧ w'.cell? ⟨gb124, 0, none⟩ = some (.int .i64 a1_0) ∧ w'.cell? ⟨gb124, 1, none⟩ = some (.int .i64 a1_1) ∧ w'.cell? ⟨gb124, 2, none⟩ = some (.string a1_2)) (ds := []) #[false, false, false, false, false, false, false] (by kernel_rfl) rfl rfl ⟨(blk_cell BK123.out 0).trans rfl, (blk_cell BK123.out 1).trans rfl, (blk_cell BK123.out 2).trans rfl, (blk_cell BK124.out 0).trans rfl, (blk_cell BK124.out 1).trans rfl, (blk_cell BK124.out 2).trans rfl⟩ (fun hHeld => ?_)
  generalize w8.drew = w9 at BK123 BK124 BK125 HB hHeld ⊢
  refine take_ (i := 0) (N := some 5) (v := ?_) (a' := ?_) #[true, false, false, false, false, false, false] rfl rfl (by kernel_rfl) (fun _ _ _ h => h) (Or.inl ⟨by rfl, ?_⟩) hHeld ?_ ?_
  rotate_left
  · rintro w' ⟨s0, s1, s2, s3, s4, s5⟩
    go_simp
    with_reducible rfl
  rotate_left
  · simp only [Act.put, List.setIfInBounds_toArray, List.set_cons_zero, List.set_cons_succ, i64_w, i32_w]
    rfl
  refine take_ (i := 2) (N := some 7) (v := ?_) (a' := ?_) #[true, false, true, false, false, false, false] rfl rfl (by kernel_rfl) (fun _ _ _ h => h) (Or.inl ⟨by rfl, ?_⟩) hHeld ?_ ?_
  rotate_left
  · rintro w' ⟨s0, s1, s2, s3, s4, s5⟩
    go_simp
    with_reducible rfl
  rotate_left
  · simp only [Act.put, List.setIfInBounds_toArray, List.set_cons_zero, List.set_cons_succ, i64_w, i32_w]
    rfl
  refine one_ (i := 1) (N := some 6) #[true, true, true, false, false, false, false] rfl rfl (by kernel_rfl) (by decide) (fun K hK => ?_)
  refine goes_ Tryz.func101 (by kernel_rfl) rfl #[.agg #[.int .i64 a0_0, .int .i64 a0_1, .string a0_2]] (by rfl) rfl rfl zP ?_
  with_reducible refine (value_Num.calls (hL := ?sideL) a0_0 a0_1 a0_2 t126 _ A3.out).mono ?_
  (case sideL => exact Laid.below HL.out zG)
  rintro e w10 ⟨rfl, hb⟩
  refine ⟨_, rfl, ?_⟩
  have n0_ := Aside0.mk (blk_below (g := gb123) zK hb)
  have n1_ := Aside0.mk (blk_below (g := gb124) zK hb)
  have n2_ := Aside0.mk (blk_below (g := gb125) zK hb)
  have n3_ := Aside0.mk (below_step zG hb)
  clear BK123
  clear BK124
  clear BK125
  clear HB
  have BK123 := n0_
  have BK124 := n1_
  have BK125 := n2_
  have HB := n3_
  clear n0_ n1_ n2_ n3_
  (try clear hb)
  (try clear hb2)
  (try clear hk)
  (try clear hi)
  refine hK.out _ _ ⟨(blk_cell BK123.out 0).trans rfl, (blk_cell BK123.out 1).trans rfl, (blk_cell BK123.out 2).trans rfl, (blk_cell BK124.out 0).trans rfl, (blk_cell BK124.out 1).trans rfl, (blk_cell BK124.out 2).trans rfl⟩ (fun hHeld => ?_)
  clear hK K
  refine norm_ (a' := ?_) ?_ ?_
  rotate_left
  · show Act.put _ (some 6) _ = _
    simp only [Act.put, List.setIfInBounds_toArray, List.set_cons_zero, List.set_cons_succ, i64_w, i32_w]
    rfl
  refine one_ (i := 3) (N := some 8) #[true, true, true, true, false, false, false] rfl rfl (by kernel_rfl) (by decide) (fun K hK => ?_)
  refine goes_ Tryz.func101 (by kernel_rfl) rfl #[.agg #[.int .i64 a1_0, .int .i64 a1_1, .string a1_2]] (by rfl) rfl rfl zP ?_
  with_reducible refine (value_Num.calls (hL := ?sideL) a1_0 a1_1 a1_2 t127 _ A4.out).mono ?_
  (case sideL => exact Laid.below HL.out zG)
  rintro e w11 ⟨rfl, hb⟩
  refine ⟨_, rfl, ?_⟩
  have n0_ := Aside0.mk (blk_below (g := gb123) zK hb)
  have n1_ := Aside0.mk (blk_below (g := gb124) zK hb)
  have n2_ := Aside0.mk (blk_below (g := gb125) zK hb)
  have n3_ := Aside0.mk (below_step zG hb)
  clear BK123
  clear BK124
  clear BK125
  clear HB
  have BK123 := n0_
  have BK124 := n1_
  have BK125 := n2_
  have HB := n3_
  clear n0_ n1_ n2_ n3_
  (try clear hb)
  (try clear hb2)
  (try clear hk)
  (try clear hi)
  refine hK.out _ _ ⟨(blk_cell BK123.out 0).trans rfl, (blk_cell BK123.out 1).trans rfl, (blk_cell BK123.out 2).trans rfl, (blk_cell BK124.out 0).trans rfl, (blk_cell BK124.out 1).trans rfl, (blk_cell BK124.out 2).trans rfl⟩ (fun hHeld => ?_)
  clear hK K
  refine norm_ (a' := ?_) ?_ ?_
  rotate_left
  · show Act.put _ (some 8) _ = _
    simp only [Act.put, List.setIfInBounds_toArray, List.set_cons_zero, List.set_cons_succ, i64_w, i32_w]
    rfl
  refine pure_ (i := 4) (N := some 9) (v := ?_) (a' := ?_) #[true, true, true, true, true, false, false] rfl rfl (by kernel_rfl) (fun _ _ _ h => h) (Or.inl ⟨by rfl, ?_⟩) ?_ ?_
  rotate_left
  · intro w'
    go_simp
    with_reducible rfl
  rotate_left
  · simp only [Act.put, List.setIfInBounds_toArray, List.set_cons_zero, List.set_cons_succ, i64_w, i32_w]
    rfl
  refine one_ (i := 5) (N := some 10) #[true, true, true, true, true, true, false] rfl rfl (by kernel_rfl) (by decide) (fun K hK => ?_)
  refine goes_ Tryz.func100 (by kernel_rfl) rfl #[.int .i64 (wrap64 (t126 * t127))] (by rfl) rfl rfl zP ?_
  with_reducible refine (value_number.calls (wrap64 (t126 * t127)) t128 t129 t130 _ A5.out).mono ?_
  rintro e w12 ⟨rfl, hb⟩
  refine ⟨_, rfl, ?_⟩
  have n0_ := Aside0.mk (blk_below (g := gb123) zK hb)
  have n1_ := Aside0.mk (blk_below (g := gb124) zK hb)
  have n2_ := Aside0.mk (blk_below (g := gb125) zK hb)
  have n3_ := Aside0.mk (below_step zG hb)
  clear BK123
  clear BK124
  clear BK125
  clear HB
  have BK123 := n0_
  have BK124 := n1_
  have BK125 := n2_
  have HB := n3_
  clear n0_ n1_ n2_ n3_
  (try clear hb)
  (try clear hb2)
  (try clear hk)
  (try clear hi)
  refine hK.out _ _ ⟨(blk_cell BK123.out 0).trans rfl, (blk_cell BK123.out 1).trans rfl, (blk_cell BK123.out 2).trans rfl, (blk_cell BK124.out 0).trans rfl, (blk_cell BK124.out 1).trans rfl, (blk_cell BK124.out 2).trans rfl⟩ (fun hHeld => ?_)
  clear hK K
  refine norm_ (a' := ?_) ?_ ?_
  rotate_left
  · show Act.put _ (some 10) _ = _
    simp only [Act.put, List.setIfInBounds_toArray, List.set_cons_zero, List.set_cons_succ, i64_w, i32_w]
    rfl
  refine one_ (i := 6) (N := none) #[true, true, true, true, true, true, true] rfl rfl (by kernel_rfl) (by decide) (fun K hK => ?_)
  have hs13 : w12.cell? ⟨gb125, 0, none⟩ = some (.int .i64 0) := (blk_cell BK125.out 0).trans rfl
  have hfs13 := blk_frozen BK125.out 0
  have hns13_0 := NB123_125.out
  have hns13_1 := NB124_125.out
  have hms13_0 := NB125_123.out
  have hms13_1 := NB125_124.out
  have hs14 : w12.cell? ⟨gb125, 1, none⟩ = some (.int .i64 0) := (blk_cell BK125.out 1).trans rfl
  have hfs14 := blk_frozen BK125.out 1
  have hns14_0 := NB123_125.out
  have hns14_1 := NB124_125.out
  have hms14_0 := NB125_123.out
  have hms14_1 := NB125_124.out
  have hs15 : w12.cell? ⟨gb125, 2, none⟩ = some (.string (⟨#[]⟩ : ByteArray)) := (blk_cell BK125.out 2).trans rfl
  have hfs15 := blk_frozen BK125.out 2
  have hns15_0 := NB123_125.out
  have hns15_1 := NB124_125.out
  have hms15_0 := NB125_123.out
  have hms15_1 := NB125_124.out
  refine skip_ (w1 := ?_) (by rfl) rfl ?_ ?_
  rotate_left
  · go_simp
    rfl
  refine hK.out _ _ ⟨((cell_far (p := ⟨gb125, _, none⟩) NB123_125.out _).trans (((cell_far (p := ⟨gb125, _, none⟩) NB123_125.out _).trans (((cell_far (p := ⟨gb125, _, none⟩) NB123_125.out _).trans (hHeld.1)))))), ((cell_far (p := ⟨gb125, _, none⟩) NB123_125.out _).trans (((cell_far (p := ⟨gb125, _, none⟩) NB123_125.out _).trans (((cell_far (p := ⟨gb125, _, none⟩) NB123_125.out _).trans (hHeld.2.1)))))), ((cell_far (p := ⟨gb125, _, none⟩) NB123_125.out _).trans (((cell_far (p := ⟨gb125, _, none⟩) NB123_125.out _).trans (((cell_far (p := ⟨gb125, _, none⟩) NB123_125.out _).trans (hHeld.2.2.1)))))), ((cell_far (p := ⟨gb125, _, none⟩) NB124_125.out _).trans (((cell_far (p := ⟨gb125, _, none⟩) NB124_125.out _).trans (((cell_far (p := ⟨gb125, _, none⟩) NB124_125.out _).trans (hHeld.2.2.2.1)))))), ((cell_far (p := ⟨gb125, _, none⟩) NB124_125.out _).trans (((cell_far (p := ⟨gb125, _, none⟩) NB124_125.out _).trans (((cell_far (p := ⟨gb125, _, none⟩) NB124_125.out _).trans (hHeld.2.2.2.2.1)))))), ((cell_far (p := ⟨gb125, _, none⟩) NB124_125.out _).trans (((cell_far (p := ⟨gb125, _, none⟩) NB124_125.out _).trans (((cell_far (p := ⟨gb125, _, none⟩) NB124_125.out _).trans (hHeld.2.2.2.2.2))))))⟩ (fun hHeld => ?_)
  clear hK K
  refine done_ (by kernel_rfl) ?_
  try go_wp2
  refine bodyPost_ret (results_cell_row rfl _ _ gb125 83 #[.int .i64 t128, .int .i64 t129, .string t130] (0, 0) _ rfl (by (with_reducible repeat (first | refine blk_drewN ?_ _ | refine blk_drew ?_ | refine blk_alloc ?_ _)); refine blk_put (cs := #[.int .i64 t128, .int .i64 t129, .string (⟨#[]⟩ : ByteArray)]) ?_ 2 _ rfl; (with_reducible repeat (first | refine blk_drewN ?_ _ | refine blk_drew ?_ | refine blk_alloc ?_ _)); refine blk_put (cs := #[.int .i64 t128, .int .i64 0, .string (⟨#[]⟩ : ByteArray)]) ?_ 1 _ rfl; (with_reducible repeat (first | refine blk_drewN ?_ _ | refine blk_drew ?_ | refine blk_alloc ?_ _)); refine blk_put (cs := #[.int .i64 0, .int .i64 0, .string (⟨#[]⟩ : ByteArray)]) ?_ 0 _ rfl; (with_reducible repeat (first | refine blk_drewN ?_ _ | refine blk_drew ?_ | refine blk_alloc ?_ _)); exact BK125.out) Tryz.underlying83 rfl (by kernel_rfl)) rfl ?_
  exact ⟨zE, zG⟩
end Go.Proofs.YtjlhhjfmekjbhaaGreatDoor.Pr

namespace Go.Proofs.YtjlhhjfmekjbhaaGreatDoor.Pr
open Go.RowKit Go.Proofs.YtjlhhjfmekjbhaaGreatDoorW.PrintWords Go.Proofs.YtjlhhjfmekjbhaaGreatDoorW.PrintLast Go.Proofs.YtjlhhjfmekjbhaaGreatDoorW.PrintMore
set_option linter.unusedVariables false
set_option linter.unusedSimpArgs false
/-! ### value_truth: function 105 -/
def value_truth.j0 : Nat → Int → Int → ByteArray → Option (Int × Int × ByteArray)
  | 0, _, _, _ => none
  | k + 1, x133000, x133001, x133002 => some (x133000, x133001, x133002)
def value_truth.f (k : Nat) (a0 : Bool) : Option (Int × Int × ByteArray) := if a0 = true then (value_truth.j0 k 2 1 (⟨#[]⟩ : ByteArray)) else (value_truth.j0 k 2 0 (⟨#[]⟩ : ByteArray))
set_option maxHeartbeats 8000000 in
set_option maxRecDepth 100000 in
theorem value_truth.calls (k : Nat) (a0 : Bool) (r1 : Int) (r2 : Int) (r3 : ByteArray) (w : World) (h : value_truth.f k a0 = some (r1, r2, r3)) :
    Calls Tryz.prog 105 #[.bool a0] w fun e w' => e = .returned (.agg #[.int .i64 r1, .int .i64 r2, .string r3]) ∧ Below w.heap.size w w' := by
  have hu83 := Tryz.underlying83
  have HB := Aside0.mk (Below.refl w.heap.size w)
  have H : (if a0 = true then (value_truth.j0 k 2 1 (⟨#[]⟩ : ByteArray)) else (value_truth.j0 k 2 0 (⟨#[]⟩ : ByteArray))) = some (r1, r2, r3) := h
  clear h
  have HC2 := Aside0.mk H
  clear H
  go_enter Tryz.func105, Tryz.ntmps105
  go_upto_if 5 with (first | ((with_reducible refine gate_dst (N := 2) rfl ?_); refine zX (N := 2) (cs := #[.int .i64 0, .int .i64 0, .string (⟨#[]⟩ : ByteArray)]) (t := 83) (h := ?_); intro gb131 hg w3 hbox hb; have BK131 := Aside0.mk hbox; have GW131 := Aside0.mk ((zS : w.heap.size ≤ gb131)); have GE131 := Aside0.mk ((zS : w.heap.size ≤ gb131)); replace HB := Aside0.mk (below_step zB hb); clear hb hbox hg) | ((with_reducible refine gate_dst (N := 3) rfl ?_); refine zX (N := 3) (cs := #[.int .i64 0, .int .i64 0, .string (⟨#[]⟩ : ByteArray)]) (t := 83) (h := ?_); intro gb132 hg w4 hbox hb; have BK132 := Aside0.mk hbox; have GW132 := Aside0.mk ((zT : w.heap.size ≤ gb132)); have GE132 := Aside0.mk ((zT : w.heap.size ≤ gb132)); have NB131_132 := Aside0.mk ((zL : gb131 ≠ gb132)); have NB132_131 := Aside0.mk ((zM : gb132 ≠ gb131)); replace BK131 := Aside0.mk (blk_below (g := gb131) zK hb); replace HB := Aside0.mk (below_step zG hb); clear hb hbox hg; have hnb5 := NB132_131.out; have hnc5 := NB131_132.out; obtain ⟨hcz6_0, hcz6_1, hcz6_2, hfz6_0, hfz6_1, hfz6_2⟩ := zd3 BK132.out (.int .i64 0) (.int .i64 0) (.string (⟨#[]⟩ : ByteArray))))
  (try simp only [Act.put, List.setIfInBounds_toArray, List.set_cons_zero, List.set_cons_succ])
  go_cut [] (fun wc => ∃ (kq : Nat) (x133001_1 : Int), Aside0 (value_truth.j0 kq 2 x133001_1 (⟨#[]⟩ : ByteArray) = some (r1, r2, r3)) ∧ Aside0 (kq ≤ k) ∧ Aside0 (wc.heap[gb131]? = some (.cells #[.int .i64 0, .int .i64 0, .string (⟨#[]⟩ : ByteArray)] 83 (0, 0))) ∧ Aside0 (wc.heap[gb132]? = some (.cells #[.int .i64 2, .int .i64 x133001_1, .string (⟨#[]⟩ : ByteArray)] 83 (0, 0))) ∧ Aside0 (Below w.heap.size w wc))
  case first =>
    have H := HC2.out
    clear HC2
    by_cases c7 : a0 = true
    · subst c7
      rw [if_pos rfl] at H
      have H' := Aside0.mk H
      clear H
      have hnb8 := NB132_131.out
      have hnc8 := NB131_132.out
      obtain ⟨hcz9_0, hcz9_1, hcz9_2, hfz9_0, hfz9_1, hfz9_2⟩ := zd3 BK132.out (.int .i64 0) (.int .i64 0) (.string (⟨#[]⟩ : ByteArray))
      go_wp2
      go_meet
      case rel => exact ⟨_, (1), H', ⟨by first | omega | exact Nat.le_refl _⟩, ⟨by (with_reducible repeat (first | refine blk_drewN ?_ _ | refine blk_drew ?_ | refine blk_alloc ?_ _)); refine blk_far ?_ NB131_132.out _; (with_reducible repeat (first | refine blk_drewN ?_ _ | refine blk_drew ?_ | refine blk_alloc ?_ _)); refine blk_far ?_ NB131_132.out _; (with_reducible repeat (first | refine blk_drewN ?_ _ | refine blk_drew ?_ | refine blk_alloc ?_ _)); refine blk_far ?_ NB131_132.out _; (with_reducible repeat (first | refine blk_drewN ?_ _ | refine blk_drew ?_ | refine blk_alloc ?_ _)); refine blk_far ?_ NB131_132.out _; (with_reducible repeat (first | refine blk_drewN ?_ _ | refine blk_drew ?_ | refine blk_alloc ?_ _)); exact BK131.out⟩, ⟨by (with_reducible repeat (first | refine blk_drewN ?_ _ | refine blk_drew ?_ | refine blk_alloc ?_ _)); refine blk_put (cs := #[.int .i64 2, .int .i64 0, .string (⟨#[]⟩ : ByteArray)]) ?_ 1 _ rfl; (with_reducible repeat (first | refine blk_drewN ?_ _ | refine blk_drew ?_ | refine blk_alloc ?_ _)); refine blk_put (cs := #[.int .i64 2, .int .i64 0, .string (⟨#[]⟩ : ByteArray)]) ?_ 2 _ rfl; (with_reducible repeat (first | refine blk_drewN ?_ _ | refine blk_drew ?_ | refine blk_alloc ?_ _)); refine blk_put (cs := #[.int .i64 2, .int .i64 0, .string (⟨#[]⟩ : ByteArray)]) ?_ 1 _ rfl; (with_reducible repeat (first | refine blk_drewN ?_ _ | refine blk_drew ?_ | refine blk_alloc ?_ _)); refine blk_put (cs := #[.int .i64 0, .int .i64 0, .string (⟨#[]⟩ : ByteArray)]) ?_ 0 _ rfl; (with_reducible repeat (first | refine blk_drewN ?_ _ | refine blk_drew ?_ | refine blk_alloc ?_ _)); exact BK132.out⟩, ⟨zG⟩⟩
    · replace c7 := Bool.eq_false_iff.mpr c7
      subst c7
      rw [if_neg (show ¬ (false = true) by decide)] at H
      have H' := Aside0.mk H
      clear H
      go_wp2
      go_meet
      case rel => exact ⟨_, (0), H', ⟨by first | omega | exact Nat.le_refl _⟩, ⟨by (with_reducible repeat (first | refine blk_drewN ?_ _ | refine blk_drew ?_ | refine blk_alloc ?_ _)); refine blk_far ?_ NB131_132.out _; (with_reducible repeat (first | refine blk_drewN ?_ _ | refine blk_drew ?_ | refine blk_alloc ?_ _)); refine blk_far ?_ NB131_132.out _; (with_reducible repeat (first | refine blk_drewN ?_ _ | refine blk_drew ?_ | refine blk_alloc ?_ _)); refine blk_far ?_ NB131_132.out _; (with_reducible repeat (first | refine blk_drewN ?_ _ | refine blk_drew ?_ | refine blk_alloc ?_ _)); exact BK131.out⟩, ⟨by (with_reducible repeat (first | refine blk_drewN ?_ _ | refine blk_drew ?_ | refine blk_alloc ?_ _)); refine blk_put (cs := #[.int .i64 2, .int .i64 0, .string (⟨#[]⟩ : ByteArray)]) ?_ 2 _ rfl; (with_reducible repeat (first | refine blk_drewN ?_ _ | refine blk_drew ?_ | refine blk_alloc ?_ _)); refine blk_put (cs := #[.int .i64 2, .int .i64 0, .string (⟨#[]⟩ : ByteArray)]) ?_ 1 _ rfl; (with_reducible repeat (first | refine blk_drewN ?_ _ | refine blk_drew ?_ | refine blk_alloc ?_ _)); refine blk_put (cs := #[.int .i64 0, .int .i64 0, .string (⟨#[]⟩ : ByteArray)]) ?_ 0 _ rfl; (with_reducible repeat (first | refine blk_drewN ?_ _ | refine blk_drew ?_ | refine blk_alloc ?_ _)); exact BK132.out⟩, ⟨zG⟩⟩
  case rest =>
    clear HC2
    clear hcz6_0 hcz6_1 hcz6_2 hfz6_0 hfz6_1 hfz6_2
    obtain ⟨kq, x133001_1, HA, HJ1, BK131, BK132, HB⟩ := hcut
    cases kq with
    | zero => exact absurd HA.out (by simp [value_truth.j0])
    | succ kj1 =>
      have H := HA.out
      clear HA
      simp only [value_truth.j0] at H
      simp only [Option.some.injEq, Prod.mk.injEq] at H
      obtain ⟨rfl, rfl, rfl⟩ := H
      have hnb10 := NB132_131.out
      have hnc10 := NB131_132.out
      obtain ⟨hcz11_0, hcz11_1, hcz11_2, hfz11_0, hfz11_1, hfz11_2⟩ := zd3 BK132.out (.int .i64 2) (.int .i64 x133001_1) (.string (⟨#[]⟩ : ByteArray))
      obtain ⟨hcz12_0, hcz12_1, hcz12_2, hfz12_0, hfz12_1, hfz12_2⟩ := zd3 BK131.out (.int .i64 0) (.int .i64 0) (.string (⟨#[]⟩ : ByteArray))
      go_wp2
      refine bodyPost_ret (results_cell_row rfl _ _ gb131 83 #[.int .i64 2, .int .i64 x133001_1, .string (⟨#[]⟩ : ByteArray)] (0, 0) _ rfl (by (with_reducible repeat (first | refine blk_drewN ?_ _ | refine blk_drew ?_ | refine blk_alloc ?_ _)); refine blk_put (cs := #[.int .i64 2, .int .i64 x133001_1, .string (⟨#[]⟩ : ByteArray)]) ?_ 2 _ rfl; (with_reducible repeat (first | refine blk_drewN ?_ _ | refine blk_drew ?_ | refine blk_alloc ?_ _)); refine blk_put (cs := #[.int .i64 2, .int .i64 0, .string (⟨#[]⟩ : ByteArray)]) ?_ 1 _ rfl; (with_reducible repeat (first | refine blk_drewN ?_ _ | refine blk_drew ?_ | refine blk_alloc ?_ _)); refine blk_put (cs := #[.int .i64 0, .int .i64 0, .string (⟨#[]⟩ : ByteArray)]) ?_ 0 _ rfl; (with_reducible repeat (first | refine blk_drewN ?_ _ | refine blk_drew ?_ | refine blk_alloc ?_ _)); exact BK131.out) Tryz.underlying83 rfl (by kernel_rfl)) rfl ?_
      exact ⟨zE, zG⟩
/-! ### cmp_isNaN_int64: function 131 -/
def cmp_isNaN_int64.f (a0 : Int) : Option (Bool) := some (a0 != a0)
set_option maxHeartbeats 8000000 in
set_option maxRecDepth 100000 in
theorem cmp_isNaN_int64.calls (a0 : Int) (r : Bool) (w : World) (h : cmp_isNaN_int64.f a0 = some r) :
    Calls Tryz.prog 131 #[.int .i64 a0] w fun e w' => e = .returned (.bool r) ∧ Drawn0 w w' := by
  have H : (some (a0 != a0)) = some r := h
  clear h
  obtain rfl := Option.some.inj H
  go_enter Tryz.func131, Tryz.ntmps131
  go_wp2
  go_ret
  exact ⟨zR, by repeat (first | exact Drawn0.refl _ | apply Drawn0.step)⟩
/-! ### cmp_Compare_int64: function 123 -/
def cmp_Compare_int64.f (a0 : Int) (a1 : Int) : Option (Int) := (cmp_isNaN_int64.f a0).bind fun t133 => ((cmp_isNaN_int64.f a1).bind fun t134 => (if t133 = true then (if t134 = true then (some 0) else (some (-1))) else (if t134 = true then (some 1) else (if a0 < a1 then (some (-1)) else (if a0 > a1 then (some 1) else (some 0))))))
set_option maxHeartbeats 8000000 in
set_option maxRecDepth 100000 in
theorem cmp_Compare_int64.calls (a0 : Int) (a1 : Int) (r : Int) (w : World) (h : cmp_Compare_int64.f a0 a1 = some r) :
    Calls Tryz.prog 123 #[.int .i64 a0, .int .i64 a1] w fun e w' => e = .returned (.int .i64 r) ∧ Drawn0 w w' := by
  have H : ((cmp_isNaN_int64.f a0).bind fun t133 => ((cmp_isNaN_int64.f a1).bind fun t134 => (if t133 = true then (if t134 = true then (some 0) else (some (-1))) else (if t134 = true then (some 1) else (if a0 < a1 then (some (-1)) else (if a0 > a1 then (some 1) else (some 0))))))) = some r := h
  clear h
  obtain ⟨t133, A3, H⟩ := zO H
  obtain ⟨t134, A4, H⟩ := zO H
  by_cases c5 : t133 = true
  · subst c5
    rw [if_pos rfl] at H
    by_cases c6 : t134 = true
    · subst c6
      rw [if_pos rfl] at H
      obtain rfl := Option.some.inj H
      go_enter Tryz.func123, Tryz.ntmps123
      go_wp2_with (first | ((with_reducible refine gate_callee (f := 131) rfl ?_); refine goesL_ (some 10) rfl rfl Tryz.func131 (by kernel_rfl) rfl #[.int .i64 a1] rfl zP ?_; (with_reducible refine (cmp_isNaN_int64.calls a1 true _ A4.out).mono ?_); rintro e w' ⟨rfl, ⟨nd, rfl⟩⟩; refine ⟨_, rfl, ?_⟩) | ((with_reducible refine gate_callee (f := 131) rfl ?_); refine goesL_ (some 8) rfl rfl Tryz.func131 (by kernel_rfl) rfl #[.int .i64 a0] rfl zP ?_; (with_reducible refine (cmp_isNaN_int64.calls a0 true _ A3.out).mono ?_); rintro e w' ⟨rfl, ⟨nd, rfl⟩⟩; refine ⟨_, rfl, ?_⟩))
      go_ret
      exact ⟨zR, by repeat (first | exact Drawn0.refl _ | apply Drawn0.step)⟩
    · replace c6 := Bool.eq_false_iff.mpr c6
      subst c6
      rw [if_neg (show ¬ (false = true) by decide)] at H
      obtain rfl := Option.some.inj H
      go_enter Tryz.func123, Tryz.ntmps123
      go_wp2_with (first | ((with_reducible refine gate_callee (f := 131) rfl ?_); refine goesL_ (some 10) rfl rfl Tryz.func131 (by kernel_rfl) rfl #[.int .i64 a1] rfl zP ?_; (with_reducible refine (cmp_isNaN_int64.calls a1 false _ A4.out).mono ?_); rintro e w' ⟨rfl, ⟨nd, rfl⟩⟩; refine ⟨_, rfl, ?_⟩) | ((with_reducible refine gate_callee (f := 131) rfl ?_); refine goesL_ (some 8) rfl rfl Tryz.func131 (by kernel_rfl) rfl #[.int .i64 a0] rfl zP ?_; (with_reducible refine (cmp_isNaN_int64.calls a0 true _ A3.out).mono ?_); rintro e w' ⟨rfl, ⟨nd, rfl⟩⟩; refine ⟨_, rfl, ?_⟩))
      go_ret
      exact ⟨zR, by repeat (first | exact Drawn0.refl _ | apply Drawn0.step)⟩
  · replace c5 := Bool.eq_false_iff.mpr c5
    subst c5
    rw [if_neg (show ¬ (false = true) by decide)] at H
    by_cases c7 : t134 = true
    · subst c7
      rw [if_pos rfl] at H
      obtain rfl := Option.some.inj H
      go_enter Tryz.func123, Tryz.ntmps123
      go_wp2_with (first | ((with_reducible refine gate_callee (f := 131) rfl ?_); refine goesL_ (some 10) rfl rfl Tryz.func131 (by kernel_rfl) rfl #[.int .i64 a1] rfl zP ?_; (with_reducible refine (cmp_isNaN_int64.calls a1 true _ A4.out).mono ?_); rintro e w' ⟨rfl, ⟨nd, rfl⟩⟩; refine ⟨_, rfl, ?_⟩) | ((with_reducible refine gate_callee (f := 131) rfl ?_); refine goesL_ (some 8) rfl rfl Tryz.func131 (by kernel_rfl) rfl #[.int .i64 a0] rfl zP ?_; (with_reducible refine (cmp_isNaN_int64.calls a0 false _ A3.out).mono ?_); rintro e w' ⟨rfl, ⟨nd, rfl⟩⟩; refine ⟨_, rfl, ?_⟩))
      go_ret
      exact ⟨zR, by repeat (first | exact Drawn0.refl _ | apply Drawn0.step)⟩
    · replace c7 := Bool.eq_false_iff.mpr c7
      subst c7
      rw [if_neg (show ¬ (false = true) by decide)] at H
      by_cases c8 : a0 < a1
      · rw [if_pos c8] at H
        have c8b0 : decide (a0 < a1) = true := decide_eq_true c8
        clear c8
        obtain rfl := Option.some.inj H
        go_enter Tryz.func123, Tryz.ntmps123
        go_wp2_with (first | ((with_reducible refine gate_callee (f := 131) rfl ?_); refine goesL_ (some 10) rfl rfl Tryz.func131 (by kernel_rfl) rfl #[.int .i64 a1] rfl zP ?_; (with_reducible refine (cmp_isNaN_int64.calls a1 false _ A4.out).mono ?_); rintro e w' ⟨rfl, ⟨nd, rfl⟩⟩; refine ⟨_, rfl, ?_⟩) | ((with_reducible refine gate_callee (f := 131) rfl ?_); refine goesL_ (some 8) rfl rfl Tryz.func131 (by kernel_rfl) rfl #[.int .i64 a0] rfl zP ?_; (with_reducible refine (cmp_isNaN_int64.calls a0 false _ A3.out).mono ?_); rintro e w' ⟨rfl, ⟨nd, rfl⟩⟩; refine ⟨_, rfl, ?_⟩))
        go_ret
        exact ⟨zR, by repeat (first | exact Drawn0.refl _ | apply Drawn0.step)⟩
      · rw [if_neg c8] at H
        have c8b0 : decide (a0 < a1) = false := decide_eq_false c8
        clear c8
        by_cases c9 : a0 > a1
        · rw [if_pos c9] at H
          have c9b0 : decide (a1 < a0) = true := decide_eq_true c9
          clear c9
          obtain rfl := Option.some.inj H
          go_enter Tryz.func123, Tryz.ntmps123
          go_wp2_with (first | ((with_reducible refine gate_callee (f := 131) rfl ?_); refine goesL_ (some 10) rfl rfl Tryz.func131 (by kernel_rfl) rfl #[.int .i64 a1] rfl zP ?_; (with_reducible refine (cmp_isNaN_int64.calls a1 false _ A4.out).mono ?_); rintro e w' ⟨rfl, ⟨nd, rfl⟩⟩; refine ⟨_, rfl, ?_⟩) | ((with_reducible refine gate_callee (f := 131) rfl ?_); refine goesL_ (some 8) rfl rfl Tryz.func131 (by kernel_rfl) rfl #[.int .i64 a0] rfl zP ?_; (with_reducible refine (cmp_isNaN_int64.calls a0 false _ A3.out).mono ?_); rintro e w' ⟨rfl, ⟨nd, rfl⟩⟩; refine ⟨_, rfl, ?_⟩))
          go_ret
          exact ⟨zR, by repeat (first | exact Drawn0.refl _ | apply Drawn0.step)⟩
        · rw [if_neg c9] at H
          have c9b0 : decide (a1 < a0) = false := decide_eq_false c9
          clear c9
          obtain rfl := Option.some.inj H
          go_enter Tryz.func123, Tryz.ntmps123
          go_wp2_with (first | ((with_reducible refine gate_callee (f := 131) rfl ?_); refine goesL_ (some 10) rfl rfl Tryz.func131 (by kernel_rfl) rfl #[.int .i64 a1] rfl zP ?_; (with_reducible refine (cmp_isNaN_int64.calls a1 false _ A4.out).mono ?_); rintro e w' ⟨rfl, ⟨nd, rfl⟩⟩; refine ⟨_, rfl, ?_⟩) | ((with_reducible refine gate_callee (f := 131) rfl ?_); refine goesL_ (some 8) rfl rfl Tryz.func131 (by kernel_rfl) rfl #[.int .i64 a0] rfl zP ?_; (with_reducible refine (cmp_isNaN_int64.calls a0 false _ A3.out).mono ?_); rintro e w' ⟨rfl, ⟨nd, rfl⟩⟩; refine ⟨_, rfl, ?_⟩))
          go_ret
          exact ⟨zR, by repeat (first | exact Drawn0.refl _ | apply Drawn0.step)⟩
end Go.Proofs.YtjlhhjfmekjbhaaGreatDoor.Pr

/- cmp.Compare at strings. No condition. -/
namespace Go.Proofs.YtjlhhjfmekjbhaaGreatDoor.Va
open Go.RowKit Go.Proofs.YtjlhhjfmekjbhaaGreatDoorW.PrintWords Go.Proofs.YtjlhhjfmekjbhaaGreatDoorW.PrintLast Go.Proofs.YtjlhhjfmekjbhaaGreatDoorW.PrintMore
set_option linter.unusedVariables false
set_option linter.unusedSimpArgs false
set_option maxRecDepth 100000 in
theorem isNaN_run (s : ByteArray) (w : World) : Calls Tryz.prog 130 #[.string s] w fun e w' => e = .returned (.bool false) ∧ w' = w := by
  go_enter Tryz.func130, Tryz.ntmps130
  go_wp2
  go_ret
  exact ⟨by simp, rfl⟩
def cmp_Compare_string.f (a b : ByteArray) : Option Int := some (if Op.bytesLess a.toList b.toList = true then -1 else if (a.toList == b.toList) = true then 0 else 1)
set_option maxRecDepth 100000 in
theorem cmp_Compare_string.calls (a0 a1 : ByteArray) (r : Int) (w : World) (h : cmp_Compare_string.f a0 a1 = some r) :
    Calls Tryz.prog 122 #[.string a0, .string a1] w fun e w' => e = .returned (.int .i64 r) ∧ Drawn0 w w' := by
  obtain rfl := Option.some.inj h
  clear h
  have H0 := Aside0.mk (isNaN_run a0)
  have H1 := Aside0.mk (isNaN_run a1)
  generalize h1 : Op.bytesLess a0.toList a1.toList = b1
  generalize h2 : (a0.toList == a1.toList) = b2
  cases b1 <;> cases b2
  all_goals (
    go_enter Tryz.func122, Tryz.ntmps122
    go_wp2_with (first | (go_at_call 130; refine (H0.out _).mono ?_; rintro e w' ⟨rfl, rfl⟩) | (go_at_call 130; refine (H1.out _).mono ?_; rintro e w' ⟨rfl, rfl⟩))
    go_ret
    exact ⟨by simp [*], Drawn0.refl _⟩)
end Go.Proofs.YtjlhhjfmekjbhaaGreatDoor.Va

