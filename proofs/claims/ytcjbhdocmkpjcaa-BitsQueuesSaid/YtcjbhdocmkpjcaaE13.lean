/- gumshoelaw01.BitsQueues: a queue beside a row that is seen. No condition. -/
import Derived.Test.YtcjbhdocmkpjcaaE8
import Derived.Test.YtcjbhdocmkpjcaaE10
import Derived.Test.YtcjbhdocmkpjcaaG1
import Derived.Test.YtcjbhdocmkpjcaaE5
import Derived.Test.YtcjbhdocmkpjcaaWTab
import Derived.Test.YtcjbhdocmkpjcaaMk
namespace Go.Proofs.Ytcjbhdocmkpjcaa.Ext
open Go.RowKit Go.Proofs.YtcjbhdocmkpjcaaW.PrintWords Go.Proofs.YtcjbhdocmkpjcaaW.PrintLast Go.Proofs.YtcjbhdocmkpjcaaW.PrintMore Go.Proofs.Ytcjbhdocmkpjcaa.Pr Go.Proofs.Ytcjbhdocmkpjcaa.Base Go.Proofs.Ytcjbhdocmkpjcaa.Iter Go.Proofs.Ytcjbhdocmkpjcaa.ISet Go.Proofs.Ytcjbhdocmkpjcaa.Sets
set_option linter.unusedVariables false
set_option linter.unusedSimpArgs false

/-- A queue of T beside a row v of X: both made by the call that began in w. -/
structure QSeen (w W : World) (gq : Nat) (T : List Int) (n : Nat) (v : Value) (X : List Int) : Prop where
  bel : Below w.heap.size w W
  own : QRowI W w.heap.size v X
  que : ∃ (base : Nat) (O : Nat → Prop), base ≤ W.heap.size ∧ QIs W base gq T n O ∧ (∀ i, O i → w.heap.size ≤ i ∧ i < W.heap.size) ∧ ∀ i, v.ownBlock = some i → ¬ O i

theorem QSeen.drawn {w W W' : World} {gq n : Nat} {T X : List Int} {v : Value} (h : QSeen w W gq T n v X) (hd : Drawn0 W W') : QSeen w W' gq T n v X := by
  obtain ⟨base, O, h1, h2, h3, h4⟩ := h.que
  have hc : Chg (fun _ => False) W W' := Chg.of_below hd.below _
  exact ⟨h.bel.trans (hd.below.mono h.bel.size), qrow_chg h.own hc (fun _ _ h => h), base, O, Nat.le_trans h1 hc.size, h2.chg hc (fun _ h => h.elim), fun i hi => ⟨(h3 i hi).1, Nat.lt_of_lt_of_le (h3 i hi).2 hc.size⟩, h4⟩

/-- The queue has turned. -/
theorem QSeen.turned {w W W' : World} {gq n n' base : Nat} {T T' X : List Int} {v : Value} {O O2 : Nat → Prop} (h : QSeen w W gq T n v X) (hb : base ≤ W.heap.size) (h3 : ∀ i, O i → w.heap.size ≤ i ∧ i < W.heap.size) (h4 : ∀ i, v.ownBlock = some i → ¬ O i) (hc : Chg O W W') (hO2 : ∀ i, O2 i → O i ∨ W.heap.size ≤ i) (hq : QIs W' base gq T' n' O2) : QSeen w W' gq T' n' v X := by
  have hs := h.bel.size
  have hl := Kd.Q_lt h.own
  refine ⟨h.bel.trans (hc.below hs (fun i hi => (h3 i hi).1)), qrow_chg h.own hc h4, base, _, Nat.le_trans hb hc.size, hq.tight, fun i hi => ⟨?_, hi.2⟩, fun i hi h => ?_⟩
  · rcases hO2 i hi.1 with h | h
    · exact (h3 i h).1
    · omega
  · rcases hO2 i h.1 with h | h
    · exact h4 i hi h
    · have := hl i hi; omega

/-- The row is another one, made since. -/
theorem QSeen.fresh {w W W1 : World} {gq n : Nat} {T X Y : List Int} {v v1 : Value} (h : QSeen w W gq T n v X) (hb : Below W.heap.size W W1) (hO : OwnI W1 W.heap.size v1 Y) : QSeen w W1 gq T n v1 Y := by
  obtain ⟨base, O, h1, h2, h3, h4⟩ := h.que
  have hs := h.bel.size
  have hc : Chg (fun _ => False) W W1 := Chg.of_below hb _
  refine ⟨h.bel.trans (hb.mono hs), Kd.Q_lower (Kd.Q_of_R hO) hs, base, O, Nat.le_trans h1 hc.size, h2.chg hc (fun _ h => h.elim), fun i hi => ⟨(h3 i hi).1, Nat.lt_of_lt_of_le (h3 i hi).2 hc.size⟩, fun i hi ho => ?_⟩
  have := own_base_lt hO i hi
  have := (h3 i ho).2
  omega
/-- The row is cut. -/
theorem QSeen.cut {w W : World} {gq n : Nat} {T X Y : List Int} {v v1 : Value} (h : QSeen w W gq T n v X) (hO : QRowI W w.heap.size v1 Y) (ho : ∀ i, v1.ownBlock = some i → v.ownBlock = some i) : QSeen w W gq T n v1 Y := by
  obtain ⟨base, O, h1, h2, h3, h4⟩ := h.que
  exact ⟨h.bel, hO, base, O, h1, h2, h3, fun i hi => h4 i (ho i hi)⟩
/-- The row has grown. -/
theorem QSeen.longer {w W W1 : World} {gq n : Nat} {T X Y : List Int} {v v1 : Value} (h : QSeen w W gq T n v X) (hg : W.grownBy W1 v.ownBlock) (hO : QRowI W1 w.heap.size v1 Y) (hat : v1.ownBlock = v.ownBlock ∨ ∃ b, v1.ownBlock = some b ∧ W.heap.size ≤ b) : QSeen w W1 gq T n v1 Y := by
  obtain ⟨base, O, h1, h2, h3, h4⟩ := h.que
  have hs := h.bel.size
  have hl := Kd.Q_base h.own
  have hc : Chg (fun i => v.ownBlock = some i) W W1 := Chg.of_grown hg
  refine ⟨h.bel.trans (hc.below hs (fun i hi => hl i hi)), hO, base, O, Nat.le_trans h1 hc.size, h2.chg hc h4, fun i hi => ⟨(h3 i hi).1, Nat.lt_of_lt_of_le (h3 i hi).2 hc.size⟩, fun i hi ho => ?_⟩
  rcases hat with e | ⟨b, e, hb⟩
  · exact h4 i (e ▸ hi) ho
  · rw [e] at hi
    injection hi with hi
    have := (h3 i ho).2
    omega

/-- A number is pushed. -/
theorem QSeen.push {w W : World} {gq n : Nat} {T X : List Int} {v : Value} (h : QSeen w W gq T n v X) (hn : n < 1000000000000) (x : Int) (hx : wfI x) :
    Calls Try.prog 18 #[.pointer (some ⟨gq, 0, none⟩), .int .i64 x] W fun e W' => e = .returned (.bool (!decide (x ∈ T))) ∧ QSeen w W' gq (if x ∈ T then T else T ++ [x]) (n + 1) v X := by
  obtain ⟨base, O, h1, h2, h3, h4⟩ := h.que
  by_cases hm : x ∈ T
  · refine (push_in base gq n T O x W h2 hm).mono ?_
    rintro e W' ⟨rfl, hd⟩
    obtain ⟨b, o, O', h1, h2, h3⟩ := h.drawn hd
    refine ⟨by simp [hm], ?_⟩
    rw [if_pos hm]
    obtain ⟨base', O', g1, ⟨gm, v', S, g2⟩, g3, g4⟩ := (h.drawn hd).que
    exact ⟨(h.drawn hd).bel, (h.drawn hd).own, base', O', g1, ⟨gm, v', S, { g2 with set := g2.set.mono (Nat.le_succ _), len := Nat.le_succ_of_le g2.len }⟩, g3, g4⟩
  · refine (push_new base gq n T O x W h2 h1 hn hx hm).mono ?_
    rintro e W' ⟨rfl, hc, O2, hO2, hq⟩
    refine ⟨by simp [hm], ?_⟩
    rw [if_neg hm]
    exact h.turned h1 h3 h4 hc hO2 hq
theorem QSeen.len {w W : World} {gq n : Nat} {T X : List Int} {v : Value} (h : QSeen w W gq T n v X) :
    Calls Try.prog 19 #[.pointer (some ⟨gq, 0, none⟩)] W fun e W' => e = .returned (.int .i64 T.length) ∧ QSeen w W' gq T n v X := by
  obtain ⟨base, O, h1, h2, h3, h4⟩ := h.que
  refine (len_calls base gq n T O W h2).mono ?_
  rintro e W' ⟨rfl, hd⟩
  exact ⟨rfl, h.drawn hd⟩
theorem QSeen.pop_none {w W : World} {gq n : Nat} {X : List Int} {v : Value} (h : QSeen w W gq [] n v X) :
    Calls Try.prog 16 #[.pointer (some ⟨gq, 0, none⟩)] W fun e W' => e = .returned (.tuple #[.int .i64 0, .bool false]) ∧ QSeen w W' gq [] n v X := by
  obtain ⟨base, O, h1, h2, h3, h4⟩ := h.que
  refine (pop_empty base gq n O W h2).mono ?_
  rintro e W' ⟨rfl, hd⟩
  exact ⟨rfl, h.drawn hd⟩
theorem QSeen.pop {w W : World} {gq n : Nat} {x : Int} {T X : List Int} {v : Value} (h : QSeen w W gq (x :: T) n v X) :
    Calls Try.prog 16 #[.pointer (some ⟨gq, 0, none⟩)] W fun e W' => e = .returned (.tuple #[.int .i64 x, .bool true]) ∧ QSeen w W' gq T n v X := by
  obtain ⟨base, O, h1, h2, h3, h4⟩ := h.que
  refine (pop_some base gq n x T O W h2).mono ?_
  rintro e W' ⟨rfl, hc, hq⟩
  exact ⟨rfl, h.turned h1 h3 h4 hc (fun i h => .inl h) hq⟩
/-- A new queue. -/
theorem new_seen (w W : World) (h : Below w.heap.size w W) :
    Calls Try.prog 15 #[] W fun e W' => ∃ gq, e = .returned (.pointer (some ⟨gq, 0, none⟩)) ∧ QSeen w W' gq [] 0 (.slice none 0 0) [] := by
  refine (new_calls W).mono ?_
  rintro e W' ⟨rfl, hq, hb, hs⟩
  have := h.size
  exact ⟨_, rfl, h.trans (hb.mono h.size), Kd.Q_nil _ _ _ _ _, W.heap.size, _, by omega, ⟨_, _, _, hq⟩, fun i hi => by rcases hi with rfl | rfl <;> omega, fun i hi => by simp [Value.ownBlock] at hi⟩

theorem make0_run (m : Nat) (hm : m ≤ 35184372088832) : ∀ W : World, (Instr.makeSlice 24 (.int .i64 0) (.int .i64 (m : Int))).run Try.prog W = .ok (.slice (some ⟨W.heap.size, 0, none⟩) 0 m) (W.alloc (.cells (madeCells #[.int .i64 0] m) 3)) := by
  intro W
  obtain ⟨i0, hi, hz0, hz1, hz2⟩ := info_parts infoI
  have h := run_make (P := Try.prog) W 24 3 i0 (.int .i64 0) Try.underlying24 hi hz0 .i64 .i64 0 (m : Int) (by omega) (by omega) (by rw [hz2]; omega) (by omega)
  rw [hz1] at h
  simpa [Value.cells] using h
theorem made0_own (W : World) (m : Nat) (hm : m ≤ 35184372088832) : OwnI (W.alloc (.cells (madeCells #[.int .i64 0] m) 3)) W.heap.size (.slice (some ⟨W.heap.size, 0, none⟩) 0 m) [] :=
  Kd.R_of_own (show (W.alloc (.cells (madeCells #[.int .i64 0] m) 3)).ownsRow W.heap.size 3 1 _ 0 [] from ⟨rfl, .inr ⟨W.heap.size, m, _, rfl, Nat.le_refl _, heap_alloc_new W _, Nat.zero_le _, by simp only [maxLen]; omega, by simp [size_madeCells], by simp⟩⟩) (fun _ _ => trivial)

theorem QSeen.len_le {w W : World} {gq n : Nat} {T X : List Int} {v : Value} (h : QSeen w W gq T n v X) : T.length ≤ n := by
  obtain ⟨base, O, h1, ⟨gm, v', S, h2⟩, h3, h4⟩ := h.que
  exact h2.len
theorem QSeen.reads {w W : World} {gq n len c : Nat} {T X : List Int} {A : Option Addr} (h : QSeen w W gq T n (.slice A len c) X) : len = X.length ∧ len ≤ c ∧ Kd.C (Kd.int .i64) W A X.length X := Kd.Q_reads' h.own

def T17 : Bool × List (List Nat × List Nat) := (true, [([], []), ([0], [0]), ([1], [1]), ([2], [2]), ([], []), ([3, 4], [3, 4]), ([], []), ([], []), ([6, 7], [6, 7]), ([8], [8]), ([9], [9]), ([5, 10, 5], [5, 10]), ([11, 11, 0, 1, 2, 3, 4, 5, 6, 7, 8, 9, 10, 11], [0, 4, 11])])
def B17 : List Nat := [0, 1, 3, 7, 0, 31, 0, 0, 192, 448, 960, 2047, 4095]
theorem tab17 : rtab .any (opsOf Try.f4 17) = T17 := by kernel_rfl
theorem bits17 : waitsOk T17.2 B17 = true := by kernel_rfl
def gumshoelaw01_BitsQueues.f (l : List Int) : Option Bool := if l.all (fun x => (Lit.int .i64 x).wf) = true then some true else none
set_option maxHeartbeats 4000000 in
set_option maxRecDepth 100000 in
theorem gumshoelaw01_BitsQueues.calls (A0 : Option Addr) (c0 : Nat) (l0 : List Int) (r : Bool) (w : World) (hr0 : Kd.C (Kd.int .i64) w A0 l0.length l0) (hc0 : l0.length ≤ c0) (h : gumshoelaw01_BitsQueues.f l0 = some r) :
    Calls Try.prog 4 #[.slice A0 l0.length c0] w fun e w' => e = .returned (.bool r) ∧ Below w.heap.size w w' := by
  unfold gumshoelaw01_BitsQueues.f at h
  by_cases hw : l0.all (fun x => (Lit.int .i64 x).wf) = true
  case neg => rw [if_neg hw] at h; cases h
  rw [if_pos hw] at h
  obtain rfl := Option.some.inj h
  have hwf : ∀ x ∈ l0, wfI x := fun x hx => List.all_eq_true.1 hw x hx
  have hm : l0.length ≤ 9223372036854775807 := hr0.2.1
  have HC := Aside0.mk hr0
  clear h hw hr0 hc0
  go_enter Try.func4, Try.ntmps4
  go_wp2_with fail
  refine (gumshoelaw01_shown.calls true w rfl).mono ?_
  rintro e w1 ⟨rfl, hB⟩
  have HB1 := Aside0.mk hB
  clear hB
  go_wp2_with fail
  refine (new_seen w w1 HB1.out).mono ?_
  rintro e w3 ⟨gq, rfl, hq⟩
  have HQ := Aside0.mk hq
  clear hq HB1
  go_wp2
  go_loopw [5, 6] (fun v i W => ∃ (k n : Nat) (T : List Int), i = .int .i64 k ∧ k ≤ l0.length ∧ k ≤ 200 ∧ n ≤ k ∧ QSeen w W gq T n v T) (fun _ i _ => l0.length - (intOf i).toNat)
  case atStart => exact ⟨0, 0, [], rfl, Nat.zero_le _, Nat.zero_le _, Nat.le_refl _, HQ.out⟩
  case round =>
    clear HQ
    obtain ⟨k, n, T, rfl, hk, hk2, hn, hI⟩ := hrel
    have HI := Aside0.mk hI
    have hTn := hI.len_le
    obtain ⟨A, c, rfl, hlc⟩ := Kd.Q_slice hI.own
    have HL := Aside0.mk hI.len
    clear hI
    by_cases hlt : k < l0.length
    · obtain ⟨ad, e, hcell⟩ := at_getD (Kd.C_below HC.out HI.out.bel) k hlt
      by_cases h200 : k < 200
      · have HCELL := Aside0.mk (show ∀ W' : World, Below w.heap.size w W' → W'.cell? (ad.add k) = some (.int .i64 (l0.getD k 0)) from fun W' hb => by
          obtain ⟨ad', e', h'⟩ := at_getD (Kd.C_below HC.out hb) k hlt
          rw [e] at e'
          injection e' with e'
          rw [e', h'])
        subst e
        have hx : wfI (l0.getD k 0) := hwf _ (by rw [List.getD_eq_getElem?_getD, List.getElem?_eq_getElem hlt]; exact List.getElem_mem hlt)
        have HP := Aside0.mk (HI.out.push (by omega) (l0.getD k 0) hx)
        generalize l0.getD k 0 = x at *
        by_cases hneg : x < 0
        · cases T with
          | nil =>
            have HPN := Aside0.mk HI.out.pop_none
            go_wp2_with (go_at_call 16; refine HPN.out.mono ?_; rintro e W1 ⟨rfl, hq⟩; have HQ := Aside0.mk hq; clear hq)
            go_round
            case rel => exact ⟨k + 1, n, [], by go_num, by omega, by omega, by omega, HQ.out⟩
            case measure => simp [intOf]; omega
          | cons y T =>
            have HPN := Aside0.mk HI.out.pop
            have HCELLY := Aside0.mk (show ∀ (W' : World) (T' : List Int), QSeen w W' gq T' n (.slice A (y :: T).length c) (y :: T) → ∃ ad', A = some ad' ∧ W'.cell? ad' = some (.int .i64 y) from fun W' T' hq => at_head' hq.reads.2.2)
            obtain ⟨ad', hA, hcy⟩ := HCELLY.out _ _ HI.out
            have HDROP := Aside0.mk (show ∀ (W' : World) (T' : List Int), QSeen w W' gq T' n (.slice A (y :: T).length c) (y :: T) → QSeen w W' gq T' n (.slice (if c = 1 then A else A.map (·.add 1)) T.length (c - 1)) T from fun W' T' hq => by
              have hd := Kd.Q_drop (k := 1) hq.own (by simp)
              exact hq.cut (by simpa [show (Kd.int .i64).sz = 1 from rfl] using hd) (fun i hi => by subst hA; split at hi <;> simpa [Value.ownBlock, Addr.add] using hi))
            subst hA
            by_cases hc1 : c = 1
            · subst hc1
              go_wp2_with (go_at_call 16; refine HPN.out.mono ?_; rintro e W1 ⟨rfl, hq⟩; have HQ := Aside0.mk (HDROP.out _ _ hq); obtain ⟨_, e', hcy1⟩ := HCELLY.out _ _ hq; obtain rfl := Option.some.inj e'; clear hq e')
              go_round
              case rel => exact ⟨k + 1, n, T, by go_num, by omega, by omega, by omega, HQ.out⟩
              case measure => simp [intOf]; omega
            · rw [if_neg hc1] at HDROP
              go_wp2_with (go_at_call 16; refine HPN.out.mono ?_; rintro e W1 ⟨rfl, hq⟩; have HQ := Aside0.mk (HDROP.out _ _ hq); obtain ⟨_, e', hcy1⟩ := HCELLY.out _ _ hq; obtain rfl := Option.some.inj e'; clear hq e')
              go_round
              case rel => exact ⟨k + 1, n, T, by go_num, by omega, by omega, by omega, HQ.out⟩
              case measure => simp [intOf]; omega
        · have HHAS := Aside0.mk (Giv.gumshoeref01_Has.calls A c T x (T.contains x) _ HI.out.reads.2.2 hlc rfl)
          by_cases hm : x ∈ T
          · have HHAS' := Aside0.mk HHAS.out
            rw [List.contains_iff_mem.2 hm] at HHAS'
            go_wp2_with (first
              | (go_at_call 17; refine HHAS'.out.mono ?_; rintro e W1 ⟨rfl, hd⟩; have hq1 := HI.out.drawn hd; have hcell1 := HCELL.out W1 hq1.bel; have HPU := Aside0.mk (hq1.push (by omega) x hx); simp only [if_pos hm, decide_eq_true hm, Bool.not_true] at HPU; clear hq1 hd)
              | (go_at_call 18; refine HPU.out.mono ?_; rintro e W2 ⟨rfl, hq⟩; have HLE := Aside0.mk hq.len; clear hq)
              | (go_at_call 19; refine HLE.out.mono ?_; rintro e W3 ⟨rfl, hq⟩; have HQ := Aside0.mk hq; clear hq))
            go_round
            case rel => exact ⟨k + 1, n + 1, T, by go_num, by omega, by omega, by omega, HQ.out⟩
            case measure => simp [intOf]; omega
          · have HHAS' := Aside0.mk HHAS.out
            rw [Bool.eq_false_iff.2 (fun h => hm (List.contains_iff_mem.1 h))] at HHAS'
            go_upto_region 17 with (first
              | (go_at_call 17; refine HHAS'.out.mono ?_; rintro e W1 ⟨rfl, hd⟩; have hq1 := HI.out.drawn hd; have hcell1 := HCELL.out W1 hq1.bel; have HPU := Aside0.mk (hq1.push (by omega) x hx); simp only [if_neg hm, decide_eq_false hm, Bool.not_false] at HPU; clear hq1 hd)
              | (go_at_call 18; refine HPU.out.mono ?_; rintro e W2 ⟨rfl, hq⟩; have HQ2 := Aside0.mk hq; clear hq))
            have HQ3 := Aside0.mk (HQ2.out.drawn (W' := W2.drew) ⟨⟨1, rfl⟩⟩)
            refine start_ (n := 13) (S := fun w' => w'.cell? (ad.add k) = some (.int .i64 x)) (ds := []) #[false, false, false, false, false, false, false, false, false, false, false, false, false] (by kernel_rfl) rfl rfl (HCELL.out _ HQ3.out.bel) (fun hHeld => ?_)
            refine with_tabW tab17 bits17 (fun HT_ HW_ => ?_)
            clear HQ2
            generalize W2.drew = W3 at HQ3 hHeld ⊢
            have HROW := Aside0.mk HQ3.out.reads.2.2
            obtain ⟨j6, hj6w⟩ : ∃ j_ : Int, IntKind.i64.wrap ((T.length : Int) + 1) = j_ := ⟨_, rfl⟩
            have HJ6 := Aside0.mk (show j6 = (T.length : Int) + 1 from by rw [← hj6w, IntKind.wrap_i64]; omega)
            refine pure_ (i := 0) (N := some 74) (v := ?_) (a' := ?_) #[true, false, false, false, false, false, false, false, false, false, false, false, false] rfl rfl (any_of HT_.out (by kernel_rfl)) (fun _ _ _ h => h) (Or.inl ⟨by rfl, ?_⟩) ?_ ?_
            rotate_left
            · intro w'
              go_simp
              with_reducible rfl
            rotate_left
            · simp only [Act.put, List.setIfInBounds_toArray, List.set_cons_zero, List.set_cons_succ, i64_w, i32_w]
              rfl
            refine pure_ (i := 1) (N := some 75) (v := ?_) (a' := ?_) #[true, true, false, false, false, false, false, false, false, false, false, false, false] rfl rfl (any_of HT_.out (by kernel_rfl)) (fun _ _ _ h => h) (Or.inl ⟨by rfl, ?_⟩) ?_ ?_
            rotate_left
            · intro w'
              go_simp
              with_reducible rfl
            rotate_left
            · simp only [Act.put, List.setIfInBounds_toArray, List.set_cons_zero, List.set_cons_succ, i64_w, i32_w]
              rfl
            refine pure_ (i := 2) (N := some 76) (v := ?_) (a' := ?_) #[true, true, true, false, false, false, false, false, false, false, false, false, false] rfl rfl (any_of HT_.out (by kernel_rfl)) (fun _ _ _ h => h) (Or.inl ⟨by rfl, ?_⟩) ?_ ?_
            rotate_left
            · intro w'
              go_simp
              with_reducible rfl
            rotate_left
            · simp only [Act.put, List.setIfInBounds_toArray, List.set_cons_zero, List.set_cons_succ, i64_w, i32_w]
              rfl
            refine pure_ (i := 4) (N := some 78) (v := ?_) (a' := ?_) #[true, true, true, false, true, false, false, false, false, false, false, false, false] rfl rfl (any_of HT_.out (by kernel_rfl)) (fun _ _ _ h => h) (Or.inl ⟨by rfl, ?_⟩) ?_ ?_
            rotate_left
            · intro w'
              go_simp
              with_reducible rfl
            rotate_left
            · simp only [Act.put, List.setIfInBounds_toArray, List.set_cons_zero, List.set_cons_succ, i64_w, i32_w]
              rfl
            refine pure_ (i := 6) (N := some 80) (v := ?_) (a' := ?_) #[true, true, true, false, true, false, true, false, false, false, false, false, false] rfl rfl (any_of HT_.out (by kernel_rfl)) (fun _ _ _ h => h) (Or.inl ⟨by rfl, ?_⟩) ?_ ?_
            rotate_left
            · intro w'
              go_simp
              with_reducible rfl
            rotate_left
            · simp only [Act.put, List.setIfInBounds_toArray, List.set_cons_zero, List.set_cons_succ, i64_w, i32_w]
              rfl
            refine pure_ (i := 7) (N := some 81) (v := ?_) (a' := ?_) #[true, true, true, false, true, false, true, true, false, false, false, false, false] rfl rfl (any_of HT_.out (by kernel_rfl)) (fun _ _ _ h => h) (Or.inl ⟨by rfl, ?_⟩) ?_ ?_
            rotate_left
            · intro w'
              go_simp
              with_reducible rfl
            rotate_left
            · simp only [Act.put, List.setIfInBounds_toArray, List.set_cons_zero, List.set_cons_succ, i64_w, i32_w]
              rfl
            refine pure_ (i := 8) (N := some 82) (v := ?_) (a' := ?_) #[true, true, true, false, true, false, true, true, true, false, false, false, false] rfl rfl (any_of HT_.out (by kernel_rfl)) (fun _ _ _ h => h) (Or.inl ⟨by rfl, ?_⟩) ?_ ?_
            rotate_left
            · intro w'
              go_simp
              with_reducible rfl
            rotate_left
            · simp only [Act.put, List.setIfInBounds_toArray, List.set_cons_zero, List.set_cons_succ, i64_w, i32_w]
              rfl
            refine take_ (i := 9) (N := some 83) (v := ?_) (a' := ?_) #[true, true, true, false, true, false, true, true, true, true, false, false, false] rfl rfl (take_ofW HT_.out HW_.out (by kernel_rfl)) (fun _ _ _ h => h) (Or.inl ⟨by rfl, ?_⟩) hHeld ?_ ?_
            rotate_left
            · intro w' s0
              go_simp
              with_reducible rfl
            rotate_left
            · simp only [Act.put, List.setIfInBounds_toArray, List.set_cons_zero, List.set_cons_succ, i64_w, i32_w]
              rfl
            refine join_ (σ := Value × Value × Value) 2 #[true, true, true, true, true, true, true, true, true, true, true, false, false] (fun s_ => [(77, s_.1), (79, s_.2.1), (84, s_.2.2)]) (fun s_ w' => (w'.cell? (ad.add k) = some (.int .i64 x)) ∧ (OwnI w' W3.heap.size s_.2.1 T) ∧ (OwnI w' W3.heap.size s_.2.2 [x]) ∧ (Below W3.heap.size W3 w')) ?_ ?_
            rotate_left
            · intro hCont
              have HB := Aside0.mk (Below.refl W3.heap.size W3)
              refine two_ (i := 3) (j := 10) (Ni := some 77) (Nj := some 84) #[true, true, true, true, true, false, true, true, true, true, false, false, false] #[true, true, true, false, true, false, true, true, true, true, true, false, false] rfl rfl rfl rfl (two_of HT_.out (by kernel_rfl)) (by decide) (by decide) (fun K hK => ?_) (fun K hK => ?_)
              · skip
                refine Kd.R_make0_step (Kd.int .i64) _ 3 (by rfl) (N := 77) rfl 24 _ _ rfl j6 rfl rfl Try.underlying24 (.int .i64 0) 8 infoI rfl (by decide) (by omega) (0 : Int) (ok := fun _ => True) (okp := fun _ => True) rfl (fun _ hk => hk) trivial (by have := HJ6.out; omega) (by have := HJ6.out; omega) (Below.refl _ _) (Nat.le_refl _) ?_
                intro vm w1_ ho hb hg_ hnew_
                clear hg_ hnew_
                rw [List.replicate_zero] at ho
                have nHM := Aside0.mk (ho)
                have nHB := Aside0.mk (hb)
                try clear HM
                try clear HB
                have HM := nHM
                clear nHM
                have HB := nHB
                clear nHB
                clear ho hb
                refine hK.out _ _ (HCELL.out _ (HQ3.out.bel.trans (HB.out.mono HQ3.out.bel.size))) (fun hHeld => ?_)
                clear hK K
                refine norm_ (a' := ?_) ?_ ?_
                rotate_left
                · show Act.put _ (some 77) _ = _
                  simp only [Act.put, List.setIfInBounds_toArray, List.set_cons_zero, List.set_cons_succ, i64_w, i32_w]
                  rfl
                refine two_ (i := 5) (j := 10) (Ni := some 79) (Nj := some 84) #[true, true, true, true, true, true, true, true, true, true, false, false, false] #[true, true, true, true, true, false, true, true, true, true, true, false, false] rfl rfl rfl rfl (two_of HT_.out (by kernel_rfl)) (by decide) (by decide) (fun K hK => ?_) (fun K hK => ?_)
                · skip
                  refine Kd.R_append_rows_step (Kd.int .i64) (w0 := W3) W3.heap.size (by rfl) (.tmp 77) (.tmp 78) 24 3 (.int .i64 0) 8 rfl Try.underlying24 infoI rfl (by decide) (by omega) vm [] T _ _ _ (fun _ => True) (fun _ => False) rfl rfl HM.out (Kd.C_below HROW.out HB.out) (fun _ _ h => h) (fun _ h => h.elim) (fun _ _ => trivial) HB.out HB.out.size (by simp; omega) ?_
                  intro va w3_ ho hb hg hat
                  rw [List.nil_append] at ho
                  have nHA := Aside0.mk (ho)
                  have nHB := Aside0.mk (hb)
                  try clear HA
                  try clear HB
                  have HA := nHA
                  clear nHA
                  have HB := nHB
                  clear nHB
                  clear ho hb hg hat
                  refine hK.out _ _ (HCELL.out _ (HQ3.out.bel.trans (HB.out.mono HQ3.out.bel.size))) (fun hHeld => ?_)
                  clear hK K
                  refine norm_ (a' := ?_) ?_ ?_
                  rotate_left
                  · show Act.put _ (some 79) _ = _
                    simp only [Act.put, List.setIfInBounds_toArray, List.set_cons_zero, List.set_cons_succ, i64_w, i32_w]
                    rfl
                  refine one_ (i := 10) (N := some 84) #[true, true, true, true, true, true, true, true, true, true, true, false, false] rfl rfl (one_of HT_.out (by kernel_rfl)) (by decide) (fun K hK => ?_)
                  refine Kd.R_lit_step (Kd.int .i64) _ 3 (by rfl) (N := 84) rfl (xs := ([x] : List Int)) (inner := [.int .i64 x]) (ok := fun _ => True) (okp := fun _ => True) ?hr ?hp (fun _ hk => hk) trivial (Below.refl _ _) (Nat.le_refl _) (by simp) ?_; (case hr => first | (go_simp; done) | (go_simp; rfl)); (case hp => exact Reps.snoc (Reps.none _ _) rfl rfl)
                  intro vl w2_ ho hb hg_ hnew_
                  clear hg_ hnew_
                  have nHA := Aside0.mk (Kd.R_below HA.out hb)
                  have nHL := Aside0.mk (Kd.R_lower ho HB.out.size)
                  have nHB := Aside0.mk (HB.out.trans (hb.mono HB.out.size))
                  try clear HA
                  try clear HL
                  try clear HB
                  have HA := nHA
                  clear nHA
                  have HL := nHL
                  clear nHL
                  have HB := nHB
                  clear nHB
                  clear ho hb
                  refine hK.out _ _ (HCELL.out _ (HQ3.out.bel.trans (HB.out.mono HQ3.out.bel.size))) (fun hHeld => ?_)
                  clear hK K
                  refine norm_ (a' := ?_) ?_ ?_
                  rotate_left
                  · show Act.put _ (some 84) _ = _
                    simp only [Act.put, List.setIfInBounds_toArray, List.set_cons_zero, List.set_cons_succ, i64_w, i32_w]
                    rfl
                  exact norm_ (by simp only [putAll, Act.put, List.setIfInBounds_toArray, List.set_cons_zero, List.set_cons_succ]) (hCont (vm, va, vl) _ ⟨hHeld, HA.out, HL.out, HB.out⟩)
                · skip
                  refine Kd.R_lit_step (Kd.int .i64) _ 3 (by rfl) (N := 84) rfl (xs := ([x] : List Int)) (inner := [.int .i64 x]) (ok := fun _ => True) (okp := fun _ => True) ?hr ?hp (fun _ hk => hk) trivial (Below.refl _ _) (Nat.le_refl _) (by simp) ?_; (case hr => first | (go_simp; done) | (go_simp; rfl)); (case hp => exact Reps.snoc (Reps.none _ _) rfl rfl)
                  intro vl w2_ ho hb hg_ hnew_
                  clear hg_ hnew_
                  have nHL := Aside0.mk (Kd.R_lower (Kd.R_new' ho (Kd.R_lt HM.out)) HB.out.size)
                  have nHM := Aside0.mk (Kd.R_below HM.out hb)
                  have nHB := Aside0.mk (HB.out.trans (hb.mono HB.out.size))
                  try clear HL
                  try clear HM
                  try clear HB
                  have HL := nHL
                  clear nHL
                  have HM := nHM
                  clear nHM
                  have HB := nHB
                  clear nHB
                  clear ho hb
                  refine hK.out _ _ (HCELL.out _ (HQ3.out.bel.trans (HB.out.mono HQ3.out.bel.size))) (fun hHeld => ?_)
                  clear hK K
                  refine norm_ (a' := ?_) ?_ ?_
                  rotate_left
                  · show Act.put _ (some 84) _ = _
                    simp only [Act.put, List.setIfInBounds_toArray, List.set_cons_zero, List.set_cons_succ, i64_w, i32_w]
                    rfl
                  refine one_ (i := 5) (N := some 79) #[true, true, true, true, true, true, true, true, true, true, true, false, false] rfl rfl (one_of HT_.out (by kernel_rfl)) (by decide) (fun K hK => ?_)
                  refine Kd.R_append_rows_step (Kd.int .i64) (w0 := W3) W3.heap.size (by rfl) (.tmp 77) (.tmp 78) 24 3 (.int .i64 0) 8 rfl Try.underlying24 infoI rfl (by decide) (by omega) vm [] T _ _ _ (fun _ => True) (fun _ => False) rfl rfl HM.out (Kd.C_below HROW.out HB.out) (fun _ _ h => h) (fun _ h => h.elim) (fun _ _ => trivial) HB.out HB.out.size (by simp; omega) ?_
                  intro va w3_ ho hb hg hat
                  rw [List.nil_append] at ho
                  have nHL := Aside0.mk (Kd.R_mono (Kd.R_after HL.out hg hat) (fun _ _ => trivial))
                  have nHA := Aside0.mk (ho)
                  have nHB := Aside0.mk (hb)
                  try clear HL
                  try clear HA
                  try clear HB
                  have HL := nHL
                  clear nHL
                  have HA := nHA
                  clear nHA
                  have HB := nHB
                  clear nHB
                  clear ho hb hg hat
                  refine hK.out _ _ (HCELL.out _ (HQ3.out.bel.trans (HB.out.mono HQ3.out.bel.size))) (fun hHeld => ?_)
                  clear hK K
                  refine norm_ (a' := ?_) ?_ ?_
                  rotate_left
                  · show Act.put _ (some 79) _ = _
                    simp only [Act.put, List.setIfInBounds_toArray, List.set_cons_zero, List.set_cons_succ, i64_w, i32_w]
                    rfl
                  exact norm_ (by simp only [putAll, Act.put, List.setIfInBounds_toArray, List.set_cons_zero, List.set_cons_succ]) (hCont (vm, va, vl) _ ⟨hHeld, HA.out, HL.out, HB.out⟩)
              · skip
                refine Kd.R_lit_step (Kd.int .i64) _ 3 (by rfl) (N := 84) rfl (xs := ([x] : List Int)) (inner := [.int .i64 x]) (ok := fun _ => True) (okp := fun _ => True) ?hr ?hp (fun _ hk => hk) trivial (Below.refl _ _) (Nat.le_refl _) (by simp) ?_; (case hr => first | (go_simp; done) | (go_simp; rfl)); (case hp => exact Reps.snoc (Reps.none _ _) rfl rfl)
                intro vl w2_ ho hb hg_ hnew_
                clear hg_ hnew_
                have nHL := Aside0.mk (ho)
                have nHB := Aside0.mk (hb)
                try clear HL
                try clear HB
                have HL := nHL
                clear nHL
                have HB := nHB
                clear nHB
                clear ho hb
                refine hK.out _ _ (HCELL.out _ (HQ3.out.bel.trans (HB.out.mono HQ3.out.bel.size))) (fun hHeld => ?_)
                clear hK K
                refine norm_ (a' := ?_) ?_ ?_
                rotate_left
                · show Act.put _ (some 84) _ = _
                  simp only [Act.put, List.setIfInBounds_toArray, List.set_cons_zero, List.set_cons_succ, i64_w, i32_w]
                  rfl
                refine one_ (i := 3) (N := some 77) #[true, true, true, true, true, false, true, true, true, true, true, false, false] rfl rfl (one_of HT_.out (by kernel_rfl)) (by decide) (fun K hK => ?_)
                refine Kd.R_make0_step (Kd.int .i64) _ 3 (by rfl) (N := 77) rfl 24 _ _ rfl j6 rfl rfl Try.underlying24 (.int .i64 0) 8 infoI rfl (by decide) (by omega) (0 : Int) (ok := fun _ => True) (okp := fun _ => True) rfl (fun _ hk => hk) trivial (by have := HJ6.out; omega) (by have := HJ6.out; omega) (Below.refl _ _) (Nat.le_refl _) ?_
                intro vm w1_ ho hb hg_ hnew_
                clear hg_ hnew_
                rw [List.replicate_zero] at ho
                have nHL := Aside0.mk (Kd.R_elder' HL.out (Kd.R_base ho) hb)
                have nHM := Aside0.mk (Kd.R_lower ho HB.out.size)
                have nHB := Aside0.mk (HB.out.trans (hb.mono HB.out.size))
                try clear HL
                try clear HM
                try clear HB
                have HL := nHL
                clear nHL
                have HM := nHM
                clear nHM
                have HB := nHB
                clear nHB
                clear ho hb
                refine hK.out _ _ (HCELL.out _ (HQ3.out.bel.trans (HB.out.mono HQ3.out.bel.size))) (fun hHeld => ?_)
                clear hK K
                refine norm_ (a' := ?_) ?_ ?_
                rotate_left
                · show Act.put _ (some 77) _ = _
                  simp only [Act.put, List.setIfInBounds_toArray, List.set_cons_zero, List.set_cons_succ, i64_w, i32_w]
                  rfl
                refine one_ (i := 5) (N := some 79) #[true, true, true, true, true, true, true, true, true, true, true, false, false] rfl rfl (one_of HT_.out (by kernel_rfl)) (by decide) (fun K hK => ?_)
                refine Kd.R_append_rows_step (Kd.int .i64) (w0 := W3) W3.heap.size (by rfl) (.tmp 77) (.tmp 78) 24 3 (.int .i64 0) 8 rfl Try.underlying24 infoI rfl (by decide) (by omega) vm [] T _ _ _ (fun _ => True) (fun _ => False) rfl rfl HM.out (Kd.C_below HROW.out HB.out) (fun _ _ h => h) (fun _ h => h.elim) (fun _ _ => trivial) HB.out HB.out.size (by simp; omega) ?_
                intro va w3_ ho hb hg hat
                rw [List.nil_append] at ho
                have nHL := Aside0.mk (Kd.R_mono (Kd.R_after HL.out hg hat) (fun _ _ => trivial))
                have nHA := Aside0.mk (ho)
                have nHB := Aside0.mk (hb)
                try clear HL
                try clear HA
                try clear HB
                have HL := nHL
                clear nHL
                have HA := nHA
                clear nHA
                have HB := nHB
                clear nHB
                clear ho hb hg hat
                refine hK.out _ _ (HCELL.out _ (HQ3.out.bel.trans (HB.out.mono HQ3.out.bel.size))) (fun hHeld => ?_)
                clear hK K
                refine norm_ (a' := ?_) ?_ ?_
                rotate_left
                · show Act.put _ (some 79) _ = _
                  simp only [Act.put, List.setIfInBounds_toArray, List.set_cons_zero, List.set_cons_succ, i64_w, i32_w]
                  rfl
                exact norm_ (by simp only [putAll, Act.put, List.setIfInBounds_toArray, List.set_cons_zero, List.set_cons_succ]) (hCont (vm, va, vl) _ ⟨hHeld, HA.out, HL.out, HB.out⟩)
            rintro ⟨vm, va, vl⟩ W4 ⟨hHeld, HA, HL, HB⟩
            have HA := Aside0.mk HA
            have HL := Aside0.mk HL
            have HB := Aside0.mk HB
            obtain ⟨Al, cl, el⟩ := Kd.R_slice HL.out
            have el : vl = .slice Al [x].length cl := el
            subst el
            refine norm_ (a' := ?_) ?_ ?_
            rotate_left
            · simp only [putAll, Act.put, List.setIfInBounds_toArray, List.set_cons_zero, List.set_cons_succ]
              rfl
            refine one_ (i := 11) (N := some 85) #[true, true, true, true, true, true, true, true, true, true, true, true, false] rfl rfl (one_of HT_.out (by kernel_rfl)) (by decide) (fun K hK => ?_)
            refine Kd.R_append_rows_step (Kd.int .i64) (w0 := W3) W3.heap.size (by rfl) (.tmp 79) (.tmp 84) 24 3 (.int .i64 0) 8 rfl Try.underlying24 infoI rfl (by decide) (by omega) va T [x] _ _ _ (fun _ => True) (fun _ => False) rfl rfl HA.out (Kd.R_reads' HL.out).2.2 (fun _ _ h => h) (fun _ h => h.elim) (fun _ _ => trivial) HB.out HB.out.size (by simp; omega) ?_
            intro v2 W5 ho hb hg hat
            have HQ4 := Aside0.mk (HQ3.out.fresh hb ho)
            clear ho hg hat
            refine hK.out _ _ (HCELL.out _ HQ4.out.bel) (fun hHeld => ?_)
            clear hK K hb
            refine norm_ (a' := ?_) ?_ ?_
            rotate_left
            · show Act.put _ (some 85) _ = _
              simp only [Act.put, List.setIfInBounds_toArray, List.set_cons_zero, List.set_cons_succ, i64_w, i32_w]
              rfl
            refine pure_ (i := 12) (N := some 5) (v := ?_) (a' := ?_) #[true, true, true, true, true, true, true, true, true, true, true, true, true] rfl rfl (any_of HT_.out (by kernel_rfl)) (fun _ _ _ h => h) (Or.inl ⟨by rfl, ?_⟩) ?_ ?_
            rotate_left
            · intro w'
              go_simp
              with_reducible rfl
            rotate_left
            · simp only [Act.put, List.setIfInBounds_toArray, List.set_cons_zero, List.set_cons_succ, i64_w, i32_w]
              rfl
            refine done_ (done_of HT_.out (by kernel_rfl)) ?_
            have HLE := Aside0.mk HQ4.out.len
            obtain ⟨A5, c5, rfl, hlc5⟩ := Kd.Q_slice HQ4.out.own
            go_wp2_with (go_at_call 19; refine HLE.out.mono ?_; rintro e W3 ⟨rfl, hq⟩; have HQ := Aside0.mk hq; clear hq)
            go_round
            case rel => exact ⟨k + 1, n + 1, T ++ [x], by go_num, by omega, by omega, by omega, by have h := HQ.out; rw [List.length_append] at h; exact h⟩
            case measure => simp [intOf]; omega
      · have hke : ¬ ((k : Int) < 200) := by omega
        go_wp2_with (go_at_call 19; refine HL.out.mono ?_; rintro e W2 ⟨rfl, hq⟩; have HQ2 := Aside0.mk hq; clear hq)
        go_ret
        exact ⟨by simp, HQ2.out.bel⟩
    · obtain rfl : k = l0.length := by omega
      go_wp2_with (go_at_call 19; refine HL.out.mono ?_; rintro e W2 ⟨rfl, hq⟩; have HQ2 := Aside0.mk hq; clear hq)
      go_ret
      exact ⟨by simp, HQ2.out.bel⟩
end Go.Proofs.Ytcjbhdocmkpjcaa.Ext
