/- bits.both: an iterator over two lists. -/
import Derived.Test.YtcjbhdocmkpjcaaE3
import Derived.Test.YtcjbhdocmkpjcaaIter
import Derived.Sort.LoopGhostIn
namespace Go.Proofs.Ytcjbhdocmkpjcaa.Ext
open Go.RowKit Go.Proofs.YtcjbhdocmkpjcaaW.PrintWords Go.Proofs.YtcjbhdocmkpjcaaW.PrintLast Go.Proofs.Ytcjbhdocmkpjcaa.Pr Go.Proofs.Ytcjbhdocmkpjcaa.Base Go.Proofs.Ytcjbhdocmkpjcaa.Sets Go.Proofs.Ytcjbhdocmkpjcaa.Iter
set_option linter.unusedVariables false
set_option linter.unusedSimpArgs false
attribute [local go_sem] Oper.semAt_some

/-- What is left of b when k numbers of a have been looked at. -/
def restAt (a b : List Int) : Nat → List Int
  | 0 => b
  | k + 1 => (restAt a b k).dropWhile (fun x => decide (x < a.getD k 0))
def isAt (a b : List Int) (k : Nat) : Bool := (restAt a b (k + 1)).head? == some (a.getD k 0)
def bothL (a b : List Int) : List (Int × Bool) := (List.range a.length).map fun k => (a.getD k 0, isAt a b k)
def encIB (x : Int × Bool) : Array Value := #[.int .i64 x.1, .bool x.2]
theorem bothL_length (a b : List Int) : (bothL a b).length = a.length := by simp [bothL]
theorem bothL_at (a b : List Int) (k : Nat) (hk : k < a.length) : (bothL a b)[k]? = some (a.getD k 0, isAt a b k) := by
  simp [bothL, hk]

/-- The iterator's own two variables. -/
structure BothSt (w00 : World) (Ba Bb : Nat) (A : Option Addr) (ca : Nat) (a rest : List Int) (W : World) : Prop where
  below : Below w00.heap.size w00 W
  boxa : W.cell? ⟨Ba, 0, none⟩ = some (.slice A a.length ca)
  boxb : ∃ A' c', W.cell? ⟨Bb, 0, none⟩ = some (.slice A' rest.length c') ∧ rest.length ≤ c' ∧ Kd.C (Kd.int .i64) w00 A' rest.length rest
  free : W.frozen? ⟨Bb, 0, none⟩ = false
  lt : Bb < W.heap.size

theorem BothSt.chg {w00 : World} {Ba Bb : Nat} {A : Option Addr} {ca : Nat} {a rest : List Int} {W W' : World} {O : Nat → Prop} (h : BothSt w00 Ba Bb A ca a rest W) (hc : Chg O W W') (hO : ∀ i, O i → w00.heap.size ≤ i ∧ i ≠ Ba ∧ i ≠ Bb) : BothSt w00 Ba Bb A ca a rest W' := by
  obtain ⟨A', c', h1, h2, h3⟩ := h.boxb
  have hb := hc.block Bb h.lt (fun h => (hO _ h).2.2 rfl)
  refine ⟨h.below.trans (hc.below h.below.size (fun k hk => (hO k hk).1)), hc.cell h.boxa (fun h => (hO _ h).2.1 rfl), ⟨A', c', hc.cell h1 (fun h => (hO _ h).2.2 rfl), h2, h3⟩, ?_, Nat.lt_of_lt_of_le h.lt hc.size⟩
  have := h.free
  simp only [World.frozen?, hb] at this ⊢
  exact this

theorem rest_head {n : Int} {rest : List Int} (h : ∀ x r, rest = x :: r → ¬ x < n) : rest.dropWhile (fun x => decide (x < n)) = rest := by
  cases rest with
  | nil => rfl
  | cons x r => rw [List.dropWhile_cons, if_neg (by simpa using h x r rfl)]

/-- What is so ahead of round k. -/
structure BothRel (w00 : World) (Ba Bb : Nat) (A : Option Addr) (ca : Nat) (a b : List Int) (J : Nat → (Nat → Prop) → World → Prop) (k : Nat) (rest : List Int) (W : World) : Prop where
  st : BothSt w00 Ba Bb A ca a rest W
  own : ∃ O1, J k O1 W ∧ ∀ i, O1 i → w00.heap.size ≤ i ∧ i ≠ Ba ∧ i ≠ Bb

theorem at_getD {w : World} {A : Option Addr} {xs : List Int} (h : Kd.C (Kd.int .i64) w A xs.length xs) (k : Nat) (hk : k < xs.length) : ∃ ad, A = some ad ∧ w.cell? (ad.add k) = some (.int .i64 (xs.getD k 0)) := by
  obtain ⟨ad, e, hc⟩ := Kd.at_int h (k : Int) (by omega) (by omega)
  rw [Int.toNat_natCast] at hc
  unfold rd at hc
  rw [Int.toNat_natCast] at hc
  exact ⟨ad, e, hc⟩
theorem at_head {w : World} {A : Option Addr} {x : Int} {r : List Int} (h : Kd.C (Kd.int .i64) w A (x :: r).length (x :: r)) : ∃ ad, A = some ad ∧ w.cell? ad = some (.int .i64 x) := by
  obtain ⟨ad, e, hc⟩ := at_getD h 0 (by simp)
  exact ⟨ad, e, by simpa [Addr.add] using hc⟩

/-- The store of what is left. -/
theorem BothRel.cut {w00 : World} {Ba Bb : Nat} {A : Option Addr} {ca : Nat} {a b : List Int} {J : Nat → (Nat → Prop) → World → Prop} {k : Nat} {x : Int} {r : List Int} {W : World}
    (h : BothRel w00 Ba Bb A ca a b J k (x :: r) W) (hJ : ∀ k, Abide w00.heap.size (J k)) (hB : w00.heap.size ≤ Ba ∧ w00.heap.size ≤ Bb ∧ Ba ≠ Bb) (A' : Option Addr) (c' : Nat) (hc : r.length ≤ c') (hC : Kd.C (Kd.int .i64) w00 A' r.length r) :
    BothRel w00 Ba Bb A ca a b J k r (W.setCell ⟨Bb, 0, none⟩ (.slice A' r.length c')) := by
  obtain ⟨hs, O1, hj, hd⟩ := h
  obtain ⟨A0, c0, h1, h2, h3⟩ := hs.boxb
  have hch : Chg (fun i => i = Bb) W (W.setCell ⟨Bb, 0, none⟩ (.slice A' r.length c')) := (Chg.refl (fun i => i = Bb) W).setCell (p := ⟨Bb, 0, none⟩) (.inl rfl) _
  refine ⟨⟨hs.below.setCell (p := ⟨Bb, 0, none⟩) hB.2.1 _, hch.cell hs.boxa (fun e => hB.2.2 e), ⟨A', c', World.cell?_setCell_same' _ _ _ (by rw [h1]; rfl), hc, hC⟩, by rw [World.frozen?_setCell]; exact hs.free, by simpa [World.setCell] using hs.lt⟩, O1, hJ k O1 W _ _ hj hch (fun i e => by subst e; exact ⟨hB.2.1, fun ho => (hd _ ho).2.2 rfl⟩), hd⟩

set_option maxHeartbeats 2000000 in
theorem both1_iter (w00 w : World) (Ba Bb : Nat) (A : Option Addr) (ca : Nat) (a b : List Int) (hr : Kd.C (Kd.int .i64) w00 A a.length a) (hca : a.length ≤ ca) (hB : w00.heap.size ≤ Ba ∧ w00.heap.size ≤ Bb ∧ Ba ≠ Bb) (hs : BothSt w00 Ba Bb A ca a b w) :
    IterOK Try.prog 48 #[.pointer (some ⟨Ba, 0, none⟩), .pointer (some ⟨Bb, 0, none⟩)] encIB (bothL a b) w00.heap.size (fun i => i = Ba ∨ i = Bb) w := by
  intro l J Jx O W hcW hO hJ hY h0
  have hs0 : BothSt w00 Ba Bb A ca a b W := hs.chg hcW (fun i hi => ⟨(hO i hi.1).2, fun e => (hO i hi.1).1 (.inl e), fun e => (hO i hi.1).1 (.inr e)⟩)
  have hdis0 : ∀ i, O i → w00.heap.size ≤ i ∧ i ≠ Ba ∧ i ≠ Bb := fun i hi => ⟨(hO i hi).2, fun e => (hO i hi).1 (.inl e), fun e => (hO i hi).1 (.inr e)⟩
  have HREL := Aside0.mk (show BothRel w00 Ba Bb A ca a b J 0 b W from ⟨hs0, O, h0, hdis0⟩)
  have HY := Aside0.mk hY
  have HJ := Aside0.mk hJ
  have HR := Aside0.mk hr
  have HB := Aside0.mk hB
  have hm : a.length ≤ 9223372036854775807 := hr.2.1
  have hboxa := hs0.boxa
  clear hY hJ h0 hs0 hdis0 hr hB hs hcW hO
  refine (callsIn_wide (n := 0)).1 ?_
  refine callsIn_of_wp Try.func48 rfl trivial ?_ rfl
  simp only [Try.ntmps48, List.size_toArray, List.length_cons, List.length_nil, Nat.reduceAdd, Nat.reduceSub, Array.replicate_succ, Array.replicate_zero, List.push_toArray, List.append_toArray, List.nil_append, List.cons_append]
  gi_wp2
  gi_loopg [5, 8] a.length (fun kq v5 v8 w' => ∃ k : Nat, v8 = .int .i64 k ∧ k + kq = a.length ∧ BothRel w00 Ba Bb A ca a b J k (restAt a b k) w')
  case atStart => exact ⟨0, rfl, by omega, HREL.out⟩
  case round =>
    clear HREL hboxa
    obtain ⟨g1, hg1⟩ : ∃ g, g = gk := ⟨_, rfl⟩
    subst hg1
    obtain ⟨k, rfl, hk, hrel⟩ := hrel
    by_cases hlt : k < a.length
    · obtain ⟨ad, rfl, hcell⟩ := at_getD (Kd.C_below HR.out hrel.st.below) k hlt
      have HL := Aside0.mk hrel
      have hxk := bothL_at a b k hlt
      have HX := Aside0.mk hxk
      have HN := Aside0.mk (show restAt a b (k + 1) = (restAt a b k).dropWhile (fun x => decide (x < a.getD k 0)) from rfl)
      have HI := Aside0.mk (show isAt a b k = ((restAt a b (k + 1)).head? == some (a.getD k 0)) from rfl)
      clear hxk hrel
      generalize a.getD k 0 = n at *
      generalize isAt a b k = isk at *
      obtain ⟨nxt, hnxt⟩ : ∃ z, z = restAt a b (k + 1) := ⟨_, rfl⟩
      rw [← hnxt] at HN HI
      have HNX0 := Aside0.mk hnxt
      clear hnxt
      gi_wp2
      gi_loopg [21] (restAt a b k).length (fun mq _ w' => ∃ rest : List Int, rest.length ≤ mq ∧ Aside0 (nxt = rest.dropWhile (fun x => decide (x < n))) ∧ BothRel w00 Ba Bb (some ad) ca a b J k rest w')
      case atStart => exact ⟨_, Nat.le_refl _, HN, HL.out⟩
      case round =>
        clear hcell
        obtain ⟨rest, hle, HNX, hrel⟩ := hrel
        obtain ⟨O1, hj, hd⟩ := hrel.own
        obtain ⟨A', c', hb1, hb2, hb3⟩ := hrel.st.boxb
        have hfr := hrel.st.free
        have HRel := Aside0.mk hrel
        have HD := Aside0.mk hd
        have Hb3 := Aside0.mk hb3
        clear hrel hd hb3
        have hyl := HY.out k (n, isk) O1 _ HX.out hj
        have HQ := Aside0.mk hj
        clear hj
        -- what stands behind the call of yield
        have hgo : ∀ (W' : World) (O2 : Nat → Prop), (∀ i, O2 i → O1 i ∨ wr.heap.size ≤ i) → J (k + 1) O2 W' → Chg O1 wr W' → rest = nxt → BothRel w00 Ba Bb (some ad) ca a b J (k + 1) nxt W' := by
          rintro W' O2 hO2 hJ2 hc rfl
          exact ⟨HRel.out.st.chg hc HD.out, O2, hJ2, fun i hi => (hO2 i hi).elim (HD.out i) (fun h => ⟨Nat.le_trans HRel.out.st.below.size h, by have := HRel.out.st.lt; have := World.block_lt_of_cell? wr _ HRel.out.st.boxa; simp at this; omega, by have := HRel.out.st.lt; omega⟩)⟩
        have HG := Aside0.mk hgo
        clear hgo
        have hlt' : k < a.length := hlt
        cases rest with
        | nil =>
          have hn : nxt = [] := HNX.out
          have hi := HI.out
          rw [hn] at hi
          obtain rfl : isk = false := hi
          obtain ⟨fn, tmps, asg, bdy, hy, hR⟩ := hyl
          dsimp only [encIB] at hy
          simp only [List.length_nil] at hb1
          have HR2 := Aside0.mk hR
          clear hR
          gi_wp2
          refine ⟨rfl, HR2.out.mono ?_⟩
          rintro e W' (⟨rfl, ⟨O2, hO2, hJ2⟩, hc⟩ | ⟨rfl, hx⟩)
          · have HG2 := Aside0.mk (HG.out W' O2 hO2 hJ2 hc hn.symm)
            clear hO2 hJ2 hc hy hb1 hfr
            gi_wp2
            gi_roundg (g1 - 1)
            case measure => omega
            case rel => exact ⟨k + 1, by go_num, by omega, by rw [← HNX0.out]; exact HG2.out⟩
          · gi_wp2
            refine bodyPost_ret (results_none rfl _ _ _) rfl ?_
            exact ⟨⟨_, rfl⟩, .inr ⟨k, by rw [bothL_length]; exact hlt, hx⟩⟩
        | cons x r =>
          obtain ⟨ad2, rfl, hcx⟩ := at_head (Kd.C_below Hb3.out HRel.out.st.below)
          by_cases hxn : x < n
          · -- on
            have hlc : (x :: r).length ≤ c' := hb2
            have hcd := Kd.C_drop (m := 1) Hb3.out (by simp) hlc
            have hl1 : (x :: r).drop 1 = r := rfl
            rw [hl1] at hcd
            by_cases hc1 : c' = 1
            · subst hc1
              rw [if_pos rfl] at hcd
              have HC2 := Aside0.mk (HRel.out.cut HJ.out HB.out _ 0 (by have h1 : (x :: r).length = r.length + 1 := rfl; omega) hcd)
              simp only [List.length_cons] at hb1 hle
              clear hcd hyl hlc hb2 hl1
              gi_wp2
              gi_roundg r.length
              case measure => omega
              case rel => exact ⟨r, Nat.le_refl _, ⟨by rw [HNX.out, List.dropWhile_cons, if_pos (decide_eq_true hxn)]⟩, HC2.out⟩
            · rw [if_neg hc1] at hcd
              have HC2 := Aside0.mk (HRel.out.cut HJ.out HB.out (some ⟨ad2.block, ad2.off + 1, none⟩) (c' - 1) (by have h1 : (x :: r).length = r.length + 1 := rfl; omega) hcd)
              simp only [List.length_cons] at hb1 hle
              clear hcd hyl hlc hl1
              simp only [List.length_cons] at hb2
              gi_wp2
              gi_roundg r.length
              case measure => omega
              case rel => exact ⟨r, Nat.le_refl _, ⟨by rw [HNX.out, List.dropWhile_cons, if_pos (decide_eq_true hxn)]⟩, HC2.out⟩
          · -- stop
            have hn : nxt = x :: r := by rw [HNX.out, List.dropWhile_cons, if_neg (by simpa using hxn)]
            have hi := HI.out
            rw [hn] at hi
            have hi2 : isk = (x == n) := by rw [hi]; simp
            simp only [List.length_cons] at hb1
            by_cases he : x = n
            · subst he
              obtain rfl : isk = true := by rw [hi2]; simp
              clear hi hi2
              obtain ⟨fn, tmps, asg, bdy, hy, hR⟩ := hyl
              dsimp only [encIB] at hy
              have HR2 := Aside0.mk hR
              have HNN := Aside0.mk hn
              clear hR hn
              gi_wp2
              refine ⟨rfl, HR2.out.mono ?_⟩
              rintro e W' (⟨rfl, ⟨O2, hO2, hJ2⟩, hc⟩ | ⟨rfl, hx⟩)
              · have HG2 := Aside0.mk (HG.out W' O2 hO2 hJ2 hc HNN.out.symm)
                clear hO2 hJ2 hc hy hb1 hfr hcx
                gi_wp2
                gi_roundg (g1 - 1)
                case measure => omega
                case rel => exact ⟨k + 1, by go_num, by omega, by rw [← HNX0.out]; exact HG2.out⟩
              · gi_wp2
                refine bodyPost_ret (results_none rfl _ _ _) rfl ?_
                exact ⟨⟨_, rfl⟩, .inr ⟨k, by rw [bothL_length]; exact hlt', hx⟩⟩
            · have hne : (x == n) = false := by simpa using he
              obtain rfl : isk = false := by rw [hi2]; exact hne
              clear hi hi2
              obtain ⟨fn, tmps, asg, bdy, hy, hR⟩ := hyl
              dsimp only [encIB] at hy
              have HR2 := Aside0.mk hR
              have HNN := Aside0.mk hn
              clear hR hn
              gi_wp2
              refine ⟨rfl, HR2.out.mono ?_⟩
              rintro e W' (⟨rfl, ⟨O2, hO2, hJ2⟩, hc⟩ | ⟨rfl, hx⟩)
              · have HG2 := Aside0.mk (HG.out W' O2 hO2 hJ2 hc HNN.out.symm)
                clear hO2 hJ2 hc hy hb1 hfr hcx
                gi_wp2
                gi_roundg (g1 - 1)
                case measure => omega
                case rel => exact ⟨k + 1, by go_num, by omega, by rw [← HNX0.out]; exact HG2.out⟩
              · gi_wp2
                refine bodyPost_ret (results_none rfl _ _ _) rfl ?_
                exact ⟨⟨_, rfl⟩, .inr ⟨k, by rw [bothL_length]; exact hlt', hx⟩⟩
    · obtain rfl : k = a.length := by omega
      have HF := Aside0.mk hrel
      clear hrel
      gi_wp2
      go_end0
      obtain ⟨O1, hj, _⟩ := HF.out.own
      exact ⟨⟨_, rfl⟩, .inl ⟨O1, by rw [bothL_length]; exact hj⟩⟩

end Go.Proofs.Ytcjbhdocmkpjcaa.Ext
