/- graph.Reached: a queue, a set of what has been met, a row of it. No condition. -/
import Derived.Test.YtondngpmhlemkaaGrC
import Derived.Test.YtondngpmhlemkaaQue
import Derived.Test.YtondngpmhlemkaaReach
import Derived.Deep.LoopGhost
namespace Go.Proofs.Ytondngpmhlemkaa.Ext
open Go.RowKit Go.Proofs.YtondngpmhlemkaaW.PrintWords Go.Proofs.YtondngpmhlemkaaW.PrintLast Go.Proofs.YtondngpmhlemkaaW.PrintMore Go.Proofs.Ytondngpmhlemkaa.Sets Go.Proofs.Ytondngpmhlemkaa.Iter Go.Proofs.Ytondngpmhlemkaa.ISet Go.Proofs.Ytondngpmhlemkaa.Pr Go.Proofs.Ytondngpmhlemkaa.Reach
set_option linter.unusedVariables false
set_option linter.unusedSimpArgs false

theorem ISet.same {P : Program} {K E : TypeId} {W : World} {b n : Nat} {S S' : Int → Bool} (h : ISet P K E W b n S) (hS : ∀ x, S x = S' x) : ISet P K E W b n S' := by
  have : S = S' := funext hS
  rwa [← this]

/-- The queue q, the set of what has been met, the row of it. mp: what the set has; met: what the row has. -/
structure RchI (w : World) (gq gm : Nat) (mp met q : List Int) (n : Nat) (v : Value) (W : World) : Prop where
  qb : QB w W gq q n (fun i => i = gm ∨ v.ownBlock = some i)
  set : MSet W gm mp.length (fun x => decide (x ∈ mp))
  row : OwnI W w.heap.size v met
  ne : v.ownBlock ≠ some gm
  bm : w.heap.size ≤ gm
section
variable {w W W' : World} {gq gm n : Nat} {mp met q : List Int} {v : Value}
theorem RchI.lts (h : RchI w gq gm mp met q n v W) : ∀ i, (i = gm ∨ v.ownBlock = some i) → i < W.heap.size := by
  intro i hi
  rcases hi with rfl | hi
  · exact h.set.lt
  · exact own_lt (Kd.own_of_R h.row) i hi
theorem RchI.quiet (h : RchI w gq gm mp met q n v W) (hc : Chg (fun _ => False) W W') : RchI w gq gm mp met q n v W' :=
  ⟨h.qb.step hc (fun _ h => h.elim) (fun _ h => .inl h), h.set.chg hc (fun h => h), own_chg h.row hc (fun _ _ h => h), h.ne, h.bm⟩
theorem RchI.turned {q' : List Int} {n' : Nat} (h : RchI w gq gm mp met q n v W) (hq : QB w W' gq q' n' (fun i => i = gm ∨ v.ownBlock = some i)) (hc : Chg (fun i => w.heap.size ≤ i ∧ ¬ (i = gm ∨ v.ownBlock = some i)) W W') : RchI w gq gm mp met q' n' v W' :=
  ⟨hq, h.set.chg hc (fun h => h.2 (.inl rfl)), own_chg h.row hc (fun i hi h => h.2 (.inr hi)), h.ne, h.bm⟩
theorem RchI.push (h : RchI w gq gm mp met q n v W) (hn : n < 1000000000000) (x : Int) (hx : wfI x) :
    Calls Try.prog 26 #[.pointer (some ⟨gq, 0, none⟩), .int .i64 x] W fun e W' => (∃ b, e = .returned (.bool b)) ∧ RchI w gq gm mp met (pushL q x) (n + 1) v W' := by
  refine (h.qb.push h.lts hn x hx).mono ?_
  rintro e W' ⟨rfl, hq, hc⟩
  exact ⟨⟨_, rfl⟩, h.turned hq hc⟩
theorem RchI.pop {x : Int} (h : RchI w gq gm mp met (x :: q) n v W) :
    Calls Try.prog 28 #[.pointer (some ⟨gq, 0, none⟩)] W fun e W' => e = .returned (.tuple #[.int .i64 x, .bool true]) ∧ RchI w gq gm mp met q n v W' := by
  refine (h.qb.pop h.lts).mono ?_
  rintro e W' ⟨rfl, hq, hc⟩
  exact ⟨rfl, h.turned hq hc⟩
theorem RchI.length (h : RchI w gq gm mp met q n v W) :
    Calls Try.prog 27 #[.pointer (some ⟨gq, 0, none⟩)] W fun e W' => e = .returned (.int .i64 q.length) ∧ RchI w gq gm mp met q n v W' := by
  refine h.qb.length.mono ?_
  rintro e W' ⟨rfl, hd⟩
  exact ⟨rfl, h.quiet (Chg.of_below hd.below _)⟩
theorem RchI.look (h : RchI w gq gm mp met q n v W) (x : Int) (hx : wfI x) : (Instr.lookup 50 (.map (some gm)) (.int .i64 x) false).run Try.prog W = .ok (.bool (decide (x ∈ mp))) W :=
  h.set.look Try.underlying3 Try.underlying4 Try.underlying50 (Try.zeroValue4 W) x hx
theorem RchI.put (h : RchI w gq gm mp met q n v W) (x : Int) (hx : wfI x) (hl : mp.length < 1000000000000) :
    ∃ W', (Instr.mapUpdate 50 (.map (some gm)) (.int .i64 x) (.bool true)).run Try.prog W = .ok () W' ∧ RchI w gq gm (mp ++ [x]) met q n v W' := by
  obtain ⟨W', hrun, h1, hc⟩ := h.set.put (t := 50) Try.underlying3 Try.underlying4 Try.underlying50 (by simp only [maxLen]; omega) x hx true
  refine ⟨W', hrun, h.qb.step hc (fun i e => .inl ⟨.inl e, by rw [e]; exact h.bm⟩) (fun _ h => .inl h), ?_, own_chg h.row hc (fun i hi e => h.ne (by rw [hi, e])), h.ne, h.bm⟩
  rw [List.length_append]
  refine ISet.same h1 (fun y => ?_)
  by_cases e : y = x
  · subst e; simp
  · rw [if_neg e]; simp [e]
theorem RchI.longer {met' : List Int} {v' : Value} (h : RchI w gq gm mp met q n v W) (hg : W.grownBy W' v.ownBlock) (hO : OwnI W' w.heap.size v' met') (hat : v'.ownBlock = v.ownBlock ∨ ∃ b, v'.ownBlock = some b ∧ W.heap.size ≤ b) : RchI w gq gm mp met' q n v' W' := by
  have hc : Chg (fun i => v.ownBlock = some i) W W' := Chg.of_grown hg
  have hgm := h.set.lt
  refine ⟨h.qb.step hc (fun i e => .inl ⟨.inr e, own_base_lt h.row i e⟩) (fun i hi => ?_), h.set.chg hc h.ne, hO, fun e => ?_, h.bm⟩
  · rcases hi with hi | hi
    · exact .inl (.inl hi)
    · rcases hat with e | ⟨b, e, hb⟩
      · exact .inl (.inr (e ▸ hi))
      · rw [e] at hi; injection hi with hi; exact .inr (by omega)
  · rcases hat with e' | ⟨b, e', hb⟩
    · exact h.ne (e' ▸ e)
    · rw [e'] at e; injection e with e; omega
end

def edgesL (l : List S24) : List (Int × Int) := l.map (fun e => (e.f0, e.f2))
theorem edges_take (l : List S24) (k : Nat) (hk : k < l.length) : (edgesL l).take (k + 1) = (edgesL l).take k ++ [((rd_T24 l (k : Int)).f0, (rd_T24 l (k : Int)).f2)] := by
  unfold edgesL
  rw [← List.map_take, ← List.map_take, List.take_add_one, rdE_at l k hk]
  simp

/-- At the end. -/
def RchPost (w : World) (es : List (Int × Int)) (e : Ending) (w' : World) : Prop := ∃ v : Value, e = .returned v ∧ Kd.V (Kd.int .i64) 3 w' w.heap.size (fun k => w.heap.size ≤ k) v (reachL es) ∧ Below w.heap.size w w'
theorem rch_values {w W : World} {gq gm n : Nat} {mp met : List Int} {v : Value} (h : RchI w gq gm mp met [] n v W) (hl : met.length ≤ 17592186044416) :
    Calls Try.prog 29 #[.func (.func 46) #[] #[.pointer (some ⟨W.heap.size, 0, none⟩)]] (W.alloc (.cells #[v] 27)) fun e W' => ∃ v', e = .returned v' ∧ Kd.V (Kd.int .i64) 3 W' W.heap.size (fun k => W.heap.size ≤ k) v' (sset met) ∧ Below W.heap.size W W' := by
  obtain ⟨A, c, rfl, hlc, hc⟩ := own_slice3 h.row
  obtain ⟨A', c', hv, _, hC⟩ := Kd.R_reads h.row
  injection hv with e1 e2 e3
  subst e1 e3
  have hb : Below W.heap.size W (W.alloc (.cells #[.slice A met.length c] 27)) := (Below.refl _ W).alloc (Nat.le_refl _) _
  have hst : Caps W [(W.heap.size, .slice A met.length c)] (W.alloc (.cells #[.slice A met.length c] 27)) :=
    ⟨hb, fun c hc => by simp at hc; subst hc; exact (cell_of_blk (heap_alloc_new W _)).1⟩
  refine (set_calls (enters_of Try.func46 (by kernel_rfl) rfl) (values1_iter W _ W.heap.size A c met hC (Nat.le_refl _) hst) (Below.refl _ _) (by simp) (fun i hi => by subst hi; simp) hl).mono ?_
  rintro e W' ⟨v', rfl, hV, hB⟩
  exact ⟨v', rfl, Kd.V_mono hV (fun k hk => by simp at hk; omega), hb.trans hB⟩

set_option maxHeartbeats 4000000 in
theorem reached_calls (A : Option Addr) (c : Nat) (l : List S24) (w : World) (hr : Kd.C k24 w A l.length l) (hc : l.length ≤ c) (hl : l.length ≤ 10000) (hwf : ∀ e ∈ l, wfI e.f2) :
    Calls Try.prog 9 #[.slice A l.length c] w (RchPost w (edgesL l)) := by
  have HR := Aside0.mk hr
  have hmm := @run_makeMap Try.prog
  have hel : (edgesL l).length = l.length := by simp [edgesL]
  have HEL := Aside0.mk hel
  have hwe : ∀ x ∈ 0 :: (edgesL l).map (·.2), wfI x := by
    intro x hx
    rcases List.mem_cons.1 hx with rfl | hx
    · decide
    · simp only [edgesL, List.map_map, List.mem_map] at hx
      obtain ⟨e, he, rfl⟩ := hx
      exact hwf e he
  have HWE := Aside0.mk hwe
  clear hr hc hel hwe
  go_enter Try.func9, Try.ntmps9
  go_wp2_with fail
  have hb0 : Below w.heap.size w (w.alloc (.map #[] 0)) := (Below.refl _ w).alloc (Nat.le_refl _) _
  refine (new_qb (R := fun i => i = w.heap.size ∨ (Value.slice none 0 0).ownBlock = some i) hb0 (fun i hi => by rcases hi with rfl | hi; simp; simp [Value.ownBlock] at hi)).mono ?_
  rintro e W1 ⟨gq, rfl, hq, hb⟩
  have HI := Aside0.mk (show RchI w gq w.heap.size [] [] [] 0 (.slice none 0 0) W1 from ⟨hq, (ISet.same (ISet.made w) (fun x => by simp)).chg (Chg.of_below hb (fun _ => False)) (fun h => h), Kd.R_nil _ _ _ _ _, by simp [Value.ownBlock], Nat.le_refl _⟩)
  clear hq hb hb0
  go_wp2_with fail
  refine (HI.out.push (by omega) 0 (by decide)).mono ?_
  rintro e W2 ⟨⟨b, rfl⟩, hi⟩
  have HI2 := Aside0.mk hi
  clear hi HI
  go_wp2
  go_loopg [5] (left (edgesL l) [] [0]) (fun kq v5 W => ∃ (met q : List Int) (n : Nat), kq = left (edgesL l) met q ∧ BInv (edgesL l) met q ∧ n ≤ met.length * l.length + 1 ∧ RchI w gq w.heap.size met met q n v5 W)
  case atStart => exact ⟨[], [0], 1, rfl, BInv.start _, by simp, HI2.out⟩
  case round =>
    clear HI2
    obtain ⟨met, q, n, rfl, hbi, hn, hi⟩ := hrel
    have HI := Aside0.mk hi
    have HBI := Aside0.mk hbi
    have hlens := hbi.lens
    rw [HEL.out] at hlens
    obtain ⟨A5, c5, rfl, hlc5, hc5⟩ := own_slice3 hi.row
    have hmn : met.length * l.length ≤ 10001 * 10000 := Nat.mul_le_mul (by omega) hl
    clear hi hbi
    cases q with
    | nil =>
      have HX := Aside0.mk (sset_reach HBI.out.done)
      go_wp2_with (go_at_call 27; refine HI.out.length.mono ?_; rintro e W3 ⟨rfl, hi⟩; have HI3 := Aside0.mk hi; clear hi)
      clear HI
      refine (values_calls _ _ rfl).mono ?_
      rintro e W4 ⟨rfl, rfl⟩
      go_wp2_with fail
      refine (rch_values HI3.out (by omega)).mono ?_
      rintro e W5 ⟨v', rfl, hV, hB⟩
      have HV := Aside0.mk hV
      have HB := Aside0.mk (HI3.out.qb.bel.trans (hB.mono HI3.out.qb.bel.size))
      have HS := Aside0.mk HI3.out.qb.bel.size
      clear hV hB
      go_wp2_with fail
      go_ret
      exact ⟨_, rfl, by rw [← HX.out]; exact Kd.V_mono HV.out (fun k hk => Nat.le_trans HS.out hk), HB.out⟩
    | cons x q =>
      have hx : wfI x := HWE.out x (HBI.out.uq x (by simp))
      by_cases hm : x ∈ met
      · have HSK := Aside0.mk (HBI.out.skip hm)
        have HM := Aside0.mk (decide_eq_true hm)
        go_wp2_with (first
          | (go_at_call 27; refine HI.out.length.mono ?_; rintro e W3 ⟨rfl, hi⟩; have HI3 := Aside0.mk hi; clear hi)
          | (go_at_call 28; refine HI3.out.pop.mono ?_; rintro e W4 ⟨rfl, hi⟩; have HI4 := Aside0.mk hi; have hlook := hi.look x hx; rw [HM.out] at hlook; clear hi))
        go_roundg (left (edgesL l) met q)
        case measure => exact HSK.out.2
        case rel => exact ⟨met, q, n, rfl, HSK.out.1, hn, HI4.out⟩
      · have HTK := Aside0.mk (HBI.out.take hm)
        have HM := Aside0.mk (decide_eq_false hm)
        go_wp2_with (first
          | (go_at_call 27; refine HI.out.length.mono ?_; rintro e W3 ⟨rfl, hi⟩; have HI3 := Aside0.mk hi; clear hi)
          | (go_at_call 28; refine HI3.out.pop.mono ?_; rintro e W4 ⟨rfl, hi⟩; have HI4 := Aside0.mk hi; have hlook := hi.look x hx; rw [HM.out] at hlook; obtain ⟨W4', hput, hi4⟩ := hi.put x hx (by omega); have HI5 := Aside0.mk hi4; clear hi hi4)
          | ((with_reducible refine gate_builtin (b := .append) rfl ?_); at_builtin; go_loud (refine Kd.R_append (Kd.int .i64) (w0 := W4') w.heap.size rfl _ _ 27 3 (.int .i64 0) 8 rfl Try.underlying27 infoI rfl (by decide) (by decide) (.slice A5 met.length c5) met x [.int .i64 x] (fun _ => True) (fun _ => False) rfl rfl rfl (fun _ hk => hk.elim) (fun _ _ => trivial) HI5.out.row (Below.refl _ _) HI5.out.qb.bel.size (by omega) ?_; rintro v6 W6 hO6 _ hg6 hat6; have HI6 := Aside0.mk (HI5.out.longer hg6 hO6 hat6); clear hO6 hg6 hat6)))
        clear HI HI3 HI4 HI5
        obtain ⟨Wo, hWo⟩ : ∃ Wo : World, Wo = W6 := ⟨_, rfl⟩
        go_loopg [9, 33] l.length (fun jq _ i W => ∃ (j n' : Nat), i = .int .i64 j ∧ j + jq = l.length ∧ n' ≤ met.length * l.length + 1 + j ∧ RchI w gq w.heap.size (met ++ [x]) (met ++ [x]) (pushes x q ((edgesL l).take j)) n' v6 W)
        case atStart => exact ⟨0, n, rfl, by omega, by omega, HI6.out⟩
        case round =>
          clear HI6
          obtain ⟨j, n', rfl, hj, hn', hi⟩ := hrel
          have HI := Aside0.mk hi
          have hbel := hi.qb.bel
          clear hi
          by_cases hlt : j < l.length
          · obtain ⟨ad, rfl, hc0, hc1, hc2⟩ := at_T24 (Kd.C_below HR.out hbel) (j : Int) (by omega) (by omega)
            rw [Int.toNat_natCast] at hc0 hc1 hc2
            have HE := Aside0.mk (edges_take l j hlt)
            have HWF := Aside0.mk (hwf _ (List.mem_of_getElem? (rdE_at l j hlt)))
            clear hbel
            generalize rd_T24 l (j : Int) = y at *
            have HIA := Aside0.mk (HI.out.quiet ((Chg.refl (fun _ => False) wr).alloc (.cells #[.int .i64 y.f0, .int .i64 y.f1, .int .i64 y.f2] 24)))
            by_cases he : y.f0 = x
            · have HF := Aside0.mk (show pushes x q ((edgesL l).take (j + 1)) = pushL (pushes x q ((edgesL l).take j)) y.f2 by rw [HE.out, pushes_snoc, if_pos he])
              subst he
              go_wp2_with (go_at_call 26; refine (HIA.out.push (by omega) y.f2 HWF.out).mono ?_; rintro e W7 ⟨⟨b7, rfl⟩, hi⟩; have HI7 := Aside0.mk hi; clear hi)
              go_roundg (gk - 1)
              case measure => omega
              case rel => exact ⟨j + 1, n' + 1, by go_num, by omega, by omega, by rw [HF.out]; exact HI7.out⟩
            · have HF := Aside0.mk (show pushes x q ((edgesL l).take (j + 1)) = pushes x q ((edgesL l).take j) by rw [HE.out, pushes_snoc, if_neg he])
              have hne : (y.f0 == x) = false := by simpa using he
              go_wp2
              go_roundg (gk - 1)
              case measure => omega
              case rel => exact ⟨j + 1, n', by go_num, by omega, by omega, by rw [HF.out]; exact HIA.out⟩
          · obtain rfl : j = l.length := by omega
            have HF := Aside0.mk (show (edgesL l).take l.length = edgesL l by rw [← HEL.out, List.take_length])
            rw [HF.out] at HI
            obtain ⟨A8, c8, rfl, _, _⟩ := own_slice3 HI.out.row
            have HN := Aside0.mk (show n' ≤ (met ++ [x]).length * l.length + 1 by rw [List.length_append, List.length_singleton, Nat.add_mul]; omega)
            go_wp2
            go_roundg (left (edgesL l) (met ++ [x]) (pushes x q (edgesL l)))
            case measure => exact HTK.out.2
            case rel => exact ⟨met ++ [x], pushes x q (edgesL l), n', rfl, HTK.out.1, HN.out, HI.out⟩

end Go.Proofs.Ytondngpmhlemkaa.Ext
namespace Go.Proofs.Ytondngpmhlemkaa.Gr
open Go.RowKit Go.Proofs.YtondngpmhlemkaaW.PrintWords Go.Proofs.YtondngpmhlemkaaW.PrintLast Go.Proofs.YtondngpmhlemkaaW.PrintMore Go.Proofs.Ytondngpmhlemkaa.Sets Go.Proofs.Ytondngpmhlemkaa.Iter Go.Proofs.Ytondngpmhlemkaa.ISet Go.Proofs.Ytondngpmhlemkaa.Pr Go.Proofs.Ytondngpmhlemkaa.Ext Go.Proofs.Ytondngpmhlemkaa.Reach
set_option linter.unusedVariables false

def graph_Reached.f (l : List S24) : Option (List Int) := if l.length ≤ 10000 ∧ l.all (fun e => (Lit.int .i64 e.f2).wf) = true then some (reachL (edgesL l)) else none
theorem graph_Reached.calls (A0 : Option Addr) (c0 : Nat) (l0 : List S24) (r : List Int) (w : World) (hr0 : Kd.C k24 w A0 l0.length l0) (hc0 : l0.length ≤ c0) (h : graph_Reached.f l0 = some r) :
    Calls Try.prog 9 #[.slice A0 l0.length c0] w fun e w' => ∃ v0_ : Value, e = .returned v0_ ∧ Kd.V (Kd.int .i64) 3 w' w.heap.size (fun k_ => w.heap.size ≤ k_) v0_ r ∧ Below w.heap.size w w' := by
  unfold graph_Reached.f at h
  by_cases hl : l0.length ≤ 10000 ∧ l0.all (fun e => (Lit.int .i64 e.f2).wf) = true
  case neg => rw [if_neg hl] at h; cases h
  rw [if_pos hl] at h
  obtain rfl := Option.some.inj h
  exact reached_calls A0 c0 l0 w hr0 hc0 hl.1 (fun e he => List.all_eq_true.1 hl.2 e he)
end Go.Proofs.Ytondngpmhlemkaa.Gr
