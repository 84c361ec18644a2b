/- graph.Entered, Callers: their iterators; slices.Values; the contracts of Callees, Entered, Callers. No condition. -/
import Derived.Test.YtondngpmhlemkaaGrB
namespace Go.Proofs.Ytondngpmhlemkaa.Ext
open Go.RowKit Go.Proofs.YtondngpmhlemkaaW.PrintWords Go.Proofs.YtondngpmhlemkaaW.PrintLast Go.Proofs.YtondngpmhlemkaaW.PrintMore Go.Proofs.Ytondngpmhlemkaa.Sets Go.Proofs.Ytondngpmhlemkaa.Iter Go.Proofs.Ytondngpmhlemkaa.Pr
set_option linter.unusedVariables false
set_option linter.unusedSimpArgs false
attribute [local go_sem] Oper.semAt_some

/-- What an iterator has captured. -/
structure Caps (w00 : World) (cs : List (Nat × Value)) (W : World) : Prop where
  below : Below w00.heap.size w00 W
  cells : ∀ c ∈ cs, W.cell? ⟨c.1, 0, none⟩ = some c.2
theorem Caps.chg {w00 : World} {cs : List (Nat × Value)} {W W' : World} {T : Nat → Prop} (h : Caps w00 cs W) (hc : Chg T W W') (hT : ∀ i, T i → w00.heap.size ≤ i ∧ ∀ c ∈ cs, i ≠ c.1) : Caps w00 cs W' :=
  ⟨h.below.trans (hc.below h.below.size (fun k hk => (hT k hk).1)), fun c hcs => hc.cell (h.cells c hcs) (fun ht => (hT _ ht).2 c hcs rfl)⟩
theorem Caps.at {w00 : World} {cs : List (Nat × Value)} {W : World} (h : Caps w00 cs W) {g : Nat} {v : Value} (hm : (g, v) ∈ cs) : W.cell? ⟨g, 0, none⟩ = some v := h.cells _ hm
structure CapsRel {α : Type} (w00 : World) (cs : List (Nat × Value)) (J : Nat → (Nat → Prop) → World → Prop) (n : Nat) (W : World) : Prop where
  st : Caps w00 cs W
  own : ∃ O1, J n O1 W ∧ ∀ i, O1 i → w00.heap.size ≤ i ∧ (∀ c ∈ cs, i ≠ c.1) ∧ i < W.heap.size

set_option maxHeartbeats 2000000 in
theorem entered1_iter (w00 w : World) (Bl : Nat) (A : Option Addr) (ca : Nat) (l : List S49) (hr : Kd.C k49 w00 A l.length l) (hB : w00.heap.size ≤ Bl) (hs : Caps w00 [(Bl, .slice A l.length ca)] w) :
    IterOK Try.prog 35 #[.pointer (some ⟨Bl, 0, none⟩)] encI (enteredL l) w00.heap.size (fun i => i = Bl) w := by
  intro y J Jx O W hcW hO hJ hJx hY h0
  have hs0 : Caps w00 [(Bl, .slice A l.length ca)] W := hs.chg hcW (fun i hi => ⟨(hO i hi.1).2.1, fun c hc => by simp at hc; subst hc; exact (hO i hi.1).1⟩)
  have hboxl := hs0.at (g := Bl) (v := .slice A l.length ca) (by simp)
  have hltl := World.block_lt_of_cell? W _ hboxl
  have hsz := hs0.below.size
  simp only at hltl
  refine (callsIn_wide (n := 0)).1 ?_
  refine callsIn_of_wp_marks Try.func35 rfl trivial ?_ rfl
  simp only [Try.ntmps35, List.size_toArray, List.length_cons, List.length_nil, Nat.reduceAdd, Nat.reduceSub, Array.replicate_succ, Array.replicate_zero, List.push_toArray, List.append_toArray, List.nil_append, List.cons_append]
  have hdep : Fence.wide.depth = none := rfl
  have hfns : ∀ f, Fence.wide.fn f := fun _ => trivial
  have HO := Aside0.mk hO
  have HY := Aside0.mk hY
  have HJ := Aside0.mk hJ
  have HJx := Aside0.mk hJx
  have HR := Aside0.mk hr
  have HS := Aside0.mk hs0
  clear hO hY hJ hJx hr hs hs0 hcW
  gi_wp2_with (gi_at_call 34; refine (callsIn_wide.2 (told_calls _ _ _ rfl)).mono ?_; rintro e w' ⟨rfl, rfl⟩)
  obtain ⟨W3, hW3⟩ : ∃ W3, ((W.alloc (.cells #[.func (.yield y) #[] #[]] 53)).alloc (.cells #[.slice A l.length ca] 35)).alloc (.cells #[.int .i64 6] 3) = W3 := ⟨_, rfl⟩
  have hc3 : Chg (fun _ => False) W W3 := by rw [← hW3]; exact (((Chg.refl _ W).alloc _).alloc _).alloc _
  have hs3 : W3.heap.size = W.heap.size + 3 := by rw [← hW3]; simp
  have hy3 : W3.cell? ⟨W.heap.size, 0, none⟩ = some (.func (.yield y) #[] #[]) := by
    rw [← hW3]
    exact (cell_of_blk (t := 53) (by simp only [alloc_at, World.size_alloc]; simp (disch := omega) [if_pos, if_neg])).1
  have ht3 : ToldSt w00 (W.heap.size + 1) (W.heap.size + 2) A ca l 6 W3 := by
    refine ⟨HS.out.below.trans (hc3.below hsz (fun i h => h.elim)), ?_, ?_⟩
    · rw [← hW3]
      exact (cell_of_blk (t := 35) (by simp only [alloc_at, World.size_alloc]; simp (disch := omega) [if_pos, if_neg])).1
    · rw [← hW3]
      exact (cell_of_blk (t := 3) (by simp only [alloc_at, World.size_alloc]; simp (disch := omega) [if_pos, if_neg])).1
  have hit := told1_iter w00 W3 (W.heap.size + 1) (W.heap.size + 2) A ca l 6 HR.out (by omega) ht3
  have hst : HandOn w00.heap.size J [(W.heap.size, .func (.yield y) #[] #[])] 0 (fun i => O i ∨ i ∈ ([(W.heap.size, .func (.yield y) #[] #[])] : List (Nat × Value)).map (·.1)) W3 := by
    refine HandOn.start (HJ.out 0 O W W3 _ h0 hc3 (fun i h => h.elim)) (fun i hi => ⟨(HO.out i hi).2.1, fun hm => ?_⟩) (fun c hc => ?_)
    · simp at hm
      have := (HO.out i hi).2.2; omega
    · simp at hc
      subst hc
      exact hy3
  rw [hW3]
  clear hW3 ht3 hy3 h0 hboxl
  refine wp_rangeFunc_go (gf := 47) (lb := #[.pointer (some ⟨W.heap.size + 1, 0, none⟩), .pointer (some ⟨W.heap.size + 2, 0, none⟩)]) rfl (enters_of Try.func47 (by kernel_rfl) rfl) hit (fun _ => rfl)
    _ (by omega) (fun i hi => ?_) (fun i hi => by rcases hi with rfl | rfl <;> omega) (Chg.refl _ _)
    (fun k => HandOn w00.heap.size J [(W.heap.size, .func (.yield y) #[] #[])] k) (fun c _ => HandX Jx (enteredL l).length c)
    (fun k => HandOn.abide HJ.out _ _) (fun c k => HandX.abide HJx.out _ c) hst ?round ?done ?stop
  · simp at hi
    rcases hi with hi | hi
    · have := HO.out i hi
      exact ⟨this.2.1, by omega, by omega⟩
    · subst hi; exact ⟨by omega, by omega, by omega⟩
  case stop =>
    rintro D k c O1 W4 hD hnD hk ⟨rfl, n, Oj, hn, hx, hOj⟩ hK
    gi_wp2
    refine ⟨by simp, .inl ⟨_, _, rfl, run_takeDeferred hK, ?_⟩⟩
    exact ⟨_, results_none rfl _ _ _, ⟨_, rfl⟩, .inr ⟨n, Oj, hn, HJx.out n Oj W4 _ (fun i => i = D) hx (Chg.put1 _ _ _) (fun i e => by subst e; exact ⟨by omega, fun h => hnD (hOj _ h)⟩)⟩⟩
  case round =>
    intro l0 k x O1 W4 K hx hi hb hK
    dsimp only [encF]
    gi_wp2
    refine hK _ _ _ ((Chg.refl _ _).alloc _) (grow_alloc hb _) (hi.alloc HJ.out _) ?_
    have hn4 := heap_alloc_new W4 (.cells #[.int .i64 x.f0, .int .i64 x.f1, .string x.f2, .int .i64 x.f3] 49)
    have HX := Aside0.mk hx
    clear hi hK hb hx
    intro l1 T Wb hc hT hOb hll hnl hrec hi
    have hn5 := hc.blk hn4 (fun ht => (hT _ ht).2 (.inr rfl))
    have hf1 : Wb.cell? ⟨W4.heap.size, 1, none⟩ = some (.int .i64 x.f1) := by simp [World.cell?, hn5]
    have hcy := hi.cell (g := W.heap.size) (v := .func (.yield y) #[] #[]) (by simp)
    have HI := Aside0.mk hi
    clear hi hn4 hn5 hrec hT hc hnl
    have hxn : (enteredL l)[k]? = some x.f1 := by unfold enteredL; rw [List.getElem?_map, HX.out]; rfl
    have hyl := HI.out.call (y := y) (args := #[.int .i64 x.f1]) (Jx := Jx) (N := (enteredL l).length) hOb (fun Oj hj hOj => HY.out _ x.f1 Oj Wb hxn hj hOj) (List.getElem?_eq_some_iff.1 hxn).1 (by have := World.block_lt_of_cell? Wb _ hcy; simp at this; omega)
    obtain ⟨fn, tmps, asg, bdy, hy, hR⟩ := hyl
    have HR2 := Aside0.mk hR
    clear hR hxn
    gi_wp2
    refine RoundIn.mono (F := Fence.wide.inRound l1) HR2.out ?_
    rintro e W' (⟨rfl, hr⟩ | ⟨rfl, hr⟩)
    · have HG := Aside0.mk hr
      clear hr hy hf1 hcy
      gi_wp2
      exact HG.out
    · have HG := Aside0.mk hr
      clear hr hy hf1 hcy
      gi_wp2
      exact HG.out
  case done =>
    intro D O1 W4 hD hnD hi hK
    have hl : (toldL l 6).length = (enteredL l).length := by simp [enteredL]
    rw [hl] at hi
    obtain ⟨Oj, hj, hOj⟩ := hi.out
    gi_wp2
    refine ⟨by simp, .inl ⟨_, _, rfl, run_takeDeferred hK, ?_⟩⟩
    exact ⟨_, results_none rfl _ _ _, ⟨_, rfl⟩, .inl ⟨Oj, HJ.out _ Oj W4 _ (fun i => i = D) hj (Chg.put1 _ _ _) (fun i e => by subst e; exact ⟨by omega, fun h => hnD (hOj _ h)⟩)⟩⟩

/-! ### Callers -/
def callerOf (fun_ : Int) (e : S24) : Option Int := if e.f2 = fun_ then some e.f1 else none
def callersL (l : List S24) (fun_ : Int) : List Int := l.filterMap (callerOf fun_)
theorem rdE_at (l : List S24) (k : Nat) (hk : k < l.length) : l[k]? = some (rd_T24 l (k : Int)) := by
  unfold rd_T24
  rw [Int.toNat_natCast, List.getD_eq_getElem?_getD, List.getElem?_eq_getElem hk]
  rfl

set_option maxHeartbeats 2000000 in
theorem callers1_iter (w00 w : World) (Bl Bk : Nat) (A : Option Addr) (ca : Nat) (l : List S24) (kind : Int) (hr : Kd.C k24 w00 A l.length l) (hB : w00.heap.size ≤ Bl ∧ w00.heap.size ≤ Bk) (hs : Caps w00 [(Bl, .slice A l.length ca), (Bk, .int .i64 kind)] w) :
    IterOK Try.prog 32 #[.pointer (some ⟨Bl, 0, none⟩), .pointer (some ⟨Bk, 0, none⟩)] encI (callersL l kind) w00.heap.size (fun i => i = Bl ∨ i = Bk) w := by
  intro y J Jx O W hcW hO hJ hJx hY h0
  have hs0 : Caps w00 [(Bl, .slice A l.length ca), (Bk, .int .i64 kind)] W := hs.chg hcW (fun i hi => ⟨(hO i hi.1).2.1, fun c hc => by simp at hc; rcases hc with rfl | rfl; exact fun e => (hO i hi.1).1 (.inl e); exact fun e => (hO i hi.1).1 (.inr e)⟩)
  have HREL := Aside0.mk (show CapsRel (α := Unit) w00 [(Bl, .slice A l.length ca), (Bk, .int .i64 kind)] J ((l.take 0).filterMap (callerOf kind)).length W from ⟨hs0, O, h0, fun i hi => ⟨(hO i hi).2.1, fun c hc => by simp at hc; rcases hc with rfl | rfl; exact fun e => (hO i hi).1 (.inl e); exact fun e => (hO i hi).1 (.inr e), (hO i hi).2.2⟩⟩)
  have HY := Aside0.mk hY
  have HJ := Aside0.mk hJ
  have HR := Aside0.mk hr
  have hm : l.length ≤ 9223372036854775807 := hr.2.1
  have hboxl := hs0.at (g := Bl) (v := .slice A l.length ca) (by simp)
  clear hY hJ hJx h0 hs0 hr hs hcW hO
  refine (callsIn_wide (n := 0)).1 ?_
  refine callsIn_of_wp Try.func32 rfl trivial ?_ rfl
  simp only [Try.ntmps32, List.size_toArray, List.length_cons, List.length_nil, Nat.reduceAdd, Nat.reduceSub, Array.replicate_succ, Array.replicate_zero, List.push_toArray, List.append_toArray, List.nil_append, List.cons_append]
  gi_wp2
  gi_loopg [5, 8] l.length (fun kq v5 v8 w' => ∃ k : Nat, v8 = .int .i64 k ∧ k + kq = l.length ∧ CapsRel (α := Unit) w00 [(Bl, .slice A l.length ca), (Bk, .int .i64 kind)] J ((l.take k).filterMap (callerOf kind)).length w')
  case atStart => exact ⟨0, rfl, by omega, HREL.out⟩
  case round =>
    clear HREL hboxl
    obtain ⟨k, rfl, hk, hrel⟩ := hrel
    by_cases hlt : k < l.length
    · obtain ⟨ad, rfl, hc0, hc1, hc2⟩ := at_T24 (Kd.C_below HR.out hrel.st.below) (k : Int) (by omega) (by omega)
      rw [Int.toNat_natCast] at hc0 hc1 hc2
      have HX := Aside0.mk (rdE_at l k hlt)
      obtain ⟨O1, hj, hd⟩ := hrel.own
      have hboxk := hrel.st.at (g := Bk) (v := .int .i64 kind) (by simp)
      have hboxl := hrel.st.at (g := Bl) (v := .slice (some ad) l.length ca) (by simp)
      have HL := Aside0.mk hrel
      have HD := Aside0.mk hd
      clear hrel hd
      generalize rd_T24 l (k : Int) = x at *
      have hja := HJ.out _ _ _ (wr.alloc (.cells #[.int .i64 x.f0, .int .i64 x.f1, .int .i64 x.f2] 24)) (fun _ => False) hj ((Chg.refl _ _).alloc _) (fun i h => h.elim)
      have hsa := HL.out.st.chg ((Chg.refl (fun _ => False) wr).alloc (.cells #[.int .i64 x.f0, .int .i64 x.f1, .int .i64 x.f2] 24)) (fun i h => h.elim)
      have hbk2 := hsa.at (g := Bk) (v := .int .i64 kind) (by simp)
      have Hlt := Aside0.mk (show Bl < wr.heap.size ∧ Bk < wr.heap.size from ⟨World.block_lt_of_cell? wr _ hboxl, World.block_lt_of_cell? wr _ hboxk⟩)
      by_cases he : x.f2 = kind
      · have hox : callerOf kind x = some x.f1 := by unfold callerOf; rw [if_pos he]
        have hyl := HY.out _ x.f1 O1 _ (fm_at (callerOf kind) HX.out hox) hja (fun i hi => by have := (HD.out i hi).2.2; simp; omega)
        have HSA := Aside0.mk hsa
        have HF := Aside0.mk (show (l.take (k + 1)).filterMap (callerOf kind) = (l.take k).filterMap (callerOf kind) ++ [x.f1] by rw [fm_take _ HX.out, hox]; rfl)
        have HKL := Aside0.mk (List.getElem?_eq_some_iff.1 (fm_at (callerOf kind) HX.out hox)).1
        obtain ⟨fn, tmps, asg, bdy, hy, hR⟩ := hyl
        dsimp only [encI] at hy
        have HR2 := Aside0.mk hR
        clear hR hj hja hsa hox
        subst he
        gi_wp2
        refine ⟨rfl, HR2.out.mono ?_⟩
        rintro e W' (⟨rfl, ⟨O2, hO2, hJ2⟩, hc⟩ | ⟨rfl, ⟨O2, hO2, hx⟩, hc⟩)
        · have HG := Aside0.mk (show CapsRel (α := Unit) w00 [(Bl, .slice (some ad) l.length ca), (Bk, .int .i64 x.f2)] J ((l.take (k + 1)).filterMap (callerOf x.f2)).length W' from ⟨HSA.out.chg hc (fun i hi => ⟨(HD.out i hi).1, (HD.out i hi).2.1⟩), O2, by rw [HF.out, List.length_append]; exact hJ2, fun i hi => (hO2 i hi).1.elim (fun h => ⟨(HD.out i h).1, (HD.out i h).2.1, (hO2 i hi).2⟩) (fun h => by
            have h0 := (hO2 i hi).2
            have h1 := HL.out.st.below.size
            have h2 := Hlt.out
            simp at h
            refine ⟨by omega, fun c hc => ?_, h0⟩
            simp at hc
            rcases hc with rfl | rfl <;> simp only <;> omega)⟩)
          clear hO2 hJ2 hc hy hc0 hc1 hc2 hboxk hbk2 hboxl
          gi_wp2
          gi_roundg (gk - 1)
          case measure => omega
          case rel => exact ⟨k + 1, by go_num, by omega, HG.out⟩
        · gi_wp2
          refine bodyPost_ret (results_none rfl _ _ _) rfl ?_
          exact ⟨⟨_, rfl⟩, .inr ⟨_, O2, HKL.out, hx⟩⟩
      · have hox : callerOf kind x = none := by unfold callerOf; rw [if_neg he]
        have HG := Aside0.mk (show CapsRel (α := Unit) w00 [(Bl, .slice (some ad) l.length ca), (Bk, .int .i64 kind)] J ((l.take (k + 1)).filterMap (callerOf kind)).length (wr.alloc (.cells #[.int .i64 x.f0, .int .i64 x.f1, .int .i64 x.f2] 24)) from ⟨hsa, O1, by
          have : (l.take (k + 1)).filterMap (callerOf kind) = (l.take k).filterMap (callerOf kind) := by rw [fm_take _ HX.out, hox]; simp
          rw [this]; exact hja, fun i hi => ⟨(HD.out i hi).1, (HD.out i hi).2.1, by have := (HD.out i hi).2.2; simp; omega⟩⟩)
        have hne : (x.f2 == kind) = false := by simpa using he
        clear hj hja hsa hox
        gi_wp2
        refine ⟨(fun f h => (by cases h)), ?_⟩
        gi_wp2
        gi_roundg (gk - 1)
        case measure => omega
        case rel => exact ⟨k + 1, by go_num, by omega, HG.out⟩
    · obtain rfl : k = l.length := by omega
      have HF := Aside0.mk hrel
      clear hrel
      gi_wp2
      go_end0
      obtain ⟨O1, hj, _⟩ := HF.out.own
      rw [List.take_length] at hj
      exact ⟨⟨_, rfl⟩, .inl ⟨O1, hj⟩⟩

/-! ### slices.Values -/
theorem values_calls (va : Value) (w : World) (h1 : va.oneCell' = true) :
    Calls Try.prog 30 #[va] w fun e w' => e = .returned (.func (.func 46) #[] #[.pointer (some ⟨w.heap.size, 0, none⟩)]) ∧ w' = w.alloc (.cells #[va] 27) := by
  go_enter Try.func30, Try.ntmps30
  go_wp2
  go_ret
  exact ⟨rfl, rfl⟩

set_option maxHeartbeats 2000000 in
theorem values1_iter (w00 w : World) (Bl : Nat) (A : Option Addr) (ca : Nat) (l : List Int) (hr : Kd.C (Kd.int .i64) w00 A l.length l) (hB : w00.heap.size ≤ Bl) (hs : Caps w00 [(Bl, .slice A l.length ca)] w) :
    IterOK Try.prog 46 #[.pointer (some ⟨Bl, 0, none⟩)] encI l w00.heap.size (fun i => i = Bl) w := by
  intro y J Jx O W hcW hO hJ hJx hY h0
  have hs0 : Caps w00 [(Bl, .slice A l.length ca)] W := hs.chg hcW (fun i hi => ⟨(hO i hi.1).2.1, fun c hc => by simp at hc; subst hc; exact (hO i hi.1).1⟩)
  have HREL := Aside0.mk (show CapsRel (α := Unit) w00 [(Bl, .slice A l.length ca)] J 0 W from ⟨hs0, O, h0, fun i hi => ⟨(hO i hi).2.1, fun c hc => by simp at hc; subst hc; exact (hO i hi).1, (hO i hi).2.2⟩⟩)
  have HY := Aside0.mk hY
  have HJ := Aside0.mk hJ
  have HR := Aside0.mk hr
  have hm : l.length ≤ 9223372036854775807 := hr.2.1
  have hboxl := hs0.at (g := Bl) (v := .slice A l.length ca) (by simp)
  clear hY hJ hJx h0 hs0 hr hs hcW hO
  refine (callsIn_wide (n := 0)).1 ?_
  refine callsIn_of_wp Try.func46 rfl trivial ?_ rfl
  simp only [Try.ntmps46, List.size_toArray, List.length_cons, List.length_nil, Nat.reduceAdd, Nat.reduceSub, Array.replicate_succ, Array.replicate_zero, List.push_toArray, List.append_toArray, List.nil_append, List.cons_append]
  gi_wp2
  gi_loopg [4, 7] l.length (fun kq v5 v8 w' => ∃ k : Nat, v8 = .int .i64 k ∧ k + kq = l.length ∧ CapsRel (α := Unit) w00 [(Bl, .slice A l.length ca)] J k w')
  case atStart => exact ⟨0, rfl, by omega, HREL.out⟩
  case round =>
    clear HREL hboxl
    obtain ⟨k, rfl, hk, hrel⟩ := hrel
    by_cases hlt : k < l.length
    · obtain ⟨ad, rfl, hc0⟩ := Kd.at_int (Kd.C_below HR.out hrel.st.below) (k : Int) (by omega) (by omega)
      rw [Int.toNat_natCast] at hc0
      have HX := Aside0.mk (show l[k]? = some (rd l (k : Int)) by unfold rd; rw [Int.toNat_natCast, List.getD_eq_getElem?_getD, List.getElem?_eq_getElem hlt]; rfl)
      obtain ⟨O1, hj, hd⟩ := hrel.own
      have hboxl := hrel.st.at (g := Bl) (v := .slice (some ad) l.length ca) (by simp)
      have Hlt := Aside0.mk (show Bl < wr.heap.size from World.block_lt_of_cell? wr _ hboxl)
      have HL := Aside0.mk hrel
      have HD := Aside0.mk hd
      clear hrel hd
      generalize rd l (k : Int) = x at *
      have hyl := HY.out _ x O1 _ HX.out hj (fun i hi => (HD.out i hi).2.2)
      obtain ⟨fn, tmps, asg, bdy, hy, hR⟩ := hyl
      dsimp only [encI] at hy
      have HR2 := Aside0.mk hR
      clear hR hj
      gi_wp2
      refine ⟨rfl, HR2.out.mono ?_⟩
      rintro e W' (⟨rfl, ⟨O2, hO2, hJ2⟩, hc⟩ | ⟨rfl, ⟨O2, hO2, hx⟩, hc⟩)
      · have HG := Aside0.mk (show CapsRel (α := Unit) w00 [(Bl, .slice (some ad) l.length ca)] J (k + 1) W' from ⟨HL.out.st.chg hc (fun i hi => ⟨(HD.out i hi).1, (HD.out i hi).2.1⟩), O2, hJ2, fun i hi => (hO2 i hi).1.elim (fun h => ⟨(HD.out i h).1, (HD.out i h).2.1, (hO2 i hi).2⟩) (fun h => by
            have h0 := (hO2 i hi).2
            have h1 := HL.out.st.below.size
            have h2 := Hlt.out
            refine ⟨by omega, fun c hc => ?_, h0⟩
            simp at hc
            subst hc
            simp only
            omega)⟩)
        clear hO2 hJ2 hc hy hc0 hboxl
        gi_wp2
        gi_roundg (gk - 1)
        case measure => omega
        case rel => exact ⟨k + 1, by go_num, by omega, HG.out⟩
      · gi_wp2
        refine bodyPost_ret (results_none rfl _ _ _) rfl ?_
        exact ⟨⟨_, rfl⟩, .inr ⟨_, O2, hlt, hx⟩⟩
    · obtain rfl : k = l.length := by omega
      have HF := Aside0.mk hrel
      clear hrel
      gi_wp2
      go_end0
      obtain ⟨O1, hj, _⟩ := HF.out.own
      exact ⟨⟨_, rfl⟩, .inl ⟨O1, hj⟩⟩
end Go.Proofs.Ytondngpmhlemkaa.Ext
namespace Go.Proofs.Ytondngpmhlemkaa.Gr
open Go.RowKit Go.Proofs.YtondngpmhlemkaaW.PrintWords Go.Proofs.YtondngpmhlemkaaW.PrintLast Go.Proofs.YtondngpmhlemkaaW.PrintMore Go.Proofs.Ytondngpmhlemkaa.Sets Go.Proofs.Ytondngpmhlemkaa.Iter Go.Proofs.Ytondngpmhlemkaa.Pr Go.Proofs.Ytondngpmhlemkaa.Ext
set_option linter.unusedVariables false
set_option linter.unusedSimpArgs false

theorem toldL_length (l : List S49) (k : Int) : (toldL l k).length ≤ l.length := List.length_filterMap_le _ _

def graph_Callees.f (l : List S49) (mark : Int) : Option (List Int) := if l.length ≤ 17592186044416 then some (sset (calleesL l mark)) else none
set_option maxHeartbeats 400000 in
theorem graph_Callees.calls (A0 : Option Addr) (c0 : Nat) (l0 : List S49) (a1 : Int) (r : List Int) (w : World) (hr0 : Kd.C k49 w A0 l0.length l0) (hc0 : l0.length ≤ c0) (h : graph_Callees.f l0 a1 = some r) :
    Calls Try.prog 16 #[.slice A0 l0.length c0, .int .i64 a1] w fun e w' => ∃ v0_ : Value, e = .returned v0_ ∧ Kd.V (Kd.int .i64) 3 w' w.heap.size (fun k_ => w.heap.size ≤ k_) v0_ r ∧ Below w.heap.size w w' := by
  unfold graph_Callees.f at h
  by_cases hl : l0.length ≤ 17592186044416
  case neg => rw [if_neg hl] at h; cases h
  rw [if_pos hl] at h
  obtain rfl := Option.some.inj h
  obtain ⟨W2, hW2⟩ : ∃ W2, (w.alloc (.cells #[.slice A0 l0.length c0] 35)).alloc (.cells #[.int .i64 a1] 3) = W2 := ⟨_, rfl⟩
  have hb : Below w.heap.size w W2 := by rw [← hW2]; exact ((Below.refl _ w).alloc (Nat.le_refl _) _).alloc (by simp) _
  have hs2 : W2.heap.size = w.heap.size + 2 := by rw [← hW2]; simp
  have hst : ToldSt w w.heap.size (w.heap.size + 1) A0 c0 l0 a1 W2 := by
    refine ⟨hb, ?_, ?_⟩
    · rw [← hW2]
      exact (cell_of_blk (t := 35) (by simp only [alloc_at, World.size_alloc]; simp (disch := omega) [if_pos, if_neg])).1
    · rw [← hW2]
      exact (cell_of_blk (t := 3) (by simp only [alloc_at, World.size_alloc]; simp (disch := omega) [if_pos, if_neg])).1
  have HS := Aside0.mk (set_calls (enters_of Try.func33 (by kernel_rfl) rfl) (callees1_iter w W2 w.heap.size (w.heap.size + 1) A0 c0 l0 a1 hr0 (by omega) hst) (Below.refl _ _) (by omega) (fun i hi => by rcases hi with rfl | rfl <;> omega) (Nat.le_trans (List.length_filterMap_le _ _) (Nat.le_trans (toldL_length l0 5) hl)))
  rw [← hW2] at HS
  have HB := Aside0.mk hb
  have HW2 := Aside0.mk hW2
  clear hr0 hc0 h hst hb hs2 hW2
  go_enter Try.func16, Try.ntmps16
  go_wp2_with (go_at_call 29; refine HS.out.mono ?_; rintro e w' ⟨v, rfl, hV, hB⟩; have HV := Aside0.mk hV; have HB2 := Aside0.mk hB; clear hV hB)
  go_ret
  refine ⟨_, rfl, Kd.V_mono HV.out (fun k hk => ?_), ?_⟩
  · simp at hk; omega
  · have := HB.out
    rw [← HW2.out] at this
    exact this.trans HB2.out

def graph_Entered.f (l : List S49) : Option (List Int) := if l.length ≤ 17592186044416 then some (sset (enteredL l)) else none
set_option maxHeartbeats 400000 in
theorem graph_Entered.calls (A0 : Option Addr) (c0 : Nat) (l0 : List S49) (r : List Int) (w : World) (hr0 : Kd.C k49 w A0 l0.length l0) (hc0 : l0.length ≤ c0) (h : graph_Entered.f l0 = some r) :
    Calls Try.prog 19 #[.slice A0 l0.length c0] w fun e w' => ∃ v0_ : Value, e = .returned v0_ ∧ Kd.V (Kd.int .i64) 3 w' w.heap.size (fun k_ => w.heap.size ≤ k_) v0_ r ∧ Below w.heap.size w w' := by
  unfold graph_Entered.f at h
  by_cases hl : l0.length ≤ 17592186044416
  case neg => rw [if_neg hl] at h; cases h
  rw [if_pos hl] at h
  obtain rfl := Option.some.inj h
  have hb : Below w.heap.size w (w.alloc (.cells #[.slice A0 l0.length c0] 35)) := (Below.refl _ w).alloc (Nat.le_refl _) _
  have hst : Caps w [(w.heap.size, .slice A0 l0.length c0)] (w.alloc (.cells #[.slice A0 l0.length c0] 35)) :=
    ⟨hb, fun c hc => by simp at hc; subst hc; exact (cell_of_blk (heap_alloc_new w _)).1⟩
  have HS := Aside0.mk (set_calls (enters_of Try.func35 (by kernel_rfl) rfl) (entered1_iter w _ w.heap.size A0 c0 l0 hr0 (Nat.le_refl _) hst) (Below.refl _ _) (by simp) (fun i hi => by subst hi; simp) (by unfold enteredL; rw [List.length_map]; exact Nat.le_trans (toldL_length l0 6) hl))
  have HB := Aside0.mk hb
  clear hr0 hc0 h hst hb
  go_enter Try.func19, Try.ntmps19
  go_wp2_with (go_at_call 29; refine HS.out.mono ?_; rintro e w' ⟨v, rfl, hV, hB⟩; have HV := Aside0.mk hV; have HB2 := Aside0.mk hB; clear hV hB)
  go_ret
  refine ⟨_, rfl, Kd.V_mono HV.out (fun k hk => ?_), HB.out.trans HB2.out⟩
  simp at hk; omega

def graph_Callers.f (l : List S24) (a1 : Int) : Option (List Int) := if l.length ≤ 17592186044416 then some (sset (callersL l a1)) else none
set_option maxHeartbeats 400000 in
theorem graph_Callers.calls (A0 : Option Addr) (c0 : Nat) (l0 : List S24) (a1 : Int) (r : List Int) (w : World) (hr0 : Kd.C k24 w A0 l0.length l0) (hc0 : l0.length ≤ c0) (h : graph_Callers.f l0 a1 = some r) :
    Calls Try.prog 14 #[.slice A0 l0.length c0, .int .i64 a1] w fun e w' => ∃ v0_ : Value, e = .returned v0_ ∧ Kd.V (Kd.int .i64) 3 w' w.heap.size (fun k_ => w.heap.size ≤ k_) v0_ r ∧ Below w.heap.size w w' := by
  unfold graph_Callers.f at h
  by_cases hl : l0.length ≤ 17592186044416
  case neg => rw [if_neg hl] at h; cases h
  rw [if_pos hl] at h
  obtain rfl := Option.some.inj h
  obtain ⟨W2, hW2⟩ : ∃ W2, (w.alloc (.cells #[.slice A0 l0.length c0] 22)).alloc (.cells #[.int .i64 a1] 3) = W2 := ⟨_, rfl⟩
  have hb : Below w.heap.size w W2 := by rw [← hW2]; exact ((Below.refl _ w).alloc (Nat.le_refl _) _).alloc (by simp) _
  have hs2 : W2.heap.size = w.heap.size + 2 := by rw [← hW2]; simp
  have hst : Caps w [(w.heap.size, .slice A0 l0.length c0), (w.heap.size + 1, .int .i64 a1)] W2 := by
    refine ⟨hb, fun c hc => ?_⟩
    simp at hc
    rcases hc with rfl | rfl
    · rw [← hW2]
      exact (cell_of_blk (t := 22) (by simp only [alloc_at, World.size_alloc]; simp (disch := omega) [if_pos, if_neg])).1
    · rw [← hW2]
      exact (cell_of_blk (t := 3) (by simp only [alloc_at, World.size_alloc]; simp (disch := omega) [if_pos, if_neg])).1
  have HS := Aside0.mk (set_calls (enters_of Try.func32 (by kernel_rfl) rfl) (callers1_iter w W2 w.heap.size (w.heap.size + 1) A0 c0 l0 a1 hr0 (by omega) hst) (Below.refl _ _) (by omega) (fun i hi => by rcases hi with rfl | rfl <;> omega) (Nat.le_trans (List.length_filterMap_le _ _) hl))
  rw [← hW2] at HS
  have HB := Aside0.mk hb
  have HW2 := Aside0.mk hW2
  clear hr0 hc0 h hst hb hs2 hW2
  go_enter Try.func14, Try.ntmps14
  go_wp2_with (go_at_call 29; refine HS.out.mono ?_; rintro e w' ⟨v, rfl, hV, hB⟩; have HV := Aside0.mk hV; have HB2 := Aside0.mk hB; clear hV hB)
  go_ret
  refine ⟨_, rfl, Kd.V_mono HV.out (fun k hk => ?_), ?_⟩
  · simp at hk; omega
  · have := HB.out
    rw [← HW2.out] at this
    exact this.trans HB2.out
end Go.Proofs.Ytondngpmhlemkaa.Gr
