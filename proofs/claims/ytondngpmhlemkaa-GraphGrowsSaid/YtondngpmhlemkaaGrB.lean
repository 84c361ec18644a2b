/- graph.Callees, Entered, Callers: their iterators. No condition. -/
import Derived.Test.YtondngpmhlemkaaGrA
import Derived.Test.YtondngpmhlemkaaHand
namespace Go.Proofs.Ytondngpmhlemkaa.Ext
open Go.RowKit Go.Proofs.YtondngpmhlemkaaW.PrintWords Go.Proofs.YtondngpmhlemkaaW.PrintLast Go.Proofs.YtondngpmhlemkaaW.PrintMore Go.Proofs.Ytondngpmhlemkaa.Sets Go.Proofs.Ytondngpmhlemkaa.Iter Go.Proofs.Ytondngpmhlemkaa.Pr
set_option linter.unusedVariables false
set_option linter.unusedSimpArgs false
attribute [local go_sem] Oper.semAt_some

def calleeOf (mark : Int) (f : S49) : Option Int := if f.f1 = mark then some f.f3 else none
def calleesL (l : List S49) (mark : Int) : List Int := (toldL l 5).filterMap (calleeOf mark)
def enteredL (l : List S49) : List Int := (toldL l 6).map (·.f1)

set_option maxHeartbeats 2000000 in
theorem callees1_iter (w00 w : World) (Bl Bm : Nat) (A : Option Addr) (ca : Nat) (l : List S49) (mark : Int) (hr : Kd.C k49 w00 A l.length l) (hB : w00.heap.size ≤ Bl ∧ w00.heap.size ≤ Bm) (hs : ToldSt w00 Bl Bm A ca l mark w) :
    IterOK Try.prog 33 #[.pointer (some ⟨Bl, 0, none⟩), .pointer (some ⟨Bm, 0, none⟩)] encI (calleesL l mark) w00.heap.size (fun i => i = Bl ∨ i = Bm) w := by
  intro y J Jx O W hcW hO hJ hJx hY h0
  have hs0 : ToldSt w00 Bl Bm A ca l mark W := hs.chg hcW (fun i hi => ⟨(hO i hi.1).2.1, fun e => (hO i hi.1).1 (.inl e), fun e => (hO i hi.1).1 (.inr e)⟩)
  have hltm := World.block_lt_of_cell? W _ hs0.boxk
  have hltl := World.block_lt_of_cell? W _ hs0.boxl
  have hsz := hs0.below.size
  simp only at hltm hltl
  have hboxl := hs0.boxl
  refine (callsIn_wide (n := 0)).1 ?_
  refine callsIn_of_wp_marks Try.func33 rfl trivial ?_ rfl
  simp only [Try.ntmps33, List.size_toArray, List.length_cons, List.length_nil, Nat.reduceAdd, Nat.reduceSub, Array.replicate_succ, Array.replicate_zero, List.push_toArray, List.append_toArray, List.nil_append, List.cons_append]
  have hdep : Fence.wide.depth = none := rfl
  have hfns : ∀ f, Fence.wide.fn f := fun _ => trivial
  have HO := Aside0.mk hO
  have HY := Aside0.mk hY
  have HJ := Aside0.mk hJ
  have HJx := Aside0.mk hJx
  have HR := Aside0.mk hr
  have HS := Aside0.mk hs0
  clear hO hY hJ hJx hr hs hs0 hcW
  gi_wp2_with (gi_at_call 34; refine (callsIn_wide.2 (told_calls _ _ _ rfl)).mono ?_; rintro e w' ⟨rfl, rfl⟩)
  obtain ⟨W3, hW3⟩ : ∃ W3, ((W.alloc (.cells #[.func (.yield y) #[] #[]] 53)).alloc (.cells #[.slice A l.length ca] 35)).alloc (.cells #[.int .i64 5] 3) = W3 := ⟨_, rfl⟩
  have hc3 : Chg (fun _ => False) W W3 := by rw [← hW3]; exact (((Chg.refl _ W).alloc _).alloc _).alloc _
  have hs3 : W3.heap.size = W.heap.size + 3 := by rw [← hW3]; simp
  have hy3 : W3.cell? ⟨W.heap.size, 0, none⟩ = some (.func (.yield y) #[] #[]) := by
    rw [← hW3]
    exact (cell_of_blk (t := 53) (by simp only [alloc_at, World.size_alloc]; simp (disch := omega) [if_pos, if_neg])).1
  have ht3 : ToldSt w00 (W.heap.size + 1) (W.heap.size + 2) A ca l 5 W3 := by
    refine ⟨HS.out.below.trans (hc3.below hsz (fun i h => h.elim)), ?_, ?_⟩
    · rw [← hW3]
      exact (cell_of_blk (t := 35) (by simp only [alloc_at, World.size_alloc]; simp (disch := omega) [if_pos, if_neg])).1
    · rw [← hW3]
      exact (cell_of_blk (t := 3) (by simp only [alloc_at, World.size_alloc]; simp (disch := omega) [if_pos, if_neg])).1
  have hit := told1_iter w00 W3 (W.heap.size + 1) (W.heap.size + 2) A ca l 5 HR.out (by omega) ht3
  have hst : HandOn w00.heap.size J [(Bm, .int .i64 mark), (W.heap.size, .func (.yield y) #[] #[])] 0 (fun i => O i ∨ i ∈ ([(Bm, .int .i64 mark), (W.heap.size, .func (.yield y) #[] #[])] : List (Nat × Value)).map (·.1)) W3 := by
    refine HandOn.start (HJ.out 0 O W W3 _ h0 hc3 (fun i h => h.elim)) (fun i hi => ⟨(HO.out i hi).2.1, fun hm => ?_⟩) (fun c hc => ?_)
    · simp at hm
      rcases hm with hm | hm
      · exact (HO.out i hi).1 (.inr hm)
      · have := (HO.out i hi).2.2; omega
    · simp at hc
      rcases hc with rfl | rfl
      · exact hc3.cell HS.out.boxk (fun h => h)
      · exact hy3
  rw [hW3]
  clear hW3 ht3 hy3 h0 hboxl
  refine wp_rangeFunc_go (gf := 47) (lb := #[.pointer (some ⟨W.heap.size + 1, 0, none⟩), .pointer (some ⟨W.heap.size + 2, 0, none⟩)]) rfl (enters_of Try.func47 (by kernel_rfl) rfl) hit (fun _ => rfl)
    _ (by omega) (fun i hi => ?_) (fun i hi => by rcases hi with rfl | rfl <;> omega) (Chg.refl _ _)
    (fun k => HandOn w00.heap.size J [(Bm, .int .i64 mark), (W.heap.size, .func (.yield y) #[] #[])] (((toldL l 5).take k).filterMap (calleeOf mark)).length) (fun c _ => HandX Jx (calleesL l mark).length c)
    (fun k => HandOn.abide HJ.out _ _) (fun c k => HandX.abide HJx.out _ c) hst ?round ?done ?stop
  · simp at hi
    rcases hi with hi | hi | hi
    · have := HO.out i hi
      exact ⟨this.2.1, by omega, by omega⟩
    · subst hi; exact ⟨by omega, by omega, by omega⟩
    · subst hi; exact ⟨by omega, by omega, by omega⟩
  case stop =>
    rintro D k c O1 W4 hD hnD hk ⟨rfl, n, Oj, hn, hx, hOj⟩ hK
    gi_wp2
    refine ⟨by simp, .inl ⟨_, _, rfl, run_takeDeferred hK, ?_⟩⟩
    exact ⟨_, results_none rfl _ _ _, ⟨_, rfl⟩, .inr ⟨n, Oj, hn, HJx.out n Oj W4 _ (fun i => i = D) hx (Chg.put1 _ _ _) (fun i e => by subst e; exact ⟨by omega, fun h => hnD (hOj _ h)⟩)⟩⟩
  case round =>
    intro l0 k x O1 W4 K hx hi hb hK
    dsimp only [encF]
    gi_wp2
    refine hK _ _ _ ((Chg.refl _ _).alloc _) (grow_alloc hb _) (hi.alloc HJ.out _) ?_
    have hn4 := heap_alloc_new W4 (.cells #[.int .i64 x.f0, .int .i64 x.f1, .string x.f2, .int .i64 x.f3] 49)
    have hkl : k < (toldL l 5).length := (List.getElem?_eq_some_iff.1 hx).1
    have HX := Aside0.mk hx
    clear hi hK hb hx
    intro l1 T Wb hc hT hOb hll hnl hrec hi
    have hn5 := hc.blk hn4 (fun ht => (hT _ ht).2 (.inr rfl))
    have hf1 : Wb.cell? ⟨W4.heap.size, 1, none⟩ = some (.int .i64 x.f1) := by simp [World.cell?, hn5]
    have hf3 : Wb.cell? ⟨W4.heap.size, 3, none⟩ = some (.int .i64 x.f3) := by simp [World.cell?, hn5]
    have hcm := hi.cell (g := Bm) (v := .int .i64 mark) (by simp)
    have hcy := hi.cell (g := W.heap.size) (v := .func (.yield y) #[] #[]) (by simp)
    have HI := Aside0.mk hi
    clear hi hn4 hn5 hrec hT hc hnl
    by_cases he : x.f1 = mark
    · have hox : calleeOf mark x = some x.f3 := by unfold calleeOf; rw [if_pos he]
      have HL := Aside0.mk (show ((List.take (k + 1) (toldL l 5)).filterMap (calleeOf mark)).length = ((List.take k (toldL l 5)).filterMap (calleeOf mark)).length + 1 by rw [fm_take _ HX.out, hox]; simp)
      have hxn := fm_at (calleeOf mark) HX.out hox
      have hyl := HI.out.call (y := y) (args := #[.int .i64 x.f3]) (Jx := Jx) (N := (calleesL l mark).length) hOb (fun Oj hj hOj => HY.out _ x.f3 Oj Wb hxn hj hOj) (List.getElem?_eq_some_iff.1 hxn).1 (by have := World.block_lt_of_cell? Wb _ hcm; simp at this; omega)
      obtain ⟨fn, tmps, asg, bdy, hy, hR⟩ := hyl
      have HR2 := Aside0.mk hR
      clear hR hxn hox
      subst he
      gi_wp2
      refine RoundIn.mono (F := Fence.wide.inRound l1) HR2.out ?_
      rintro e W' (⟨rfl, hr⟩ | ⟨rfl, hr⟩)
      · have HG := Aside0.mk hr
        clear hr hy hf1 hf3 hcm hcy
        gi_wp2
        have := HG.out
        rw [← HL.out] at this
        exact this
      · have HG := Aside0.mk hr
        clear hr hy hf1 hf3 hcm hcy
        gi_wp2
        exact HG.out
    · have hox : calleeOf mark x = none := by unfold calleeOf; rw [if_neg he]
      have HL := Aside0.mk (show ((List.take (k + 1) (toldL l 5)).filterMap (calleeOf mark)).length = ((List.take k (toldL l 5)).filterMap (calleeOf mark)).length by rw [fm_take _ HX.out, hox]; simp)
      have hne : (x.f1 == mark) = false := by simpa using he
      gi_wp2
      refine ⟨Chg.refl _ _, _, Grow.same hOb (Nat.le_refl _), ?_⟩
      dsimp only
      rw [HL.out]
      exact HI.out.more (fun _ h => h)
  case done =>
    intro D O1 W4 hD hnD hi hK
    rw [List.take_length] at hi
    obtain ⟨Oj, hj, hOj⟩ := hi.out
    gi_wp2
    refine ⟨by simp, .inl ⟨_, _, rfl, run_takeDeferred hK, ?_⟩⟩
    exact ⟨_, results_none rfl _ _ _, ⟨_, rfl⟩, .inl ⟨Oj, HJ.out _ Oj W4 _ (fun i => i = D) hj (Chg.put1 _ _ _) (fun i e => by subst e; exact ⟨by omega, fun h => hnD (hOj _ h)⟩)⟩⟩
end Go.Proofs.Ytondngpmhlemkaa.Ext
