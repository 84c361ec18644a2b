/- slices.AppendSeq of nil, Collect, Sorted over an iterator of whole numbers. No condition. -/
import Derived.Test.YtondngpmhlemkaaOwn
namespace Go.Proofs.Ytondngpmhlemkaa.Ext
open Go.RowKit Go.Proofs.YtondngpmhlemkaaW.PrintWords Go.Proofs.YtondngpmhlemkaaW.PrintLast Go.Proofs.YtondngpmhlemkaaW.PrintMore Go.Proofs.Ytondngpmhlemkaa.Sets Go.Proofs.Ytondngpmhlemkaa.Iter
set_option linter.unusedVariables false
set_option linter.unusedSimpArgs false
attribute [local go_sem] Oper.semAt_some

def encI (x : Int) : Array Value := #[.int .i64 x]

/-- A variable in a block b of its own that holds a row of the call's own. -/
structure BoxRow (W : World) (base b : Nat) (xs : List Int) (O : Nat → Prop) : Prop where
  out : ∃ v, W.cell? ⟨b, 0, none⟩ = some v ∧ OwnI W base v xs ∧ ∀ i, v.ownBlock = some i → O i ∧ i ≠ b
  free : W.frozen? ⟨b, 0, none⟩ = false
  lt : b < W.heap.size
  own : O b
theorem BoxRow.chg {A B : World} {base b : Nat} {xs : List Int} {O T : Nat → Prop} (h : BoxRow A base b xs O) (hc : Chg T A B) (hT : ∀ i, T i → ¬ O i) : BoxRow B base b xs O := by
  obtain ⟨v, h1, h2, h3⟩ := h.out
  refine ⟨⟨v, hc.cell h1 (fun ht => hT _ ht h.own), own_chg h2 hc (fun i hi ht => hT i ht (h3 i hi).1), h3⟩, ?_, Nat.lt_of_lt_of_le h.lt hc.size, h.own⟩
  rw [frozen_chg hc h.lt (fun ht => hT _ ht h.own)]
  exact h.free
theorem BoxRow.less {A : World} {base b : Nat} {xs : List Int} {O O' : Nat → Prop} (h : BoxRow A base b xs O) (hO : ∀ i, O i → O' i) : BoxRow A base b xs O' := by
  obtain ⟨v, h1, h2, h3⟩ := h.out
  exact ⟨⟨v, h1, h2, fun i hi => ⟨hO i (h3 i hi).1, (h3 i hi).2⟩⟩, h.free, h.lt, hO _ h.own⟩
theorem BoxRow.fresh (W : World) (base : Nat) (t : TypeId) (O : Nat → Prop) (hO : O W.heap.size) : BoxRow (W.alloc (.cells #[.slice none 0 0] t)) base W.heap.size [] O := by
  have hn := heap_alloc_new W (.cells #[.slice none 0 0] t)
  exact ⟨⟨_, (cell_of_blk hn).1, Kd.R_nil _ _ _ _ _, fun i hi => by simp [Value.ownBlock] at hi⟩, (cell_of_blk hn).2, by simp, hO⟩
/-- Ahead of the store of the longer row. -/
theorem BoxRow.step {W w1 : World} {base b : Nat} {xs : List Int} {O : Nat → Prop} (h : BoxRow W base b xs O) {v : Value} (hv : W.cell? ⟨b, 0, none⟩ = some v) (hv3 : ∀ i, v.ownBlock = some i → O i ∧ i ≠ b) (o : Obj) (hg : (W.alloc o).grownBy w1 v.ownBlock) :
    w1.cell? ⟨b, 0, none⟩ = some v ∧ w1.frozen? ⟨b, 0, none⟩ = false := by
  have h0 : Chg (fun i => v.ownBlock = some i) W w1 := ((Chg.refl _ W).alloc o).grown hg (fun k hk => .inl hk)
  refine ⟨h0.cell hv (fun h => (hv3 _ h).2 rfl), ?_⟩
  rw [frozen_chg h0 h.lt (fun h => (hv3 _ h).2 rfl)]
  exact h.free
/-- Behind the store of the longer row. -/
theorem BoxRow.stored {W w1 : World} {base b : Nat} {xs ys : List Int} {O : Nat → Prop} (h : BoxRow W base b xs O) {v v1 : Value} (hv : W.cell? ⟨b, 0, none⟩ = some v) (hv3 : ∀ i, v.ownBlock = some i → O i ∧ i ≠ b) (o : Obj) (hg : (W.alloc o).grownBy w1 v.ownBlock)
    (hO : OwnI w1 base v1 ys) (hat : v1.ownBlock = v.ownBlock ∨ v1.ownBlock = some (W.alloc o).heap.size) (hOb : ∀ i, O i → i < W.heap.size) :
    Chg O W (w1.setCell ⟨b, 0, none⟩ v1) ∧ ∃ O2 : Nat → Prop, Grow O W O2 (w1.setCell ⟨b, 0, none⟩ v1) ∧ (∀ i, O i → O2 i) ∧ BoxRow (w1.setCell ⟨b, 0, none⟩ v1) base b ys O2 := by
  have h0 : Chg (fun i => v.ownBlock = some i) W w1 := ((Chg.refl _ W).alloc o).grown hg (fun k hk => .inl hk)
  obtain ⟨hcell, hfr⟩ := h.step hv hv3 o hg
  have hlt := h.lt
  have hv1 : ∀ i, v1.ownBlock = some i → (O i ∨ W.heap.size ≤ i) ∧ i ≠ b := by
    intro i hi
    rcases hat with e | e
    · rw [e] at hi
      exact ⟨.inl (hv3 i hi).1, (hv3 i hi).2⟩
    · rw [e] at hi
      injection hi with hi
      have : (W.alloc o).heap.size = W.heap.size + 1 := by simp
      exact ⟨.inr (by omega), by omega⟩
  have h1 : Chg (fun i => i = b) w1 (w1.setCell ⟨b, 0, none⟩ v1) := (Chg.refl (fun i => i = b) w1).setCell (p := ⟨b, 0, none⟩) (.inl rfl) v1
  have hc2 : Chg O W (w1.setCell ⟨b, 0, none⟩ v1) := (h0.mono (fun i _ hi => (hv3 i hi).1)).trans h1 (fun i e => by subst e; exact .inl h.own)
  have hl1 := own_lt (Kd.own_of_R hO)
  have hsz : (w1.setCell ⟨b, 0, none⟩ v1).heap.size = w1.heap.size := by simp [World.setCell]
  have hs2 := hc2.size
  exact ⟨hc2, fun i => (O i ∨ W.heap.size ≤ i) ∧ i < (w1.setCell ⟨b, 0, none⟩ v1).heap.size, fun i h => h, fun i h => ⟨.inl h, Nat.lt_of_lt_of_le (hOb i h) hs2⟩, ⟨v1, World.cell?_setCell_same' _ _ _ (by rw [hcell]; rfl), own_chg hO h1 (fun i hi e => (hv1 i hi).2 e), fun i hi => ⟨⟨(hv1 i hi).1, by rw [hsz]; exact hl1 i hi⟩, (hv1 i hi).2⟩⟩, by rw [World.frozen?_setCell]; exact hfr, Nat.lt_of_lt_of_le h.lt hc2.size, ⟨.inl h.own, Nat.lt_of_lt_of_le h.lt hc2.size⟩⟩

/-- What is so between two rounds of AppendSeq. -/
structure ApI (w : World) (B0 : Nat) (xs : List Int) (k : Nat) (O : Nat → Prop) (W : World) : Prop where
  bel : Below B0 w W
  row : BoxRow W w.heap.size w.heap.size (xs.take k) O
theorem ApI.abide (w : World) (B0 : Nat) (hB0 : B0 ≤ w.heap.size) (xs : List Int) (k : Nat) : Abide B0 (ApI w B0 xs k) := by
  intro O A B T h hc hT
  exact ⟨h.bel.trans (hc.below (Nat.le_trans hB0 (Nat.le_of_lt h.row.lt)) (fun i hi => (hT i hi).1)), h.row.chg hc (fun i hi => (hT i hi).2)⟩

def CollPost (B0 : Nat) (w : World) (xs : List Int) (e : Ending) (w' : World) : Prop := ∃ v : Value, e = .returned v ∧ OwnI w' w.heap.size v xs ∧ Below B0 w w'

set_option maxHeartbeats 2000000 in
theorem appendSeq_calls {gf : Nat} {lb : Array Value} {xs : List Int} {B0 : Nat} {Oi : Nat → Prop} {w0 w : World} (eg : ∀ args w, (callFunc gf args).run Try.prog w = .ok (.enter gf args) w) (hit : IterOK Try.prog gf lb encI xs B0 Oi w0)
    (hw : Below w0.heap.size w0 w) (hB0 : B0 ≤ w.heap.size) (hOi : ∀ i, Oi i → i < w.heap.size) (hl : xs.length ≤ 17592186044416) :
    Calls Try.prog 66 #[.slice none 0 0, .func (.func gf) #[] lb] w (CollPost B0 w xs) := by
  refine (callsIn_wide (n := 0)).1 ?_
  refine callsIn_of_wp_marks Try.func66 rfl trivial ?_ rfl
  simp only [Try.ntmps66, List.size_toArray, List.length_cons, List.length_nil, Nat.reduceAdd, Nat.reduceSub, Array.replicate_succ, Array.replicate_zero, List.push_toArray, List.append_toArray, List.nil_append, List.cons_append]
  have hdep : Fence.wide.depth = none := rfl
  have hfns : ∀ f, Fence.wide.fn f := fun _ => trivial
  gi_wp2
  have hI0 : ApI w B0 xs 0 (fun i => i = w.heap.size) (w.alloc (.cells #[.slice none 0 0] 27)) := ⟨(Below.refl _ w).alloc hB0 _, BoxRow.fresh w _ _ _ rfl⟩
  have hc0 : Chg (fun i => i = w.heap.size ∧ w0.heap.size ≤ i) w0 (w.alloc (.cells #[.slice none 0 0] 27)) := (Chg.of_below hw _).alloc _
  have hs0 : (w.alloc (.cells #[.slice none 0 0] 27)).heap.size = w.heap.size + 1 := by simp
  generalize w.alloc (.cells #[.slice none 0 0] 27) = W1 at *
  refine wp_rangeFunc_go (gf := gf) (lb := lb) rfl eg hit (fun _ => rfl) (fun i => i = w.heap.size) (by omega) (fun i hi => by subst hi; exact ⟨by omega, by omega, fun h => by have := hOi _ h; omega⟩) (fun i hi => by have := hOi _ hi; omega) hc0
    (ApI w B0 xs) (fun _ _ _ _ => False) (fun k => ApI.abide w B0 hB0 xs k) (fun _ _ _ _ _ _ h _ _ => h) hI0 ?round ?done ?stop
  case stop => exact fun D k c O1 W _ _ _ h _ => h.elim
  case round =>
    intro l0 k x O1 W K hx hi hb hK
    dsimp only [encI]
    gi_wp2
    refine hK _ _ O1 (Chg.refl _ _) (Grow.same hb (Nat.le_refl _)) hi ?_
    intro l T Wb hc hT hOb hll hnl hrec hi
    obtain ⟨v, hv1, hv2, hv3⟩ := hi.row.out
    have hfr := hi.row.free
    have HI := Aside0.mk hi
    have hk : k < xs.length := (List.getElem?_eq_some_iff.1 hx).1
    have HTK := Aside0.mk (show xs.take k ++ [x] = xs.take (k + 1) by rw [List.take_add_one, hx]; rfl)
    have hle : (xs.take k).length < 17592186044416 := by rw [List.length_take]; omega
    have hbs : w.heap.size < Wb.heap.size := hi.row.lt
    have hsl := own_slice3 hv2
    obtain ⟨A, c, hve, _, _⟩ := hsl
    subst hve
    have HO2 := Aside0.mk (show OwnI (Wb.alloc (.cells #[.int .i64 x] 3)) w.heap.size (.slice A (xs.take k).length c) _ from Kd.R_below hv2 ((Below.refl _ Wb).alloc (Nat.le_refl _) _))
    clear hi hv2 hx hrec hc hT hK
    generalize xs.take k = ys at *
    gi_wp2_with (gi_at_builtin; go_loud (refine append1_in w.heap.size rfl _ _ rfl (.slice A ys.length c) ys x Wb.heap.size rfl rfl (by simp) HO2.out (by simp; omega) hle ?_; rintro v1 w1 hO1 hg1 hat1 ⟨g1, n1, c1', rfl⟩; obtain ⟨hcell1, hfr1⟩ := HI.out.row.step hv1 hv3 _ hg1; have HST := Aside0.mk (HI.out.row.stored hv1 hv3 _ hg1 hO1 hat1 hOb); have HVB := Aside0.mk (show Chg (fun i => O1 i ∧ B0 ≤ i) Wb w1 from ((Chg.refl _ Wb).alloc _).grown hg1 (fun i hi => .inl ⟨(hv3 i hi).1, Nat.le_trans hB0 (own_base_lt HO2.out i hi)⟩)); clear hO1 hat1 hg1))
    obtain ⟨hst1, O2, hO2, hOO, hrow⟩ := HST.out
    refine ⟨hst1, O2, hO2, HI.out.bel.trans ((HVB.out.setCell (p := ⟨w.heap.size, 0, none⟩) (.inl ⟨HI.out.row.own, hB0⟩) _).below (Nat.le_trans hB0 (Nat.le_of_lt hbs)) (fun i hi => hi.2)), ?_⟩
    rw [← HTK.out]
    exact hrow
  case done =>
    intro D O1 W hD hnD hi hK
    obtain ⟨v, hv1, hv2, hv3⟩ := hi.row.out
    have HI := Aside0.mk hi
    rw [List.take_of_length_le (Nat.le_refl _)] at hv2
    have HV2 := Aside0.mk hv2
    have hsl := own_slice3 hv2
    obtain ⟨A, c, hve, _, _⟩ := hsl
    subst hve
    clear hi hv2
    gi_wp2
    refine ⟨by simp, .inl ⟨_, _, rfl, run_takeDeferred hK, ?_⟩⟩
    refine ⟨.slice A xs.length c, by simp [results, Try.results66, go_sem], _, rfl, ?_, ?_⟩
    · exact own_chg HV2.out (Chg.put1 W D _) (fun i h e => by subst e; exact hnD (hv3 _ h).1)
    · exact HI.out.bel.trans ((Chg.put1 W D _).below (Nat.le_trans hB0 (Nat.le_of_lt HI.out.row.lt)) (fun i e => by subst e; omega))

set_option maxHeartbeats 400000 in
theorem collect_calls {gf : Nat} {lb : Array Value} {xs : List Int} {B0 : Nat} {Oi : Nat → Prop} {w0 w : World} (eg : ∀ args w, (callFunc gf args).run Try.prog w = .ok (.enter gf args) w) (hit : IterOK Try.prog gf lb encI xs B0 Oi w0)
    (hw : Below w0.heap.size w0 w) (hB0 : B0 ≤ w.heap.size) (hOi : ∀ i, Oi i → i < w.heap.size) (hl : xs.length ≤ 17592186044416) :
    Calls Try.prog 53 #[.func (.func gf) #[] lb] w (CollPost B0 w xs) := by
  have HA := Aside0.mk (appendSeq_calls eg hit hw hB0 hOi hl)
  clear eg hit hw hB0 hOi hl
  go_enter Try.func53, Try.ntmps53
  go_wp2_with (go_at_call 66; refine HA.out.mono ?_; rintro e w1 ⟨v, rfl, hO, hB⟩; have HO := Aside0.mk hO; have HB := Aside0.mk hB; clear hO hB)
  go_ret
  exact ⟨_, rfl, HO.out, HB.out⟩

set_option maxHeartbeats 400000 in
theorem sorted_calls {gf : Nat} {lb : Array Value} {xs : List Int} {B0 : Nat} {Oi : Nat → Prop} {w0 w : World} (eg : ∀ args w, (callFunc gf args).run Try.prog w = .ok (.enter gf args) w) (hit : IterOK Try.prog gf lb encI xs B0 Oi w0)
    (hw : Below w0.heap.size w0 w) (hB0 : B0 ≤ w.heap.size) (hOi : ∀ i, Oi i → i < w.heap.size) (hl : xs.length ≤ 17592186044416) :
    Calls Try.prog 44 #[.func (.func gf) #[] lb] w (CollPost B0 w (xs.mergeSort fun x y => decide (x ≤ y))) := by
  have HA := Aside0.mk (collect_calls eg hit hw hB0 hOi hl)
  clear eg hit hw hOi
  go_enter Try.func44, Try.ntmps44
  go_wp2_with (go_at_call 53; refine HA.out.mono ?_; rintro e w1 ⟨v, rfl, hO, hB⟩; have HO := Aside0.mk hO; have HB := Aside0.mk hB; clear hO hB)
  clear HA
  refine (sort_own v xs _ _ HO.out (by omega)).mono ?_
  rintro e w2 ⟨rfl, hO, hG⟩
  have HO2 := Aside0.mk hO
  have HB2 := Aside0.mk (HB.out.grown hG (Nat.le_trans hB0 HB.out.size) (fun k hk => Nat.le_trans hB0 (own_base_lt HO.out k hk)))
  clear hO hG HO HB
  go_wp2_with fail
  go_ret
  exact ⟨_, rfl, HO2.out, HB2.out⟩
end Go.Proofs.Ytondngpmhlemkaa.Ext
