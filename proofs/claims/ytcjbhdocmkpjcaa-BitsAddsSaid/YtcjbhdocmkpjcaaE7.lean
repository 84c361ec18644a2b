/- bits.Within: are all numbers of a set in another one? -/
import Derived.Test.YtcjbhdocmkpjcaaE5
import Derived.WalkMore
namespace Go.Proofs.Ytcjbhdocmkpjcaa.Ext
open Go.RowKit Go.Proofs.YtcjbhdocmkpjcaaW.PrintWords Go.Proofs.YtcjbhdocmkpjcaaW.PrintLast Go.Proofs.Ytcjbhdocmkpjcaa.Pr Go.Proofs.Ytcjbhdocmkpjcaa.Base Go.Proofs.Ytcjbhdocmkpjcaa.Sets Go.Proofs.Ytcjbhdocmkpjcaa.Iter
set_option linter.unusedVariables false
set_option linter.unusedSimpArgs false
attribute [local go_sem] Oper.semAt_some

theorem wpIn_scope_wide {P : Program} {c : Code} {Q : Exit → Act → World → Prop} {a : Act} {w : World} (h : c.wpIn Fence.wide 0 P (Exit.noGoto Q) a w) : (Code.scope c).wpIn Fence.wide 0 P Q a w :=
  wpIn_wide.2 (wp_scope_straight (wpIn_wide.1 h))

/-- The world in which Within's loop begins. -/
def wiWorld (w : World) (q : Nat) (va vb : Value) : World :=
  ((((w.alloc (.cells #[va, vb] 24)).drewN q).alloc (.cells #[.bool true] 4)).alloc (.cells #[va] 24)).alloc (.cells #[vb] 24)

theorem wi_facts (w : World) (q : Nat) (va vb : Value) : (wiWorld w q va vb).heap.size = w.heap.size + 4 ∧ Below w.heap.size w (wiWorld w q va vb) ∧
    (wiWorld w q va vb).heap[w.heap.size + 1]? = some (.cells #[.bool true] 4 (0, 0)) ∧ (wiWorld w q va vb).heap[w.heap.size + 2]? = some (.cells #[va] 24 (0, 0)) ∧ (wiWorld w q va vb).heap[w.heap.size + 3]? = some (.cells #[vb] 24 (0, 0)) := by
  refine ⟨by simp [wiWorld, heap_drewN], ?_, ?_, ?_, ?_⟩
  · unfold wiWorld
    have h1 : Below w.heap.size w (w.alloc (.cells #[va, vb] 24)) := (Below.refl _ w).alloc (Nat.le_refl _) _
    have h2 := pw_below_drewN h1 q
    exact ((h2.alloc (by simp [heap_drewN]) _).alloc (by simp [heap_drewN]; omega) _).alloc (by simp [heap_drewN]; omega) _
  all_goals (simp only [wiWorld, alloc_at, heap_drewN, World.size_alloc] <;> simp (disch := omega) [if_pos, if_neg])

/-- What is so between two rounds of Within. -/
structure WiI (w : World) (l : List (Int × Bool)) (k : Nat) (O : Nat → Prop) (W : World) : Prop where
  bel : Below w.heap.size w W
  lt : w.heap.size + 1 < W.heap.size
  all : (l.take k).all (·.2) = true
  box : W.cell? ⟨w.heap.size + 1, 0, none⟩ = some (.bool true)
  free : W.frozen? ⟨w.heap.size + 1, 0, none⟩ = false
  own : O (w.heap.size + 1)
theorem WiI.abide (w : World) (l : List (Int × Bool)) (k : Nat) : Abide w.heap.size (WiI w l k) := by
  intro O A B T h hc hT
  refine ⟨h.bel.trans (hc.below h.bel.size (fun i hi => (hT i hi).1)), Nat.lt_of_lt_of_le h.lt hc.size, h.all, hc.cell h.box (fun ht => (hT _ ht).2 h.own), ?_, h.own⟩
  rw [frozen_chg hc h.lt (fun ht => (hT _ ht).2 h.own)]
  exact h.free
/-- Where Within's loop is left. -/
structure WiX (w : World) (l : List (Int × Bool)) (c : Code) (W : World) : Prop where
  is : c = .exit 0
  bel : Below w.heap.size w W
  all : l.all (·.2) = false
  box : W.cell? ⟨w.heap.size + 1, 0, none⟩ = some (.bool false)

set_option maxHeartbeats 2000000 in
theorem within_good (A0 : Option Addr) (c0 : Nat) (a : List Int) (A1 : Option Addr) (c1 : Nat) (b : List Int) (w : World) (hr0 : Kd.C (Kd.int .i64) w A0 a.length a) (hc0 : a.length ≤ c0) (hr1 : Kd.C (Kd.int .i64) w A1 b.length b) (hc1 : b.length ≤ c1) (hs : [a, b].all setB = true) :
    Calls Try.prog 22 #[.slice A0 a.length c0, .slice A1 b.length c1] w (fun e w' => e = .returned (.tuple #[.bool ((bothL a b).all (·.2)), .int .i64 0]) ∧ Below w.heap.size w w') := by
  have h2 := two_C w A0 A1 c0 c1 a b hr0 hr1 hc0 hc1
  have hA := bits_areSets.calls _ 2 [a, b] true _ h2 (by simp) (by unfold bits_areSets.f; rw [hs])
  rw [show [a, b].length = 2 from rfl] at hA
  have HA := Aside0.mk hA
  clear hA h2 hs
  refine (callsIn_wide (n := 0)).1 ?_
  refine callsIn_of_wp_marks Try.func22 rfl trivial ?_ rfl
  simp only [Try.ntmps22, List.size_toArray, List.length_cons, List.length_nil, Nat.reduceAdd, Nat.reduceSub, Array.replicate_succ, Array.replicate_zero, List.push_toArray, List.append_toArray, List.nil_append, List.cons_append]
  have hdep : Fence.wide.depth = none := rfl
  have hfns : ∀ f, Fence.wide.fn f := fun _ => trivial
  gi_wp2
  refine wpIn_scope_wide ?_
  gi_wp2_with (first
    | (gi_at_call 29; refine (callsIn_wide.2 HA.out).mono ?_; rintro e w' ⟨rfl, ⟨⟨q, rfl⟩⟩⟩)
    | (gi_at_call 36; refine (callsIn_wide.2 (both_calls _ _ _ rfl rfl)).mono ?_; rintro e w' ⟨rfl, rfl⟩))
  refine wpIn_label ?_
  gi_wp2_with (first
    | (gi_at_call 29; refine (callsIn_wide.2 HA.out).mono ?_; rintro e w' ⟨rfl, ⟨⟨q, rfl⟩⟩⟩)
    | (gi_at_call 36; refine (callsIn_wide.2 (both_calls _ _ _ rfl rfl)).mono ?_; rintro e w' ⟨rfl, rfl⟩))
  have hwi := wi_facts w q (.slice A0 a.length c0) (.slice A1 b.length c1)
  obtain ⟨hsz, hbl, hb1, hb2, hb3⟩ := hwi
  have hst : BothSt w (w.heap.size + 2) (w.heap.size + 3) A0 c0 a b (wiWorld w q (.slice A0 a.length c0) (.slice A1 b.length c1)) :=
    ⟨hbl, (cell_of_blk hb2).1, ⟨A1, c1, (cell_of_blk hb3).1, hc1, hr1⟩, (cell_of_blk hb3).2, by rw [hsz]; omega⟩
  have hI0 : WiI w (bothL a b) 0 (fun i => i = w.heap.size + 1) (wiWorld w q (.slice A0 a.length c0) (.slice A1 b.length c1)) :=
    ⟨hbl, by rw [hsz]; omega, rfl, (cell_of_blk hb1).1, (cell_of_blk hb1).2, rfl⟩
  have hit := both1_iter w (wiWorld w q (.slice A0 a.length c0) (.slice A1 b.length c1)) (w.heap.size + 2) (w.heap.size + 3) A0 c0 a b hr0 hc0 (by omega) hst
  change Code.wpIn _ _ _ _ _ _ (wiWorld w q (.slice A0 a.length c0) (.slice A1 b.length c1))
  clear hb1 hb2 hb3 HA hst
  generalize wiWorld w q (.slice A0 a.length c0) (.slice A1 b.length c1) = W1 at *
  refine wp_rangeFunc_own (gf := 48) (lb := #[.pointer (some ⟨w.heap.size + 2, 0, none⟩), .pointer (some ⟨w.heap.size + 3, 0, none⟩)]) rfl (enters_of Try.func48 (by kernel_rfl) rfl) hit (fun _ => rfl)
    (fun i => i = w.heap.size + 1) (by omega) (fun i hi => by subst hi; exact ⟨by omega, by omega, by omega⟩) (fun i hi => by rcases hi with rfl | rfl <;> omega) (Chg.refl _ _)
    (WiI w (bothL a b)) (fun c _ W => WiX w (bothL a b) c W)
    (fun x _ a' _ => a' = { tmps := #[.slice A0 a.length c0, .slice A1 b.length c1, undef, undef, .bool false, .int .i64 0, .pointer (some ⟨w.heap.size + 1, 0, none⟩), undef, .bool x.2, .slice A0 a.length c0, .slice A1 b.length c1, .slice (some ⟨w.heap.size, 0, none⟩) 2 2, .bool true, .bool false, .slice A0 a.length c0, .slice A1 b.length c1, .func (.func 48) #[] #[.pointer (some ⟨w.heap.size + 2, 0, none⟩), .pointer (some ⟨w.heap.size + 3, 0, none⟩)], .int .i64 x.1, .bool x.2, undef, undef, undef], defers := [] })
    (fun k => WiI.abide w (bothL a b) k) (fun _ _ _ _ _ _ h _ _ => h)
    (fun c k A l o h hl hlt => ⟨h.is, h.bel.trans ((Chg.put1 A l o).below h.bel.size (fun i e => by subst e; omega)), h.all, (Chg.put1 A l o).cell h.box (fun e => by simp at e; omega)⟩) hI0 ?assign ?body ?done ?stop
  case stop =>
    intro D k c W hD hk hx hK
    obtain ⟨rfl, hbe, hall, hbox⟩ := hx
    gi_wp2
    refine ⟨by simp, .inl ⟨_, _, rfl, run_takeDeferred hK, ?_⟩⟩
    refine ⟨.tuple #[.bool false, .int .i64 0], by simp [results, Try.results22, go_sem], by rw [hall], ?_⟩
    exact hbe.trans ((Chg.put1 W D _).below hbe.size (fun i e => by subst e; omega))
  case assign =>
    intro l k x O1 W K hx hi hK
    dsimp only [encIB]
    gi_wp2
    exact hK _ _ O1 (Chg.refl _ _) (fun i h => .inl h) hi rfl
  case body =>
    rintro l k x O1 a' W hx hl hnl hrec hi rfl
    have hbox := hi.box
    have hfr := hi.free
    have HI := Aside0.mk hi
    have HTK := Aside0.mk (show (bothL a b).take (k + 1) = (bothL a b).take k ++ [x] by rw [List.take_add_one, hx]; rfl)
    have HM := Aside0.mk (List.mem_of_getElem? hx)
    clear hi hx hrec hl
    obtain ⟨x1, x2⟩ := x
    cases x2 with
    | true =>
      gi_wp2
      exact ⟨Chg.refl _ _, O1, fun i h => .inl h, ⟨HI.out.bel, HI.out.lt, by rw [HTK.out, List.all_append, HI.out.all]; rfl, HI.out.box, HI.out.free, HI.out.own⟩⟩
    | false =>
      gi_wp2
      refine ⟨(Chg.refl _ _).setCell (p := ⟨w.heap.size + 1, 0, none⟩) (.inl HI.out.own) _, rfl, HI.out.bel.setCell (p := ⟨w.heap.size + 1, 0, none⟩) (by simp) _, ?_, World.cell?_setCell_same' _ _ _ (by rw [hbox]; rfl)⟩
      rw [List.all_eq_false]
      exact ⟨_, HM.out, by simp⟩
  case done =>
    intro D O1 W hD hnD hi hK
    have hall := hi.all
    have hbox := hi.box
    rw [List.take_of_length_le (Nat.le_refl _)] at hall
    have HI := Aside0.mk hi
    clear hi
    gi_wp2
    refine ⟨by simp, .inl ⟨_, _, rfl, run_takeDeferred hK, ?_⟩⟩
    refine ⟨.tuple #[.bool true, .int .i64 0], by simp [results, Try.results22, go_sem], by rw [hall], ?_⟩
    exact HI.out.bel.trans ((Chg.put1 W D _).below HI.out.bel.size (fun i e => by subst e; omega))

set_option maxHeartbeats 1000000 in
theorem within_bad (A0 : Option Addr) (c0 : Nat) (a : List Int) (A1 : Option Addr) (c1 : Nat) (b : List Int) (w : World) (hr0 : Kd.C (Kd.int .i64) w A0 a.length a) (hc0 : a.length ≤ c0) (hr1 : Kd.C (Kd.int .i64) w A1 b.length b) (hc1 : b.length ≤ c1) (hs : [a, b].all setB = false) :
    Calls Try.prog 22 #[.slice A0 a.length c0, .slice A1 b.length c1] w (fun e w' => e = .returned (.tuple #[.bool false, .int .i64 2]) ∧ Below w.heap.size w w') := by
  have h2 := two_C w A0 A1 c0 c1 a b hr0 hr1 hc0 hc1
  have hA := bits_areSets.calls _ 2 [a, b] false _ h2 (by simp) (by unfold bits_areSets.f; rw [hs])
  rw [show [a, b].length = 2 from rfl] at hA
  have HA := Aside0.mk hA
  clear hA h2 hs
  go_enter Try.func22, Try.ntmps22
  go_wp2
  go_step3
  go_wp2_with (go_at_call 29; refine HA.out.mono ?_; rintro e w' ⟨rfl, ⟨⟨q, rfl⟩⟩⟩)
  rw [Exit.noGoto_ret]
  go_ret2
  exact ⟨rfl, pw_below_drewN ((Below.refl _ w).alloc (Nat.le_refl _) _) q⟩

/-- bits.Within. -/
def bits_Within.f (a b : List Int) : Option (Bool × Int) := if [a, b].all setB = true then some ((bothL a b).all (·.2), 0) else some (false, 2)
theorem bits_Within.calls (A0 : Option Addr) (c0 : Nat) (l0 : List Int) (A1 : Option Addr) (c1 : Nat) (l1 : List Int) (r1 : Bool) (r2 : Int) (w : World) (hr0 : Kd.C (Kd.int .i64) w A0 l0.length l0) (hc0 : l0.length ≤ c0) (hr1 : Kd.C (Kd.int .i64) w A1 l1.length l1) (hc1 : l1.length ≤ c1) (h : bits_Within.f l0 l1 = some (r1, r2)) :
    Calls Try.prog 22 #[.slice A0 l0.length c0, .slice A1 l1.length c1] w fun e w' => e = .returned (.tuple #[.bool r1, .int .i64 r2]) ∧ Below w.heap.size w w' := by
  unfold bits_Within.f at h
  cases hb : [l0, l1].all setB with
  | false =>
    rw [hb, if_neg (by decide)] at h
    injection h with h
    injection h with h1 h2
    subst h1 h2
    exact within_bad A0 c0 l0 A1 c1 l1 w hr0 hc0 hr1 hc1 hb
  | true =>
    rw [hb, if_pos rfl] at h
    injection h with h
    injection h with h1 h2
    subst h1 h2
    exact within_good A0 c0 l0 A1 c1 l1 w hr0 hc0 hr1 hc1 hb

end Go.Proofs.Ytcjbhdocmkpjcaa.Ext
