/- bits.Queue: New, Push, Pop, Len. -/
import Derived.Test.YtondngpmhlemkaaOwn
import Derived.Test.YtondngpmhlemkaaISet
namespace Go.Proofs.Ytondngpmhlemkaa.Ext
open Go.RowKit Go.Proofs.YtondngpmhlemkaaW.PrintWords Go.Proofs.YtondngpmhlemkaaW.PrintLast Go.Proofs.YtondngpmhlemkaaW.PrintMore Go.Proofs.Ytondngpmhlemkaa.Iter Go.Proofs.Ytondngpmhlemkaa.ISet
set_option linter.unusedVariables false
set_option linter.unusedSimpArgs false

abbrev MSet (W : World) (b n : Nat) (S : Int → Bool) : Prop := ISet Try.prog 3 4 W b n S

theorem run_lookup_set {W : World} {b n : Nat} {S : Int → Bool} (h : MSet W b n S) (x : Int) (hx : wfI x) : (Instr.lookup 75 (.map (some b)) (.int .i64 x) false).run Try.prog W = .ok (.bool (S x)) W :=
  h.look Try.underlying3 Try.underlying4 Try.underlying75 (Try.zeroValue4 W) x hx

set_option maxHeartbeats 400000 in
theorem joins_in (gm n : Nat) (S : Int → Bool) (x : Int) (w : World) (h : MSet w gm n S) (hx : wfI x) (hS : S x = true) :
    Calls Try.prog 43 #[.map (some gm), .int .i64 x] w fun e w' => e = .returned (.bool false) ∧ w' = w := by
  have hl := run_lookup_set h x hx
  rw [hS] at hl
  clear h hS
  go_enter Try.func43, Try.ntmps43
  go_wp2
  go_ret
  exact ⟨rfl, rfl⟩

set_option maxHeartbeats 400000 in
theorem joins_new (gm n : Nat) (S : Int → Bool) (x : Int) (w : World) (h : MSet w gm n S) (hn : n < 1000000000000) (hx : wfI x) (hS : S x = false) :
    Calls Try.prog 43 #[.map (some gm), .int .i64 x] w fun e w' => e = .returned (.bool true) ∧ MSet w' gm (n + 1) (fun y => if y = x then true else S y) ∧ Chg (fun i => i = gm) w w' := by
  have hl := run_lookup_set h x hx
  rw [hS] at hl
  obtain ⟨w1, hrun, h1, hc⟩ := h.put (t := 75) Try.underlying3 Try.underlying4 Try.underlying75 (by simp only [maxLen]; omega) x hx true
  have H1 := Aside0.mk h1
  have HC := Aside0.mk hc
  clear h hS h1 hc
  go_enter Try.func43, Try.ntmps43
  go_wp2
  go_ret
  exact ⟨rfl, H1.out, HC.out⟩

abbrev QRowI (W : World) (base : Nat) (v : Value) (xs : List Int) : Prop := Kd.Q (Kd.int .i64) 3 W base (fun _ => True) v xs

theorem at_getD' {w : World} {A : Option Addr} {xs : List Int} (h : Kd.C (Kd.int .i64) w A xs.length xs) (k : Nat) (hk : k < xs.length) : ∃ ad, A = some ad ∧ w.cell? (ad.add k) = some (.int .i64 (xs.getD k 0)) := by
  obtain ⟨ad, e, hc⟩ := Kd.at_int h (k : Int) (by omega) (by omega)
  rw [Int.toNat_natCast] at hc
  unfold rd at hc
  rw [Int.toNat_natCast] at hc
  exact ⟨ad, e, hc⟩
theorem at_head' {w : World} {A : Option Addr} {x : Int} {r : List Int} (h : Kd.C (Kd.int .i64) w A (x :: r).length (x :: r)) : ∃ ad, A = some ad ∧ w.cell? ad = some (.int .i64 x) := by
  obtain ⟨ad, e, hc⟩ := at_getD' h 0 (by simp)
  exact ⟨ad, e, by simpa [Addr.add] using hc⟩

/-- A queue: its block, its set's block gm, its row v; of the numbers l; all it owns is in O. -/
structure QAt (W : World) (base gq gm : Nat) (v : Value) (S : Int → Bool) (l : List Int) (n : Nat) (O : Nat → Prop) : Prop where
  blk : W.heap[gq]? = some (.cells #[.map (some gm), v] 77 (0, 0))
  set : MSet W gm n S
  tells : ∀ x, S x = decide (x ∈ l)
  row : QRowI W base v l
  oq : O gq
  om : O gm
  orow : ∀ i, v.ownBlock = some i → O i ∧ i ≠ gq ∧ i ≠ gm
  bq : base ≤ gq
  bm : base ≤ gm
  ne : gq ≠ gm
  nodup : l.Nodup
  wf : ∀ x ∈ l, wfI x
  len : l.length ≤ n

theorem cell2 {W : World} {g : Nat} {a b : Value} {t : TypeId} (h : W.heap[g]? = some (.cells #[a, b] t (0, 0))) :
    W.cell? ⟨g, 0, none⟩ = some a ∧ W.cell? ⟨g, 1, none⟩ = some b ∧ W.frozen? ⟨g, 1, none⟩ = false ∧ W.frozen? ⟨g, 0, none⟩ = false := by
  refine ⟨?_, ?_, ?_, ?_⟩ <;> simp [World.cell?, World.frozen?, h]

theorem qrow_chg {W W' : World} {base : Nat} {v : Value} {xs : List Int} {T : Nat → Prop} (h : QRowI W base v xs) (hc : Chg T W W') (hn : ∀ k, v.ownBlock = some k → ¬ T k) : QRowI W' base v xs := by
  have h1 := Kd.Q_tight (by rfl) h
  exact Kd.Q_mono (Kd.Q_step h1 (fun k hk hlt => hc.block k hlt (hn k hk.symm))) (fun _ _ => trivial)

theorem QAt.chg {W W' : World} {base gq gm n : Nat} {v : Value} {S : Int → Bool} {l : List Int} {O T : Nat → Prop} (h : QAt W base gq gm v S l n O) (hc : Chg T W W') (hT : ∀ i, T i → ¬ O i) : QAt W' base gq gm v S l n O :=
  { h with blk := hc.blk h.blk (fun ht => hT _ ht h.oq), set := h.set.chg hc (fun ht => hT _ ht h.om), row := qrow_chg h.row hc (fun i hi ht => hT i ht (h.orow i hi).1) }
theorem QAt.own {W : World} {base gq gm n : Nat} {v : Value} {S : Int → Bool} {l : List Int} {O O' : Nat → Prop} (h : QAt W base gq gm v S l n O) (hO : ∀ i, O i → O' i) : QAt W base gq gm v S l n O' :=
  { h with oq := hO _ h.oq, om := hO _ h.om, orow := fun i hi => ⟨hO _ (h.orow i hi).1, (h.orow i hi).2⟩ }

set_option maxHeartbeats 400000 in
theorem new_calls (w : World) :
    Calls Try.prog 25 #[] w fun e w' => e = .returned (.pointer (some ⟨w.heap.size + 1, 0, none⟩)) ∧ QAt w' w.heap.size (w.heap.size + 1) w.heap.size (.slice none 0 0) (fun _ => false) [] 0 (fun i => i = w.heap.size ∨ i = w.heap.size + 1) ∧ Below w.heap.size w w' ∧ w'.heap.size = w.heap.size + 2 := by
  have hmm := @run_makeMap Try.prog
  go_enter Try.func25, Try.ntmps25
  go_wp2
  go_ret
  have h1 : Below w.heap.size w (w.alloc (.map #[] 0)) := (Below.refl _ w).alloc (Nat.le_refl _) _
  have h2 : Below w.heap.size w ((w.alloc (.map #[] 0)).alloc (.cells #[.map (some w.heap.size), .slice none 0 0] 77)) := h1.alloc (by simp) _
  refine ⟨rfl, ⟨?_, ?_, fun x => by simp, Kd.Q_nil _ _ _ _ _, .inr rfl, .inl rfl, fun i hi => by simp [Value.ownBlock] at hi, by omega, by omega, by omega, by simp, by simp, by simp⟩, h2, by simp⟩
  · have := heap_alloc_new (w.alloc (.map #[] 0)) (.cells #[.map (some w.heap.size), .slice none 0 0] 77)
    simpa using this
  · exact (ISet.made w).chg ((Chg.refl (fun _ => False) _).alloc _) (fun h => h)

set_option maxHeartbeats 400000 in
theorem push_nil (n : Int) (w : World) : Calls Try.prog 26 #[.pointer none, .int .i64 n] w fun e w' => e = .returned (.bool false) ∧ Drawn0 w w' := by
  go_enter Try.func26, Try.ntmps26
  go_wp2
  go_ret
  exact ⟨rfl, Drawn0.refl _⟩

set_option maxHeartbeats 400000 in
theorem pop_nil (w : World) : Calls Try.prog 28 #[.pointer none] w fun e w' => e = .returned (.tuple #[.int .i64 0, .bool false]) ∧ Drawn0 w w' := by
  go_enter Try.func28, Try.ntmps28
  go_wp2
  go_ret2
  exact ⟨rfl, Drawn0.refl _⟩

set_option maxHeartbeats 400000 in
theorem len_nil (w : World) : Calls Try.prog 27 #[.pointer none] w fun e w' => e = .returned (.int .i64 0) ∧ Drawn0 w w' := by
  go_enter Try.func27, Try.ntmps27
  go_wp2
  go_ret
  exact ⟨rfl, Drawn0.refl _⟩

/-- A queue in l, whatever its blocks. -/
def QIs (W : World) (base gq : Nat) (l : List Int) (n : Nat) (O : Nat → Prop) : Prop := ∃ gm v S, QAt W base gq gm v S l n O

theorem QIs.chg {W W' : World} {base gq n : Nat} {l : List Int} {O T : Nat → Prop} (h : QIs W base gq l n O) (hc : Chg T W W') (hT : ∀ i, T i → ¬ O i) : QIs W' base gq l n O := by
  obtain ⟨gm, v, S, h⟩ := h
  exact ⟨gm, v, S, h.chg hc hT⟩
theorem QIs.own {W : World} {base gq n : Nat} {l : List Int} {O O' : Nat → Prop} (h : QIs W base gq l n O) (hO : ∀ i, O i → O' i) : QIs W base gq l n O' := by
  obtain ⟨gm, v, S, h⟩ := h
  exact ⟨gm, v, S, h.own hO⟩

set_option maxHeartbeats 400000 in
theorem len_calls (base gq n : Nat) (l : List Int) (O : Nat → Prop) (w : World) (h : QIs w base gq l n O) :
    Calls Try.prog 27 #[.pointer (some ⟨gq, 0, none⟩)] w fun e w' => e = .returned (.int .i64 l.length) ∧ Drawn0 w w' := by
  obtain ⟨gm, v, S, h⟩ := h
  obtain ⟨c0, c1, _, _⟩ := cell2 h.blk
  obtain ⟨A, c, rfl, _⟩ := Kd.Q_slice h.row
  clear h
  go_enter Try.func27, Try.ntmps27
  go_wp2
  go_ret
  exact ⟨rfl, Drawn0.refl _⟩

set_option maxHeartbeats 400000 in
theorem push_in (base gq n : Nat) (l : List Int) (O : Nat → Prop) (x : Int) (w : World) (h : QIs w base gq l n O) (hx : x ∈ l) :
    Calls Try.prog 26 #[.pointer (some ⟨gq, 0, none⟩), .int .i64 x] w fun e w' => e = .returned (.bool false) ∧ Drawn0 w w' := by
  obtain ⟨gm, v, S, h⟩ := h
  obtain ⟨c0, c1, _, _⟩ := cell2 h.blk
  have HJ := Aside0.mk (fun q => joins_in gm n S x (w.drewN q) h.set (h.wf x hx) (by rw [h.tells, decide_eq_true hx]))
  clear h hx
  go_enter Try.func26, Try.ntmps26
  go_wp2_with (go_at_call 43; refine (HJ.out 0).mono ?_; rintro e w' ⟨rfl, rfl⟩)
  go_ret
  exact ⟨rfl, Drawn0.refl _⟩

/-- What Push, Pop leave. -/
def QPost (w : World) (base gq : Nat) (l : List Int) (n : Nat) (O : Nat → Prop) (r : Value) (e : Ending) (w' : World) : Prop :=
  e = .returned r ∧ Chg O w w' ∧ ∃ O2 : Nat → Prop, (∀ i, O2 i → O i ∨ w.heap.size ≤ i) ∧ QIs w' base gq l n O2

theorem push_after {w w1 w2 : World} {base gq gm n : Nat} {v v2 : Value} {S : Int → Bool} {l : List Int} {O : Nat → Prop} {x : Int} (h : QAt w base gq gm v S l n O) (hx : wfI x) (hnx : x ∉ l) (o : Obj)
    (hS1 : MSet w1 gm (n + 1) (fun y => if y = x then true else S y)) (hc1 : Chg (fun i => i = gm) w w1) (hO2 : QRowI w2 base v2 (l ++ [x])) (hg : w1.grownBy w2 v.ownBlock) (hat : v2.ownBlock = v.ownBlock ∨ ∃ b, v2.ownBlock = some b ∧ w1.heap.size ≤ b) :
    (w2.cell? ⟨gq, 1, none⟩ = some v ∧ w2.frozen? ⟨gq, 1, none⟩ = false) ∧ Chg O w (w2.setCell ⟨gq, 1, none⟩ v2) ∧ ∃ O2 : Nat → Prop, (∀ i, O2 i → O i ∨ w.heap.size ≤ i) ∧ QIs (w2.setCell ⟨gq, 1, none⟩ v2) base gq (l ++ [x]) (n + 1) O2 := by
  have hq1 : w1.heap[gq]? = some (.cells #[.map (some gm), v] 77 (0, 0)) := hc1.blk h.blk h.ne
  have hcg : Chg (fun i => v.ownBlock = some i) w1 w2 := (Chg.of_grown hg)
  have hq2 : w2.heap[gq]? = some (.cells #[.map (some gm), v] 77 (0, 0)) := hcg.blk hq1 (fun e => (h.orow _ e).2.1 rfl)
  have hc2 := cell2 hq2
  have hltq : gq < w.heap.size := (Array.getElem?_eq_some_iff.1 h.blk).1
  have hltm : gm < w.heap.size := h.set.lt
  have hv2 : ∀ i, v2.ownBlock = some i → (O i ∨ w.heap.size ≤ i) ∧ i ≠ gq ∧ i ≠ gm := by
    intro i hi
    rcases hat with e | ⟨b, e, hb⟩
    · rw [e] at hi
      exact ⟨.inl (h.orow i hi).1, (h.orow i hi).2⟩
    · rw [e] at hi
      injection hi with hi
      have := hc1.size
      exact ⟨.inr (by omega), by omega, by omega⟩
  have hcs : Chg (fun i => i = gq) w2 (w2.setCell ⟨gq, 1, none⟩ v2) := (Chg.refl (fun i => i = gq) w2).setCell (p := ⟨gq, 1, none⟩) (.inl rfl) v2
  refine ⟨⟨hc2.2.1, hc2.2.2.1⟩, ?_, fun i => O i ∨ w.heap.size ≤ i, fun i hi => hi, gm, v2, (fun y => if y = x then true else S y), ?_⟩
  · exact ((hc1.mono (fun i _ e => by subst e; exact h.om) : Chg O w w1).trans hcg (fun i hi => .inl (h.orow i hi).1)).trans hcs (fun i e => by subst e; exact .inl h.oq)
  · refine ⟨by simpa using blk_set hq2 1 v2, ((hS1.chg hcg (fun e => (h.orow _ e).2.2 rfl)).chg hcs (fun e => h.ne e.symm)), ?_, qrow_chg hO2 hcs (fun i hi => (hv2 i hi).2.1), .inl h.oq, .inl h.om, hv2, h.bq, h.bm, h.ne, ?_, ?_, ?_⟩
    · intro y
      by_cases e : y = x
      · subst e
        simp
      · simp only [if_neg e]
        rw [h.tells y]
        simp [e]
    · rw [List.nodup_append]
      exact ⟨h.nodup, by simp, fun a ha b hb => by simp at hb; subst hb; rintro rfl; exact hnx ha⟩
    · intro y hy
      rw [List.mem_append] at hy
      rcases hy with hy | hy
      · exact h.wf y hy
      · simp at hy
        subst hy
        exact hx
    · have := h.len
      simp
      omega

set_option maxHeartbeats 1000000 in
theorem push_new (base gq n : Nat) (l : List Int) (O : Nat → Prop) (x : Int) (w : World) (h : QIs w base gq l n O) (hb : base ≤ w.heap.size) (hn : n < 1000000000000) (hx : wfI x) (hnx : x ∉ l) :
    Calls Try.prog 26 #[.pointer (some ⟨gq, 0, none⟩), .int .i64 x] w (QPost w base gq (l ++ [x]) (n + 1) O (.bool true)) := by
  obtain ⟨gm, v, S, h⟩ := h
  obtain ⟨c0, c1, f1, _⟩ := cell2 h.blk
  have HJ := Aside0.mk (joins_new gm n S x w h.set hn hx (by rw [h.tells, decide_eq_false hnx]))
  have H := Aside0.mk h
  have HNX := Aside0.mk hnx
  have HX := Aside0.mk hx
  have hl := h.len
  obtain ⟨A, c, hv, _⟩ := Kd.Q_slice h.row
  subst hv
  clear h hnx hx
  go_enter Try.func26, Try.ntmps26
  go_wp2_with (first
    | (go_at_call 43; refine HJ.out.mono ?_; rintro e w1 ⟨rfl, hS1, hc1⟩; have HS1 := Aside0.mk hS1; have HC1 := Aside0.mk hc1; have d1 := hc1.cell c1 (fun e => H.out.ne e); clear hS1 hc1)
    | ((with_reducible refine gate_builtin (b := .append) rfl ?_); at_builtin; go_loud (refine Kd.Q_append (Kd.int .i64) (w0 := w1) base rfl _ _ 27 3 (.int .i64 0) 8 rfl Try.underlying27 infoI rfl (by decide) (by decide) (.slice A l.length c) l x [.int .i64 x] (fun _ => True) (fun _ => False) rfl rfl rfl (fun _ hk => hk.elim) (fun _ _ => trivial) (qrow_chg H.out.row HC1.out (fun i hi e => (H.out.orow i hi).2.2 e)) (Below.refl _ _) (Nat.le_trans hb HC1.out.size) (by omega) ?_; intro v2 w2 hO2 _ hg hat; obtain ⟨A2, c2, hv2, _⟩ := Kd.Q_slice hO2; subst hv2; have HP := Aside0.mk (push_after H.out HX.out HNX.out (.map #[] 0) HS1.out HC1.out hO2 hg hat); obtain ⟨⟨d2, f2⟩, _⟩ := HP.out; clear hO2 hg hat)))
  go_ret
  have hP := HP.out.2
  simp only [List.length_append, List.length_cons, List.length_nil, Nat.zero_add] at hP
  exact ⟨rfl, hP⟩

set_option maxHeartbeats 400000 in
theorem pop_empty (base gq n : Nat) (O : Nat → Prop) (w : World) (h : QIs w base gq [] n O) :
    Calls Try.prog 28 #[.pointer (some ⟨gq, 0, none⟩)] w fun e w' => e = .returned (.tuple #[.int .i64 0, .bool false]) ∧ Drawn0 w w' := by
  obtain ⟨gm, v, S, h⟩ := h
  obtain ⟨c0, c1, _, _⟩ := cell2 h.blk
  obtain ⟨A, c, rfl, _⟩ := Kd.Q_slice h.row
  rw [List.length_nil] at c1
  clear h
  go_enter Try.func28, Try.ntmps28
  go_wp2
  go_ret2
  exact ⟨rfl, Drawn0.refl _⟩

/-- Behind the cut of the row and the delete. -/
theorem pop_after {w w2 : World} {base gq gm n : Nat} {v v1 : Value} {S : Int → Bool} {x : Int} {l : List Int} {O : Nat → Prop} (h : QAt w base gq gm v S (x :: l) n O)
    (hv1 : QRowI w base v1 l) (ho : ∀ i, v1.ownBlock = some i → v.ownBlock = some i) (hS : MSet w2 gm n (fun y => if y = x then false else S y)) (hc : Chg (fun i => i = gm) (w.setCell ⟨gq, 1, none⟩ v1) w2) :
    Chg O w w2 ∧ QIs w2 base gq l n O := by
  have hcs : Chg (fun i => i = gq) w (w.setCell ⟨gq, 1, none⟩ v1) := (Chg.refl (fun i => i = gq) w).setCell (p := ⟨gq, 1, none⟩) (.inl rfl) v1
  have hq1 : (w.setCell ⟨gq, 1, none⟩ v1).heap[gq]? = some (.cells #[.map (some gm), v1] 77 (0, 0)) := by simpa using blk_set h.blk 1 v1
  refine ⟨((hcs.mono (fun i _ e => by subst e; exact h.oq) : Chg O w _)).trans hc (fun i e => by subst e; exact .inl h.om), gm, v1, _, hc.blk hq1 h.ne, hS, ?_, ?_, h.oq, h.om, fun i hi => h.orow i (ho i hi), h.bq, h.bm, h.ne, (List.nodup_cons.1 h.nodup).2, fun y hy => h.wf y (List.mem_cons_of_mem _ hy), ?_⟩
  · intro y
    by_cases e : y = x
    · subst e
      simp [(List.nodup_cons.1 h.nodup).1]
    · simp only [if_neg e]
      rw [h.tells y]
      simp [e]
  · exact qrow_chg (qrow_chg hv1 hcs (fun i hi => (h.orow i (ho i hi)).2.1)) hc (fun i hi => (h.orow i (ho i hi)).2.2)
  · have := h.len
    simp at this
    omega

set_option maxHeartbeats 1000000 in
theorem pop_some (base gq n : Nat) (x : Int) (l : List Int) (O : Nat → Prop) (w : World) (h : QIs w base gq (x :: l) n O) :
    Calls Try.prog 28 #[.pointer (some ⟨gq, 0, none⟩)] w (fun e w' => e = .returned (.tuple #[.int .i64 x, .bool true]) ∧ Chg O w w' ∧ QIs w' base gq l n O) := by
  obtain ⟨gm, v, S, h⟩ := h
  obtain ⟨c0, c1, f1, _⟩ := cell2 h.blk
  obtain ⟨A, c, hv, hlc⟩ := Kd.Q_slice h.row
  subst hv
  obtain ⟨A', c', hv', _, hC⟩ := Kd.Q_reads h.row
  injection hv' with e1 e2 e3
  subst e1 e3
  obtain ⟨ad, rfl, hcx⟩ := at_head' hC
  have hdrop := Kd.Q_drop (k := 1) h.row (by simp)
  have hl1 : (x :: l).drop 1 = l := rfl
  rw [hl1] at hdrop
  have H := Aside0.mk h
  clear hC hlc
  simp only [List.length_cons] at c1
  by_cases hc1 : c = 1
  · subst hc1
    rw [if_pos rfl] at hdrop
    have HD := Aside0.mk (show QRowI w base (.slice (some ad) l.length 0) l from by simpa using hdrop)
    have HS := Aside0.mk (H.out.set.chg ((Chg.refl (fun i => i = gq) w).setCell (p := ⟨gq, 1, none⟩) (.inl rfl) (.slice (some ad) l.length 0)) (fun e => H.out.ne e.symm))
    have HX := Aside0.mk (H.out.wf x (by simp))
    have HOW := Aside0.mk (show ∀ i, (Value.slice (some ad) l.length 0).ownBlock = some i → (Value.slice (some ad) (l.length + 1) 1).ownBlock = some i from fun i h => h)
    clear hdrop
    go_enter Try.func28, Try.ntmps28
    go_wp2_with (((with_reducible refine gate_builtin (b := .delete) rfl ?_); at_delete; go_loud (refine wpList_del_set rfl _ _ 75 rfl Try.underlying3 Try.underlying75 rfl HS.out x rfl HX.out ?_; intro w2 hS2 hc2; have HP := Aside0.mk (pop_after H.out HD.out HOW.out hS2 hc2); clear hS2 hc2)))
    go_ret2
    exact ⟨rfl, HP.out.1, HP.out.2⟩
  · rw [if_neg hc1] at hdrop
    have HD := Aside0.mk (show QRowI w base (.slice (some ⟨ad.block, ad.off + 1, none⟩) l.length (c - 1)) l from by simpa [Addr.add, show (Kd.int .i64).sz = 1 from rfl] using hdrop)
    have HS := Aside0.mk (H.out.set.chg ((Chg.refl (fun i => i = gq) w).setCell (p := ⟨gq, 1, none⟩) (.inl rfl) (.slice (some ⟨ad.block, ad.off + 1, none⟩) l.length (c - 1))) (fun e => H.out.ne e.symm))
    have HX := Aside0.mk (H.out.wf x (by simp))
    have HOW := Aside0.mk (show ∀ i, (Value.slice (some ⟨ad.block, ad.off + 1, none⟩) l.length (c - 1)).ownBlock = some i → (Value.slice (some ad) (l.length + 1) c).ownBlock = some i from fun i h => h)
    clear hdrop
    go_enter Try.func28, Try.ntmps28
    go_wp2_with (((with_reducible refine gate_builtin (b := .delete) rfl ?_); at_delete; go_loud (refine wpList_del_set rfl _ _ 75 rfl Try.underlying3 Try.underlying75 rfl HS.out x rfl HX.out ?_; intro w2 hS2 hc2; have HP := Aside0.mk (pop_after H.out HD.out HOW.out hS2 hc2); clear hS2 hc2)))
    go_ret2
    exact ⟨rfl, HP.out.1, HP.out.2⟩

theorem QIs.tight {W : World} {base gq n : Nat} {l : List Int} {O : Nat → Prop} (h : QIs W base gq l n O) : QIs W base gq l n (fun i => O i ∧ i < W.heap.size) := by
  obtain ⟨gm, v, S, h⟩ := h
  exact ⟨gm, v, S, { h with oq := ⟨h.oq, (Array.getElem?_eq_some_iff.1 h.blk).1⟩, om := ⟨h.om, h.set.lt⟩, orow := fun i hi => ⟨⟨(h.orow i hi).1, Kd.Q_lt h.row i hi⟩, (h.orow i hi).2⟩ }⟩

/-! ### a queue beside what others own -/
/-- A queue of T, made by the call that began in w; its blocks are none of R. -/
structure QB (w W : World) (gq : Nat) (T : List Int) (n : Nat) (R : Nat → Prop) : Prop where
  bel : Below w.heap.size w W
  que : ∃ (base : Nat) (O : Nat → Prop), base ≤ W.heap.size ∧ QIs W base gq T n O ∧ ∀ i, O i → w.heap.size ≤ i ∧ i < W.heap.size ∧ ¬ R i

variable {w W W' : World} {gq n : Nat} {T : List Int} {R R' S : Nat → Prop}
/-- The others have turned theirs, and made more. -/
theorem QB.step (h : QB w W gq T n R) (hc : Chg S W W') (hS : ∀ i, S i → (R i ∧ w.heap.size ≤ i) ∨ W.heap.size ≤ i) (hR' : ∀ i, R' i → R i ∨ W.heap.size ≤ i) : QB w W' gq T n R' := by
  obtain ⟨base, O, h1, h2, h3⟩ := h.que
  have hs := h.bel.size
  refine ⟨h.bel.trans (hc.below hs (fun i hi => (hS i hi).elim (fun h => h.2) (fun h => by omega))), base, O, Nat.le_trans h1 hc.size, h2.chg hc (fun i hi ho => ?_), fun i hi => ⟨(h3 i hi).1, Nat.lt_of_lt_of_le (h3 i hi).2.1 hc.size, fun hr => ?_⟩⟩
  · have := h3 i ho
    rcases hS i hi with h | h
    · exact this.2.2 h.1
    · omega
  · have := h3 i hi
    rcases hR' i hr with h | h
    · exact this.2.2 h
    · omega
theorem QB.drawn (h : QB w W gq T n R) (hd : Drawn0 W W') : QB w W' gq T n R := h.step (Chg.of_below hd.below (fun _ => False)) (fun _ h => h.elim) (fun _ h => .inl h)
theorem QB.less (h : QB w W gq T n R) (hR : ∀ i, R' i → R i) : QB w W gq T n R' := h.step (Chg.refl (fun _ => False) W) (fun _ h => h.elim) (fun i h => .inl (hR i h))
theorem QB.len_le (h : QB w W gq T n R) : T.length ≤ n := by
  obtain ⟨base, O, h1, ⟨gm, v', S, h2⟩, h3⟩ := h.que
  exact h2.len
/-- The queue has turned. -/
theorem QB.turned {base n' : Nat} {T' : List Int} {O O2 : Nat → Prop} (h : Below w.heap.size w W) (hb : base ≤ W.heap.size) (h3 : ∀ i, O i → w.heap.size ≤ i ∧ i < W.heap.size ∧ ¬ R i) (hR : ∀ i, R i → i < W.heap.size) (hc : Chg O W W') (hO2 : ∀ i, O2 i → O i ∨ W.heap.size ≤ i) (hq : QIs W' base gq T' n' O2) : QB w W' gq T' n' R ∧ Chg (fun i => w.heap.size ≤ i ∧ ¬ R i) W W' := by
  have hs := h.size
  refine ⟨⟨h.trans (hc.below hs (fun i hi => (h3 i hi).1)), base, _, Nat.le_trans hb hc.size, hq.tight, fun i hi => ⟨?_, hi.2, fun hr => ?_⟩⟩, hc.mono (fun i _ hi => ⟨(h3 i hi).1, (h3 i hi).2.2⟩)⟩
  · rcases hO2 i hi.1 with h | h
    · exact (h3 i h).1
    · omega
  · rcases hO2 i hi.1 with h | h
    · exact (h3 i h).2.2 hr
    · have := hR i hr; omega
theorem QB.push (h : QB w W gq T n R) (hR : ∀ i, R i → i < W.heap.size) (hn : n < 1000000000000) (x : Int) (hx : wfI x) :
    Calls Try.prog 26 #[.pointer (some ⟨gq, 0, none⟩), .int .i64 x] W fun e W' => e = .returned (.bool (!decide (x ∈ T))) ∧ QB w W' gq (if x ∈ T then T else T ++ [x]) (n + 1) R ∧ Chg (fun i => w.heap.size ≤ i ∧ ¬ R i) W W' := by
  obtain ⟨base, O, h1, h2, h3⟩ := h.que
  by_cases hm : x ∈ T
  · refine (push_in base gq n T O x W h2 hm).mono ?_
    rintro e W' ⟨rfl, hd⟩
    refine ⟨by simp [hm], ?_, Chg.of_below hd.below _⟩
    rw [if_pos hm]
    obtain ⟨base', O', g1, ⟨gm, v', S, g2⟩, g3⟩ := (h.drawn hd).que
    exact ⟨(h.drawn hd).bel, base', O', g1, ⟨gm, v', S, { g2 with set := g2.set.mono (Nat.le_succ _), len := Nat.le_succ_of_le g2.len }⟩, g3⟩
  · refine (push_new base gq n T O x W h2 h1 hn hx hm).mono ?_
    rintro e W' ⟨rfl, hc, O2, hO2, hq⟩
    refine ⟨by simp [hm], ?_⟩
    rw [if_neg hm]
    exact QB.turned h.bel h1 h3 hR hc hO2 hq
theorem QB.length (h : QB w W gq T n R) :
    Calls Try.prog 27 #[.pointer (some ⟨gq, 0, none⟩)] W fun e W' => e = .returned (.int .i64 T.length) ∧ Drawn0 W W' := by
  obtain ⟨base, O, h1, h2, h3⟩ := h.que
  exact len_calls base gq n T O W h2
theorem QB.pop_none (h : QB w W gq [] n R) :
    Calls Try.prog 28 #[.pointer (some ⟨gq, 0, none⟩)] W fun e W' => e = .returned (.tuple #[.int .i64 0, .bool false]) ∧ Drawn0 W W' := by
  obtain ⟨base, O, h1, h2, h3⟩ := h.que
  exact pop_empty base gq n O W h2
theorem QB.pop {x : Int} (h : QB w W gq (x :: T) n R) (hR : ∀ i, R i → i < W.heap.size) :
    Calls Try.prog 28 #[.pointer (some ⟨gq, 0, none⟩)] W fun e W' => e = .returned (.tuple #[.int .i64 x, .bool true]) ∧ QB w W' gq T n R ∧ Chg (fun i => w.heap.size ≤ i ∧ ¬ R i) W W' := by
  obtain ⟨base, O, h1, h2, h3⟩ := h.que
  refine (pop_some base gq n x T O W h2).mono ?_
  rintro e W' ⟨rfl, hc, hq⟩
  exact ⟨rfl, QB.turned h.bel h1 h3 hR hc (fun i h => .inl h) hq⟩
/-- A new queue. -/
theorem new_qb (h : Below w.heap.size w W) (hR : ∀ i, R i → i < W.heap.size) :
    Calls Try.prog 25 #[] W fun e W' => ∃ gq, e = .returned (.pointer (some ⟨gq, 0, none⟩)) ∧ QB w W' gq [] 0 R ∧ Below W.heap.size W W' := by
  refine (new_calls W).mono ?_
  rintro e W' ⟨rfl, hq, hb, hs⟩
  have := h.size
  exact ⟨_, rfl, ⟨h.trans (hb.mono h.size), W.heap.size, _, by omega, ⟨_, _, _, hq⟩, fun i hi => by
    refine ⟨?_, ?_, fun hr => ?_⟩
    · rcases hi with rfl | rfl <;> omega
    · rcases hi with rfl | rfl <;> omega
    · have := hR i hr; rcases hi with rfl | rfl <;> omega⟩, hb⟩

end Go.Proofs.Ytondngpmhlemkaa.Ext
