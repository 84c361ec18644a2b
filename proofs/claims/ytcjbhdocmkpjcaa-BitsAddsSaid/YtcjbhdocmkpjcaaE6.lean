/- bits.Queue: New, Push, Pop, Len. -/
import Derived.Test.YtcjbhdocmkpjcaaE2
import Derived.Test.YtcjbhdocmkpjcaaISet
namespace Go.Proofs.Ytcjbhdocmkpjcaa.Ext
open Go.RowKit Go.Proofs.YtcjbhdocmkpjcaaW.PrintWords Go.Proofs.YtcjbhdocmkpjcaaW.PrintLast Go.Proofs.Ytcjbhdocmkpjcaa.Pr Go.Proofs.Ytcjbhdocmkpjcaa.Base Go.Proofs.Ytcjbhdocmkpjcaa.Iter Go.Proofs.Ytcjbhdocmkpjcaa.ISet
set_option linter.unusedVariables false
set_option linter.unusedSimpArgs false

abbrev MSet (W : World) (b n : Nat) (S : Int → Bool) : Prop := ISet Try.prog 3 4 W b n S

theorem run_lookup_set {W : World} {b n : Nat} {S : Int → Bool} (h : MSet W b n S) (x : Int) (hx : wfI x) : (Instr.lookup 51 (.map (some b)) (.int .i64 x) false).run Try.prog W = .ok (.bool (S x)) W :=
  h.look Try.underlying3 Try.underlying4 Try.underlying51 (Try.zeroValue4 W) x hx

set_option maxHeartbeats 400000 in
theorem joins_in (gm n : Nat) (S : Int → Bool) (x : Int) (w : World) (h : MSet w gm n S) (hx : wfI x) (hS : S x = true) :
    Calls Try.prog 34 #[.map (some gm), .int .i64 x] w fun e w' => e = .returned (.bool false) ∧ w' = w := by
  have hl := run_lookup_set h x hx
  rw [hS] at hl
  clear h hS
  go_enter Try.func34, Try.ntmps34
  go_wp2
  go_ret
  exact ⟨rfl, rfl⟩

set_option maxHeartbeats 400000 in
theorem joins_new (gm n : Nat) (S : Int → Bool) (x : Int) (w : World) (h : MSet w gm n S) (hn : n < 1000000000000) (hx : wfI x) (hS : S x = false) :
    Calls Try.prog 34 #[.map (some gm), .int .i64 x] w fun e w' => e = .returned (.bool true) ∧ MSet w' gm (n + 1) (fun y => if y = x then true else S y) ∧ Chg (fun i => i = gm) w w' := by
  have hl := run_lookup_set h x hx
  rw [hS] at hl
  obtain ⟨w1, hrun, h1, hc⟩ := h.put (t := 51) Try.underlying3 Try.underlying4 Try.underlying51 (by simp only [maxLen]; omega) x hx true
  have H1 := Aside0.mk h1
  have HC := Aside0.mk hc
  clear h hS h1 hc
  go_enter Try.func34, Try.ntmps34
  go_wp2
  go_ret
  exact ⟨rfl, H1.out, HC.out⟩

abbrev QRowI (W : World) (base : Nat) (v : Value) (xs : List Int) : Prop := Kd.Q (Kd.int .i64) 3 W base (fun _ => True) v xs

theorem at_getD' {w : World} {A : Option Addr} {xs : List Int} (h : Kd.C (Kd.int .i64) w A xs.length xs) (k : Nat) (hk : k < xs.length) : ∃ ad, A = some ad ∧ w.cell? (ad.add k) = some (.int .i64 (xs.getD k 0)) := by
  obtain ⟨ad, e, hc⟩ := Kd.at_int h (k : Int) (by omega) (by omega)
  rw [Int.toNat_natCast] at hc
  unfold rd at hc
  rw [Int.toNat_natCast] at hc
  exact ⟨ad, e, hc⟩
theorem at_head' {w : World} {A : Option Addr} {x : Int} {r : List Int} (h : Kd.C (Kd.int .i64) w A (x :: r).length (x :: r)) : ∃ ad, A = some ad ∧ w.cell? ad = some (.int .i64 x) := by
  obtain ⟨ad, e, hc⟩ := at_getD' h 0 (by simp)
  exact ⟨ad, e, by simpa [Addr.add] using hc⟩

/-- A queue: its block, its set's block gm, its row v; of the numbers l; all it owns is in O. -/
structure QAt (W : World) (base gq gm : Nat) (v : Value) (S : Int → Bool) (l : List Int) (n : Nat) (O : Nat → Prop) : Prop where
  blk : W.heap[gq]? = some (.cells #[.map (some gm), v] 53 (0, 0))
  set : MSet W gm n S
  tells : ∀ x, S x = decide (x ∈ l)
  row : QRowI W base v l
  oq : O gq
  om : O gm
  orow : ∀ i, v.ownBlock = some i → O i ∧ i ≠ gq ∧ i ≠ gm
  bq : base ≤ gq
  bm : base ≤ gm
  ne : gq ≠ gm
  nodup : l.Nodup
  wf : ∀ x ∈ l, wfI x
  len : l.length ≤ n

theorem cell2 {W : World} {g : Nat} {a b : Value} {t : TypeId} (h : W.heap[g]? = some (.cells #[a, b] t (0, 0))) :
    W.cell? ⟨g, 0, none⟩ = some a ∧ W.cell? ⟨g, 1, none⟩ = some b ∧ W.frozen? ⟨g, 1, none⟩ = false ∧ W.frozen? ⟨g, 0, none⟩ = false := by
  refine ⟨?_, ?_, ?_, ?_⟩ <;> simp [World.cell?, World.frozen?, h]

theorem qrow_chg {W W' : World} {base : Nat} {v : Value} {xs : List Int} {T : Nat → Prop} (h : QRowI W base v xs) (hc : Chg T W W') (hn : ∀ k, v.ownBlock = some k → ¬ T k) : QRowI W' base v xs := by
  have h1 := Kd.Q_tight (by rfl) h
  exact Kd.Q_mono (Kd.Q_step h1 (fun k hk hlt => hc.block k hlt (hn k hk.symm))) (fun _ _ => trivial)

theorem QAt.chg {W W' : World} {base gq gm n : Nat} {v : Value} {S : Int → Bool} {l : List Int} {O T : Nat → Prop} (h : QAt W base gq gm v S l n O) (hc : Chg T W W') (hT : ∀ i, T i → ¬ O i) : QAt W' base gq gm v S l n O :=
  { h with blk := hc.blk h.blk (fun ht => hT _ ht h.oq), set := h.set.chg hc (fun ht => hT _ ht h.om), row := qrow_chg h.row hc (fun i hi ht => hT i ht (h.orow i hi).1) }
theorem QAt.own {W : World} {base gq gm n : Nat} {v : Value} {S : Int → Bool} {l : List Int} {O O' : Nat → Prop} (h : QAt W base gq gm v S l n O) (hO : ∀ i, O i → O' i) : QAt W base gq gm v S l n O' :=
  { h with oq := hO _ h.oq, om := hO _ h.om, orow := fun i hi => ⟨hO _ (h.orow i hi).1, (h.orow i hi).2⟩ }

set_option maxHeartbeats 400000 in
theorem new_calls (w : World) :
    Calls Try.prog 15 #[] w fun e w' => e = .returned (.pointer (some ⟨w.heap.size + 1, 0, none⟩)) ∧ QAt w' w.heap.size (w.heap.size + 1) w.heap.size (.slice none 0 0) (fun _ => false) [] 0 (fun i => i = w.heap.size ∨ i = w.heap.size + 1) ∧ Below w.heap.size w w' ∧ w'.heap.size = w.heap.size + 2 := by
  have hmm := @run_makeMap Try.prog
  go_enter Try.func15, Try.ntmps15
  go_wp2
  go_ret
  have h1 : Below w.heap.size w (w.alloc (.map #[] 0)) := (Below.refl _ w).alloc (Nat.le_refl _) _
  have h2 : Below w.heap.size w ((w.alloc (.map #[] 0)).alloc (.cells #[.map (some w.heap.size), .slice none 0 0] 53)) := h1.alloc (by simp) _
  refine ⟨rfl, ⟨?_, ?_, fun x => by simp, Kd.Q_nil _ _ _ _ _, .inr rfl, .inl rfl, fun i hi => by simp [Value.ownBlock] at hi, by omega, by omega, by omega, by simp, by simp, by simp⟩, h2, by simp⟩
  · have := heap_alloc_new (w.alloc (.map #[] 0)) (.cells #[.map (some w.heap.size), .slice none 0 0] 53)
    simpa using this
  · exact (ISet.made w).chg ((Chg.refl (fun _ => False) _).alloc _) (fun h => h)

set_option maxHeartbeats 400000 in
theorem push_nil (n : Int) (w : World) : Calls Try.prog 18 #[.pointer none, .int .i64 n] w fun e w' => e = .returned (.bool false) ∧ Drawn0 w w' := by
  go_enter Try.func18, Try.ntmps18
  go_wp2
  go_ret
  exact ⟨rfl, Drawn0.refl _⟩

set_option maxHeartbeats 400000 in
theorem pop_nil (w : World) : Calls Try.prog 16 #[.pointer none] w fun e w' => e = .returned (.tuple #[.int .i64 0, .bool false]) ∧ Drawn0 w w' := by
  go_enter Try.func16, Try.ntmps16
  go_wp2
  go_ret2
  exact ⟨rfl, Drawn0.refl _⟩

set_option maxHeartbeats 400000 in
theorem len_nil (w : World) : Calls Try.prog 19 #[.pointer none] w fun e w' => e = .returned (.int .i64 0) ∧ Drawn0 w w' := by
  go_enter Try.func19, Try.ntmps19
  go_wp2
  go_ret
  exact ⟨rfl, Drawn0.refl _⟩

/-- A queue in l, whatever its blocks. -/
def QIs (W : World) (base gq : Nat) (l : List Int) (n : Nat) (O : Nat → Prop) : Prop := ∃ gm v S, QAt W base gq gm v S l n O

theorem QIs.chg {W W' : World} {base gq n : Nat} {l : List Int} {O T : Nat → Prop} (h : QIs W base gq l n O) (hc : Chg T W W') (hT : ∀ i, T i → ¬ O i) : QIs W' base gq l n O := by
  obtain ⟨gm, v, S, h⟩ := h
  exact ⟨gm, v, S, h.chg hc hT⟩
theorem QIs.own {W : World} {base gq n : Nat} {l : List Int} {O O' : Nat → Prop} (h : QIs W base gq l n O) (hO : ∀ i, O i → O' i) : QIs W base gq l n O' := by
  obtain ⟨gm, v, S, h⟩ := h
  exact ⟨gm, v, S, h.own hO⟩

set_option maxHeartbeats 400000 in
theorem len_calls (base gq n : Nat) (l : List Int) (O : Nat → Prop) (w : World) (h : QIs w base gq l n O) :
    Calls Try.prog 19 #[.pointer (some ⟨gq, 0, none⟩)] w fun e w' => e = .returned (.int .i64 l.length) ∧ Drawn0 w w' := by
  obtain ⟨gm, v, S, h⟩ := h
  obtain ⟨c0, c1, _, _⟩ := cell2 h.blk
  obtain ⟨A, c, rfl, _⟩ := Kd.Q_slice h.row
  clear h
  go_enter Try.func19, Try.ntmps19
  go_wp2
  go_ret
  exact ⟨rfl, Drawn0.refl _⟩

set_option maxHeartbeats 400000 in
theorem push_in (base gq n : Nat) (l : List Int) (O : Nat → Prop) (x : Int) (w : World) (h : QIs w base gq l n O) (hx : x ∈ l) :
    Calls Try.prog 18 #[.pointer (some ⟨gq, 0, none⟩), .int .i64 x] w fun e w' => e = .returned (.bool false) ∧ Drawn0 w w' := by
  obtain ⟨gm, v, S, h⟩ := h
  obtain ⟨c0, c1, _, _⟩ := cell2 h.blk
  have HJ := Aside0.mk (fun q => joins_in gm n S x (w.drewN q) h.set (h.wf x hx) (by rw [h.tells, decide_eq_true hx]))
  clear h hx
  go_enter Try.func18, Try.ntmps18
  go_wp2_with (go_at_call 34; refine (HJ.out 0).mono ?_; rintro e w' ⟨rfl, rfl⟩)
  go_ret
  exact ⟨rfl, Drawn0.refl _⟩

/-- What Push, Pop leave. -/
def QPost (w : World) (base gq : Nat) (l : List Int) (n : Nat) (O : Nat → Prop) (r : Value) (e : Ending) (w' : World) : Prop :=
  e = .returned r ∧ Chg O w w' ∧ ∃ O2 : Nat → Prop, (∀ i, O2 i → O i ∨ w.heap.size ≤ i) ∧ QIs w' base gq l n O2

theorem push_after {w w1 w2 : World} {base gq gm n : Nat} {v v2 : Value} {S : Int → Bool} {l : List Int} {O : Nat → Prop} {x : Int} (h : QAt w base gq gm v S l n O) (hx : wfI x) (hnx : x ∉ l) (o : Obj)
    (hS1 : MSet w1 gm (n + 1) (fun y => if y = x then true else S y)) (hc1 : Chg (fun i => i = gm) w w1) (hO2 : QRowI w2 base v2 (l ++ [x])) (hg : w1.grownBy w2 v.ownBlock) (hat : v2.ownBlock = v.ownBlock ∨ ∃ b, v2.ownBlock = some b ∧ w1.heap.size ≤ b) :
    (w2.cell? ⟨gq, 1, none⟩ = some v ∧ w2.frozen? ⟨gq, 1, none⟩ = false) ∧ Chg O w (w2.setCell ⟨gq, 1, none⟩ v2) ∧ ∃ O2 : Nat → Prop, (∀ i, O2 i → O i ∨ w.heap.size ≤ i) ∧ QIs (w2.setCell ⟨gq, 1, none⟩ v2) base gq (l ++ [x]) (n + 1) O2 := by
  have hq1 : w1.heap[gq]? = some (.cells #[.map (some gm), v] 53 (0, 0)) := hc1.blk h.blk h.ne
  have hcg : Chg (fun i => v.ownBlock = some i) w1 w2 := (Chg.of_grown hg)
  have hq2 : w2.heap[gq]? = some (.cells #[.map (some gm), v] 53 (0, 0)) := hcg.blk hq1 (fun e => (h.orow _ e).2.1 rfl)
  have hc2 := cell2 hq2
  have hltq : gq < w.heap.size := (Array.getElem?_eq_some_iff.1 h.blk).1
  have hltm : gm < w.heap.size := h.set.lt
  have hv2 : ∀ i, v2.ownBlock = some i → (O i ∨ w.heap.size ≤ i) ∧ i ≠ gq ∧ i ≠ gm := by
    intro i hi
    rcases hat with e | ⟨b, e, hb⟩
    · rw [e] at hi
      exact ⟨.inl (h.orow i hi).1, (h.orow i hi).2⟩
    · rw [e] at hi
      injection hi with hi
      have := hc1.size
      exact ⟨.inr (by omega), by omega, by omega⟩
  have hcs : Chg (fun i => i = gq) w2 (w2.setCell ⟨gq, 1, none⟩ v2) := (Chg.refl (fun i => i = gq) w2).setCell (p := ⟨gq, 1, none⟩) (.inl rfl) v2
  refine ⟨⟨hc2.2.1, hc2.2.2.1⟩, ?_, fun i => O i ∨ w.heap.size ≤ i, fun i hi => hi, gm, v2, (fun y => if y = x then true else S y), ?_⟩
  · exact ((hc1.mono (fun i _ e => by subst e; exact h.om) : Chg O w w1).trans hcg (fun i hi => .inl (h.orow i hi).1)).trans hcs (fun i e => by subst e; exact .inl h.oq)
  · refine ⟨by simpa using blk_set hq2 1 v2, ((hS1.chg hcg (fun e => (h.orow _ e).2.2 rfl)).chg hcs (fun e => h.ne e.symm)), ?_, qrow_chg hO2 hcs (fun i hi => (hv2 i hi).2.1), .inl h.oq, .inl h.om, hv2, h.bq, h.bm, h.ne, ?_, ?_, ?_⟩
    · intro y
      by_cases e : y = x
      · subst e
        simp
      · simp only [if_neg e]
        rw [h.tells y]
        simp [e]
    · rw [List.nodup_append]
      exact ⟨h.nodup, by simp, fun a ha b hb => by simp at hb; subst hb; rintro rfl; exact hnx ha⟩
    · intro y hy
      rw [List.mem_append] at hy
      rcases hy with hy | hy
      · exact h.wf y hy
      · simp at hy
        subst hy
        exact hx
    · have := h.len
      simp
      omega

set_option maxHeartbeats 1000000 in
theorem push_new (base gq n : Nat) (l : List Int) (O : Nat → Prop) (x : Int) (w : World) (h : QIs w base gq l n O) (hb : base ≤ w.heap.size) (hn : n < 1000000000000) (hx : wfI x) (hnx : x ∉ l) :
    Calls Try.prog 18 #[.pointer (some ⟨gq, 0, none⟩), .int .i64 x] w (QPost w base gq (l ++ [x]) (n + 1) O (.bool true)) := by
  obtain ⟨gm, v, S, h⟩ := h
  obtain ⟨c0, c1, f1, _⟩ := cell2 h.blk
  have HJ := Aside0.mk (joins_new gm n S x w h.set hn hx (by rw [h.tells, decide_eq_false hnx]))
  have H := Aside0.mk h
  have HNX := Aside0.mk hnx
  have HX := Aside0.mk hx
  have hl := h.len
  obtain ⟨A, c, hv, _⟩ := Kd.Q_slice h.row
  subst hv
  clear h hnx hx
  go_enter Try.func18, Try.ntmps18
  go_wp2_with (first
    | (go_at_call 34; refine HJ.out.mono ?_; rintro e w1 ⟨rfl, hS1, hc1⟩; have HS1 := Aside0.mk hS1; have HC1 := Aside0.mk hc1; have d1 := hc1.cell c1 (fun e => H.out.ne e); clear hS1 hc1)
    | ((with_reducible refine gate_builtin (b := .append) rfl ?_); at_builtin; go_loud (refine Kd.Q_append (Kd.int .i64) (w0 := w1) base rfl _ _ 24 3 (.int .i64 0) 8 rfl Try.underlying24 infoI rfl (by decide) (by decide) (.slice A l.length c) l x [.int .i64 x] (fun _ => True) (fun _ => False) rfl rfl rfl (fun _ hk => hk.elim) (fun _ _ => trivial) (qrow_chg H.out.row HC1.out (fun i hi e => (H.out.orow i hi).2.2 e)) (Below.refl _ _) (Nat.le_trans hb HC1.out.size) (by omega) ?_; intro v2 w2 hO2 _ hg hat; obtain ⟨A2, c2, hv2, _⟩ := Kd.Q_slice hO2; subst hv2; have HP := Aside0.mk (push_after H.out HX.out HNX.out (.map #[] 0) HS1.out HC1.out hO2 hg hat); obtain ⟨⟨d2, f2⟩, _⟩ := HP.out; clear hO2 hg hat)))
  go_ret
  have hP := HP.out.2
  simp only [List.length_append, List.length_cons, List.length_nil, Nat.zero_add] at hP
  exact ⟨rfl, hP⟩

set_option maxHeartbeats 400000 in
theorem pop_empty (base gq n : Nat) (O : Nat → Prop) (w : World) (h : QIs w base gq [] n O) :
    Calls Try.prog 16 #[.pointer (some ⟨gq, 0, none⟩)] w fun e w' => e = .returned (.tuple #[.int .i64 0, .bool false]) ∧ Drawn0 w w' := by
  obtain ⟨gm, v, S, h⟩ := h
  obtain ⟨c0, c1, _, _⟩ := cell2 h.blk
  obtain ⟨A, c, rfl, _⟩ := Kd.Q_slice h.row
  rw [List.length_nil] at c1
  clear h
  go_enter Try.func16, Try.ntmps16
  go_wp2
  go_ret2
  exact ⟨rfl, Drawn0.refl _⟩

/-- Behind the cut of the row and the delete. -/
theorem pop_after {w w2 : World} {base gq gm n : Nat} {v v1 : Value} {S : Int → Bool} {x : Int} {l : List Int} {O : Nat → Prop} (h : QAt w base gq gm v S (x :: l) n O)
    (hv1 : QRowI w base v1 l) (ho : ∀ i, v1.ownBlock = some i → v.ownBlock = some i) (hS : MSet w2 gm n (fun y => if y = x then false else S y)) (hc : Chg (fun i => i = gm) (w.setCell ⟨gq, 1, none⟩ v1) w2) :
    Chg O w w2 ∧ QIs w2 base gq l n O := by
  have hcs : Chg (fun i => i = gq) w (w.setCell ⟨gq, 1, none⟩ v1) := (Chg.refl (fun i => i = gq) w).setCell (p := ⟨gq, 1, none⟩) (.inl rfl) v1
  have hq1 : (w.setCell ⟨gq, 1, none⟩ v1).heap[gq]? = some (.cells #[.map (some gm), v1] 53 (0, 0)) := by simpa using blk_set h.blk 1 v1
  refine ⟨((hcs.mono (fun i _ e => by subst e; exact h.oq) : Chg O w _)).trans hc (fun i e => by subst e; exact .inl h.om), gm, v1, _, hc.blk hq1 h.ne, hS, ?_, ?_, h.oq, h.om, fun i hi => h.orow i (ho i hi), h.bq, h.bm, h.ne, (List.nodup_cons.1 h.nodup).2, fun y hy => h.wf y (List.mem_cons_of_mem _ hy), ?_⟩
  · intro y
    by_cases e : y = x
    · subst e
      simp [(List.nodup_cons.1 h.nodup).1]
    · simp only [if_neg e]
      rw [h.tells y]
      simp [e]
  · exact qrow_chg (qrow_chg hv1 hcs (fun i hi => (h.orow i (ho i hi)).2.1)) hc (fun i hi => (h.orow i (ho i hi)).2.2)
  · have := h.len
    simp at this
    omega

set_option maxHeartbeats 1000000 in
theorem pop_some (base gq n : Nat) (x : Int) (l : List Int) (O : Nat → Prop) (w : World) (h : QIs w base gq (x :: l) n O) :
    Calls Try.prog 16 #[.pointer (some ⟨gq, 0, none⟩)] w (fun e w' => e = .returned (.tuple #[.int .i64 x, .bool true]) ∧ Chg O w w' ∧ QIs w' base gq l n O) := by
  obtain ⟨gm, v, S, h⟩ := h
  obtain ⟨c0, c1, f1, _⟩ := cell2 h.blk
  obtain ⟨A, c, hv, hlc⟩ := Kd.Q_slice h.row
  subst hv
  obtain ⟨A', c', hv', _, hC⟩ := Kd.Q_reads h.row
  injection hv' with e1 e2 e3
  subst e1 e3
  obtain ⟨ad, rfl, hcx⟩ := at_head' hC
  have hdrop := Kd.Q_drop (k := 1) h.row (by simp)
  have hl1 : (x :: l).drop 1 = l := rfl
  rw [hl1] at hdrop
  have H := Aside0.mk h
  clear hC hlc
  simp only [List.length_cons] at c1
  by_cases hc1 : c = 1
  · subst hc1
    rw [if_pos rfl] at hdrop
    have HD := Aside0.mk (show QRowI w base (.slice (some ad) l.length 0) l from by simpa using hdrop)
    have HS := Aside0.mk (H.out.set.chg ((Chg.refl (fun i => i = gq) w).setCell (p := ⟨gq, 1, none⟩) (.inl rfl) (.slice (some ad) l.length 0)) (fun e => H.out.ne e.symm))
    have HX := Aside0.mk (H.out.wf x (by simp))
    have HOW := Aside0.mk (show ∀ i, (Value.slice (some ad) l.length 0).ownBlock = some i → (Value.slice (some ad) (l.length + 1) 1).ownBlock = some i from fun i h => h)
    clear hdrop
    go_enter Try.func16, Try.ntmps16
    go_wp2_with (((with_reducible refine gate_builtin (b := .delete) rfl ?_); at_delete; go_loud (refine wpList_del_set rfl _ _ 51 rfl Try.underlying3 Try.underlying51 rfl HS.out x rfl HX.out ?_; intro w2 hS2 hc2; have HP := Aside0.mk (pop_after H.out HD.out HOW.out hS2 hc2); clear hS2 hc2)))
    go_ret2
    exact ⟨rfl, HP.out.1, HP.out.2⟩
  · rw [if_neg hc1] at hdrop
    have HD := Aside0.mk (show QRowI w base (.slice (some ⟨ad.block, ad.off + 1, none⟩) l.length (c - 1)) l from by simpa [Addr.add, show (Kd.int .i64).sz = 1 from rfl] using hdrop)
    have HS := Aside0.mk (H.out.set.chg ((Chg.refl (fun i => i = gq) w).setCell (p := ⟨gq, 1, none⟩) (.inl rfl) (.slice (some ⟨ad.block, ad.off + 1, none⟩) l.length (c - 1))) (fun e => H.out.ne e.symm))
    have HX := Aside0.mk (H.out.wf x (by simp))
    have HOW := Aside0.mk (show ∀ i, (Value.slice (some ⟨ad.block, ad.off + 1, none⟩) l.length (c - 1)).ownBlock = some i → (Value.slice (some ad) (l.length + 1) c).ownBlock = some i from fun i h => h)
    clear hdrop
    go_enter Try.func16, Try.ntmps16
    go_wp2_with (((with_reducible refine gate_builtin (b := .delete) rfl ?_); at_delete; go_loud (refine wpList_del_set rfl _ _ 51 rfl Try.underlying3 Try.underlying51 rfl HS.out x rfl HX.out ?_; intro w2 hS2 hc2; have HP := Aside0.mk (pop_after H.out HD.out HOW.out hS2 hc2); clear hS2 hc2)))
    go_ret2
    exact ⟨rfl, HP.out.1, HP.out.2⟩

end Go.Proofs.Ytcjbhdocmkpjcaa.Ext
