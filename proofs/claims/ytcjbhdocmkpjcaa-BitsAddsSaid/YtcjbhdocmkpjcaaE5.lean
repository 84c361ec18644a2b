/- bits.picked, Minus, Meet, Within. -/
import Derived.Test.YtcjbhdocmkpjcaaE4
import Derived.Maps.OwnIn
namespace Go.Proofs.Ytcjbhdocmkpjcaa.Ext
open Go.RowKit Go.Proofs.YtcjbhdocmkpjcaaW.PrintWords Go.Proofs.YtcjbhdocmkpjcaaW.PrintLast Go.Proofs.Ytcjbhdocmkpjcaa.Pr Go.Proofs.Ytcjbhdocmkpjcaa.Base Go.Proofs.Ytcjbhdocmkpjcaa.Sets Go.Proofs.Ytcjbhdocmkpjcaa.Iter
set_option linter.unusedVariables false
set_option linter.unusedSimpArgs false
attribute [local go_sem] Oper.semAt_some

theorem both_calls (va vb : Value) (w : World) (h1 : va.oneCell' = true) (h2 : vb.oneCell' = true) :
    Calls Try.prog 36 #[va, vb] w fun e w' => e = .returned (.func (.func 48) #[] #[.pointer (some ⟨w.heap.size, 0, none⟩), .pointer (some ⟨w.heap.size + 1, 0, none⟩)]) ∧ w' = (w.alloc (.cells #[va] 24)).alloc (.cells #[vb] 24) := by
  go_enter Try.func36, Try.ntmps36
  go_wp2
  go_ret
  exact ⟨rfl, rfl⟩

/-- A row of two slices, just made. -/
theorem two_C (w : World) (A B : Option Addr) (ca cb : Nat) (a b : List Int) (ha : Kd.C (Kd.int .i64) w A a.length a) (hb : Kd.C (Kd.int .i64) w B b.length b) (hca : a.length ≤ ca) (hcb : b.length ≤ cb) :
    Kd.C (Kd.slice 3 (Kd.int .i64)) (w.alloc (.cells #[.slice A a.length ca, .slice B b.length cb] 24)) (some ⟨w.heap.size, 0, none⟩) 2 [a, b] := by
  have hbel : Below w.heap.size w (w.alloc (.cells #[.slice A a.length ca, .slice B b.length cb] 24)) := (Below.refl _ w).alloc (Nat.le_refl _) _
  have hnew : (w.alloc (.cells #[.slice A a.length ca, .slice B b.length cb] 24)).heap[w.heap.size]? = some (.cells #[.slice A a.length ca, .slice B b.length cb] 24 (0, 0)) := heap_alloc_new w _
  refine ⟨rfl, by omega, fun _ => ⟨⟨w.heap.size, 0, none⟩, rfl, fun j p hj => ?_⟩⟩
  match j with
  | 0 =>
    obtain rfl : a = p := by simpa using hj
    refine ⟨[.slice A a.length ca], rfl, ⟨A, ca, rfl, hca, Kd.C_below ha hbel⟩, fun i u hu => ?_⟩
    match i with
    | 0 =>
      obtain rfl : Value.slice A a.length ca = u := by simpa using hu
      simp only [World.cell?, Addr.add, Nat.zero_mul, Nat.add_zero, if_pos, hnew]
      rfl
    | i + 1 => simp at hu
  | 1 =>
    obtain rfl : b = p := by simpa using hj
    refine ⟨[.slice B b.length cb], rfl, ⟨B, cb, rfl, hcb, Kd.C_below hb hbel⟩, fun i u hu => ?_⟩
    match i with
    | 0 =>
      obtain rfl : Value.slice B b.length cb = u := by simpa using hu
      have : (Kd.slice 3 (Kd.int .i64)).sz = 1 := rfl
      rw [this]
      simp only [World.cell?, Addr.add, Nat.one_mul, Nat.add_zero, Nat.zero_add, if_neg (show ¬ (1 = 0) by decide), hnew]
      rfl
    | i + 1 => simp at hu
  | j + 2 => simp at hj

/-- append(v, y), the row the call's own, inside a fence. -/
theorem append1_in {F : Fence} {m : Nat} {ops : Array Oper} {rest : List Oper} {o : Oper} {act : Act} {Q : Exit → Act → World → Prop} {W : World} (base : Nat) (hgd : o.guard = none) (s x : Operand)
    (ho : o.op = .call { callee := .builtin .append, args := #[s, x], argTypes := #[24, 24] })
    (v : Value) (xs : List Int) (y : Int) (gb : Nat) (hs : act.eval s = v) (hx : act.eval x = .slice (some ⟨gb, 0, none⟩) 1 1) (hy : W.cell? ⟨gb, 0, none⟩ = some (.int .i64 y)) (HO : OwnI W base v xs) (hbase : base ≤ W.heap.size) (hl : xs.length < 17592186044416)
    (h : ∀ v1 w1, OwnI w1 base v1 (xs ++ [y]) → W.grownBy w1 v.ownBlock → (v1.ownBlock = v.ownBlock ∨ v1.ownBlock = some W.heap.size) → (∃ g n c, v1 = .slice (some ⟨g, 0, none⟩) n c) → wpListIn F m Try.prog ops Q rest (act.put o.dst v1) w1) :
    wpListIn F m Try.prog ops Q (o :: rest) act W := by
  obtain ⟨i0, hi, hz0, hz1, hz2⟩ := info_parts infoI
  refine wpListIn_append_own_at W hgd s x 24 ho base 3 i0 (.int .i64 0) 1 8 Try.underlying24 hi hz0 hz1 hz2 rfl (by decide) v xs.length _ hs (Kd.own_of_R HO) ⟨gb, 0, none⟩ 1 1 [.int .i64 y] hx rfl (fun j u hj => ?_) (by simp [Value.oneCell']) (by simp only [maxLen]; omega) (by omega) hbase ?_
  · match j, hj with
    | 0, hj => obtain rfl : Value.int .i64 y = u := by simpa using hj
               simpa [Addr.add] using hy
    | j + 1, hj => simp at hj
  intro v1 w1 hown hg hnil hat
  have hown' : w1.ownsRow base 3 1 v1 (xs ++ [y]).length (encs (Value.int .i64) (xs ++ [y])) := by simpa [encs] using hown
  refine h v1 w1 (Kd.R_of_own hown' (fun _ _ => trivial)) hg hat ?_
  rcases hown'.2 with ⟨_, h0⟩ | ⟨g, cap, cur, e, _⟩
  · simp at h0
  · exact ⟨g, _, cap, e⟩

theorem own_chg {W W' : World} {base : Nat} {v : Value} {xs : List Int} {T : Nat → Prop} (h : OwnI W base v xs) (hc : Chg T W W') (hn : ∀ k, v.ownBlock = some k → ¬ T k) : OwnI W' base v xs :=
  Kd.R_of_own (own_move (Kd.own_of_R h) (fun k hk => hc.block k (own_lt (Kd.own_of_R h) k hk) (hn k hk))) (fun _ _ => trivial)

def pickL (isin : Bool) (l : List (Int × Bool)) : List Int := (l.filter fun x => x.2 == isin).map (·.1)
theorem pickL_snoc (isin : Bool) (l : List (Int × Bool)) (x : Int × Bool) : pickL isin (l ++ [x]) = if x.2 == isin then pickL isin l ++ [x.1] else pickL isin l := by
  unfold pickL
  rw [List.filter_append, List.map_append]
  by_cases h : x.2 == isin <;> simp [h]

/-- What is so between two rounds of picked. -/
structure PkI (w : World) (isin : Bool) (l : List (Int × Bool)) (k : Nat) (O : Nat → Prop) (W : World) : Prop where
  bel : Below w.heap.size w W
  lt : w.heap.size + 2 < W.heap.size
  cin : W.cell? ⟨w.heap.size, 0, none⟩ = some (.bool isin)
  out : ∃ v, W.cell? ⟨w.heap.size + 2, 0, none⟩ = some v ∧ OwnI W w.heap.size v (pickL isin (l.take k)) ∧ ∀ i, v.ownBlock = some i → O i ∧ i ≠ w.heap.size ∧ i ≠ w.heap.size + 2
  free : W.frozen? ⟨w.heap.size + 2, 0, none⟩ = false
  own : O w.heap.size ∧ O (w.heap.size + 2)

theorem frozen_chg {W W' : World} {T : Nat → Prop} (hc : Chg T W W') {a : Addr} (hlt : a.block < W.heap.size) (hn : ¬ T a.block) : W'.frozen? a = W.frozen? a := by
  have := hc.block a.block hlt hn
  simp only [World.frozen?, this]

theorem PkI.abide (w : World) (isin : Bool) (l : List (Int × Bool)) (k : Nat) : Abide w.heap.size (PkI w isin l k) := by
  intro O A B T h hc hT
  obtain ⟨v, h1, h2, h3⟩ := h.out
  refine ⟨h.bel.trans (hc.below h.bel.size (fun i hi => (hT i hi).1)), Nat.lt_of_lt_of_le h.lt hc.size, hc.cell h.cin (fun ht => (hT _ ht).2 h.own.1), ⟨v, hc.cell h1 (fun ht => (hT _ ht).2 h.own.2), own_chg h2 hc (fun i hi ht => (hT i ht).2 (h3 i hi).1), h3⟩, ?_, h.own⟩
  rw [frozen_chg hc h.lt (fun ht => (hT _ ht).2 h.own.2)]
  exact h.free

theorem PkI.step {w W w1 : World} {isin : Bool} {L : List (Int × Bool)} {k : Nat} {O : Nat → Prop} (hi : PkI w isin L k O W) {v : Value} (hv : W.cell? ⟨w.heap.size + 2, 0, none⟩ = some v) (hv3 : ∀ i, v.ownBlock = some i → O i ∧ i ≠ w.heap.size ∧ i ≠ w.heap.size + 2) (o : Obj) (hg : (W.alloc o).grownBy w1 v.ownBlock) :
    Chg O W w1 ∧ w1.cell? ⟨w.heap.size + 2, 0, none⟩ = some v ∧ w1.frozen? ⟨w.heap.size + 2, 0, none⟩ = false := by
  have h0 : Chg (fun i => v.ownBlock = some i) W w1 := ((Chg.refl _ W).alloc o).grown hg (fun k hk => .inl hk)
  have hlt := hi.lt
  refine ⟨h0.mono (fun i _ h => (hv3 i h).1), h0.cell hv (fun h => (hv3 _ h).2.2 rfl), ?_⟩
  rw [frozen_chg h0 hlt (fun h => (hv3 _ h).2.2 rfl)]
  exact hi.free

/-- Behind the store of the longer row. -/
theorem PkI.stored {w W w1 : World} {isin : Bool} {L : List (Int × Bool)} {k : Nat} {O : Nat → Prop} (hi : PkI w isin L k O W) {v v1 : Value} {ys : List Int} (hv : W.cell? ⟨w.heap.size + 2, 0, none⟩ = some v) (hv3 : ∀ i, v.ownBlock = some i → O i ∧ i ≠ w.heap.size ∧ i ≠ w.heap.size + 2) (o : Obj) (hg : (W.alloc o).grownBy w1 v.ownBlock)
    (hvB : ∀ i, v.ownBlock = some i → w.heap.size ≤ i) (hO : OwnI w1 w.heap.size v1 ys) (hat : v1.ownBlock = v.ownBlock ∨ v1.ownBlock = some (W.alloc o).heap.size) (hys : ys = pickL isin (L.take (k + 1))) :
    Chg O W (w1.setCell ⟨w.heap.size + 2, 0, none⟩ v1) ∧ ∃ O2 : Nat → Prop, (∀ i, O2 i → O i ∨ W.heap.size ≤ i) ∧ PkI w isin L (k + 1) O2 (w1.setCell ⟨w.heap.size + 2, 0, none⟩ v1) := by
  obtain ⟨hc, hcell, hfr⟩ := hi.step hv hv3 o hg
  have hc2 : Chg O W (w1.setCell ⟨w.heap.size + 2, 0, none⟩ v1) := hc.setCell (p := ⟨w.heap.size + 2, 0, none⟩) (.inl hi.own.2) v1
  have hlt := hi.lt
  have hv1 : ∀ i, v1.ownBlock = some i → (O i ∨ W.heap.size ≤ i) ∧ i ≠ w.heap.size ∧ i ≠ w.heap.size + 2 := by
    intro i h
    rcases hat with e | e
    · rw [e] at h
      exact ⟨.inl (hv3 i h).1, (hv3 i h).2⟩
    · rw [e] at h
      injection h with h
      have : (W.alloc o).heap.size = W.heap.size + 1 := by simp
      exact ⟨.inr (by omega), by omega, by omega⟩
  have h1 : Chg (fun i => i = w.heap.size + 2) w1 (w1.setCell ⟨w.heap.size + 2, 0, none⟩ v1) := (Chg.refl (fun i => i = w.heap.size + 2) w1).setCell (p := ⟨w.heap.size + 2, 0, none⟩) (.inl rfl) v1
  refine ⟨hc2, fun i => O i ∨ W.heap.size ≤ i, fun i h => h, ?_⟩
  have hcin1 : Chg (fun i => i = w.heap.size + 2 ∨ v.ownBlock = some i) W (w1.setCell ⟨w.heap.size + 2, 0, none⟩ v1) :=
    (((Chg.refl _ W).alloc o).grown hg (fun k hk => .inl (.inr hk))).setCell (p := ⟨w.heap.size + 2, 0, none⟩) (.inl (.inl rfl)) v1
  refine ⟨hi.bel.trans ?_, Nat.lt_of_lt_of_le hlt hc2.size, hcin1.cell hi.cin (fun h => h.elim (fun e => by simp at e) (fun e => (hv3 _ e).2.1 rfl)), ⟨v1, World.cell?_setCell_same' _ _ _ (by rw [hcell]; rfl), ?_, hv1⟩, by rw [World.frozen?_setCell]; exact hfr, .inl hi.own.1, .inl hi.own.2⟩
  · exact hcin1.below hi.bel.size (fun i h => h.elim (fun e => by omega) (fun e => hvB i e))
  · rw [← hys]
    exact own_chg hO h1 (fun i h e => (hv1 i h).2.2 e)

theorem alloc_at (w : World) (o : Obj) (k : Nat) : (w.alloc o).heap[k]? = if k = w.heap.size then some o else w.heap[k]? := by
  show (w.heap.push o)[k]? = _
  rw [Array.getElem?_push]
theorem heap_drewN (w : World) (q : Nat) : (w.drewN q).heap = w.heap := rfl

/-- The world in which picked's loop begins. -/
def pkWorld (w : World) (isin : Bool) (q : Nat) (va vb : Value) : World :=
  ((((((w.alloc (.cells #[.bool isin] 4)).alloc (.cells #[va, vb] 24)).drewN q).alloc (.cells #[.slice none 0 0] 24)).alloc (.cells #[va] 24)).alloc (.cells #[vb] 24))
theorem pk_size (w : World) (isin : Bool) (q : Nat) (va vb : Value) : (pkWorld w isin q va vb).heap.size = w.heap.size + 5 := by
  simp [pkWorld, heap_drewN]
theorem pk_below (w : World) (isin : Bool) (q : Nat) (va vb : Value) : Below w.heap.size w (pkWorld w isin q va vb) := by
  unfold pkWorld
  have h1 : Below w.heap.size w ((w.alloc (.cells #[.bool isin] 4)).alloc (.cells #[va, vb] 24)) := ((Below.refl _ w).alloc (Nat.le_refl _) _).alloc (by simp) _
  have h2 := pw_below_drewN h1 q
  exact ((h2.alloc (by simp [heap_drewN]; omega) _).alloc (by simp [heap_drewN]; omega) _).alloc (by simp [heap_drewN]; omega) _
theorem pk_heap (w : World) (isin : Bool) (q : Nat) (va vb : Value) :
    (pkWorld w isin q va vb).heap[w.heap.size]? = some (.cells #[.bool isin] 4 (0, 0)) ∧ (pkWorld w isin q va vb).heap[w.heap.size + 2]? = some (.cells #[.slice none 0 0] 24 (0, 0)) ∧
    (pkWorld w isin q va vb).heap[w.heap.size + 3]? = some (.cells #[va] 24 (0, 0)) ∧ (pkWorld w isin q va vb).heap[w.heap.size + 4]? = some (.cells #[vb] 24 (0, 0)) := by
  refine ⟨?_, ?_, ?_, ?_⟩ <;> simp only [pkWorld, alloc_at, heap_drewN, World.size_alloc] <;> simp (disch := omega) [if_pos, if_neg]
theorem cell_of_blk {W : World} {g : Nat} {v : Value} {t : TypeId} (h : W.heap[g]? = some (.cells #[v] t (0, 0))) : W.cell? ⟨g, 0, none⟩ = some v ∧ W.frozen? ⟨g, 0, none⟩ = false := by
  constructor <;> simp [World.cell?, World.frozen?, h]

def PkPost (w : World) (xs : List Int) (n : Int) (e : Ending) (w' : World) : Prop := ∃ v : Value, e = .returned (.tuple #[v, .int .i64 n]) ∧ OwnI w' w.heap.size v xs ∧ Below w.heap.size w w'

theorem pickL_length_le (isin : Bool) (l : List (Int × Bool)) : (pickL isin l).length ≤ l.length := by
  unfold pickL
  rw [List.length_map]
  exact List.length_filter_le _ _

set_option maxHeartbeats 2000000 in
theorem picked_calls (A0 : Option Addr) (c0 : Nat) (a : List Int) (A1 : Option Addr) (c1 : Nat) (b : List Int) (isin : Bool) (w : World) (hr0 : Kd.C (Kd.int .i64) w A0 a.length a) (hc0 : a.length ≤ c0) (hr1 : Kd.C (Kd.int .i64) w A1 b.length b) (hc1 : b.length ≤ c1) (hs : [a, b].all setB = true) (hal : a.length ≤ 17592186044416) :
    Calls Try.prog 35 #[.slice A0 a.length c0, .slice A1 b.length c1, .bool isin] w (PkPost w (pickL isin (bothL a b)) 0) := by
  have h2 := two_C (w.alloc (.cells #[.bool isin] 4)) A0 A1 c0 c1 a b (Kd.C_below hr0 ((Below.refl _ w).alloc (Nat.le_refl _) _)) (Kd.C_below hr1 ((Below.refl _ w).alloc (Nat.le_refl _) _)) hc0 hc1
  have hA := bits_areSets.calls _ 2 [a, b] true _ h2 (by simp) (by unfold bits_areSets.f; rw [hs])
  rw [World.size_alloc, show [a, b].length = 2 from rfl] at hA
  have HA := Aside0.mk hA
  clear hA
  clear h2 hs
  refine (callsIn_wide (n := 0)).1 ?_
  refine callsIn_of_wp_marks Try.func35 rfl trivial ?_ rfl
  simp only [Try.ntmps35, List.size_toArray, List.length_cons, List.length_nil, Nat.reduceAdd, Nat.reduceSub, Array.replicate_succ, Array.replicate_zero, List.push_toArray, List.append_toArray, List.nil_append, List.cons_append]
  have hdep : Fence.wide.depth = none := rfl
  have hfns : ∀ f, Fence.wide.fn f := fun _ => trivial
  gi_wp2_with (first
    | (gi_at_call 29; refine (callsIn_wide.2 HA.out).mono ?_; rintro e w' ⟨rfl, ⟨⟨q, rfl⟩⟩⟩)
    | (gi_at_call 36; refine (callsIn_wide.2 (both_calls _ _ _ rfl rfl)).mono ?_; rintro e w' ⟨rfl, rfl⟩))
  have hpk := pk_heap w isin q (.slice A0 a.length c0) (.slice A1 b.length c1)
  have hbl := pk_below w isin q (.slice A0 a.length c0) (.slice A1 b.length c1)
  have hsz := pk_size w isin q (.slice A0 a.length c0) (.slice A1 b.length c1)
  have hst : BothSt w (w.heap.size + 3) (w.heap.size + 4) A0 c0 a b (pkWorld w isin q (.slice A0 a.length c0) (.slice A1 b.length c1)) :=
    ⟨hbl, (cell_of_blk hpk.2.2.1).1, ⟨A1, c1, (cell_of_blk hpk.2.2.2).1, hc1, hr1⟩, (cell_of_blk hpk.2.2.2).2, by rw [hsz]; omega⟩
  have hI0 : PkI w isin (bothL a b) 0 (fun i => i = w.heap.size ∨ i = w.heap.size + 2) (pkWorld w isin q (.slice A0 a.length c0) (.slice A1 b.length c1)) :=
    ⟨hbl, by rw [hsz]; omega, (cell_of_blk hpk.1).1, ⟨_, (cell_of_blk hpk.2.1).1, Kd.R_nil _ _ _ _ _, fun i hi => by simp [Value.ownBlock] at hi⟩, (cell_of_blk hpk.2.1).2, .inl rfl, .inr rfl⟩
  have hit := both1_iter w (pkWorld w isin q (.slice A0 a.length c0) (.slice A1 b.length c1)) (w.heap.size + 3) (w.heap.size + 4) A0 c0 a b hr0 hc0 (by omega) hst
  change Code.wpIn _ _ _ _ _ _ (pkWorld w isin q (.slice A0 a.length c0) (.slice A1 b.length c1))
  clear hpk HA hst
  generalize pkWorld w isin q (.slice A0 a.length c0) (.slice A1 b.length c1) = W1 at *
  refine wp_rangeFunc_own (gf := 48) (lb := #[.pointer (some ⟨w.heap.size + 3, 0, none⟩), .pointer (some ⟨w.heap.size + 4, 0, none⟩)]) rfl (enters_of Try.func48 (by kernel_rfl) rfl) hit (fun _ => rfl)
    (fun i => i = w.heap.size ∨ i = w.heap.size + 2) (by omega) (fun i hi => by rcases hi with rfl | rfl <;> exact ⟨by omega, by omega, by omega⟩) (fun i hi => by rcases hi with rfl | rfl <;> omega) (Chg.refl _ _)
    (PkI w isin (bothL a b)) (fun _ _ _ => False)
    (fun x _ a' _ => a' = { tmps := #[.slice A0 a.length c0, .slice A1 b.length c1, .bool isin, undef, undef, .pointer (some ⟨w.heap.size, 0, none⟩), .slice none 0 0, .int .i64 0, .pointer (some ⟨w.heap.size + 2, 0, none⟩), .int .i64 x.1, .bool x.2, .slice A0 a.length c0, .slice A1 b.length c1, .slice (some ⟨w.heap.size + 1, 0, none⟩) 2 2, .bool true, .bool false, .slice A0 a.length c0, .slice A1 b.length c1, .func (.func 48) #[] #[.pointer (some ⟨w.heap.size + 3, 0, none⟩), .pointer (some ⟨w.heap.size + 4, 0, none⟩)], .int .i64 x.1, .bool x.2, undef, undef, undef, undef, undef, undef, undef, undef], defers := [] })
    (fun k => PkI.abide w isin (bothL a b) k) (fun _ _ _ _ _ _ h _ _ => h) (fun _ _ _ _ _ h _ _ => h) hI0 ?assign ?body ?done ?stop
  case stop => exact fun D k c W _ _ h _ => h.elim
  case assign =>
    intro l k x O1 W K hx hi hK
    dsimp only [encIB]
    gi_wp2
    exact hK _ _ O1 (Chg.refl _ _) (fun i h => .inl h) hi rfl
  case body =>
    rintro l k x O1 a' W hx hl hnl hrec hi rfl
    obtain ⟨v, hv1, hv2, hv3⟩ := hi.out
    have hcin := hi.cin
    have hfr := hi.free
    have HI := Aside0.mk hi
    have HV := Aside0.mk hv2
    have HX := Aside0.mk hx
    have hk : k < (bothL a b).length := (List.getElem?_eq_some_iff.1 hx).1
    have HTK := Aside0.mk (show (bothL a b).take (k + 1) = (bothL a b).take k ++ [x] by rw [List.take_add_one, hx]; rfl)
    have hsl := own_slice3 hv2
    obtain ⟨A, c, hve, _, _⟩ := hsl
    subst hve
    clear hi hv2 hx hrec hl
    obtain ⟨x1, x2⟩ := x
    by_cases he : x2 = isin
    · subst he
      have hbW : Below W.heap.size W (W.alloc (.cells #[.int .i64 x1] 3)) := (Below.refl _ W).alloc (Nat.le_refl _) _
      have HO2 := Aside0.mk (show OwnI (W.alloc (.cells #[.int .i64 x1] 3)) w.heap.size (.slice A (pickL x2 (List.take k (bothL a b))).length c) _ from Kd.R_below HV.out hbW)
      have hbs := HI.out.bel.size
      have hll : (pickL x2 (List.take k (bothL a b))).length < 17592186044416 := by
        have h1 := pickL_length_le x2 (List.take k (bothL a b))
        rw [List.length_take] at h1
        rw [bothL_length] at hk h1
        omega
      have HVB := Aside0.mk (fun i hi => own_base_lt HV.out i hi)
      have HXS := Aside0.mk (show pickL x2 (List.take k (bothL a b)) ++ [x1] = pickL x2 (List.take (k + 1) (bothL a b)) by rw [HTK.out, pickL_snoc]; simp)
      generalize pickL x2 (List.take k (bothL a b)) = xs at *
      gi_wp2_with (gi_at_builtin; go_loud (refine append1_in w.heap.size rfl _ _ rfl (.slice A xs.length c) xs x1 W.heap.size rfl rfl (by simp) HO2.out (by simp; omega) hll ?_; rintro v1 w1 hO1 hg1 hat1 ⟨g1, n1, c1', rfl⟩; obtain ⟨_, hcell1, hfr1⟩ := HI.out.step hv1 hv3 _ hg1; have HST := Aside0.mk (HI.out.stored hv1 hv3 _ hg1 HVB.out hO1 hat1 HXS.out); clear hO1 hat1))
      exact HST.out
    · have hne : (x2 == isin) = false := by simpa using he
      have hxs : pickL isin (List.take (k + 1) (bothL a b)) = pickL isin (List.take k (bothL a b)) := by rw [HTK.out, pickL_snoc, if_neg (by rw [hne]; decide)]
      have HST := Aside0.mk (show Chg O1 W W ∧ ∃ O2 : Nat → Prop, (∀ i, O2 i → O1 i ∨ W.heap.size ≤ i) ∧ PkI w isin (bothL a b) (k + 1) O2 W from
        ⟨Chg.refl _ _, O1, fun i h => .inl h, ⟨HI.out.bel, HI.out.lt, HI.out.cin, ⟨_, hv1, by rw [hxs]; exact HV.out, hv3⟩, HI.out.free, HI.out.own⟩⟩)
      clear hxs
      gi_wp2
      exact HST.out
  case done =>
    intro D O1 W hD hnD hi hK
    obtain ⟨v, hv1, hv2, hv3⟩ := hi.out
    have HV := Aside0.mk hv2
    have HI := Aside0.mk hi
    rw [List.take_of_length_le (Nat.le_refl _)] at hv2
    have HV2 := Aside0.mk hv2
    have hsl := own_slice3 hv2
    obtain ⟨A, c, hve, _, _⟩ := hsl
    subst hve
    clear hi hv2
    gi_wp2
    refine ⟨by simp, .inl ⟨_, _, rfl, run_takeDeferred hK, ?_⟩⟩
    refine ⟨.tuple #[.slice A (pickL isin (bothL a b)).length c, .int .i64 0], by simp [results, Try.results35, go_sem], _, rfl, ?_, ?_⟩
    · exact own_chg HV2.out (Chg.put1 W D _) (fun i h e => by subst e; exact hnD (hv3 _ h).1)
    · exact HI.out.bel.trans ((Chg.put1 W D _).below HI.out.bel.size (fun i e => by subst e; omega))

set_option maxHeartbeats 1000000 in
theorem picked_bad (A0 : Option Addr) (c0 : Nat) (a : List Int) (A1 : Option Addr) (c1 : Nat) (b : List Int) (isin : Bool) (w : World) (hr0 : Kd.C (Kd.int .i64) w A0 a.length a) (hc0 : a.length ≤ c0) (hr1 : Kd.C (Kd.int .i64) w A1 b.length b) (hc1 : b.length ≤ c1) (hs : [a, b].all setB = false) :
    Calls Try.prog 35 #[.slice A0 a.length c0, .slice A1 b.length c1, .bool isin] w (PkPost w [] 2) := by
  have h2 := two_C (w.alloc (.cells #[.bool isin] 4)) A0 A1 c0 c1 a b (Kd.C_below hr0 ((Below.refl _ w).alloc (Nat.le_refl _) _)) (Kd.C_below hr1 ((Below.refl _ w).alloc (Nat.le_refl _) _)) hc0 hc1
  have hA := bits_areSets.calls _ 2 [a, b] false _ h2 (by simp) (by unfold bits_areSets.f; rw [hs])
  rw [World.size_alloc, show [a, b].length = 2 from rfl] at hA
  have HA := Aside0.mk hA
  clear hA h2 hs
  go_enter Try.func35, Try.ntmps35
  go_wp2_with (go_at_call 29; refine HA.out.mono ?_; rintro e w' ⟨rfl, ⟨⟨q, rfl⟩⟩⟩)
  go_ret2
  exact ⟨_, rfl, Kd.R_nil _ _ _ _ _, pw_below_drewN (((Below.refl _ w).alloc (Nat.le_refl _) _).alloc (by simp) _) q⟩

/-- bits.Minus, bits.Meet: the numbers of a set that are not in another one, that are. -/
def bits_picked.g (isin : Bool) (a b : List Int) : Option (List Int × Int) :=
  if [a, b].all setB = true then (if a.length ≤ 17592186044416 then some (pickL isin (bothL a b), 0) else none) else some ([], 2)

theorem picked_all (A0 : Option Addr) (c0 : Nat) (a : List Int) (A1 : Option Addr) (c1 : Nat) (b : List Int) (isin : Bool) (r1 : List Int) (r2 : Int) (w : World) (hr0 : Kd.C (Kd.int .i64) w A0 a.length a) (hc0 : a.length ≤ c0) (hr1 : Kd.C (Kd.int .i64) w A1 b.length b) (hc1 : b.length ≤ c1) (h : bits_picked.g isin a b = some (r1, r2)) :
    Calls Try.prog 35 #[.slice A0 a.length c0, .slice A1 b.length c1, .bool isin] w (PkPost w r1 r2) := by
  unfold bits_picked.g at h
  cases hb : [a, b].all setB with
  | false =>
    rw [hb, if_neg (by decide)] at h
    injection h with h
    injection h with h1 h2
    subst h1 h2
    exact picked_bad A0 c0 a A1 c1 b isin w hr0 hc0 hr1 hc1 hb
  | true =>
    rw [hb, if_pos rfl] at h
    by_cases hT : a.length ≤ 17592186044416
    · rw [if_pos hT] at h
      injection h with h
      injection h with h1 h2
      subst h1 h2
      exact picked_calls A0 c0 a A1 c1 b isin w hr0 hc0 hr1 hc1 hb hT
    · rw [if_neg hT] at h
      cases h

def bits_Minus.f (a b : List Int) : Option (List Int × Int) := bits_picked.g false a b
def bits_Meet.f (a b : List Int) : Option (List Int × Int) := bits_picked.g true a b
set_option maxHeartbeats 400000 in
theorem bits_Minus.calls (A0 : Option Addr) (c0 : Nat) (l0 : List Int) (A1 : Option Addr) (c1 : Nat) (l1 : List Int) (r1 : List Int) (r2 : Int) (w : World) (hr0 : Kd.C (Kd.int .i64) w A0 l0.length l0) (hc0 : l0.length ≤ c0) (hr1 : Kd.C (Kd.int .i64) w A1 l1.length l1) (hc1 : l1.length ≤ c1) (h : bits_Minus.f l0 l1 = some (r1, r2)) :
    Calls Try.prog 20 #[.slice A0 l0.length c0, .slice A1 l1.length c1] w fun e w' => ∃ v0_ : Value, e = .returned (.tuple #[v0_, .int .i64 r2]) ∧ Kd.R (Kd.int .i64) 3 w' w.heap.size (fun _ => True) v0_ r1 ∧ Below w.heap.size w w' := by
  have HP := Aside0.mk (picked_all A0 c0 l0 A1 c1 l1 false r1 r2 w hr0 hc0 hr1 hc1 h)
  clear hr0 hc0 hr1 hc1 h
  go_enter Try.func20, Try.ntmps20
  go_wp2_with (go_at_call 35; refine HP.out.mono ?_; rintro e w' ⟨v, rfl, hO, hB⟩; have HO := Aside0.mk hO; have HB := Aside0.mk hB; clear hO hB)
  go_ret2
  exact ⟨_, rfl, HO.out, HB.out⟩
set_option maxHeartbeats 400000 in
theorem bits_Meet.calls (A0 : Option Addr) (c0 : Nat) (l0 : List Int) (A1 : Option Addr) (c1 : Nat) (l1 : List Int) (r1 : List Int) (r2 : Int) (w : World) (hr0 : Kd.C (Kd.int .i64) w A0 l0.length l0) (hc0 : l0.length ≤ c0) (hr1 : Kd.C (Kd.int .i64) w A1 l1.length l1) (hc1 : l1.length ≤ c1) (h : bits_Meet.f l0 l1 = some (r1, r2)) :
    Calls Try.prog 21 #[.slice A0 l0.length c0, .slice A1 l1.length c1] w fun e w' => ∃ v0_ : Value, e = .returned (.tuple #[v0_, .int .i64 r2]) ∧ Kd.R (Kd.int .i64) 3 w' w.heap.size (fun _ => True) v0_ r1 ∧ Below w.heap.size w w' := by
  have HP := Aside0.mk (picked_all A0 c0 l0 A1 c1 l1 true r1 r2 w hr0 hc0 hr1 hc1 h)
  clear hr0 hc0 hr1 hc1 h
  go_enter Try.func21, Try.ntmps21
  go_wp2_with (go_at_call 35; refine HP.out.mono ?_; rintro e w' ⟨v, rfl, hO, hB⟩; have HO := Aside0.mk hO; have HB := Aside0.mk hB; clear hO hB)
  go_ret2
  exact ⟨_, rfl, HO.out, HB.out⟩

end Go.Proofs.Ytcjbhdocmkpjcaa.Ext
