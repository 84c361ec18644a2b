/- A map from whole numbers to truths, as a set: over whatever program. -/
import Derived.Maps.OwnSet
import Derived.Maps.Keyed
import Derived.Maps.Views
import Derived.Test.YtcjbhdocmkpjcaaIter
namespace Go.Proofs.Ytcjbhdocmkpjcaa.ISet
open Go.RowKit Go.Maps Go.Proofs.Ytcjbhdocmkpjcaa.Iter
set_option linter.unusedVariables false

def wfI (x : Int) : Prop := (Lit.int .i64 x).wf = true
instance (x : Int) : Decidable (wfI x) := inferInstanceAs (Decidable (_ = _))

theorem plainElem_bool_inv {H : Type} {P : Program} {e : TypeId} (he : P.underlying e = some .bool) {v : Value} {z : DataW H × List MemPlace} (h : plainElem P e v = some z) : ∃ a, v = .bool a ∧ z = (.lit (.bool a), []) := by
  cases v <;> simp_all [plainElem]

/-- Block b is a map from whole numbers to truths, of at most n entries; a number is told true just if S says so. -/
def ISet (P : Program) (K E : TypeId) (W : World) (b n : Nat) (S : Int → Bool) : Prop :=
  ∃ D : DataW Unit, W.ownsMap P K (plainElem P E) b n D ∧ ∀ x, wfI x → D.atKey (.int .i64 x) (.lit (.bool false)) = .lit (.bool (S x))

variable {P : Program} {K E : TypeId} {W : World} {b n : Nat} {S : Int → Bool}

theorem isKeyLit_int (x : Int) : WideAt.IsKeyLit (.int .i64 x) := by simp [WideAt.IsKeyLit]

theorem ISet.made (W : World) : ISet P K E (W.alloc (.map #[] 0)) W.heap.size 0 (fun _ => false) :=
  ⟨.map [], World.ownsMap_made W P K _, fun x _ => rfl⟩
theorem ISet.mono (h : ISet P K E W b n S) {n' : Nat} (hn : n ≤ n') : ISet P K E W b n' S := by
  obtain ⟨D, h1, h2⟩ := h
  exact ⟨D, h1.mono hn, h2⟩
theorem ISet.lt (h : ISet P K E W b n S) : b < W.heap.size := by
  obtain ⟨D, h1, _⟩ := h
  exact h1.lt
theorem ISet.chg {T : Nat → Prop} {W' : World} (h : ISet P K E W b n S) (hc : Chg T W W') (hn : ¬ T b) : ISet P K E W' b n S := by
  obtain ⟨D, ⟨es, clock, hb, F, hs, hD⟩, h2⟩ := h
  exact ⟨D, ⟨es, clock, hc.blk hb hn, F, hs, hD⟩, h2⟩
theorem ISet.look (h : ISet P K E W b n S) {t : TypeId} (hk : P.underlying K = some (.int .i64)) (he : P.underlying E = some .bool) (ht : P.underlying t = some (.map K E)) (hz : (zeroValue E).run P W = .ok (.bool false) W) (x : Int) (hx : wfI x) :
    (Instr.lookup t (.map (some b)) (.int .i64 x) false).run P W = .ok (.bool (S x)) W := by
  obtain ⟨D, hown, hS⟩ := h
  obtain ⟨v, ps, hrun, hv⟩ := hown.lookup (int_keyed hk) ht hz (plainElem_bool he false) (keyOf_int_mk hk hx)
  obtain ⟨c, rfl, hc⟩ := plainElem_bool_inv he hv
  rw [hS x hx] at hc
  simp only [Prod.mk.injEq, DataW.lit.injEq, Lit.bool.injEq] at hc
  rw [hrun, ← hc.1]
theorem ISet.put (h : ISet P K E W b n S) {t : TypeId} (hk : P.underlying K = some (.int .i64)) (he : P.underlying E = some .bool) (ht : P.underlying t = some (.map K E)) (hn : n < maxLen) (x : Int) (hx : wfI x) (v : Bool) :
    ∃ W', (Instr.mapUpdate t (.map (some b)) (.int .i64 x) (.bool v)).run P W = .ok () W' ∧ ISet P K E W' b (n + 1) (fun y => if y = x then v else S y) ∧ Chg (fun i => i = b) W W' := by
  obtain ⟨D, hown, hS⟩ := h
  obtain ⟨W', hrun, hown', hg⟩ := hown.update (int_keyed hk) ht hn (keyOf_int_mk hk hx) (plainElem_bool he v)
  refine ⟨W', hrun, ⟨_, hown', fun y hy => ?_⟩, (Chg.of_grown hg).mono (fun i _ h => by injection h with h; exact h.symm)⟩
  show _ = DataW.lit (Lit.bool (if y = x then v else S y))
  by_cases e : y = x
  · subst e
    rw [if_pos rfl, atKey_put_same hown.isMap (isKeyLit_int y)]
  · rw [if_neg e, atKey_put_other (by intro h; injection h with _ h; exact e h), hS y hy]
theorem ISet.del (h : ISet P K E W b n S) {t : TypeId} (hk : P.underlying K = some (.int .i64)) (ht : P.underlying t = some (.map K E)) (x : Int) (hx : wfI x) (ty : TypeId) :
    ∃ W', (Builtin.delete_ #[t, K] ty #[.map (some b), .int .i64 x]).run P W = .ok (.tuple #[]) W' ∧ ISet P K E W' b n (fun y => if y = x then false else S y) ∧ Chg (fun i => i = b) W W' := by
  obtain ⟨D, hown, hS⟩ := h
  obtain ⟨W', hrun, hown', hg⟩ := hown.drop (int_keyed hk) ht (keyOf_int_mk hk hx) ty
  refine ⟨W', hrun, ⟨_, hown', fun y hy => ?_⟩, (Chg.of_grown hg.grown).mono (fun i _ h => by injection h with h; exact h.symm)⟩
  show _ = DataW.lit (Lit.bool (if y = x then false else S y))
  by_cases e : y = x
  · subst e
    rw [if_pos rfl, atKey_del_same]
  · rw [if_neg e, atKey_del_other (by intro h; injection h with _ h; exact e h), hS y hy]

/-- 'delete(m, k)' at the operation. -/
theorem wpList_del_set {ops : Array Oper} {rest : List Oper} {o : Oper} {a : Act} {Q : Exit → Act → World → Prop} (hg : o.guard = none) (m x : Operand) (t : TypeId) (hop : o.op = Op.call { callee := Callee.builtin Builtin.delete, args := #[m, x], argTypes := #[t, K] })
    (hk : P.underlying K = some (.int .i64)) (ht : P.underlying t = some (.map K E)) (hm : a.eval m = .map (some b)) (h : ISet P K E W b n S) (y : Int) (hx : a.eval x = .int .i64 y) (hy : wfI y)
    (hK : ∀ W', ISet P K E W' b n (fun z => if z = y then false else S z) → Chg (fun i => i = b) W W' → wpList P ops Q rest (a.put o.dst (.tuple #[])) W') :
    wpList P ops Q (o :: rest) a W := by
  refine wpList_plain hg fun K' hK' => ?_
  obtain ⟨W', hrun, r1, r2⟩ := h.del hk ht y hy o.type
  unfold Oper.wp
  simp [execOp, hop, resolve, invoke, builtin, hm, hx, hrun, Result.andThen]
  exact hK' _ _ (hK W' r1 r2)

end Go.Proofs.Ytcjbhdocmkpjcaa.ISet
