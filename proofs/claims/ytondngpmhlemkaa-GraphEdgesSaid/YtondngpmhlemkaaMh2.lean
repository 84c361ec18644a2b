/- Lemmas for the claims of this seat (own texts, packed; what the claims do not use is left out). No condition. -/
import Derived.Scope
import Derived.ControlIn
import Derived.Deep.LoopGhost
import Derived.Test.YtondngpmhlemkaaMh0
import Derived.Test.YtondngpmhlemkaaMh1
/- graph.Edges: the calls, grouped by their marks: what one round does. No condition. -/
namespace Go.Proofs.Ytondngpmhlemkaa.Ge
open Go.RowKit Go.Proofs.YtondngpmhlemkaaW.PrintWords Go.Proofs.YtondngpmhlemkaaW.PrintLast Go.Proofs.YtondngpmhlemkaaW.PrintMore Go.Proofs.Ytondngpmhlemkaa.Sets Go.Proofs.Ytondngpmhlemkaa.Iter Go.Proofs.Ytondngpmhlemkaa.ISet Go.Proofs.Ytondngpmhlemkaa.Pr Go.Proofs.Ytondngpmhlemkaa.Ext Go.Proofs.Ytondngpmhlemkaa.Gp
set_option linter.unusedVariables false
set_option linter.unusedSimpArgs false
attribute [local go_sem] Oper.semAt_some
def geT4 : Bool × List (List Nat × List Nat) := (true, [([], []), ([], []), ([1], [1]), ([], []), ([], []), ([4], [4]), ([3, 5], [3, 5]), ([], []), ([7], [7]), ([8], [8]), ([6, 9], [6, 9]), ([0, 2, 10, 10, 0, 1, 2, 3, 4, 5, 6, 7, 8, 9, 10], [0, 2, 10])])
def geB4 : List Nat := [0, 0, 2, 0, 0, 16, 56, 0, 128, 384, 1016, 2047]
theorem getab4 : rtab .any (opsOf Try.f23 4) = geT4 := by kernel_rfl
theorem gebits4 : waitsOk geT4.2 geB4 = true := by kernel_rfl
def geT15 : Bool × List (List Nat × List Nat) := (true, [([], []), ([0], [0]), ([1], [1]), ([2], [2]), ([2], [2]), ([4, 2], [2, 4]), ([3, 5, 2], [2, 3, 5]), ([2], [2]), ([7, 2], [2, 7]), ([6, 8, 2, 2], [2, 6, 8]), ([2, 9], [2, 9]), ([10, 9], [10]), ([11], [11]), ([12, 11], [11, 12]), ([13, 11], [11, 13]), ([14, 11, 11], [11, 14]), ([15], [15]), ([15], [15]), ([17, 15], [15, 17]), ([18, 15], [15, 18]), ([16, 19, 15], [15, 16, 19]), ([20, 15], [15, 20]), ([15], [15]), ([21, 22, 15], [15, 21, 22]), ([15, 23, 11], [11, 15, 23]), ([11, 24], [11, 24])])
def geB15 : List Nat := [0, 1, 3, 7, 7, 23, 63, 7, 135, 511, 1023, 2047, 4095, 8191, 16383, 32767, 65535, 65535, 196607, 458751, 1048575, 2097151, 65535, 8388607, 16777215, 33554431]
theorem getab15 : rtab .any (opsOf Try.f23 15) = geT15 := by kernel_rfl
theorem gebits15 : waitsOk geT15.2 geB15 = true := by kernel_rfl
def grp (l : List S49) (x : Int) : List Int := (l.filter (fun f => decide (f.f1 = x))).map (·.f3)
theorem grp_snoc (l : List S49) (f : S49) (x : Int) : grp (l ++ [f]) x = if x = f.f1 then grp l f.f1 ++ [f.f3] else grp l x := by
  unfold grp
  by_cases h : x = f.f1
  · subst h; simp
  · rw [if_neg h, List.filter_append]
    have : f.f1 ≠ x := fun e => h e.symm
    simp [this]
theorem grown_none {A B : World} {row : Option Nat} (h : A.grownBy B none) : A.grownBy B row := ⟨h.os, h.tape, h.output, h.size, fun k hk _ => h.block k hk (by simp)⟩
theorem skip_step {P : Program} {ops : Array Oper} {o : Oper} {a : Act} {Q : Exit → Act → World → Prop} {Kc : Act → World → Prop} {W w1 : World} (hw : Region.wanted o (yielded ops a.tmps) = true) (hrun : (execOp a.eval o).run P W = .ok .skip w1) (h : Kc (a.put o.dst undef) w1) : if Region.wanted o (yielded ops a.tmps) = true then Oper.wp P o a W Kc Q else Kc (a.put o.dst undef) W := by
  rw [if_pos hw]
  unfold Oper.wp
  rw [hrun]
  exact h
structure GI (w0 : World) (cs : List (Nat × Array Value × TypeId)) (M : Nat) (xs : List S49) (k : Nat) (O : Nat → Prop) (W : World) : Prop where
  below : Below w0.heap.size w0 W
  low : ∀ i, O i → w0.heap.size ≤ i
  blocks : ∀ c ∈ cs, O c.1 ∧ c.2.2 ≠ 3 ∧ W.heap[c.1]? = some (.cells c.2.1 c.2.2 (0, 0))
  map : GMap Try.prog 3 3 W M k (grp (xs.take k)) O
theorem GI.abide (w0 : World) (cs : List (Nat × Array Value × TypeId)) (M : Nat) (xs : List S49) (k : Nat) : Abide w0.heap.size (GI w0 cs M xs k) := by
  intro O A B T h hc hT
  exact ⟨h.below.trans (hc.below h.below.size (fun i hi => (hT i hi).1)), h.low, fun c hcs => ⟨(h.blocks c hcs).1, (h.blocks c hcs).2.1, hc.blk (h.blocks c hcs).2.2 (fun ht => (hT _ ht).2 (h.blocks c hcs).1)⟩, h.map.chg hc (fun i ho ht => (hT i ht).2 ho)⟩
theorem GI.mono {w0 : World} {cs : List (Nat × Array Value × TypeId)} {M : Nat} {xs : List S49} {k : Nat} {O O2 : Nat → Prop} {W : World} (h : GI w0 cs M xs k O W) (hO : ∀ i, O i → O2 i) (hl : ∀ i, O2 i → w0.heap.size ≤ i) : GI w0 cs M xs k O2 W :=
  ⟨h.below, hl, fun c hc => ⟨hO _ (h.blocks c hc).1, (h.blocks c hc).2⟩, h.map.mono hO⟩
theorem GI.alloc {w0 : World} {cs : List (Nat × Array Value × TypeId)} {M : Nat} {xs : List S49} {k : Nat} {O : Nat → Prop} {W : World} (h : GI w0 cs M xs k O W) (o : Obj) : GI w0 cs M xs k (fun i => O i ∨ i = W.heap.size) (W.alloc o) :=
  (GI.abide w0 cs M xs k O W (W.alloc o) (fun _ => False) h ((Chg.refl _ _).alloc _) (fun i hi => hi.elim)).mono (fun _ h => .inl h) (fun i hi => hi.elim (h.low i) (fun e => by rw [e]; exact h.below.size))
def okR (en : List Int) (n : Nat) (r : S68) : Bool := decide ((r.f0 = 8 ∨ r.f0 = 9) ∧ r.f1 < n ∧ 0 ≤ r.f1) && en.contains r.f1
def stepE (G : Int → List Int) (r : S68) (g : Nat) (f : S66) (o : List Ed) : List Ed := if 0 < g ∧ (G r.f6).contains f.f0 = true ∧ o.getLast? ≠ some ⟨r.f1, r.f6, g⟩ then o ++ [⟨r.f1, r.f6, g⟩] else o
def innerE (G : Int → List Int) (r : S68) (fs : List S66) (k : Nat) (o : List Ed) : List Ed := (List.range k).foldl (fun o (i : Nat) => stepE G r i (rd_T66 fs (i : Int)) o) o
def ruleE (en : List Int) (G : Int → List Int) (fs : List S66) (r : S68) (o : List Ed) : List Ed := if okR en fs.length r = true then innerE G r fs fs.length o else o
def outerE (en : List Int) (G : Int → List Int) (fs : List S66) (rs : List S68) (j : Nat) : List Ed := (List.range j).foldl (fun o (i : Nat) => ruleE en G fs (rd_T68 rs (i : Int)) o) []
theorem inner_succ (G : Int → List Int) (r : S68) (fs : List S66) (k : Nat) (o : List Ed) : innerE G r fs (k + 1) o = stepE G r k (rd_T66 fs (k : Int)) (innerE G r fs k o) := by
  unfold innerE; rw [List.range_succ, List.foldl_append]; rfl
theorem outer_succ (en : List Int) (G : Int → List Int) (fs : List S66) (rs : List S68) (j : Nat) : outerE en G fs rs (j + 1) = ruleE en G fs (rd_T68 rs (j : Int)) (outerE en G fs rs j) := by
  unfold outerE; rw [List.range_succ, List.foldl_append]; rfl
theorem step_len (G : Int → List Int) (r : S68) (g : Nat) (f : S66) (o : List Ed) : (stepE G r g f o).length ≤ o.length + 1 := by
  unfold stepE; split <;> simp
theorem inner_len (G : Int → List Int) (r : S68) (fs : List S66) (o : List Ed) : ∀ k, (innerE G r fs k o).length ≤ o.length + k
  | 0 => by simp [innerE]
  | k + 1 => by
    rw [inner_succ]
    have := inner_len G r fs o k
    have := step_len G r k (rd_T66 fs (k : Int)) (innerE G r fs k o)
    omega
theorem outer_len (en : List Int) (G : Int → List Int) (fs : List S66) (rs : List S68) : ∀ j, (outerE en G fs rs j).length ≤ j * fs.length
  | 0 => by simp [outerE]
  | j + 1 => by
    rw [outer_succ]
    have h1 := outer_len en G fs rs j
    have h2 := inner_len G (rd_T68 rs (j : Int)) fs (outerE en G fs rs j) fs.length
    unfold ruleE
    rw [Nat.add_mul]
    split <;> omega
theorem OwnE.slice3 {W : World} {base : Nat} {v : Value} {xs : List Ed} (h : OwnE W base v xs) : ∃ A c, v = .slice A xs.length c := by
  rcases h.slice with ⟨h1, h2⟩ | ⟨g, c, cur, h1, _⟩
  · subst h2; exact ⟨_, _, h1⟩
  · exact ⟨_, _, h1⟩
theorem app_next {W5 Wd w1 : World} {v : Value} {o2 : List Ed} {Rb : Nat} {cs : Array Value} {t : TypeId} {o : Obj} (hB : Below W5.heap.size W5 Wd) (hO : OwnE Wd W5.heap.size v o2) (hR : Wd.heap[Rb]? = some (.cells cs t (0, 0))) (ht : t ≠ 24) (hg : (Wd.alloc o).grownBy w1 v.ownBlock) :
    Below W5.heap.size W5 w1 ∧ w1.heap[Rb]? = some (.cells cs t (0, 0)) := by
  have hlt := (Array.getElem?_eq_some_iff.1 hR).1
  refine ⟨(hB.alloc hB.size o).grown hg (by have := hB.size; simp; omega) (fun j hj => (hO.lt hj).1), ?_⟩
  rw [hg.block Rb (by simp; omega) (fun e => ht (hO.type e.symm hR)), Below.heap_alloc _ _ _ hlt]
  exact hR
theorem rdE_last (o3 : List Ed) (y : Ed) : rd_T24 (o3 ++ [y]) (o3.length : Int) = y := by
  unfold rd_T24
  rw [Int.toNat_natCast]
  simp [List.getD]
def onlyN (K : Act → World → Prop) : Exit → Act → World → Prop
  | .normal, a, w => K a w
  | _, _, _ => False
theorem wp_only {P : Program} {c : Code} {Q : Exit → Act → World → Prop} {a : Act} {w : World} (h : c.wp P (onlyN (Q .normal)) a w) : c.wpIn Fence.wide 0 P Q a w :=
  wpIn_wide.2 (Go.wp_mono h (fun e a w h => by cases e <;> first | exact h | exact h.elim))
theorem cell_of_heap {w : World} {b : Nat} {cs : Array Value} {T : TypeId} {fr : Nat × Nat} (hb : w.heap[b]? = some (.cells cs T fr)) (j : Nat) : w.cell? ⟨b, j, none⟩ = cs[j]? := by simp [World.cell?, hb]
theorem own_type {W : World} {base : Nat} {e : TypeId} {q : IntKind} {v : Value} {zs : List Int} (h : W.ownsInts base e q v zs) {g : Nat} (hg : v.ownBlock = some g) {cs : Array Value} {t : TypeId} (ht : W.heap[g]? = some (.cells cs t (0, 0))) : t = e := by
  rcases h.1.2 with ⟨rfl, _⟩ | ⟨g', cap, cur, rfl, _, hh, _⟩
  · cases hg
  · injection hg with hg
    subst hg
    rw [hh] at ht
    cases ht
    rfl
theorem toldL_mem {l : List S49} {kind : Int} {x : S49} (h : x ∈ toldL l kind) : x ∈ l := by
  unfold toldL at h
  obtain ⟨y, hy, he⟩ := List.mem_filterMap.1 h
  unfold ofKind at he
  split at he
  · cases he; exact hy
  · cases he
theorem GI.next {w0 Wb W4 W5 : World} {cs : List (Nat × Array Value × TypeId)} {M : Nat} {xs : List S49} {k : Nat} {O : Nat → Prop} {x : S49} {v : Value} (hi : GI w0 cs M xs k O Wb) (hOb : ∀ i, O i → i < Wb.heap.size) (hx : xs[k]? = some x)
    (hg4 : Wb.drew.grownBy W4 v.ownBlock) (hg5 : W4.grownBy W5 (some M)) (hv : ∀ g, v.ownBlock = some g → O g ∧ g ≠ M) (hoi : Wb.drew.ownsInts (M + 1) 3 .i64 v (grp (xs.take k) x.f1))
    (hm : GMap Try.prog 3 3 W5 M (k + 1) (fun y => if y = x.f1 then grp (xs.take k) x.f1 ++ [x.f3] else grp (xs.take k) y) (fun i => O i ∨ Wb.drew.heap.size ≤ i)) :
    Chg O Wb W5 ∧ ∃ O2 : Nat → Prop, Grow O Wb O2 W5 ∧ GI w0 cs M xs (k + 1) O2 W5 := by
  have hc4 : Chg O Wb W4 := (Chg.refl O Wb).drew.grown hg4 (fun g hg => .inl (hv g hg).1)
  have hc5 : Chg O Wb W5 := hc4.grown hg5 (fun g hg => by cases hg; exact .inl hi.map.own)
  have hs : Wb.heap.size ≤ W5.heap.size := hc5.size
  refine ⟨hc5, fun i => (O i ∨ Wb.heap.size ≤ i) ∧ i < W5.heap.size, fun i hi => hi, hi.below.trans (hc5.below hi.below.size (fun i h => hi.low i h)), fun i h => ?_, fun c hc => ?_, ?_⟩
  · rcases h.1 with h | h
    · exact hi.low i h
    · exact Nat.le_trans hi.below.size h
  · obtain ⟨h1, h2, h3⟩ := hi.blocks c hc
    have hlt := hOb _ h1
    refine ⟨⟨.inl h1, by omega⟩, h2, ?_⟩
    have e4 : W4.heap[c.1]? = Wb.heap[c.1]? := hg4.block c.1 hlt (fun e => h2 (own_type hoi e.symm h3))
    have e5 : W5.heap[c.1]? = W4.heap[c.1]? := hg5.block c.1 (by have := hg4.size; simp at this; omega) (fun e => by
      injection e with e
      obtain ⟨D, ⟨es, clock, hb, _⟩, _⟩ := hi.map.map
      rw [← e, h3] at hb
      cases hb)
    exact e5.trans (e4.trans h3)
  · refine (hm.bound.same (fun y hy => ?_)).mono (fun i h => ⟨h.1, h.2⟩)
    rw [List.take_add_one, hx]
    exact (grp_snoc _ _ _).symm
theorem wpIn_scope_wide {P : Program} {c : Code} {Q : Exit → Act → World → Prop} {a : Act} {w : World} (h : c.wpIn Fence.wide 0 P (Exit.noGoto Q) a w) : (Code.scope c).wpIn Fence.wide 0 P Q a w :=
  wpIn_wide.2 (wp_scope_straight (wpIn_wide.1 h))
set_option maxHeartbeats 8000000 in
set_option maxRecDepth 100000 in
theorem edges_calls (s0 : Int) (A1 A2 A3 : Option Addr) (c1 c2 c3 : Nat) (fs : List S66) (rs : List S68) (ls : List S49) (w : World)
    (hf : Kd.C k66 w A1 fs.length fs) (hr : Kd.C k68 w A2 rs.length rs) (hl : Kd.C k49 w A3 ls.length ls) (hc1 : fs.length ≤ c1) (hc2 : rs.length ≤ c2) (hc3 : ls.length ≤ c3)
    (hfl : fs.length ≤ 1000) (hrl : rs.length ≤ 1000) (hll : ls.length ≤ 1000000) (hwl : ∀ f ∈ ls, wfI f.f1 ∧ wfI f.f3) (hwr : ∀ r ∈ rs, wfI r.f6) :
    Calls Try.prog 23 #[.agg #[.int .i64 s0, .slice A1 fs.length c1, .slice A2 rs.length c2], .slice A3 ls.length c3] w fun e w' => ∃ v_ : Value, e = .returned v_ ∧ Kd.V k24 24 w' w.heap.size (fun k_ => w.heap.size ≤ k_) v_ (edgeSet (outerE (sset (enteredL ls)) (grp (toldL ls 5)) fs rs rs.length)) ∧ Below w.heap.size w w' := by
  have hmk : ∀ W : World, (Instr.makeMap 69 none).run Try.prog W = .ok (.map (some W.heap.size)) (W.alloc (.map #[] 0)) := fun _ => rfl
  have HFU := Aside0.mk hf
  have HRU := Aside0.mk hr
  have HFA := Aside0.mk hl
  have HWL := Aside0.mk hwl
  have HWR := Aside0.mk hwr
  clear hf hr hl hwl hwr
  refine (callsIn_wide (n := 0)).1 ?_
  refine callsIn_of_wp_marks Try.func23 rfl trivial ?_ rfl
  simp only [Try.ntmps23, List.size_toArray, List.length_cons, List.length_nil, Nat.reduceAdd, Nat.reduceSub, Array.replicate_succ, Array.replicate_zero, List.push_toArray, List.append_toArray, List.nil_append, List.cons_append]
  have hdep : Fence.wide.depth = none := rfl
  have hfns : ∀ f, Fence.wide.fn f := fun _ => trivial
  gi_wp2
  refine wpIn_scope_wide ?_
  gi_wp2_with (gi_at_call 34; refine (callsIn_wide.2 (told_calls _ _ _ rfl)).mono ?_; rintro e w' ⟨rfl, rfl⟩)
  obtain ⟨W2, hW2⟩ : ∃ W2, ((((w.alloc (.cells #[.int .i64 s0, .slice A1 fs.length c1, .slice A2 rs.length c2] 43)).alloc (.map #[] 0)).alloc (.cells #[.map (some (w.heap.size + 1))] 69)).alloc (.cells #[.slice A3 ls.length c3] 35)).alloc (.cells #[.int .i64 5] 3) = W2 := ⟨_, rfl⟩
  have hcc : Chg (fun _ => False) w W2 := by rw [← hW2]; exact (((((Chg.refl _ w).alloc _).alloc _).alloc _).alloc _).alloc _
  have hs2 : W2.heap.size = w.heap.size + 5 := by rw [← hW2]; simp
  have hb2 : Below w.heap.size w W2 := hcc.below (Nat.le_refl _) (fun i h => h.elim)
  have hB2 : W2.heap[w.heap.size]? = some (.cells #[.int .i64 s0, .slice A1 fs.length c1, .slice A2 rs.length c2] 43 (0, 0)) := by rw [← hW2]; simp only [alloc_at, World.size_alloc]; simp (disch := omega) [if_pos, if_neg]
  have hB5 : W2.heap[w.heap.size + 1 + 1]? = some (.cells #[.map (some (w.heap.size + 1))] 69 (0, 0)) := by rw [← hW2]; simp only [alloc_at, World.size_alloc]; simp (disch := omega) [if_pos, if_neg]
  have hBl : W2.cell? ⟨w.heap.size + 1 + 1 + 1, 0, none⟩ = some (.slice A3 ls.length c3) := by
    rw [← hW2]
    exact (cell_of_blk (t := 35) (by simp only [alloc_at, World.size_alloc]; simp (disch := omega) [if_pos, if_neg])).1
  have hBk : W2.cell? ⟨w.heap.size + 1 + 1 + 1 + 1, 0, none⟩ = some (.int .i64 5) := by
    rw [← hW2]
    exact (cell_of_blk (t := 3) (by simp only [alloc_at, World.size_alloc]; simp (disch := omega) [if_pos, if_neg])).1
  have hit := told1_iter w W2 (w.heap.size + 1 + 1 + 1) (w.heap.size + 1 + 1 + 1 + 1) A3 c3 ls 5 HFA.out ⟨by omega, by omega⟩ ⟨hb2, hBl, hBk⟩
  have hg0 : GMap Try.prog 3 3 W2 (w.heap.size + 1) 0 (fun _ => []) (fun i => i = w.heap.size ∨ i = w.heap.size + 1 ∨ i = w.heap.size + 1 + 1) := by
    have h0 := GMap.made (P := Try.prog) (K := 3) (e := 3) (O := fun i => i = w.heap.size ∨ i = w.heap.size + 1 ∨ i = w.heap.size + 1 + 1) (w.alloc (.cells #[.int .i64 s0, .slice A1 fs.length c1, .slice A2 rs.length c2] 43)) (by simp)
    rw [World.size_alloc] at h0
    rw [← hW2]
    exact h0.chg ((((Chg.refl (fun _ => False) _).alloc _).alloc _).alloc _) (fun i _ h => h)
  have hI0 : GI w [(w.heap.size, #[.int .i64 s0, .slice A1 fs.length c1, .slice A2 rs.length c2], 43), (w.heap.size + 1 + 1, #[.map (some (w.heap.size + 1))], 69)] (w.heap.size + 1) (toldL ls 5) 0 (fun i => i = w.heap.size ∨ i = w.heap.size + 1 ∨ i = w.heap.size + 1 + 1) W2 :=
    ⟨hb2, fun i hi => by omega, fun c hc => by
      simp at hc
      rcases hc with rfl | rfl
      · exact ⟨.inl rfl, by simp, hB2⟩
      · exact ⟨.inr (.inr rfl), by simp, hB5⟩, hg0⟩
  rw [hW2]
  clear hW2 hg0 hBl hBk hB2 hB5
  refine wp_rangeFunc_go (gf := 47) (lb := #[.pointer (some ⟨w.heap.size + 1 + 1 + 1, 0, none⟩), .pointer (some ⟨w.heap.size + 1 + 1 + 1 + 1, 0, none⟩)]) rfl (enters_of Try.func47 (by kernel_rfl) rfl) hit (fun _ => rfl)
    (fun i => i = w.heap.size ∨ i = w.heap.size + 1 ∨ i = w.heap.size + 1 + 1) (by omega) (fun i hi => by omega) (fun i hi => by rcases hi with rfl | rfl <;> omega) (Chg.refl _ _)
    (GI w [(w.heap.size, #[.int .i64 s0, .slice A1 fs.length c1, .slice A2 rs.length c2], 43), (w.heap.size + 1 + 1, #[.map (some (w.heap.size + 1))], 69)] (w.heap.size + 1) (toldL ls 5)) (fun _ _ _ _ => False)
    (fun k => GI.abide _ _ _ _ k) (fun _ _ _ _ _ _ h _ _ => h) hI0 ?round ?done ?stop
  case stop => exact fun D k c O1 W _ _ _ h _ => h.elim
  case round =>
    intro l0 k x O1 W K hx hi hb hK
    obtain ⟨x0, x1, x2, x3⟩ := x
    dsimp only [encF]
    gi_wp2
    refine hK _ _ _ ((Chg.refl _ _).alloc _) (grow_alloc hb _) (hi.alloc _) ?_
    have hn4 := heap_alloc_new W (.cells #[.int .i64 x0, .int .i64 x1, .string x2, .int .i64 x3] 49)
    have HX := Aside0.mk hx
    clear hi hK hb hx
    intro l T Wb hc hT hOb hll hnl hrec hi
    have hn5 := hc.blk hn4 (fun ht => (hT _ ht).2 (.inr rfl))
    clear hn4 hc hT hll hnl hrec
    have hklt := (List.getElem?_eq_some_iff.1 HX.out).1
    have hkl : (toldL ls 5).length ≤ ls.length := List.length_filterMap_le _ _
    obtain ⟨hwf1, hwf3⟩ := HWL.out _ (toldL_mem (List.mem_of_getElem? HX.out))
    obtain ⟨zs, hzs⟩ : ∃ zs, zs = grp ((toldL ls 5).take k) x1 := ⟨_, rfl⟩
    have hbW : w.heap.size ≤ Wb.heap.size := hi.below.size
    have hMlt := hi.map.lt
    obtain ⟨v, ⟨es, clock, hbM, hlook⟩, hoi, hlen, hvO, hback⟩ := (hi.map.chg (Chg.refl (fun _ => False) Wb).drew (fun _ _ h => h)).look (t := 69) (E := 27) Try.underlying3 Try.underlying69 Try.zeroValue27 (by simp only [maxLen]; omega) x1 hwf1
    rw [← hzs] at hoi hlen
    have hB5 := (hi.blocks (w.heap.size + 1 + 1, #[.map (some (w.heap.size + 1))], 69) (by simp)).2.2
    have h5lt := (Array.getElem?_eq_some_iff.1 hB5).1
    have hFlt := (Array.getElem?_eq_some_iff.1 hn5).1
    have HS := Aside0.mk (show ∀ W', (∀ i, (i = w.heap.size + 1 + 1 ∨ i = W.heap.size ∨ i = w.heap.size + 1) → W'.heap[i]? = Wb.drew.heap[i]?) → (W'.cell? ⟨w.heap.size + 1 + 1, 0, none⟩ = some (.map (some (w.heap.size + 1))) ∧ W'.cell? ⟨W.heap.size, 1, none⟩ = some (.int .i64 x1) ∧ W'.cell? ⟨W.heap.size, 3, none⟩ = some (.int .i64 x3) ∧ (Instr.lookup 69 (.map (some (w.heap.size + 1))) (.int .i64 x1) false).run Try.prog W' = .ok v W') from fun W' h =>
      ⟨cell_of_heap ((h _ (.inl rfl)).trans hB5) 0, cell_of_heap ((h _ (.inr (.inl rfl))).trans hn5) 1, cell_of_heap ((h _ (.inr (.inl rfl))).trans hn5) 3, hlook W' ((h _ (.inr (.inr rfl))).trans hbM)⟩)
    have HLT := Aside0.mk (show ∀ i, (i = w.heap.size + 1 + 1 ∨ i = W.heap.size ∨ i = w.heap.size + 1) → i < Wb.drew.heap.size from fun i h => by rcases h with rfl | rfl | rfl; exact h5lt; exact hFlt; exact hMlt)
    have HNE := Aside0.mk (show ∀ i, (i = w.heap.size + 1 + 1 ∨ i = W.heap.size ∨ i = w.heap.size + 1) → some i ≠ v.ownBlock from fun i h e => by
      rcases h with rfl | rfl | rfl
      · exact absurd (own_type hoi e.symm hB5) (by simp)
      · exact absurd (own_type hoi e.symm hn5) (by simp)
      · exact (hvO _ e.symm).2 rfl)
    have HOI := Aside0.mk hoi
    have HBK := Aside0.mk hback
    have HVO := Aside0.mk hvO
    have HI := Aside0.mk hi
    have HOB := Aside0.mk hOb
    have HZ := Aside0.mk hzs
    clear hback hlook hi hOb hoi hzs hvO hB5 hn5 hbM
    gi_wp2_with fail
    refine startIn_ (n := 12) (S := fun W' => W'.cell? ⟨w.heap.size + 1 + 1, 0, none⟩ = some (.map (some (w.heap.size + 1))) ∧ W'.cell? ⟨W.heap.size, 1, none⟩ = some (.int .i64 x1) ∧ W'.cell? ⟨W.heap.size, 3, none⟩ = some (.int .i64 x3) ∧ (Instr.lookup 69 (.map (some (w.heap.size + 1))) (.int .i64 x1) false).run Try.prog W' = .ok v W') (ds := [11]) #[false, false, false, false, false, false, false, false, false, false, false, false] (by kernel_rfl) rfl rfl (by kernel_rfl) (fun ⟨a_, w_, h_⟩ => h_) (HS.out _ (fun _ _ => rfl)) (fun hHeld => ?_)
    refine with_tabW getab4 gebits4 (fun HT_ HW_ => ?_)
    refine take_ (i := 0) (N := some 18) (v := ?_) (a' := ?_) #[true, false, false, false, false, false, false, false, false, false, false, false] rfl rfl (take_ofW HT_.out HW_.out (by kernel_rfl)) (fun _ _ _ h => h) (Or.inl ⟨by rfl, ?_⟩) hHeld ?_ ?_
    rotate_left
    · rintro w' ⟨s0, s1, s2, s3⟩
      first | (go_simp; with_reducible rfl)
    rotate_left
    · simp only [Act.put, List.setIfInBounds_toArray, List.set_cons_zero, List.set_cons_succ, i64_w, i32_w]
      rfl
    refine pure_ (i := 1) (N := some 19) (v := ?_) (a' := ?_) #[true, true, false, false, false, false, false, false, false, false, false, false] rfl rfl (any_of HT_.out (by kernel_rfl)) (fun _ _ _ h => h) (Or.inl ⟨by rfl, ?_⟩) ?_ ?_
    rotate_left
    · intro w'
      first | (go_simp; with_reducible rfl)
    rotate_left
    · simp only [Act.put, List.setIfInBounds_toArray, List.set_cons_zero, List.set_cons_succ, i64_w, i32_w]
      rfl
    refine take_ (i := 2) (N := some 20) (v := ?_) (a' := ?_) #[true, true, true, false, false, false, false, false, false, false, false, false] rfl rfl (take_ofW HT_.out HW_.out (by kernel_rfl)) (fun _ _ _ h => h) (Or.inl ⟨by rfl, ?_⟩) hHeld ?_ ?_
    rotate_left
    · rintro w' ⟨s0, s1, s2, s3⟩
      first | (go_simp; with_reducible rfl)
    rotate_left
    · simp only [Act.put, List.setIfInBounds_toArray, List.set_cons_zero, List.set_cons_succ, i64_w, i32_w]
      rfl
    refine take_ (i := 3) (N := some 21) (v := ?_) (a' := ?_) #[true, true, true, true, false, false, false, false, false, false, false, false] rfl rfl (take_ofW HT_.out HW_.out (by kernel_rfl)) (fun _ _ _ h => h) (Or.inl ⟨by rfl, ?_⟩) hHeld ?_ ?_
    rotate_left
    · rintro w' ⟨s0, s1, s2, s3⟩
      first | (go_simp; with_reducible rfl)
    rotate_left
    · simp only [Act.put, List.setIfInBounds_toArray, List.set_cons_zero, List.set_cons_succ, i64_w, i32_w]
      rfl
    refine pure_ (i := 4) (N := some 22) (v := ?_) (a' := ?_) #[true, true, true, true, true, false, false, false, false, false, false, false] rfl rfl (any_of HT_.out (by kernel_rfl)) (fun _ _ _ h => h) (Or.inl ⟨by rfl, ?_⟩) ?_ ?_
    rotate_left
    · intro w'
      first | (go_simp; with_reducible rfl)
    rotate_left
    · simp only [Act.put, List.setIfInBounds_toArray, List.set_cons_zero, List.set_cons_succ, i64_w, i32_w]
      rfl
    refine take_ (i := 5) (N := some 23) (v := ?_) (a' := ?_) #[true, true, true, true, true, true, false, false, false, false, false, false] rfl rfl (take_ofW HT_.out HW_.out (by kernel_rfl)) (fun _ _ _ h => h) (Or.inl ⟨by rfl, ?_⟩) hHeld ?_ ?_
    rotate_left
    · rintro w' ⟨s0, s1, s2, s3⟩
      first | (go_simp; with_reducible rfl)
    rotate_left
    · simp only [Act.put, List.setIfInBounds_toArray, List.set_cons_zero, List.set_cons_succ, i64_w, i32_w]
      rfl
    refine take_ (i := 6) (N := some 24) (v := ?_) (a' := ?_) #[true, true, true, true, true, true, true, false, false, false, false, false] rfl rfl (take_ofW HT_.out HW_.out (by kernel_rfl)) (fun _ _ _ h => h) (Or.inl ⟨by rfl, ?_⟩) hHeld ?_ ?_
    rotate_left
    · rintro w' ⟨s0, s1, s2, s3⟩
      first | (go_simp; with_reducible rfl)
    rotate_left
    · simp only [Act.put, List.setIfInBounds_toArray, List.set_cons_zero, List.set_cons_succ, i64_w, i32_w]
      rfl
    refine pure_ (i := 7) (N := some 25) (v := ?_) (a' := ?_) #[true, true, true, true, true, true, true, true, false, false, false, false] rfl rfl (any_of HT_.out (by kernel_rfl)) (fun _ _ _ h => h) (Or.inl ⟨by rfl, ?_⟩) ?_ ?_
    rotate_left
    · intro w'
      first | (go_simp; with_reducible rfl)
    rotate_left
    · simp only [Act.put, List.setIfInBounds_toArray, List.set_cons_zero, List.set_cons_succ, i64_w, i32_w]
      rfl
    refine take_ (i := 8) (N := some 26) (v := ?_) (a' := ?_) #[true, true, true, true, true, true, true, true, true, false, false, false] rfl rfl (take_ofW HT_.out HW_.out (by kernel_rfl)) (fun _ _ _ h => h) (Or.inl ⟨by rfl, ?_⟩) hHeld ?_ ?_
    rotate_left
    · rintro w' ⟨s0, s1, s2, s3⟩
      first | (go_simp; with_reducible rfl)
    rotate_left
    · simp only [Act.put, List.setIfInBounds_toArray, List.set_cons_zero, List.set_cons_succ, i64_w, i32_w]
      rfl
    refine one_ (i := 9) (N := some 27) #[true, true, true, true, true, true, true, true, true, true, false, false] rfl rfl (one_of HT_.out (by kernel_rfl)) (by decide) (fun K hK => ?_)
    refine Kd.R_lit_step (Kd.int .i64) _ 3 (by rfl) (N := 27) rfl (xs := ([x3] : List Int)) (inner := [.int .i64 x3]) (ok := fun _ => True) (okp := fun _ => True) ?hr ?hp (fun _ hk => hk) trivial (Below.refl _ _) (Nat.le_refl _) (by simp) ?_
    case hr => first | (go_simp; done) | (go_simp; rfl)
    case hp => exact Reps.snoc (Reps.none _ _) rfl rfl
    intro vm W3 ho hb hg_ hnew_
    obtain ⟨Am, cm, hvm⟩ := Kd.R_slice ho
    subst hvm
    have HM := Aside0.mk (Kd.R_reads' ho).2.2
    have HG3 := Aside0.mk hg_
    have HO3 := Aside0.mk (ownsInts_chg HOI.out (Chg.of_grown hg_) (fun g _ h => by cases h))
    clear ho hb hg_ hnew_
    refine hK.out _ _ (HS.out _ (fun i hi => HG3.out.block i (HLT.out i hi) (by simp))) (fun hHeld => ?_)
    clear hK K
    refine norm_ (a' := ?_) ?_ ?_
    rotate_left
    · show Act.put _ (some 27) _ = _
      simp only [Act.put, List.setIfInBounds_toArray, List.set_cons_zero, List.set_cons_succ, i64_w, i32_w]
      rfl
    refine one_ (i := 10) (N := some 28) #[true, true, true, true, true, true, true, true, true, true, true, false] rfl rfl (one_of HT_.out (by kernel_rfl)) (by decide) (fun K hK => ?_)
    refine Kd.R_append_rows_step (Kd.int .i64) (w0 := W3) (w.heap.size + 1 + 1) (by rfl) (.tmp 24) (.tmp 27) 27 3 (.int .i64 0) 8 rfl Try.underlying27 infoI rfl (by decide) (by omega) v zs [x3] _ _ _ (fun _ => True) (fun _ => False) rfl rfl (Kd.R_of_own HO3.out.1 (fun _ _ => trivial)) HM.out (fun _ _ h => h) (fun _ h => h.elim) (fun _ _ => trivial) (Below.refl _ _) (by have h_ : Wb.heap.size ≤ W3.heap.size := HG3.out.size; omega) (by simp only [List.length_cons, List.length_nil]; omega) ?_
    intro v1 W4 ho hb hg hat
    have HO4 := Aside0.mk (show W4.ownsInts (w.heap.size + 1 + 1) 3 .i64 v1 (zs ++ [x3]) from ⟨by have h_ := Kd.own_of_R ho; exact h_, fun z hz => by
        rcases List.mem_append.1 hz with hz | hz
        · exact HO3.out.2 z hz
        · simp at hz; subst hz; exact hwf3⟩)
    have HG4 := Aside0.mk (grown_none HG3.out (row := v.ownBlock) |>.trans hg)
    have HAT := Aside0.mk (show v1.ownBlock = v.ownBlock ∨ ∃ g, v1.ownBlock = some g ∧ Wb.drew.heap.size ≤ g from hat.imp_right (fun ⟨g, h1, h2⟩ => ⟨g, h1, Nat.le_trans HG3.out.size h2⟩))
    clear ho hb hg hat HO3 HM HG3
    refine hK.out _ _ (HS.out _ (fun i hi => HG4.out.block i (HLT.out i hi) (HNE.out i hi))) (fun hHeld => ?_)
    clear hK K
    refine norm_ (a' := ?_) ?_ ?_
    rotate_left
    · show Act.put _ (some 28) _ = _
      simp only [Act.put, List.setIfInBounds_toArray, List.set_cons_zero, List.set_cons_succ, i64_w, i32_w]
      rfl
    refine last_ (i := 11) (N := none) #[true, true, true, true, true, true, true, true, true, true, true, true] rfl rfl (one_of HT_.out (by kernel_rfl)) (by decide) (fun K hK => ?_)
    obtain ⟨W5, hup, hgm, hg5⟩ := HBK.out W4 v1 (zs ++ [x3]) HG4.out HO4.out (by simp only [List.length_append, List.length_cons, List.length_nil]; omega) HAT.out
    have HGM := Aside0.mk hgm
    have HG5 := Aside0.mk hg5
    clear hgm hg5
    refine skip_step (w1 := W5) (by rfl) (by first | (go_simp; done) | (go_simp; rfl)) ?_
    clear hup
    refine hK.out _ _ ?_
    clear hK K
    refine norm_ (a' := ?_) ?_ ?_
    rotate_left
    · show Act.put _ (none) _ = _
      simp only [Act.put, List.setIfInBounds_toArray, List.set_cons_zero, List.set_cons_succ, i64_w, i32_w]
      rfl
    refine done_ (done_of HT_.out (by kernel_rfl)) ?_
    have hnx := HI.out.next HOB.out HX.out HG4.out HG5.out HVO.out (by rw [← HZ.out]; exact HOI.out) (by rw [← HZ.out]; exact HGM.out)
    exact hnx
  case done =>
    intro D O1 W4 hD hnD hi hK
    have hb4 : Below w.heap.size w W4 := hi.below
    have HEN := Aside0.mk (Gr.graph_Entered.calls A3 c3 ls (sset (enteredL ls)) W4 (Kd.C_below HFA.out hb4) hc3 (by unfold Gr.graph_Entered.f; rw [if_pos (by omega)]))
    have HGI := Aside0.mk hi
    have HB4 := Aside0.mk hb4
    have HK := Aside0.mk hK
    clear hi hK hit hI0 hcc hb4
    gi_wp2_with (gi_at_call 19; refine (callsIn_wide.2 HEN.out).mono ?_; rintro e W5 ⟨v5, rfl, hv5, hb5⟩; obtain ⟨A5, c5, hv5e⟩ := Kd.V_slice hv5; subst hv5e; have HEV := Aside0.mk (Kd.V_reads' hv5).2.2; have HB5 := Aside0.mk hb5; clear hv5 hb5)
    refine wpIn_label ?_
    have hB2 := (HGI.out.blocks (w.heap.size, #[.int .i64 s0, .slice A1 fs.length c1, .slice A2 rs.length c2], 43) (by simp)).2.2
    have hB2' : W5.heap[w.heap.size]? = some (.cells #[.int .i64 s0, .slice A1 fs.length c1, .slice A2 rs.length c2] 43 (0, 0)) := (HB5.out.block _ (Array.getElem?_eq_some_iff.1 hB2).1).trans hB2
    have hcB2 : W5.cell? ⟨w.heap.size, 2, none⟩ = some (.slice A2 rs.length c2) := cell_of_heap hB2' 2
    clear hB2
    have HE5 := Aside0.mk (show ∀ W : World, Below W5.heap.size W5 W → W.heap[w.heap.size]? = some (.cells #[.int .i64 s0, .slice A1 fs.length c1, .slice A2 rs.length c2] 43 (0, 0)) from fun W hb => (hb.block _ (Array.getElem?_eq_some_iff.1 hB2').1).trans hB2')
    have HM5 := Aside0.mk (HGI.out.map.chg (Chg.of_below HB5.out (fun _ => False)) (fun _ _ h => h))
    have hB5 := (HGI.out.blocks (w.heap.size + 1 + 1, #[.map (some (w.heap.size + 1))], 69) (by simp)).2.2
    have HX5 := Aside0.mk (show ∀ W : World, Below W5.heap.size W5 W → W.heap[w.heap.size + 1 + 1]? = some (.cells #[.map (some (w.heap.size + 1))] 69 (0, 0)) from fun W hb => (hb.block _ (Nat.lt_of_lt_of_le (Array.getElem?_eq_some_iff.1 hB5).1 HB5.out.size)).trans ((HB5.out.block _ (Array.getElem?_eq_some_iff.1 hB5).1).trans hB5))
    have HW5 := Aside0.mk (show Below w.heap.size w W5 from HB4.out.trans (HB5.out.mono HB4.out.size))
    clear hB2' hB5
    obtain ⟨en, hen⟩ : ∃ en, en = sset (enteredL ls) := ⟨_, rfl⟩
    rw [← hen] at HEV
    obtain ⟨G, hG⟩ : ∃ G, G = grp ((toldL ls 5).take (toldL ls 5).length) := ⟨_, rfl⟩
    rw [← hG] at HM5
    have HG := Aside0.mk hG
    have HN := Aside0.mk hen
    have hNL : (toldL ls 5).length ≤ 1000000 := Nat.le_trans (List.length_filterMap_le _ _) hll
    rw [← hen]
    clear hG hen HGI HEN
    gi_wp2
    gi_loopg [8, 34] rs.length (fun jq v8 v34 W => ∃ j : Nat, v34 = .int .i64 j ∧ j + jq = rs.length ∧ Below W5.heap.size W5 W ∧ OwnE W W5.heap.size v8 (outerE en G fs rs j))
    case atStart => exact ⟨0, rfl, by omega, Below.refl _ _, OwnE.nil _ _⟩
    case round =>
      obtain ⟨j, rfl, hj, hbel, hown⟩ := hrel
      have HBL := Aside0.mk hbel
      have HOW := Aside0.mk hown
      by_cases hlt : j < rs.length
      · have hbw := HW5.out.trans (hbel.mono HW5.out.size)
        obtain ⟨ad, A8, c8, rfl, hc0, hc1_, hc2_, hc3_, hc4, hc5_, hc6, hc7, hc8, _, _⟩ := at_T68 (Kd.C_below HRU.out hbw) (j : Int) (by omega) (by omega)
        rw [Int.toNat_natCast] at hc0 hc1_ hc2_ hc3_ hc4 hc5_ hc6 hc7 hc8
        have HOS := Aside0.mk (outer_succ en G fs rs j)
        have houtl : (outerE en G fs rs j).length ≤ 1000000 := Nat.le_trans (outer_len en G fs rs j) (Nat.le_trans (Nat.mul_le_mul (show j ≤ 1000 by omega) hfl) (by decide))
        have HWM := Aside0.mk (show wfI (rd_T68 rs (j : Int)).f6 from HWR.out _ (by
          unfold rd_T68
          rw [Int.toNat_natCast, List.getD_eq_getElem?_getD, List.getElem?_eq_getElem hlt]
          exact List.getElem_mem _))
        generalize rd_T68 rs (j : Int) = r at *
        obtain ⟨r0, r1, r2, r3, r4, r5, r6, r7, r8⟩ := r
        generalize outerE en G fs rs j = out at *
        dsimp only at hc0 hc1_ hc2_ hc3_ hc4 hc5_ hc6 hc7 hc8
        clear hown hbw
        have hbs := hbel.size
        clear hbel
        have hbw2 : Below W5.heap.size W5 (wr.alloc (.cells #[.int .i64 r0, .int .i64 r1, .int .i64 r2, .int .i64 r3, .int .i64 r4, .int .i64 r5, .int .i64 r6, .string r7, .slice A8 r8.length c8] 68)) := HBL.out.alloc hbs _
        have hcB1 := cell_of_heap (HE5.out _ hbw2) 1
        have HBW2 := Aside0.mk hbw2
        clear hbw2
        by_cases hk : r0 = 8 ∨ r0 = 9
        · by_cases hge : (fs.length : Int) ≤ r1
          · have HZ := Aside0.mk (show ruleE en G fs ⟨r0, r1, r2, r3, r4, r5, r6, r7, r8⟩ out = out by unfold ruleE; rw [if_neg]; unfold okR; simp; omega)
            rcases hk with rfl | rfl
            all_goals
              gi_wp2
              gi_roundg (gk - 1)
              case measure => omega
              case rel => exact ⟨j + 1, by go_num, by omega, HBL.out.alloc hbs _, by rw [HOS.out, HZ.out]; exact HOW.out.below (below_alloc (Below.refl _ _) _)⟩
          · by_cases hneg : r1 < 0
            · have HZ := Aside0.mk (show ruleE en G fs ⟨r0, r1, r2, r3, r4, r5, r6, r7, r8⟩ out = out by unfold ruleE; rw [if_neg]; unfold okR; simp; omega)
              rcases hk with rfl | rfl
              all_goals
                gi_wp2
                gi_roundg (gk - 1)
                case measure => omega
                case rel => exact ⟨j + 1, by go_num, by omega, HBL.out.alloc hbs _, by rw [HOS.out, HZ.out]; exact HOW.out.below (below_alloc (Below.refl _ _) _)⟩
            · have HH := Aside0.mk (has_calls A5 c5 en r1 _ (Kd.C_below HEV.out HBW2.out))
              cases hh : en.contains r1
              · have HZ := Aside0.mk (show ruleE en G fs ⟨r0, r1, r2, r3, r4, r5, r6, r7, r8⟩ out = out by unfold ruleE; rw [if_neg]; unfold okR; rw [hh]; simp)
                rcases hk with rfl | rfl
                all_goals
                  gi_wp2_with (gi_at_call 36; refine (callsIn_wide.2 HH.out).mono ?_; rintro e w2 ⟨rfl, rfl⟩; rw [hh])
                  gi_roundg (gk - 1)
                  case measure => omega
                  case rel => exact ⟨j + 1, by go_num, by omega, HBL.out.alloc hbs _, by rw [HOS.out, HZ.out]; exact HOW.out.below (below_alloc (Below.refl _ _) _)⟩
              · have HZ := Aside0.mk (show ruleE en G fs ⟨r0, r1, r2, r3, r4, r5, r6, r7, r8⟩ out = innerE G ⟨0, r1, r2, r3, r4, r5, r6, r7, r8⟩ fs fs.length out by unfold ruleE; rw [if_pos]; rfl; unfold okR; rw [hh]; simp; omega)
                rcases hk with rfl | rfl
                all_goals
                  gi_wp2_with (gi_at_call 36; refine (callsIn_wide.2 HH.out).mono ?_; rintro e w2 ⟨rfl, rfl⟩; rw [hh])
                  have HOW3 := HOW
                  obtain ⟨Wo, hWo⟩ : ∃ Wo, Wo = wr := ⟨_, rfl⟩
                  subst hWo
                  clear HOW hcB1 hc0 hc1_ hc2_ hc3_ hc4 hc5_ hc6 hc7 hc8 HH HBL hge hneg
                  gi_loopg [8, 69] fs.length (fun kq v8 v69 W => ∃ k : Nat, v69 = .int .i64 k ∧ k + kq = fs.length ∧ Below W5.heap.size W5 W ∧ OwnE W W5.heap.size v8 (innerE G ⟨0, r1, r2, r3, r4, r5, r6, r7, r8⟩ fs k out) ∧ ∃ x0, W.heap[Wo.heap.size]? = some (.cells #[.int .i64 x0, .int .i64 r1, .int .i64 r2, .int .i64 r3, .int .i64 r4, .int .i64 r5, .int .i64 r6, .string r7, .slice A8 r8.length c8] 68 (0, 0)))
                  case atStart => exact ⟨0, rfl, by omega, HBW2.out, HOW3.out.below (below_alloc (Below.refl _ _) _), _, heap_alloc_new _ _⟩
                  case round =>
                    clear HOW3
                    obtain ⟨k, rfl, hk2, hbel2, hown2, x0, hbox⟩ := hrel
                    have HBL2 := Aside0.mk hbel2
                    have HOW2 := Aside0.mk hown2
                    by_cases hlt2 : k < fs.length
                    · have hbw := HW5.out.trans (hbel2.mono HW5.out.size)
                      obtain ⟨ad2, A1_, c1_, rfl, hd0, hd1, hd2, hd3, hd4, _, _⟩ := at_T66 (Kd.C_below HFU.out hbw) (k : Int) (by omega) (by omega)
                      rw [Int.toNat_natCast] at hd0 hd1 hd2 hd3 hd4
                      have HOS2 := Aside0.mk (inner_succ G ⟨0, r1, r2, r3, r4, r5, r6, r7, r8⟩ fs k out)
                      have hol2 := inner_len G ⟨0, r1, r2, r3, r4, r5, r6, r7, r8⟩ fs out k
                      generalize rd_T66 fs (k : Int) = f at *
                      obtain ⟨f0, f1, f2, f3, f4⟩ := f
                      generalize innerE G ⟨0, r1, r2, r3, r4, r5, r6, r7, r8⟩ fs k out = o2 at *
                      dsimp only at hd0 hd1 hd2 hd3 hd4
                      have hbs2 := hbel2.size
                      have hRlt := (Array.getElem?_eq_some_iff.1 hbox).1
                      have hr1 := cell_of_heap hbox 1
                      have hr6 := cell_of_heap hbox 6
                      clear hown2 hbw hbel2
                      gi_wp2_with fail
                      obtain ⟨Wq, hWq⟩ : ∃ Wq, (wr.alloc (.cells #[.int .i64 f0, .slice A1_ f1.length c1_, .int .i64 f2, .int .i64 f3, .int .i64 f4] 66)).alloc (.cells #[.int .i64 r1, .int .i64 r6, .int .i64 (k : Int)] 24) = Wq := ⟨_, rfl⟩
                      have hbq : Below wr.heap.size wr Wq := by rw [← hWq]; exact ((Below.refl _ wr).alloc (Nat.le_refl _) _).alloc (by simp) _
                      have hsq : Wq.heap.size = wr.heap.size + 2 := by rw [← hWq]; simp
                      have hEq : Wq.heap[wr.heap.size + 1]? = some (.cells #[.int .i64 r1, .int .i64 r6, .int .i64 (k : Int)] 24 (0, 0)) := by rw [← hWq]; simp only [alloc_at, World.size_alloc]; simp (disch := omega) [if_pos, if_neg]
                      have hFq : Wq.heap[wr.heap.size]? = some (.cells #[.int .i64 f0, .slice A1_ f1.length c1_, .int .i64 f2, .int .i64 f3, .int .i64 f4] 66 (0, 0)) := by rw [← hWq]; simp only [alloc_at, World.size_alloc]; simp (disch := omega) [if_pos, if_neg]
                      rw [hWq]
                      clear hWq
                      obtain ⟨Wd, hWd⟩ : ∃ Wd, Wq.drew = Wd := ⟨_, rfl⟩
                      have hbd : Below wr.heap.size wr Wd := by rw [← hWd]; exact below_drew hbq
                      have hsd : Wd.heap.size = wr.heap.size + 2 := by rw [← hWd]; exact hsq
                      have hEd : Wd.heap[wr.heap.size + 1]? = some (.cells #[.int .i64 r1, .int .i64 r6, .int .i64 (k : Int)] 24 (0, 0)) := by rw [← hWd]; exact hEq
                      have hFd : Wd.heap[wr.heap.size]? = some (.cells #[.int .i64 f0, .slice A1_ f1.length c1_, .int .i64 f2, .int .i64 f3, .int .i64 f4] 66 (0, 0)) := by rw [← hWd]; exact hFq
                      have hBD := HBL2.out.trans (hbd.mono hbs2)
                      have hRd : Wd.heap[Wo.heap.size]? = _ := (hbd.block _ hRlt).trans hbox
                      have hOD := HOW2.out.below hbd
                      have hcX := cell_of_heap (HX5.out _ hBD) 0
                      have hcR := cell_of_heap hRd 6
                      have hcF := cell_of_heap hFd 0
                      have hcE0 := cell_of_heap hEd 0
                      have hcE1 := cell_of_heap hEd 1
                      have hcE2 := cell_of_heap hEd 2
                      obtain ⟨v, ⟨es, clock, hbM, hlook0⟩, hoi, hlen, _, _⟩ := (HM5.out.chg (Chg.of_below hBD (fun _ => False)) (fun _ _ h => h)).look (t := 69) (E := 27) Try.underlying3 Try.underlying69 Try.zeroValue27 (by simp only [maxLen]; omega) r6 HWM.out
                      have hoI : OwnI Wd (w.heap.size + 1 + 1) v (G r6) := Kd.R_of_own hoi.1 (fun _ _ => trivial)
                      obtain ⟨Av, cv, rfl, hvc, hvm⟩ := own_slice3 hoI
                      have HCV := Aside0.mk (Kd.R_reads' hoI).2.2
                      have hlook := hlook0 Wd hbM
                      have HBD := Aside0.mk hBD
                      have HOD := Aside0.mk hOD
                      have HRD := Aside0.mk hRd
                      have HED := Aside0.mk hEd
                      clear hbq hsq hsd hEq hFq hbd hEd hFd hBD hRd hOD hoi hoI hlen hvc hvm hlook0 hbM hd0 hd1 hd2 hd3 hd4 hr1 hr6 hbox
                      rcases Nat.eq_zero_or_pos k with hk0 | hkp
                      · subst hk0
                        have HZ2 := Aside0.mk (show stepE G ⟨0, r1, r2, r3, r4, r5, r6, r7, r8⟩ 0 ⟨f0, f1, f2, f3, f4⟩ o2 = o2 by unfold stepE; rw [if_neg]; simp)
                        refine wp_only ?_
                        refine start_ (n := 26) (S := fun W' => W' = Wd) (ds := []) #[false, false, false, false, false, false, false, false, false, false, false, false, false, false, false, false, false, false, false, false, false, false, false, false, false, false] (by kernel_rfl) rfl rfl hWd (fun hHeld => ?_)
                        rw [hWd] at hHeld ⊢
                        refine with_tabW getab15 gebits15 (fun HT_ HW_ => ?_)
                        refine pure_ (i := 0) (N := some 80) (v := ?_) (a' := ?_) #[true, false, false, false, false, false, false, false, false, false, false, false, false, false, false, false, false, false, false, false, false, false, false, false, false, false] rfl rfl (any_of HT_.out (by kernel_rfl)) (fun _ _ _ h => h) (Or.inl ⟨by rfl, ?_⟩) ?_ ?_
                        rotate_left
                        · intro w'
                          first | (go_simp; with_reducible rfl)
                        rotate_left
                        · simp only [Act.put, List.setIfInBounds_toArray, List.set_cons_zero, List.set_cons_succ, i64_w, i32_w]
                          rfl
                        refine pure_ (i := 1) (N := some 81) (v := ?_) (a' := ?_) #[true, true, false, false, false, false, false, false, false, false, false, false, false, false, false, false, false, false, false, false, false, false, false, false, false, false] rfl rfl (any_of HT_.out (by kernel_rfl)) (fun _ _ _ h => h) (Or.inl ⟨by rfl, ?_⟩) ?_ ?_
                        rotate_left
                        · intro w'
                          first | (go_simp; with_reducible rfl)
                        rotate_left
                        · simp only [Act.put, List.setIfInBounds_toArray, List.set_cons_zero, List.set_cons_succ, i64_w, i32_w]
                          rfl
                        refine pure_ (i := 2) (N := some 82) (v := ?_) (a' := ?_) #[true, true, true, false, false, false, false, false, false, false, false, false, false, false, false, false, false, false, false, false, false, false, false, false, false, false] rfl rfl (any_of HT_.out (by kernel_rfl)) (fun _ _ _ h => h) (Or.inl ⟨by rfl, ?_⟩) ?_ ?_
                        rotate_left
                        · intro w'
                          first | (go_simp; with_reducible rfl)
                        rotate_left
                        · simp only [Act.put, List.setIfInBounds_toArray, List.set_cons_zero, List.set_cons_succ, i64_w, i32_w]
                          rfl
                        refine pure_ (i := 3) (N := some 83) (v := undef) (a' := ?_) #[true, true, true, true, false, false, false, false, false, false, false, false, false, false, false, false, false, false, false, false, false, false, false, false, false, false] rfl rfl (any_of HT_.out (by kernel_rfl)) (fun _ _ _ h => h) (Or.inr ⟨by rfl, rfl⟩) ?_ ?_
                        rotate_left
                        · simp only [Act.put, List.setIfInBounds_toArray, List.set_cons_zero, List.set_cons_succ, i64_w, i32_w]
                          rfl
                        refine pure_ (i := 4) (N := some 84) (v := undef) (a' := ?_) #[true, true, true, true, true, false, false, false, false, false, false, false, false, false, false, false, false, false, false, false, false, false, false, false, false, false] rfl rfl (any_of HT_.out (by kernel_rfl)) (fun _ _ _ h => h) (Or.inr ⟨by rfl, rfl⟩) ?_ ?_
                        rotate_left
                        · simp only [Act.put, List.setIfInBounds_toArray, List.set_cons_zero, List.set_cons_succ, i64_w, i32_w]
                          rfl
                        refine pure_ (i := 5) (N := some 85) (v := undef) (a' := ?_) #[true, true, true, true, true, true, false, false, false, false, false, false, false, false, false, false, false, false, false, false, false, false, false, false, false, false] rfl rfl (any_of HT_.out (by kernel_rfl)) (fun _ _ _ h => h) (Or.inr ⟨by rfl, rfl⟩) ?_ ?_
                        rotate_left
                        · simp only [Act.put, List.setIfInBounds_toArray, List.set_cons_zero, List.set_cons_succ, i64_w, i32_w]
                          rfl
                        refine pure_ (i := 6) (N := some 86) (v := undef) (a' := ?_) #[true, true, true, true, true, true, true, false, false, false, false, false, false, false, false, false, false, false, false, false, false, false, false, false, false, false] rfl rfl (any_of HT_.out (by kernel_rfl)) (fun _ _ _ h => h) (Or.inr ⟨by rfl, rfl⟩) ?_ ?_
                        rotate_left
                        · simp only [Act.put, List.setIfInBounds_toArray, List.set_cons_zero, List.set_cons_succ, i64_w, i32_w]
                          rfl
                        refine pure_ (i := 7) (N := some 87) (v := undef) (a' := ?_) #[true, true, true, true, true, true, true, true, false, false, false, false, false, false, false, false, false, false, false, false, false, false, false, false, false, false] rfl rfl (any_of HT_.out (by kernel_rfl)) (fun _ _ _ h => h) (Or.inr ⟨by rfl, rfl⟩) ?_ ?_
                        rotate_left
                        · simp only [Act.put, List.setIfInBounds_toArray, List.set_cons_zero, List.set_cons_succ, i64_w, i32_w]
                          rfl
                        refine pure_ (i := 8) (N := some 88) (v := undef) (a' := ?_) #[true, true, true, true, true, true, true, true, true, false, false, false, false, false, false, false, false, false, false, false, false, false, false, false, false, false] rfl rfl (any_of HT_.out (by kernel_rfl)) (fun _ _ _ h => h) (Or.inr ⟨by rfl, rfl⟩) ?_ ?_
                        rotate_left
                        · simp only [Act.put, List.setIfInBounds_toArray, List.set_cons_zero, List.set_cons_succ, i64_w, i32_w]
                          rfl
                        refine one_ (i := 9) (N := some 89) #[true, true, true, true, true, true, true, true, true, true, false, false, false, false, false, false, false, false, false, false, false, false, false, false, false, false] rfl rfl (one_of HT_.out (by kernel_rfl)) (by decide) (fun K hK => ?_)
                        rw [if_neg (fun h => by cases h)]
                        refine hK.out _ _ hHeld (fun hHeld => ?_)
                        clear hK K
                        refine norm_ (a' := ?_) ?_ ?_
                        rotate_left
                        · show Act.put _ (some 89) _ = _
                          simp only [Act.put, List.setIfInBounds_toArray, List.set_cons_zero, List.set_cons_succ, i64_w, i32_w]
                          rfl
                        refine pure_ (i := 10) (N := some 90) (v := ?_) (a' := ?_) #[true, true, true, true, true, true, true, true, true, true, true, false, false, false, false, false, false, false, false, false, false, false, false, false, false, false] rfl rfl (any_of HT_.out (by kernel_rfl)) (fun _ _ _ h => h) (Or.inl ⟨by rfl, ?_⟩) ?_ ?_
                        rotate_left
                        · intro w'
                          first | (go_simp; with_reducible rfl)
                        rotate_left
                        · simp only [Act.put, List.setIfInBounds_toArray, List.set_cons_zero, List.set_cons_succ, i64_w, i32_w]
                          rfl
                        refine pure_ (i := 11) (N := some 91) (v := ?_) (a' := ?_) #[true, true, true, true, true, true, true, true, true, true, true, true, false, false, false, false, false, false, false, false, false, false, false, false, false, false] rfl rfl (any_of HT_.out (by kernel_rfl)) (fun _ _ _ h => h) (Or.inl ⟨by rfl, ?_⟩) ?_ ?_
                        rotate_left
                        · intro w'
                          first | (go_simp; with_reducible rfl)
                        rotate_left
                        · simp only [Act.put, List.setIfInBounds_toArray, List.set_cons_zero, List.set_cons_succ, i64_w, i32_w]
                          rfl
                        refine pure_ (i := 12) (N := some 92) (v := undef) (a' := ?_) #[true, true, true, true, true, true, true, true, true, true, true, true, true, false, false, false, false, false, false, false, false, false, false, false, false, false] rfl rfl (any_of HT_.out (by kernel_rfl)) (fun _ _ _ h => h) (Or.inr ⟨by rfl, rfl⟩) ?_ ?_
                        rotate_left
                        · simp only [Act.put, List.setIfInBounds_toArray, List.set_cons_zero, List.set_cons_succ, i64_w, i32_w]
                          rfl
                        refine pure_ (i := 13) (N := some 93) (v := undef) (a' := ?_) #[true, true, true, true, true, true, true, true, true, true, true, true, true, true, false, false, false, false, false, false, false, false, false, false, false, false] rfl rfl (any_of HT_.out (by kernel_rfl)) (fun _ _ _ h => h) (Or.inr ⟨by rfl, rfl⟩) ?_ ?_
                        rotate_left
                        · simp only [Act.put, List.setIfInBounds_toArray, List.set_cons_zero, List.set_cons_succ, i64_w, i32_w]
                          rfl
                        refine pure_ (i := 14) (N := some 94) (v := undef) (a' := ?_) #[true, true, true, true, true, true, true, true, true, true, true, true, true, true, true, false, false, false, false, false, false, false, false, false, false, false] rfl rfl (any_of HT_.out (by kernel_rfl)) (fun _ _ _ h => h) (Or.inr ⟨by rfl, rfl⟩) ?_ ?_
                        rotate_left
                        · simp only [Act.put, List.setIfInBounds_toArray, List.set_cons_zero, List.set_cons_succ, i64_w, i32_w]
                          rfl
                        refine pure_ (i := 15) (N := some 95) (v := undef) (a' := ?_) #[true, true, true, true, true, true, true, true, true, true, true, true, true, true, true, true, false, false, false, false, false, false, false, false, false, false] rfl rfl (any_of HT_.out (by kernel_rfl)) (fun _ _ _ h => h) (Or.inr ⟨by rfl, rfl⟩) ?_ ?_
                        rotate_left
                        · simp only [Act.put, List.setIfInBounds_toArray, List.set_cons_zero, List.set_cons_succ, i64_w, i32_w]
                          rfl
                        refine pure_ (i := 16) (N := some 96) (v := undef) (a' := ?_) #[true, true, true, true, true, true, true, true, true, true, true, true, true, true, true, true, true, false, false, false, false, false, false, false, false, false] rfl rfl (any_of HT_.out (by kernel_rfl)) (fun _ _ _ h => h) (Or.inr ⟨by rfl, rfl⟩) ?_ ?_
                        rotate_left
                        · simp only [Act.put, List.setIfInBounds_toArray, List.set_cons_zero, List.set_cons_succ, i64_w, i32_w]
                          rfl
                        refine pure_ (i := 17) (N := some 97) (v := undef) (a' := ?_) #[true, true, true, true, true, true, true, true, true, true, true, true, true, true, true, true, true, true, false, false, false, false, false, false, false, false] rfl rfl (any_of HT_.out (by kernel_rfl)) (fun _ _ _ h => h) (Or.inr ⟨by rfl, rfl⟩) ?_ ?_
                        rotate_left
                        · simp only [Act.put, List.setIfInBounds_toArray, List.set_cons_zero, List.set_cons_succ, i64_w, i32_w]
                          rfl
                        refine pure_ (i := 18) (N := some 98) (v := undef) (a' := ?_) #[true, true, true, true, true, true, true, true, true, true, true, true, true, true, true, true, true, true, true, false, false, false, false, false, false, false] rfl rfl (any_of HT_.out (by kernel_rfl)) (fun _ _ _ h => h) (Or.inr ⟨by rfl, rfl⟩) ?_ ?_
                        rotate_left
                        · simp only [Act.put, List.setIfInBounds_toArray, List.set_cons_zero, List.set_cons_succ, i64_w, i32_w]
                          rfl
                        refine pure_ (i := 19) (N := some 99) (v := undef) (a' := ?_) #[true, true, true, true, true, true, true, true, true, true, true, true, true, true, true, true, true, true, true, true, false, false, false, false, false, false] rfl rfl (any_of HT_.out (by kernel_rfl)) (fun _ _ _ h => h) (Or.inr ⟨by rfl, rfl⟩) ?_ ?_
                        rotate_left
                        · simp only [Act.put, List.setIfInBounds_toArray, List.set_cons_zero, List.set_cons_succ, i64_w, i32_w]
                          rfl
                        refine pure_ (i := 20) (N := some 100) (v := undef) (a' := ?_) #[true, true, true, true, true, true, true, true, true, true, true, true, true, true, true, true, true, true, true, true, true, false, false, false, false, false] rfl rfl (any_of HT_.out (by kernel_rfl)) (fun _ _ _ h => h) (Or.inr ⟨by rfl, rfl⟩) ?_ ?_
                        rotate_left
                        · simp only [Act.put, List.setIfInBounds_toArray, List.set_cons_zero, List.set_cons_succ, i64_w, i32_w]
                          rfl
                        refine pure_ (i := 21) (N := some 101) (v := undef) (a' := ?_) #[true, true, true, true, true, true, true, true, true, true, true, true, true, true, true, true, true, true, true, true, true, true, false, false, false, false] rfl rfl (any_of HT_.out (by kernel_rfl)) (fun _ _ _ h => h) (Or.inr ⟨by rfl, rfl⟩) ?_ ?_
                        rotate_left
                        · simp only [Act.put, List.setIfInBounds_toArray, List.set_cons_zero, List.set_cons_succ, i64_w, i32_w]
                          rfl
                        refine pure_ (i := 22) (N := some 102) (v := undef) (a' := ?_) #[true, true, true, true, true, true, true, true, true, true, true, true, true, true, true, true, true, true, true, true, true, true, true, false, false, false] rfl rfl (any_of HT_.out (by kernel_rfl)) (fun _ _ _ h => h) (Or.inr ⟨by rfl, rfl⟩) ?_ ?_
                        rotate_left
                        · simp only [Act.put, List.setIfInBounds_toArray, List.set_cons_zero, List.set_cons_succ, i64_w, i32_w]
                          rfl
                        refine pure_ (i := 23) (N := some 103) (v := undef) (a' := ?_) #[true, true, true, true, true, true, true, true, true, true, true, true, true, true, true, true, true, true, true, true, true, true, true, true, false, false] rfl rfl (any_of HT_.out (by kernel_rfl)) (fun _ _ _ h => h) (Or.inr ⟨by rfl, rfl⟩) ?_ ?_
                        rotate_left
                        · simp only [Act.put, List.setIfInBounds_toArray, List.set_cons_zero, List.set_cons_succ, i64_w, i32_w]
                          rfl
                        refine pure_ (i := 24) (N := some 104) (v := undef) (a' := ?_) #[true, true, true, true, true, true, true, true, true, true, true, true, true, true, true, true, true, true, true, true, true, true, true, true, true, false] rfl rfl (any_of HT_.out (by kernel_rfl)) (fun _ _ _ h => h) (Or.inr ⟨by rfl, rfl⟩) ?_ ?_
                        rotate_left
                        · simp only [Act.put, List.setIfInBounds_toArray, List.set_cons_zero, List.set_cons_succ, i64_w, i32_w]
                          rfl
                        refine pure_ (i := 25) (N := some 105) (v := ?_) (a' := ?_) #[true, true, true, true, true, true, true, true, true, true, true, true, true, true, true, true, true, true, true, true, true, true, true, true, true, true] rfl rfl (any_of HT_.out (by kernel_rfl)) (fun _ _ _ h => h) (Or.inl ⟨by rfl, ?_⟩) ?_ ?_
                        rotate_left
                        · intro w'
                          first | (go_simp; with_reducible rfl)
                        rotate_left
                        · simp only [Act.put, List.setIfInBounds_toArray, List.set_cons_zero, List.set_cons_succ, i64_w, i32_w]
                          rfl
                        refine done_ (done_of HT_.out (by kernel_rfl)) ?_
                        dsimp only [onlyN]
                        gi_wp2
                        gi_roundg (gk - 1)
                        case measure => omega
                        case rel => exact ⟨0 + 1, by go_num, by omega, HBD.out, by rw [HOS2.out, HZ2.out]; exact HOD.out, _, HRD.out⟩
                      · have hkp2 : decide ((0 : Int) < (k : Int)) = true := by simp; omega
                        cases hhas : (G r6).contains f0
                        · have HZ2 := Aside0.mk (show stepE G ⟨0, r1, r2, r3, r4, r5, r6, r7, r8⟩ k ⟨f0, f1, f2, f3, f4⟩ o2 = o2 by unfold stepE; rw [if_neg]; rw [hhas]; simp)
                          refine wp_only ?_
                          refine start_ (n := 26) (S := fun W' => W' = Wd) (ds := []) #[false, false, false, false, false, false, false, false, false, false, false, false, false, false, false, false, false, false, false, false, false, false, false, false, false, false] (by kernel_rfl) rfl rfl hWd (fun hHeld => ?_)
                          rw [hWd] at hHeld ⊢
                          refine with_tabW getab15 gebits15 (fun HT_ HW_ => ?_)
                          refine pure_ (i := 0) (N := some 80) (v := ?_) (a' := ?_) #[true, false, false, false, false, false, false, false, false, false, false, false, false, false, false, false, false, false, false, false, false, false, false, false, false, false] rfl rfl (any_of HT_.out (by kernel_rfl)) (fun _ _ _ h => h) (Or.inl ⟨by rfl, ?_⟩) ?_ ?_
                          rotate_left
                          · intro w'
                            first | (go_simp; with_reducible rfl)
                          rotate_left
                          · simp only [Act.put, List.setIfInBounds_toArray, List.set_cons_zero, List.set_cons_succ, i64_w, i32_w]
                            rfl
                          refine pure_ (i := 1) (N := some 81) (v := ?_) (a' := ?_) #[true, true, false, false, false, false, false, false, false, false, false, false, false, false, false, false, false, false, false, false, false, false, false, false, false, false] rfl rfl (any_of HT_.out (by kernel_rfl)) (fun _ _ _ h => h) (Or.inl ⟨by rfl, ?_⟩) ?_ ?_
                          rotate_left
                          · intro w'
                            first | (go_simp; with_reducible rfl)
                          rotate_left
                          · simp only [Act.put, List.setIfInBounds_toArray, List.set_cons_zero, List.set_cons_succ, i64_w, i32_w]
                            rfl
                          refine pure_ (i := 2) (N := some 82) (v := ?_) (a' := ?_) #[true, true, true, false, false, false, false, false, false, false, false, false, false, false, false, false, false, false, false, false, false, false, false, false, false, false] rfl rfl (any_of HT_.out (by kernel_rfl)) (fun _ _ _ h => h) (Or.inl ⟨by rfl, ?_⟩) ?_ ?_
                          rotate_left
                          · intro w'
                            first | (go_simp; with_reducible rfl)
                          rotate_left
                          · simp only [Act.put, List.setIfInBounds_toArray, List.set_cons_zero, List.set_cons_succ, i64_w, i32_w]
                            rfl
                          refine take_ (i := 3) (N := some 83) (v := ?_) (a' := ?_) #[true, true, true, true, false, false, false, false, false, false, false, false, false, false, false, false, false, false, false, false, false, false, false, false, false, false] rfl rfl (take_ofW HT_.out HW_.out (by kernel_rfl)) (fun _ _ _ h => h) (Or.inl ⟨by rfl, ?_⟩) hHeld ?_ ?_
                          rotate_left
                          · intro w' hw'
                            rw [hw']
                            first | (go_simp; with_reducible rfl)
                          rotate_left
                          · simp only [Act.put, List.setIfInBounds_toArray, List.set_cons_zero, List.set_cons_succ, i64_w, i32_w]
                            rfl
                          refine pure_ (i := 4) (N := some 84) (v := ?_) (a' := ?_) #[true, true, true, true, true, false, false, false, false, false, false, false, false, false, false, false, false, false, false, false, false, false, false, false, false, false] rfl rfl (any_of HT_.out (by kernel_rfl)) (fun _ _ _ h => h) (Or.inl ⟨by rfl, ?_⟩) ?_ ?_
                          rotate_left
                          · intro w'
                            first | (go_simp; with_reducible rfl)
                          rotate_left
                          · simp only [Act.put, List.setIfInBounds_toArray, List.set_cons_zero, List.set_cons_succ, i64_w, i32_w]
                            rfl
                          refine take_ (i := 5) (N := some 85) (v := ?_) (a' := ?_) #[true, true, true, true, true, true, false, false, false, false, false, false, false, false, false, false, false, false, false, false, false, false, false, false, false, false] rfl rfl (take_ofW HT_.out HW_.out (by kernel_rfl)) (fun _ _ _ h => h) (Or.inl ⟨by rfl, ?_⟩) hHeld ?_ ?_
                          rotate_left
                          · intro w' hw'
                            rw [hw']
                            first | (go_simp; with_reducible rfl)
                          rotate_left
                          · simp only [Act.put, List.setIfInBounds_toArray, List.set_cons_zero, List.set_cons_succ, i64_w, i32_w]
                            rfl
                          refine take_ (i := 6) (N := some 86) (v := ?_) (a' := ?_) #[true, true, true, true, true, true, true, false, false, false, false, false, false, false, false, false, false, false, false, false, false, false, false, false, false, false] rfl rfl (take_ofW HT_.out HW_.out (by kernel_rfl)) (fun _ _ _ h => h) (Or.inl ⟨by rfl, ?_⟩) hHeld ?_ ?_
                          rotate_left
                          · intro w' hw'
                            rw [hw']
                            first | (go_simp; with_reducible rfl)
                          rotate_left
                          · simp only [Act.put, List.setIfInBounds_toArray, List.set_cons_zero, List.set_cons_succ, i64_w, i32_w]
                            rfl
                          refine pure_ (i := 7) (N := some 87) (v := ?_) (a' := ?_) #[true, true, true, true, true, true, true, true, false, false, false, false, false, false, false, false, false, false, false, false, false, false, false, false, false, false] rfl rfl (any_of HT_.out (by kernel_rfl)) (fun _ _ _ h => h) (Or.inl ⟨by rfl, ?_⟩) ?_ ?_
                          rotate_left
                          · intro w'
                            first | (go_simp; with_reducible rfl)
                          rotate_left
                          · simp only [Act.put, List.setIfInBounds_toArray, List.set_cons_zero, List.set_cons_succ, i64_w, i32_w]
                            rfl
                          refine take_ (i := 8) (N := some 88) (v := ?_) (a' := ?_) #[true, true, true, true, true, true, true, true, true, false, false, false, false, false, false, false, false, false, false, false, false, false, false, false, false, false] rfl rfl (take_ofW HT_.out HW_.out (by kernel_rfl)) (fun _ _ _ h => h) (Or.inl ⟨by rfl, ?_⟩) hHeld ?_ ?_
                          rotate_left
                          · intro w' hw'
                            rw [hw']
                            first | (go_simp; with_reducible rfl)
                          rotate_left
                          · simp only [Act.put, List.setIfInBounds_toArray, List.set_cons_zero, List.set_cons_succ, i64_w, i32_w]
                            rfl
                          refine one_ (i := 9) (N := some 89) #[true, true, true, true, true, true, true, true, true, true, false, false, false, false, false, false, false, false, false, false, false, false, false, false, false, false] rfl rfl (one_of HT_.out (by kernel_rfl)) (by decide) (fun K hK => ?_)
                          refine goes_ Try.func36 (by kernel_rfl) rfl #[.slice Av (G r6).length cv, .int .i64 f0] (by rfl) rfl rfl (by (try simp only [List.map_toArray, List.map_cons, List.map_nil]); first | done | rfl) ?_
                          refine (has_calls Av cv (G r6) f0 _ HCV.out).mono ?_
                          rintro e w3 ⟨rfl, hw3⟩
                          refine ⟨_, rfl, ?_⟩
                          rw [hw3, hhas]
                          clear hw3
                          refine hK.out _ _ hHeld (fun hHeld => ?_)
                          clear hK K
                          refine norm_ (a' := ?_) ?_ ?_
                          rotate_left
                          · show Act.put _ (some 89) _ = _
                            simp only [Act.put, List.setIfInBounds_toArray, List.set_cons_zero, List.set_cons_succ, i64_w, i32_w]
                            rfl
                          refine pure_ (i := 10) (N := some 90) (v := ?_) (a' := ?_) #[true, true, true, true, true, true, true, true, true, true, true, false, false, false, false, false, false, false, false, false, false, false, false, false, false, false] rfl rfl (any_of HT_.out (by kernel_rfl)) (fun _ _ _ h => h) (Or.inl ⟨by rfl, ?_⟩) ?_ ?_
                          rotate_left
                          · intro w'
                            first | (go_simp; with_reducible rfl)
                          rotate_left
                          · simp only [Act.put, List.setIfInBounds_toArray, List.set_cons_zero, List.set_cons_succ, i64_w, i32_w]
                            rfl
                          refine pure_ (i := 11) (N := some 91) (v := ?_) (a' := ?_) #[true, true, true, true, true, true, true, true, true, true, true, true, false, false, false, false, false, false, false, false, false, false, false, false, false, false] rfl rfl (any_of HT_.out (by kernel_rfl)) (fun _ _ _ h => h) (Or.inl ⟨by rfl, ?_⟩) ?_ ?_
                          rotate_left
                          · intro w'
                            first | (go_simp; with_reducible rfl)
                          rotate_left
                          · simp only [Act.put, List.setIfInBounds_toArray, List.set_cons_zero, List.set_cons_succ, i64_w, i32_w]
                            rfl
                          refine pure_ (i := 12) (N := some 92) (v := undef) (a' := ?_) #[true, true, true, true, true, true, true, true, true, true, true, true, true, false, false, false, false, false, false, false, false, false, false, false, false, false] rfl rfl (any_of HT_.out (by kernel_rfl)) (fun _ _ _ h => h) (Or.inr ⟨by rfl, rfl⟩) ?_ ?_
                          rotate_left
                          · simp only [Act.put, List.setIfInBounds_toArray, List.set_cons_zero, List.set_cons_succ, i64_w, i32_w]
                            rfl
                          refine pure_ (i := 13) (N := some 93) (v := undef) (a' := ?_) #[true, true, true, true, true, true, true, true, true, true, true, true, true, true, false, false, false, false, false, false, false, false, false, false, false, false] rfl rfl (any_of HT_.out (by kernel_rfl)) (fun _ _ _ h => h) (Or.inr ⟨by rfl, rfl⟩) ?_ ?_
                          rotate_left
                          · simp only [Act.put, List.setIfInBounds_toArray, List.set_cons_zero, List.set_cons_succ, i64_w, i32_w]
                            rfl
                          refine pure_ (i := 14) (N := some 94) (v := undef) (a' := ?_) #[true, true, true, true, true, true, true, true, true, true, true, true, true, true, true, false, false, false, false, false, false, false, false, false, false, false] rfl rfl (any_of HT_.out (by kernel_rfl)) (fun _ _ _ h => h) (Or.inr ⟨by rfl, rfl⟩) ?_ ?_
                          rotate_left
                          · simp only [Act.put, List.setIfInBounds_toArray, List.set_cons_zero, List.set_cons_succ, i64_w, i32_w]
                            rfl
                          refine pure_ (i := 15) (N := some 95) (v := undef) (a' := ?_) #[true, true, true, true, true, true, true, true, true, true, true, true, true, true, true, true, false, false, false, false, false, false, false, false, false, false] rfl rfl (any_of HT_.out (by kernel_rfl)) (fun _ _ _ h => h) (Or.inr ⟨by rfl, rfl⟩) ?_ ?_
                          rotate_left
                          · simp only [Act.put, List.setIfInBounds_toArray, List.set_cons_zero, List.set_cons_succ, i64_w, i32_w]
                            rfl
                          refine pure_ (i := 16) (N := some 96) (v := undef) (a' := ?_) #[true, true, true, true, true, true, true, true, true, true, true, true, true, true, true, true, true, false, false, false, false, false, false, false, false, false] rfl rfl (any_of HT_.out (by kernel_rfl)) (fun _ _ _ h => h) (Or.inr ⟨by rfl, rfl⟩) ?_ ?_
                          rotate_left
                          · simp only [Act.put, List.setIfInBounds_toArray, List.set_cons_zero, List.set_cons_succ, i64_w, i32_w]
                            rfl
                          refine pure_ (i := 17) (N := some 97) (v := undef) (a' := ?_) #[true, true, true, true, true, true, true, true, true, true, true, true, true, true, true, true, true, true, false, false, false, false, false, false, false, false] rfl rfl (any_of HT_.out (by kernel_rfl)) (fun _ _ _ h => h) (Or.inr ⟨by rfl, rfl⟩) ?_ ?_
                          rotate_left
                          · simp only [Act.put, List.setIfInBounds_toArray, List.set_cons_zero, List.set_cons_succ, i64_w, i32_w]
                            rfl
                          refine pure_ (i := 18) (N := some 98) (v := undef) (a' := ?_) #[true, true, true, true, true, true, true, true, true, true, true, true, true, true, true, true, true, true, true, false, false, false, false, false, false, false] rfl rfl (any_of HT_.out (by kernel_rfl)) (fun _ _ _ h => h) (Or.inr ⟨by rfl, rfl⟩) ?_ ?_
                          rotate_left
                          · simp only [Act.put, List.setIfInBounds_toArray, List.set_cons_zero, List.set_cons_succ, i64_w, i32_w]
                            rfl
                          refine pure_ (i := 19) (N := some 99) (v := undef) (a' := ?_) #[true, true, true, true, true, true, true, true, true, true, true, true, true, true, true, true, true, true, true, true, false, false, false, false, false, false] rfl rfl (any_of HT_.out (by kernel_rfl)) (fun _ _ _ h => h) (Or.inr ⟨by rfl, rfl⟩) ?_ ?_
                          rotate_left
                          · simp only [Act.put, List.setIfInBounds_toArray, List.set_cons_zero, List.set_cons_succ, i64_w, i32_w]
                            rfl
                          refine pure_ (i := 20) (N := some 100) (v := undef) (a' := ?_) #[true, true, true, true, true, true, true, true, true, true, true, true, true, true, true, true, true, true, true, true, true, false, false, false, false, false] rfl rfl (any_of HT_.out (by kernel_rfl)) (fun _ _ _ h => h) (Or.inr ⟨by rfl, rfl⟩) ?_ ?_
                          rotate_left
                          · simp only [Act.put, List.setIfInBounds_toArray, List.set_cons_zero, List.set_cons_succ, i64_w, i32_w]
                            rfl
                          refine pure_ (i := 21) (N := some 101) (v := undef) (a' := ?_) #[true, true, true, true, true, true, true, true, true, true, true, true, true, true, true, true, true, true, true, true, true, true, false, false, false, false] rfl rfl (any_of HT_.out (by kernel_rfl)) (fun _ _ _ h => h) (Or.inr ⟨by rfl, rfl⟩) ?_ ?_
                          rotate_left
                          · simp only [Act.put, List.setIfInBounds_toArray, List.set_cons_zero, List.set_cons_succ, i64_w, i32_w]
                            rfl
                          refine pure_ (i := 22) (N := some 102) (v := undef) (a' := ?_) #[true, true, true, true, true, true, true, true, true, true, true, true, true, true, true, true, true, true, true, true, true, true, true, false, false, false] rfl rfl (any_of HT_.out (by kernel_rfl)) (fun _ _ _ h => h) (Or.inr ⟨by rfl, rfl⟩) ?_ ?_
                          rotate_left
                          · simp only [Act.put, List.setIfInBounds_toArray, List.set_cons_zero, List.set_cons_succ, i64_w, i32_w]
                            rfl
                          refine pure_ (i := 23) (N := some 103) (v := undef) (a' := ?_) #[true, true, true, true, true, true, true, true, true, true, true, true, true, true, true, true, true, true, true, true, true, true, true, true, false, false] rfl rfl (any_of HT_.out (by kernel_rfl)) (fun _ _ _ h => h) (Or.inr ⟨by rfl, rfl⟩) ?_ ?_
                          rotate_left
                          · simp only [Act.put, List.setIfInBounds_toArray, List.set_cons_zero, List.set_cons_succ, i64_w, i32_w]
                            rfl
                          refine pure_ (i := 24) (N := some 104) (v := undef) (a' := ?_) #[true, true, true, true, true, true, true, true, true, true, true, true, true, true, true, true, true, true, true, true, true, true, true, true, true, false] rfl rfl (any_of HT_.out (by kernel_rfl)) (fun _ _ _ h => h) (Or.inr ⟨by rfl, rfl⟩) ?_ ?_
                          rotate_left
                          · simp only [Act.put, List.setIfInBounds_toArray, List.set_cons_zero, List.set_cons_succ, i64_w, i32_w]
                            rfl
                          refine pure_ (i := 25) (N := some 105) (v := ?_) (a' := ?_) #[true, true, true, true, true, true, true, true, true, true, true, true, true, true, true, true, true, true, true, true, true, true, true, true, true, true] rfl rfl (any_of HT_.out (by kernel_rfl)) (fun _ _ _ h => h) (Or.inl ⟨by rfl, ?_⟩) ?_ ?_
                          rotate_left
                          · intro w'
                            first | (go_simp; with_reducible rfl)
                          rotate_left
                          · simp only [Act.put, List.setIfInBounds_toArray, List.set_cons_zero, List.set_cons_succ, i64_w, i32_w]
                            rfl
                          refine done_ (done_of HT_.out (by kernel_rfl)) ?_
                          dsimp only [onlyN]
                          gi_wp2
                          gi_roundg (gk - 1)
                          case measure => omega
                          case rel => exact ⟨k + 1, by go_num, by omega, HBD.out, by rw [HOS2.out, HZ2.out]; exact HOD.out, _, HRD.out⟩
                        · rcases List.eq_nil_or_concat o2 with ho2 | ⟨o3, y, ho2⟩
                          · subst ho2
                            have HZ2 := Aside0.mk (show stepE G ⟨0, r1, r2, r3, r4, r5, r6, r7, r8⟩ k ⟨f0, f1, f2, f3, f4⟩ [] = [] ++ [⟨r1, r6, (k : Int)⟩] by unfold stepE; rw [if_pos]; exact ⟨hkp, hhas, by simp⟩)
                            obtain ⟨A9, c9, he9⟩ := HOD.out.slice3
                            have he9' : u8 = .slice A9 0 c9 := he9
                            subst he9'
                            clear he9
                            refine wp_only ?_
                            refine start_ (n := 26) (S := fun W' => W' = Wd) (ds := []) #[false, false, false, false, false, false, false, false, false, false, false, false, false, false, false, false, false, false, false, false, false, false, false, false, false, false] (by kernel_rfl) rfl rfl hWd (fun hHeld => ?_)
                            rw [hWd] at hHeld ⊢
                            refine with_tabW getab15 gebits15 (fun HT_ HW_ => ?_)
                            refine pure_ (i := 0) (N := some 80) (v := ?_) (a' := ?_) #[true, false, false, false, false, false, false, false, false, false, false, false, false, false, false, false, false, false, false, false, false, false, false, false, false, false] rfl rfl (any_of HT_.out (by kernel_rfl)) (fun _ _ _ h => h) (Or.inl ⟨by rfl, ?_⟩) ?_ ?_
                            rotate_left
                            · intro w'
                              first | (go_simp; with_reducible rfl)
                            rotate_left
                            · simp only [Act.put, List.setIfInBounds_toArray, List.set_cons_zero, List.set_cons_succ, i64_w, i32_w]
                              rfl
                            refine pure_ (i := 1) (N := some 81) (v := ?_) (a' := ?_) #[true, true, false, false, false, false, false, false, false, false, false, false, false, false, false, false, false, false, false, false, false, false, false, false, false, false] rfl rfl (any_of HT_.out (by kernel_rfl)) (fun _ _ _ h => h) (Or.inl ⟨by rfl, ?_⟩) ?_ ?_
                            rotate_left
                            · intro w'
                              first | (go_simp; with_reducible rfl)
                            rotate_left
                            · simp only [Act.put, List.setIfInBounds_toArray, List.set_cons_zero, List.set_cons_succ, i64_w, i32_w]
                              rfl
                            refine pure_ (i := 2) (N := some 82) (v := ?_) (a' := ?_) #[true, true, true, false, false, false, false, false, false, false, false, false, false, false, false, false, false, false, false, false, false, false, false, false, false, false] rfl rfl (any_of HT_.out (by kernel_rfl)) (fun _ _ _ h => h) (Or.inl ⟨by rfl, ?_⟩) ?_ ?_
                            rotate_left
                            · intro w'
                              first | (go_simp; with_reducible rfl)
                            rotate_left
                            · simp only [Act.put, List.setIfInBounds_toArray, List.set_cons_zero, List.set_cons_succ, i64_w, i32_w]
                              rfl
                            refine take_ (i := 3) (N := some 83) (v := ?_) (a' := ?_) #[true, true, true, true, false, false, false, false, false, false, false, false, false, false, false, false, false, false, false, false, false, false, false, false, false, false] rfl rfl (take_ofW HT_.out HW_.out (by kernel_rfl)) (fun _ _ _ h => h) (Or.inl ⟨by rfl, ?_⟩) hHeld ?_ ?_
                            rotate_left
                            · intro w' hw'
                              rw [hw']
                              first | (go_simp; with_reducible rfl)
                            rotate_left
                            · simp only [Act.put, List.setIfInBounds_toArray, List.set_cons_zero, List.set_cons_succ, i64_w, i32_w]
                              rfl
                            refine pure_ (i := 4) (N := some 84) (v := ?_) (a' := ?_) #[true, true, true, true, true, false, false, false, false, false, false, false, false, false, false, false, false, false, false, false, false, false, false, false, false, false] rfl rfl (any_of HT_.out (by kernel_rfl)) (fun _ _ _ h => h) (Or.inl ⟨by rfl, ?_⟩) ?_ ?_
                            rotate_left
                            · intro w'
                              first | (go_simp; with_reducible rfl)
                            rotate_left
                            · simp only [Act.put, List.setIfInBounds_toArray, List.set_cons_zero, List.set_cons_succ, i64_w, i32_w]
                              rfl
                            refine take_ (i := 5) (N := some 85) (v := ?_) (a' := ?_) #[true, true, true, true, true, true, false, false, false, false, false, false, false, false, false, false, false, false, false, false, false, false, false, false, false, false] rfl rfl (take_ofW HT_.out HW_.out (by kernel_rfl)) (fun _ _ _ h => h) (Or.inl ⟨by rfl, ?_⟩) hHeld ?_ ?_
                            rotate_left
                            · intro w' hw'
                              rw [hw']
                              first | (go_simp; with_reducible rfl)
                            rotate_left
                            · simp only [Act.put, List.setIfInBounds_toArray, List.set_cons_zero, List.set_cons_succ, i64_w, i32_w]
                              rfl
                            refine take_ (i := 6) (N := some 86) (v := ?_) (a' := ?_) #[true, true, true, true, true, true, true, false, false, false, false, false, false, false, false, false, false, false, false, false, false, false, false, false, false, false] rfl rfl (take_ofW HT_.out HW_.out (by kernel_rfl)) (fun _ _ _ h => h) (Or.inl ⟨by rfl, ?_⟩) hHeld ?_ ?_
                            rotate_left
                            · intro w' hw'
                              rw [hw']
                              first | (go_simp; with_reducible rfl)
                            rotate_left
                            · simp only [Act.put, List.setIfInBounds_toArray, List.set_cons_zero, List.set_cons_succ, i64_w, i32_w]
                              rfl
                            refine pure_ (i := 7) (N := some 87) (v := ?_) (a' := ?_) #[true, true, true, true, true, true, true, true, false, false, false, false, false, false, false, false, false, false, false, false, false, false, false, false, false, false] rfl rfl (any_of HT_.out (by kernel_rfl)) (fun _ _ _ h => h) (Or.inl ⟨by rfl, ?_⟩) ?_ ?_
                            rotate_left
                            · intro w'
                              first | (go_simp; with_reducible rfl)
                            rotate_left
                            · simp only [Act.put, List.setIfInBounds_toArray, List.set_cons_zero, List.set_cons_succ, i64_w, i32_w]
                              rfl
                            refine take_ (i := 8) (N := some 88) (v := ?_) (a' := ?_) #[true, true, true, true, true, true, true, true, true, false, false, false, false, false, false, false, false, false, false, false, false, false, false, false, false, false] rfl rfl (take_ofW HT_.out HW_.out (by kernel_rfl)) (fun _ _ _ h => h) (Or.inl ⟨by rfl, ?_⟩) hHeld ?_ ?_
                            rotate_left
                            · intro w' hw'
                              rw [hw']
                              first | (go_simp; with_reducible rfl)
                            rotate_left
                            · simp only [Act.put, List.setIfInBounds_toArray, List.set_cons_zero, List.set_cons_succ, i64_w, i32_w]
                              rfl
                            refine one_ (i := 9) (N := some 89) #[true, true, true, true, true, true, true, true, true, true, false, false, false, false, false, false, false, false, false, false, false, false, false, false, false, false] rfl rfl (one_of HT_.out (by kernel_rfl)) (by decide) (fun K hK => ?_)
                            refine goes_ Try.func36 (by kernel_rfl) rfl #[.slice Av (G r6).length cv, .int .i64 f0] (by rfl) rfl rfl (by (try simp only [List.map_toArray, List.map_cons, List.map_nil]); first | done | rfl) ?_
                            refine (has_calls Av cv (G r6) f0 _ HCV.out).mono ?_
                            rintro e w3 ⟨rfl, hw3⟩
                            refine ⟨_, rfl, ?_⟩
                            rw [hw3, hhas]
                            clear hw3
                            refine hK.out _ _ hHeld (fun hHeld => ?_)
                            clear hK K
                            refine norm_ (a' := ?_) ?_ ?_
                            rotate_left
                            · show Act.put _ (some 89) _ = _
                              simp only [Act.put, List.setIfInBounds_toArray, List.set_cons_zero, List.set_cons_succ, i64_w, i32_w]
                              rfl
                            refine pure_ (i := 10) (N := some 90) (v := ?_) (a' := ?_) #[true, true, true, true, true, true, true, true, true, true, true, false, false, false, false, false, false, false, false, false, false, false, false, false, false, false] rfl rfl (any_of HT_.out (by kernel_rfl)) (fun _ _ _ h => h) (Or.inl ⟨by rfl, ?_⟩) ?_ ?_
                            rotate_left
                            · intro w'
                              first | (go_simp; with_reducible rfl)
                            rotate_left
                            · simp only [Act.put, List.setIfInBounds_toArray, List.set_cons_zero, List.set_cons_succ, i64_w, i32_w]
                              rfl
                            refine pure_ (i := 11) (N := some 91) (v := ?_) (a' := ?_) #[true, true, true, true, true, true, true, true, true, true, true, true, false, false, false, false, false, false, false, false, false, false, false, false, false, false] rfl rfl (any_of HT_.out (by kernel_rfl)) (fun _ _ _ h => h) (Or.inl ⟨by rfl, ?_⟩) ?_ ?_
                            rotate_left
                            · intro w'
                              first | (go_simp; with_reducible rfl)
                            rotate_left
                            · simp only [Act.put, List.setIfInBounds_toArray, List.set_cons_zero, List.set_cons_succ, i64_w, i32_w]
                              rfl
                            refine pure_ (i := 12) (N := some 92) (v := ?_) (a' := ?_) #[true, true, true, true, true, true, true, true, true, true, true, true, true, false, false, false, false, false, false, false, false, false, false, false, false, false] rfl rfl (any_of HT_.out (by kernel_rfl)) (fun _ _ _ h => h) (Or.inl ⟨by rfl, ?_⟩) ?_ ?_
                            rotate_left
                            · intro w'
                              first | (go_simp; with_reducible rfl)
                            rotate_left
                            · simp only [Act.put, List.setIfInBounds_toArray, List.set_cons_zero, List.set_cons_succ, i64_w, i32_w]
                              rfl
                            refine pure_ (i := 13) (N := some 93) (v := ?_) (a' := ?_) #[true, true, true, true, true, true, true, true, true, true, true, true, true, true, false, false, false, false, false, false, false, false, false, false, false, false] rfl rfl (any_of HT_.out (by kernel_rfl)) (fun _ _ _ h => h) (Or.inl ⟨by rfl, ?_⟩) ?_ ?_
                            rotate_left
                            · intro w'
                              first | (go_simp; with_reducible rfl)
                            rotate_left
                            · simp only [Act.put, List.setIfInBounds_toArray, List.set_cons_zero, List.set_cons_succ, i64_w, i32_w]
                              rfl
                            refine pure_ (i := 14) (N := some 94) (v := ?_) (a' := ?_) #[true, true, true, true, true, true, true, true, true, true, true, true, true, true, true, false, false, false, false, false, false, false, false, false, false, false] rfl rfl (any_of HT_.out (by kernel_rfl)) (fun _ _ _ h => h) (Or.inl ⟨by rfl, ?_⟩) ?_ ?_
                            rotate_left
                            · intro w'
                              first | (go_simp; with_reducible rfl)
                            rotate_left
                            · simp only [Act.put, List.setIfInBounds_toArray, List.set_cons_zero, List.set_cons_succ, i64_w, i32_w]
                              rfl
                            refine pure_ (i := 15) (N := some 95) (v := ?_) (a' := ?_) #[true, true, true, true, true, true, true, true, true, true, true, true, true, true, true, true, false, false, false, false, false, false, false, false, false, false] rfl rfl (any_of HT_.out (by kernel_rfl)) (fun _ _ _ h => h) (Or.inl ⟨by rfl, ?_⟩) ?_ ?_
                            rotate_left
                            · intro w'
                              first | (go_simp; with_reducible rfl)
                            rotate_left
                            · simp only [Act.put, List.setIfInBounds_toArray, List.set_cons_zero, List.set_cons_succ, i64_w, i32_w]
                              rfl
                            refine pure_ (i := 16) (N := some 96) (v := undef) (a' := ?_) #[true, true, true, true, true, true, true, true, true, true, true, true, true, true, true, true, true, false, false, false, false, false, false, false, false, false] rfl rfl (any_of HT_.out (by kernel_rfl)) (fun _ _ _ h => h) (Or.inr ⟨by rfl, rfl⟩) ?_ ?_
                            rotate_left
                            · simp only [Act.put, List.setIfInBounds_toArray, List.set_cons_zero, List.set_cons_succ, i64_w, i32_w]
                              rfl
                            refine pure_ (i := 17) (N := some 97) (v := undef) (a' := ?_) #[true, true, true, true, true, true, true, true, true, true, true, true, true, true, true, true, true, true, false, false, false, false, false, false, false, false] rfl rfl (any_of HT_.out (by kernel_rfl)) (fun _ _ _ h => h) (Or.inr ⟨by rfl, rfl⟩) ?_ ?_
                            rotate_left
                            · simp only [Act.put, List.setIfInBounds_toArray, List.set_cons_zero, List.set_cons_succ, i64_w, i32_w]
                              rfl
                            refine pure_ (i := 18) (N := some 98) (v := undef) (a' := ?_) #[true, true, true, true, true, true, true, true, true, true, true, true, true, true, true, true, true, true, true, false, false, false, false, false, false, false] rfl rfl (any_of HT_.out (by kernel_rfl)) (fun _ _ _ h => h) (Or.inr ⟨by rfl, rfl⟩) ?_ ?_
                            rotate_left
                            · simp only [Act.put, List.setIfInBounds_toArray, List.set_cons_zero, List.set_cons_succ, i64_w, i32_w]
                              rfl
                            refine pure_ (i := 19) (N := some 99) (v := undef) (a' := ?_) #[true, true, true, true, true, true, true, true, true, true, true, true, true, true, true, true, true, true, true, true, false, false, false, false, false, false] rfl rfl (any_of HT_.out (by kernel_rfl)) (fun _ _ _ h => h) (Or.inr ⟨by rfl, rfl⟩) ?_ ?_
                            rotate_left
                            · simp only [Act.put, List.setIfInBounds_toArray, List.set_cons_zero, List.set_cons_succ, i64_w, i32_w]
                              rfl
                            refine pure_ (i := 20) (N := some 100) (v := undef) (a' := ?_) #[true, true, true, true, true, true, true, true, true, true, true, true, true, true, true, true, true, true, true, true, true, false, false, false, false, false] rfl rfl (any_of HT_.out (by kernel_rfl)) (fun _ _ _ h => h) (Or.inr ⟨by rfl, rfl⟩) ?_ ?_
                            rotate_left
                            · simp only [Act.put, List.setIfInBounds_toArray, List.set_cons_zero, List.set_cons_succ, i64_w, i32_w]
                              rfl
                            refine pure_ (i := 21) (N := some 101) (v := undef) (a' := ?_) #[true, true, true, true, true, true, true, true, true, true, true, true, true, true, true, true, true, true, true, true, true, true, false, false, false, false] rfl rfl (any_of HT_.out (by kernel_rfl)) (fun _ _ _ h => h) (Or.inr ⟨by rfl, rfl⟩) ?_ ?_
                            rotate_left
                            · simp only [Act.put, List.setIfInBounds_toArray, List.set_cons_zero, List.set_cons_succ, i64_w, i32_w]
                              rfl
                            refine pure_ (i := 22) (N := some 102) (v := undef) (a' := ?_) #[true, true, true, true, true, true, true, true, true, true, true, true, true, true, true, true, true, true, true, true, true, true, true, false, false, false] rfl rfl (any_of HT_.out (by kernel_rfl)) (fun _ _ _ h => h) (Or.inr ⟨by rfl, rfl⟩) ?_ ?_
                            rotate_left
                            · simp only [Act.put, List.setIfInBounds_toArray, List.set_cons_zero, List.set_cons_succ, i64_w, i32_w]
                              rfl
                            refine pure_ (i := 23) (N := some 103) (v := undef) (a' := ?_) #[true, true, true, true, true, true, true, true, true, true, true, true, true, true, true, true, true, true, true, true, true, true, true, true, false, false] rfl rfl (any_of HT_.out (by kernel_rfl)) (fun _ _ _ h => h) (Or.inr ⟨by rfl, rfl⟩) ?_ ?_
                            rotate_left
                            · simp only [Act.put, List.setIfInBounds_toArray, List.set_cons_zero, List.set_cons_succ, i64_w, i32_w]
                              rfl
                            refine pure_ (i := 24) (N := some 104) (v := ?_) (a' := ?_) #[true, true, true, true, true, true, true, true, true, true, true, true, true, true, true, true, true, true, true, true, true, true, true, true, true, false] rfl rfl (any_of HT_.out (by kernel_rfl)) (fun _ _ _ h => h) (Or.inl ⟨by rfl, ?_⟩) ?_ ?_
                            rotate_left
                            · intro w'
                              first | (go_simp; with_reducible rfl)
                            rotate_left
                            · simp only [Act.put, List.setIfInBounds_toArray, List.set_cons_zero, List.set_cons_succ, i64_w, i32_w]
                              rfl
                            refine pure_ (i := 25) (N := some 105) (v := ?_) (a' := ?_) #[true, true, true, true, true, true, true, true, true, true, true, true, true, true, true, true, true, true, true, true, true, true, true, true, true, true] rfl rfl (any_of HT_.out (by kernel_rfl)) (fun _ _ _ h => h) (Or.inl ⟨by rfl, ?_⟩) ?_ ?_
                            rotate_left
                            · intro w'
                              first | (go_simp; with_reducible rfl)
                            rotate_left
                            · simp only [Act.put, List.setIfInBounds_toArray, List.set_cons_zero, List.set_cons_succ, i64_w, i32_w]
                              rfl
                            refine done_ (done_of HT_.out (by kernel_rfl)) ?_
                            dsimp only [onlyN]
                            gi_wp2_with (gi_at_builtin; go_loud (refine appendE_in W5.heap.size rfl _ _ rfl (.slice A9 0 c9) [] ⟨r1, r6, (k : Int)⟩ Wd.heap.size rfl rfl (heap_alloc_new _ _) (HOD.out.below (below_alloc (Below.refl _ _) _)) (by have := HBD.out.size; simp; omega) (by simp) ?_; rintro v1 w1 hO1 hg1 hat1; have HO1 := Aside0.mk hO1; have HN1 := Aside0.mk (app_next HBD.out HOD.out HRD.out (by decide) hg1); clear hO1 hg1 hat1))
                            gi_roundg (gk - 1)
                            case measure => omega
                            case rel => exact ⟨k + 1, by go_num, by omega, HN1.out.1, by rw [HOS2.out, HZ2.out]; exact HO1.out, _, HN1.out.2⟩
                          · rw [List.concat_eq_append] at ho2
                            subst ho2
                            obtain ⟨A9, c9, he9⟩ := HOD.out.slice3
                            have hnl : (o3 ++ [y]).length = o3.length + 1 := by simp
                            rw [hnl] at he9
                            obtain ⟨n9, hn9⟩ : ∃ n9, n9 = o3.length + 1 := ⟨_, rfl⟩
                            rw [← hn9] at he9
                            rw [hnl] at hol2
                            subst he9
                            obtain ⟨ad9, rfl, hy0, hy1, hy2⟩ := at_T24 HOD.out.C (o3.length : Int) (by omega) (by omega)
                            rw [rdE_last, Int.toNat_natCast] at hy0 hy1 hy2
                            have hln : ((n9 : Int) == 0) = false := by simp; omega
                            have hw9 : IntKind.i64.wrap ((n9 : Int) - 1) = ((o3.length : Nat) : Int) := by rw [IntKind.wrap_i64]; omega
                            have hw9' : wrap64 ((n9 : Int) - 1) = ((o3.length : Nat) : Int) := by unfold wrap64; omega
                            have hlt9 : o3.length < n9 := by omega
                            have hlt9' : ((o3.length : Nat) : Int) < (n9 : Int) := by omega
                            have HNL := Aside0.mk hnl
                            have HN9 := Aside0.mk hn9
                            have HOL2 := Aside0.mk hol2
                            clear hnl hn9 hol2
                            by_cases hye : y = ⟨r1, r6, (k : Int)⟩
                            · have HZ2 := Aside0.mk (show stepE G ⟨0, r1, r2, r3, r4, r5, r6, r7, r8⟩ k ⟨f0, f1, f2, f3, f4⟩ (o3 ++ [y]) = o3 ++ [y] by unfold stepE; rw [if_neg]; rintro ⟨_, _, h⟩; exact h (by simp [hye]))
                              subst hye
                              have hnq : ∀ w, Sem.run Try.prog (binOp .neq 24 (.agg #[.int .i64 r1, .int .i64 r6, .int .i64 (k : Int)]) (.agg #[.int .i64 r1, .int .i64 r6, .int .i64 (k : Int)])) w = .ok (.bool false) w := fun w => by
                                have h := neE ⟨r1, r6, (k : Int)⟩ ⟨r1, r6, (k : Int)⟩ w
                                rw [decide_eq_true rfl] at h
                                exact h
                              refine wp_only ?_
                              refine start_ (n := 26) (S := fun W' => W' = Wd) (ds := []) #[false, false, false, false, false, false, false, false, false, false, false, false, false, false, false, false, false, false, false, false, false, false, false, false, false, false] (by kernel_rfl) rfl rfl hWd (fun hHeld => ?_)
                              rw [hWd] at hHeld ⊢
                              refine with_tabW getab15 gebits15 (fun HT_ HW_ => ?_)
                              refine pure_ (i := 0) (N := some 80) (v := ?_) (a' := ?_) #[true, false, false, false, false, false, false, false, false, false, false, false, false, false, false, false, false, false, false, false, false, false, false, false, false, false] rfl rfl (any_of HT_.out (by kernel_rfl)) (fun _ _ _ h => h) (Or.inl ⟨by rfl, ?_⟩) ?_ ?_
                              rotate_left
                              · intro w'
                                first | (go_simp; with_reducible rfl)
                              rotate_left
                              · simp only [Act.put, List.setIfInBounds_toArray, List.set_cons_zero, List.set_cons_succ, i64_w, i32_w]
                                rfl
                              refine pure_ (i := 1) (N := some 81) (v := ?_) (a' := ?_) #[true, true, false, false, false, false, false, false, false, false, false, false, false, false, false, false, false, false, false, false, false, false, false, false, false, false] rfl rfl (any_of HT_.out (by kernel_rfl)) (fun _ _ _ h => h) (Or.inl ⟨by rfl, ?_⟩) ?_ ?_
                              rotate_left
                              · intro w'
                                first | (go_simp; with_reducible rfl)
                              rotate_left
                              · simp only [Act.put, List.setIfInBounds_toArray, List.set_cons_zero, List.set_cons_succ, i64_w, i32_w]
                                rfl
                              refine pure_ (i := 2) (N := some 82) (v := ?_) (a' := ?_) #[true, true, true, false, false, false, false, false, false, false, false, false, false, false, false, false, false, false, false, false, false, false, false, false, false, false] rfl rfl (any_of HT_.out (by kernel_rfl)) (fun _ _ _ h => h) (Or.inl ⟨by rfl, ?_⟩) ?_ ?_
                              rotate_left
                              · intro w'
                                first | (go_simp; with_reducible rfl)
                              rotate_left
                              · simp only [Act.put, List.setIfInBounds_toArray, List.set_cons_zero, List.set_cons_succ, i64_w, i32_w]
                                rfl
                              refine take_ (i := 3) (N := some 83) (v := ?_) (a' := ?_) #[true, true, true, true, false, false, false, false, false, false, false, false, false, false, false, false, false, false, false, false, false, false, false, false, false, false] rfl rfl (take_ofW HT_.out HW_.out (by kernel_rfl)) (fun _ _ _ h => h) (Or.inl ⟨by rfl, ?_⟩) hHeld ?_ ?_
                              rotate_left
                              · intro w' hw'
                                rw [hw']
                                first | (go_simp; with_reducible rfl)
                              rotate_left
                              · simp only [Act.put, List.setIfInBounds_toArray, List.set_cons_zero, List.set_cons_succ, i64_w, i32_w]
                                rfl
                              refine pure_ (i := 4) (N := some 84) (v := ?_) (a' := ?_) #[true, true, true, true, true, false, false, false, false, false, false, false, false, false, false, false, false, false, false, false, false, false, false, false, false, false] rfl rfl (any_of HT_.out (by kernel_rfl)) (fun _ _ _ h => h) (Or.inl ⟨by rfl, ?_⟩) ?_ ?_
                              rotate_left
                              · intro w'
                                first | (go_simp; with_reducible rfl)
                              rotate_left
                              · simp only [Act.put, List.setIfInBounds_toArray, List.set_cons_zero, List.set_cons_succ, i64_w, i32_w]
                                rfl
                              refine take_ (i := 5) (N := some 85) (v := ?_) (a' := ?_) #[true, true, true, true, true, true, false, false, false, false, false, false, false, false, false, false, false, false, false, false, false, false, false, false, false, false] rfl rfl (take_ofW HT_.out HW_.out (by kernel_rfl)) (fun _ _ _ h => h) (Or.inl ⟨by rfl, ?_⟩) hHeld ?_ ?_
                              rotate_left
                              · intro w' hw'
                                rw [hw']
                                first | (go_simp; with_reducible rfl)
                              rotate_left
                              · simp only [Act.put, List.setIfInBounds_toArray, List.set_cons_zero, List.set_cons_succ, i64_w, i32_w]
                                rfl
                              refine take_ (i := 6) (N := some 86) (v := ?_) (a' := ?_) #[true, true, true, true, true, true, true, false, false, false, false, false, false, false, false, false, false, false, false, false, false, false, false, false, false, false] rfl rfl (take_ofW HT_.out HW_.out (by kernel_rfl)) (fun _ _ _ h => h) (Or.inl ⟨by rfl, ?_⟩) hHeld ?_ ?_
                              rotate_left
                              · intro w' hw'
                                rw [hw']
                                first | (go_simp; with_reducible rfl)
                              rotate_left
                              · simp only [Act.put, List.setIfInBounds_toArray, List.set_cons_zero, List.set_cons_succ, i64_w, i32_w]
                                rfl
                              refine pure_ (i := 7) (N := some 87) (v := ?_) (a' := ?_) #[true, true, true, true, true, true, true, true, false, false, false, false, false, false, false, false, false, false, false, false, false, false, false, false, false, false] rfl rfl (any_of HT_.out (by kernel_rfl)) (fun _ _ _ h => h) (Or.inl ⟨by rfl, ?_⟩) ?_ ?_
                              rotate_left
                              · intro w'
                                first | (go_simp; with_reducible rfl)
                              rotate_left
                              · simp only [Act.put, List.setIfInBounds_toArray, List.set_cons_zero, List.set_cons_succ, i64_w, i32_w]
                                rfl
                              refine take_ (i := 8) (N := some 88) (v := ?_) (a' := ?_) #[true, true, true, true, true, true, true, true, true, false, false, false, false, false, false, false, false, false, false, false, false, false, false, false, false, false] rfl rfl (take_ofW HT_.out HW_.out (by kernel_rfl)) (fun _ _ _ h => h) (Or.inl ⟨by rfl, ?_⟩) hHeld ?_ ?_
                              rotate_left
                              · intro w' hw'
                                rw [hw']
                                first | (go_simp; with_reducible rfl)
                              rotate_left
                              · simp only [Act.put, List.setIfInBounds_toArray, List.set_cons_zero, List.set_cons_succ, i64_w, i32_w]
                                rfl
                              refine one_ (i := 9) (N := some 89) #[true, true, true, true, true, true, true, true, true, true, false, false, false, false, false, false, false, false, false, false, false, false, false, false, false, false] rfl rfl (one_of HT_.out (by kernel_rfl)) (by decide) (fun K hK => ?_)
                              refine goes_ Try.func36 (by kernel_rfl) rfl #[.slice Av (G r6).length cv, .int .i64 f0] (by rfl) rfl rfl (by (try simp only [List.map_toArray, List.map_cons, List.map_nil]); first | done | rfl) ?_
                              refine (has_calls Av cv (G r6) f0 _ HCV.out).mono ?_
                              rintro e w3 ⟨rfl, hw3⟩
                              refine ⟨_, rfl, ?_⟩
                              rw [hw3, hhas]
                              clear hw3
                              refine hK.out _ _ hHeld (fun hHeld => ?_)
                              clear hK K
                              refine norm_ (a' := ?_) ?_ ?_
                              rotate_left
                              · show Act.put _ (some 89) _ = _
                                simp only [Act.put, List.setIfInBounds_toArray, List.set_cons_zero, List.set_cons_succ, i64_w, i32_w]
                                rfl
                              refine pure_ (i := 10) (N := some 90) (v := ?_) (a' := ?_) #[true, true, true, true, true, true, true, true, true, true, true, false, false, false, false, false, false, false, false, false, false, false, false, false, false, false] rfl rfl (any_of HT_.out (by kernel_rfl)) (fun _ _ _ h => h) (Or.inl ⟨by rfl, ?_⟩) ?_ ?_
                              rotate_left
                              · intro w'
                                first | (go_simp; with_reducible rfl)
                              rotate_left
                              · simp only [Act.put, List.setIfInBounds_toArray, List.set_cons_zero, List.set_cons_succ, i64_w, i32_w]
                                rfl
                              refine pure_ (i := 11) (N := some 91) (v := ?_) (a' := ?_) #[true, true, true, true, true, true, true, true, true, true, true, true, false, false, false, false, false, false, false, false, false, false, false, false, false, false] rfl rfl (any_of HT_.out (by kernel_rfl)) (fun _ _ _ h => h) (Or.inl ⟨by rfl, ?_⟩) ?_ ?_
                              rotate_left
                              · intro w'
                                first | (go_simp; with_reducible rfl)
                              rotate_left
                              · simp only [Act.put, List.setIfInBounds_toArray, List.set_cons_zero, List.set_cons_succ, i64_w, i32_w]
                                rfl
                              refine pure_ (i := 12) (N := some 92) (v := ?_) (a' := ?_) #[true, true, true, true, true, true, true, true, true, true, true, true, true, false, false, false, false, false, false, false, false, false, false, false, false, false] rfl rfl (any_of HT_.out (by kernel_rfl)) (fun _ _ _ h => h) (Or.inl ⟨by rfl, ?_⟩) ?_ ?_
                              rotate_left
                              · intro w'
                                first | (go_simp; with_reducible rfl)
                              rotate_left
                              · simp only [Act.put, List.setIfInBounds_toArray, List.set_cons_zero, List.set_cons_succ, i64_w, i32_w]
                                rfl
                              refine pure_ (i := 13) (N := some 93) (v := ?_) (a' := ?_) #[true, true, true, true, true, true, true, true, true, true, true, true, true, true, false, false, false, false, false, false, false, false, false, false, false, false] rfl rfl (any_of HT_.out (by kernel_rfl)) (fun _ _ _ h => h) (Or.inl ⟨by rfl, ?_⟩) ?_ ?_
                              rotate_left
                              · intro w'
                                first | (go_simp; with_reducible rfl)
                              rotate_left
                              · simp only [Act.put, List.setIfInBounds_toArray, List.set_cons_zero, List.set_cons_succ, i64_w, i32_w]
                                rfl
                              refine pure_ (i := 14) (N := some 94) (v := ?_) (a' := ?_) #[true, true, true, true, true, true, true, true, true, true, true, true, true, true, true, false, false, false, false, false, false, false, false, false, false, false] rfl rfl (any_of HT_.out (by kernel_rfl)) (fun _ _ _ h => h) (Or.inl ⟨by rfl, ?_⟩) ?_ ?_
                              rotate_left
                              · intro w'
                                first | (go_simp; with_reducible rfl)
                              rotate_left
                              · simp only [Act.put, List.setIfInBounds_toArray, List.set_cons_zero, List.set_cons_succ, i64_w, i32_w]
                                rfl
                              refine pure_ (i := 15) (N := some 95) (v := ?_) (a' := ?_) #[true, true, true, true, true, true, true, true, true, true, true, true, true, true, true, true, false, false, false, false, false, false, false, false, false, false] rfl rfl (any_of HT_.out (by kernel_rfl)) (fun _ _ _ h => h) (Or.inl ⟨by rfl, ?_⟩) ?_ ?_
                              rotate_left
                              · intro w'
                                first | (go_simp; with_reducible rfl)
                              rotate_left
                              · simp only [Act.put, List.setIfInBounds_toArray, List.set_cons_zero, List.set_cons_succ, i64_w, i32_w]
                                rfl
                              refine pure_ (i := 16) (N := some 96) (v := ?_) (a' := ?_) #[true, true, true, true, true, true, true, true, true, true, true, true, true, true, true, true, true, false, false, false, false, false, false, false, false, false] rfl rfl (any_of HT_.out (by kernel_rfl)) (fun _ _ _ h => h) (Or.inl ⟨by rfl, ?_⟩) ?_ ?_
                              rotate_left
                              · intro w'
                                first | (go_simp; with_reducible rfl)
                              rotate_left
                              · simp only [Act.put, List.setIfInBounds_toArray, List.set_cons_zero, List.set_cons_succ, i64_w, i32_w]
                                rfl
                              refine pure_ (i := 17) (N := some 97) (v := ?_) (a' := ?_) #[true, true, true, true, true, true, true, true, true, true, true, true, true, true, true, true, true, true, false, false, false, false, false, false, false, false] rfl rfl (any_of HT_.out (by kernel_rfl)) (fun _ _ _ h => h) (Or.inl ⟨by rfl, ?_⟩) ?_ ?_
                              rotate_left
                              · intro w'
                                first | (go_simp; with_reducible rfl)
                              rotate_left
                              · simp only [Act.put, List.setIfInBounds_toArray, List.set_cons_zero, List.set_cons_succ, i64_w, i32_w]
                                rfl
                              refine pure_ (i := 18) (N := some 98) (v := ?_) (a' := ?_) #[true, true, true, true, true, true, true, true, true, true, true, true, true, true, true, true, true, true, true, false, false, false, false, false, false, false] rfl rfl (any_of HT_.out (by kernel_rfl)) (fun _ _ _ h => h) (Or.inl ⟨by rfl, ?_⟩) ?_ ?_
                              rotate_left
                              · intro w'
                                first | (go_simp; with_reducible rfl)
                              rotate_left
                              · simp only [Act.put, List.setIfInBounds_toArray, List.set_cons_zero, List.set_cons_succ, i64_w, i32_w]
                                rfl
                              refine pure_ (i := 19) (N := some 99) (v := ?_) (a' := ?_) #[true, true, true, true, true, true, true, true, true, true, true, true, true, true, true, true, true, true, true, true, false, false, false, false, false, false] rfl rfl (any_of HT_.out (by kernel_rfl)) (fun _ _ _ h => h) (Or.inl ⟨by rfl, ?_⟩) ?_ ?_
                              rotate_left
                              · intro w'
                                first | (go_simp; with_reducible rfl)
                              rotate_left
                              · simp only [Act.put, List.setIfInBounds_toArray, List.set_cons_zero, List.set_cons_succ, i64_w, i32_w]
                                rfl
                              refine pure_ (i := 20) (N := some 100) (v := ?_) (a' := ?_) #[true, true, true, true, true, true, true, true, true, true, true, true, true, true, true, true, true, true, true, true, true, false, false, false, false, false] rfl rfl (any_of HT_.out (by kernel_rfl)) (fun _ _ _ h => h) (Or.inl ⟨by rfl, ?_⟩) ?_ ?_
                              rotate_left
                              · intro w'
                                first | (go_simp; with_reducible rfl)
                              rotate_left
                              · simp only [Act.put, List.setIfInBounds_toArray, List.set_cons_zero, List.set_cons_succ, i64_w, i32_w]
                                rfl
                              refine take_ (i := 21) (N := some 101) (v := ?_) (a' := ?_) #[true, true, true, true, true, true, true, true, true, true, true, true, true, true, true, true, true, true, true, true, true, true, false, false, false, false] rfl rfl (take_ofW HT_.out HW_.out (by kernel_rfl)) (fun _ _ _ h => h) (Or.inl ⟨by rfl, ?_⟩) hHeld ?_ ?_
                              rotate_left
                              · intro w' hw'
                                rw [hw']
                                first | (go_simp; with_reducible rfl)
                              rotate_left
                              · simp only [Act.put, List.setIfInBounds_toArray, List.set_cons_zero, List.set_cons_succ, i64_w, i32_w]
                                rfl
                              refine take_ (i := 22) (N := some 102) (v := ?_) (a' := ?_) #[true, true, true, true, true, true, true, true, true, true, true, true, true, true, true, true, true, true, true, true, true, true, true, false, false, false] rfl rfl (take_ofW HT_.out HW_.out (by kernel_rfl)) (fun _ _ _ h => h) (Or.inl ⟨by rfl, ?_⟩) hHeld ?_ ?_
                              rotate_left
                              · intro w' hw'
                                rw [hw']
                                first | (go_simp; with_reducible rfl)
                              rotate_left
                              · simp only [Act.put, List.setIfInBounds_toArray, List.set_cons_zero, List.set_cons_succ, i64_w, i32_w]
                                rfl
                              refine pure_ (i := 23) (N := some 103) (v := ?_) (a' := ?_) #[true, true, true, true, true, true, true, true, true, true, true, true, true, true, true, true, true, true, true, true, true, true, true, true, false, false] rfl rfl (any_of HT_.out (by kernel_rfl)) (fun _ _ _ h => h) (Or.inl ⟨by rfl, ?_⟩) ?_ ?_
                              rotate_left
                              · intro w'
                                first | (go_simp; with_reducible rfl)
                              rotate_left
                              · simp only [Act.put, List.setIfInBounds_toArray, List.set_cons_zero, List.set_cons_succ, i64_w, i32_w]
                                rfl
                              refine pure_ (i := 24) (N := some 104) (v := ?_) (a' := ?_) #[true, true, true, true, true, true, true, true, true, true, true, true, true, true, true, true, true, true, true, true, true, true, true, true, true, false] rfl rfl (any_of HT_.out (by kernel_rfl)) (fun _ _ _ h => h) (Or.inl ⟨by rfl, ?_⟩) ?_ ?_
                              rotate_left
                              · intro w'
                                first | (go_simp; with_reducible rfl)
                              rotate_left
                              · simp only [Act.put, List.setIfInBounds_toArray, List.set_cons_zero, List.set_cons_succ, i64_w, i32_w]
                                rfl
                              refine pure_ (i := 25) (N := some 105) (v := ?_) (a' := ?_) #[true, true, true, true, true, true, true, true, true, true, true, true, true, true, true, true, true, true, true, true, true, true, true, true, true, true] rfl rfl (any_of HT_.out (by kernel_rfl)) (fun _ _ _ h => h) (Or.inl ⟨by rfl, ?_⟩) ?_ ?_
                              rotate_left
                              · intro w'
                                first | (go_simp; with_reducible rfl)
                              rotate_left
                              · simp only [Act.put, List.setIfInBounds_toArray, List.set_cons_zero, List.set_cons_succ, i64_w, i32_w]
                                rfl
                              refine done_ (done_of HT_.out (by kernel_rfl)) ?_
                              dsimp only [onlyN]
                              gi_wp2
                              gi_roundg (gk - 1)
                              case measure => omega
                              case rel => exact ⟨k + 1, by go_num, by omega, HBD.out, by rw [HOS2.out, HZ2.out]; exact HOD.out, _, HRD.out⟩
                            · have HZ2 := Aside0.mk (show stepE G ⟨0, r1, r2, r3, r4, r5, r6, r7, r8⟩ k ⟨f0, f1, f2, f3, f4⟩ (o3 ++ [y]) = (o3 ++ [y]) ++ [⟨r1, r6, (k : Int)⟩] by unfold stepE; rw [if_pos]; exact ⟨hkp, hhas, by simpa using hye⟩)
                              have hnq : ∀ w, Sem.run Try.prog (binOp .neq 24 (.agg #[.int .i64 y.f0, .int .i64 y.f1, .int .i64 y.f2]) (.agg #[.int .i64 r1, .int .i64 r6, .int .i64 (k : Int)])) w = .ok (.bool true) w := fun w => by
                                have h := neE y ⟨r1, r6, (k : Int)⟩ w
                                rw [decide_eq_false hye] at h
                                exact h
                              refine wp_only ?_
                              refine start_ (n := 26) (S := fun W' => W' = Wd) (ds := []) #[false, false, false, false, false, false, false, false, false, false, false, false, false, false, false, false, false, false, false, false, false, false, false, false, false, false] (by kernel_rfl) rfl rfl hWd (fun hHeld => ?_)
                              rw [hWd] at hHeld ⊢
                              refine with_tabW getab15 gebits15 (fun HT_ HW_ => ?_)
                              refine pure_ (i := 0) (N := some 80) (v := ?_) (a' := ?_) #[true, false, false, false, false, false, false, false, false, false, false, false, false, false, false, false, false, false, false, false, false, false, false, false, false, false] rfl rfl (any_of HT_.out (by kernel_rfl)) (fun _ _ _ h => h) (Or.inl ⟨by rfl, ?_⟩) ?_ ?_
                              rotate_left
                              · intro w'
                                first | (go_simp; with_reducible rfl)
                              rotate_left
                              · simp only [Act.put, List.setIfInBounds_toArray, List.set_cons_zero, List.set_cons_succ, i64_w, i32_w]
                                rfl
                              refine pure_ (i := 1) (N := some 81) (v := ?_) (a' := ?_) #[true, true, false, false, false, false, false, false, false, false, false, false, false, false, false, false, false, false, false, false, false, false, false, false, false, false] rfl rfl (any_of HT_.out (by kernel_rfl)) (fun _ _ _ h => h) (Or.inl ⟨by rfl, ?_⟩) ?_ ?_
                              rotate_left
                              · intro w'
                                first | (go_simp; with_reducible rfl)
                              rotate_left
                              · simp only [Act.put, List.setIfInBounds_toArray, List.set_cons_zero, List.set_cons_succ, i64_w, i32_w]
                                rfl
                              refine pure_ (i := 2) (N := some 82) (v := ?_) (a' := ?_) #[true, true, true, false, false, false, false, false, false, false, false, false, false, false, false, false, false, false, false, false, false, false, false, false, false, false] rfl rfl (any_of HT_.out (by kernel_rfl)) (fun _ _ _ h => h) (Or.inl ⟨by rfl, ?_⟩) ?_ ?_
                              rotate_left
                              · intro w'
                                first | (go_simp; with_reducible rfl)
                              rotate_left
                              · simp only [Act.put, List.setIfInBounds_toArray, List.set_cons_zero, List.set_cons_succ, i64_w, i32_w]
                                rfl
                              refine take_ (i := 3) (N := some 83) (v := ?_) (a' := ?_) #[true, true, true, true, false, false, false, false, false, false, false, false, false, false, false, false, false, false, false, false, false, false, false, false, false, false] rfl rfl (take_ofW HT_.out HW_.out (by kernel_rfl)) (fun _ _ _ h => h) (Or.inl ⟨by rfl, ?_⟩) hHeld ?_ ?_
                              rotate_left
                              · intro w' hw'
                                rw [hw']
                                first | (go_simp; with_reducible rfl)
                              rotate_left
                              · simp only [Act.put, List.setIfInBounds_toArray, List.set_cons_zero, List.set_cons_succ, i64_w, i32_w]
                                rfl
                              refine pure_ (i := 4) (N := some 84) (v := ?_) (a' := ?_) #[true, true, true, true, true, false, false, false, false, false, false, false, false, false, false, false, false, false, false, false, false, false, false, false, false, false] rfl rfl (any_of HT_.out (by kernel_rfl)) (fun _ _ _ h => h) (Or.inl ⟨by rfl, ?_⟩) ?_ ?_
                              rotate_left
                              · intro w'
                                first | (go_simp; with_reducible rfl)
                              rotate_left
                              · simp only [Act.put, List.setIfInBounds_toArray, List.set_cons_zero, List.set_cons_succ, i64_w, i32_w]
                                rfl
                              refine take_ (i := 5) (N := some 85) (v := ?_) (a' := ?_) #[true, true, true, true, true, true, false, false, false, false, false, false, false, false, false, false, false, false, false, false, false, false, false, false, false, false] rfl rfl (take_ofW HT_.out HW_.out (by kernel_rfl)) (fun _ _ _ h => h) (Or.inl ⟨by rfl, ?_⟩) hHeld ?_ ?_
                              rotate_left
                              · intro w' hw'
                                rw [hw']
                                first | (go_simp; with_reducible rfl)
                              rotate_left
                              · simp only [Act.put, List.setIfInBounds_toArray, List.set_cons_zero, List.set_cons_succ, i64_w, i32_w]
                                rfl
                              refine take_ (i := 6) (N := some 86) (v := ?_) (a' := ?_) #[true, true, true, true, true, true, true, false, false, false, false, false, false, false, false, false, false, false, false, false, false, false, false, false, false, false] rfl rfl (take_ofW HT_.out HW_.out (by kernel_rfl)) (fun _ _ _ h => h) (Or.inl ⟨by rfl, ?_⟩) hHeld ?_ ?_
                              rotate_left
                              · intro w' hw'
                                rw [hw']
                                first | (go_simp; with_reducible rfl)
                              rotate_left
                              · simp only [Act.put, List.setIfInBounds_toArray, List.set_cons_zero, List.set_cons_succ, i64_w, i32_w]
                                rfl
                              refine pure_ (i := 7) (N := some 87) (v := ?_) (a' := ?_) #[true, true, true, true, true, true, true, true, false, false, false, false, false, false, false, false, false, false, false, false, false, false, false, false, false, false] rfl rfl (any_of HT_.out (by kernel_rfl)) (fun _ _ _ h => h) (Or.inl ⟨by rfl, ?_⟩) ?_ ?_
                              rotate_left
                              · intro w'
                                first | (go_simp; with_reducible rfl)
                              rotate_left
                              · simp only [Act.put, List.setIfInBounds_toArray, List.set_cons_zero, List.set_cons_succ, i64_w, i32_w]
                                rfl
                              refine take_ (i := 8) (N := some 88) (v := ?_) (a' := ?_) #[true, true, true, true, true, true, true, true, true, false, false, false, false, false, false, false, false, false, false, false, false, false, false, false, false, false] rfl rfl (take_ofW HT_.out HW_.out (by kernel_rfl)) (fun _ _ _ h => h) (Or.inl ⟨by rfl, ?_⟩) hHeld ?_ ?_
                              rotate_left
                              · intro w' hw'
                                rw [hw']
                                first | (go_simp; with_reducible rfl)
                              rotate_left
                              · simp only [Act.put, List.setIfInBounds_toArray, List.set_cons_zero, List.set_cons_succ, i64_w, i32_w]
                                rfl
                              refine one_ (i := 9) (N := some 89) #[true, true, true, true, true, true, true, true, true, true, false, false, false, false, false, false, false, false, false, false, false, false, false, false, false, false] rfl rfl (one_of HT_.out (by kernel_rfl)) (by decide) (fun K hK => ?_)
                              refine goes_ Try.func36 (by kernel_rfl) rfl #[.slice Av (G r6).length cv, .int .i64 f0] (by rfl) rfl rfl (by (try simp only [List.map_toArray, List.map_cons, List.map_nil]); first | done | rfl) ?_
                              refine (has_calls Av cv (G r6) f0 _ HCV.out).mono ?_
                              rintro e w3 ⟨rfl, hw3⟩
                              refine ⟨_, rfl, ?_⟩
                              rw [hw3, hhas]
                              clear hw3
                              refine hK.out _ _ hHeld (fun hHeld => ?_)
                              clear hK K
                              refine norm_ (a' := ?_) ?_ ?_
                              rotate_left
                              · show Act.put _ (some 89) _ = _
                                simp only [Act.put, List.setIfInBounds_toArray, List.set_cons_zero, List.set_cons_succ, i64_w, i32_w]
                                rfl
                              refine pure_ (i := 10) (N := some 90) (v := ?_) (a' := ?_) #[true, true, true, true, true, true, true, true, true, true, true, false, false, false, false, false, false, false, false, false, false, false, false, false, false, false] rfl rfl (any_of HT_.out (by kernel_rfl)) (fun _ _ _ h => h) (Or.inl ⟨by rfl, ?_⟩) ?_ ?_
                              rotate_left
                              · intro w'
                                first | (go_simp; with_reducible rfl)
                              rotate_left
                              · simp only [Act.put, List.setIfInBounds_toArray, List.set_cons_zero, List.set_cons_succ, i64_w, i32_w]
                                rfl
                              refine pure_ (i := 11) (N := some 91) (v := ?_) (a' := ?_) #[true, true, true, true, true, true, true, true, true, true, true, true, false, false, false, false, false, false, false, false, false, false, false, false, false, false] rfl rfl (any_of HT_.out (by kernel_rfl)) (fun _ _ _ h => h) (Or.inl ⟨by rfl, ?_⟩) ?_ ?_
                              rotate_left
                              · intro w'
                                first | (go_simp; with_reducible rfl)
                              rotate_left
                              · simp only [Act.put, List.setIfInBounds_toArray, List.set_cons_zero, List.set_cons_succ, i64_w, i32_w]
                                rfl
                              refine pure_ (i := 12) (N := some 92) (v := ?_) (a' := ?_) #[true, true, true, true, true, true, true, true, true, true, true, true, true, false, false, false, false, false, false, false, false, false, false, false, false, false] rfl rfl (any_of HT_.out (by kernel_rfl)) (fun _ _ _ h => h) (Or.inl ⟨by rfl, ?_⟩) ?_ ?_
                              rotate_left
                              · intro w'
                                first | (go_simp; with_reducible rfl)
                              rotate_left
                              · simp only [Act.put, List.setIfInBounds_toArray, List.set_cons_zero, List.set_cons_succ, i64_w, i32_w]
                                rfl
                              refine pure_ (i := 13) (N := some 93) (v := ?_) (a' := ?_) #[true, true, true, true, true, true, true, true, true, true, true, true, true, true, false, false, false, false, false, false, false, false, false, false, false, false] rfl rfl (any_of HT_.out (by kernel_rfl)) (fun _ _ _ h => h) (Or.inl ⟨by rfl, ?_⟩) ?_ ?_
                              rotate_left
                              · intro w'
                                first | (go_simp; with_reducible rfl)
                              rotate_left
                              · simp only [Act.put, List.setIfInBounds_toArray, List.set_cons_zero, List.set_cons_succ, i64_w, i32_w]
                                rfl
                              refine pure_ (i := 14) (N := some 94) (v := ?_) (a' := ?_) #[true, true, true, true, true, true, true, true, true, true, true, true, true, true, true, false, false, false, false, false, false, false, false, false, false, false] rfl rfl (any_of HT_.out (by kernel_rfl)) (fun _ _ _ h => h) (Or.inl ⟨by rfl, ?_⟩) ?_ ?_
                              rotate_left
                              · intro w'
                                first | (go_simp; with_reducible rfl)
                              rotate_left
                              · simp only [Act.put, List.setIfInBounds_toArray, List.set_cons_zero, List.set_cons_succ, i64_w, i32_w]
                                rfl
                              refine pure_ (i := 15) (N := some 95) (v := ?_) (a' := ?_) #[true, true, true, true, true, true, true, true, true, true, true, true, true, true, true, true, false, false, false, false, false, false, false, false, false, false] rfl rfl (any_of HT_.out (by kernel_rfl)) (fun _ _ _ h => h) (Or.inl ⟨by rfl, ?_⟩) ?_ ?_
                              rotate_left
                              · intro w'
                                first | (go_simp; with_reducible rfl)
                              rotate_left
                              · simp only [Act.put, List.setIfInBounds_toArray, List.set_cons_zero, List.set_cons_succ, i64_w, i32_w]
                                rfl
                              refine pure_ (i := 16) (N := some 96) (v := ?_) (a' := ?_) #[true, true, true, true, true, true, true, true, true, true, true, true, true, true, true, true, true, false, false, false, false, false, false, false, false, false] rfl rfl (any_of HT_.out (by kernel_rfl)) (fun _ _ _ h => h) (Or.inl ⟨by rfl, ?_⟩) ?_ ?_
                              rotate_left
                              · intro w'
                                first | (go_simp; with_reducible rfl)
                              rotate_left
                              · simp only [Act.put, List.setIfInBounds_toArray, List.set_cons_zero, List.set_cons_succ, i64_w, i32_w]
                                rfl
                              refine pure_ (i := 17) (N := some 97) (v := ?_) (a' := ?_) #[true, true, true, true, true, true, true, true, true, true, true, true, true, true, true, true, true, true, false, false, false, false, false, false, false, false] rfl rfl (any_of HT_.out (by kernel_rfl)) (fun _ _ _ h => h) (Or.inl ⟨by rfl, ?_⟩) ?_ ?_
                              rotate_left
                              · intro w'
                                first | (go_simp; with_reducible rfl)
                              rotate_left
                              · simp only [Act.put, List.setIfInBounds_toArray, List.set_cons_zero, List.set_cons_succ, i64_w, i32_w]
                                rfl
                              refine pure_ (i := 18) (N := some 98) (v := ?_) (a' := ?_) #[true, true, true, true, true, true, true, true, true, true, true, true, true, true, true, true, true, true, true, false, false, false, false, false, false, false] rfl rfl (any_of HT_.out (by kernel_rfl)) (fun _ _ _ h => h) (Or.inl ⟨by rfl, ?_⟩) ?_ ?_
                              rotate_left
                              · intro w'
                                first | (go_simp; with_reducible rfl)
                              rotate_left
                              · simp only [Act.put, List.setIfInBounds_toArray, List.set_cons_zero, List.set_cons_succ, i64_w, i32_w]
                                rfl
                              refine pure_ (i := 19) (N := some 99) (v := ?_) (a' := ?_) #[true, true, true, true, true, true, true, true, true, true, true, true, true, true, true, true, true, true, true, true, false, false, false, false, false, false] rfl rfl (any_of HT_.out (by kernel_rfl)) (fun _ _ _ h => h) (Or.inl ⟨by rfl, ?_⟩) ?_ ?_
                              rotate_left
                              · intro w'
                                first | (go_simp; with_reducible rfl)
                              rotate_left
                              · simp only [Act.put, List.setIfInBounds_toArray, List.set_cons_zero, List.set_cons_succ, i64_w, i32_w]
                                rfl
                              refine pure_ (i := 20) (N := some 100) (v := ?_) (a' := ?_) #[true, true, true, true, true, true, true, true, true, true, true, true, true, true, true, true, true, true, true, true, true, false, false, false, false, false] rfl rfl (any_of HT_.out (by kernel_rfl)) (fun _ _ _ h => h) (Or.inl ⟨by rfl, ?_⟩) ?_ ?_
                              rotate_left
                              · intro w'
                                first | (go_simp; with_reducible rfl)
                              rotate_left
                              · simp only [Act.put, List.setIfInBounds_toArray, List.set_cons_zero, List.set_cons_succ, i64_w, i32_w]
                                rfl
                              refine take_ (i := 21) (N := some 101) (v := ?_) (a' := ?_) #[true, true, true, true, true, true, true, true, true, true, true, true, true, true, true, true, true, true, true, true, true, true, false, false, false, false] rfl rfl (take_ofW HT_.out HW_.out (by kernel_rfl)) (fun _ _ _ h => h) (Or.inl ⟨by rfl, ?_⟩) hHeld ?_ ?_
                              rotate_left
                              · intro w' hw'
                                rw [hw']
                                first | (go_simp; with_reducible rfl)
                              rotate_left
                              · simp only [Act.put, List.setIfInBounds_toArray, List.set_cons_zero, List.set_cons_succ, i64_w, i32_w]
                                rfl
                              refine take_ (i := 22) (N := some 102) (v := ?_) (a' := ?_) #[true, true, true, true, true, true, true, true, true, true, true, true, true, true, true, true, true, true, true, true, true, true, true, false, false, false] rfl rfl (take_ofW HT_.out HW_.out (by kernel_rfl)) (fun _ _ _ h => h) (Or.inl ⟨by rfl, ?_⟩) hHeld ?_ ?_
                              rotate_left
                              · intro w' hw'
                                rw [hw']
                                first | (go_simp; with_reducible rfl)
                              rotate_left
                              · simp only [Act.put, List.setIfInBounds_toArray, List.set_cons_zero, List.set_cons_succ, i64_w, i32_w]
                                rfl
                              refine pure_ (i := 23) (N := some 103) (v := ?_) (a' := ?_) #[true, true, true, true, true, true, true, true, true, true, true, true, true, true, true, true, true, true, true, true, true, true, true, true, false, false] rfl rfl (any_of HT_.out (by kernel_rfl)) (fun _ _ _ h => h) (Or.inl ⟨by rfl, ?_⟩) ?_ ?_
                              rotate_left
                              · intro w'
                                first | (go_simp; with_reducible rfl)
                              rotate_left
                              · simp only [Act.put, List.setIfInBounds_toArray, List.set_cons_zero, List.set_cons_succ, i64_w, i32_w]
                                rfl
                              refine pure_ (i := 24) (N := some 104) (v := ?_) (a' := ?_) #[true, true, true, true, true, true, true, true, true, true, true, true, true, true, true, true, true, true, true, true, true, true, true, true, true, false] rfl rfl (any_of HT_.out (by kernel_rfl)) (fun _ _ _ h => h) (Or.inl ⟨by rfl, ?_⟩) ?_ ?_
                              rotate_left
                              · intro w'
                                first | (go_simp; with_reducible rfl)
                              rotate_left
                              · simp only [Act.put, List.setIfInBounds_toArray, List.set_cons_zero, List.set_cons_succ, i64_w, i32_w]
                                rfl
                              refine pure_ (i := 25) (N := some 105) (v := ?_) (a' := ?_) #[true, true, true, true, true, true, true, true, true, true, true, true, true, true, true, true, true, true, true, true, true, true, true, true, true, true] rfl rfl (any_of HT_.out (by kernel_rfl)) (fun _ _ _ h => h) (Or.inl ⟨by rfl, ?_⟩) ?_ ?_
                              rotate_left
                              · intro w'
                                first | (go_simp; with_reducible rfl)
                              rotate_left
                              · simp only [Act.put, List.setIfInBounds_toArray, List.set_cons_zero, List.set_cons_succ, i64_w, i32_w]
                                rfl
                              refine done_ (done_of HT_.out (by kernel_rfl)) ?_
                              dsimp only [onlyN]
                              gi_wp2_with (gi_at_builtin; go_loud (refine appendE_in W5.heap.size rfl _ _ rfl (.slice (some ad9) n9 c9) (o3 ++ [y]) ⟨r1, r6, (k : Int)⟩ Wd.heap.size rfl rfl (heap_alloc_new _ _) (HOD.out.below (below_alloc (Below.refl _ _) _)) (by have := HBD.out.size; simp; omega) (by have h1_ := HNL.out; have h2_ := HOL2.out; rw [h1_]; omega) ?_; rintro v1 w1 hO1 hg1 hat1; have HO1 := Aside0.mk hO1; have HN1 := Aside0.mk (app_next HBD.out HOD.out HRD.out (by decide) hg1); clear hO1 hg1 hat1))
                              gi_roundg (gk - 1)
                              case measure => omega
                              case rel => exact ⟨k + 1, by go_num, by omega, HN1.out.1, by rw [HOS2.out, HZ2.out]; exact HO1.out, _, HN1.out.2⟩
                    · obtain rfl : k = fs.length := by omega
                      gi_wp2
                      gi_roundg (rs.length - (j + 1))
                      case measure => omega
                      case rel => exact ⟨j + 1, by go_num, by omega, HBL2.out, by rw [HOS.out, HZ.out]; exact HOW2.out⟩
        · have h8 : (r0 == 8) = false := by simp; omega
          have h9 : (r0 == 9) = false := by simp; omega
          have HZ := Aside0.mk (show ruleE en G fs ⟨r0, r1, r2, r3, r4, r5, r6, r7, r8⟩ out = out by unfold ruleE; rw [if_neg]; unfold okR; simp; omega)
          gi_wp2
          gi_roundg (gk - 1)
          case measure => omega
          case rel => exact ⟨j + 1, by go_num, by omega, HBL.out.alloc hbs _, by rw [HOS.out, HZ.out]; exact HOW.out.below (below_alloc (Below.refl _ _) _)⟩
      · obtain rfl : j = rs.length := by omega
        have houtl : (outerE en G fs rs rs.length).length ≤ 1000000 := Nat.le_trans (outer_len en G fs rs rs.length) (Nat.le_trans (Nat.mul_le_mul hrl hfl) (by decide))
        obtain ⟨A9, c9, he9⟩ := hown.slice3
        obtain ⟨out, hout⟩ : ∃ out, out = outerE en G fs rs rs.length := ⟨_, rfl⟩
        rw [← hout] at he9 houtl HOW
        have HOUT := Aside0.mk hout
        subst he9
        clear hown hout
        gi_wp2_with (first
          | (gi_at_call 37; refine (callsIn_wide.2 (sort_row HOW.out (by omega))).mono ?_; rintro e W6 ⟨rfl, ys, hys, hsy, hro, hg6⟩; have HYS := Aside0.mk hys; have HSY := Aside0.mk hsy; have HRO := Aside0.mk hro; have HG6 := Aside0.mk hg6; have hyl := hys.length_eq; clear hys hsy hro hg6)
          | (gi_at_call 41; refine (callsIn_wide.2 (compact_row HRO.out (by omega))).mono ?_; rintro e W7 ⟨v7, rfl, hv7, hg7⟩; have HV7 := Aside0.mk hv7; have HG7 := Aside0.mk hg7; clear hv7 hg7))
        have hDlt := (Array.getElem?_eq_some_iff.1 HK.out).1
        have hs54 : W4.heap.size ≤ W5.heap.size := HB5.out.size
        have hs05 : w.heap.size ≤ W5.heap.size := HW5.out.size
        have hsr5 := HBL.out.size
        have HBR := Aside0.mk (((HBL.out.grown HG6.out hsr5 (fun q hq => (HOW.out.lt hq).1)).grown HG7.out (Nat.le_trans hsr5 HG6.out.size) (fun q hq => (HOW.out.lt hq).1)))
        have hK7 : W7.heap[D]? = some (.deferred (some [])) := (HBR.out.block D (by omega)).trans ((HB5.out.block D hDlt).trans HK.out)
        have HES := Aside0.mk (show Lib.compact ys = edgeSet (outerE (sset (enteredL ls)) (grp (toldL ls 5)) fs rs rs.length) from by
          have h1 := edgeSet_of HYS.out HSY.out
          rw [h1, HOUT.out, HN.out, HG.out, List.take_length])
        rw [Exit.noGoto_ret]
        refine ⟨by simp, .inl ⟨_, _, rfl, run_takeDeferred hK7, ?_⟩⟩
        refine ⟨v7, by simp [results, Try.results23, go_sem], _, rfl, ?_, ?_⟩
        · rw [← HES.out]
          exact Kd.V_map HV7.out (fun A hf => Kd.F_mono (Kd.F_step hf (fun q hq _ => (Chg.put1 W7 D _).block q ‹_› (fun e => by omega))) (fun q hq => by omega))
        · exact (HW5.out.trans (HBR.out.mono hs05)).trans ((Chg.put1 W7 D _).below (by have := HBR.out.size; omega) (fun q hq => by omega))
end Go.Proofs.Ytondngpmhlemkaa.Ge

/- graph.Edges by its contract. No condition. -/
namespace Go.Proofs.Ytondngpmhlemkaa.Gr
open Go.RowKit Go.Proofs.YtondngpmhlemkaaW.PrintWords Go.Proofs.YtondngpmhlemkaaW.PrintLast Go.Proofs.YtondngpmhlemkaaW.PrintMore Go.Proofs.Ytondngpmhlemkaa.Sets Go.Proofs.Ytondngpmhlemkaa.Iter Go.Proofs.Ytondngpmhlemkaa.ISet Go.Proofs.Ytondngpmhlemkaa.Pr Go.Proofs.Ytondngpmhlemkaa.Ext Go.Proofs.Ytondngpmhlemkaa.Ge
set_option linter.unusedVariables false
def edgesOk (fs : List S66) (rs : List S68) (ls : List S49) : Prop := (fs.length ≤ 1000 ∧ rs.length ≤ 1000 ∧ ls.length ≤ 1000000) ∧ ls.all (fun f => (Lit.int .i64 f.f1).wf && (Lit.int .i64 f.f3).wf) = true ∧ rs.all (fun r => (Lit.int .i64 r.f6).wf) = true
instance (fs : List S66) (rs : List S68) (ls : List S49) : Decidable (edgesOk fs rs ls) := inferInstanceAs (Decidable (_ ∧ _))
def graph_Edges.f (a0_0 : Int) (l0_1 : List S66) (l0_2 : List S68) (l1 : List S49) : Option (List S24) :=
  if edgesOk l0_1 l0_2 l1 then some (edgeSet (outerE (sset (enteredL l1)) (grp (toldL l1 5)) l0_1 l0_2 l0_2.length)) else none
theorem graph_Edges.calls (a0_0 : Int) (A0_1 : Option Addr) (c0_1 : Nat) (l0_1 : List S66) (A0_2 : Option Addr) (c0_2 : Nat) (l0_2 : List S68) (A1 : Option Addr) (c1 : Nat) (l1 : List S49) (r : List S24) (w : World)
    (hr0_1 : Kd.C k66 w A0_1 l0_1.length l0_1) (hc0_1 : l0_1.length ≤ c0_1) (hr0_2 : Kd.C k68 w A0_2 l0_2.length l0_2) (hc0_2 : l0_2.length ≤ c0_2) (hr1 : Kd.C k49 w A1 l1.length l1) (hc1 : l1.length ≤ c1) (h : graph_Edges.f a0_0 l0_1 l0_2 l1 = some r) :
    Calls Try.prog 23 #[.agg #[.int .i64 a0_0, .slice A0_1 l0_1.length c0_1, .slice A0_2 l0_2.length c0_2], .slice A1 l1.length c1] w fun e w' => ∃ v0_ : Value, e = .returned v0_ ∧ Kd.V k24 24 w' w.heap.size (fun k_ => w.heap.size ≤ k_) v0_ r ∧ Below w.heap.size w w' := by
  unfold graph_Edges.f at h
  by_cases hk : edgesOk l0_1 l0_2 l1
  case neg => rw [if_neg hk] at h; cases h
  rw [if_pos hk] at h
  obtain rfl := Option.some.inj h
  obtain ⟨⟨h1, h2, h3⟩, h4, h5⟩ := hk
  exact edges_calls a0_0 A0_1 A0_2 A1 c0_1 c0_2 c1 l0_1 l0_2 l1 w hr0_1 hr0_2 hr1 hc0_1 hc0_2 hc1 h1 h2 h3
    (fun f hf => by have := List.all_eq_true.1 h4 f hf; rw [Bool.and_eq_true] at this; exact this) (fun r hr => List.all_eq_true.1 h5 r hr)
end Go.Proofs.Ytondngpmhlemkaa.Gr

/- bits.Queue: New, Push, Pop, Len. -/
namespace Go.Proofs.Ytondngpmhlemkaa.Ext
open Go.RowKit Go.Proofs.YtondngpmhlemkaaW.PrintWords Go.Proofs.YtondngpmhlemkaaW.PrintLast Go.Proofs.YtondngpmhlemkaaW.PrintMore Go.Proofs.Ytondngpmhlemkaa.Iter Go.Proofs.Ytondngpmhlemkaa.ISet
set_option linter.unusedVariables false
set_option linter.unusedSimpArgs false
abbrev MSet (W : World) (b n : Nat) (S : Int → Bool) : Prop := ISet Try.prog 3 4 W b n S
theorem run_lookup_set {W : World} {b n : Nat} {S : Int → Bool} (h : MSet W b n S) (x : Int) (hx : wfI x) : (Instr.lookup 75 (.map (some b)) (.int .i64 x) false).run Try.prog W = .ok (.bool (S x)) W :=
  h.look Try.underlying3 Try.underlying4 Try.underlying75 (Try.zeroValue4 W) x hx
set_option maxHeartbeats 400000 in
theorem joins_in (gm n : Nat) (S : Int → Bool) (x : Int) (w : World) (h : MSet w gm n S) (hx : wfI x) (hS : S x = true) :
    Calls Try.prog 43 #[.map (some gm), .int .i64 x] w fun e w' => e = .returned (.bool false) ∧ w' = w := by
  have hl := run_lookup_set h x hx
  rw [hS] at hl
  clear h hS
  go_enter Try.func43, Try.ntmps43
  go_wp2
  go_ret
  exact ⟨rfl, rfl⟩
set_option maxHeartbeats 400000 in
theorem joins_new (gm n : Nat) (S : Int → Bool) (x : Int) (w : World) (h : MSet w gm n S) (hn : n < 1000000000000) (hx : wfI x) (hS : S x = false) :
    Calls Try.prog 43 #[.map (some gm), .int .i64 x] w fun e w' => e = .returned (.bool true) ∧ MSet w' gm (n + 1) (fun y => if y = x then true else S y) ∧ Chg (fun i => i = gm) w w' := by
  have hl := run_lookup_set h x hx
  rw [hS] at hl
  obtain ⟨w1, hrun, h1, hc⟩ := h.put (t := 75) Try.underlying3 Try.underlying4 Try.underlying75 (by simp only [maxLen]; omega) x hx true
  have H1 := Aside0.mk h1
  have HC := Aside0.mk hc
  clear h hS h1 hc
  go_enter Try.func43, Try.ntmps43
  go_wp2
  go_ret
  exact ⟨rfl, H1.out, HC.out⟩
abbrev QRowI (W : World) (base : Nat) (v : Value) (xs : List Int) : Prop := Kd.Q (Kd.int .i64) 3 W base (fun _ => True) v xs
theorem at_getD' {w : World} {A : Option Addr} {xs : List Int} (h : Kd.C (Kd.int .i64) w A xs.length xs) (k : Nat) (hk : k < xs.length) : ∃ ad, A = some ad ∧ w.cell? (ad.add k) = some (.int .i64 (xs.getD k 0)) := by
  obtain ⟨ad, e, hc⟩ := Kd.at_int h (k : Int) (by omega) (by omega)
  rw [Int.toNat_natCast] at hc
  unfold rd at hc
  rw [Int.toNat_natCast] at hc
  exact ⟨ad, e, hc⟩
theorem at_head' {w : World} {A : Option Addr} {x : Int} {r : List Int} (h : Kd.C (Kd.int .i64) w A (x :: r).length (x :: r)) : ∃ ad, A = some ad ∧ w.cell? ad = some (.int .i64 x) := by
  obtain ⟨ad, e, hc⟩ := at_getD' h 0 (by simp)
  exact ⟨ad, e, by simpa [Addr.add] using hc⟩
structure QAt (W : World) (base gq gm : Nat) (v : Value) (S : Int → Bool) (l : List Int) (n : Nat) (O : Nat → Prop) : Prop where
  blk : W.heap[gq]? = some (.cells #[.map (some gm), v] 77 (0, 0))
  set : MSet W gm n S
  tells : ∀ x, S x = decide (x ∈ l)
  row : QRowI W base v l
  oq : O gq
  om : O gm
  orow : ∀ i, v.ownBlock = some i → O i ∧ i ≠ gq ∧ i ≠ gm
  bq : base ≤ gq
  bm : base ≤ gm
  ne : gq ≠ gm
  nodup : l.Nodup
  wf : ∀ x ∈ l, wfI x
  len : l.length ≤ n
theorem cell2 {W : World} {g : Nat} {a b : Value} {t : TypeId} (h : W.heap[g]? = some (.cells #[a, b] t (0, 0))) :
    W.cell? ⟨g, 0, none⟩ = some a ∧ W.cell? ⟨g, 1, none⟩ = some b ∧ W.frozen? ⟨g, 1, none⟩ = false ∧ W.frozen? ⟨g, 0, none⟩ = false := by
  refine ⟨?_, ?_, ?_, ?_⟩ <;> simp [World.cell?, World.frozen?, h]
theorem qrow_chg {W W' : World} {base : Nat} {v : Value} {xs : List Int} {T : Nat → Prop} (h : QRowI W base v xs) (hc : Chg T W W') (hn : ∀ k, v.ownBlock = some k → ¬ T k) : QRowI W' base v xs := by
  have h1 := Kd.Q_tight (by rfl) h
  exact Kd.Q_mono (Kd.Q_step h1 (fun k hk hlt => hc.block k hlt (hn k hk.symm))) (fun _ _ => trivial)
theorem QAt.chg {W W' : World} {base gq gm n : Nat} {v : Value} {S : Int → Bool} {l : List Int} {O T : Nat → Prop} (h : QAt W base gq gm v S l n O) (hc : Chg T W W') (hT : ∀ i, T i → ¬ O i) : QAt W' base gq gm v S l n O :=
  { h with blk := hc.blk h.blk (fun ht => hT _ ht h.oq), set := h.set.chg hc (fun ht => hT _ ht h.om), row := qrow_chg h.row hc (fun i hi ht => hT i ht (h.orow i hi).1) }
set_option maxHeartbeats 400000 in
theorem new_calls (w : World) :
    Calls Try.prog 25 #[] w fun e w' => e = .returned (.pointer (some ⟨w.heap.size + 1, 0, none⟩)) ∧ QAt w' w.heap.size (w.heap.size + 1) w.heap.size (.slice none 0 0) (fun _ => false) [] 0 (fun i => i = w.heap.size ∨ i = w.heap.size + 1) ∧ Below w.heap.size w w' ∧ w'.heap.size = w.heap.size + 2 := by
  have hmm := @run_makeMap Try.prog
  go_enter Try.func25, Try.ntmps25
  go_wp2
  go_ret
  have h1 : Below w.heap.size w (w.alloc (.map #[] 0)) := (Below.refl _ w).alloc (Nat.le_refl _) _
  have h2 : Below w.heap.size w ((w.alloc (.map #[] 0)).alloc (.cells #[.map (some w.heap.size), .slice none 0 0] 77)) := h1.alloc (by simp) _
  refine ⟨rfl, ⟨?_, ?_, fun x => by simp, Kd.Q_nil _ _ _ _ _, .inr rfl, .inl rfl, fun i hi => by simp [Value.ownBlock] at hi, by omega, by omega, by omega, by simp, by simp, by simp⟩, h2, by simp⟩
  · have := heap_alloc_new (w.alloc (.map #[] 0)) (.cells #[.map (some w.heap.size), .slice none 0 0] 77)
    simpa using this
  · exact (ISet.made w).chg ((Chg.refl (fun _ => False) _).alloc _) (fun h => h)
def QIs (W : World) (base gq : Nat) (l : List Int) (n : Nat) (O : Nat → Prop) : Prop := ∃ gm v S, QAt W base gq gm v S l n O
theorem QIs.chg {W W' : World} {base gq n : Nat} {l : List Int} {O T : Nat → Prop} (h : QIs W base gq l n O) (hc : Chg T W W') (hT : ∀ i, T i → ¬ O i) : QIs W' base gq l n O := by
  obtain ⟨gm, v, S, h⟩ := h
  exact ⟨gm, v, S, h.chg hc hT⟩
set_option maxHeartbeats 400000 in
theorem len_calls (base gq n : Nat) (l : List Int) (O : Nat → Prop) (w : World) (h : QIs w base gq l n O) :
    Calls Try.prog 27 #[.pointer (some ⟨gq, 0, none⟩)] w fun e w' => e = .returned (.int .i64 l.length) ∧ Drawn0 w w' := by
  obtain ⟨gm, v, S, h⟩ := h
  obtain ⟨c0, c1, _, _⟩ := cell2 h.blk
  obtain ⟨A, c, rfl, _⟩ := Kd.Q_slice h.row
  clear h
  go_enter Try.func27, Try.ntmps27
  go_wp2
  go_ret
  exact ⟨rfl, Drawn0.refl _⟩
set_option maxHeartbeats 400000 in
theorem push_in (base gq n : Nat) (l : List Int) (O : Nat → Prop) (x : Int) (w : World) (h : QIs w base gq l n O) (hx : x ∈ l) :
    Calls Try.prog 26 #[.pointer (some ⟨gq, 0, none⟩), .int .i64 x] w fun e w' => e = .returned (.bool false) ∧ Drawn0 w w' := by
  obtain ⟨gm, v, S, h⟩ := h
  obtain ⟨c0, c1, _, _⟩ := cell2 h.blk
  have HJ := Aside0.mk (fun q => joins_in gm n S x (w.drewN q) h.set (h.wf x hx) (by rw [h.tells, decide_eq_true hx]))
  clear h hx
  go_enter Try.func26, Try.ntmps26
  go_wp2_with (go_at_call 43; refine (HJ.out 0).mono ?_; rintro e w' ⟨rfl, rfl⟩)
  go_ret
  exact ⟨rfl, Drawn0.refl _⟩
def QPost (w : World) (base gq : Nat) (l : List Int) (n : Nat) (O : Nat → Prop) (r : Value) (e : Ending) (w' : World) : Prop :=
  e = .returned r ∧ Chg O w w' ∧ ∃ O2 : Nat → Prop, (∀ i, O2 i → O i ∨ w.heap.size ≤ i) ∧ QIs w' base gq l n O2
theorem push_after {w w1 w2 : World} {base gq gm n : Nat} {v v2 : Value} {S : Int → Bool} {l : List Int} {O : Nat → Prop} {x : Int} (h : QAt w base gq gm v S l n O) (hx : wfI x) (hnx : x ∉ l) (o : Obj)
    (hS1 : MSet w1 gm (n + 1) (fun y => if y = x then true else S y)) (hc1 : Chg (fun i => i = gm) w w1) (hO2 : QRowI w2 base v2 (l ++ [x])) (hg : w1.grownBy w2 v.ownBlock) (hat : v2.ownBlock = v.ownBlock ∨ ∃ b, v2.ownBlock = some b ∧ w1.heap.size ≤ b) :
    (w2.cell? ⟨gq, 1, none⟩ = some v ∧ w2.frozen? ⟨gq, 1, none⟩ = false) ∧ Chg O w (w2.setCell ⟨gq, 1, none⟩ v2) ∧ ∃ O2 : Nat → Prop, (∀ i, O2 i → O i ∨ w.heap.size ≤ i) ∧ QIs (w2.setCell ⟨gq, 1, none⟩ v2) base gq (l ++ [x]) (n + 1) O2 := by
  have hq1 : w1.heap[gq]? = some (.cells #[.map (some gm), v] 77 (0, 0)) := hc1.blk h.blk h.ne
  have hcg : Chg (fun i => v.ownBlock = some i) w1 w2 := (Chg.of_grown hg)
  have hq2 : w2.heap[gq]? = some (.cells #[.map (some gm), v] 77 (0, 0)) := hcg.blk hq1 (fun e => (h.orow _ e).2.1 rfl)
  have hc2 := cell2 hq2
  have hltq : gq < w.heap.size := (Array.getElem?_eq_some_iff.1 h.blk).1
  have hltm : gm < w.heap.size := h.set.lt
  have hv2 : ∀ i, v2.ownBlock = some i → (O i ∨ w.heap.size ≤ i) ∧ i ≠ gq ∧ i ≠ gm := by
    intro i hi
    rcases hat with e | ⟨b, e, hb⟩
    · rw [e] at hi
      exact ⟨.inl (h.orow i hi).1, (h.orow i hi).2⟩
    · rw [e] at hi
      injection hi with hi
      have := hc1.size
      exact ⟨.inr (by omega), by omega, by omega⟩
  have hcs : Chg (fun i => i = gq) w2 (w2.setCell ⟨gq, 1, none⟩ v2) := (Chg.refl (fun i => i = gq) w2).setCell (p := ⟨gq, 1, none⟩) (.inl rfl) v2
  refine ⟨⟨hc2.2.1, hc2.2.2.1⟩, ?_, fun i => O i ∨ w.heap.size ≤ i, fun i hi => hi, gm, v2, (fun y => if y = x then true else S y), ?_⟩
  · exact ((hc1.mono (fun i _ e => by subst e; exact h.om) : Chg O w w1).trans hcg (fun i hi => .inl (h.orow i hi).1)).trans hcs (fun i e => by subst e; exact .inl h.oq)
  · refine ⟨by simpa using blk_set hq2 1 v2, ((hS1.chg hcg (fun e => (h.orow _ e).2.2 rfl)).chg hcs (fun e => h.ne e.symm)), ?_, qrow_chg hO2 hcs (fun i hi => (hv2 i hi).2.1), .inl h.oq, .inl h.om, hv2, h.bq, h.bm, h.ne, ?_, ?_, ?_⟩
    · intro y
      by_cases e : y = x
      · subst e
        simp
      · simp only [if_neg e]
        rw [h.tells y]
        simp [e]
    · rw [List.nodup_append]
      exact ⟨h.nodup, by simp, fun a ha b hb => by simp at hb; subst hb; rintro rfl; exact hnx ha⟩
    · intro y hy
      rw [List.mem_append] at hy
      rcases hy with hy | hy
      · exact h.wf y hy
      · simp at hy
        subst hy
        exact hx
    · have := h.len
      simp
      omega
set_option maxHeartbeats 1000000 in
theorem push_new (base gq n : Nat) (l : List Int) (O : Nat → Prop) (x : Int) (w : World) (h : QIs w base gq l n O) (hb : base ≤ w.heap.size) (hn : n < 1000000000000) (hx : wfI x) (hnx : x ∉ l) :
    Calls Try.prog 26 #[.pointer (some ⟨gq, 0, none⟩), .int .i64 x] w (QPost w base gq (l ++ [x]) (n + 1) O (.bool true)) := by
  obtain ⟨gm, v, S, h⟩ := h
  obtain ⟨c0, c1, f1, _⟩ := cell2 h.blk
  have HJ := Aside0.mk (joins_new gm n S x w h.set hn hx (by rw [h.tells, decide_eq_false hnx]))
  have H := Aside0.mk h
  have HNX := Aside0.mk hnx
  have HX := Aside0.mk hx
  have hl := h.len
  obtain ⟨A, c, hv, _⟩ := Kd.Q_slice h.row
  subst hv
  clear h hnx hx
  go_enter Try.func26, Try.ntmps26
  go_wp2_with (first
    | (go_at_call 43; refine HJ.out.mono ?_; rintro e w1 ⟨rfl, hS1, hc1⟩; have HS1 := Aside0.mk hS1; have HC1 := Aside0.mk hc1; have d1 := hc1.cell c1 (fun e => H.out.ne e); clear hS1 hc1)
    | ((with_reducible refine gate_builtin (b := .append) rfl ?_); at_builtin; go_loud (refine Kd.Q_append (Kd.int .i64) (w0 := w1) base rfl _ _ 27 3 (.int .i64 0) 8 rfl Try.underlying27 infoI rfl (by decide) (by decide) (.slice A l.length c) l x [.int .i64 x] (fun _ => True) (fun _ => False) rfl rfl rfl (fun _ hk => hk.elim) (fun _ _ => trivial) (qrow_chg H.out.row HC1.out (fun i hi e => (H.out.orow i hi).2.2 e)) (Below.refl _ _) (Nat.le_trans hb HC1.out.size) (by omega) ?_; intro v2 w2 hO2 _ hg hat; obtain ⟨A2, c2, hv2, _⟩ := Kd.Q_slice hO2; subst hv2; have HP := Aside0.mk (push_after H.out HX.out HNX.out (.map #[] 0) HS1.out HC1.out hO2 hg hat); obtain ⟨⟨d2, f2⟩, _⟩ := HP.out; clear hO2 hg hat)))
  go_ret
  have hP := HP.out.2
  simp only [List.length_append, List.length_cons, List.length_nil, Nat.zero_add] at hP
  exact ⟨rfl, hP⟩
theorem pop_after {w w2 : World} {base gq gm n : Nat} {v v1 : Value} {S : Int → Bool} {x : Int} {l : List Int} {O : Nat → Prop} (h : QAt w base gq gm v S (x :: l) n O)
    (hv1 : QRowI w base v1 l) (ho : ∀ i, v1.ownBlock = some i → v.ownBlock = some i) (hS : MSet w2 gm n (fun y => if y = x then false else S y)) (hc : Chg (fun i => i = gm) (w.setCell ⟨gq, 1, none⟩ v1) w2) :
    Chg O w w2 ∧ QIs w2 base gq l n O := by
  have hcs : Chg (fun i => i = gq) w (w.setCell ⟨gq, 1, none⟩ v1) := (Chg.refl (fun i => i = gq) w).setCell (p := ⟨gq, 1, none⟩) (.inl rfl) v1
  have hq1 : (w.setCell ⟨gq, 1, none⟩ v1).heap[gq]? = some (.cells #[.map (some gm), v1] 77 (0, 0)) := by simpa using blk_set h.blk 1 v1
  refine ⟨((hcs.mono (fun i _ e => by subst e; exact h.oq) : Chg O w _)).trans hc (fun i e => by subst e; exact .inl h.om), gm, v1, _, hc.blk hq1 h.ne, hS, ?_, ?_, h.oq, h.om, fun i hi => h.orow i (ho i hi), h.bq, h.bm, h.ne, (List.nodup_cons.1 h.nodup).2, fun y hy => h.wf y (List.mem_cons_of_mem _ hy), ?_⟩
  · intro y
    by_cases e : y = x
    · subst e
      simp [(List.nodup_cons.1 h.nodup).1]
    · simp only [if_neg e]
      rw [h.tells y]
      simp [e]
  · exact qrow_chg (qrow_chg hv1 hcs (fun i hi => (h.orow i (ho i hi)).2.1)) hc (fun i hi => (h.orow i (ho i hi)).2.2)
  · have := h.len
    simp at this
    omega
set_option maxHeartbeats 1000000 in
theorem pop_some (base gq n : Nat) (x : Int) (l : List Int) (O : Nat → Prop) (w : World) (h : QIs w base gq (x :: l) n O) :
    Calls Try.prog 28 #[.pointer (some ⟨gq, 0, none⟩)] w (fun e w' => e = .returned (.tuple #[.int .i64 x, .bool true]) ∧ Chg O w w' ∧ QIs w' base gq l n O) := by
  obtain ⟨gm, v, S, h⟩ := h
  obtain ⟨c0, c1, f1, _⟩ := cell2 h.blk
  obtain ⟨A, c, hv, hlc⟩ := Kd.Q_slice h.row
  subst hv
  obtain ⟨A', c', hv', _, hC⟩ := Kd.Q_reads h.row
  injection hv' with e1 e2 e3
  subst e1 e3
  obtain ⟨ad, rfl, hcx⟩ := at_head' hC
  have hdrop := Kd.Q_drop (k := 1) h.row (by simp)
  have hl1 : (x :: l).drop 1 = l := rfl
  rw [hl1] at hdrop
  have H := Aside0.mk h
  clear hC hlc
  simp only [List.length_cons] at c1
  by_cases hc1 : c = 1
  · subst hc1
    rw [if_pos rfl] at hdrop
    have HD := Aside0.mk (show QRowI w base (.slice (some ad) l.length 0) l from by simpa using hdrop)
    have HS := Aside0.mk (H.out.set.chg ((Chg.refl (fun i => i = gq) w).setCell (p := ⟨gq, 1, none⟩) (.inl rfl) (.slice (some ad) l.length 0)) (fun e => H.out.ne e.symm))
    have HX := Aside0.mk (H.out.wf x (by simp))
    have HOW := Aside0.mk (show ∀ i, (Value.slice (some ad) l.length 0).ownBlock = some i → (Value.slice (some ad) (l.length + 1) 1).ownBlock = some i from fun i h => h)
    clear hdrop
    go_enter Try.func28, Try.ntmps28
    go_wp2_with (((with_reducible refine gate_builtin (b := .delete) rfl ?_); at_delete; go_loud (refine wpList_del_set rfl _ _ 75 rfl Try.underlying3 Try.underlying75 rfl HS.out x rfl HX.out ?_; intro w2 hS2 hc2; have HP := Aside0.mk (pop_after H.out HD.out HOW.out hS2 hc2); clear hS2 hc2)))
    go_ret2
    exact ⟨rfl, HP.out.1, HP.out.2⟩
  · rw [if_neg hc1] at hdrop
    have HD := Aside0.mk (show QRowI w base (.slice (some ⟨ad.block, ad.off + 1, none⟩) l.length (c - 1)) l from by simpa [Addr.add, show (Kd.int .i64).sz = 1 from rfl] using hdrop)
    have HS := Aside0.mk (H.out.set.chg ((Chg.refl (fun i => i = gq) w).setCell (p := ⟨gq, 1, none⟩) (.inl rfl) (.slice (some ⟨ad.block, ad.off + 1, none⟩) l.length (c - 1))) (fun e => H.out.ne e.symm))
    have HX := Aside0.mk (H.out.wf x (by simp))
    have HOW := Aside0.mk (show ∀ i, (Value.slice (some ⟨ad.block, ad.off + 1, none⟩) l.length (c - 1)).ownBlock = some i → (Value.slice (some ad) (l.length + 1) c).ownBlock = some i from fun i h => h)
    clear hdrop
    go_enter Try.func28, Try.ntmps28
    go_wp2_with (((with_reducible refine gate_builtin (b := .delete) rfl ?_); at_delete; go_loud (refine wpList_del_set rfl _ _ 75 rfl Try.underlying3 Try.underlying75 rfl HS.out x rfl HX.out ?_; intro w2 hS2 hc2; have HP := Aside0.mk (pop_after H.out HD.out HOW.out hS2 hc2); clear hS2 hc2)))
    go_ret2
    exact ⟨rfl, HP.out.1, HP.out.2⟩
theorem QIs.tight {W : World} {base gq n : Nat} {l : List Int} {O : Nat → Prop} (h : QIs W base gq l n O) : QIs W base gq l n (fun i => O i ∧ i < W.heap.size) := by
  obtain ⟨gm, v, S, h⟩ := h
  exact ⟨gm, v, S, { h with oq := ⟨h.oq, (Array.getElem?_eq_some_iff.1 h.blk).1⟩, om := ⟨h.om, h.set.lt⟩, orow := fun i hi => ⟨⟨(h.orow i hi).1, Kd.Q_lt h.row i hi⟩, (h.orow i hi).2⟩ }⟩
/-! ### a queue beside what others own -/
/-- A queue of T, made by the call that began in w; its blocks are none of R. -/
structure QB (w W : World) (gq : Nat) (T : List Int) (n : Nat) (R : Nat → Prop) : Prop where
  bel : Below w.heap.size w W
  que : ∃ (base : Nat) (O : Nat → Prop), base ≤ W.heap.size ∧ QIs W base gq T n O ∧ ∀ i, O i → w.heap.size ≤ i ∧ i < W.heap.size ∧ ¬ R i
variable {w W W' : World} {gq n : Nat} {T : List Int} {R R' S : Nat → Prop}
theorem QB.step (h : QB w W gq T n R) (hc : Chg S W W') (hS : ∀ i, S i → (R i ∧ w.heap.size ≤ i) ∨ W.heap.size ≤ i) (hR' : ∀ i, R' i → R i ∨ W.heap.size ≤ i) : QB w W' gq T n R' := by
  obtain ⟨base, O, h1, h2, h3⟩ := h.que
  have hs := h.bel.size
  refine ⟨h.bel.trans (hc.below hs (fun i hi => (hS i hi).elim (fun h => h.2) (fun h => by omega))), base, O, Nat.le_trans h1 hc.size, h2.chg hc (fun i hi ho => ?_), fun i hi => ⟨(h3 i hi).1, Nat.lt_of_lt_of_le (h3 i hi).2.1 hc.size, fun hr => ?_⟩⟩
  · have := h3 i ho
    rcases hS i hi with h | h
    · exact this.2.2 h.1
    · omega
  · have := h3 i hi
    rcases hR' i hr with h | h
    · exact this.2.2 h
    · omega
theorem QB.drawn (h : QB w W gq T n R) (hd : Drawn0 W W') : QB w W' gq T n R := h.step (Chg.of_below hd.below (fun _ => False)) (fun _ h => h.elim) (fun _ h => .inl h)
theorem QB.turned {base n' : Nat} {T' : List Int} {O O2 : Nat → Prop} (h : Below w.heap.size w W) (hb : base ≤ W.heap.size) (h3 : ∀ i, O i → w.heap.size ≤ i ∧ i < W.heap.size ∧ ¬ R i) (hR : ∀ i, R i → i < W.heap.size) (hc : Chg O W W') (hO2 : ∀ i, O2 i → O i ∨ W.heap.size ≤ i) (hq : QIs W' base gq T' n' O2) : QB w W' gq T' n' R ∧ Chg (fun i => w.heap.size ≤ i ∧ ¬ R i) W W' := by
  have hs := h.size
  refine ⟨⟨h.trans (hc.below hs (fun i hi => (h3 i hi).1)), base, _, Nat.le_trans hb hc.size, hq.tight, fun i hi => ⟨?_, hi.2, fun hr => ?_⟩⟩, hc.mono (fun i _ hi => ⟨(h3 i hi).1, (h3 i hi).2.2⟩)⟩
  · rcases hO2 i hi.1 with h | h
    · exact (h3 i h).1
    · omega
  · rcases hO2 i hi.1 with h | h
    · exact (h3 i h).2.2 hr
    · have := hR i hr; omega
theorem QB.push (h : QB w W gq T n R) (hR : ∀ i, R i → i < W.heap.size) (hn : n < 1000000000000) (x : Int) (hx : wfI x) :
    Calls Try.prog 26 #[.pointer (some ⟨gq, 0, none⟩), .int .i64 x] W fun e W' => e = .returned (.bool (!decide (x ∈ T))) ∧ QB w W' gq (if x ∈ T then T else T ++ [x]) (n + 1) R ∧ Chg (fun i => w.heap.size ≤ i ∧ ¬ R i) W W' := by
  obtain ⟨base, O, h1, h2, h3⟩ := h.que
  by_cases hm : x ∈ T
  · refine (push_in base gq n T O x W h2 hm).mono ?_
    rintro e W' ⟨rfl, hd⟩
    refine ⟨by simp [hm], ?_, Chg.of_below hd.below _⟩
    rw [if_pos hm]
    obtain ⟨base', O', g1, ⟨gm, v', S, g2⟩, g3⟩ := (h.drawn hd).que
    exact ⟨(h.drawn hd).bel, base', O', g1, ⟨gm, v', S, { g2 with set := g2.set.mono (Nat.le_succ _), len := Nat.le_succ_of_le g2.len }⟩, g3⟩
  · refine (push_new base gq n T O x W h2 h1 hn hx hm).mono ?_
    rintro e W' ⟨rfl, hc, O2, hO2, hq⟩
    refine ⟨by simp [hm], ?_⟩
    rw [if_neg hm]
    exact QB.turned h.bel h1 h3 hR hc hO2 hq
theorem QB.length (h : QB w W gq T n R) :
    Calls Try.prog 27 #[.pointer (some ⟨gq, 0, none⟩)] W fun e W' => e = .returned (.int .i64 T.length) ∧ Drawn0 W W' := by
  obtain ⟨base, O, h1, h2, h3⟩ := h.que
  exact len_calls base gq n T O W h2
theorem QB.pop {x : Int} (h : QB w W gq (x :: T) n R) (hR : ∀ i, R i → i < W.heap.size) :
    Calls Try.prog 28 #[.pointer (some ⟨gq, 0, none⟩)] W fun e W' => e = .returned (.tuple #[.int .i64 x, .bool true]) ∧ QB w W' gq T n R ∧ Chg (fun i => w.heap.size ≤ i ∧ ¬ R i) W W' := by
  obtain ⟨base, O, h1, h2, h3⟩ := h.que
  refine (pop_some base gq n x T O W h2).mono ?_
  rintro e W' ⟨rfl, hc, hq⟩
  exact ⟨rfl, QB.turned h.bel h1 h3 hR hc (fun i h => .inl h) hq⟩
theorem new_qb (h : Below w.heap.size w W) (hR : ∀ i, R i → i < W.heap.size) :
    Calls Try.prog 25 #[] W fun e W' => ∃ gq, e = .returned (.pointer (some ⟨gq, 0, none⟩)) ∧ QB w W' gq [] 0 R ∧ Below W.heap.size W W' := by
  refine (new_calls W).mono ?_
  rintro e W' ⟨rfl, hq, hb, hs⟩
  have := h.size
  exact ⟨_, rfl, ⟨h.trans (hb.mono h.size), W.heap.size, _, by omega, ⟨_, _, _, hq⟩, fun i hi => by
    refine ⟨?_, ?_, fun hr => ?_⟩
    · rcases hi with rfl | rfl <;> omega
    · rcases hi with rfl | rfl <;> omega
    · have := hR i hr; rcases hi with rfl | rfl <;> omega⟩, hb⟩
end Go.Proofs.Ytondngpmhlemkaa.Ext

/- Which numbers edges lead to, from 0 on. No program in sight. -/
namespace Go.Proofs.Ytondngpmhlemkaa.Reach
open Go.Proofs.Ytondngpmhlemkaa.Sets
set_option linter.unusedVariables false
inductive Leads (es : List (Int × Int)) : Int → Prop
  | zero : Leads es 0
  | step {a b : Int} : Leads es a → (a, b) ∈ es → Leads es b
def grow (es : List (Int × Int)) : Nat → List Int → List Int
  | 0, S => S
  | k + 1, S => match es.find? (fun e => S.contains e.1 && !S.contains e.2) with
    | none => S
    | some e => grow es k (S ++ [e.2])
theorem grow_sub {es : List (Int × Int)} : ∀ (k : Nat) {S : List Int} {x : Int}, x ∈ S → x ∈ grow es k S
  | 0, S, x, h => h
  | k + 1, S, x, h => by
    unfold grow
    split
    · exact h
    · exact grow_sub k (List.mem_append_left _ h)
theorem grow_sound {es : List (Int × Int)} : ∀ (k : Nat) {S : List Int}, (∀ x ∈ S, Leads es x) → ∀ x ∈ grow es k S, Leads es x
  | 0, S, h => h
  | k + 1, S, h => by
    unfold grow
    split
    · exact h
    · rename_i e he
      refine grow_sound k (fun x hx => ?_)
      rcases List.mem_append.1 hx with hx | hx
      · exact h x hx
      · obtain rfl := List.mem_singleton.1 hx
        have h1 := List.find?_some he
        simp only [Bool.and_eq_true, List.contains_iff_mem] at h1
        exact .step (h _ h1.1) (List.mem_of_find?_eq_some he)
theorem filter_lt {α : Type} {p q : α → Bool} (hpq : ∀ x, q x = true → p x = true) {x : α} : ∀ {l : List α}, x ∈ l → p x = true → q x = false → (l.filter q).length < (l.filter p).length
  | y :: l, hx, hp, hq => by
    have hle : ∀ l : List α, (l.filter q).length ≤ (l.filter p).length := by
      intro l
      induction l with
      | nil => simp
      | cons z l ih =>
        rw [List.filter_cons, List.filter_cons]
        by_cases h : q z = true
        · rw [if_pos h, if_pos (hpq z h)]; simpa using ih
        · rw [if_neg h]; split
          · rw [List.length_cons]; omega
          · exact ih
    rw [List.filter_cons, List.filter_cons]
    rcases List.mem_cons.1 hx with rfl | hx
    · rw [if_neg (by simp [hq]), if_pos hp]
      have := hle l
      rw [List.length_cons]; omega
    · have ih := filter_lt hpq hx hp hq
      by_cases h : q y = true
      · rw [if_pos h, if_pos (hpq y h)]; simpa using ih
      · rw [if_neg h]; split
        · rw [List.length_cons]; omega
        · exact ih
theorem grow_closed {es : List (Int × Int)} : ∀ (k : Nat) {S : List Int}, (es.filter (fun e => !S.contains e.2)).length ≤ k → ∀ e ∈ es, e.1 ∈ grow es k S → e.2 ∈ grow es k S
  | 0, S, h, e, he, h1 => by
    unfold grow
    have h0 : es.filter (fun e => !S.contains e.2) = [] := List.eq_nil_of_length_eq_zero (by omega)
    rw [List.filter_eq_nil_iff] at h0
    have h1 := h0 e he
    rwa [Bool.not_eq_true', Bool.not_eq_false, List.contains_iff_mem] at h1
  | k + 1, S, h, e, he, h1 => by
    unfold grow at h1 ⊢
    split at h1 <;> rename_i hf
    · rw [List.find?_eq_none] at hf
      have := hf e he
      simp only [Bool.and_eq_true, List.contains_iff_mem, Bool.not_eq_true', not_and, Bool.not_eq_false] at this
      exact this h1
    · rename_i e'
      refine grow_closed k ?_ e he h1
      have hs := List.find?_some hf
      have hm := List.mem_of_find?_eq_some hf
      simp only [Bool.and_eq_true] at hs
      have hlt := filter_lt (p := fun e : Int × Int => !S.contains e.2) (q := fun e : Int × Int => !(S ++ [e'.2]).contains e.2) (fun x hx => by
        simp only [Bool.not_eq_true', Bool.eq_false_iff] at hx ⊢
        intro hc
        exact hx (List.contains_iff_mem.2 (List.mem_append_left _ (List.contains_iff_mem.1 hc)))) hm hs.2 (by simp)
      omega
def reachL (es : List (Int × Int)) : List Int := sset (grow es es.length [0])
theorem mem_reachL (es : List (Int × Int)) (x : Int) : x ∈ reachL es ↔ Leads es x := by
  unfold reachL
  rw [(sset_facts _).2]
  constructor
  · exact fun h => grow_sound _ (fun y hy => by obtain rfl := List.mem_singleton.1 hy; exact .zero) x h
  · intro h
    induction h with
    | zero => exact grow_sub _ (by simp)
    | step _ he ih => exact grow_closed _ (List.length_filter_le _ _) _ he ih
theorem reachL_rising (es : List (Int × Int)) : (reachL es).Pairwise (· < ·) := (sset_facts _).1
theorem sset_reach {es : List (Int × Int)} {S : List Int} (h : ∀ x, x ∈ S ↔ Leads es x) : sset S = reachL es :=
  rising_eq (sset_facts S).1 (reachL_rising es) (fun x => by rw [(sset_facts S).2, mem_reachL, h])
/-! ### going by a queue -/
def pushL (q : List Int) (x : Int) : List Int := if x ∈ q then q else q ++ [x]
theorem mem_pushL (q : List Int) (x y : Int) : y ∈ pushL q x ↔ y ∈ q ∨ y = x := by
  unfold pushL
  split
  · rename_i h
    constructor
    · exact .inl
    · rintro (h' | rfl) <;> assumption
  · simp
theorem nodup_pushL {q : List Int} (x : Int) (h : q.Nodup) : (pushL q x).Nodup := by
  unfold pushL
  split
  · exact h
  · rename_i hx
    rw [List.nodup_append]
    exact ⟨h, by simp, fun a ha b hb => by simp at hb; subst hb; rintro rfl; exact hx ha⟩
def pushes (n : Int) (q : List Int) (es : List (Int × Int)) : List Int := es.foldl (fun q e => if e.1 = n then pushL q e.2 else q) q
theorem pushes_snoc (n : Int) (q : List Int) (es : List (Int × Int)) (e : Int × Int) : pushes n q (es ++ [e]) = if e.1 = n then pushL (pushes n q es) e.2 else pushes n q es := by
  unfold pushes
  rw [List.foldl_append]
  rfl
theorem mem_pushes (n : Int) (es : List (Int × Int)) : ∀ (q : List Int) (y : Int), y ∈ pushes n q es ↔ y ∈ q ∨ (n, y) ∈ es := by
  induction es with
  | nil => intro q y; simp [pushes]
  | cons e es ih =>
    intro q y
    have h1 : pushes n q (e :: es) = pushes n (if e.1 = n then pushL q e.2 else q) es := rfl
    rw [h1, ih]
    obtain ⟨a, b⟩ := e
    simp only [List.mem_cons, Prod.mk.injEq]
    by_cases h : a = n
    · subst h
      simp only [if_pos, mem_pushL, true_and]
      constructor
      · rintro ((h | h) | h) <;> simp [h]
      · rintro (h | h | h) <;> simp [h]
    · rw [if_neg h]
      constructor
      · rintro (h' | h') <;> simp [h']
      · rintro (h' | ⟨h', _⟩ | h')
        · exact .inl h'
        · exact absurd h'.symm h
        · exact .inr h'
theorem nodup_pushes (n : Int) (es : List (Int × Int)) : ∀ (q : List Int), q.Nodup → (pushes n q es).Nodup := by
  induction es with
  | nil => intro q h; exact h
  | cons e es ih =>
    intro q h
    have h1 : pushes n q (e :: es) = pushes n (if e.1 = n then pushL q e.2 else q) es := rfl
    rw [h1]
    refine ih _ ?_
    split
    · exact nodup_pushL _ h
    · exact h
theorem nodup_le {α : Type} [DecidableEq α] : ∀ {a b : List α}, a.Nodup → (∀ x ∈ a, x ∈ b) → a.length ≤ b.length
  | [], b, _, _ => by simp
  | x :: a, b, hn, hs => by
    have hn' := List.nodup_cons.1 hn
    have hx : x ∈ b := hs x (by simp)
    have h1 := nodup_le (a := a) (b := b.erase x) hn'.2 (fun y hy => (List.mem_erase_of_ne (by rintro rfl; exact hn'.1 hy)).2 (hs y (by simp [hy])))
    have h2 := List.length_erase_of_mem hx
    have h3 : 0 < b.length := List.length_pos_of_mem hx
    simp; omega
structure BInv (es : List (Int × Int)) (met q : List Int) : Prop where
  sound : ∀ x, x ∈ met ∨ x ∈ q → Leads es x
  zero : 0 ∈ met ∨ 0 ∈ q
  closed : ∀ n ∈ met, ∀ b, (n, b) ∈ es → b ∈ met ∨ b ∈ q
  nm : met.Nodup
  nq : q.Nodup
  um : ∀ x ∈ met, x ∈ 0 :: es.map (·.2)
  uq : ∀ x ∈ q, x ∈ 0 :: es.map (·.2)
def left (es : List (Int × Int)) (met q : List Int) : Nat := (es.length + 1 - met.length) * (es.length + 2) + q.length
theorem BInv.start (es : List (Int × Int)) : BInv es [] [0] :=
  ⟨fun x h => by rcases h with h | h <;> simp at h; subst h; exact .zero, .inr (by simp), fun n h => by simp at h, by simp, by simp, by simp, by simp⟩
theorem BInv.lens {es : List (Int × Int)} {met q : List Int} (h : BInv es met q) : met.length ≤ es.length + 1 ∧ q.length ≤ es.length + 1 := by
  have h1 := nodup_le h.nm h.um
  have h2 := nodup_le h.nq h.uq
  simp at h1 h2
  exact ⟨h1, h2⟩
theorem BInv.skip {es : List (Int × Int)} {met q : List Int} {n : Int} (h : BInv es met (n :: q)) (hn : n ∈ met) : BInv es met q ∧ left es met q < left es met (n :: q) := by
  refine ⟨⟨fun x hx => h.sound x (hx.imp_right (List.mem_cons_of_mem _)), ?_, fun m hm b hb => ?_, h.nm, (List.nodup_cons.1 h.nq).2, h.um, fun x hx => h.uq x (List.mem_cons_of_mem _ hx)⟩, by simp [left]⟩
  · rcases h.zero with h0 | h0
    · exact .inl h0
    · rcases List.mem_cons.1 h0 with rfl | h0
      · exact .inl hn
      · exact .inr h0
  · rcases h.closed m hm b hb with h0 | h0
    · exact .inl h0
    · rcases List.mem_cons.1 h0 with rfl | h0
      · exact .inl hn
      · exact .inr h0
theorem BInv.take {es : List (Int × Int)} {met q : List Int} {n : Int} (h : BInv es met (n :: q)) (hn : n ∉ met) : BInv es (met ++ [n]) (pushes n q es) ∧ left es (met ++ [n]) (pushes n q es) < left es met (n :: q) := by
  have hb : BInv es (met ++ [n]) (pushes n q es) := by
    have hr : Leads es n := h.sound n (.inr (by simp))
    refine ⟨fun x hx => ?_, ?_, fun m hm b hb => ?_, ?_, nodup_pushes _ _ _ (List.nodup_cons.1 h.nq).2, fun x hx => ?_, fun x hx => ?_⟩
    · rcases hx with hx | hx
      · rcases List.mem_append.1 hx with hx | hx
        · exact h.sound x (.inl hx)
        · obtain rfl := List.mem_singleton.1 hx; exact hr
      · rcases (mem_pushes n es q x).1 hx with hx | hx
        · exact h.sound x (.inr (List.mem_cons_of_mem _ hx))
        · exact .step hr hx
    · rcases h.zero with h0 | h0
      · exact .inl (List.mem_append_left _ h0)
      · rcases List.mem_cons.1 h0 with rfl | h0
        · exact .inl (by simp)
        · exact .inr ((mem_pushes n es q 0).2 (.inl h0))
    · rcases List.mem_append.1 hm with hm | hm
      · rcases h.closed m hm b hb with h0 | h0
        · exact .inl (List.mem_append_left _ h0)
        · rcases List.mem_cons.1 h0 with rfl | h0
          · exact .inl (by simp)
          · exact .inr ((mem_pushes n es q b).2 (.inl h0))
      · obtain rfl := List.mem_singleton.1 hm
        exact .inr ((mem_pushes m es q b).2 (.inr hb))
    · rw [List.nodup_append]
      exact ⟨h.nm, by simp, fun a ha b hb => by simp at hb; subst hb; rintro rfl; exact hn ha⟩
    · rcases List.mem_append.1 hx with hx | hx
      · exact h.um x hx
      · obtain rfl := List.mem_singleton.1 hx; exact h.uq x (by simp)
    · rcases (mem_pushes n es q x).1 hx with hx | hx
      · exact h.uq x (List.mem_cons_of_mem _ hx)
      · exact List.mem_cons_of_mem _ (List.mem_map.2 ⟨_, hx, rfl⟩)
  refine ⟨hb, ?_⟩
  have h1 := hb.lens
  rw [List.length_append, List.length_singleton] at h1
  unfold left
  rw [List.length_append, List.length_singleton, List.length_cons]
  have h2 : es.length + 1 - met.length = (es.length + 1 - (met.length + 1)) + 1 := by omega
  rw [h2, Nat.add_one_mul]
  omega
theorem BInv.done {es : List (Int × Int)} {met : List Int} (h : BInv es met []) (x : Int) : x ∈ met ↔ Leads es x := by
  constructor
  · exact fun hx => h.sound x (.inl hx)
  · intro hr
    induction hr with
    | zero => simpa using h.zero
    | step _ he ih => simpa using h.closed _ ih _ he
end Go.Proofs.Ytondngpmhlemkaa.Reach

/- graph.Reached: a queue, a set of what has been met, a row of it. No condition. -/
namespace Go.Proofs.Ytondngpmhlemkaa.Ext
open Go.RowKit Go.Proofs.YtondngpmhlemkaaW.PrintWords Go.Proofs.YtondngpmhlemkaaW.PrintLast Go.Proofs.YtondngpmhlemkaaW.PrintMore Go.Proofs.Ytondngpmhlemkaa.Sets Go.Proofs.Ytondngpmhlemkaa.Iter Go.Proofs.Ytondngpmhlemkaa.ISet Go.Proofs.Ytondngpmhlemkaa.Pr Go.Proofs.Ytondngpmhlemkaa.Reach
set_option linter.unusedVariables false
set_option linter.unusedSimpArgs false
theorem ISet.same {P : Program} {K E : TypeId} {W : World} {b n : Nat} {S S' : Int → Bool} (h : ISet P K E W b n S) (hS : ∀ x, S x = S' x) : ISet P K E W b n S' := by
  have : S = S' := funext hS
  rwa [← this]
structure RchI (w : World) (gq gm : Nat) (mp met q : List Int) (n : Nat) (v : Value) (W : World) : Prop where
  qb : QB w W gq q n (fun i => i = gm ∨ v.ownBlock = some i)
  set : MSet W gm mp.length (fun x => decide (x ∈ mp))
  row : OwnI W w.heap.size v met
  ne : v.ownBlock ≠ some gm
  bm : w.heap.size ≤ gm
section
variable {w W W' : World} {gq gm n : Nat} {mp met q : List Int} {v : Value}
theorem RchI.lts (h : RchI w gq gm mp met q n v W) : ∀ i, (i = gm ∨ v.ownBlock = some i) → i < W.heap.size := by
  intro i hi
  rcases hi with rfl | hi
  · exact h.set.lt
  · exact own_lt (Kd.own_of_R h.row) i hi
theorem RchI.quiet (h : RchI w gq gm mp met q n v W) (hc : Chg (fun _ => False) W W') : RchI w gq gm mp met q n v W' :=
  ⟨h.qb.step hc (fun _ h => h.elim) (fun _ h => .inl h), h.set.chg hc (fun h => h), own_chg h.row hc (fun _ _ h => h), h.ne, h.bm⟩
theorem RchI.turned {q' : List Int} {n' : Nat} (h : RchI w gq gm mp met q n v W) (hq : QB w W' gq q' n' (fun i => i = gm ∨ v.ownBlock = some i)) (hc : Chg (fun i => w.heap.size ≤ i ∧ ¬ (i = gm ∨ v.ownBlock = some i)) W W') : RchI w gq gm mp met q' n' v W' :=
  ⟨hq, h.set.chg hc (fun h => h.2 (.inl rfl)), own_chg h.row hc (fun i hi h => h.2 (.inr hi)), h.ne, h.bm⟩
theorem RchI.push (h : RchI w gq gm mp met q n v W) (hn : n < 1000000000000) (x : Int) (hx : wfI x) :
    Calls Try.prog 26 #[.pointer (some ⟨gq, 0, none⟩), .int .i64 x] W fun e W' => (∃ b, e = .returned (.bool b)) ∧ RchI w gq gm mp met (pushL q x) (n + 1) v W' := by
  refine (h.qb.push h.lts hn x hx).mono ?_
  rintro e W' ⟨rfl, hq, hc⟩
  exact ⟨⟨_, rfl⟩, h.turned hq hc⟩
theorem RchI.pop {x : Int} (h : RchI w gq gm mp met (x :: q) n v W) :
    Calls Try.prog 28 #[.pointer (some ⟨gq, 0, none⟩)] W fun e W' => e = .returned (.tuple #[.int .i64 x, .bool true]) ∧ RchI w gq gm mp met q n v W' := by
  refine (h.qb.pop h.lts).mono ?_
  rintro e W' ⟨rfl, hq, hc⟩
  exact ⟨rfl, h.turned hq hc⟩
theorem RchI.length (h : RchI w gq gm mp met q n v W) :
    Calls Try.prog 27 #[.pointer (some ⟨gq, 0, none⟩)] W fun e W' => e = .returned (.int .i64 q.length) ∧ RchI w gq gm mp met q n v W' := by
  refine h.qb.length.mono ?_
  rintro e W' ⟨rfl, hd⟩
  exact ⟨rfl, h.quiet (Chg.of_below hd.below _)⟩
theorem RchI.look (h : RchI w gq gm mp met q n v W) (x : Int) (hx : wfI x) : (Instr.lookup 50 (.map (some gm)) (.int .i64 x) false).run Try.prog W = .ok (.bool (decide (x ∈ mp))) W :=
  h.set.look Try.underlying3 Try.underlying4 Try.underlying50 (Try.zeroValue4 W) x hx
theorem RchI.put (h : RchI w gq gm mp met q n v W) (x : Int) (hx : wfI x) (hl : mp.length < 1000000000000) :
    ∃ W', (Instr.mapUpdate 50 (.map (some gm)) (.int .i64 x) (.bool true)).run Try.prog W = .ok () W' ∧ RchI w gq gm (mp ++ [x]) met q n v W' := by
  obtain ⟨W', hrun, h1, hc⟩ := h.set.put (t := 50) Try.underlying3 Try.underlying4 Try.underlying50 (by simp only [maxLen]; omega) x hx true
  refine ⟨W', hrun, h.qb.step hc (fun i e => .inl ⟨.inl e, by rw [e]; exact h.bm⟩) (fun _ h => .inl h), ?_, own_chg h.row hc (fun i hi e => h.ne (by rw [hi, e])), h.ne, h.bm⟩
  rw [List.length_append]
  refine ISet.same h1 (fun y => ?_)
  by_cases e : y = x
  · subst e; simp
  · rw [if_neg e]; simp [e]
theorem RchI.longer {met' : List Int} {v' : Value} (h : RchI w gq gm mp met q n v W) (hg : W.grownBy W' v.ownBlock) (hO : OwnI W' w.heap.size v' met') (hat : v'.ownBlock = v.ownBlock ∨ ∃ b, v'.ownBlock = some b ∧ W.heap.size ≤ b) : RchI w gq gm mp met' q n v' W' := by
  have hc : Chg (fun i => v.ownBlock = some i) W W' := Chg.of_grown hg
  have hgm := h.set.lt
  refine ⟨h.qb.step hc (fun i e => .inl ⟨.inr e, own_base_lt h.row i e⟩) (fun i hi => ?_), h.set.chg hc h.ne, hO, fun e => ?_, h.bm⟩
  · rcases hi with hi | hi
    · exact .inl (.inl hi)
    · rcases hat with e | ⟨b, e, hb⟩
      · exact .inl (.inr (e ▸ hi))
      · rw [e] at hi; injection hi with hi; exact .inr (by omega)
  · rcases hat with e' | ⟨b, e', hb⟩
    · exact h.ne (e' ▸ e)
    · rw [e'] at e; injection e with e; omega
end
def edgesL (l : List S24) : List (Int × Int) := l.map (fun e => (e.f0, e.f2))
theorem edges_take (l : List S24) (k : Nat) (hk : k < l.length) : (edgesL l).take (k + 1) = (edgesL l).take k ++ [((rd_T24 l (k : Int)).f0, (rd_T24 l (k : Int)).f2)] := by
  unfold edgesL
  rw [← List.map_take, ← List.map_take, List.take_add_one, rdE_at l k hk]
  simp
def RchPost (w : World) (es : List (Int × Int)) (e : Ending) (w' : World) : Prop := ∃ v : Value, e = .returned v ∧ Kd.V (Kd.int .i64) 3 w' w.heap.size (fun k => w.heap.size ≤ k) v (reachL es) ∧ Below w.heap.size w w'
theorem rch_values {w W : World} {gq gm n : Nat} {mp met : List Int} {v : Value} (h : RchI w gq gm mp met [] n v W) (hl : met.length ≤ 17592186044416) :
    Calls Try.prog 29 #[.func (.func 46) #[] #[.pointer (some ⟨W.heap.size, 0, none⟩)]] (W.alloc (.cells #[v] 27)) fun e W' => ∃ v', e = .returned v' ∧ Kd.V (Kd.int .i64) 3 W' W.heap.size (fun k => W.heap.size ≤ k) v' (sset met) ∧ Below W.heap.size W W' := by
  obtain ⟨A, c, rfl, hlc, hc⟩ := own_slice3 h.row
  obtain ⟨A', c', hv, _, hC⟩ := Kd.R_reads h.row
  injection hv with e1 e2 e3
  subst e1 e3
  have hb : Below W.heap.size W (W.alloc (.cells #[.slice A met.length c] 27)) := (Below.refl _ W).alloc (Nat.le_refl _) _
  have hst : Caps W [(W.heap.size, .slice A met.length c)] (W.alloc (.cells #[.slice A met.length c] 27)) :=
    ⟨hb, fun c hc => by simp at hc; subst hc; exact (cell_of_blk (heap_alloc_new W _)).1⟩
  refine (set_calls (enters_of Try.func46 (by kernel_rfl) rfl) (values1_iter W _ W.heap.size A c met hC (Nat.le_refl _) hst) (Below.refl _ _) (by simp) (fun i hi => by subst hi; simp) hl).mono ?_
  rintro e W' ⟨v', rfl, hV, hB⟩
  exact ⟨v', rfl, Kd.V_mono hV (fun k hk => by simp at hk; omega), hb.trans hB⟩
set_option maxHeartbeats 4000000 in
theorem reached_calls (A : Option Addr) (c : Nat) (l : List S24) (w : World) (hr : Kd.C k24 w A l.length l) (hc : l.length ≤ c) (hl : l.length ≤ 10000) (hwf : ∀ e ∈ l, wfI e.f2) :
    Calls Try.prog 9 #[.slice A l.length c] w (RchPost w (edgesL l)) := by
  have HR := Aside0.mk hr
  have hmm := @run_makeMap Try.prog
  have hel : (edgesL l).length = l.length := by simp [edgesL]
  have HEL := Aside0.mk hel
  have hwe : ∀ x ∈ 0 :: (edgesL l).map (·.2), wfI x := by
    intro x hx
    rcases List.mem_cons.1 hx with rfl | hx
    · decide
    · simp only [edgesL, List.map_map, List.mem_map] at hx
      obtain ⟨e, he, rfl⟩ := hx
      exact hwf e he
  have HWE := Aside0.mk hwe
  clear hr hc hel hwe
  go_enter Try.func9, Try.ntmps9
  go_wp2_with fail
  have hb0 : Below w.heap.size w (w.alloc (.map #[] 0)) := (Below.refl _ w).alloc (Nat.le_refl _) _
  refine (new_qb (R := fun i => i = w.heap.size ∨ (Value.slice none 0 0).ownBlock = some i) hb0 (fun i hi => by rcases hi with rfl | hi; simp; simp [Value.ownBlock] at hi)).mono ?_
  rintro e W1 ⟨gq, rfl, hq, hb⟩
  have HI := Aside0.mk (show RchI w gq w.heap.size [] [] [] 0 (.slice none 0 0) W1 from ⟨hq, (ISet.same (ISet.made w) (fun x => by simp)).chg (Chg.of_below hb (fun _ => False)) (fun h => h), Kd.R_nil _ _ _ _ _, by simp [Value.ownBlock], Nat.le_refl _⟩)
  clear hq hb hb0
  go_wp2_with fail
  refine (HI.out.push (by omega) 0 (by decide)).mono ?_
  rintro e W2 ⟨⟨b, rfl⟩, hi⟩
  have HI2 := Aside0.mk hi
  clear hi HI
  go_wp2
  go_loopg [5] (left (edgesL l) [] [0]) (fun kq v5 W => ∃ (met q : List Int) (n : Nat), kq = left (edgesL l) met q ∧ BInv (edgesL l) met q ∧ n ≤ met.length * l.length + 1 ∧ RchI w gq w.heap.size met met q n v5 W)
  case atStart => exact ⟨[], [0], 1, rfl, BInv.start _, by simp, HI2.out⟩
  case round =>
    clear HI2
    obtain ⟨met, q, n, rfl, hbi, hn, hi⟩ := hrel
    have HI := Aside0.mk hi
    have HBI := Aside0.mk hbi
    have hlens := hbi.lens
    rw [HEL.out] at hlens
    obtain ⟨A5, c5, rfl, hlc5, hc5⟩ := own_slice3 hi.row
    have hmn : met.length * l.length ≤ 10001 * 10000 := Nat.mul_le_mul (by omega) hl
    clear hi hbi
    cases q with
    | nil =>
      have HX := Aside0.mk (sset_reach HBI.out.done)
      go_wp2_with (go_at_call 27; refine HI.out.length.mono ?_; rintro e W3 ⟨rfl, hi⟩; have HI3 := Aside0.mk hi; clear hi)
      clear HI
      refine (values_calls _ _ rfl).mono ?_
      rintro e W4 ⟨rfl, rfl⟩
      go_wp2_with fail
      refine (rch_values HI3.out (by omega)).mono ?_
      rintro e W5 ⟨v', rfl, hV, hB⟩
      have HV := Aside0.mk hV
      have HB := Aside0.mk (HI3.out.qb.bel.trans (hB.mono HI3.out.qb.bel.size))
      have HS := Aside0.mk HI3.out.qb.bel.size
      clear hV hB
      go_wp2_with fail
      go_ret
      exact ⟨_, rfl, by rw [← HX.out]; exact Kd.V_mono HV.out (fun k hk => Nat.le_trans HS.out hk), HB.out⟩
    | cons x q =>
      have hx : wfI x := HWE.out x (HBI.out.uq x (by simp))
      by_cases hm : x ∈ met
      · have HSK := Aside0.mk (HBI.out.skip hm)
        have HM := Aside0.mk (decide_eq_true hm)
        go_wp2_with (first
          | (go_at_call 27; refine HI.out.length.mono ?_; rintro e W3 ⟨rfl, hi⟩; have HI3 := Aside0.mk hi; clear hi)
          | (go_at_call 28; refine HI3.out.pop.mono ?_; rintro e W4 ⟨rfl, hi⟩; have HI4 := Aside0.mk hi; have hlook := hi.look x hx; rw [HM.out] at hlook; clear hi))
        go_roundg (left (edgesL l) met q)
        case measure => exact HSK.out.2
        case rel => exact ⟨met, q, n, rfl, HSK.out.1, hn, HI4.out⟩
      · have HTK := Aside0.mk (HBI.out.take hm)
        have HM := Aside0.mk (decide_eq_false hm)
        go_wp2_with (first
          | (go_at_call 27; refine HI.out.length.mono ?_; rintro e W3 ⟨rfl, hi⟩; have HI3 := Aside0.mk hi; clear hi)
          | (go_at_call 28; refine HI3.out.pop.mono ?_; rintro e W4 ⟨rfl, hi⟩; have HI4 := Aside0.mk hi; have hlook := hi.look x hx; rw [HM.out] at hlook; obtain ⟨W4', hput, hi4⟩ := hi.put x hx (by omega); have HI5 := Aside0.mk hi4; clear hi hi4)
          | ((with_reducible refine gate_builtin (b := .append) rfl ?_); at_builtin; go_loud (refine Kd.R_append (Kd.int .i64) (w0 := W4') w.heap.size rfl _ _ 27 3 (.int .i64 0) 8 rfl Try.underlying27 infoI rfl (by decide) (by decide) (.slice A5 met.length c5) met x [.int .i64 x] (fun _ => True) (fun _ => False) rfl rfl rfl (fun _ hk => hk.elim) (fun _ _ => trivial) HI5.out.row (Below.refl _ _) HI5.out.qb.bel.size (by omega) ?_; rintro v6 W6 hO6 _ hg6 hat6; have HI6 := Aside0.mk (HI5.out.longer hg6 hO6 hat6); clear hO6 hg6 hat6)))
        clear HI HI3 HI4 HI5
        obtain ⟨Wo, hWo⟩ : ∃ Wo : World, Wo = W6 := ⟨_, rfl⟩
        go_loopg [9, 33] l.length (fun jq _ i W => ∃ (j n' : Nat), i = .int .i64 j ∧ j + jq = l.length ∧ n' ≤ met.length * l.length + 1 + j ∧ RchI w gq w.heap.size (met ++ [x]) (met ++ [x]) (pushes x q ((edgesL l).take j)) n' v6 W)
        case atStart => exact ⟨0, n, rfl, by omega, by omega, HI6.out⟩
        case round =>
          clear HI6
          obtain ⟨j, n', rfl, hj, hn', hi⟩ := hrel
          have HI := Aside0.mk hi
          have hbel := hi.qb.bel
          clear hi
          by_cases hlt : j < l.length
          · obtain ⟨ad, rfl, hc0, hc1, hc2⟩ := at_T24 (Kd.C_below HR.out hbel) (j : Int) (by omega) (by omega)
            rw [Int.toNat_natCast] at hc0 hc1 hc2
            have HE := Aside0.mk (edges_take l j hlt)
            have HWF := Aside0.mk (hwf _ (List.mem_of_getElem? (rdE_at l j hlt)))
            clear hbel
            generalize rd_T24 l (j : Int) = y at *
            have HIA := Aside0.mk (HI.out.quiet ((Chg.refl (fun _ => False) wr).alloc (.cells #[.int .i64 y.f0, .int .i64 y.f1, .int .i64 y.f2] 24)))
            by_cases he : y.f0 = x
            · have HF := Aside0.mk (show pushes x q ((edgesL l).take (j + 1)) = pushL (pushes x q ((edgesL l).take j)) y.f2 by rw [HE.out, pushes_snoc, if_pos he])
              subst he
              go_wp2_with (go_at_call 26; refine (HIA.out.push (by omega) y.f2 HWF.out).mono ?_; rintro e W7 ⟨⟨b7, rfl⟩, hi⟩; have HI7 := Aside0.mk hi; clear hi)
              go_roundg (gk - 1)
              case measure => omega
              case rel => exact ⟨j + 1, n' + 1, by go_num, by omega, by omega, by rw [HF.out]; exact HI7.out⟩
            · have HF := Aside0.mk (show pushes x q ((edgesL l).take (j + 1)) = pushes x q ((edgesL l).take j) by rw [HE.out, pushes_snoc, if_neg he])
              have hne : (y.f0 == x) = false := by simpa using he
              go_wp2
              go_roundg (gk - 1)
              case measure => omega
              case rel => exact ⟨j + 1, n', by go_num, by omega, by omega, by rw [HF.out]; exact HIA.out⟩
          · obtain rfl : j = l.length := by omega
            have HF := Aside0.mk (show (edgesL l).take l.length = edgesL l by rw [← HEL.out, List.take_length])
            rw [HF.out] at HI
            obtain ⟨A8, c8, rfl, _, _⟩ := own_slice3 HI.out.row
            have HN := Aside0.mk (show n' ≤ (met ++ [x]).length * l.length + 1 by rw [List.length_append, List.length_singleton, Nat.add_mul]; omega)
            go_wp2
            go_roundg (left (edgesL l) (met ++ [x]) (pushes x q (edgesL l)))
            case measure => exact HTK.out.2
            case rel => exact ⟨met ++ [x], pushes x q (edgesL l), n', rfl, HTK.out.1, HN.out, HI.out⟩
end Go.Proofs.Ytondngpmhlemkaa.Ext
namespace Go.Proofs.Ytondngpmhlemkaa.Gr
open Go.RowKit Go.Proofs.YtondngpmhlemkaaW.PrintWords Go.Proofs.YtondngpmhlemkaaW.PrintLast Go.Proofs.YtondngpmhlemkaaW.PrintMore Go.Proofs.Ytondngpmhlemkaa.Sets Go.Proofs.Ytondngpmhlemkaa.Iter Go.Proofs.Ytondngpmhlemkaa.ISet Go.Proofs.Ytondngpmhlemkaa.Pr Go.Proofs.Ytondngpmhlemkaa.Ext Go.Proofs.Ytondngpmhlemkaa.Reach
set_option linter.unusedVariables false
def graph_Reached.f (l : List S24) : Option (List Int) := if l.length ≤ 10000 ∧ l.all (fun e => (Lit.int .i64 e.f2).wf) = true then some (reachL (edgesL l)) else none
theorem graph_Reached.calls (A0 : Option Addr) (c0 : Nat) (l0 : List S24) (r : List Int) (w : World) (hr0 : Kd.C k24 w A0 l0.length l0) (hc0 : l0.length ≤ c0) (h : graph_Reached.f l0 = some r) :
    Calls Try.prog 9 #[.slice A0 l0.length c0] w fun e w' => ∃ v0_ : Value, e = .returned v0_ ∧ Kd.V (Kd.int .i64) 3 w' w.heap.size (fun k_ => w.heap.size ≤ k_) v0_ r ∧ Below w.heap.size w w' := by
  unfold graph_Reached.f at h
  by_cases hl : l0.length ≤ 10000 ∧ l0.all (fun e => (Lit.int .i64 e.f2).wf) = true
  case neg => rw [if_neg hl] at h; cases h
  rw [if_pos hl] at h
  obtain rfl := Option.some.inj h
  exact reached_calls A0 c0 l0 w hr0 hc0 hl.1 (fun e he => List.all_eq_true.1 hl.2 e he)
end Go.Proofs.Ytondngpmhlemkaa.Gr

