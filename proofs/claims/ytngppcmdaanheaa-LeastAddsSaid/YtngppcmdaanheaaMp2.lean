/- Lemmas for the claims of this seat (own texts, packed; what the claims do not use is left out). No condition. -/
import Derived.Scope
import Derived.ControlIn
import Derived.Test.YtngppcmdaanheaaMp0
import Derived.Test.YtngppcmdaanheaaMp1
namespace Go.Proofs.Ytngppcmdaanheaa.Ls
open Go.RowKit Go.Maps Go.Proofs.Ytngppcmdaanheaa.Iter Go.Proofs.Ytngppcmdaanheaa.ISet Go.Proofs.Ytngppcmdaanheaa.Pr Go.Proofs.Ytngppcmdaanheaa.Ext Go.Proofs.YtngppcmdaanheaaW.PrintWords Go.Proofs.YtngppcmdaanheaaW.PrintLast Go.Proofs.YtngppcmdaanheaaW.PrintMore
set_option linter.unusedVariables false
set_option linter.unusedSimpArgs false
attribute [local go_sem] Oper.semAt_some
def toT0 : Bool × List (List Nat × List Nat) := (true, [([], []), ([0], [0]), ([1], [1]), ([2], [2]), ([], []), ([], []), ([4, 5], [4, 5]), ([3, 6], [3, 6]), ([7], [7]), ([8], [8]), ([8], [8]), ([9, 7, 0, 1, 2, 3, 4, 5, 6, 7, 8, 9], [9]), ([10, 11, 0, 1, 2, 3, 4, 5, 6, 7, 8, 9, 10, 11], [10])])
def toB0 : List Nat := [0, 1, 3, 7, 0, 0, 48, 127, 255, 511, 511, 1023, 4095]
theorem totab0 : rtab .any (opsOf Try.f70 0) = toT0 := by kernel_rfl
theorem tobits0 : waitsOk toT0.2 toB0 = true := by kernel_rfl
def toT1 : Bool × List (List Nat × List Nat) := (true, [([], []), ([], []), ([1], [1]), ([2], [2]), ([3], [3]), ([4], [4]), ([0, 5], [0, 5]), ([6], [6]), ([7], [7]), ([8, 7], [7, 8]), ([9, 7], [7, 9]), ([10, 7], [7, 10]), ([7], [7]), ([11, 12, 7], [7, 11, 12]), ([13, 7], [7, 13]), ([14, 7], [7, 14]), ([7], [7]), ([15, 16, 7], [7, 15, 16]), ([7, 17], [7, 17]), ([18, 7], [18]), ([19], [19]), ([20, 19], [19, 20]), ([21, 19], [19, 21]), ([22, 19], [19, 22]), ([19], [19]), ([23, 24, 19], [19, 23, 24]), ([25, 19], [19, 25]), ([26, 19], [19, 26]), ([19], [19]), ([27, 28, 19], [19, 27, 28]), ([19, 29], [19, 29])])
def toB1 : List Nat := [0, 0, 2, 6, 14, 30, 63, 127, 255, 511, 1023, 2047, 255, 8191, 16383, 32767, 255, 131071, 262143, 524287, 1048575, 2097151, 4194303, 8388607, 1048575, 33554431, 67108863, 134217727, 1048575, 536870911, 1073741823]
theorem totab1 : rtab .any (opsOf Try.f70 1) = toT1 := by kernel_rfl
theorem tobits1 : waitsOk toT1.2 toB1 = true := by kernel_rfl
def onlyN (K : Act → World → Prop) : Exit → Act → World → Prop
 | .normal, a, w => K a w
 | _, _, _ => False
theorem wp_only {P : Program} {c : Code} {Q : Exit → Act → World → Prop} {a : Act} {w : World} (h : c.wp P (onlyN (Q .normal)) a w) : c.wpIn Fence.wide 0 P Q a w :=
 wpIn_wide.2 (Go.wp_mono h (fun e a w h => by cases e <;> first | exact h | exact h.elim))
def isT (kind a : Int) (f : Fa) : Bool := decide (f.f0 = kind ∧ f.f1 = a)
def toldR (l : List Fa) (kind a : Int) : List Fa := l.filter (isT kind a)
theorem filter_takeWhile {α : Type} (M : α → Bool) : ∀ d : List α, d.Pairwise (fun x y => M y = true → M x = true) → d.filter M = d.takeWhile M
 | [], _ => rfl
 | x :: d, h => by
  have h' := List.pairwise_cons.1 h
  cases hx : M x
  ·rw [List.filter_cons_of_neg (by simp [hx]), List.takeWhile_cons_of_neg (by simp [hx])]
   refine List.filter_eq_nil_iff.2 (fun y hy => ?_)
   intro k
   have := h'.1 y hy k
   rw [hx] at this
   cases this
  ·rw [List.filter_cons_of_pos hx, List.takeWhile_cons_of_pos hx, filter_takeWhile M d h'.2]
theorem cmpT_lt (f t : Fa) : cmpT f t < 0 ↔ (f.f0 < t.f0 ∨ f.f0 = t.f0 ∧ f.f1 < t.f1) := by
 unfold cmpT cm
 by_cases h1 : f.f0 < t.f0
 ·simp [h1]
 ·by_cases h2 : f.f0 > t.f0
  ·simp [h1, h2]; omega
  ·have e : f.f0 = t.f0 := by omega
   by_cases h3 : f.f1 < t.f1
   ·simp [e, h3]
   ·by_cases h4 : f.f1 > t.f1
    ·simp [e, h3, h4]
    ·simp [e, h3, h4]
theorem sorted_cmpT {l : List Fa} (hs : l.Pairwise LF) (t : Fa) : ∀ i j (hi : i < l.length) (hj : j < l.length), i ≤ j → cmpT l[j] t < 0 → cmpT l[i] t < 0 := by
 intro i j hi hj hij h
 rcases Nat.eq_or_lt_of_le hij with e | e
 ·subst e; exact h
 ·have := (List.pairwise_iff_getElem.1 hs) i j hi hj e
  rw [cmpT_lt] at *
  unfold LF at this
  rcases this with h1 | ⟨h1, h2 | ⟨h2, _⟩⟩ <;> omega
theorem told_stretch {l : List Fa} (hs : l.Pairwise LF) (kind a : Int) (s : ByteArray) (b : Int) {i : Nat} (h1 : ∀ q (h : q < l.length), q < i → cmpT l[q] ⟨kind, a, s, b⟩ < 0) (h2 : ∀ q (h : q < l.length), i ≤ q → ¬ cmpT l[q] ⟨kind, a, s, b⟩ < 0) :
  toldR l kind a = (l.drop i).takeWhile (isT kind a) := by
 unfold toldR
 conv => lhs; rw [← List.take_append_drop i l, List.filter_append]
 have e1 : (l.take i).filter (isT kind a) = [] := by
  refine List.filter_eq_nil_iff.2 (fun y hy k => ?_)
  obtain ⟨q, hq, rfl⟩ := List.mem_iff_getElem.1 hy
  rw [List.length_take] at hq
  rw [List.getElem_take] at k
  have := (cmpT_lt _ _).1 (h1 q (by omega) (by omega))
  have k' := of_decide_eq_true k
  simp only at this
  omega
 rw [e1, List.nil_append]
 refine filter_takeWhile _ _ (List.pairwise_iff_getElem.2 (fun p q hp hq hpq k => ?_))
 rw [List.length_drop] at hp hq
 rw [List.getElem_drop] at k ⊢
 have k' := of_decide_eq_true k
 have a1 := h2 (i + p) (by omega) (by omega)
 rw [cmpT_lt] at a1
 have a2 := (List.pairwise_iff_getElem.1 hs) (i + p) (i + q) (by omega) (by omega) (by omega)
 unfold LF at a2
 simp only at a1
 refine decide_eq_true ?_
 rcases a2 with h | ⟨h, h' | ⟨h', _⟩⟩ <;> omega
theorem tw_at {α : Type} (M : α → Bool) : ∀ (d : List α) (k : Nat), k < (d.takeWhile M).length → (d.takeWhile M)[k]? = d[k]? ∧ ∀ x, d[k]? = some x → M x = true
 | [], k, h => by simp at h
 | x :: d, k, h => by
  cases hx : M x
  ·rw [List.takeWhile_cons_of_neg (by simp [hx])] at h
   simp at h
  ·rw [List.takeWhile_cons_of_pos hx] at h ⊢
   cases k with
   | zero => exact ⟨rfl, fun y hy => by simp at hy; rw [← hy]; exact hx⟩
   | succ k => simpa using tw_at M d k (by simpa using h)
theorem tw_end {α : Type} (M : α → Bool) : ∀ (d : List α) (x : α), d[(d.takeWhile M).length]? = some x → M x = false
 | [], x, h => by simp at h
 | y :: d, x, h => by
  cases hy : M y
  ·rw [List.takeWhile_cons_of_neg (by simp [hy])] at h
   simp at h
   rw [← h]; exact hy
  ·rw [List.takeWhile_cons_of_pos hy] at h
   exact tw_end M d x (by simpa using h)
structure TSt (r : Ro) (w0 : World) (Bt Bk Ba : Nat) (kind a : Int) (W : World) : Prop where
 ro : RoAt r w0 W
 ct : W.cell? ⟨Bt, 0, none⟩ = some (.pointer (some ⟨r.Br, 0, none⟩))
 ck : W.cell? ⟨Bk, 0, none⟩ = some (.int .i64 kind)
 ca : W.cell? ⟨Ba, 0, none⟩ = some (.int .i64 a)
theorem TSt.chg {r : Ro} {w0 : World} {Bt Bk Ba : Nat} {kind a : Int} {W W' : World} {T : Nat → Prop} (h : TSt r w0 Bt Bk Ba kind a W) (hc : Chg T W W') (hT : ∀ i, T i → w0.heap.size ≤ i ∧ i ≠ Bt ∧ i ≠ Bk ∧ i ≠ Ba ∧ i ≠ r.Br) : TSt r w0 Bt Bk Ba kind a W' :=
 ⟨h.ro.chg hc (fun i hi => ⟨(hT i hi).1, (hT i hi).2.2.2.2⟩), hc.cell h.ct (fun ht => (hT _ ht).2.1 rfl), hc.cell h.ck (fun ht => (hT _ ht).2.2.1 rfl), hc.cell h.ca (fun ht => (hT _ ht).2.2.2.1 rfl)⟩
structure TRel (r : Ro) (w0 : World) (Bt Bk Ba : Nat) (kind a : Int) (J : Nat → (Nat → Prop) → World → Prop) (k : Nat) (W : World) : Prop where
 st : TSt r w0 Bt Bk Ba kind a W
 own : ∃ O1, J k O1 W ∧ ∀ i, O1 i → w0.heap.size ≤ i ∧ i ≠ Bt ∧ i ≠ Bk ∧ i ≠ Ba ∧ i ≠ r.Br ∧ i < W.heap.size
set_option maxRecDepth 100000 in
set_option maxHeartbeats 8000000 in
theorem told_iter (r : Ro) (w0 w : World) (B0 Bt Bk Ba : Nat) (kind a : Int) (hB0 : w0.heap.size ≤ B0) (hsort : r.l.Pairwise LF) (hlen : r.l.length ≤ 1000000000) (hlow : w0.heap.size ≤ Bt ∧ w0.heap.size ≤ Bk ∧ w0.heap.size ≤ Ba) (hs : TSt r w0 Bt Bk Ba kind a w) :
  IterOK Try.prog 70 #[.pointer (some ⟨Bt, 0, none⟩), .pointer (some ⟨Bk, 0, none⟩), .pointer (some ⟨Ba, 0, none⟩)] encF (toldR r.l kind a) B0 (fun i => i = Bt ∨ i = Bk ∨ i = Ba ∨ i = r.Br) w := by
 intro y J Jx O W hcW hO hJ hJx hY h0
 have hs0 : TSt r w0 Bt Bk Ba kind a W := hs.chg hcW (fun i hi => by
  have h := hO i hi.1
  exact ⟨Nat.le_trans hB0 h.2.1, fun e => h.1 (.inl e), fun e => h.1 (.inr (.inl e)), fun e => h.1 (.inr (.inr (.inl e))), fun e => h.1 (.inr (.inr (.inr e)))⟩)
 have HREL := zm (show TRel r w0 Bt Bk Ba kind a J 0 W from ⟨hs0, O, h0, fun i hi => by
  have h := hO i hi
  exact ⟨Nat.le_trans hB0 h.2.1, fun e => h.1 (.inl e), fun e => h.1 (.inr (.inl e)), fun e => h.1 (.inr (.inr (.inl e))), fun e => h.1 (.inr (.inr (.inr e))), h.2.2⟩⟩)
 have HY := zm hY
 have HJ := zm hJ
 have HSO := zm hsort
 clear hY hJ hJx h0 hs0 hs hcW hO hsort
 refine (callsIn_wide (n := 0)).1 ?_
 refine callsIn_of_wp Try.func70 rfl trivial ?_ rfl
 simp only [Try.ntmps70, List.size_toArray, List.length_cons, List.length_nil, Nat.reduceAdd, Nat.reduceSub, Array.replicate_succ, Array.replicate_zero, List.push_toArray, List.append_toArray, List.nil_append, List.cons_append]
 gi_wp2
 obtain ⟨Wd, hWd⟩ : ∃ Wd, W.drew = Wd := ⟨_, rfl⟩
 have HBD := zm (show Below W.heap.size W Wd from by rw [← hWd]; exact below_drew (Below.refl _ _))
 have FS := zm (show ∀ W', Below Wd.heap.size Wd W' → W'.cell? ⟨Bt, 0, none⟩ = some (.pointer (some ⟨r.Br, 0, none⟩)) ∧ W'.cell? ⟨Bk, 0, none⟩ = some (.int .i64 kind) ∧ W'.cell? ⟨Ba, 0, none⟩ = some (.int .i64 a) ∧ W'.cell? ⟨r.Br, 3, none⟩ = some (.slice r.A3 r.l.length r.c3) from fun W' hb => by
  have h := HREL.out.st.chg (Chg.of_below (HBD.out.trans (hb.mono HBD.out.size)) (fun _ => False)) (fun i e => e.elim)
  exact ⟨h.ct, h.ck, h.ca, h.ro.cell 3⟩)
 refine wp_only ?_
 refine start_ (n := 13) (S := fun W' => Below Wd.heap.size Wd W') (ds := []) #[false, false, false, false, false, false, false, false, false, false, false, false, false] (by kernel_rfl) rfl rfl (by rw [hWd]; exact Below.refl _ _) (fun hHeld => ?_)
 rw [hWd] at hHeld ⊢
 refine with_tabW totab0 tobits0 (fun HT_ HW_ => ?_)
 refine zt 0 8 (hy := by
   intro w' hw'
   obtain ⟨s0, s1, s2, s3⟩ := FS.out w' hw'
   first | (go_simp; with_reducible rfl)) (h := ?_)
 refine zp 1 9 (h := ?_)
 refine zp 2 10 (h := ?_)
 refine zt 3 11 (hy := by
   intro w' hw'
   obtain ⟨s0, s1, s2, s3⟩ := FS.out w' hw'
   first | (go_simp; with_reducible rfl)) (h := ?_)
 refine zt 4 12 (hy := by
   intro w' hw'
   obtain ⟨s0, s1, s2, s3⟩ := FS.out w' hw'
   first | (go_simp; with_reducible rfl)) (h := ?_)
 refine zt 5 13 (hy := by
   intro w' hw'
   obtain ⟨s0, s1, s2, s3⟩ := FS.out w' hw'
   first | (go_simp; with_reducible rfl)) (h := ?_)
 refine zp 6 14 (h := ?_)
 refine zo 7 15 (h := fun K hK => ?_)
 refine zg Try.func71 #[.slice r.A3 r.l.length r.c3, .agg #[.int .i64 kind, .int .i64 a, .string ⟨#[]⟩, .int .i64 0], .func (.func 72) #[] #[]] (h := ?_)
 refine (bsearch_calls r.A3 r.c3 r.l ⟨kind, a, ⟨#[]⟩, 0⟩ _ (Kd.C_below HREL.out.st.ro.hl (HREL.out.st.ro.bel.trans (HBD.out.mono HREL.out.st.ro.bel.size))) hlen (sorted_cmpT HSO.out _)).mono ?_
 rintro e w3 ⟨⟨i0, b0, rfl, hi0, hq1, hq2⟩, hb3⟩
 refine ⟨_, rfl, ?_⟩
 have HB3 := zm hb3
 have HST := zm (told_stretch HSO.out kind a ⟨#[]⟩ 0 hq1 hq2)
 clear hb3 hq1 hq2
 refine hK.out _ _ HB3.out (fun hHeld => ?_)
 clear hK K
 refine zn (h := ?_)
 refine zp 8 7 (h := ?_)
 refine zp 9 16 (h := ?_)
 refine zp 10 17 (h := ?_)
 refine zp 11 5 (h := ?_)
 refine zp 12 6 (h := ?_)
 refine done_ (done_of HT_.out (by kernel_rfl)) ?_
 dsimp only [onlyN]
 gi_wp2
 have HB3' := zm (HBD.out.trans (HB3.out.mono HBD.out.size))
 obtain ⟨O1_, hj0, hd0⟩ := HREL.out.own
 have HREL2 := zm (show TRel r w0 Bt Bk Ba kind a J 0 w3 from ⟨HREL.out.st.chg (Chg.of_below HB3'.out (fun _ => False)) (fun i e => e.elim), O1_, HJ.out 0 O1_ W w3 _ hj0 (Chg.of_below HB3'.out (fun _ => False)) (fun i e => e.elim), fun i hi => by
  have h := hd0 i hi
  have := HB3'.out.size
  exact ⟨h.1, h.2.1, h.2.2.1, h.2.2.2.1, h.2.2.2.2.1, by omega⟩⟩)
 clear hj0 hd0 HREL FS HB3 HB3' HBD
 obtain ⟨T, hT⟩ : ∃ T, T = toldR r.l kind a := ⟨_, rfl⟩
 rw [← hT] at HST
 have HTT := zm hT
 clear hT
 have htl : i0 + T.length ≤ r.l.length := by
  have := congrArg List.length HST.out
  have h2 := (List.takeWhile_sublist (isT kind a) (l := r.l.drop i0)).length_le
  rw [List.length_drop] at h2
  omega
 gi_loopg [5] T.length (fun kq v5 W1 => ∃ k : Nat, v5 = .int .i64 ((i0 + k : Nat) : Int) ∧ k + kq = T.length ∧ TRel r w0 Bt Bk Ba kind a J k W1)
 case atStart => exact ⟨0, by simp, by omega, HREL2.out⟩
 case round =>
  clear HREL2
  obtain ⟨k, rfl, hk, hrel⟩ := hrel
  have HR := zm hrel
  clear hrel
  obtain ⟨n, hn⟩ : ∃ n, n = i0 + k := ⟨_, rfl⟩
  rw [← hn]
  have HN := zm hn
  clear hn
  obtain ⟨Wd, hWd⟩ : ∃ Wd, wr.drew = Wd := ⟨_, rfl⟩
  have HBD := zm (show Below wr.heap.size wr Wd from by rw [← hWd]; exact below_drew (Below.refl _ _))
  have HTS := zm (HR.out.st.chg (Chg.of_below HBD.out (fun _ => False)) (fun i e => e.elim))
  have FS := zm (show ∀ W', Below Wd.heap.size Wd W' → W'.cell? ⟨Bt, 0, none⟩ = some (.pointer (some ⟨r.Br, 0, none⟩)) ∧ W'.cell? ⟨Bk, 0, none⟩ = some (.int .i64 kind) ∧ W'.cell? ⟨Ba, 0, none⟩ = some (.int .i64 a) ∧ W'.cell? ⟨r.Br, 3, none⟩ = some (.slice r.A3 r.l.length r.c3) from fun W' hb => by
   have h := HTS.out.chg (Chg.of_below hb (fun _ => False)) (fun i e => e.elim)
   exact ⟨h.ct, h.ck, h.ca, h.ro.cell 3⟩)
  obtain ⟨O1, hj, hd⟩ := HR.out.own
  have HJ2 := zm (HJ.out k O1 wr Wd _ hj (Chg.of_below HBD.out (fun _ => False)) (fun i e => e.elim))
  have HD := zm (show ∀ i, O1 i → w0.heap.size ≤ i ∧ i ≠ Bt ∧ i ≠ Bk ∧ i ≠ Ba ∧ i ≠ r.Br ∧ i < Wd.heap.size from fun i hi => by
   have h := hd i hi
   have := HBD.out.size
   exact ⟨h.1, h.2.1, h.2.2.1, h.2.2.2.1, h.2.2.2.2.1, by omega⟩)
  clear hj hd
  by_cases hin : n < r.l.length
  ·obtain ⟨ad, hA3, hX⟩ := factC HTS.out.ro.hl n hin
   obtain ⟨x, hx⟩ : ∃ x, x = r.l[n] := ⟨_, rfl⟩
   rw [← hx] at hX
   have FX := zm (fun W (hb : Below Wd.heap.size Wd W) => hX W (HTS.out.ro.bel.trans (hb.mono HTS.out.ro.bel.size)))
   have HXN := zm (show (r.l.drop i0)[k]? = some x by rw [List.getElem?_drop, ← HN.out, List.getElem?_eq_getElem hin, hx])
   clear hX hx
   have hdl : decide ((n : Int) < (r.l.length : Int)) = true := decide_eq_true (by omega)
   by_cases hlt : k < T.length
   ·have hm : isT kind a x = true := (tw_at (isT kind a) (r.l.drop i0) k (by rw [← HST.out]; exact hlt)).2 x HXN.out
    have HTX := zm (show T[k]? = some x by rw [HST.out, (tw_at (isT kind a) (r.l.drop i0) k (by rw [← HST.out]; exact hlt)).1]; exact HXN.out)
    obtain ⟨x0, x1, x2, x3⟩ := x
    obtain ⟨e0, e1⟩ := of_decide_eq_true hm
    simp only at e0 e1
    dsimp only at FX
    subst e0
    subst e1
    clear hm
    rw [hA3] at FS
    clear hA3
    gi_wp2
    refine wp_only ?_
    refine start_ (n := 31) (S := fun W' => Below Wd.heap.size Wd W') (ds := []) #[false, false, false, false, false, false, false, false, false, false, false, false, false, false, false, false, false, false, false, false, false, false, false, false, false, false, false, false, false, false, false] (by kernel_rfl) rfl rfl (by rw [hWd]; exact Below.refl _ _) (fun hHeld => ?_)
    rw [hWd] at hHeld ⊢
    refine with_tabW totab1 tobits1 (fun HT_ HW_ => ?_)
    refine zp 0 18 (h := ?_)
    refine zt 1 19 (hy := by
      intro w' hw'
      obtain ⟨s0, s1, s2, s3⟩ := FS.out w' hw'
      first | (go_simp; with_reducible rfl)) (h := ?_)
    refine zp 2 20 (h := ?_)
    refine zp 3 21 (h := ?_)
    refine zt 4 22 (hy := by
      intro w' hw'
      obtain ⟨s0, s1, s2, s3⟩ := FS.out w' hw'
      first | (go_simp; with_reducible rfl)) (h := ?_)
    refine zp 5 23 (h := ?_)
    refine zp 6 24 (h := ?_)
    refine zp 7 25 (h := ?_)
    refine zt 8 26 (hy := by
      intro w' hw'
      obtain ⟨s0, s1, s2, s3⟩ := FS.out w' hw'
      first | (go_simp; with_reducible rfl)) (h := ?_)
    refine zp 9 27 (h := ?_)
    refine zp 10 28 (h := ?_)
    refine zt 11 29 (hy := by
      intro w' hw'
      obtain ⟨s0, s1, s2, s3⟩ := FS.out w' hw'
      first | (go_simp; with_reducible rfl)) (h := ?_)
    refine zp 12 30 (h := ?_)
    refine zp 13 31 (h := ?_)
    refine zp 14 32 (h := ?_)
    refine zt 15 33 (hy := by
      intro w' hw'
      obtain ⟨s0, s1, s2, s3⟩ := FS.out w' hw'
      obtain ⟨f0, f1, f2, f3⟩ := FX.out w' hw'
      first | (go_simp; with_reducible rfl)) (h := ?_)
    refine zt 16 34 (hy := by
      intro w' hw'
      obtain ⟨s0, s1, s2, s3⟩ := FS.out w' hw'
      first | (go_simp; with_reducible rfl)) (h := ?_)
    refine zp 17 35 (h := ?_)
    refine zp 18 36 (h := ?_)
    refine zp 19 37 (h := ?_)
    refine zt 20 38 (hy := by
      intro w' hw'
      obtain ⟨s0, s1, s2, s3⟩ := FS.out w' hw'
      first | (go_simp; with_reducible rfl)) (h := ?_)
    refine zp 21 39 (h := ?_)
    refine zp 22 40 (h := ?_)
    refine zt 23 41 (hy := by
      intro w' hw'
      obtain ⟨s0, s1, s2, s3⟩ := FS.out w' hw'
      first | (go_simp; with_reducible rfl)) (h := ?_)
    refine zp 24 42 (h := ?_)
    refine zp 25 43 (h := ?_)
    refine zp 26 44 (h := ?_)
    refine zt 27 45 (hy := by
      intro w' hw'
      obtain ⟨s0, s1, s2, s3⟩ := FS.out w' hw'
      obtain ⟨f0, f1, f2, f3⟩ := FX.out w' hw'
      first | (go_simp; with_reducible rfl)) (h := ?_)
    refine zt 28 46 (hy := by
      intro w' hw'
      obtain ⟨s0, s1, s2, s3⟩ := FS.out w' hw'
      first | (go_simp; with_reducible rfl)) (h := ?_)
    refine zp 29 47 (h := ?_)
    refine zp 30 48 (h := ?_)
    refine done_ (done_of HT_.out (by kernel_rfl)) ?_
    dsimp only [onlyN]
    obtain ⟨fA, fB, fC, fD⟩ := FS.out Wd (Below.refl _ _)
    obtain ⟨fX0, fX1, fX2, fX3⟩ := FX.out Wd (Below.refl _ _)
    have hyl := HY.out k ⟨x0, x1, x2, x3⟩ O1 Wd (by rw [← HTT.out]; exact HTX.out) HJ2.out (fun i hi => (HD.out i hi).2.2.2.2.2)
    obtain ⟨fn, tmps, asg, bdy, hy, hR⟩ := hyl
    dsimp only [encF, aggF] at hy
    have HR2 := zm hR
    clear hR
    gi_wp2
    refine ⟨rfl, HR2.out.mono ?_⟩
    rintro e W' (⟨rfl, ⟨O2, hO2, hJ2⟩, hc⟩ | ⟨rfl, ⟨O2, hO2, hx⟩, hc⟩)
    ·have HG := zm (show TRel r w0 Bt Bk Ba x0 x1 J (k + 1) W' from ⟨HTS.out.chg hc (fun i hi => by
      have h := HD.out i hi
      exact ⟨h.1, h.2.1, h.2.2.1, h.2.2.2.1, h.2.2.2.2.1⟩), O2, hJ2, fun i hi => (hO2 i hi).1.elim (fun h1 => by
       have h := HD.out i h1
       exact ⟨h.1, h.2.1, h.2.2.1, h.2.2.2.1, h.2.2.2.2.1, (hO2 i hi).2⟩) (fun h => by
       have h0 := (hO2 i hi).2
       have h1 := HTS.out.ro.bel.size
       have h2 := World.block_lt_of_cell? Wd _ HTS.out.ct
       have h3 := World.block_lt_of_cell? Wd _ HTS.out.ck
       have h4 := World.block_lt_of_cell? Wd _ HTS.out.ca
       have h5 := World.block_lt_of_cell? Wd _ (HTS.out.ro.cell 3)
       simp only at h2 h3 h4 h5
       omega)⟩)
     clear hO2 hJ2 hc hy fA fB fC fD fX0 fX1 fX2 fX3
     gi_wp2
     gi_roundg (gk - 1)
     case measure => omega
     case rel => exact ⟨k + 1, by rw [HN.out]; go_num, by omega, HG.out⟩
    ·gi_wp2
     refine bodyPost_ret (results_none rfl _ _ _) rfl ?_
     exact ⟨⟨_, rfl⟩, .inr ⟨k, O2, by rw [← HTT.out]; exact hlt, hx⟩⟩
   ·have hk' : k = T.length := by omega
    have hm : isT kind a x = false := tw_end (isT kind a) (r.l.drop i0) x (by rw [← HST.out, ← hk']; exact HXN.out)
    have HDONE := zm (show ∃ O2, J (toldR r.l kind a).length O2 Wd from ⟨O1, by rw [← HTT.out, ← hk']; exact HJ2.out⟩)
    obtain ⟨x0, x1, x2, x3⟩ := x
    dsimp only at FX
    rw [hA3] at FS
    clear hA3
    by_cases e0 : x0 = kind
    ·have e1 : (x1 == a) = false := by
      have := of_decide_eq_false hm
      simp only [e0, true_and] at this
      simpa using this
     subst e0
     clear hm
     gi_wp2
     refine wp_only ?_
     refine start_ (n := 31) (S := fun W' => Below Wd.heap.size Wd W') (ds := []) #[false, false, false, false, false, false, false, false, false, false, false, false, false, false, false, false, false, false, false, false, false, false, false, false, false, false, false, false, false, false, false] (by kernel_rfl) rfl rfl (by rw [hWd]; exact Below.refl _ _) (fun hHeld => ?_)
     rw [hWd] at hHeld ⊢
     refine with_tabW totab1 tobits1 (fun HT_ HW_ => ?_)
     refine zp 0 18 (h := ?_)
     refine zt 1 19 (hy := by
       intro w' hw'
       obtain ⟨s0, s1, s2, s3⟩ := FS.out w' hw'
       first | (go_simp; with_reducible rfl)) (h := ?_)
     refine zp 2 20 (h := ?_)
     refine zp 3 21 (h := ?_)
     refine zt 4 22 (hy := by
       intro w' hw'
       obtain ⟨s0, s1, s2, s3⟩ := FS.out w' hw'
       first | (go_simp; with_reducible rfl)) (h := ?_)
     refine zp 5 23 (h := ?_)
     refine zp 6 24 (h := ?_)
     refine zp 7 25 (h := ?_)
     refine zt 8 26 (hy := by
       intro w' hw'
       obtain ⟨s0, s1, s2, s3⟩ := FS.out w' hw'
       first | (go_simp; with_reducible rfl)) (h := ?_)
     refine zp 9 27 (h := ?_)
     refine zp 10 28 (h := ?_)
     refine zt 11 29 (hy := by
       intro w' hw'
       obtain ⟨s0, s1, s2, s3⟩ := FS.out w' hw'
       first | (go_simp; with_reducible rfl)) (h := ?_)
     refine zp 12 30 (h := ?_)
     refine zp 13 31 (h := ?_)
     refine zp 14 32 (h := ?_)
     refine zt 15 33 (hy := by
       intro w' hw'
       obtain ⟨s0, s1, s2, s3⟩ := FS.out w' hw'
       obtain ⟨f0, f1, f2, f3⟩ := FX.out w' hw'
       first | (go_simp; with_reducible rfl)) (h := ?_)
     refine zt 16 34 (hy := by
       intro w' hw'
       obtain ⟨s0, s1, s2, s3⟩ := FS.out w' hw'
       first | (go_simp; with_reducible rfl)) (h := ?_)
     refine zp 17 35 (h := ?_)
     refine zp 18 36 (h := ?_)
     refine zp 19 37 (h := ?_)
     refine zt 20 38 (hy := by
       intro w' hw'
       obtain ⟨s0, s1, s2, s3⟩ := FS.out w' hw'
       first | (go_simp; with_reducible rfl)) (h := ?_)
     refine zp 21 39 (h := ?_)
     refine zp 22 40 (h := ?_)
     refine zt 23 41 (hy := by
       intro w' hw'
       obtain ⟨s0, s1, s2, s3⟩ := FS.out w' hw'
       first | (go_simp; with_reducible rfl)) (h := ?_)
     refine zp 24 42 (h := ?_)
     refine zp 25 43 (h := ?_)
     refine zp 26 44 (h := ?_)
     refine zt 27 45 (hy := by
       intro w' hw'
       obtain ⟨s0, s1, s2, s3⟩ := FS.out w' hw'
       obtain ⟨f0, f1, f2, f3⟩ := FX.out w' hw'
       first | (go_simp; with_reducible rfl)) (h := ?_)
     refine zt 28 46 (hy := by
       intro w' hw'
       obtain ⟨s0, s1, s2, s3⟩ := FS.out w' hw'
       first | (go_simp; with_reducible rfl)) (h := ?_)
     refine zp 29 47 (h := ?_)
     refine zp 30 48 (h := ?_)
     refine done_ (done_of HT_.out (by kernel_rfl)) ?_
     dsimp only [onlyN]
     gi_wp2
     go_end0
     exact ⟨⟨_, rfl⟩, .inl HDONE.out⟩
    ·have e0 : (x0 == kind) = false := by simpa using e0
     clear hm
     gi_wp2
     refine wp_only ?_
     refine start_ (n := 31) (S := fun W' => Below Wd.heap.size Wd W') (ds := []) #[false, false, false, false, false, false, false, false, false, false, false, false, false, false, false, false, false, false, false, false, false, false, false, false, false, false, false, false, false, false, false] (by kernel_rfl) rfl rfl (by rw [hWd]; exact Below.refl _ _) (fun hHeld => ?_)
     rw [hWd] at hHeld ⊢
     refine with_tabW totab1 tobits1 (fun HT_ HW_ => ?_)
     refine zp 0 18 (h := ?_)
     refine zt 1 19 (hy := by
       intro w' hw'
       obtain ⟨s0, s1, s2, s3⟩ := FS.out w' hw'
       first | (go_simp; with_reducible rfl)) (h := ?_)
     refine zp 2 20 (h := ?_)
     refine zp 3 21 (h := ?_)
     refine zt 4 22 (hy := by
       intro w' hw'
       obtain ⟨s0, s1, s2, s3⟩ := FS.out w' hw'
       first | (go_simp; with_reducible rfl)) (h := ?_)
     refine zp 5 23 (h := ?_)
     refine zp 6 24 (h := ?_)
     refine zp 7 25 (h := ?_)
     refine zt 8 26 (hy := by
       intro w' hw'
       obtain ⟨s0, s1, s2, s3⟩ := FS.out w' hw'
       first | (go_simp; with_reducible rfl)) (h := ?_)
     refine zp 9 27 (h := ?_)
     refine zp 10 28 (h := ?_)
     refine zt 11 29 (hy := by
       intro w' hw'
       obtain ⟨s0, s1, s2, s3⟩ := FS.out w' hw'
       first | (go_simp; with_reducible rfl)) (h := ?_)
     refine zp 12 30 (h := ?_)
     refine zp 13 31 (h := ?_)
     refine zp 14 32 (h := ?_)
     refine zt 15 33 (hy := by
       intro w' hw'
       obtain ⟨s0, s1, s2, s3⟩ := FS.out w' hw'
       obtain ⟨f0, f1, f2, f3⟩ := FX.out w' hw'
       first | (go_simp; with_reducible rfl)) (h := ?_)
     refine zt 16 34 (hy := by
       intro w' hw'
       obtain ⟨s0, s1, s2, s3⟩ := FS.out w' hw'
       first | (go_simp; with_reducible rfl)) (h := ?_)
     refine zp 17 35 (h := ?_)
     refine zp 18 36 (h := ?_)
     refine zp 19 37 (h := ?_)
     refine zu 20 38 (h := ?_)
     refine zu 21 39 (h := ?_)
     refine zu 22 40 (h := ?_)
     refine zu 23 41 (h := ?_)
     refine zu 24 42 (h := ?_)
     refine zu 25 43 (h := ?_)
     refine zu 26 44 (h := ?_)
     refine zu 27 45 (h := ?_)
     refine zu 28 46 (h := ?_)
     refine zu 29 47 (h := ?_)
     refine zp 30 48 (h := ?_)
     refine done_ (done_of HT_.out (by kernel_rfl)) ?_
     dsimp only [onlyN]
     gi_wp2
     go_end0
     exact ⟨⟨_, rfl⟩, .inl HDONE.out⟩
  ·have hk' : k = T.length := by
    have := HN.out
    omega
   have HDONE := zm (show ∃ O2, J (toldR r.l kind a).length O2 Wd from ⟨O1, by rw [← HTT.out, ← hk']; exact HJ2.out⟩)
   have hdl : decide ((n : Int) < (r.l.length : Int)) = false := decide_eq_false (by omega)
   gi_wp2
   refine wp_only ?_
   refine start_ (n := 31) (S := fun W' => Below Wd.heap.size Wd W') (ds := []) #[false, false, false, false, false, false, false, false, false, false, false, false, false, false, false, false, false, false, false, false, false, false, false, false, false, false, false, false, false, false, false] (by kernel_rfl) rfl rfl (by rw [hWd]; exact Below.refl _ _) (fun hHeld => ?_)
   rw [hWd] at hHeld ⊢
   refine with_tabW totab1 tobits1 (fun HT_ HW_ => ?_)
   refine zp 0 18 (h := ?_)
   refine zt 1 19 (hy := by
     intro w' hw'
     obtain ⟨s0, s1, s2, s3⟩ := FS.out w' hw'
     first | (go_simp; with_reducible rfl)) (h := ?_)
   refine zp 2 20 (h := ?_)
   refine zp 3 21 (h := ?_)
   refine zt 4 22 (hy := by
     intro w' hw'
     obtain ⟨s0, s1, s2, s3⟩ := FS.out w' hw'
     first | (go_simp; with_reducible rfl)) (h := ?_)
   refine zp 5 23 (h := ?_)
   refine zp 6 24 (h := ?_)
   refine zp 7 25 (h := ?_)
   refine zu 8 26 (h := ?_)
   refine zu 9 27 (h := ?_)
   refine zu 10 28 (h := ?_)
   refine zu 11 29 (h := ?_)
   refine zu 12 30 (h := ?_)
   refine zu 13 31 (h := ?_)
   refine zu 14 32 (h := ?_)
   refine zu 15 33 (h := ?_)
   refine zu 16 34 (h := ?_)
   refine zu 17 35 (h := ?_)
   refine zp 18 36 (h := ?_)
   refine zp 19 37 (h := ?_)
   refine zu 20 38 (h := ?_)
   refine zu 21 39 (h := ?_)
   refine zu 22 40 (h := ?_)
   refine zu 23 41 (h := ?_)
   refine zu 24 42 (h := ?_)
   refine zu 25 43 (h := ?_)
   refine zu 26 44 (h := ?_)
   refine zu 27 45 (h := ?_)
   refine zu 28 46 (h := ?_)
   refine zu 29 47 (h := ?_)
   refine zp 30 48 (h := ?_)
   refine done_ (done_of HT_.out (by kernel_rfl)) ?_
   dsimp only [onlyN]
   gi_wp2
   go_end0
   exact ⟨⟨_, rfl⟩, .inl HDONE.out⟩
end Go.Proofs.Ytngppcmdaanheaa.Ls
namespace Go.Proofs.Ytngppcmdaanheaa.Ext
open Go.RowKit Go.Proofs.YtngppcmdaanheaaW.PrintWords Go.Proofs.YtngppcmdaanheaaW.PrintLast Go.Proofs.YtngppcmdaanheaaW.PrintMore Go.Proofs.Ytngppcmdaanheaa.Sets Go.Proofs.Ytngppcmdaanheaa.Iter
set_option linter.unusedVariables false
set_option linter.unusedSimpArgs false
attribute [local go_sem] Oper.semAt_some
structure BoxRow (W : World) (base b : Nat) (xs : List Int) (O : Nat → Prop) : Prop where
 out : ∃ v, W.cell? ⟨b, 0, none⟩ = some v ∧ OwnI W base v xs ∧ ∀ i, v.ownBlock = some i → O i ∧ i ≠ b
 free : W.frozen? ⟨b, 0, none⟩ = false
 lt : b < W.heap.size
 own : O b
theorem BoxRow.chg {A B : World} {base b : Nat} {xs : List Int} {O T : Nat → Prop} (h : BoxRow A base b xs O) (hc : Chg T A B) (hT : ∀ i, T i → ¬ O i) : BoxRow B base b xs O := by
 obtain ⟨v, h1, h2, h3⟩ := h.out
 refine ⟨⟨v, hc.cell h1 (fun ht => hT _ ht h.own), own_chg h2 hc (fun i hi ht => hT i ht (h3 i hi).1), h3⟩, ?_, Nat.lt_of_lt_of_le h.lt hc.size, h.own⟩
 rw [frozen_chg hc h.lt (fun ht => hT _ ht h.own)]
 exact h.free
theorem BoxRow.less {A : World} {base b : Nat} {xs : List Int} {O O' : Nat → Prop} (h : BoxRow A base b xs O) (hO : ∀ i, O i → O' i) : BoxRow A base b xs O' := by
 obtain ⟨v, h1, h2, h3⟩ := h.out
 exact ⟨⟨v, h1, h2, fun i hi => ⟨hO i (h3 i hi).1, (h3 i hi).2⟩⟩, h.free, h.lt, hO _ h.own⟩
theorem BoxRow.fresh (W : World) (base : Nat) (t : TypeId) (O : Nat → Prop) (hO : O W.heap.size) : BoxRow (W.alloc (.cells #[.slice none 0 0] t)) base W.heap.size [] O := by
 have hn := heap_alloc_new W (.cells #[.slice none 0 0] t)
 exact ⟨⟨_, (cell_of_blk hn).1, Kd.R_nil _ _ _ _ _, fun i hi => by simp [Value.ownBlock] at hi⟩, (cell_of_blk hn).2, by simp, hO⟩
theorem BoxRow.step {W w1 : World} {base b : Nat} {xs : List Int} {O : Nat → Prop} (h : BoxRow W base b xs O) {v : Value} (hv : W.cell? ⟨b, 0, none⟩ = some v) (hv3 : ∀ i, v.ownBlock = some i → O i ∧ i ≠ b) (o : Obj) (hg : (W.alloc o).grownBy w1 v.ownBlock) :
  w1.cell? ⟨b, 0, none⟩ = some v ∧ w1.frozen? ⟨b, 0, none⟩ = false := by
 have h0 : Chg (fun i => v.ownBlock = some i) W w1 := ((Chg.refl _ W).alloc o).grown hg (fun k hk => .inl hk)
 refine ⟨h0.cell hv (fun h => (hv3 _ h).2 rfl), ?_⟩
 rw [frozen_chg h0 h.lt (fun h => (hv3 _ h).2 rfl)]
 exact h.free
theorem BoxRow.stored {W w1 : World} {base b : Nat} {xs ys : List Int} {O : Nat → Prop} (h : BoxRow W base b xs O) {v v1 : Value} (hv : W.cell? ⟨b, 0, none⟩ = some v) (hv3 : ∀ i, v.ownBlock = some i → O i ∧ i ≠ b) (o : Obj) (hg : (W.alloc o).grownBy w1 v.ownBlock)
  (hO : OwnI w1 base v1 ys) (hat : v1.ownBlock = v.ownBlock ∨ v1.ownBlock = some (W.alloc o).heap.size) (hOb : ∀ i, O i → i < W.heap.size) :
  Chg O W (w1.setCell ⟨b, 0, none⟩ v1) ∧ ∃ O2 : Nat → Prop, Grow O W O2 (w1.setCell ⟨b, 0, none⟩ v1) ∧ (∀ i, O i → O2 i) ∧ BoxRow (w1.setCell ⟨b, 0, none⟩ v1) base b ys O2 := by
 have h0 : Chg (fun i => v.ownBlock = some i) W w1 := ((Chg.refl _ W).alloc o).grown hg (fun k hk => .inl hk)
 obtain ⟨hcell, hfr⟩ := h.step hv hv3 o hg
 have hlt := h.lt
 have hv1 : ∀ i, v1.ownBlock = some i → (O i ∨ W.heap.size ≤ i) ∧ i ≠ b := by
  intro i hi
  rcases hat with e | e
  ·rw [e] at hi
   exact ⟨.inl (hv3 i hi).1, (hv3 i hi).2⟩
  ·rw [e] at hi
   injection hi with hi
   have : (W.alloc o).heap.size = W.heap.size + 1 := by simp
   exact ⟨.inr (by omega), by omega⟩
 have h1 : Chg (fun i => i = b) w1 (w1.setCell ⟨b, 0, none⟩ v1) := (Chg.refl (fun i => i = b) w1).setCell (p := ⟨b, 0, none⟩) (.inl rfl) v1
 have hc2 : Chg O W (w1.setCell ⟨b, 0, none⟩ v1) := (h0.mono (fun i _ hi => (hv3 i hi).1)).trans h1 (fun i e => by subst e; exact .inl h.own)
 have hl1 := own_lt (Kd.own_of_R hO)
 have hsz : (w1.setCell ⟨b, 0, none⟩ v1).heap.size = w1.heap.size := by simp [World.setCell]
 have hs2 := hc2.size
 exact ⟨hc2, fun i => (O i ∨ W.heap.size ≤ i) ∧ i < (w1.setCell ⟨b, 0, none⟩ v1).heap.size, fun i h => h, fun i h => ⟨.inl h, Nat.lt_of_lt_of_le (hOb i h) hs2⟩, ⟨v1, World.cell?_setCell_same' _ _ _ (by rw [hcell]; rfl), own_chg hO h1 (fun i hi e => (hv1 i hi).2 e), fun i hi => ⟨⟨(hv1 i hi).1, by rw [hsz]; exact hl1 i hi⟩, (hv1 i hi).2⟩⟩, by rw [World.frozen?_setCell]; exact hfr, Nat.lt_of_lt_of_le h.lt hc2.size, ⟨.inl h.own, Nat.lt_of_lt_of_le h.lt hc2.size⟩⟩
structure ApI (w : World) (B0 : Nat) (xs : List Int) (k : Nat) (O : Nat → Prop) (W : World) : Prop where
 bel : Below B0 w W
 row : BoxRow W w.heap.size w.heap.size (xs.take k) O
theorem ApI.abide (w : World) (B0 : Nat) (hB0 : B0 ≤ w.heap.size) (xs : List Int) (k : Nat) : Abide B0 (ApI w B0 xs k) := by
 intro O A B T h hc hT
 exact ⟨h.bel.trans (hc.below (Nat.le_trans hB0 (Nat.le_of_lt h.row.lt)) (fun i hi => (hT i hi).1)), h.row.chg hc (fun i hi => (hT i hi).2)⟩
end Go.Proofs.Ytngppcmdaanheaa.Ext
namespace Go.Proofs.Ytngppcmdaanheaa.Ls
open Go.RowKit Go.Maps Go.Proofs.Ytngppcmdaanheaa.Iter Go.Proofs.Ytngppcmdaanheaa.ISet Go.Proofs.Ytngppcmdaanheaa.Pr Go.Proofs.Ytngppcmdaanheaa.Ext Go.Proofs.YtngppcmdaanheaaW.PrintWords Go.Proofs.YtngppcmdaanheaaW.PrintLast Go.Proofs.YtngppcmdaanheaaW.PrintMore
set_option linter.unusedVariables false
set_option linter.unusedSimpArgs false
attribute [local go_sem] Oper.semAt_some
def toldW (w : World) (p : Addr) (kind a : Int) : World := ((w.alloc (.cells #[.pointer (some p)] 64)).alloc (.cells #[.int .i64 kind] 3)).alloc (.cells #[.int .i64 a] 3)
theorem told_calls (p : Addr) (kind a : Int) (w : World) :
  Calls Try.prog 56 #[.pointer (some p), .int .i64 kind, .int .i64 a] w fun e w' => e = .returned (.func (.func 70) #[] #[.pointer (some ⟨w.heap.size, 0, none⟩), .pointer (some ⟨w.heap.size + 1, 0, none⟩), .pointer (some ⟨w.heap.size + 2, 0, none⟩)]) ∧ w' = toldW w p kind a := by
 go_enter Try.func56, Try.ntmps56
 go_wp2
 go_ret
 exact ⟨rfl, rfl⟩
theorem toldW_chg (S : Nat → Prop) (w : World) (p : Addr) (kind a : Int) : Chg S w (toldW w p kind a) := (((Chg.refl _ w).alloc _).alloc _).alloc _
theorem toldW_below (w : World) (p : Addr) (kind a : Int) : Below w.heap.size w (toldW w p kind a) := (toldW_chg (fun _ => False) w p kind a).below (Nat.le_refl _) (fun k h => h.elim)
theorem toldW_size (w : World) (p : Addr) (kind a : Int) : (toldW w p kind a).heap.size = w.heap.size + 3 := by simp [toldW]
theorem toldW_st {r : Ro} {w0 w : World} (h : RoAt r w0 w) (kind a : Int) : TSt r w0 w.heap.size (w.heap.size + 1) (w.heap.size + 2) kind a (toldW w ⟨r.Br, 0, none⟩ kind a) := by
 refine ⟨h.quiet (toldW_below _ _ _ _), ?_, ?_, ?_⟩
 ·exact (cell_of_blk (t := 64) (by simp only [toldW, alloc_at, World.size_alloc]; simp (disch := omega) [if_pos, if_neg])).1
 ·exact (cell_of_blk (t := 3) (by simp only [toldW, alloc_at, World.size_alloc]; simp (disch := omega) [if_pos, if_neg])).1
 ·exact (cell_of_blk (t := 3) (by simp only [toldW, alloc_at, World.size_alloc]; simp (disch := omega) [if_pos, if_neg])).1
theorem told_ok {r : Ro} {w0 w : World} (h : RoAt r w0 w) (kind a : Int) (hsort : r.l.Pairwise LF) (hlen : r.l.length ≤ 1000000000) {B0 : Nat} (hB0 : w0.heap.size ≤ B0) :
  IterOK Try.prog 70 #[.pointer (some ⟨w.heap.size, 0, none⟩), .pointer (some ⟨w.heap.size + 1, 0, none⟩), .pointer (some ⟨w.heap.size + 2, 0, none⟩)] encF (toldR r.l kind a) B0 (fun i => i = w.heap.size ∨ i = w.heap.size + 1 ∨ i = w.heap.size + 2 ∨ i = r.Br) (toldW w ⟨r.Br, 0, none⟩ kind a) := by
 have := h.bel.size
 exact told_iter r w0 _ B0 _ _ _ kind a hB0 hsort hlen ⟨by omega, by omega, by omega⟩ (toldW_st h kind a)
def bsL (l : List Fa) (kind a : Int) : List Int := (toldR l kind a).map (·.f3)
theorem bsL_le (l : List Fa) (kind a : Int) : (bsL l kind a).length ≤ l.length := by
 unfold bsL toldR
 rw [List.length_map]
 exact List.length_filter_le _ _
def RowPost (w : World) (xs : List Int) (e : Ending) (w' : World) : Prop := ∃ v : Value, e = .returned v ∧ OwnI w' w.heap.size v xs ∧ Below w.heap.size w w'
set_option maxHeartbeats 4000000 in
theorem bs_calls {r : Ro} {w0 w : World} (h : RoAt r w0 w) (kind a : Int) (hsort : r.l.Pairwise LF) (hlen : r.l.length ≤ 1000000000) :
  Calls Try.prog 38 #[.pointer (some ⟨r.Br, 0, none⟩), .int .i64 kind, .int .i64 a] w (RowPost w (bsL r.l kind a)) := by
 have HR := zm h
 have HS := zm hsort
 clear h hsort
 refine (callsIn_wide (n := 0)).1 ?_
 refine callsIn_of_wp_marks Try.func38 rfl trivial ?_ rfl
 simp only [Try.ntmps38, List.size_toArray, List.length_cons, List.length_nil, Nat.reduceAdd, Nat.reduceSub, Array.replicate_succ, Array.replicate_zero, List.push_toArray, List.append_toArray, List.nil_append, List.cons_append]
 have hdep : Fence.wide.depth = none := rfl
 have hfns : ∀ f, Fence.wide.fn f := fun _ => trivial
 have hlow := HR.out.bel.size
 gi_wp2_with (gi_at_call 56; refine (callsIn_wide.2 (told_calls _ _ _ _)).mono ?_; rintro e w' ⟨rfl, rfl⟩)
 have hc0 : Chg (fun i => False) w (w.alloc (.cells #[.slice none 0 0] 42)) := (Chg.refl _ w).alloc _
 have hI0 : ApI w w.heap.size (bsL r.l kind a) 0 (fun i => i = w.heap.size) (w.alloc (.cells #[.slice none 0 0] 42)) := ⟨(Below.refl _ w).alloc (Nat.le_refl _) _, BoxRow.fresh w _ _ _ rfl⟩
 have hs0 : (w.alloc (.cells #[.slice none 0 0] 42)).heap.size = w.heap.size + 1 := by simp
 have hr0 := HR.out.quiet (hc0.below (Nat.le_refl _) (fun k h => h.elim))
 generalize w.alloc (.cells #[.slice none 0 0] 42) = W1 at *
 have hit := told_ok hr0 kind a HS.out hlen (B0 := w.heap.size) hlow
 have hI1 := ApI.abide w w.heap.size (Nat.le_refl _) (bsL r.l kind a) 0 _ W1 (toldW W1 ⟨r.Br, 0, none⟩ kind a) (fun _ => False) hI0 (toldW_chg _ _ _ _ _) (fun i e => e.elim)
 have hs1 := toldW_size W1 ⟨r.Br, 0, none⟩ kind a
 have hbr : r.Br < w.heap.size := by
  have := World.block_lt_of_cell? w _ (HR.out.cell 0)
  simpa using this
 rw [hs0] at hit hs1
 clear hI0 hc0 hr0 hs0
 generalize toldW W1 ⟨r.Br, 0, none⟩ kind a = W2 at *
 refine wp_rangeFunc_go (gf := 70) (lb := #[.pointer (some ⟨w.heap.size + 1, 0, none⟩), .pointer (some ⟨w.heap.size + 1 + 1, 0, none⟩), .pointer (some ⟨w.heap.size + 1 + 2, 0, none⟩)]) rfl (enters_of Try.func70 (by kernel_rfl) rfl) hit (fun _ => rfl) (fun i => i = w.heap.size) (by omega) (fun i hi => by subst hi; exact ⟨by omega, by omega, by omega⟩) (fun i hi => by omega) (Chg.refl _ _)
  (ApI w w.heap.size (bsL r.l kind a)) (fun _ _ _ _ => False) (fun k => ApI.abide w w.heap.size (Nat.le_refl _) _ k) (fun _ _ _ _ _ _ h _ _ => h) hI1 ?round ?done ?stop
 case stop => exact fun D k c O1 W _ _ _ h _ => h.elim
 case round =>
  intro l0 k x O1 W K hx hi hb hK
  obtain ⟨x0, x1, x2, x3⟩ := x
  dsimp only [encF, aggF]
  gi_wp2
  have hi2 := ApI.abide w w.heap.size (Nat.le_refl _) _ k O1 W (W.alloc (.cells #[.int .i64 x0, .int .i64 x1, .string x2, .int .i64 x3] 41)) (fun _ => False) hi ((Chg.refl _ _).alloc _) (fun i e => e.elim)
  refine hK _ _ _ ((Chg.refl _ _).alloc _) (grow_alloc hb _) ⟨hi2.bel, hi2.row.less (fun i h => .inl h)⟩ ?_
  have hn4 := heap_alloc_new W (.cells #[.int .i64 x0, .int .i64 x1, .string x2, .int .i64 x3] 41)
  clear hi hi2 hK hb
  intro l T Wb hc hT hOb hll hnl hrec hi
  have hn5 := hc.blk hn4 (fun ht => (hT _ ht).2 (.inr rfl))
  have hf3 : Wb.cell? ⟨W.heap.size, 3, none⟩ = some (.int .i64 x3) := by simp [World.cell?, hn5]
  clear hn4 hn5 hT hnl
  obtain ⟨O9, hO9⟩ : ∃ O9 : Nat → Prop, O9 = (fun i => O1 i ∨ i = W.heap.size) := ⟨_, rfl⟩
  replace hOb : ∀ i, O9 i → i < Wb.heap.size := by rw [hO9]; exact hOb
  rw [← hO9] at hi ⊢
  clear hO9
  obtain ⟨v, hv1, hv2, hv3⟩ := hi.row.out
  have hfr := hi.row.free
  have HI := zm hi
  have hk : k < (bsL r.l kind a).length := by unfold bsL; rw [List.length_map]; exact (List.getElem?_eq_some_iff.1 hx).1
  have HTK := zm (show (bsL r.l kind a).take k ++ [x3] = (bsL r.l kind a).take (k + 1) by rw [List.take_add_one, bsL, List.getElem?_map, hx]; rfl)
  have hle : ((bsL r.l kind a).take k).length < 17592186044416 := by rw [List.length_take]; have := bsL_le r.l kind a; omega
  have hbs : w.heap.size < Wb.heap.size := hi.row.lt
  have hsl := own_slice3 hv2
  obtain ⟨A, c, hve, _, _⟩ := hsl
  subst hve
  have HO2 := zm (show OwnI (Wb.alloc (.cells #[.int .i64 x3] 3)) w.heap.size (.slice A ((bsL r.l kind a).take k).length c) _ from Kd.R_below hv2 ((Below.refl _ Wb).alloc (Nat.le_refl _) _))
  clear hi hv2 hx hrec hc
  generalize (bsL r.l kind a).take k = ys at *
  gi_wp2_with (gi_at_builtin; go_loud (refine append1_in w.heap.size rfl _ _ rfl (.slice A ys.length c) ys x3 Wb.heap.size rfl rfl (by simp) HO2.out (by simp; omega) hle ?_; rintro v1 w1 hO1 hg1 hat1 ⟨g1, n1, c1', rfl⟩; obtain ⟨hcell1, hfr1⟩ := HI.out.row.step hv1 hv3 _ hg1; have HST := zm (HI.out.row.stored hv1 hv3 _ hg1 hO1 hat1 hOb); have HVB := zm (show Chg (fun i => O9 i ∧ w.heap.size ≤ i) Wb w1 from ((Chg.refl _ Wb).alloc _).grown hg1 (fun i hi => .inl ⟨(hv3 i hi).1, own_base_lt HO2.out i hi⟩)); clear hO1 hat1 hg1))
  obtain ⟨hst1, O2, hO2, hOO, hrow⟩ := HST.out
  refine ⟨hst1, O2, hO2, HI.out.bel.trans ((HVB.out.setCell (p := ⟨w.heap.size, 0, none⟩) (.inl ⟨HI.out.row.own, Nat.le_refl _⟩) _).below (Nat.le_of_lt hbs) (fun i hi => hi.2)), ?_⟩
  rw [← HTK.out]
  exact hrow
 case done =>
  intro D O1 W hD hnD hi hK
  obtain ⟨v, hv1, hv2, hv3⟩ := hi.row.out
  have HI := zm hi
  have hL : (toldR r.l kind a).length = (bsL r.l kind a).length := by unfold bsL; rw [List.length_map]
  rw [hL, List.take_of_length_le (Nat.le_refl _)] at hv2
  have HV2 := zm hv2
  have hsl := own_slice3 hv2
  obtain ⟨A, c, hve, _, _⟩ := hsl
  subst hve
  clear hi hv2
  gi_wp2
  refine ⟨by simp, .inl ⟨_, _, rfl, run_takeDeferred hK, ?_⟩⟩
  refine ⟨.slice A (bsL r.l kind a).length c, by simp [results, Try.results38, go_sem], _, rfl, ?_, ?_⟩
  ·exact own_chg HV2.out (Chg.put1 W D _) (fun i h e => by subst e; exact hnD (hv3 _ h).1)
  ·exact HI.out.bel.trans ((Chg.put1 W D _).below (Nat.le_of_lt HI.out.row.lt) (fun i e => by subst e; omega))
theorem in_calls {r : Ro} {w0 w : World} (h : RoAt r w0 w) (a : Int) (hsort : r.l.Pairwise LF) (hlen : r.l.length ≤ 1000000000) :
  Calls Try.prog 52 #[.pointer (some ⟨r.Br, 0, none⟩), .int .i64 a] w (RowPost w (bsL r.l 9 a)) := by
 have HA := zm (bs_calls h 9 a hsort hlen)
 clear h hsort
 go_enter Try.func52, Try.ntmps52
 go_wp2_with (go_at_call 38; refine HA.out.mono ?_; rintro e w1 ⟨v, rfl, hO, hB⟩; have HO := zm hO; have HB := zm hB; clear hO hB)
 go_ret
 exact ⟨_, rfl, HO.out, HB.out⟩
end Go.Proofs.Ytngppcmdaanheaa.Ls
namespace Go.Proofs.Ytngppcmdaanheaa.Rm
open Go.Proofs.Ytngppcmdaanheaa.Sets
open Go.Proofs.Ytngppcmdaanheaa.Reach (grow grow_sub grow_closed pushL mem_pushL nodup_pushL pushes mem_pushes nodup_pushes nodup_le)
set_option linter.unusedVariables false
inductive Leads (m : Int) (es : List (Int × Int)) : Int → Prop
 | zero : Leads m es m
 | step {a b : Int} : Leads m es a → (a, b) ∈ es → Leads m es b
theorem grow_sound {m : Int} {es : List (Int × Int)} : ∀ (k : Nat) {S : List Int}, (∀ x ∈ S, Leads m es x) → ∀ x ∈ grow es k S, Leads m es x
 | 0, S, h => h
 | k + 1, S, h => by
  unfold grow
  split
  ·exact h
  ·rename_i e he
   refine grow_sound k (fun x hx => ?_)
   rcases List.mem_append.1 hx with hx | hx
   ·exact h x hx
   ·obtain rfl := List.mem_singleton.1 hx
    have h1 := List.find?_some he
    simp only [Bool.and_eq_true, List.contains_iff_mem] at h1
    exact .step (h _ h1.1) (List.mem_of_find?_eq_some he)
def reachL (m : Int) (es : List (Int × Int)) : List Int := sset (grow es es.length [m])
theorem mem_reachL (m : Int) (es : List (Int × Int)) (x : Int) : x ∈ reachL m es ↔ Leads m es x := by
 unfold reachL
 rw [(sset_facts _).2]
 constructor
 ·exact fun h => grow_sound _ (fun y hy => by obtain rfl := List.mem_singleton.1 hy; exact .zero) x h
 ·intro h
  induction h with
  | zero => exact grow_sub _ (by simp)
  | step _ he ih => exact grow_closed _ (List.length_filter_le _ _) _ he ih
/-! ### going by a queue -/
/-- What is so between two rounds: met are the numbers that have been looked at, q those that wait. -/
structure BInv (m : Int) (es : List (Int × Int)) (met q : List Int) : Prop where
 sound : ∀ x, x ∈ met ∨ x ∈ q → Leads m es x
 zero : m ∈ met ∨ m ∈ q
 closed : ∀ n ∈ met, ∀ b, (n, b) ∈ es → b ∈ met ∨ b ∈ q
 nm : met.Nodup
 nq : q.Nodup
 um : ∀ x ∈ met, x ∈ m :: es.map (·.2)
 uq : ∀ x ∈ q, x ∈ m :: es.map (·.2)
def left (es : List (Int × Int)) (met q : List Int) : Nat := (es.length + 1 - met.length) * (es.length + 2) + q.length
theorem BInv.start (m : Int) (es : List (Int × Int)) : BInv m es [] [m] :=
 ⟨fun x h => by rcases h with h | h <;> simp at h; subst h; exact .zero, .inr (by simp), fun n h => by simp at h, by simp, by simp, by simp, by simp⟩
theorem BInv.lens {m : Int} {es : List (Int × Int)} {met q : List Int} (h : BInv m es met q) : met.length ≤ es.length + 1 ∧ q.length ≤ es.length + 1 := by
 have h1 := nodup_le h.nm h.um
 have h2 := nodup_le h.nq h.uq
 simp at h1 h2
 exact ⟨h1, h2⟩
theorem BInv.skip {m : Int} {es : List (Int × Int)} {met q : List Int} {n : Int} (h : BInv m es met (n :: q)) (hn : n ∈ met) : BInv m es met q ∧ left es met q < left es met (n :: q) := by
 refine ⟨⟨fun x hx => h.sound x (hx.imp_right (List.mem_cons_of_mem _)), ?_, fun y hy b hb => ?_, h.nm, (List.nodup_cons.1 h.nq).2, h.um, fun x hx => h.uq x (List.mem_cons_of_mem _ hx)⟩, by simp [left]⟩
 ·rcases h.zero with h0 | h0
  ·exact .inl h0
  ·rcases List.mem_cons.1 h0 with rfl | h0
   ·exact .inl hn
   ·exact .inr h0
 ·rcases h.closed y hy b hb with h0 | h0
  ·exact .inl h0
  ·rcases List.mem_cons.1 h0 with rfl | h0
   ·exact .inl hn
   ·exact .inr h0
theorem BInv.take {m : Int} {es : List (Int × Int)} {met q : List Int} {n : Int} (h : BInv m es met (n :: q)) (hn : n ∉ met) : BInv m es (met ++ [n]) (pushes n q es) ∧ left es (met ++ [n]) (pushes n q es) < left es met (n :: q) := by
 have hb : BInv m es (met ++ [n]) (pushes n q es) := by
  have hr : Leads m es n := h.sound n (.inr (by simp))
  refine ⟨fun x hx => ?_, ?_, fun y hy b hb => ?_, ?_, nodup_pushes _ _ _ (List.nodup_cons.1 h.nq).2, fun x hx => ?_, fun x hx => ?_⟩
  ·rcases hx with hx | hx
   ·rcases List.mem_append.1 hx with hx | hx
    ·exact h.sound x (.inl hx)
    ·obtain rfl := List.mem_singleton.1 hx; exact hr
   ·rcases (mem_pushes n es q x).1 hx with hx | hx
    ·exact h.sound x (.inr (List.mem_cons_of_mem _ hx))
    ·exact .step hr hx
  ·rcases h.zero with h0 | h0
   ·exact .inl (List.mem_append_left _ h0)
   ·rcases List.mem_cons.1 h0 with rfl | h0
    ·exact .inl (by simp)
    ·exact .inr ((mem_pushes n es q m).2 (.inl h0))
  ·rcases List.mem_append.1 hy with hy | hy
   ·rcases h.closed y hy b hb with h0 | h0
    ·exact .inl (List.mem_append_left _ h0)
    ·rcases List.mem_cons.1 h0 with rfl | h0
     ·exact .inl (by simp)
     ·exact .inr ((mem_pushes n es q b).2 (.inl h0))
   ·obtain rfl := List.mem_singleton.1 hy
    exact .inr ((mem_pushes y es q b).2 (.inr hb))
  ·rw [List.nodup_append]
   exact ⟨h.nm, by simp, fun a ha b hb => by simp at hb; subst hb; rintro rfl; exact hn ha⟩
  ·rcases List.mem_append.1 hx with hx | hx
   ·exact h.um x hx
   ·obtain rfl := List.mem_singleton.1 hx; exact h.uq x (by simp)
  ·rcases (mem_pushes n es q x).1 hx with hx | hx
   ·exact h.uq x (List.mem_cons_of_mem _ hx)
   ·exact List.mem_cons_of_mem _ (List.mem_map.2 ⟨_, hx, rfl⟩)
 refine ⟨hb, ?_⟩
 have h1 := hb.lens
 rw [List.length_append, List.length_singleton] at h1
 unfold left
 rw [List.length_append, List.length_singleton, List.length_cons]
 have h2 : es.length + 1 - met.length = (es.length + 1 - (met.length + 1)) + 1 := by omega
 rw [h2, Nat.add_one_mul]
 omega
theorem BInv.done {m : Int} {es : List (Int × Int)} {met : List Int} (h : BInv m es met []) (x : Int) : x ∈ met ↔ Leads m es x := by
 constructor
 ·exact fun hx => h.sound x (.inl hx)
 ·intro hr
  induction hr with
  | zero => simpa using h.zero
  | step _ he ih => simpa using h.closed _ ih _ he
end Go.Proofs.Ytngppcmdaanheaa.Rm
namespace Go.Proofs.Ytngppcmdaanheaa.Ls
open Go.RowKit Go.Proofs.Ytngppcmdaanheaa.Rm Go.Proofs.Ytngppcmdaanheaa.Sets
open Go.Proofs.Ytngppcmdaanheaa.Reach (pushL pushes)
set_option linter.unusedVariables false
def prE (l : List Fa) : List (Int × Int) := (l.filter (fun f => decide (f.f0 = 4))).map (fun f => (f.f1, f.f3))
theorem prE_le (l : List Fa) : (prE l).length ≤ l.length := by
 unfold prE
 rw [List.length_map]
 exact List.length_filter_le _ _
def pushT (q : List Int) (fs : List Fa) : List Int := fs.foldl (fun q f => pushL q f.f3) q
theorem pushT_snoc (q : List Int) (fs : List Fa) (f : Fa) : pushT q (fs ++ [f]) = pushL (pushT q fs) f.f3 := by
 unfold pushT
 rw [List.foldl_append]
 rfl
theorem pushT_told (n : Int) : ∀ (l : List Fa) (q : List Int), pushT q (toldR l 4 n) = pushes n q (prE l)
 | [], q => rfl
 | f :: l, q => by
  by_cases h4 : f.f0 = 4
  ·by_cases ha : f.f1 = n
   ·have e1 : toldR (f :: l) 4 n = f :: toldR l 4 n := List.filter_cons_of_pos (by simp [isT, h4, ha])
    have e2 : prE (f :: l) = (f.f1, f.f3) :: prE l := by unfold prE; rw [List.filter_cons_of_pos (by simp [h4])]; rfl
    rw [e1, e2]
    have := pushT_told n l (pushL q f.f3)
    unfold pushT pushes at *
    rw [List.foldl_cons, List.foldl_cons, if_pos ha, this]
   ·have e1 : toldR (f :: l) 4 n = toldR l 4 n := List.filter_cons_of_neg (by simp [isT, h4, ha])
    have e2 : prE (f :: l) = (f.f1, f.f3) :: prE l := by unfold prE; rw [List.filter_cons_of_pos (by simp [h4])]; rfl
    rw [e1, e2]
    have := pushT_told n l q
    unfold pushT pushes at *
    rw [List.foldl_cons, if_neg ha, this]
  ·have e1 : toldR (f :: l) 4 n = toldR l 4 n := List.filter_cons_of_neg (by simp [isT, h4])
   have e2 : prE (f :: l) = prE l := by unfold prE; rw [List.filter_cons_of_neg (by simp [h4])]
   rw [e1, e2]
   exact pushT_told n l q
def propL (l : List Fa) (p : ByteArray → Bool) (n : Int) : List Int := ((toldR l 3 n).filter (fun f => p f.f2)).map (·.f3)
def oneL (l : List Fa) (p : ByteArray → Bool) (n : Int) : List Int := bsL l 8 n ++ propL l p n
def allL (l : List Fa) (p : ByteArray → Bool) (met : List Int) : List Int := met.flatMap (oneL l p)
theorem allL_snoc (l : List Fa) (p : ByteArray → Bool) (met : List Int) (n : Int) : allL l p (met ++ [n]) = allL l p met ++ oneL l p n := by
 unfold allL
 rw [List.flatMap_append]
 simp
def okL (p : ByteArray → Bool) (f : Fa) : Bool := decide (f.f0 = 8) || (decide (f.f0 = 3) && p f.f2)
def loadsL (l : List Fa) (p : ByteArray → Bool) (mark : Int) : List Int := (l.filter (fun f => decide (f.f1 ∈ reachL mark (prE l)) && okL p f)).map (·.f3)
theorem oneL_perm (l : List Fa) (p : ByteArray → Bool) (n : Int) : (oneL l p n).Perm ((l.filter (fun f => decide (f.f1 = n) && okL p f)).map (·.f3)) := by
 have h := (List.filter_append_perm (fun f : Fa => decide (f.f0 = 8)) (l.filter (fun f => decide (f.f1 = n) && okL p f))).map (·.f3)
 refine List.Perm.trans ?_ h
 rw [List.map_append]
 unfold oneL bsL propL toldR
 rw [List.filter_filter, List.filter_filter, List.filter_filter]
 refine List.Perm.of_eq ?_
 congr 2 <;> refine List.filter_congr (fun f _ => ?_)
 ·unfold isT okL
  by_cases h8 : f.f0 = 8 <;> by_cases hn : f.f1 = n <;> simp [h8, hn]
 ·unfold isT okL
  by_cases h8 : f.f0 = 8
  ·have h3 : ¬ f.f0 = 3 := by omega
   simp [h8]
  ·by_cases h3 : f.f0 = 3 <;> by_cases hn : f.f1 = n <;> simp [h8, h3, hn]
theorem allL_perm (l : List Fa) (p : ByteArray → Bool) : ∀ met : List Int, met.Nodup → (allL l p met).Perm ((l.filter (fun f => decide (f.f1 ∈ met) && okL p f)).map (·.f3))
 | [], _ => by simp [allL]
 | n :: met, hn => by
  have hn' := List.nodup_cons.1 hn
  have h := (List.filter_append_perm (fun f : Fa => decide (f.f1 = n)) (l.filter (fun f => decide (f.f1 ∈ n :: met) && okL p f))).map (·.f3)
  refine List.Perm.trans ?_ h
  rw [List.map_append, List.filter_filter, List.filter_filter]
  have e1 : l.filter (fun f => decide (f.f1 = n) && (decide (f.f1 ∈ n :: met) && okL p f)) = l.filter (fun f => decide (f.f1 = n) && okL p f) := List.filter_congr (fun f _ => by
   by_cases h : f.f1 = n <;> simp [h])
  have e2 : l.filter (fun f => !decide (f.f1 = n) && (decide (f.f1 ∈ n :: met) && okL p f)) = l.filter (fun f => decide (f.f1 ∈ met) && okL p f) := List.filter_congr (fun f _ => by
   by_cases h : f.f1 = n
   ·have : f.f1 ∉ met := by rw [h]; exact hn'.1
    simp [h, hn'.1]
   ·simp [h])
  rw [e1, e2]
  exact (oneL_perm l p n).append (allL_perm l p met hn'.2)
theorem loads_perm (l : List Fa) (p : ByteArray → Bool) (mark : Int) {met : List Int} (hn : met.Nodup) (hm : ∀ x, x ∈ met ↔ Leads mark (prE l) x) : (allL l p met).Perm (loadsL l p mark) := by
 refine (allL_perm l p met hn).trans (List.Perm.of_eq ?_)
 unfold loadsL
 congr 1
 refine List.filter_congr (fun f _ => ?_)
 have : (f.f1 ∈ met) ↔ f.f1 ∈ reachL mark (prE l) := by rw [hm, mem_reachL]
 simp [this]
theorem loadsL_le (l : List Fa) (p : ByteArray → Bool) (mark : Int) : (loadsL l p mark).length ≤ l.length := by
 unfold loadsL
 rw [List.length_map]
 exact List.length_filter_le _ _
theorem allL_le (l : List Fa) (p : ByteArray → Bool) {met : List Int} (hn : met.Nodup) : (allL l p met).length ≤ l.length := by
 rw [(allL_perm l p met hn).length_eq, List.length_map]
 exact List.length_filter_le _ _
end Go.Proofs.Ytngppcmdaanheaa.Ls
namespace Go.Proofs.Ytngppcmdaanheaa.Ext
open Go.RowKit Go.Proofs.YtngppcmdaanheaaW.PrintWords Go.Proofs.YtngppcmdaanheaaW.PrintLast Go.Proofs.YtngppcmdaanheaaW.PrintMore Go.Proofs.Ytngppcmdaanheaa.Iter Go.Proofs.Ytngppcmdaanheaa.ISet
set_option linter.unusedVariables false
set_option linter.unusedSimpArgs false
abbrev MSet (W : World) (b n : Nat) (S : Int → Bool) : Prop := ISet Try.prog 3 4 W b n S
theorem run_lookup_set {W : World} {b n : Nat} {S : Int → Bool} (h : MSet W b n S) (x : Int) (hx : wfI x) : (Instr.lookup 111 (.map (some b)) (.int .i64 x) false).run Try.prog W = .ok (.bool (S x)) W :=
 h.look Try.underlying3 Try.underlying4 Try.underlying111 (Try.zeroValue4 W) x hx
set_option maxHeartbeats 400000 in
theorem joins_in (gm n : Nat) (S : Int → Bool) (x : Int) (w : World) (h : MSet w gm n S) (hx : wfI x) (hS : S x = true) :
  Calls Try.prog 82 #[.map (some gm), .int .i64 x] w fun e w' => e = .returned (.bool false) ∧ w' = w := by
 have hl := run_lookup_set h x hx
 rw [hS] at hl
 clear h hS
 go_enter Try.func82, Try.ntmps82
 go_wp2
 go_ret
 exact ⟨rfl, rfl⟩
set_option maxHeartbeats 400000 in
theorem joins_new (gm n : Nat) (S : Int → Bool) (x : Int) (w : World) (h : MSet w gm n S) (hn : n < 1000000000000) (hx : wfI x) (hS : S x = false) :
  Calls Try.prog 82 #[.map (some gm), .int .i64 x] w fun e w' => e = .returned (.bool true) ∧ MSet w' gm (n + 1) (fun y => if y = x then true else S y) ∧ Chg (fun i => i = gm) w w' := by
 have hl := run_lookup_set h x hx
 rw [hS] at hl
 obtain ⟨w1, hrun, h1, hc⟩ := h.put (t := 111) Try.underlying3 Try.underlying4 Try.underlying111 (by simp only [maxLen]; omega) x hx true
 have H1 := zm h1
 have HC := zm hc
 clear h hS h1 hc
 go_enter Try.func82, Try.ntmps82
 go_wp2
 go_ret
 exact ⟨rfl, H1.out, HC.out⟩
abbrev QRowI (W : World) (base : Nat) (v : Value) (xs : List Int) : Prop := Kd.Q (Kd.int .i64) 3 W base (fun _ => True) v xs
theorem at_getD' {w : World} {A : Option Addr} {xs : List Int} (h : Kd.C (Kd.int .i64) w A xs.length xs) (k : Nat) (hk : k < xs.length) : ∃ ad, A = some ad ∧ w.cell? (ad.add k) = some (.int .i64 (xs.getD k 0)) := by
 obtain ⟨ad, e, hc⟩ := Kd.at_int h (k : Int) (by omega) (by omega)
 rw [Int.toNat_natCast] at hc
 unfold rd at hc
 rw [Int.toNat_natCast] at hc
 exact ⟨ad, e, hc⟩
theorem at_head' {w : World} {A : Option Addr} {x : Int} {r : List Int} (h : Kd.C (Kd.int .i64) w A (x :: r).length (x :: r)) : ∃ ad, A = some ad ∧ w.cell? ad = some (.int .i64 x) := by
 obtain ⟨ad, e, hc⟩ := at_getD' h 0 (by simp)
 exact ⟨ad, e, by simpa [Addr.add] using hc⟩
structure QAt (W : World) (base gq gm : Nat) (v : Value) (S : Int → Bool) (l : List Int) (n : Nat) (O : Nat → Prop) : Prop where
 blk : W.heap[gq]? = some (.cells #[.map (some gm), v] 113 (0, 0))
 set : MSet W gm n S
 tells : ∀ x, S x = decide (x ∈ l)
 row : QRowI W base v l
 oq : O gq
 om : O gm
 orow : ∀ i, v.ownBlock = some i → O i ∧ i ≠ gq ∧ i ≠ gm
 bq : base ≤ gq
 bm : base ≤ gm
 ne : gq ≠ gm
 nodup : l.Nodup
 wf : ∀ x ∈ l, wfI x
 len : l.length ≤ n
theorem cell2 {W : World} {g : Nat} {a b : Value} {t : TypeId} (h : W.heap[g]? = some (.cells #[a, b] t (0, 0))) :
  W.cell? ⟨g, 0, none⟩ = some a ∧ W.cell? ⟨g, 1, none⟩ = some b ∧ W.frozen? ⟨g, 1, none⟩ = false ∧ W.frozen? ⟨g, 0, none⟩ = false := by
 refine ⟨?_, ?_, ?_, ?_⟩ <;> simp [World.cell?, World.frozen?, h]
theorem qrow_chg {W W' : World} {base : Nat} {v : Value} {xs : List Int} {T : Nat → Prop} (h : QRowI W base v xs) (hc : Chg T W W') (hn : ∀ k, v.ownBlock = some k → ¬ T k) : QRowI W' base v xs := by
 have h1 := Kd.Q_tight (by rfl) h
 exact Kd.Q_mono (Kd.Q_step h1 (fun k hk hlt => hc.block k hlt (hn k hk.symm))) (fun _ _ => trivial)
theorem QAt.chg {W W' : World} {base gq gm n : Nat} {v : Value} {S : Int → Bool} {l : List Int} {O T : Nat → Prop} (h : QAt W base gq gm v S l n O) (hc : Chg T W W') (hT : ∀ i, T i → ¬ O i) : QAt W' base gq gm v S l n O :=
 { h with blk := hc.blk h.blk (fun ht => hT _ ht h.oq), set := h.set.chg hc (fun ht => hT _ ht h.om), row := qrow_chg h.row hc (fun i hi ht => hT i ht (h.orow i hi).1) }
set_option maxHeartbeats 400000 in
theorem new_calls (w : World) :
  Calls Try.prog 67 #[] w fun e w' => e = .returned (.pointer (some ⟨w.heap.size + 1, 0, none⟩)) ∧ QAt w' w.heap.size (w.heap.size + 1) w.heap.size (.slice none 0 0) (fun _ => false) [] 0 (fun i => i = w.heap.size ∨ i = w.heap.size + 1) ∧ Below w.heap.size w w' ∧ w'.heap.size = w.heap.size + 2 := by
 have hmm := @run_makeMap Try.prog
 go_enter Try.func67, Try.ntmps67
 go_wp2
 go_ret
 have h1 : Below w.heap.size w (w.alloc (.map #[] 0)) := (Below.refl _ w).alloc (Nat.le_refl _) _
 have h2 : Below w.heap.size w ((w.alloc (.map #[] 0)).alloc (.cells #[.map (some w.heap.size), .slice none 0 0] 113)) := h1.alloc (by simp) _
 refine ⟨rfl, ⟨?_, ?_, fun x => by simp, Kd.Q_nil _ _ _ _ _, .inr rfl, .inl rfl, fun i hi => by simp [Value.ownBlock] at hi, by omega, by omega, by omega, by simp, by simp, by simp⟩, h2, by simp⟩
 ·have := heap_alloc_new (w.alloc (.map #[] 0)) (.cells #[.map (some w.heap.size), .slice none 0 0] 113)
  simpa using this
 ·exact (ISet.made w).chg ((Chg.refl (fun _ => False) _).alloc _) (fun h => h)
def QIs (W : World) (base gq : Nat) (l : List Int) (n : Nat) (O : Nat → Prop) : Prop := ∃ gm v S, QAt W base gq gm v S l n O
theorem QIs.chg {W W' : World} {base gq n : Nat} {l : List Int} {O T : Nat → Prop} (h : QIs W base gq l n O) (hc : Chg T W W') (hT : ∀ i, T i → ¬ O i) : QIs W' base gq l n O := by
 obtain ⟨gm, v, S, h⟩ := h
 exact ⟨gm, v, S, h.chg hc hT⟩
set_option maxHeartbeats 400000 in
theorem push_in (base gq n : Nat) (l : List Int) (O : Nat → Prop) (x : Int) (w : World) (h : QIs w base gq l n O) (hx : x ∈ l) :
  Calls Try.prog 68 #[.pointer (some ⟨gq, 0, none⟩), .int .i64 x] w fun e w' => e = .returned (.bool false) ∧ Drawn0 w w' := by
 obtain ⟨gm, v, S, h⟩ := h
 obtain ⟨c0, c1, _, _⟩ := cell2 h.blk
 have HJ := zm (fun q => joins_in gm n S x (w.drewN q) h.set (h.wf x hx) (by rw [h.tells, decide_eq_true hx]))
 clear h hx
 go_enter Try.func68, Try.ntmps68
 go_wp2_with (go_at_call 82; refine (HJ.out 0).mono ?_; rintro e w' ⟨rfl, rfl⟩)
 go_ret
 exact ⟨rfl, Drawn0.refl _⟩
def QPost (w : World) (base gq : Nat) (l : List Int) (n : Nat) (O : Nat → Prop) (r : Value) (e : Ending) (w' : World) : Prop :=
 e = .returned r ∧ Chg O w w' ∧ ∃ O2 : Nat → Prop, (∀ i, O2 i → O i ∨ w.heap.size ≤ i) ∧ QIs w' base gq l n O2
theorem push_after {w w1 w2 : World} {base gq gm n : Nat} {v v2 : Value} {S : Int → Bool} {l : List Int} {O : Nat → Prop} {x : Int} (h : QAt w base gq gm v S l n O) (hx : wfI x) (hnx : x ∉ l) (o : Obj)
  (hS1 : MSet w1 gm (n + 1) (fun y => if y = x then true else S y)) (hc1 : Chg (fun i => i = gm) w w1) (hO2 : QRowI w2 base v2 (l ++ [x])) (hg : w1.grownBy w2 v.ownBlock) (hat : v2.ownBlock = v.ownBlock ∨ ∃ b, v2.ownBlock = some b ∧ w1.heap.size ≤ b) :
  (w2.cell? ⟨gq, 1, none⟩ = some v ∧ w2.frozen? ⟨gq, 1, none⟩ = false) ∧ Chg O w (w2.setCell ⟨gq, 1, none⟩ v2) ∧ ∃ O2 : Nat → Prop, (∀ i, O2 i → O i ∨ w.heap.size ≤ i) ∧ QIs (w2.setCell ⟨gq, 1, none⟩ v2) base gq (l ++ [x]) (n + 1) O2 := by
 have hq1 : w1.heap[gq]? = some (.cells #[.map (some gm), v] 113 (0, 0)) := hc1.blk h.blk h.ne
 have hcg : Chg (fun i => v.ownBlock = some i) w1 w2 := (Chg.of_grown hg)
 have hq2 : w2.heap[gq]? = some (.cells #[.map (some gm), v] 113 (0, 0)) := hcg.blk hq1 (fun e => (h.orow _ e).2.1 rfl)
 have hc2 := cell2 hq2
 have hltq : gq < w.heap.size := (Array.getElem?_eq_some_iff.1 h.blk).1
 have hltm : gm < w.heap.size := h.set.lt
 have hv2 : ∀ i, v2.ownBlock = some i → (O i ∨ w.heap.size ≤ i) ∧ i ≠ gq ∧ i ≠ gm := by
  intro i hi
  rcases hat with e | ⟨b, e, hb⟩
  ·rw [e] at hi
   exact ⟨.inl (h.orow i hi).1, (h.orow i hi).2⟩
  ·rw [e] at hi
   injection hi with hi
   have := hc1.size
   exact ⟨.inr (by omega), by omega, by omega⟩
 have hcs : Chg (fun i => i = gq) w2 (w2.setCell ⟨gq, 1, none⟩ v2) := (Chg.refl (fun i => i = gq) w2).setCell (p := ⟨gq, 1, none⟩) (.inl rfl) v2
 refine ⟨⟨hc2.2.1, hc2.2.2.1⟩, ?_, fun i => O i ∨ w.heap.size ≤ i, fun i hi => hi, gm, v2, (fun y => if y = x then true else S y), ?_⟩
 ·exact ((hc1.mono (fun i _ e => by subst e; exact h.om) : Chg O w w1).trans hcg (fun i hi => .inl (h.orow i hi).1)).trans hcs (fun i e => by subst e; exact .inl h.oq)
 ·refine ⟨by simpa using blk_set hq2 1 v2, ((hS1.chg hcg (fun e => (h.orow _ e).2.2 rfl)).chg hcs (fun e => h.ne e.symm)), ?_, qrow_chg hO2 hcs (fun i hi => (hv2 i hi).2.1), .inl h.oq, .inl h.om, hv2, h.bq, h.bm, h.ne, ?_, ?_, ?_⟩
  ·intro y
   by_cases e : y = x
   ·subst e
    simp
   ·simp only [if_neg e]
    rw [h.tells y]
    simp [e]
  ·rw [List.nodup_append]
   exact ⟨h.nodup, by simp, fun a ha b hb => by simp at hb; subst hb; rintro rfl; exact hnx ha⟩
  ·intro y hy
   rw [List.mem_append] at hy
   rcases hy with hy | hy
   ·exact h.wf y hy
   ·simp at hy
    subst hy
    exact hx
  ·have := h.len
   simp
   omega
set_option maxHeartbeats 1000000 in
theorem push_new (base gq n : Nat) (l : List Int) (O : Nat → Prop) (x : Int) (w : World) (h : QIs w base gq l n O) (hb : base ≤ w.heap.size) (hn : n < 1000000000000) (hx : wfI x) (hnx : x ∉ l) :
  Calls Try.prog 68 #[.pointer (some ⟨gq, 0, none⟩), .int .i64 x] w (QPost w base gq (l ++ [x]) (n + 1) O (.bool true)) := by
 obtain ⟨gm, v, S, h⟩ := h
 obtain ⟨c0, c1, f1, _⟩ := cell2 h.blk
 have HJ := zm (joins_new gm n S x w h.set hn hx (by rw [h.tells, decide_eq_false hnx]))
 have H := zm h
 have HNX := zm hnx
 have HX := zm hx
 have hl := h.len
 obtain ⟨A, c, hv, _⟩ := Kd.Q_slice h.row
 subst hv
 clear h hnx hx
 go_enter Try.func68, Try.ntmps68
 go_wp2_with (first
  | (go_at_call 82; refine HJ.out.mono ?_; rintro e w1 ⟨rfl, hS1, hc1⟩; have HS1 := zm hS1; have HC1 := zm hc1; have d1 := hc1.cell c1 (fun e => H.out.ne e); clear hS1 hc1)
  | ((with_reducible refine gate_builtin (b := .append) rfl ?_); at_builtin; go_loud (refine Kd.Q_append (Kd.int .i64) (w0 := w1) base rfl _ _ 42 3 (.int .i64 0) 8 rfl Try.underlying42 infoI rfl (by decide) (by decide) (.slice A l.length c) l x [.int .i64 x] (fun _ => True) (fun _ => False) rfl rfl rfl (fun _ hk => hk.elim) (fun _ _ => trivial) (qrow_chg H.out.row HC1.out (fun i hi e => (H.out.orow i hi).2.2 e)) (Below.refl _ _) (Nat.le_trans hb HC1.out.size) (by omega) ?_; intro v2 w2 hO2 _ hg hat; obtain ⟨A2, c2, hv2, _⟩ := Kd.Q_slice hO2; subst hv2; have HP := zm (push_after H.out HX.out HNX.out (.map #[] 0) HS1.out HC1.out hO2 hg hat); obtain ⟨⟨d2, f2⟩, _⟩ := HP.out; clear hO2 hg hat)))
 go_ret
 have hP := HP.out.2
 simp only [List.length_append, List.length_cons, List.length_nil, Nat.zero_add] at hP
 exact ⟨rfl, hP⟩
set_option maxHeartbeats 400000 in
theorem pop_empty (base gq n : Nat) (O : Nat → Prop) (w : World) (h : QIs w base gq [] n O) :
  Calls Try.prog 69 #[.pointer (some ⟨gq, 0, none⟩)] w fun e w' => e = .returned (.tuple #[.int .i64 0, .bool false]) ∧ Drawn0 w w' := by
 obtain ⟨gm, v, S, h⟩ := h
 obtain ⟨c0, c1, _, _⟩ := cell2 h.blk
 obtain ⟨A, c, rfl, _⟩ := Kd.Q_slice h.row
 rw [List.length_nil] at c1
 clear h
 go_enter Try.func69, Try.ntmps69
 go_wp2
 go_ret2
 exact ⟨rfl, Drawn0.refl _⟩
theorem pop_after {w w2 : World} {base gq gm n : Nat} {v v1 : Value} {S : Int → Bool} {x : Int} {l : List Int} {O : Nat → Prop} (h : QAt w base gq gm v S (x :: l) n O)
  (hv1 : QRowI w base v1 l) (ho : ∀ i, v1.ownBlock = some i → v.ownBlock = some i) (hS : MSet w2 gm n (fun y => if y = x then false else S y)) (hc : Chg (fun i => i = gm) (w.setCell ⟨gq, 1, none⟩ v1) w2) :
  Chg O w w2 ∧ QIs w2 base gq l n O := by
 have hcs : Chg (fun i => i = gq) w (w.setCell ⟨gq, 1, none⟩ v1) := (Chg.refl (fun i => i = gq) w).setCell (p := ⟨gq, 1, none⟩) (.inl rfl) v1
 have hq1 : (w.setCell ⟨gq, 1, none⟩ v1).heap[gq]? = some (.cells #[.map (some gm), v1] 113 (0, 0)) := by simpa using blk_set h.blk 1 v1
 refine ⟨((hcs.mono (fun i _ e => by subst e; exact h.oq) : Chg O w _)).trans hc (fun i e => by subst e; exact .inl h.om), gm, v1, _, hc.blk hq1 h.ne, hS, ?_, ?_, h.oq, h.om, fun i hi => h.orow i (ho i hi), h.bq, h.bm, h.ne, (List.nodup_cons.1 h.nodup).2, fun y hy => h.wf y (List.mem_cons_of_mem _ hy), ?_⟩
 ·intro y
  by_cases e : y = x
  ·subst e
   simp [(List.nodup_cons.1 h.nodup).1]
  ·simp only [if_neg e]
   rw [h.tells y]
   simp [e]
 ·exact qrow_chg (qrow_chg hv1 hcs (fun i hi => (h.orow i (ho i hi)).2.1)) hc (fun i hi => (h.orow i (ho i hi)).2.2)
 ·have := h.len
  simp at this
  omega
set_option maxHeartbeats 1000000 in
theorem pop_some (base gq n : Nat) (x : Int) (l : List Int) (O : Nat → Prop) (w : World) (h : QIs w base gq (x :: l) n O) :
  Calls Try.prog 69 #[.pointer (some ⟨gq, 0, none⟩)] w (fun e w' => e = .returned (.tuple #[.int .i64 x, .bool true]) ∧ Chg O w w' ∧ QIs w' base gq l n O) := by
 obtain ⟨gm, v, S, h⟩ := h
 obtain ⟨c0, c1, f1, _⟩ := cell2 h.blk
 obtain ⟨A, c, hv, hlc⟩ := Kd.Q_slice h.row
 subst hv
 obtain ⟨A', c', hv', _, hC⟩ := Kd.Q_reads h.row
 injection hv' with e1 e2 e3
 subst e1 e3
 obtain ⟨ad, rfl, hcx⟩ := at_head' hC
 have hdrop := Kd.Q_drop (k := 1) h.row (by simp)
 have hl1 : (x :: l).drop 1 = l := rfl
 rw [hl1] at hdrop
 have H := zm h
 clear hC hlc
 simp only [List.length_cons] at c1
 by_cases hc1 : c = 1
 ·subst hc1
  rw [if_pos rfl] at hdrop
  have HD := zm (show QRowI w base (.slice (some ad) l.length 0) l from by simpa using hdrop)
  have HS := zm (H.out.set.chg ((Chg.refl (fun i => i = gq) w).setCell (p := ⟨gq, 1, none⟩) (.inl rfl) (.slice (some ad) l.length 0)) (fun e => H.out.ne e.symm))
  have HX := zm (H.out.wf x (by simp))
  have HOW := zm (show ∀ i, (Value.slice (some ad) l.length 0).ownBlock = some i → (Value.slice (some ad) (l.length + 1) 1).ownBlock = some i from fun i h => h)
  clear hdrop
  go_enter Try.func69, Try.ntmps69
  go_wp2_with (((with_reducible refine gate_builtin (b := .delete) rfl ?_); at_delete; go_loud (refine wpList_del_set rfl _ _ 111 rfl Try.underlying3 Try.underlying111 rfl HS.out x rfl HX.out ?_; intro w2 hS2 hc2; have HP := zm (pop_after H.out HD.out HOW.out hS2 hc2); clear hS2 hc2)))
  go_ret2
  exact ⟨rfl, HP.out.1, HP.out.2⟩
 ·rw [if_neg hc1] at hdrop
  have HD := zm (show QRowI w base (.slice (some ⟨ad.block, ad.off + 1, none⟩) l.length (c - 1)) l from by simpa [Addr.add, show (Kd.int .i64).sz = 1 from rfl] using hdrop)
  have HS := zm (H.out.set.chg ((Chg.refl (fun i => i = gq) w).setCell (p := ⟨gq, 1, none⟩) (.inl rfl) (.slice (some ⟨ad.block, ad.off + 1, none⟩) l.length (c - 1))) (fun e => H.out.ne e.symm))
  have HX := zm (H.out.wf x (by simp))
  have HOW := zm (show ∀ i, (Value.slice (some ⟨ad.block, ad.off + 1, none⟩) l.length (c - 1)).ownBlock = some i → (Value.slice (some ad) (l.length + 1) c).ownBlock = some i from fun i h => h)
  clear hdrop
  go_enter Try.func69, Try.ntmps69
  go_wp2_with (((with_reducible refine gate_builtin (b := .delete) rfl ?_); at_delete; go_loud (refine wpList_del_set rfl _ _ 111 rfl Try.underlying3 Try.underlying111 rfl HS.out x rfl HX.out ?_; intro w2 hS2 hc2; have HP := zm (pop_after H.out HD.out HOW.out hS2 hc2); clear hS2 hc2)))
  go_ret2
  exact ⟨rfl, HP.out.1, HP.out.2⟩
theorem QIs.tight {W : World} {base gq n : Nat} {l : List Int} {O : Nat → Prop} (h : QIs W base gq l n O) : QIs W base gq l n (fun i => O i ∧ i < W.heap.size) := by
 obtain ⟨gm, v, S, h⟩ := h
 exact ⟨gm, v, S, { h with oq := ⟨h.oq, (Array.getElem?_eq_some_iff.1 h.blk).1⟩, om := ⟨h.om, h.set.lt⟩, orow := fun i hi => ⟨⟨(h.orow i hi).1, Kd.Q_lt h.row i hi⟩, (h.orow i hi).2⟩ }⟩
variable {w W W' : World} {gq n : Nat} {T : List Int} {R R' S : Nat → Prop}
end Go.Proofs.Ytngppcmdaanheaa.Ext
namespace Go.Proofs.Ytngppcmdaanheaa.Ls
open Go.RowKit Go.Maps Go.Proofs.Ytngppcmdaanheaa.Iter Go.Proofs.Ytngppcmdaanheaa.ISet Go.Proofs.Ytngppcmdaanheaa.Pr Go.Proofs.Ytngppcmdaanheaa.Ext Go.Proofs.YtngppcmdaanheaaW.PrintWords Go.Proofs.YtngppcmdaanheaaW.PrintLast Go.Proofs.YtngppcmdaanheaaW.PrintMore
open Go.Proofs.Ytngppcmdaanheaa.Reach (pushL)
set_option linter.unusedVariables false
set_option linter.unusedSimpArgs false
theorem ISet.same {P : Program} {K E : TypeId} {W : World} {b n : Nat} {S S' : Int → Bool} (h : ISet P K E W b n S) (hS : ∀ x, S x = S' x) : ISet P K E W b n S' := by
 have : S = S' := funext hS
 rwa [← this]
def mkD (D : Nat) : Deferred := { target := .collected D, args := #[] }
theorem leaves_marks {F : Fence} {n : Nat} {P : Program} {fn : Func} {tmps : Array Value} {R : Ending → World → Prop} : ∀ (Ds : List Nat) (W : World), Ds.Nodup → (∀ D ∈ Ds, W.heap[D]? = some (.deferred (some []))) →
  (∀ W', Chg (fun i => i ∈ Ds) W W' → LeavesIn F n P fn tmps R [] .returning W') → LeavesInM F n P fn tmps R (Ds.map mkD) .returning W
 | [], W, _, _, h => h W (Chg.refl _ _)
 | D :: Ds, W, hn, hD, h => by
  have hnd := List.nodup_cons.1 hn
  refine ⟨by simp, .inl ⟨D, _, rfl, run_takeDeferred (hD D (List.mem_cons_self ..)), ?_⟩⟩
  refine leaves_marks Ds _ hnd.2 (fun D' hD' => ?_) (fun W' hc => h W' ?_)
  ·refine (Chg.put1 W D _).blk (hD D' (List.mem_cons_of_mem _ hD')) (fun e => hnd.1 (e ▸ hD'))
  ·exact ((Chg.put1 W D _).mono (fun i _ e => by subst e; exact List.mem_cons_self ..)).trans hc (fun i hi => .inl (List.mem_cons_of_mem _ hi))
structure LdI (w : World) (gq gm b5 b7 b9 : Nat) (ask : Value) (Ds : List Nat) (met q : List Int) (n : Nat) (ys : List Int) (O : Nat → Prop) (W : World) : Prop where
 bel : Below w.heap.size w W
 que : ∃ (base : Nat) (Oq Or : Nat → Prop), base ≤ W.heap.size ∧ QIs W base gq q n Oq ∧ BoxRow W w.heap.size b9 ys Or ∧ (∀ i, Oq i → O i ∧ ¬ Or i ∧ i ≠ gm ∧ i ≠ b5 ∧ i ≠ b7 ∧ i ∉ Ds) ∧ (∀ i, Or i → O i ∧ i ≠ gm ∧ i ≠ b5 ∧ i ≠ b7 ∧ i ∉ Ds)
 set : MSet W gm met.length (fun x => decide (x ∈ met))
 box5 : W.cell? ⟨b5, 0, none⟩ = some ask
 box7 : W.cell? ⟨b7, 0, none⟩ = some (.pointer (some ⟨gq, 0, none⟩))
 own : O gm ∧ O b5 ∧ O b7
 ne : gm ≠ b5 ∧ gm ≠ b7
 low : ∀ i, O i → w.heap.size ≤ i ∧ i < W.heap.size
 ds : ∀ D ∈ Ds, O D ∧ W.heap[D]? = some (.deferred (some []))
 nds : gm ∉ Ds ∧ Ds.Nodup
section
variable {w W W' : World} {gq gm b5 b7 b9 n : Nat} {ask : Value} {Ds : List Nat} {met q ys : List Int} {O T : Nat → Prop}
theorem LdI.chg (h : LdI w gq gm b5 b7 b9 ask Ds met q n ys O W) (hc : Chg T W W') (hT : ∀ i, T i → w.heap.size ≤ i ∧ ¬ O i) : LdI w gq gm b5 b7 b9 ask Ds met q n ys O W' := by
 obtain ⟨base, Oq, Or, h1, h2, h3, h4, h5⟩ := h.que
 refine ⟨h.bel.trans (hc.below h.bel.size (fun i hi => (hT i hi).1)), ⟨base, Oq, Or, Nat.le_trans h1 hc.size, h2.chg hc (fun i hi ho => (hT i hi).2 (h4 i ho).1), h3.chg hc (fun i hi ho => (hT i hi).2 (h5 i ho).1), h4, h5⟩, h.set.chg hc (fun e => (hT _ e).2 h.own.1), hc.cell h.box5 (fun e => (hT _ e).2 h.own.2.1), hc.cell h.box7 (fun e => (hT _ e).2 h.own.2.2), h.own, h.ne, fun i hi => ⟨(h.low i hi).1, Nat.lt_of_lt_of_le (h.low i hi).2 hc.size⟩, fun D hD => ⟨(h.ds D hD).1, hc.blk (h.ds D hD).2 (fun e => (hT _ e).2 (h.ds D hD).1)⟩, h.nds⟩
theorem LdI.quiet (h : LdI w gq gm b5 b7 b9 ask Ds met q n ys O W) (hb : Below W.heap.size W W') : LdI w gq gm b5 b7 b9 ask Ds met q n ys O W' :=
 h.chg (Chg.of_below hb (fun _ => False)) (fun _ e => e.elim)
theorem LdI.abide (w : World) (gq gm b5 b7 b9 : Nat) (ask : Value) (Ds : List Nat) (met q : List Int) (n : Nat) (ys : List Int) : Abide w.heap.size (fun O W => LdI w gq gm b5 b7 b9 ask Ds met q n ys O W) :=
 fun O A B T h hc hT => h.chg hc hT
theorem LdI.less {O2 : Nat → Prop} (h : LdI w gq gm b5 b7 b9 ask Ds met q n ys O W) (hO : ∀ i, O i → O2 i) (hl : ∀ i, O2 i → w.heap.size ≤ i ∧ i < W.heap.size) : LdI w gq gm b5 b7 b9 ask Ds met q n ys O2 W := by
 obtain ⟨base, Oq, Or, h1, h2, h3, h4, h5⟩ := h.que
 exact ⟨h.bel, ⟨base, Oq, Or, h1, h2, h3, fun i hi => ⟨hO i (h4 i hi).1, (h4 i hi).2⟩, fun i hi => ⟨hO i (h5 i hi).1, (h5 i hi).2⟩⟩, h.set, h.box5, h.box7, ⟨hO _ h.own.1, hO _ h.own.2.1, hO _ h.own.2.2⟩, h.ne, hl, fun D hD => ⟨hO _ (h.ds D hD).1, (h.ds D hD).2⟩, h.nds⟩
theorem LdI.all (h : LdI w gq gm b5 b7 b9 ask Ds met q n ys O W) : LdI w gq gm b5 b7 b9 ask Ds met q n ys (fun i => w.heap.size ≤ i ∧ i < W.heap.size) W := h.less (fun i hi => h.low i hi) (fun i hi => hi)
def More (O : Nat → Prop) (W W' : World) : Nat → Prop := fun i => (O i ∨ W.heap.size ≤ i) ∧ i < W'.heap.size
theorem grow_more (O : Nat → Prop) (W W' : World) : Grow O W (More O W W') W' := fun i hi => hi
theorem LdI.push (h : LdI w gq gm b5 b7 b9 ask Ds met q n ys O W) (hn : n < 1000000000000) (x : Int) (hx : wfI x) :
  Calls Try.prog 68 #[.pointer (some ⟨gq, 0, none⟩), .int .i64 x] W fun e W' => (∃ b, e = .returned (.bool b)) ∧ LdI w gq gm b5 b7 b9 ask Ds met (pushL q x) (n + 1) ys (More O W W') W' ∧ Chg O W W' := by
 obtain ⟨base, Oq, Or, h1, h2, h3, h4, h5⟩ := h.que
 have hmore : ∀ W', W.heap.size ≤ W'.heap.size → ∀ i, O i → More O W W' i := fun W' hs i hi => ⟨.inl hi, Nat.lt_of_lt_of_le (h.low i hi).2 hs⟩
 have hlow : ∀ W', ∀ i, More O W W' i → w.heap.size ≤ i ∧ i < W'.heap.size := fun W' i hi => ⟨hi.1.elim (fun h' => (h.low i h').1) (fun h' => Nat.le_trans h.bel.size h'), hi.2⟩
 by_cases hm : x ∈ q
 ·refine (push_in base gq n q Oq x W h2 hm).mono ?_
  rintro e W' ⟨rfl, hd⟩
  have hb := hd.below
  have hq := h.quiet hb
  refine ⟨⟨_, rfl⟩, ?_, Chg.of_below hb _⟩
  obtain ⟨base', Oq', Or', g1, ⟨gs, v', S, g2⟩, g3, g4, g5⟩ := hq.que
  have e : pushL q x = q := by unfold pushL; rw [if_pos hm]
  rw [e]
  have hq' : LdI w gq gm b5 b7 b9 ask Ds met q (n + 1) ys O W' := ⟨hq.bel, ⟨base', Oq', Or', g1, ⟨gs, v', S, { g2 with set := g2.set.mono (Nat.le_succ _), len := Nat.le_succ_of_le g2.len }⟩, g3, g4, g5⟩, hq.set, hq.box5, hq.box7, hq.own, hq.ne, hq.low, hq.ds, hq.nds⟩
  exact hq'.less (hmore W' hb.size) (hlow W')
 ·refine (push_new base gq n q Oq x W h2 h1 hn hx hm).mono ?_
  rintro e W' ⟨rfl, hc, O2, hO2, hq⟩
  have hcO : Chg O W W' := hc.mono (fun i _ hi => (h4 i hi).1)
  refine ⟨⟨_, rfl⟩, ?_, hcO⟩
  have e : pushL q x = q ++ [x] := by unfold pushL; rw [if_neg hm]
  rw [e]
  have hlt := fun i hi => (h.low i hi).2
  refine ⟨h.bel.trans (hc.below h.bel.size (fun i hi => (h.low i (h4 i hi).1).1)), ⟨base, _, Or, Nat.le_trans h1 hc.size, hq.tight, h3.chg hc (fun i hi ho => (h4 i hi).2.1 ho), fun i hi => ?_, fun i hi => ⟨hmore W' hc.size i (h5 i hi).1, (h5 i hi).2⟩⟩, h.set.chg hc (fun e => (h4 _ e).2.2.1 rfl), hc.cell h.box5 (fun e => (h4 _ e).2.2.2.1 rfl), hc.cell h.box7 (fun e => (h4 _ e).2.2.2.2.1 rfl), ⟨hmore W' hc.size _ h.own.1, hmore W' hc.size _ h.own.2.1, hmore W' hc.size _ h.own.2.2⟩, h.ne, hlow W', fun D hD => ⟨hmore W' hc.size _ (h.ds D hD).1, hc.blk (h.ds D hD).2 (fun e => (h4 _ e).2.2.2.2.2 hD)⟩, h.nds⟩
  rcases hO2 i hi.1 with ho | ho
  ·exact ⟨hmore W' hc.size i (h4 i ho).1, (h4 i ho).2⟩
  ·have e1 := hlt gm h.own.1
   have e2 := hlt b5 h.own.2.1
   have e3 := hlt b7 h.own.2.2
   refine ⟨⟨.inr ho, hi.2⟩, fun hr => ?_, by omega, by omega, by omega, fun hd => ?_⟩
   ·have := hlt i (h5 i hr).1
    omega
   ·have := hlt i (h.ds i hd).1
    omega
theorem LdI.pop {x : Int} (h : LdI w gq gm b5 b7 b9 ask Ds met (x :: q) n ys O W) :
  Calls Try.prog 69 #[.pointer (some ⟨gq, 0, none⟩)] W fun e W' => e = .returned (.tuple #[.int .i64 x, .bool true]) ∧ LdI w gq gm b5 b7 b9 ask Ds met q n ys O W' := by
 obtain ⟨base, Oq, Or, h1, h2, h3, h4, h5⟩ := h.que
 refine (pop_some base gq n x q Oq W h2).mono ?_
 rintro e W' ⟨rfl, hc, hq⟩
 exact ⟨rfl, h.bel.trans (hc.below h.bel.size (fun i hi => (h.low i (h4 i hi).1).1)), ⟨base, Oq, Or, Nat.le_trans h1 hc.size, hq, h3.chg hc (fun i hi ho => (h4 i hi).2.1 ho), h4, h5⟩, h.set.chg hc (fun e => (h4 _ e).2.2.1 rfl), hc.cell h.box5 (fun e => (h4 _ e).2.2.2.1 rfl), hc.cell h.box7 (fun e => (h4 _ e).2.2.2.2.1 rfl), h.own, h.ne, fun i hi => ⟨(h.low i hi).1, Nat.lt_of_lt_of_le (h.low i hi).2 hc.size⟩, fun D hD => ⟨(h.ds D hD).1, hc.blk (h.ds D hD).2 (fun e => (h4 _ e).2.2.2.2.2 hD)⟩, h.nds⟩
theorem LdI.pop_none (h : LdI w gq gm b5 b7 b9 ask Ds met [] n ys O W) :
  Calls Try.prog 69 #[.pointer (some ⟨gq, 0, none⟩)] W fun e W' => e = .returned (.tuple #[.int .i64 0, .bool false]) ∧ LdI w gq gm b5 b7 b9 ask Ds met [] n ys O W' := by
 obtain ⟨base, Oq, Or, h1, h2, h3, h4, h5⟩ := h.que
 refine (pop_empty base gq n Oq W h2).mono ?_
 rintro e W' ⟨rfl, hd⟩
 exact ⟨rfl, h.quiet hd.below⟩
theorem LdI.look (h : LdI w gq gm b5 b7 b9 ask Ds met q n ys O W) (x : Int) (hx : wfI x) : (Instr.lookup 99 (.map (some gm)) (.int .i64 x) false).run Try.prog W = .ok (.bool (decide (x ∈ met))) W :=
 h.set.look Try.underlying3 Try.underlying4 Try.underlying99 (Try.zeroValue4 W) x hx
theorem LdI.put (h : LdI w gq gm b5 b7 b9 ask Ds met q n ys O W) (x : Int) (hx : wfI x) (hl : met.length < 1000000000000) :
  ∃ W', (Instr.mapUpdate 99 (.map (some gm)) (.int .i64 x) (.bool true)).run Try.prog W = .ok () W' ∧ LdI w gq gm b5 b7 b9 ask Ds (met ++ [x]) q n ys O W' := by
 obtain ⟨base, Oq, Or, h1, h2, h3, h4, h5⟩ := h.que
 obtain ⟨W', hrun, hs, hc⟩ := h.set.put (t := 99) Try.underlying3 Try.underlying4 Try.underlying99 (by simp only [maxLen]; omega) x hx true
 refine ⟨W', hrun, h.bel.trans (hc.below h.bel.size (fun i e => by rw [e]; exact (h.low _ h.own.1).1)), ⟨base, Oq, Or, Nat.le_trans h1 hc.size, h2.chg hc (fun i e ho => (h4 i ho).2.2.1 e), h3.chg hc (fun i e ho => (h5 i ho).2.1 e), h4, h5⟩, ?_, hc.cell h.box5 (fun e => h.ne.1 e.symm), hc.cell h.box7 (fun e => h.ne.2 e.symm), h.own, h.ne, fun i hi => ⟨(h.low i hi).1, Nat.lt_of_lt_of_le (h.low i hi).2 hc.size⟩, fun D hD => ⟨(h.ds D hD).1, hc.blk (h.ds D hD).2 (fun e => h.nds.1 (e ▸ hD))⟩, h.nds⟩
 rw [List.length_append]
 refine ISet.same hs (fun y => ?_)
 by_cases e : y = x
 ·subst e; simp
 ·rw [if_neg e]; simp [e]
theorem LdI.row (h : LdI w gq gm b5 b7 b9 ask Ds met q n ys O W) : ∃ A c, W.cell? ⟨b9, 0, none⟩ = some (.slice A ys.length c) ∧ OwnI W w.heap.size (.slice A ys.length c) ys ∧ W.frozen? ⟨b9, 0, none⟩ = false ∧ ∀ i, (Value.slice A ys.length c).ownBlock = some i → i ∉ Ds := by
 obtain ⟨base, Oq, Or, h1, h2, h3, h4, h5⟩ := h.que
 obtain ⟨v, hv1, hv2, hv3⟩ := h3.out
 obtain ⟨A, c, rfl, _, _⟩ := own_slice3 hv2
 exact ⟨A, c, hv1, hv2, h3.free, fun i hi => (h5 i (hv3 i hi).1).2.2.2.2⟩
theorem LdI.store {w1 : World} {v v1 : Value} {zs : List Int} (h : LdI w gq gm b5 b7 b9 ask Ds met q n ys O W) (hv : W.cell? ⟨b9, 0, none⟩ = some v) (hg : W.grownBy w1 v.ownBlock) (hO : OwnI w1 w.heap.size v1 zs) (hat : v1.ownBlock = v.ownBlock ∨ ∃ b, v1.ownBlock = some b ∧ W.heap.size ≤ b) :
  (w1.cell? ⟨b9, 0, none⟩ = some v ∧ w1.frozen? ⟨b9, 0, none⟩ = false) ∧ Chg O W (w1.setCell ⟨b9, 0, none⟩ v1) ∧ LdI w gq gm b5 b7 b9 ask Ds met q n zs (More O W (w1.setCell ⟨b9, 0, none⟩ v1)) (w1.setCell ⟨b9, 0, none⟩ v1) := by
 obtain ⟨base, Oq, Or, h1, h2, h3, h4, h5⟩ := h.que
 obtain ⟨v', hv1, hv2, hv3⟩ := h3.out
 obtain rfl : v = v' := by rw [hv] at hv1; exact Option.some.inj hv1
 have h0 : Chg (fun i => v.ownBlock = some i) W w1 := Chg.of_grown hg
 have hcell : w1.cell? ⟨b9, 0, none⟩ = some v := h0.cell hv (fun e => (hv3 _ e).2 rfl)
 have hfr : w1.frozen? ⟨b9, 0, none⟩ = false := by
  rw [frozen_chg h0 h3.lt (fun e => (hv3 _ e).2 rfl)]
  exact h3.free
 have hs1 : Chg (fun i => i = b9) w1 (w1.setCell ⟨b9, 0, none⟩ v1) := (Chg.refl (fun i => i = b9) w1).setCell (p := ⟨b9, 0, none⟩) (.inl rfl) v1
 have hcr : Chg Or W (w1.setCell ⟨b9, 0, none⟩ v1) := (h0.mono (fun i _ hi => (hv3 i hi).1)).trans hs1 (fun i e => by subst e; exact .inl h3.own)
 have hcO : Chg O W (w1.setCell ⟨b9, 0, none⟩ v1) := hcr.mono (fun i _ hi => (h5 i hi).1)
 have hb9 := h3.lt
 have hv1' : ∀ i, v1.ownBlock = some i → (Or i ∨ W.heap.size ≤ i) ∧ i ≠ b9 := by
  intro i hi
  rcases hat with e | ⟨b, e, hb⟩
  ·rw [e] at hi
   exact ⟨.inl (hv3 i hi).1, (hv3 i hi).2⟩
  ·rw [e] at hi
   injection hi with hi
   exact ⟨.inr (by omega), by omega⟩
 have hl1 := own_lt (Kd.own_of_R hO)
 have hsz : (w1.setCell ⟨b9, 0, none⟩ v1).heap.size = w1.heap.size := by simp [World.setCell]
 have hlt := fun i hi => (h.low i hi).2
 refine ⟨⟨hcell, hfr⟩, hcO, ?_⟩
 generalize hW' : w1.setCell ⟨b9, 0, none⟩ v1 = W' at *
 have hmore : ∀ i, O i → More O W W' i := fun i hi => ⟨.inl hi, Nat.lt_of_lt_of_le (hlt i hi) hcO.size⟩
 refine ⟨h.bel.trans (hcO.below h.bel.size (fun i hi => (h.low i hi).1)), ⟨base, Oq, More Or W W', Nat.le_trans h1 hcr.size, h2.chg hcr (fun i hi ho => (h4 i ho).2.1 hi), ?_, fun i hi => ⟨hmore i (h4 i hi).1, fun hr => ?_, (h4 i hi).2.2⟩, fun i hi => ?_⟩, h.set.chg hcr (fun e => (h5 _ e).2.1 rfl), hcr.cell h.box5 (fun e => (h5 _ e).2.2.1 rfl), hcr.cell h.box7 (fun e => (h5 _ e).2.2.2.1 rfl), ⟨hmore _ h.own.1, hmore _ h.own.2.1, hmore _ h.own.2.2⟩, h.ne, fun i hi => ⟨hi.1.elim (fun h' => (h.low i h').1) (fun h' => Nat.le_trans h.bel.size h'), hi.2⟩, fun D hD => ⟨hmore _ (h.ds D hD).1, hcr.blk (h.ds D hD).2 (fun e => (h5 _ e).2.2.2.2 hD)⟩, h.nds⟩
 ·refine ⟨⟨v1, by rw [← hW']; exact World.cell?_setCell_same' _ _ _ (by rw [hcell]; rfl), own_chg hO hs1 (fun i hi e => (hv1' i hi).2 e), fun i hi => ⟨⟨(hv1' i hi).1, by rw [hsz]; exact hl1 i hi⟩, (hv1' i hi).2⟩⟩, by rw [← hW', World.frozen?_setCell]; exact hfr, Nat.lt_of_lt_of_le h3.lt hcr.size, ⟨.inl h3.own, Nat.lt_of_lt_of_le h3.lt hcr.size⟩⟩
 ·rcases hr.1 with hr' | hr'
  ·exact (h4 i hi).2.1 hr'
  ·have := hlt i (h4 i hi).1; omega
 ·rcases hi.1 with hr' | hr'
  ·exact ⟨hmore i (h5 i hr').1, (h5 i hr').2⟩
  ·have e1 := hlt gm h.own.1
   have e2 := hlt b5 h.own.2.1
   have e3 := hlt b7 h.own.2.2
   exact ⟨⟨.inr hr', hi.2⟩, by omega, by omega, by omega, fun hd => by have := hlt i (h.ds i hd).1; omega⟩
theorem LdI.mark {D : Nat} (h : LdI w gq gm b5 b7 b9 ask Ds met q n ys O W) (hD : w.heap.size ≤ D) (hn : ¬ O D) (hb : W.heap[D]? = some (.deferred (some []))) : LdI w gq gm b5 b7 b9 ask (D :: Ds) met q n ys (fun i => O i ∨ i = D) W := by
 obtain ⟨base, Oq, Or, h1, h2, h3, h4, h5⟩ := h.que
 have hlt := (Array.getElem?_eq_some_iff.1 hb).1
 refine ⟨h.bel, ⟨base, Oq, Or, h1, h2, h3, fun i hi => ?_, fun i hi => ?_⟩, h.set, h.box5, h.box7, ⟨.inl h.own.1, .inl h.own.2.1, .inl h.own.2.2⟩, h.ne, fun i hi => hi.elim (fun e => h.low i e) (fun e => by subst e; exact ⟨hD, hlt⟩), fun E hE => ?_, ?_, ?_⟩
 ·have g := h4 i hi
  refine ⟨.inl g.1, g.2.1, g.2.2.1, g.2.2.2.1, g.2.2.2.2.1, fun hm => ?_⟩
  rcases List.mem_cons.1 hm with e | hm
  ·exact hn (e ▸ g.1)
  ·exact g.2.2.2.2.2 hm
 ·have g := h5 i hi
  refine ⟨.inl g.1, g.2.1, g.2.2.1, g.2.2.2.1, fun hm => ?_⟩
  rcases List.mem_cons.1 hm with e | hm
  ·exact hn (e ▸ g.1)
  ·exact g.2.2.2.2 hm
 ·rcases List.mem_cons.1 hE with e | hE
  ·subst e; exact ⟨.inr rfl, hb⟩
  ·exact ⟨.inl (h.ds E hE).1, (h.ds E hE).2⟩
 ·intro hm
  rcases List.mem_cons.1 hm with e | hm
  ·exact hn (e ▸ h.own.1)
  ·exact h.nds.1 hm
 ·exact List.nodup_cons.2 ⟨fun hm => hn (h.ds D hm).1, h.nds.2⟩
theorem LdI.start {w W1 W2 W3 : World} {t5 : TypeId} {ask : Value} (h1 : W1 = w.alloc (.cells #[ask] t5)) (hq : QAt W2 W1.heap.size (W1.heap.size + 1) W1.heap.size (.slice none 0 0) (fun _ => false) [] 0 (fun i => i = W1.heap.size ∨ i = W1.heap.size + 1)) (hb : Below W1.heap.size W1 W2) (hs : W2.heap.size = W1.heap.size + 2)
  (h3 : W3 = ((W2.alloc (.cells #[.pointer (some ⟨W1.heap.size + 1, 0, none⟩)] 97)).alloc (.map #[] 0)).alloc (.cells #[.slice none 0 0] 42)) :
  LdI w (w.heap.size + 1 + 1) (w.heap.size + 1 + 2 + 1) w.heap.size (w.heap.size + 1 + 2) (w.heap.size + 1 + 2 + 1 + 1) ask [] [] [] 0 [] (fun i => w.heap.size ≤ i ∧ i < W3.heap.size) W3 := by
 have e1 : W1.heap.size = w.heap.size + 1 := by rw [h1]; simp
 have hb1 : Below w.heap.size w W1 := by rw [h1]; exact (Below.refl _ w).alloc (Nat.le_refl _) _
 have hc5 : W1.cell? ⟨w.heap.size, 0, none⟩ = some ask := by rw [h1]; exact (cell_of_blk (heap_alloc_new w _)).1
 have hb2 : Below w.heap.size w W2 := hb1.trans (hb.mono hb1.size)
 have hc23 : Chg (fun _ => False) W2 W3 := by rw [h3]; exact (((Chg.refl _ W2).alloc _).alloc _).alloc _
 have hs3 : W3.heap.size = W2.heap.size + 3 := by rw [h3]; simp
 have hb23 : Below W2.heap.size W2 W3 := hc23.below (Nat.le_refl _) (fun i e => e.elim)
 have hb3 : Below w.heap.size w W3 := hb2.trans (hb23.mono hb2.size)
 have hq3 := hq.chg hc23 (fun i e => e.elim)
 rw [e1] at hq3 hs
 have hc5' : W3.cell? ⟨w.heap.size, 0, none⟩ = some ask := hc23.cell ((Chg.of_below hb (fun _ => False)).cell hc5 (fun e => e)) (fun e => e)
 have hc7 : W3.cell? ⟨w.heap.size + 1 + 2, 0, none⟩ = some (.pointer (some ⟨w.heap.size + 1 + 1, 0, none⟩)) := by
  rw [h3]
  exact (cell_of_blk (t := 97) (by simp only [alloc_at, World.size_alloc, hs, e1]; simp (disch := omega) [if_pos, if_neg])).1
 have hset : MSet W3 (w.heap.size + 1 + 2 + 1) 0 (fun x => decide (x ∈ ([] : List Int))) := by
  have h0 := ISet.same (ISet.made (P := Try.prog) (K := 3) (E := 4) (W2.alloc (.cells #[.pointer (some ⟨W1.heap.size + 1, 0, none⟩)] 97))) (S' := fun x => decide (x ∈ ([] : List Int))) (fun x => by simp)
  rw [World.size_alloc, hs] at h0
  rw [h3]
  exact h0.chg ((Chg.refl (fun _ => False) _).alloc _) (fun e => e)
 have hrow : BoxRow W3 w.heap.size (w.heap.size + 1 + 2 + 1 + 1) [] (fun i => i = w.heap.size + 1 + 2 + 1 + 1) := by
  have h0 := BoxRow.fresh ((W2.alloc (.cells #[.pointer (some ⟨W1.heap.size + 1, 0, none⟩)] 97)).alloc (.map #[] 0)) w.heap.size 42 (fun i => i = w.heap.size + 1 + 2 + 1 + 1) (by simp; omega)
  have e9 : ((W2.alloc (.cells #[.pointer (some ⟨W1.heap.size + 1, 0, none⟩)] 97)).alloc (.map #[] 0)).heap.size = w.heap.size + 1 + 2 + 1 + 1 := by simp; omega
  rw [e9] at h0
  rw [h3]
  exact h0
 refine ⟨hb3, ⟨w.heap.size + 1, _, _, by omega, ⟨_, _, _, hq3⟩, hrow, fun i hi => ?_, fun i hi => ?_⟩, hset, hc5', hc7, ⟨by omega, by omega, by omega⟩, ⟨by omega, by omega⟩, fun i hi => hi, fun D hD => by simp at hD, by simp, by simp⟩
 ·refine ⟨by omega, by omega, by omega, by omega, by omega, by simp⟩
 ·refine ⟨by omega, by omega, by omega, by omega, by simp⟩
end
end Go.Proofs.Ytngppcmdaanheaa.Ls
namespace Go.Proofs.Ytngppcmdaanheaa.Ls
open Go.RowKit Go.Maps Go.Proofs.Ytngppcmdaanheaa.Iter Go.Proofs.Ytngppcmdaanheaa.ISet Go.Proofs.Ytngppcmdaanheaa.Pr Go.Proofs.Ytngppcmdaanheaa.Ext Go.Proofs.Ytngppcmdaanheaa.Rm Go.Proofs.YtngppcmdaanheaaW.PrintWords Go.Proofs.YtngppcmdaanheaaW.PrintLast Go.Proofs.YtngppcmdaanheaaW.PrintMore
open Go.Proofs.Ytngppcmdaanheaa.Reach (pushL pushes)
set_option linter.unusedVariables false
set_option linter.unusedSimpArgs false
attribute [local go_sem] Oper.semAt_some
def ldT9 : Bool × List (List Nat × List Nat) := (true, [([], []), ([], []), ([], []), ([1, 2], [1, 2]), ([0, 3, 3], [0, 3]), ([4, 4, 0, 1, 2, 3, 4], [4])])
def ldB9 : List Nat := [0, 0, 0, 6, 15, 31]
theorem ldtab9 : rtab .any (opsOf Try.f53 9) = ldT9 := by kernel_rfl
theorem ldbits9 : waitsOk ldT9.2 ldB9 = true := by kernel_rfl
theorem wpIn_scope_wide {P : Program} {c : Code} {Q : Exit → Act → World → Prop} {a : Act} {w : World} (h : c.wpIn Fence.wide 0 P (Exit.noGoto Q) a w) : (Code.scope c).wpIn Fence.wide 0 P Q a w :=
 wpIn_wide.2 (wp_scope_straight (wpIn_wide.1 h))
theorem skip_step {P : Program} {ops : Array Oper} {o : Oper} {a : Act} {Q : Exit → Act → World → Prop} {Kc : Act → World → Prop} {W w1 : World} (hw : Region.wanted o (yielded ops a.tmps) = true) (hrun : (execOp a.eval o).run P W = .ok .skip w1) (h : Kc (a.put o.dst undef) w1) : if Region.wanted o (yielded ops a.tmps) = true then Oper.wp P o a W Kc Q else Kc (a.put o.dst undef) W := by
 rw [if_pos hw]
 unfold Oper.wp
 rw [hrun]
 exact h
theorem more_from {O : Nat → Prop} {W W8 W' : World} (h : W.heap.size ≤ W8.heap.size) : Grow O W (More O W8 W') W' := fun i hi => ⟨hi.1.imp_right (fun h' => Nat.le_trans h h'), hi.2⟩
theorem toldR_mem {l : List Fa} {kind a : Int} {f : Fa} {k : Nat} (h : (toldR l kind a)[k]? = some f) : f ∈ l := (List.mem_filter.1 (List.mem_of_getElem? h)).1
def propK (l : List Fa) (p : ByteArray → Bool) (x : Int) (k : Nat) : List Int := (((toldR l 3 x).take k).filter (fun f => p f.f2)).map (·.f3)
theorem propK_all (l : List Fa) (p : ByteArray → Bool) (x : Int) : propK l p x (toldR l 3 x).length = propL l p x := by
 unfold propK propL
 rw [List.take_length]
theorem propK_step {l : List Fa} {p : ByteArray → Bool} {x : Int} {k : Nat} {f : Fa} (h : (toldR l 3 x)[k]? = some f) : propK l p x (k + 1) = propK l p x k ++ (if p f.f2 = true then [f.f3] else []) := by
 unfold propK
 rw [List.take_add_one, h, List.filter_append, List.map_append]
 congr 1
 cases hp : p f.f2 <;> simp [hp]
theorem propK_le (l : List Fa) (p : ByteArray → Bool) (x : Int) (k : Nat) : (propK l p x k).length ≤ l.length := by
 unfold propK
 rw [List.length_map]
 refine Nat.le_trans (List.length_filter_le _ _) ?_
 rw [List.length_take]
 have : (toldR l 3 x).length ≤ l.length := List.length_filter_le _ _
 omega
def LoadPost (w : World) (xs : List Int) (e : Ending) (w' : World) : Prop := ∃ (v : Value) (ys : List Int), e = .returned v ∧ OwnI w' w.heap.size v ys ∧ ys.Perm xs ∧ Below w.heap.size w w'
set_option maxHeartbeats 8000000 in
set_option maxRecDepth 100000 in
theorem loads_calls {r : Ro} {w0 w : World} (h : RoAt r w0 w) (mark : Int) (gf : Nat) (lb : Array Value) (p : ByteArray → Bool) (eg : ∀ args w, (callFunc gf args).run Try.prog w = .ok (.enter gf args) w)
  (hask : ∀ W', Below w.heap.size w W' → ∀ s : ByteArray, Calls Try.prog gf (#[.string s] ++ lb) W' (fun e w' => e = .returned (.bool (p s)) ∧ Below W'.heap.size W' w'))
  (hsort : r.l.Pairwise LF) (hlen : r.l.length ≤ 900000) (hwm : wfI mark) (hwl : ∀ f ∈ r.l, wfI f.f3) :
  Calls Try.prog 53 #[.pointer (some ⟨r.Br, 0, none⟩), .int .i64 mark, .func (.func gf) #[] lb] w (LoadPost w (loadsL r.l p mark)) := by
 have hmk : ∀ W : World, (Instr.makeMap 99 none).run Try.prog W = .ok (.map (some W.heap.size)) (W.alloc (.map #[] 0)) := fun _ => rfl
 have HR := zm h
 have HS := zm hsort
 have HASK := zm hask
 have HWL := zm hwl
 clear h hsort hask hwl
 refine (callsIn_wide (n := 0)).1 ?_
 refine callsIn_of_wp_marks Try.func53 rfl trivial ?_ rfl
 simp only [Try.ntmps53, List.size_toArray, List.length_cons, List.length_nil, Nat.reduceAdd, Nat.reduceSub, Array.replicate_succ, Array.replicate_zero, List.push_toArray, List.append_toArray, List.nil_append, List.cons_append]
 have HWX := zm (show ∀ x ∈ mark :: (prE r.l).map (·.2), wfI x from fun x hx => by
  rcases List.mem_cons.1 hx with rfl | hx
  ·exact hwm
  ·simp only [prE, List.map_map, List.mem_map, List.mem_filter] at hx
   obtain ⟨f, ⟨hf, _⟩, rfl⟩ := hx
   exact HWL.out f hf)
 have hdep : Fence.wide.depth = none := rfl
 have hfns : ∀ f, Fence.wide.fn f := fun _ => trivial
 gi_wp2
 refine wpIn_scope_wide ?_
 gi_wp2_with (gi_at_call 67; refine (callsIn_wide.2 (new_calls _)).mono ?_; rintro e W2 ⟨rfl, hq, hb, hs2⟩; have HQ := zm hq; have HB2 := zm hb; clear hq hb)
 obtain ⟨W1, hW1⟩ : ∃ W1, W1 = w.alloc (.cells #[.func (.func gf) #[] lb] 84) := ⟨_, rfl⟩
 have e1 : W1.heap.size = w.heap.size + 1 := by rw [hW1]; simp
 have hst := LdI.start hW1 (by rw [hW1]; exact HQ.out) (by rw [hW1]; exact HB2.out) (by rw [hW1]; exact hs2) rfl
 rw [e1] at hst
 clear HQ HB2
 generalize ((W2.alloc _).alloc _).alloc _ = W3 at hst ⊢
 have HI := zm (hst.push (by omega) mark hwm)
 clear hst
 refine (callsIn_wide.2 HI.out).mono ?_
 rintro e W4 ⟨⟨b4, rfl⟩, hi, -⟩
 have HI4 := zm hi.all
 clear hi HI hs2
 gi_wp2
 refine wpIn_label ?_
 gi_wp2
 refine wpIn_loop_ghost_k (fun kq a_ W_ => ∃ (met q : List Int) (n : Nat) (Ds : List Nat) (u10 u11 u12 u13 u19 u20 u21 u22 u23 u24 u25 u26 u27 u28 u29 u30 u31 u32 u33 u34 u35 u36 u37 u38 u39 u40 u41 u42 u43 u44 u45 u46 u47 u48 u49 u50 u51 u52 u53 u54 u55 u56 : Value), a_ = { tmps := #[.pointer (some ⟨r.Br, 0, none⟩), .int .i64 mark, .func (.func gf) #[] lb, undef, undef, .pointer (some ⟨w.heap.size, 0, none⟩), .slice none 0 0, .pointer (some ⟨w.heap.size + 1 + 2, 0, none⟩), .map (some (w.heap.size + 1 + 2 + 1)), .pointer (some ⟨w.heap.size + 1 + 2 + 1 + 1, 0, none⟩), u10, u11, u12, u13, .pointer (some ⟨w.heap.size + 1 + 1, 0, none⟩), .map (some (w.heap.size + 1 + 2 + 1)), .pointer (some ⟨w.heap.size + 1 + 1, 0, none⟩), .int .i64 mark, .bool b4, u19, u20, u21, u22, u23, u24, u25, u26, u27, u28, u29, u30, u31, u32, u33, u34, u35, u36, u37, u38, u39, u40, u41, u42, u43, u44, u45, u46, u47, u48, u49, u50, u51, u52, u53, u54, u55, u56, undef], defers := Ds.map mkD } ∧ kq = left (prE r.l) met q ∧ BInv mark (prE r.l) met q ∧ n ≤ met.length * r.l.length + 1 ∧ LdI w (w.heap.size + 1 + 1) (w.heap.size + 1 + 2 + 1) w.heap.size (w.heap.size + 1 + 2) (w.heap.size + 1 + 2 + 1 + 1) (.func (.func gf) #[] lb) Ds met q n (allL r.l p met) (fun i => w.heap.size ≤ i ∧ i < W_.heap.size) W_) (left (prE r.l) [] [mark]) ?h0 ?round
 case h0 => exact ⟨[], [mark], _, [], _, _, _, _, _, _, _, _, _, _, _, _, _, _, _, _, _, _, _, _, _, _, _, _, _, _, _, _, _, _, _, _, _, _, _, _, _, _, _, _, _, _, rfl, rfl, BInv.start _ _, by simp, HI4.out⟩
 case round =>
  clear HI4
  intro kq a_ wr hI J K hJ hK
  obtain ⟨met, q, n, Ds, hI⟩ := hI
  obtain ⟨u10, hI⟩ := hI
  obtain ⟨u11, hI⟩ := hI
  obtain ⟨u12, hI⟩ := hI
  obtain ⟨u13, hI⟩ := hI
  obtain ⟨u19, hI⟩ := hI
  obtain ⟨u20, hI⟩ := hI
  obtain ⟨u21, hI⟩ := hI
  obtain ⟨u22, hI⟩ := hI
  obtain ⟨u23, hI⟩ := hI
  obtain ⟨u24, hI⟩ := hI
  obtain ⟨u25, hI⟩ := hI
  obtain ⟨u26, hI⟩ := hI
  obtain ⟨u27, hI⟩ := hI
  obtain ⟨u28, hI⟩ := hI
  obtain ⟨u29, hI⟩ := hI
  obtain ⟨u30, hI⟩ := hI
  obtain ⟨u31, hI⟩ := hI
  obtain ⟨u32, hI⟩ := hI
  obtain ⟨u33, hI⟩ := hI
  obtain ⟨u34, hI⟩ := hI
  obtain ⟨u35, hI⟩ := hI
  obtain ⟨u36, hI⟩ := hI
  obtain ⟨u37, hI⟩ := hI
  obtain ⟨u38, hI⟩ := hI
  obtain ⟨u39, hI⟩ := hI
  obtain ⟨u40, hI⟩ := hI
  obtain ⟨u41, hI⟩ := hI
  obtain ⟨u42, hI⟩ := hI
  obtain ⟨u43, hI⟩ := hI
  obtain ⟨u44, hI⟩ := hI
  obtain ⟨u45, hI⟩ := hI
  obtain ⟨u46, hI⟩ := hI
  obtain ⟨u47, hI⟩ := hI
  obtain ⟨u48, hI⟩ := hI
  obtain ⟨u49, hI⟩ := hI
  obtain ⟨u50, hI⟩ := hI
  obtain ⟨u51, hI⟩ := hI
  obtain ⟨u52, hI⟩ := hI
  obtain ⟨u53, hI⟩ := hI
  obtain ⟨u54, hI⟩ := hI
  obtain ⟨u55, hI⟩ := hI
  obtain ⟨u56, hI⟩ := hI
  obtain ⟨rfl, rfl, hbi, hn, hi⟩ := hI
  have HBI := zm hbi
  have HI := zm hi
  have hlens := hbi.lens
  have hpl := prE_le r.l
  have hb7 := hi.box7
  have HJ0 := zm hJ
  clear hbi hi hJ
  cases q with
  | nil =>
   gi_wp2_with (gi_at_call 69; refine (callsIn_wide.2 HI.out.pop_none).mono ?_; rintro e W5 ⟨rfl, hi⟩; have HI5 := zm hi; obtain ⟨A5, c5, hv5, hO5, hf5, hn5⟩ := hi.row; have HO5 := zm hO5; have HN5 := zm hn5; clear hi hO5 hf5 hn5)
   rw [Exit.noGoto_ret]
   gi_wp2
   refine leaves_marks Ds _ HI5.out.nds.2 (fun D hD => (HI5.out.ds D hD).2) (fun W'' hc => ?_)
   refine ⟨.slice A5 (allL r.l p met).length c5, by simp [results, Try.results53, go_sem], _, _, rfl, own_chg HO5.out hc (fun i hi hD => HN5.out i hi hD), loads_perm r.l p mark HBI.out.nm HBI.out.done, HI5.out.bel.trans (hc.below HI5.out.bel.size (fun i hi => (HI5.out.low i (HI5.out.ds i hi).1).1))⟩
  | cons x q =>
   have hx : wfI x := HWX.out x (HBI.out.uq x (by simp))
   by_cases hm : x ∈ met
   ·have HSK := zm (HBI.out.skip hm)
    have HM := zm (decide_eq_true hm)
    gi_wp2_with (gi_at_call 69; refine (callsIn_wide.2 HI.out.pop).mono ?_; rintro e W5 ⟨rfl, hi⟩; have HI5 := zm hi.all; have hlook := hi.look x hx; rw [HM.out] at hlook; clear hi)
    refine Handed.intro _ HSK.out.2 (HJ0.out _ _ _ ⟨met, q, n, Ds, _, _, _, _, _, _, _, _, _, _, _, _, _, _, _, _, _, _, _, _, _, _, _, _, _, _, _, _, _, _, _, _, _, _, _, _, _, _, _, _, _, _, rfl, rfl, HSK.out.1, hn, HI5.out⟩)
   ·have HTK := zm (HBI.out.take hm)
    have HM := zm (decide_eq_false hm)
    gi_wp2_with (gi_at_call 69; refine (callsIn_wide.2 HI.out.pop).mono ?_; rintro e W5 ⟨rfl, hi⟩; have hlook := hi.look x hx; rw [HM.out] at hlook; obtain ⟨W6, hput, hi6⟩ := hi.put x hx (by omega); have HI6 := zm hi6.all; clear hi hi6)
    obtain ⟨Wd, hWd⟩ : ∃ Wd, W6.drew = Wd := ⟨_, rfl⟩
    have HI7 := zm ((HI6.out.quiet (W' := Wd) (by rw [← hWd]; exact below_drew (Below.refl _ _))).all)
    obtain ⟨A7, c7, hv7, hO7, hf7, hn7⟩ := HI7.out.row
    have HO7 := zm hO7
    have hal : (allL r.l p met).length ≤ r.l.length := allL_le r.l p HBI.out.nm
    clear hO7 hn7 hf7 hlook hput HI HI6 hb7
    have hro : ∀ W, Below w.heap.size w W → RoAt r w0 W := fun W hb => HR.out.quiet hb
    have HRO := zm hro
    clear hro
    have HBS := zm (bs_calls (HRO.out _ HI7.out.bel) 8 x HS.out (by omega))
    refine wp_only ?_
    refine start_ (n := 6) (S := fun W' => W'.cell? ⟨w.heap.size + 1 + 2 + 1 + 1, 0, none⟩ = some (.slice A7 (allL r.l p met).length c7)) (ds := [5]) #[false, false, false, false, false, false] (by kernel_rfl) rfl rfl (by rw [hWd]; exact hv7) (fun hHeld => ?_)
    rw [hWd] at hHeld ⊢
    refine with_tabW ldtab9 ldbits9 (fun HT_ HW_ => ?_)
    refine zt 0 31 (hy := by intro w' hw'; first | (go_simp; with_reducible rfl)) (h := ?_)
    refine zp 1 32 (h := ?_)
    refine zp 2 33 (h := ?_)
    refine zo 3 34 (h := fun K hK => ?_)
    refine zg Try.func38 #[.pointer (some ⟨r.Br, 0, none⟩), .int .i64 8, .int .i64 x] (h := ?_)
    refine HBS.out.mono ?_
    rintro e W8 ⟨v8, rfl, hO8, hb8⟩
    obtain ⟨A8, c8, rfl, hlc8, hcc8⟩ := own_slice3 hO8
    refine ⟨_, rfl, ?_⟩
    have HM8 := zm (Kd.R_reads' hO8).2.2
    have HI8 := zm ((HI7.out.quiet hb8).all)
    have HO8 := zm (Kd.R_below HO7.out hb8)
    have hc8_ := HI8.out.row
    have HB8_ := zm hb8
    clear hO8 hb8
    refine hK.out _ _ ((Chg.of_below (HB8_.out) (fun _ => False)).cell hv7 (fun e => e)) (fun hHeld => ?_)
    clear hK K
    refine zn (h := ?_)
    refine zo 4 35 (h := fun K hK => ?_)
    refine Kd.R_append_rows_step (Kd.int .i64) (w0 := W8) w.heap.size (by rfl) (.tmp 31) (.tmp 34) 42 3 (.int .i64 0) 8 rfl Try.underlying42 infoI rfl (by decide) (by omega) (.slice A7 (allL r.l p met).length c7) (allL r.l p met) (bsL r.l 8 x) _ _ _ (fun _ => True) (fun _ => False) rfl rfl (Kd.R_mono HO8.out (fun _ _ => trivial)) HM8.out (fun _ _ h => h) (fun _ h => h.elim) (fun _ _ => trivial) (Below.refl _ _) HI8.out.bel.size (by have := bsL_le r.l 8 x; omega) ?_
    intro v1 W9 ho hb hg hat
    obtain ⟨A9, c9, hv9⟩ := Kd.R_slice ho
    subst hv9
    clear hb
    have HG9 := zm hg
    have HST := zm (HI8.out.store hHeld hg ho (hat.imp_right (fun ⟨g, h1, h2⟩ => ⟨g, h1, h2⟩)))
    obtain ⟨⟨hs1, hs2⟩, hs3, hs4⟩ := HST.out
    clear ho hg hat
    refine hK.out _ _ hs1 (fun hHeld => ?_)
    clear hK K
    refine zn (h := ?_)
    refine last_ (i := 5) (N := none) #[true, true, true, true, true, true] rfl rfl (one_of HT_.out (by kernel_rfl)) (by decide) (fun K hK => ?_)
    refine skip_step (w1 := W9.setCell ⟨w.heap.size + 1 + 2 + 1 + 1, 0, none⟩ (.slice A9 (allL r.l p met ++ bsL r.l 8 x).length c9)) (by rfl) (by first | (go_simp; done) | (go_simp; rfl)) ?_
    refine hK.out _ _ ?_
    clear hK K
    refine norm_ (a' := ?_) ?_ ?_
    rotate_left
    ·show Act.put _ (none) _ = _
     simp only [Act.put, List.setIfInBounds_toArray, List.set_cons_zero, List.set_cons_succ, i64_w, i32_w]
     rfl
    refine done_ (done_of HT_.out (by kernel_rfl)) ?_
    dsimp only [onlyN]
    have HX := zm hs4.all
    clear hs1 hs2 hs3 hs4 hHeld
    obtain ⟨W10, hW10⟩ : ∃ W10, W9.setCell ⟨w.heap.size + 1 + 2 + 1 + 1, 0, none⟩ (.slice A9 (allL r.l p met ++ bsL r.l 8 x).length c9) = W10 := ⟨_, rfl⟩
    rw [hW10] at HX ⊢
    clear HI7 HI8 HO8 HM8 HG9 HST
    gi_wp2_with (gi_at_call 56; refine (callsIn_wide.2 (told_calls _ _ _ _)).mono ?_; rintro e w' ⟨rfl, rfl⟩)
    have hlow := HR.out.bel.size
    have hit := told_ok (HRO.out W10 HX.out.bel) 3 x HS.out (by omega) (B0 := w.heap.size) hlow
    have hbr : r.Br < w.heap.size := by
     have := World.block_lt_of_cell? w _ (HR.out.cell 0)
     simpa using this
    have HXS := zm (HX.out.quiet (toldW_below W10 ⟨r.Br, 0, none⟩ 3 x))
    have hs11 := toldW_size W10 ⟨r.Br, 0, none⟩ 3 x
    have hbl10 := HX.out.bel.size
    generalize toldW W10 ⟨r.Br, 0, none⟩ 3 x = W11 at *
    have hI0 : LdI w (w.heap.size + 1 + 1) (w.heap.size + 1 + 2 + 1) w.heap.size (w.heap.size + 1 + 2) (w.heap.size + 1 + 2 + 1 + 1) (.func (.func gf) #[] lb) Ds (met ++ [x]) q n (allL r.l p met ++ bsL r.l 8 x ++ propK r.l p x 0) (fun i => w.heap.size ≤ i ∧ i < W10.heap.size) W11 := by
     have e0 : propK r.l p x 0 = [] := by simp [propK]
     rw [e0, List.append_nil]; exact HXS.out
    refine wp_rangeFunc_go (gf := 70) (lb := #[.pointer (some ⟨W10.heap.size, 0, none⟩), .pointer (some ⟨W10.heap.size + 1, 0, none⟩), .pointer (some ⟨W10.heap.size + 2, 0, none⟩)]) rfl (enters_of Try.func70 (by kernel_rfl) rfl) hit (fun _ => rfl) (fun i => w.heap.size ≤ i ∧ i < W10.heap.size) (by omega) (fun i hi => ⟨hi.1, by omega, by omega⟩) (fun i hi => by omega) (Chg.refl _ _)
     (fun k O W => LdI w (w.heap.size + 1 + 1) (w.heap.size + 1 + 2 + 1) w.heap.size (w.heap.size + 1 + 2) (w.heap.size + 1 + 2 + 1 + 1) (.func (.func gf) #[] lb) Ds (met ++ [x]) q n (allL r.l p met ++ bsL r.l 8 x ++ propK r.l p x k) O W) (fun _ _ _ _ => False) (fun k => LdI.abide _ _ _ _ _ _ _ _ _ _ _ _) (fun _ _ _ _ _ _ h _ _ => h) hI0 ?round ?done ?stop
    case stop => exact fun D k c O1 W _ _ _ h _ => h.elim
    case round =>
     intro l0 k f O1 W K1 hf hi hb hK1
     obtain ⟨f0, f1, f2, f3⟩ := f
     dsimp only [encF, aggF]
     gi_wp2
     have hia := LdI.chg (T := fun _ => False) hi ((Chg.refl _ _).alloc (.cells #[.int .i64 f0, .int .i64 f1, .string f2, .int .i64 f3] 41)) (fun i e => e.elim)
     have hi3 := hia.less (O2 := fun i => O1 i ∨ i = W.heap.size) (fun i h => .inl h) (fun i h => h.elim (fun h => hia.low i h) (fun e => by subst e; exact ⟨hi.bel.size, by simp⟩))
     refine hK1 _ _ _ ((Chg.refl _ _).alloc _) (grow_alloc hb _) hi3 ?_
     have hn4 := heap_alloc_new W (.cells #[.int .i64 f0, .int .i64 f1, .string f2, .int .i64 f3] 41)
     have HF := zm hf
     clear hi hia hi3 hK1 hb hf
     intro l T Wb hc hT hOb hll hnl hrec hi
     have hn5 := hc.blk hn4 (fun ht => (hT _ ht).2 (.inr rfl))
     have hlt5 := (Array.getElem?_eq_some_iff.1 hn5).1
     have hf2 : Wb.cell? ⟨W.heap.size, 2, none⟩ = some (.string f2) := by simp [World.cell?, hn5]
     have HN5 := zm hn5
     clear hn4 hn5 hT hnl hc hrec
     obtain ⟨O9, hO9⟩ : ∃ O9 : Nat → Prop, O9 = (fun i => O1 i ∨ i = W.heap.size) := ⟨_, rfl⟩
     replace hOb : ∀ i, O9 i → i < Wb.heap.size := by rw [hO9]; exact hOb
     rw [← hO9] at hi ⊢
     clear hO9
     have hb5 := hi.box5
     have HI := zm hi
     have HPS := zm (propK_step (p := p) HF.out)
     have hle : (allL r.l p met ++ bsL r.l 8 x ++ propK r.l p x k).length ≤ 3000000 := by
      have h1 := bsL_le r.l 8 x
      have h2 := propK_le r.l p x k
      simp only [List.length_append]
      omega
     have HYS := zm (show (allL r.l p met ++ bsL r.l 8 x ++ propK r.l p x (k + 1)) = (allL r.l p met ++ bsL r.l 8 x ++ propK r.l p x k) ++ (if p f2 = true then [f3] else []) by rw [HPS.out, List.append_assoc _ (propK r.l p x k)])
     clear hi HPS
     obtain ⟨ys, hys⟩ : ∃ ys, ys = allL r.l p met ++ bsL r.l 8 x ++ propK r.l p x k := ⟨_, rfl⟩
     rw [← hys] at HI hle HYS
     clear hys
     cases hp : p f2
     ·have HP := zm hp
      clear hp
      gi_wp2_with (refine (CallsIn.inRound l (callsIn_wide.2 (HASK.out _ HI.out.bel f2))).mono ?_; rintro e W7 ⟨rfl, hb7⟩; rw [HP.out]; have HB7 := zm hb7; clear hb7)
      refine ⟨Chg.of_below HB7.out _, _, Grow.same hOb HB7.out.size, ?_⟩
      have := HI.out.quiet HB7.out
      dsimp only
      rw [HYS.out, HP.out]
      simpa using this
     ·have HP := zm hp
      clear hp
      obtain ⟨A, c, hv1, hv2, hfr, _⟩ := HI.out.row
      have HO1 := zm hv2
      clear hv2
      gi_wp2_with fail
      refine (CallsIn.inRound l (callsIn_wide.2 (HASK.out _ HI.out.bel f2))).mono ?_
      rintro e W7 ⟨rfl, hb7⟩
      rw [HP.out]
      have HB7 := zm hb7
      have hn7 := (hb7.block _ hlt5).trans HN5.out
      have hf3 : W7.cell? ⟨W.heap.size, 3, none⟩ = some (.int .i64 f3) := by simp [World.cell?, hn7]
      have hv7 : W7.cell? ⟨w.heap.size + 1 + 2 + 1 + 1, 0, none⟩ = some (.slice A ys.length c) := (Chg.of_below hb7 (fun _ => False)).cell hv1 (fun e => e)
      have HI8 := zm (HI.out.quiet (hb7.alloc hb7.size (.cells #[.int .i64 f3] 3)))
      have hv8 : (W7.alloc (.cells #[.int .i64 f3] 3)).cell? ⟨w.heap.size + 1 + 2 + 1 + 1, 0, none⟩ = some (.slice A ys.length c) := ((Chg.refl (fun _ => False) W7).alloc _).cell hv7 (fun e => e)
      have HO8 := zm (Kd.R_below HO1.out (hb7.alloc hb7.size (.cells #[.int .i64 f3] 3)))
      have HV8 := zm hv8
      clear hn7 hb7 hv1 hfr hv8 hf2
      gi_wp2_with (gi_at_builtin; go_loud (refine append1_in w.heap.size rfl _ _ rfl (.slice A ys.length c) ys f3 W7.heap.size rfl rfl (by simp) HO8.out (by have := HI8.out.bel.size; exact this) (by omega) ?_; rintro v1 w1 hO1 hg1 hat1 ⟨g1, n1, c1', rfl⟩; have HST := zm (HI8.out.store HV8.out hg1 hO1 (hat1.imp_right (fun e => ⟨_, e, Nat.le_refl _⟩))); obtain ⟨hcell1, hfr1⟩ := HST.out.1; clear hO1 hg1 hat1))
      obtain ⟨_, hch, hld⟩ := HST.out
      have hall : Chg (fun _ => False) Wb (W7.alloc (.cells #[.int .i64 f3] 3)) := (Chg.of_below HB7.out (fun _ => False)).alloc _
      refine ⟨(hall.mono (fun _ _ e => e.elim)).trans hch (fun i hi => .inl hi), _, more_from hall.size, ?_⟩
      dsimp only
      rw [HYS.out, HP.out]
      exact hld
    case done =>
     intro D O1 W hD hnD hi hKD
     rw [propK_all] at hi
     have HI12 := zm ((hi.mark (Nat.le_trans hbl10 (by omega)) hnD hKD).all)
     have hmet : met.length * r.l.length ≤ 900001 * 900000 := Nat.mul_le_mul (by omega) hlen
     clear hi hnD hKD hit hI0 hv7
     gi_wp2_with (gi_at_call 56; refine (callsIn_wide.2 (told_calls _ _ _ _)).mono ?_; rintro e w' ⟨rfl, rfl⟩)
     have hit2 := told_ok (HRO.out W HI12.out.bel) 4 x HS.out (by omega) (B0 := w.heap.size) hlow
     have HXS2 := zm (HI12.out.quiet (toldW_below W ⟨r.Br, 0, none⟩ 4 x))
     have hs21 := toldW_size W ⟨r.Br, 0, none⟩ 4 x
     have hbl12 := HI12.out.bel.size
     generalize toldW W ⟨r.Br, 0, none⟩ 4 x = W21 at *
     have hI02 : ∃ n', n' ≤ n + 0 ∧ LdI w (w.heap.size + 1 + 1) (w.heap.size + 1 + 2 + 1) w.heap.size (w.heap.size + 1 + 2) (w.heap.size + 1 + 2 + 1 + 1) (.func (.func gf) #[] lb) (D :: Ds) (met ++ [x]) (pushT q ((toldR r.l 4 x).take 0)) n' (allL r.l p met ++ bsL r.l 8 x ++ propL r.l p x) (fun i => w.heap.size ≤ i ∧ i < W.heap.size) W21 := ⟨n, Nat.le_refl _, HXS2.out⟩
     refine wp_rangeFunc_go (gf := 70) (lb := #[.pointer (some ⟨W.heap.size, 0, none⟩), .pointer (some ⟨W.heap.size + 1, 0, none⟩), .pointer (some ⟨W.heap.size + 2, 0, none⟩)]) rfl (enters_of Try.func70 (by kernel_rfl) rfl) hit2 (fun _ => rfl) (fun i => w.heap.size ≤ i ∧ i < W.heap.size) (by omega) (fun i hi => ⟨hi.1, by omega, by omega⟩) (fun i hi => by omega) (Chg.refl _ _)
      (fun k O W => ∃ n', n' ≤ n + k ∧ LdI w (w.heap.size + 1 + 1) (w.heap.size + 1 + 2 + 1) w.heap.size (w.heap.size + 1 + 2) (w.heap.size + 1 + 2 + 1 + 1) (.func (.func gf) #[] lb) (D :: Ds) (met ++ [x]) (pushT q ((toldR r.l 4 x).take k)) n' (allL r.l p met ++ bsL r.l 8 x ++ propL r.l p x) O W) (fun _ _ _ _ => False) (fun k O A B T h hc hT => h.imp (fun n' h => ⟨h.1, h.2.chg hc hT⟩)) (fun _ _ _ _ _ _ h _ _ => h) hI02 ?round2 ?done2 ?stop2
     case stop2 => exact fun D k c O1 W _ _ _ h _ => h.elim
     case round2 =>
      intro l0 k f O1 W K1 hf hi hb hK1
      obtain ⟨f0, f1, f2, f3⟩ := f
      dsimp only [encF, aggF]
      gi_wp2
      obtain ⟨n', hn', hi⟩ := hi
      have hia := LdI.chg (T := fun _ => False) hi ((Chg.refl _ _).alloc (.cells #[.int .i64 f0, .int .i64 f1, .string f2, .int .i64 f3] 41)) (fun i e => e.elim)
      have hi3 := hia.less (O2 := fun i => O1 i ∨ i = W.heap.size) (fun i h => .inl h) (fun i h => h.elim (fun h => hia.low i h) (fun e => by subst e; exact ⟨hi.bel.size, by simp⟩))
      refine hK1 _ _ _ ((Chg.refl _ _).alloc _) (grow_alloc hb _) ⟨n', hn', hi3⟩ ?_
      have hn4 := heap_alloc_new W (.cells #[.int .i64 f0, .int .i64 f1, .string f2, .int .i64 f3] 41)
      have HF := zm hf
      clear hi hia hi3 hK1 hb hf hn'
      intro l T Wb hc hT hOb hll hnl hrec hi
      have hn5 := hc.blk hn4 (fun ht => (hT _ ht).2 (.inr rfl))
      have hf3 : Wb.cell? ⟨W.heap.size, 3, none⟩ = some (.int .i64 f3) := by simp [World.cell?, hn5]
      clear hn4 hn5 hT hnl hc hrec
      obtain ⟨O9, hO9⟩ : ∃ O9 : Nat → Prop, O9 = (fun i => O1 i ∨ i = W.heap.size) := ⟨_, rfl⟩
      rw [← hO9] at hi ⊢
      clear hO9 n' hOb
      obtain ⟨n', hn', hi⟩ := hi
      have hb7 := hi.box7
      have HPS := zm (show pushT q ((toldR r.l 4 x).take (k + 1)) = pushL (pushT q ((toldR r.l 4 x).take k)) f3 by rw [List.take_add_one, HF.out]; exact pushT_snoc _ _ _)
      have hkl : k < r.l.length := Nat.lt_of_lt_of_le (List.getElem?_eq_some_iff.1 HF.out).1 (List.length_filter_le _ _)
      have HPU := zm (hi.push (by omega) f3 (HWL.out _ (toldR_mem HF.out)))
      clear hi
      gi_wp2_with (gi_at_call 68; refine (CallsIn.inRound l (callsIn_wide.2 HPU.out)).mono ?_; rintro e W7 ⟨⟨b7, rfl⟩, hi7, hc7⟩; have HI7 := zm hi7; have HC7 := zm hc7; clear hi7 hc7)
      refine ⟨HC7.out, _, grow_more _ _ _, n' + 1, by omega, ?_⟩
      rw [HPS.out]
      exact HI7.out
     case done2 =>
      intro D2 O2 W2_ hD2 hnD2 hi hKD2
      rw [List.take_length, pushT_told] at hi
      obtain ⟨n', hn', hi⟩ := hi
      have HI13 := zm ((hi.mark (Nat.le_trans hbl12 (by omega)) hnD2 hKD2).all)
      have htl : (toldR r.l 4 x).length ≤ r.l.length := List.length_filter_le _ _
      have HAL := zm (show allL r.l p met ++ bsL r.l 8 x ++ propL r.l p x = allL r.l p (met ++ [x]) by rw [allL_snoc, oneL, List.append_assoc])
      have HNN := zm (show n' ≤ (met ++ [x]).length * r.l.length + 1 by rw [List.length_append, List.length_singleton, Nat.add_mul]; omega)
      clear hi hnD2 hKD2 hit2 hI02
      gi_wp2
      refine Handed.intro _ HTK.out.2 (HJ0.out _ _ _ ⟨met ++ [x], pushes x q (prE r.l), n', D2 :: D :: Ds, _, _, _, _, _, _, _, _, _, _, _, _, _, _, _, _, _, _, _, _, _, _, _, _, _, _, _, _, _, _, _, _, _, _, _, _, _, _, _, _, _, _, rfl, rfl, HTK.out.1, HNN.out, by rw [← HAL.out]; exact HI13.out⟩)
end Go.Proofs.Ytngppcmdaanheaa.Ls
/- least.rounder: a round's state while it asks; is, isAny. No condition. -/
namespace Go.Proofs.Ytngppcmdaanheaa.Ls
open Go.RowKit Go.Maps Go.Proofs.Ytngppcmdaanheaa.Iter Go.Proofs.Ytngppcmdaanheaa.ISet Go.Proofs.Ytngppcmdaanheaa.Pr Go.Proofs.Ytngppcmdaanheaa.Ext Go.Proofs.YtngppcmdaanheaaW.PrintWords Go.Proofs.YtngppcmdaanheaaW.PrintLast Go.Proofs.YtngppcmdaanheaaW.PrintMore
set_option linter.unusedVariables false
set_option linter.unusedSimpArgs false
def Good (n : Nat) (L : List Fa) : Prop := (∀ f ∈ L, wfF f) ∧ n + L.length ≤ 1000000000000
theorem Good.pre {n : Nat} {L L2 : List Fa} (h : Good n L2) (hp : L <+: L2) : Good n L := ⟨fun f hf => h.1 f (hp.subset hf), Nat.le_trans (Nat.add_le_add_left hp.length_le _) h.2⟩
theorem Good.head {n : Nat} {L A R : List Fa} (h : Good n (L ++ (A ++ R))) : Good n (L ++ A) := h.pre (by rw [← List.append_assoc]; exact List.prefix_append _ _)
theorem Good.next {n : Nat} {L A R : List Fa} (h : Good n (L ++ (A ++ R))) : Good n ((L ++ A) ++ R) := by rwa [List.append_assoc]
def rg (n : Nat) (F : Nat → List Fa) : List Fa := (List.range n).flatMap F
theorem rg_zero (F : Nat → List Fa) : rg 0 F = [] := rfl
theorem rg_succ (n : Nat) (F : Nat → List Fa) : rg (n + 1) F = rg n F ++ F n := by
  unfold rg
  rw [List.range_succ, List.flatMap_append]
  simp
theorem mem_rg {n : Nat} {F : Nat → List Fa} {f : Fa} : f ∈ rg n F ↔ ∃ i, i < n ∧ f ∈ F i := by
  unfold rg
  simp [List.mem_flatMap]
theorem rg_pre {i m : Nat} (F : Nat → List Fa) (h : i ≤ m) : rg i F <+: rg m F := by
  induction m with
  | zero => obtain rfl : i = 0 := by omega
            exact List.prefix_refl _
  | succ m ih =>
    rcases Nat.eq_or_lt_of_le h with e | e
    · rw [e]
      exact List.prefix_refl _
    · rw [rg_succ]
      exact (ih (by omega)).trans (List.prefix_append _ _)
theorem Good.loop {n : Nat} {L R : List Fa} {m : Nat} {F : Nat → List Fa} (h : Good n (L ++ (rg m F ++ R))) {i : Nat} (hi : i < m) : Good n ((L ++ rg i F) ++ (F i ++ [])) := by
  rw [List.append_nil, List.append_assoc, ← rg_succ]
  exact h.head.pre (List.prefix_append_right_inj _ |>.2 (rg_pre F hi))
structure StA (r : Ro) (n : Nat) (S : Fa → Bool) (L : List Fa) (W1 W : World) : Prop where
  set : FSet W r.Mb (n + L.length) (addS S L)
  ch : Chg (fun i => i = r.Mb) W1 W
/-! ### a row of one, or none -/
theorem C_one {W : World} {g : Nat} {x : Int} (h : W.cell? ⟨g, 0, none⟩ = some (.int .i64 x)) : Kd.C (Kd.int .i64) W (some ⟨g, 0, none⟩) [x].length [x] := by
  refine ⟨rfl, by simp, fun _ => ⟨⟨g, 0, none⟩, rfl, fun j p hp => ?_⟩⟩
  match j, hp with
  | 0, hp =>
    obtain rfl : x = p := by simpa using hp
    exact ⟨[.int .i64 x], rfl, rfl, fun i u hu => by
      match i, hu with
      | 0, hu => obtain rfl : Value.int .i64 x = u := by simpa using hu
                 simpa [Addr.add] using h
      | i + 1, hu => simp at hu⟩
  | j + 1, hp => simp at hp
section
variable {r : Ro} {w0 w : World} {n : Nat} {S : Fa → Bool} {L R : List Fa} {W1 W W' : World}
theorem StA.quiet (h : StA r n S L W1 W) (hb : Below W.heap.size W W') : StA r n S L W1 W' :=
  ⟨h.set.chg (Chg.of_below hb (fun _ => False)) (fun e => e), h.ch.then_below hb⟩
theorem StA.here (h : StA r n S L W1 W) : StA r n S L W W := ⟨h.set, Chg.refl _ _⟩
theorem StA.rebase {W0 : World} (h : StA r n S L W1 W) (hc : Chg (fun i => i = r.Mb) W0 W1) : StA r n S L W0 W := ⟨h.set, hc.then_ h.ch⟩
theorem StA.start (h : FSet W r.Mb n S) : StA r n S [] W W := ⟨by rw [addS_nil]; exact h, Chg.refl _ _⟩
theorem st_in (h : RoAt r w0 W1) (hst : StA r n S L W1 W) (a : Int) (hsort : r.l.Pairwise LF) (hlen : r.l.length ≤ 900000) :
    Calls Try.prog 52 #[.pointer (some ⟨r.Br, 0, none⟩), .int .i64 a] W fun e W' => ∃ A c, e = .returned (.slice A (bsL r.l 9 a).length c) ∧ Kd.C (Kd.int .i64) W' A (bsL r.l 9 a).length (bsL r.l 9 a) ∧ StA r n S L W1 W' := by
  refine (in_calls (h.asked hst.ch) a hsort (by omega)).mono ?_
  rintro e W' ⟨v, rfl, hO, hb⟩
  obtain ⟨A, c, rfl, _, _⟩ := own_slice3 hO
  exact ⟨A, c, rfl, (Kd.R_reads' hO).2.2, hst.quiet hb⟩
theorem st_bs (h : RoAt r w0 W1) (hst : StA r n S L W1 W) (kind a : Int) (hsort : r.l.Pairwise LF) (hlen : r.l.length ≤ 900000) :
    Calls Try.prog 38 #[.pointer (some ⟨r.Br, 0, none⟩), .int .i64 kind, .int .i64 a] W fun e W' => ∃ A c, e = .returned (.slice A (bsL r.l kind a).length c) ∧ Kd.C (Kd.int .i64) W' A (bsL r.l kind a).length (bsL r.l kind a) ∧ StA r n S L W1 W' := by
  refine (bs_calls (h.asked hst.ch) kind a hsort (by omega)).mono ?_
  rintro e W' ⟨v, rfl, hO, hb⟩
  obtain ⟨A, c, rfl, _, _⟩ := own_slice3 hO
  exact ⟨A, c, rfl, (Kd.R_reads' hO).2.2, hst.quiet hb⟩
theorem st_asks (h : RoAt r w0 W1) (hst : StA r n S L W1 W) {kind a : Int} {s : ByteArray} {xs : List Int} (hg : Good n (L ++ (askL kind a s xs ++ R))) {A : Option Addr} {c m : Nat} (hm : m = xs.length) (hC : Kd.C (Kd.int .i64) W A xs.length xs) :
    Calls Try.prog 37 #[.pointer (some ⟨r.Br, 0, none⟩), .int .i64 kind, .int .i64 a, .string s, .slice A m c] W fun e W' => e = .returned (.tuple #[]) ∧ StA r n S (L ++ askL kind a s xs) W1 W' ∧ Good n ((L ++ askL kind a s xs) ++ R) := by
  subst hm
  have h1 := hg.head
  have hl : (L ++ askL kind a s xs).length = L.length + xs.length := by simp [askL]
  refine (asks_calls (h.asked hst.ch) kind a s A c xs hC (fun x hx => h1.1 _ (List.mem_append_right _ (List.mem_map.2 ⟨x, hx, rfl⟩))) hst.set (by have := h1.2; omega)).mono ?_
  rintro e W' ⟨rfl, hs, hc⟩
  refine ⟨rfl, ⟨?_, hst.ch.then_ hc⟩, hg.next⟩
  rw [hl, ← Nat.add_assoc]
  refine hs.same (fun f _ => ?_)
  rw [addS_app]
theorem st_ask1 (h : RoAt r w0 W1) (hst : StA r n S L W1 W) {kind a : Int} {s : ByteArray} {x : Int} (hg : Good n (L ++ (askL kind a s [x] ++ R))) {g : Nat} (hgb : g = W.heap.size) :
    Calls Try.prog 37 #[.pointer (some ⟨r.Br, 0, none⟩), .int .i64 kind, .int .i64 a, .string s, .slice (some ⟨g, 0, none⟩) 1 1] (W.alloc (.cells #[.int .i64 x] 3)) fun e W' => e = .returned (.tuple #[]) ∧ StA r n S (L ++ askL kind a s [x]) W1 W' ∧ Good n ((L ++ askL kind a s [x]) ++ R) := by
  subst hgb
  exact st_asks h (hst.quiet ((Below.refl _ W).alloc (Nat.le_refl _) _)) hg (A := some ⟨W.heap.size, 0, none⟩) (c := 1) rfl (C_one (cell_of_blk (heap_alloc_new _ _)).1)
theorem st_asks_perm (h : RoAt r w0 W1) (hst : StA r n S L W1 W) {kind a : Int} {s : ByteArray} {xs ys : List Int} (hp : ys.Perm xs) (hg : Good n (L ++ (askL kind a s xs ++ R))) {A : Option Addr} {c m : Nat} (hm : m = ys.length) (hC : Kd.C (Kd.int .i64) W A ys.length ys) :
    Calls Try.prog 37 #[.pointer (some ⟨r.Br, 0, none⟩), .int .i64 kind, .int .i64 a, .string s, .slice A m c] W fun e W' => e = .returned (.tuple #[]) ∧ StA r n S (L ++ askL kind a s xs) W1 W' ∧ Good n ((L ++ askL kind a s xs) ++ R) := by
  subst hm
  have h1 := hg.head
  have hl : (L ++ askL kind a s xs).length = L.length + ys.length := by simp [askL, hp.length_eq]
  refine (asks_calls (h.asked hst.ch) kind a s A c ys hC (fun x hx => h1.1 _ (List.mem_append_right _ (List.mem_map.2 ⟨x, hp.mem_iff.1 hx, rfl⟩))) hst.set (by have := h1.2; omega)).mono ?_
  rintro e W' ⟨rfl, hs, hc⟩
  refine ⟨rfl, ⟨?_, hst.ch.then_ hc⟩, hg.next⟩
  rw [hl, ← Nat.add_assoc]
  refine hs.same (fun f _ => ?_)
  rw [addS_app]
  unfold addS
  simp only [List.mem_append]
  congr 1
  refine decide_eq_decide.2 ?_
  have e : f ∈ askL kind a s ys ↔ f ∈ askL kind a s xs := ((hp.map _).mem_iff)
  rw [e]
end
/-! ### is, isAny -/
theorem is_calls (key : ByteArray) (w : World) :
    Calls Try.prog 73 #[.string key] w fun e w' => e = .returned (.func (.func 83) #[] #[.pointer (some ⟨w.heap.size, 0, none⟩)]) ∧ w' = w.alloc (.cells #[.string key] 9) := by
  go_enter Try.func73, Try.ntmps73
  go_wp2
  go_ret
  exact ⟨rfl, rfl⟩
theorem is1_calls (key s : ByteArray) (b : Nat) (w : World) (h : w.cell? ⟨b, 0, none⟩ = some (.string key)) :
    Calls Try.prog 83 #[.string s, .pointer (some ⟨b, 0, none⟩)] w fun e w' => e = .returned (.bool (decide (s = key))) ∧ Below w.heap.size w w' := by
  go_enter Try.func83, Try.ntmps83
  go_wp2
  go_ret
  refine ⟨?_, Below.refl _ _⟩
  have e : (s.toList == key.toList) = decide (s = key) := by
    by_cases h : s = key
    · subst h; simp
    · rw [decide_eq_false h]
      simpa using fun k => h (bytes_ext k)
  rw [← e]
  rfl
theorem isAny_calls (s : ByteArray) (w : World) :
    Calls Try.prog 54 #[.string s] w fun e w' => e = .returned (.bool true) ∧ Below w.heap.size w w' := by
  go_enter Try.func54, Try.ntmps54
  go_wp2
  go_ret
  exact ⟨rfl, Below.refl _ _⟩
end Go.Proofs.Ytngppcmdaanheaa.Ls
namespace Go.Proofs.Ytngppcmdaanheaa.Ls
open Go.RowKit Go.Maps Go.Proofs.Ytngppcmdaanheaa.Iter Go.Proofs.Ytngppcmdaanheaa.ISet Go.Proofs.Ytngppcmdaanheaa.Pr Go.Proofs.Ytngppcmdaanheaa.Ext Go.Proofs.YtngppcmdaanheaaW.PrintWords Go.Proofs.YtngppcmdaanheaaW.PrintLast Go.Proofs.YtngppcmdaanheaaW.PrintMore
set_option linter.unusedVariables false
set_option linter.unusedSimpArgs false
attribute [local go_sem] Oper.semAt_some
def cdT16 : Bool × List (List Nat × List Nat) := (true, [([], []), ([], []), ([1], [1]), ([], []), ([], []), ([4], [4]), ([3, 5], [3, 5]), ([0, 2, 6, 6], [0, 2, 6])])
def cdB16 : List Nat := [0, 0, 2, 0, 0, 16, 56, 127]
theorem cdtab16 : rtab .any (opsOf Try.f55 16) = cdT16 := by kernel_rfl
theorem cdbits16 : waitsOk cdT16.2 cdB16 = true := by kernel_rfl
def cdT17 : Bool × List (List Nat × List Nat) := (true, [([], []), ([], []), ([1], [1]), ([], []), ([], []), ([4], [4]), ([3, 5], [3, 5]), ([0, 2, 6, 6], [0, 2, 6])])
def cdB17 : List Nat := [0, 0, 2, 0, 0, 16, 56, 127]
theorem cdtab17 : rtab .any (opsOf Try.f55 17) = cdT17 := by kernel_rfl
theorem cdbits17 : waitsOk cdT17.2 cdB17 = true := by kernel_rfl
def cdT30 : Bool × List (List Nat × List Nat) := (true, [([], []), ([], []), ([1], [1]), ([], []), ([], []), ([4], [4]), ([3, 5], [3, 5]), ([0, 2, 6, 6], [0, 2, 6])])
def cdB30 : List Nat := [0, 0, 2, 0, 0, 16, 56, 127]
theorem cdtab30 : rtab .any (opsOf Try.f55 30) = cdT30 := by kernel_rfl
theorem cdbits30 : waitsOk cdT30.2 cdB30 = true := by kernel_rfl
def cdT31 : Bool × List (List Nat × List Nat) := (true, [([], []), ([], []), ([1], [1]), ([], []), ([], []), ([4], [4]), ([3, 5], [3, 5]), ([0, 2, 6, 6], [0, 2, 6])])
def cdB31 : List Nat := [0, 0, 2, 0, 0, 16, 56, 127]
theorem cdtab31 : rtab .any (opsOf Try.f55 31) = cdT31 := by kernel_rfl
theorem cdbits31 : waitsOk cdT31.2 cdB31 = true := by kernel_rfl
abbrev FunT := S44
structure Cl where
 mark : Int
 this : List Int
 args : List Int
 each : Int
 ret : Int
 out : Int
def noS : ByteArray := ⟨#[]⟩
def parAsk (l : List Fa) (x : Cl) (ps : List Int) (i : Nat) : List Fa :=
 if 0 ≤ x.each then askL 9 (rd ps i) noS (bsL l 9 x.each) ++ [] else if i < x.args.length then askL 9 (rd ps i) noS (bsL l 9 (rd x.args i)) ++ [] else []
def funAsk (l : List Fa) (x : Cl) (c : Int) (fs : List FunT) (g : Nat) : List Fa :=
 if g = 0 ∨ (rd_T44 fs g).f0 ≠ c then [] else
  askL 5 x.mark noS [c] ++ (askL 6 g noS [0] ++ (askL 9 (rd_T44 fs g).f2 noS x.this ++ (rg (rd_T44 fs g).f1.length (parAsk l x (rd_T44 fs g).f1) ++ (askL 9 x.ret noS (bsL l 9 (rd_T44 fs g).f3) ++ (askL 9 x.out noS (bsL l 9 (rd_T44 fs g).f4) ++ [])))))
def argAsk (l : List Fa) (x : Cl) (t : Int) (i : Nat) : List Fa := askL 9 (t + 1) noS (bsL l 9 (rd x.args i)) ++ []
def spareAsk (l : List Fa) (x : Cl) (c t : Int) : List Fa :=
 askL 5 x.mark noS [c] ++ (askL 9 t noS x.this ++ (rg x.args.length (argAsk l x t) ++ ((if 0 ≤ x.each then askL 9 (t + 1) noS (bsL l 9 x.each) else []) ++ (askL 9 x.ret noS (bsL l 9 (t + 2)) ++ (askL 9 x.out noS (bsL l 9 (t + 3)) ++ [])))))
def tailAsk (s0 : Int) (l : List Fa) (x : Cl) (c : Int) : List Fa := if c = 2 then spareAsk l x c (s0 - 9) else if c = 3 then spareAsk l x c (s0 - 9 + 4) else []
def callL (r : Ro) (x : Cl) (c : Int) : List Fa := rg r.fs.length (funAsk r.l x c r.fs) ++ tailAsk r.s0 r.l x c
structure ClAt (W : World) (b : Nat) (x : Cl) (At : Option Addr) (ct : Nat) (Aa : Option Addr) (ca : Nat) : Prop where
 c0 : W.cell? ⟨b, 0, none⟩ = some (.int .i64 x.mark)
 c1 : W.cell? ⟨b, 1, none⟩ = some (.slice At x.this.length ct)
 c2 : W.cell? ⟨b, 2, none⟩ = some (.slice Aa x.args.length ca)
 c3 : W.cell? ⟨b, 3, none⟩ = some (.int .i64 x.each)
 c4 : W.cell? ⟨b, 4, none⟩ = some (.int .i64 x.ret)
 c5 : W.cell? ⟨b, 5, none⟩ = some (.int .i64 x.out)
def clCells (x : Cl) (At : Option Addr) (ct : Nat) (Aa : Option Addr) (ca : Nat) : Array Value := #[.int .i64 x.mark, .slice At x.this.length ct, .slice Aa x.args.length ca, .int .i64 x.each, .int .i64 x.ret, .int .i64 x.out]
set_option maxHeartbeats 16000000 in
set_option maxRecDepth 100000 in
theorem called_calls {r : Ro} {w0 W1 W : World} {n : Nat} {S : Fa → Bool} {L R : List Fa} (h : RoAt r w0 W1) (hst : StA r n S L W1 W) (x : Cl) (c : Int) (hg : Good n (L ++ (callL r x c ++ R)))
  {At Aa : Option Addr} {ct ca : Nat} (hthis : Kd.C (Kd.int .i64) W At x.this.length x.this) (hargs : Kd.C (Kd.int .i64) W Aa x.args.length x.args) (hsort : r.l.Pairwise LF) (hlen : r.l.length ≤ 900000) (hfl : r.fs.length ≤ 1000000) (hs0 : 0 ≤ r.s0 ∧ r.s0 ≤ 1000000000) :
  Calls Try.prog 55 #[.pointer (some ⟨r.Br, 0, none⟩), .agg (clCells x At ct Aa ca), .int .i64 c] W fun e W' => e = .returned (.tuple #[]) ∧ StA r n S (L ++ callL r x c) W1 W' ∧ Good n ((L ++ callL r x c) ++ R) := by
 obtain ⟨Wb, hWb⟩ : ∃ Wb, Wb = W.alloc (.cells (clCells x At ct Aa ca) 87) := ⟨_, rfl⟩
 have hbb : Below W.heap.size W Wb := by rw [hWb]; exact (Below.refl _ W).alloc (Nat.le_refl _) _
 have hstb := (hst.quiet hbb).here
 have hroB : RoAt r w0 Wb := (h.asked hst.ch).quiet hbb
 have hnb : Wb.heap[W.heap.size]? = some (.cells (clCells x At ct Aa ca) 87 (0, 0)) := by rw [hWb]; exact heap_alloc_new _ _
 have hMb : FSet Wb r.Mb (n + L.length) (addS S L) := hstb.set
 have HCL := zm (show ∀ W', Chg (fun i => i = r.Mb) Wb W' → ClAt W' W.heap.size x At ct Aa ca from fun W' hc => by
  have hc' : ∀ j v, (clCells x At ct Aa ca)[j]? = some v → W'.cell? ⟨W.heap.size, j, none⟩ = some v := fun j v hv => cell_map hMb hc (by simp [World.cell?, hnb, hv])
  exact ⟨hc' 0 _ rfl, hc' 1 _ rfl, hc' 2 _ rfl, hc' 3 _ rfl, hc' 4 _ rfl, hc' 5 _ rfl⟩)
 obtain ⟨A1v, hA1v⟩ : ∃ A, r.A1 = A := ⟨_, rfl⟩
 have HA1V := zm hA1v
 have HRC := zm (show ∀ W', Chg (fun i => i = r.Mb) Wb W' → W'.cell? ⟨r.Br, 0, none⟩ = some (.int .i64 r.s0) ∧ W'.cell? ⟨r.Br, 1, none⟩ = some (.slice A1v r.fs.length r.c1) from fun W' hc => ⟨(hroB.asked hc).cell 0, by rw [← hA1v]; exact (hroB.asked hc).cell 1⟩)
 clear hA1v
 have HTH := zm (show ∀ W', Chg (fun i => i = r.Mb) Wb W' → Kd.C (Kd.int .i64) W' At x.this.length x.this from fun W' hc => intC_map hMb hc (Kd.C_below hthis hbb))
 have HAR := zm (show ∀ W', Chg (fun i => i = r.Mb) Wb W' → Kd.C (Kd.int .i64) W' Aa x.args.length x.args from fun W' hc => intC_map hMb hc (Kd.C_below hargs hbb))
 have HRO := zm hroB
 have HST := zm hstb
 have HMB := zm hMb
 have HS := zm hsort
 have HCH := zm (show Chg (fun i => i = r.Mb) W1 Wb from hst.ch.then_below hbb)
 have HG := zm (show Good n (L ++ (rg r.fs.length (funAsk r.l x c r.fs) ++ (tailAsk r.s0 r.l x c ++ R))) by rw [callL, List.append_assoc] at hg; exact hg)
 have harg : x.args.length ≤ 9223372036854775807 := hargs.2.1
 have HGO := zm hg
 clear h hst hg hthis hargs hsort hstb hroB hMb hnb hbb
 go_enter Try.func55, Try.ntmps55
 obtain ⟨d0, d1⟩ := HRC.out Wb HST.out.ch
 rw [hWb] at d0 d1
 have HWB := zm hWb
 clear hWb
 go_wp2
 rw [← HWB.out]
 clear d0 d1 HWB
 go_loopg [19] r.fs.length (fun kq v19 W_ => ∃ k : Nat, v19 = .int .i64 k ∧ k + kq = r.fs.length ∧ StA r n S (L ++ rg k (funAsk r.l x c r.fs)) Wb W_)
 case atStart => exact ⟨0, rfl, by omega, by rw [rg_zero, List.append_nil]; exact HST.out⟩
 case round =>
  clear HST
  obtain ⟨k, rfl, hk, hst⟩ := hrel
  have HST := zm hst
  by_cases hlt : k < r.fs.length
  ·obtain ⟨ad, A1_, c1_, hA1, hd0, hd1, hd2, hd3, hd4, hpl, hpc⟩ := at_T44 (Kd.C_below HRO.out.hf (HRO.out.asked hst.ch).bel) (k : Int) (by omega) (by omega)
   rw [Int.toNat_natCast] at hd0 hd1 hd2 hd3 hd4
   obtain rfl : A1v = some ad := HA1V.out.symm.trans hA1
   clear hA1
   have HGK := zm (HG.out.loop hlt)
   have HFK := zm (show funAsk r.l x c r.fs k = if k = 0 ∨ (rd_T44 r.fs k).f0 ≠ c then [] else _ from rfl)
   have HRG := zm (rg_succ k (funAsk r.l x c r.fs))
   generalize rd_T44 r.fs (k : Int) = f at *
   generalize funAsk r.l x c r.fs k = FK at *
   obtain ⟨f0, f1, f2, f3, f4⟩ := f
   dsimp only at hd0 hd1 hd2 hd3 hd4 hpl hpc HFK
   obtain ⟨Wf, hWf⟩ : ∃ Wf, Wf = wr.alloc (.cells #[.int .i64 f0, .slice A1_ f1.length c1_, .int .i64 f2, .int .i64 f3, .int .i64 f4] 44) := ⟨_, rfl⟩
   have hbf : Below wr.heap.size wr Wf := by rw [hWf]; exact (Below.refl _ wr).alloc (Nat.le_refl _) _
   have HCHF := zm (show Chg (fun i => i = r.Mb) Wb Wf from hst.ch.then_below hbf)
   have hstf := (hst.quiet hbf).here
   have hnf : Wf.heap[wr.heap.size]? = some (.cells #[.int .i64 f0, .slice A1_ f1.length c1_, .int .i64 f2, .int .i64 f3, .int .i64 f4] 44 (0, 0)) := by rw [hWf]; exact heap_alloc_new _ _
   have HFC := zm (show ∀ W', Chg (fun i => i = r.Mb) Wf W' → W'.cell? ⟨wr.heap.size, 0, none⟩ = some (.int .i64 f0) ∧ W'.cell? ⟨wr.heap.size, 1, none⟩ = some (.slice A1_ f1.length c1_) ∧ W'.cell? ⟨wr.heap.size, 2, none⟩ = some (.int .i64 f2) ∧ W'.cell? ⟨wr.heap.size, 3, none⟩ = some (.int .i64 f3) ∧ W'.cell? ⟨wr.heap.size, 4, none⟩ = some (.int .i64 f4) from fun W' hc => by
    have hc' : ∀ j v, (#[.int .i64 f0, .slice A1_ f1.length c1_, .int .i64 f2, .int .i64 f3, .int .i64 f4] : Array Value)[j]? = some v → W'.cell? ⟨wr.heap.size, j, none⟩ = some v := fun j v hv => cell_map hstf.set hc (by simp [World.cell?, hnf, hv])
    exact ⟨hc' 0 _ rfl, hc' 1 _ rfl, hc' 2 _ rfl, hc' 3 _ rfl, hc' 4 _ rfl⟩)
   have HPC := zm (show ∀ W', Chg (fun i => i = r.Mb) Wf W' → Kd.C (Kd.int .i64) W' A1_ f1.length f1 from fun W' hc => intC_map hstf.set hc (Kd.C_below hpc hbf))
   have HROF := zm (HRO.out.asked HCHF.out)
   have hpn : f1.length ≤ 9223372036854775807 := hpc.2.1
   have HSTF := zm hstf
   have HWF := zm hWf
   clear hWf hst hstf hnf hbf hpc hpl HST
   by_cases hz : k = 0
   ·have HF0 := zm (show FK = [] by rw [HFK.out, if_pos (.inl hz)])
    have hk0 : ((k : Int) == 0) = true := by simp [hz]
    clear hz
    go_wp2
    rw [← HWF.out]
    go_roundg (gk - 1)
    case measure => omega
    case rel => exact ⟨k + 1, by go_num, by omega, by rw [HRG.out, HF0.out, List.append_nil]; exact HSTF.out.rebase HCHF.out⟩
   ·have hk0 : ((k : Int) == 0) = false := by simp [hz]
    by_cases hfc : f0 = c
    ·have HF1 := zm (HFK.out.trans (if_neg (fun h => h.elim hz (fun h => h hfc))))
     rw [HF1.out, List.append_nil] at HGK
     clear HFK hz
     have hfc' := hfc.symm
     clear hfc
     subst hfc'
     have hfb : (c == c) = true := by simp
     have HST := HSTF
     obtain ⟨x0, x1, x2, x3, x4, x5⟩ := HCL.out Wf HCHF.out
     rw [HWF.out] at x0
     go_wp2_with fail
     rw [← HWF.out]
     clear x0 x1 x2 x3 x4 x5 hd0 hd1 hd2 hd3 hd4
     refine (st_ask1 HROF.out HST.out HGK.out (by rw [HWF.out]; simp)).mono ?_
     rintro e W2 ⟨rfl, hst_, hg_⟩
     have HST := zm hst_
     have HGK := zm hg_
     clear hst_ hg_
     obtain ⟨x0, x1, x2, x3, x4, x5⟩ := HCL.out W2 (HCHF.out.then_ HST.out.ch)
     obtain ⟨y0, y1, y2, y3, y4⟩ := HFC.out W2 HST.out.ch
     go_wp2_with fail
     clear x0 x1 x2 x3 x4 x5 y0 y1 y2 y3 y4
     refine (st_ask1 HROF.out HST.out HGK.out rfl).mono ?_
     rintro e W3 ⟨rfl, hst_, hg_⟩
     have HST := zm hst_
     have HGK := zm hg_
     clear hst_ hg_
     obtain ⟨x0, x1, x2, x3, x4, x5⟩ := HCL.out W3 (HCHF.out.then_ HST.out.ch)
     obtain ⟨y0, y1, y2, y3, y4⟩ := HFC.out W3 HST.out.ch
     go_wp2_with fail
     clear x0 x1 x2 x3 x4 x5 y0 y1 y2 y3 y4
     refine (st_asks HROF.out HST.out HGK.out rfl (HTH.out _ (HCHF.out.then_ HST.out.ch))).mono ?_
     rintro e W4 ⟨rfl, hst_, hg_⟩
     have HST := zm hst_
     have HGK := zm hg_
     clear hst_ hg_
     obtain ⟨x0, x1, x2, x3, x4, x5⟩ := HCL.out W4 (HCHF.out.then_ HST.out.ch)
     obtain ⟨y0, y1, y2, y3, y4⟩ := HFC.out W4 HST.out.ch
     go_wp2_with fail
     clear x0 x1 x2 x3 x4 x5 y0 y1 y2 y3 y4
     obtain ⟨Lc, hLc⟩ : ∃ Lc, Lc = L ++ rg k (funAsk r.l x c r.fs) ++ askL 5 x.mark noS [c] ++ askL 6 (k : Int) noS [0] ++ askL 9 f2 noS x.this := ⟨_, rfl⟩
     have HST4 := zm (show StA r n S Lc Wf W4 by rw [hLc]; exact HST.out)
     have HG4 := zm (show Good n (Lc ++ (rg f1.length (parAsk r.l x f1) ++ (askL 9 x.ret noS (bsL r.l 9 f3) ++ (askL 9 x.out noS (bsL r.l 9 f4) ++ [])))) by rw [hLc]; exact HGK.out)
     have HLC := zm hLc
     clear hLc HST HGK
     go_loopg [51] f1.length (fun jq v51 W_ => ∃ j : Nat, v51 = .int .i64 j ∧ j + jq = f1.length ∧ StA r n S (Lc ++ rg j (parAsk r.l x f1)) Wf W_)
     case atStart => exact ⟨0, rfl, by omega, by rw [rg_zero, List.append_nil]; exact HST4.out⟩
     case round =>
      clear HST4
      obtain ⟨j, rfl, hj, hst⟩ := hrel
      have HST := zm hst
      clear hst
      obtain ⟨x0, x1, x2, x3, x4, x5⟩ := HCL.out _ (HCHF.out.then_ HST.out.ch)
      obtain ⟨y0, y1, y2, y3, y4⟩ := HFC.out _ HST.out.ch
      by_cases hlt2 : j < f1.length
      ·obtain ⟨ad2, rfl, hp2⟩ := Kd.at_int (HPC.out _ HST.out.ch) (j : Int) (by omega) (by omega)
       rw [Int.toNat_natCast] at hp2
       have HGK := zm (HG4.out.loop hlt2)
       have HPK := zm (show parAsk r.l x f1 j = if 0 ≤ x.each then askL 9 (rd f1 (j : Int)) noS (bsL r.l 9 x.each) ++ [] else if j < x.args.length then askL 9 (rd f1 (j : Int)) noS (bsL r.l 9 (rd x.args (j : Int))) ++ [] else [] from rfl)
       have HRJ := zm (rg_succ j (parAsk r.l x f1))
       generalize rd f1 (j : Int) = pv at *
       generalize parAsk r.l x f1 j = PJ at *
       by_cases hge : 0 ≤ x.each
       ·have HP1 := zm (HPK.out.trans (if_pos hge))
        rw [HP1.out, List.append_nil] at HGK
        clear HPK
        go_wp2_with fail
        clear x0 x1 x2 x3 x4 x5 y0 y1 y2 y3 y4
        refine (st_in HROF.out HST.out x.each HS.out hlen).mono ?_
        rintro e W5 ⟨A5, c5, rfl, hC_, hst_⟩
        have HST := zm hst_
        have HC5 := zm hC_
        clear hst_ hC_
        obtain ⟨x0, x1, x2, x3, x4, x5⟩ := HCL.out W5 (HCHF.out.then_ HST.out.ch)
        obtain ⟨y0, y1, y2, y3, y4⟩ := HFC.out W5 HST.out.ch
        go_wp2_with fail
        clear x0 x1 x2 x3 x4 x5 y0 y1 y2 y3 y4
        refine (st_asks HROF.out HST.out HGK.out rfl HC5.out).mono ?_
        rintro e W6 ⟨rfl, hst_, hg_⟩
        have HST := zm hst_
        have HGK := zm hg_
        clear hst_ hg_
        obtain ⟨x0, x1, x2, x3, x4, x5⟩ := HCL.out W6 (HCHF.out.then_ HST.out.ch)
        obtain ⟨y0, y1, y2, y3, y4⟩ := HFC.out W6 HST.out.ch
        go_wp2
        go_roundg (gk - 1)
        case measure => omega
        case rel => exact ⟨j + 1, by go_num, by omega, by rw [HRJ.out, HP1.out, List.append_nil, ← List.append_assoc]; exact HST.out⟩
       ·by_cases hla : j < x.args.length
        ·have HP1 := zm ((HPK.out.trans (if_neg hge)).trans (if_pos hla))
         rw [HP1.out, List.append_nil] at HGK
         clear HPK
         obtain ⟨ad3, rfl, hp3⟩ := Kd.at_int (HAR.out _ (HCHF.out.then_ HST.out.ch)) (j : Int) (by omega) (by omega)
         rw [Int.toNat_natCast] at hp3
         generalize rd x.args (j : Int) = av at *
         go_wp2_with fail
         clear x0 x1 x2 x3 x4 x5 y0 y1 y2 y3 y4
         refine (st_in HROF.out HST.out av HS.out hlen).mono ?_
         rintro e W5 ⟨A5, c5, rfl, hC_, hst_⟩
         have HST := zm hst_
         have HC5 := zm hC_
         clear hst_ hC_
         obtain ⟨x0, x1, x2, x3, x4, x5⟩ := HCL.out W5 (HCHF.out.then_ HST.out.ch)
         obtain ⟨y0, y1, y2, y3, y4⟩ := HFC.out W5 HST.out.ch
         go_wp2_with fail
         clear x0 x1 x2 x3 x4 x5 y0 y1 y2 y3 y4
         refine (st_asks HROF.out HST.out HGK.out rfl HC5.out).mono ?_
         rintro e W6 ⟨rfl, hst_, hg_⟩
         have HST := zm hst_
         have HGK := zm hg_
         clear hst_ hg_
         obtain ⟨x0, x1, x2, x3, x4, x5⟩ := HCL.out W6 (HCHF.out.then_ HST.out.ch)
         obtain ⟨y0, y1, y2, y3, y4⟩ := HFC.out W6 HST.out.ch
         go_wp2
         go_roundg (gk - 1)
         case measure => omega
         case rel => exact ⟨j + 1, by go_num, by omega, by rw [HRJ.out, HP1.out, List.append_nil, ← List.append_assoc]; exact HST.out⟩
        ·have HP1 := zm ((HPK.out.trans (if_neg hge)).trans (if_neg hla))
         clear HPK
         have hla' : x.args.length ≤ j := by omega
         go_wp2
         go_roundg (gk - 1)
         case measure => omega
         case rel => exact ⟨j + 1, by go_num, by omega, by rw [HRJ.out, HP1.out, List.append_nil]; exact HST.out⟩
      ·obtain rfl : j = f1.length := by omega
       have HGK := zm (HG4.out.next)
       clear HG4
       go_wp2
       obtain ⟨Wd, hWd⟩ : ∃ Wd, wr.drew = Wd := ⟨_, rfl⟩
       have HST := zm (HST.out.quiet (W' := Wd) (by rw [← hWd]; exact below_drew (Below.refl _ _)))
       clear x0 x1 x2 x3 x4 x5 y0 y1 y2 y3 y4
       refine start_ (n := 8) (S := fun W' => Chg (fun i => i = r.Mb) Wf W') (ds := []) #[false, false, false, false, false, false, false, false] (by kernel_rfl) rfl rfl (by rw [hWd]; exact HST.out.ch) (fun hHeld => ?_)
       rw [hWd] at hHeld ⊢
       refine with_tabW cdtab16 cdbits16 (fun HT_ HW_ => ?_)
       refine zp 0 84 (h := ?_)
       refine zp 1 85 (h := ?_)
       refine zt 2 86 (hy := by
         intro w' hw'
         obtain ⟨x0, x1, x2, x3, x4, x5⟩ := HCL.out w' (HCHF.out.then_ hw')
         first | (go_simp; with_reducible rfl)) (h := ?_)
       refine zp 3 87 (h := ?_)
       refine zp 4 88 (h := ?_)
       refine zt 5 89 (hy := by
         intro w' hw'
         obtain ⟨y0, y1, y2, y3, y4⟩ := HFC.out w' hw'
         first | (go_simp; with_reducible rfl)) (h := ?_)
       refine zo 6 90 (h := fun K hK => ?_)
       refine zg Try.func52 #[.pointer (some ⟨r.Br, 0, none⟩), .int .i64 (f3)] (h := ?_)
       refine (st_in HROF.out HST.out (f3) HS.out hlen).mono ?_
       rintro e W8 ⟨A8, c8, rfl, hC_, hst_⟩
       refine ⟨_, rfl, ?_⟩
       have HST := zm hst_
       have HC8 := zm hC_
       clear hst_ hC_
       refine hK.out _ _ HST.out.ch (fun hHeld => ?_)
       clear hK K
       refine zn (h := ?_)
       refine zo 7 91 (h := fun K hK => ?_)
       refine zg Try.func37 #[.pointer (some ⟨r.Br, 0, none⟩), .int .i64 9, .int .i64 (x.ret), .string ⟨#[]⟩, .slice A8 (bsL r.l 9 (f3)).length c8] (h := ?_)
       refine (st_asks HROF.out HST.out HGK.out rfl HC8.out).mono ?_
       rintro e W9 ⟨rfl, hst_, hg_⟩
       refine ⟨_, rfl, ?_⟩
       have HST := zm hst_
       have HGK := zm hg_
       clear hst_ hg_
       refine hK.out _ _ HST.out.ch (fun hHeld => ?_)
       clear hK K
       refine zn (h := ?_)
       refine done_ (done_of HT_.out (by kernel_rfl)) ?_
       clear hHeld
       go_wp2
       obtain ⟨Wd, hWd⟩ : ∃ Wd, W9.drew = Wd := ⟨_, rfl⟩
       have HST := zm (HST.out.quiet (W' := Wd) (by rw [← hWd]; exact below_drew (Below.refl _ _)))
       refine start_ (n := 8) (S := fun W' => Chg (fun i => i = r.Mb) Wf W') (ds := []) #[false, false, false, false, false, false, false, false] (by kernel_rfl) rfl rfl (by rw [hWd]; exact HST.out.ch) (fun hHeld => ?_)
       rw [hWd] at hHeld ⊢
       refine with_tabW cdtab17 cdbits17 (fun HT_ HW_ => ?_)
       refine zp 0 92 (h := ?_)
       refine zp 1 93 (h := ?_)
       refine zt 2 94 (hy := by
         intro w' hw'
         obtain ⟨x0, x1, x2, x3, x4, x5⟩ := HCL.out w' (HCHF.out.then_ hw')
         first | (go_simp; with_reducible rfl)) (h := ?_)
       refine zp 3 95 (h := ?_)
       refine zp 4 96 (h := ?_)
       refine zt 5 97 (hy := by
         intro w' hw'
         obtain ⟨y0, y1, y2, y3, y4⟩ := HFC.out w' hw'
         first | (go_simp; with_reducible rfl)) (h := ?_)
       refine zo 6 98 (h := fun K hK => ?_)
       refine zg Try.func52 #[.pointer (some ⟨r.Br, 0, none⟩), .int .i64 (f4)] (h := ?_)
       refine (st_in HROF.out HST.out (f4) HS.out hlen).mono ?_
       rintro e W8 ⟨A8, c8, rfl, hC_, hst_⟩
       refine ⟨_, rfl, ?_⟩
       have HST := zm hst_
       have HC8 := zm hC_
       clear hst_ hC_
       refine hK.out _ _ HST.out.ch (fun hHeld => ?_)
       clear hK K
       refine zn (h := ?_)
       refine zo 7 99 (h := fun K hK => ?_)
       refine zg Try.func37 #[.pointer (some ⟨r.Br, 0, none⟩), .int .i64 9, .int .i64 (x.out), .string ⟨#[]⟩, .slice A8 (bsL r.l 9 (f4)).length c8] (h := ?_)
       refine (st_asks HROF.out HST.out HGK.out rfl HC8.out).mono ?_
       rintro e W9 ⟨rfl, hst_, hg_⟩
       refine ⟨_, rfl, ?_⟩
       have HST := zm hst_
       have HGK := zm hg_
       clear hst_ hg_
       refine hK.out _ _ HST.out.ch (fun hHeld => ?_)
       clear hK K
       refine zn (h := ?_)
       refine done_ (done_of HT_.out (by kernel_rfl)) ?_
       clear hHeld
       go_wp2
       go_roundg (r.fs.length - (k + 1))
       case measure => omega
       case rel =>
        have e : L ++ rg (k + 1) (funAsk r.l x c r.fs) = Lc ++ rg f1.length (parAsk r.l x f1) ++ askL 9 x.ret noS (bsL r.l 9 f3) ++ askL 9 x.out noS (bsL r.l 9 f4) := by
         rw [HRG.out, HF1.out, HLC.out]
         simp only [List.append_assoc, List.append_nil]
        exact ⟨k + 1, by go_num, by omega, by rw [e]; exact HST.out.rebase HCHF.out⟩
    ·have hfb : (f0 == c) = false := by simp [hfc]
     have HF0 := zm (show FK = [] by rw [HFK.out, if_pos (.inr hfc)])
     go_wp2
     rw [← HWF.out]
     go_roundg (gk - 1)
     case measure => omega
     case rel => exact ⟨k + 1, by go_num, by omega, by rw [HRG.out, HF0.out, List.append_nil]; exact HSTF.out.rebase HCHF.out⟩
  ·obtain rfl : k = r.fs.length := by omega
   have HGK := zm (HG.out.next.head)
   clear hst
   by_cases hc : c = 2 ∨ c = 3
   ·rcases hc with rfl | rfl
    ·obtain ⟨t, ht⟩ : ∃ t, t = r.s0 - 9 := ⟨_, rfl⟩
     have hw1 : wrap64 (r.s0 - 9) = t := by unfold wrap64; omega
     have hw4 : wrap64 t = t := by unfold wrap64; omega
     have HTL := zm (show tailAsk r.s0 r.l x 2 = spareAsk r.l x 2 t by simp [tailAsk, ht])
     rw [HTL.out] at HGK
     unfold spareAsk at HGK
     have HT := zm ht
     have hw5 : wrap64 (t + 1) = t + 1 := by unfold wrap64; omega
     have hw6 : wrap64 (t + 2) = t + 2 := by unfold wrap64; omega
     have hw7 : wrap64 (t + 3) = t + 3 := by unfold wrap64; omega
     clear ht
     obtain ⟨d0, _⟩ := HRC.out _ HST.out.ch
     obtain ⟨x0, x1, x2, x3, x4, x5⟩ := HCL.out _ HST.out.ch
     go_wp2_with fail
     rw [← HT.out]
     clear x0 x1 x2 x3 x4 x5 d0 hw1 hw4
     refine (st_ask1 HRO.out HST.out HGK.out rfl).mono ?_
     rintro e W2 ⟨rfl, hst_, hg_⟩
     have HST := zm hst_
     have HGK := zm hg_
     clear hst_ hg_
     obtain ⟨x0, x1, x2, x3, x4, x5⟩ := HCL.out W2 HST.out.ch
     go_wp2_with fail
     clear x0 x1 x2 x3 x4 x5
     refine (st_asks HRO.out HST.out HGK.out rfl (HTH.out _ HST.out.ch)).mono ?_
     rintro e W3 ⟨rfl, hst_, hg_⟩
     have HST := zm hst_
     have HGK := zm hg_
     clear hst_ hg_
     obtain ⟨x0, x1, x2, x3, x4, x5⟩ := HCL.out W3 HST.out.ch
     go_wp2_with fail
     clear x0 x1 x2 x3 x4 x5
     obtain ⟨Lc, hLc⟩ : ∃ Lc, Lc = L ++ rg r.fs.length (funAsk r.l x 2 r.fs) ++ askL 5 x.mark noS [2] ++ askL 9 t noS x.this := ⟨_, rfl⟩
     have HST4 := zm (show StA r n S Lc Wb W3 by rw [hLc]; exact HST.out)
     have HG4 := zm (show Good n (Lc ++ (rg x.args.length (argAsk r.l x t) ++ ((if 0 ≤ x.each then askL 9 (t + 1) noS (bsL r.l 9 x.each) else []) ++ (askL 9 x.ret noS (bsL r.l 9 (t + 2)) ++ (askL 9 x.out noS (bsL r.l 9 (t + 3)) ++ []))))) by rw [hLc]; exact HGK.out)
     have HLC := zm hLc
     clear hLc HST HGK
     go_loopg [131] x.args.length (fun jq v131 W_ => ∃ j : Nat, v131 = .int .i64 j ∧ j + jq = x.args.length ∧ StA r n S (Lc ++ rg j (argAsk r.l x t)) Wb W_)
     case atStart => exact ⟨0, rfl, by omega, by rw [rg_zero, List.append_nil]; exact HST4.out⟩
     case round =>
      clear HST4
      obtain ⟨j, rfl, hj, hst⟩ := hrel
      have HST := zm hst
      clear hst
      obtain ⟨x0, x1, x2, x3, x4, x5⟩ := HCL.out _ HST.out.ch
      by_cases hla : j < x.args.length
      ·have HGK := zm (HG4.out.loop hla)
       have HPK := zm (show argAsk r.l x t j = askL 9 (t + 1) noS (bsL r.l 9 (rd x.args (j : Int))) ++ [] from rfl)
       have HRJ := zm (rg_succ j (argAsk r.l x t))
       obtain ⟨ad3, rfl, hp3⟩ := Kd.at_int (HAR.out _ HST.out.ch) (j : Int) (by omega) (by omega)
       rw [Int.toNat_natCast] at hp3
       generalize rd x.args (j : Int) = av at *
       generalize argAsk r.l x t j = PJ at *
       rw [HPK.out, List.append_nil] at HGK
       go_wp2_with fail
       clear x0 x1 x2 x3 x4 x5
       refine (st_in HRO.out HST.out av HS.out hlen).mono ?_
       rintro e W5 ⟨A5, c5, rfl, hC_, hst_⟩
       have HST := zm hst_
       have HC5 := zm hC_
       clear hst_ hC_
       obtain ⟨x0, x1, x2, x3, x4, x5⟩ := HCL.out W5 HST.out.ch
       go_wp2_with fail
       clear x0 x1 x2 x3 x4 x5
       refine (st_asks HRO.out HST.out HGK.out rfl HC5.out).mono ?_
       rintro e W6 ⟨rfl, hst_, hg_⟩
       have HST := zm hst_
       have HGK := zm hg_
       clear hst_ hg_
       obtain ⟨x0, x1, x2, x3, x4, x5⟩ := HCL.out W6 HST.out.ch
       go_wp2
       go_roundg (gk - 1)
       case measure => omega
       case rel => exact ⟨j + 1, by go_num, by omega, by rw [HRJ.out, HPK.out, List.append_nil, ← List.append_assoc]; exact HST.out⟩
      ·obtain rfl : j = x.args.length := by omega
       have HGK := zm (HG4.out.next)
       clear HG4
       by_cases hge : 0 ≤ x.each
       ·rw [if_pos hge] at HGK
        go_wp2_with fail
        clear x0 x1 x2 x3 x4 x5
        refine (st_in HRO.out HST.out x.each HS.out hlen).mono ?_
        rintro e W5 ⟨A5, c5, rfl, hC_, hst_⟩
        have HST := zm hst_
        have HC5 := zm hC_
        clear hst_ hC_
        obtain ⟨x0, x1, x2, x3, x4, x5⟩ := HCL.out W5 HST.out.ch
        go_wp2_with fail
        clear x0 x1 x2 x3 x4 x5
        refine (st_asks HRO.out HST.out HGK.out rfl HC5.out).mono ?_
        rintro e W6 ⟨rfl, hst_, hg_⟩
        have HST := zm hst_
        have HGK := zm hg_
        clear hst_ hg_
        obtain ⟨x0, x1, x2, x3, x4, x5⟩ := HCL.out W6 HST.out.ch
        go_wp2
        clear x0 x1 x2 x3 x4 x5
        obtain ⟨Wd, hWd⟩ : ∃ Wd, W6.drew = Wd := ⟨_, rfl⟩
        have HST := zm (HST.out.quiet (W' := Wd) (by rw [← hWd]; exact below_drew (Below.refl _ _)))
        refine start_ (n := 8) (S := fun W' => Chg (fun i => i = r.Mb) Wb W') (ds := []) #[false, false, false, false, false, false, false, false] (by kernel_rfl) rfl rfl (by rw [hWd]; exact HST.out.ch) (fun hHeld => ?_)
        rw [hWd] at hHeld ⊢
        refine with_tabW cdtab30 cdbits30 (fun HT_ HW_ => ?_)
        refine zp 0 154 (ha := by simp only [zs, hw6, hw7]; rfl) (h := ?_)
        refine zp 1 155 (ha := by simp only [zs, hw6, hw7]; rfl) (h := ?_)
        refine zt 2 156 (hy := by
          intro w' hw'
          obtain ⟨x0, x1, x2, x3, x4, x5⟩ := HCL.out w' hw'
          first | (go_simp; with_reducible rfl)) (ha := by simp only [zs, hw6, hw7]; rfl) (h := ?_)
        refine zp 3 157 (ha := by simp only [zs, hw6, hw7]; rfl) (h := ?_)
        refine zp 4 158 (ha := by simp only [zs, hw6, hw7]; rfl) (h := ?_)
        refine zp 5 159 (ha := by simp only [zs, hw6, hw7]; rfl) (h := ?_)
        refine zo 6 160 (h := fun K hK => ?_)
        refine zg Try.func52 #[.pointer (some ⟨r.Br, 0, none⟩), .int .i64 (t + 2)] (h := ?_)
        refine (st_in HRO.out HST.out (t + 2) HS.out hlen).mono ?_
        rintro e W8 ⟨A8, c8, rfl, hC_, hst_⟩
        refine ⟨_, rfl, ?_⟩
        have HST := zm hst_
        have HC8 := zm hC_
        clear hst_ hC_
        refine hK.out _ _ HST.out.ch (fun hHeld => ?_)
        clear hK K
        refine zn (ha := by simp only [zs, hw6, hw7]; rfl) (h := ?_)
        refine zo 7 161 (h := fun K hK => ?_)
        refine zg Try.func37 #[.pointer (some ⟨r.Br, 0, none⟩), .int .i64 9, .int .i64 (x.ret), .string ⟨#[]⟩, .slice A8 (bsL r.l 9 (t + 2)).length c8] (h := ?_)
        refine (st_asks HRO.out HST.out HGK.out rfl HC8.out).mono ?_
        rintro e W9 ⟨rfl, hst_, hg_⟩
        refine ⟨_, rfl, ?_⟩
        have HST := zm hst_
        have HGK := zm hg_
        clear hst_ hg_
        refine hK.out _ _ HST.out.ch (fun hHeld => ?_)
        clear hK K
        refine zn (ha := by simp only [zs, hw6, hw7]; rfl) (h := ?_)
        refine done_ (done_of HT_.out (by kernel_rfl)) ?_
        clear hHeld
        go_wp2
        obtain ⟨Wd, hWd⟩ : ∃ Wd, W9.drew = Wd := ⟨_, rfl⟩
        have HST := zm (HST.out.quiet (W' := Wd) (by rw [← hWd]; exact below_drew (Below.refl _ _)))
        refine start_ (n := 8) (S := fun W' => Chg (fun i => i = r.Mb) Wb W') (ds := []) #[false, false, false, false, false, false, false, false] (by kernel_rfl) rfl rfl (by rw [hWd]; exact HST.out.ch) (fun hHeld => ?_)
        rw [hWd] at hHeld ⊢
        refine with_tabW cdtab31 cdbits31 (fun HT_ HW_ => ?_)
        refine zp 0 162 (ha := by simp only [zs, hw6, hw7]; rfl) (h := ?_)
        refine zp 1 163 (ha := by simp only [zs, hw6, hw7]; rfl) (h := ?_)
        refine zt 2 164 (hy := by
          intro w' hw'
          obtain ⟨x0, x1, x2, x3, x4, x5⟩ := HCL.out w' hw'
          first | (go_simp; with_reducible rfl)) (ha := by simp only [zs, hw6, hw7]; rfl) (h := ?_)
        refine zp 3 165 (ha := by simp only [zs, hw6, hw7]; rfl) (h := ?_)
        refine zp 4 166 (ha := by simp only [zs, hw6, hw7]; rfl) (h := ?_)
        refine zp 5 167 (ha := by simp only [zs, hw6, hw7]; rfl) (h := ?_)
        refine zo 6 168 (h := fun K hK => ?_)
        refine zg Try.func52 #[.pointer (some ⟨r.Br, 0, none⟩), .int .i64 (t + 3)] (h := ?_)
        refine (st_in HRO.out HST.out (t + 3) HS.out hlen).mono ?_
        rintro e W8 ⟨A8, c8, rfl, hC_, hst_⟩
        refine ⟨_, rfl, ?_⟩
        have HST := zm hst_
        have HC8 := zm hC_
        clear hst_ hC_
        refine hK.out _ _ HST.out.ch (fun hHeld => ?_)
        clear hK K
        refine zn (ha := by simp only [zs, hw6, hw7]; rfl) (h := ?_)
        refine zo 7 169 (h := fun K hK => ?_)
        refine zg Try.func37 #[.pointer (some ⟨r.Br, 0, none⟩), .int .i64 9, .int .i64 (x.out), .string ⟨#[]⟩, .slice A8 (bsL r.l 9 (t + 3)).length c8] (h := ?_)
        refine (st_asks HRO.out HST.out HGK.out rfl HC8.out).mono ?_
        rintro e W9 ⟨rfl, hst_, hg_⟩
        refine ⟨_, rfl, ?_⟩
        have HST := zm hst_
        have HGK := zm hg_
        clear hst_ hg_
        refine hK.out _ _ HST.out.ch (fun hHeld => ?_)
        clear hK K
        refine zn (ha := by simp only [zs, hw6, hw7]; rfl) (h := ?_)
        refine done_ (done_of HT_.out (by kernel_rfl)) ?_
        clear hHeld
        go_wp2
        go_end0
        have e : L ++ callL r x 2 = Lc ++ rg x.args.length (argAsk r.l x t) ++ askL 9 (t + 1) noS (bsL r.l 9 x.each) ++ askL 9 x.ret noS (bsL r.l 9 (t + 2)) ++ askL 9 x.out noS (bsL r.l 9 (t + 3)) := by
         rw [callL, HTL.out, spareAsk, if_pos hge, HLC.out]
         simp only [List.append_assoc, List.append_nil, List.nil_append]
        exact ⟨rfl, by rw [e]; exact HST.out.rebase HCH.out, HGO.out.next⟩
       ·rw [if_neg hge, List.nil_append] at HGK
        go_wp2
        clear x0 x1 x2 x3 x4 x5
        obtain ⟨Wd, hWd⟩ : ∃ Wd, wr.drew = Wd := ⟨_, rfl⟩
        have HST := zm (HST.out.quiet (W' := Wd) (by rw [← hWd]; exact below_drew (Below.refl _ _)))
        refine start_ (n := 8) (S := fun W' => Chg (fun i => i = r.Mb) Wb W') (ds := []) #[false, false, false, false, false, false, false, false] (by kernel_rfl) rfl rfl (by rw [hWd]; exact HST.out.ch) (fun hHeld => ?_)
        rw [hWd] at hHeld ⊢
        refine with_tabW cdtab30 cdbits30 (fun HT_ HW_ => ?_)
        refine zp 0 154 (ha := by simp only [zs, hw6, hw7]; rfl) (h := ?_)
        refine zp 1 155 (ha := by simp only [zs, hw6, hw7]; rfl) (h := ?_)
        refine zt 2 156 (hy := by
          intro w' hw'
          obtain ⟨x0, x1, x2, x3, x4, x5⟩ := HCL.out w' hw'
          first | (go_simp; with_reducible rfl)) (ha := by simp only [zs, hw6, hw7]; rfl) (h := ?_)
        refine zp 3 157 (ha := by simp only [zs, hw6, hw7]; rfl) (h := ?_)
        refine zp 4 158 (ha := by simp only [zs, hw6, hw7]; rfl) (h := ?_)
        refine zp 5 159 (ha := by simp only [zs, hw6, hw7]; rfl) (h := ?_)
        refine zo 6 160 (h := fun K hK => ?_)
        refine zg Try.func52 #[.pointer (some ⟨r.Br, 0, none⟩), .int .i64 (t + 2)] (h := ?_)
        refine (st_in HRO.out HST.out (t + 2) HS.out hlen).mono ?_
        rintro e W8 ⟨A8, c8, rfl, hC_, hst_⟩
        refine ⟨_, rfl, ?_⟩
        have HST := zm hst_
        have HC8 := zm hC_
        clear hst_ hC_
        refine hK.out _ _ HST.out.ch (fun hHeld => ?_)
        clear hK K
        refine zn (ha := by simp only [zs, hw6, hw7]; rfl) (h := ?_)
        refine zo 7 161 (h := fun K hK => ?_)
        refine zg Try.func37 #[.pointer (some ⟨r.Br, 0, none⟩), .int .i64 9, .int .i64 (x.ret), .string ⟨#[]⟩, .slice A8 (bsL r.l 9 (t + 2)).length c8] (h := ?_)
        refine (st_asks HRO.out HST.out HGK.out rfl HC8.out).mono ?_
        rintro e W9 ⟨rfl, hst_, hg_⟩
        refine ⟨_, rfl, ?_⟩
        have HST := zm hst_
        have HGK := zm hg_
        clear hst_ hg_
        refine hK.out _ _ HST.out.ch (fun hHeld => ?_)
        clear hK K
        refine zn (ha := by simp only [zs, hw6, hw7]; rfl) (h := ?_)
        refine done_ (done_of HT_.out (by kernel_rfl)) ?_
        clear hHeld
        go_wp2
        obtain ⟨Wd, hWd⟩ : ∃ Wd, W9.drew = Wd := ⟨_, rfl⟩
        have HST := zm (HST.out.quiet (W' := Wd) (by rw [← hWd]; exact below_drew (Below.refl _ _)))
        refine start_ (n := 8) (S := fun W' => Chg (fun i => i = r.Mb) Wb W') (ds := []) #[false, false, false, false, false, false, false, false] (by kernel_rfl) rfl rfl (by rw [hWd]; exact HST.out.ch) (fun hHeld => ?_)
        rw [hWd] at hHeld ⊢
        refine with_tabW cdtab31 cdbits31 (fun HT_ HW_ => ?_)
        refine zp 0 162 (ha := by simp only [zs, hw6, hw7]; rfl) (h := ?_)
        refine zp 1 163 (ha := by simp only [zs, hw6, hw7]; rfl) (h := ?_)
        refine zt 2 164 (hy := by
          intro w' hw'
          obtain ⟨x0, x1, x2, x3, x4, x5⟩ := HCL.out w' hw'
          first | (go_simp; with_reducible rfl)) (ha := by simp only [zs, hw6, hw7]; rfl) (h := ?_)
        refine zp 3 165 (ha := by simp only [zs, hw6, hw7]; rfl) (h := ?_)
        refine zp 4 166 (ha := by simp only [zs, hw6, hw7]; rfl) (h := ?_)
        refine zp 5 167 (ha := by simp only [zs, hw6, hw7]; rfl) (h := ?_)
        refine zo 6 168 (h := fun K hK => ?_)
        refine zg Try.func52 #[.pointer (some ⟨r.Br, 0, none⟩), .int .i64 (t + 3)] (h := ?_)
        refine (st_in HRO.out HST.out (t + 3) HS.out hlen).mono ?_
        rintro e W8 ⟨A8, c8, rfl, hC_, hst_⟩
        refine ⟨_, rfl, ?_⟩
        have HST := zm hst_
        have HC8 := zm hC_
        clear hst_ hC_
        refine hK.out _ _ HST.out.ch (fun hHeld => ?_)
        clear hK K
        refine zn (ha := by simp only [zs, hw6, hw7]; rfl) (h := ?_)
        refine zo 7 169 (h := fun K hK => ?_)
        refine zg Try.func37 #[.pointer (some ⟨r.Br, 0, none⟩), .int .i64 9, .int .i64 (x.out), .string ⟨#[]⟩, .slice A8 (bsL r.l 9 (t + 3)).length c8] (h := ?_)
        refine (st_asks HRO.out HST.out HGK.out rfl HC8.out).mono ?_
        rintro e W9 ⟨rfl, hst_, hg_⟩
        refine ⟨_, rfl, ?_⟩
        have HST := zm hst_
        have HGK := zm hg_
        clear hst_ hg_
        refine hK.out _ _ HST.out.ch (fun hHeld => ?_)
        clear hK K
        refine zn (ha := by simp only [zs, hw6, hw7]; rfl) (h := ?_)
        refine done_ (done_of HT_.out (by kernel_rfl)) ?_
        clear hHeld
        go_wp2
        go_end0
        have e : L ++ callL r x 2 = Lc ++ rg x.args.length (argAsk r.l x t) ++ askL 9 x.ret noS (bsL r.l 9 (t + 2)) ++ askL 9 x.out noS (bsL r.l 9 (t + 3)) := by
         rw [callL, HTL.out, spareAsk, if_neg (by omega), HLC.out]
         simp only [List.append_assoc, List.append_nil, List.nil_append]
        exact ⟨rfl, by rw [e]; exact HST.out.rebase HCH.out, HGO.out.next⟩
    ·obtain ⟨t, ht⟩ : ∃ t, t = r.s0 - 9 + 4 := ⟨_, rfl⟩
     have hw1 : wrap64 (r.s0 - 9) = t - 4 := by unfold wrap64; omega
     have hw4 : wrap64 (t - 4 + 4) = t := by unfold wrap64; omega
     have HTL := zm (show tailAsk r.s0 r.l x 3 = spareAsk r.l x 3 t by simp [tailAsk, ht])
     rw [HTL.out] at HGK
     unfold spareAsk at HGK
     have HT := zm ht
     have hw5 : wrap64 (t + 1) = t + 1 := by unfold wrap64; omega
     have hw6 : wrap64 (t + 2) = t + 2 := by unfold wrap64; omega
     have hw7 : wrap64 (t + 3) = t + 3 := by unfold wrap64; omega
     clear ht
     obtain ⟨d0, _⟩ := HRC.out _ HST.out.ch
     obtain ⟨x0, x1, x2, x3, x4, x5⟩ := HCL.out _ HST.out.ch
     go_wp2_with fail
     rw [← HT.out]
     clear x0 x1 x2 x3 x4 x5 d0 hw1 hw4
     refine (st_ask1 HRO.out HST.out HGK.out rfl).mono ?_
     rintro e W2 ⟨rfl, hst_, hg_⟩
     have HST := zm hst_
     have HGK := zm hg_
     clear hst_ hg_
     obtain ⟨x0, x1, x2, x3, x4, x5⟩ := HCL.out W2 HST.out.ch
     go_wp2_with fail
     clear x0 x1 x2 x3 x4 x5
     refine (st_asks HRO.out HST.out HGK.out rfl (HTH.out _ HST.out.ch)).mono ?_
     rintro e W3 ⟨rfl, hst_, hg_⟩
     have HST := zm hst_
     have HGK := zm hg_
     clear hst_ hg_
     obtain ⟨x0, x1, x2, x3, x4, x5⟩ := HCL.out W3 HST.out.ch
     go_wp2_with fail
     clear x0 x1 x2 x3 x4 x5
     obtain ⟨Lc, hLc⟩ : ∃ Lc, Lc = L ++ rg r.fs.length (funAsk r.l x 3 r.fs) ++ askL 5 x.mark noS [3] ++ askL 9 t noS x.this := ⟨_, rfl⟩
     have HST4 := zm (show StA r n S Lc Wb W3 by rw [hLc]; exact HST.out)
     have HG4 := zm (show Good n (Lc ++ (rg x.args.length (argAsk r.l x t) ++ ((if 0 ≤ x.each then askL 9 (t + 1) noS (bsL r.l 9 x.each) else []) ++ (askL 9 x.ret noS (bsL r.l 9 (t + 2)) ++ (askL 9 x.out noS (bsL r.l 9 (t + 3)) ++ []))))) by rw [hLc]; exact HGK.out)
     have HLC := zm hLc
     clear hLc HST HGK
     go_loopg [131] x.args.length (fun jq v131 W_ => ∃ j : Nat, v131 = .int .i64 j ∧ j + jq = x.args.length ∧ StA r n S (Lc ++ rg j (argAsk r.l x t)) Wb W_)
     case atStart => exact ⟨0, rfl, by omega, by rw [rg_zero, List.append_nil]; exact HST4.out⟩
     case round =>
      clear HST4
      obtain ⟨j, rfl, hj, hst⟩ := hrel
      have HST := zm hst
      clear hst
      obtain ⟨x0, x1, x2, x3, x4, x5⟩ := HCL.out _ HST.out.ch
      by_cases hla : j < x.args.length
      ·have HGK := zm (HG4.out.loop hla)
       have HPK := zm (show argAsk r.l x t j = askL 9 (t + 1) noS (bsL r.l 9 (rd x.args (j : Int))) ++ [] from rfl)
       have HRJ := zm (rg_succ j (argAsk r.l x t))
       obtain ⟨ad3, rfl, hp3⟩ := Kd.at_int (HAR.out _ HST.out.ch) (j : Int) (by omega) (by omega)
       rw [Int.toNat_natCast] at hp3
       generalize rd x.args (j : Int) = av at *
       generalize argAsk r.l x t j = PJ at *
       rw [HPK.out, List.append_nil] at HGK
       go_wp2_with fail
       clear x0 x1 x2 x3 x4 x5
       refine (st_in HRO.out HST.out av HS.out hlen).mono ?_
       rintro e W5 ⟨A5, c5, rfl, hC_, hst_⟩
       have HST := zm hst_
       have HC5 := zm hC_
       clear hst_ hC_
       obtain ⟨x0, x1, x2, x3, x4, x5⟩ := HCL.out W5 HST.out.ch
       go_wp2_with fail
       clear x0 x1 x2 x3 x4 x5
       refine (st_asks HRO.out HST.out HGK.out rfl HC5.out).mono ?_
       rintro e W6 ⟨rfl, hst_, hg_⟩
       have HST := zm hst_
       have HGK := zm hg_
       clear hst_ hg_
       obtain ⟨x0, x1, x2, x3, x4, x5⟩ := HCL.out W6 HST.out.ch
       go_wp2
       go_roundg (gk - 1)
       case measure => omega
       case rel => exact ⟨j + 1, by go_num, by omega, by rw [HRJ.out, HPK.out, List.append_nil, ← List.append_assoc]; exact HST.out⟩
      ·obtain rfl : j = x.args.length := by omega
       have HGK := zm (HG4.out.next)
       clear HG4
       by_cases hge : 0 ≤ x.each
       ·rw [if_pos hge] at HGK
        go_wp2_with fail
        clear x0 x1 x2 x3 x4 x5
        refine (st_in HRO.out HST.out x.each HS.out hlen).mono ?_
        rintro e W5 ⟨A5, c5, rfl, hC_, hst_⟩
        have HST := zm hst_
        have HC5 := zm hC_
        clear hst_ hC_
        obtain ⟨x0, x1, x2, x3, x4, x5⟩ := HCL.out W5 HST.out.ch
        go_wp2_with fail
        clear x0 x1 x2 x3 x4 x5
        refine (st_asks HRO.out HST.out HGK.out rfl HC5.out).mono ?_
        rintro e W6 ⟨rfl, hst_, hg_⟩
        have HST := zm hst_
        have HGK := zm hg_
        clear hst_ hg_
        obtain ⟨x0, x1, x2, x3, x4, x5⟩ := HCL.out W6 HST.out.ch
        go_wp2
        clear x0 x1 x2 x3 x4 x5
        obtain ⟨Wd, hWd⟩ : ∃ Wd, W6.drew = Wd := ⟨_, rfl⟩
        have HST := zm (HST.out.quiet (W' := Wd) (by rw [← hWd]; exact below_drew (Below.refl _ _)))
        refine start_ (n := 8) (S := fun W' => Chg (fun i => i = r.Mb) Wb W') (ds := []) #[false, false, false, false, false, false, false, false] (by kernel_rfl) rfl rfl (by rw [hWd]; exact HST.out.ch) (fun hHeld => ?_)
        rw [hWd] at hHeld ⊢
        refine with_tabW cdtab30 cdbits30 (fun HT_ HW_ => ?_)
        refine zp 0 154 (ha := by simp only [zs, hw6, hw7]; rfl) (h := ?_)
        refine zp 1 155 (ha := by simp only [zs, hw6, hw7]; rfl) (h := ?_)
        refine zt 2 156 (hy := by
          intro w' hw'
          obtain ⟨x0, x1, x2, x3, x4, x5⟩ := HCL.out w' hw'
          first | (go_simp; with_reducible rfl)) (ha := by simp only [zs, hw6, hw7]; rfl) (h := ?_)
        refine zp 3 157 (ha := by simp only [zs, hw6, hw7]; rfl) (h := ?_)
        refine zp 4 158 (ha := by simp only [zs, hw6, hw7]; rfl) (h := ?_)
        refine zp 5 159 (ha := by simp only [zs, hw6, hw7]; rfl) (h := ?_)
        refine zo 6 160 (h := fun K hK => ?_)
        refine zg Try.func52 #[.pointer (some ⟨r.Br, 0, none⟩), .int .i64 (t + 2)] (h := ?_)
        refine (st_in HRO.out HST.out (t + 2) HS.out hlen).mono ?_
        rintro e W8 ⟨A8, c8, rfl, hC_, hst_⟩
        refine ⟨_, rfl, ?_⟩
        have HST := zm hst_
        have HC8 := zm hC_
        clear hst_ hC_
        refine hK.out _ _ HST.out.ch (fun hHeld => ?_)
        clear hK K
        refine zn (ha := by simp only [zs, hw6, hw7]; rfl) (h := ?_)
        refine zo 7 161 (h := fun K hK => ?_)
        refine zg Try.func37 #[.pointer (some ⟨r.Br, 0, none⟩), .int .i64 9, .int .i64 (x.ret), .string ⟨#[]⟩, .slice A8 (bsL r.l 9 (t + 2)).length c8] (h := ?_)
        refine (st_asks HRO.out HST.out HGK.out rfl HC8.out).mono ?_
        rintro e W9 ⟨rfl, hst_, hg_⟩
        refine ⟨_, rfl, ?_⟩
        have HST := zm hst_
        have HGK := zm hg_
        clear hst_ hg_
        refine hK.out _ _ HST.out.ch (fun hHeld => ?_)
        clear hK K
        refine zn (ha := by simp only [zs, hw6, hw7]; rfl) (h := ?_)
        refine done_ (done_of HT_.out (by kernel_rfl)) ?_
        clear hHeld
        go_wp2
        obtain ⟨Wd, hWd⟩ : ∃ Wd, W9.drew = Wd := ⟨_, rfl⟩
        have HST := zm (HST.out.quiet (W' := Wd) (by rw [← hWd]; exact below_drew (Below.refl _ _)))
        refine start_ (n := 8) (S := fun W' => Chg (fun i => i = r.Mb) Wb W') (ds := []) #[false, false, false, false, false, false, false, false] (by kernel_rfl) rfl rfl (by rw [hWd]; exact HST.out.ch) (fun hHeld => ?_)
        rw [hWd] at hHeld ⊢
        refine with_tabW cdtab31 cdbits31 (fun HT_ HW_ => ?_)
        refine zp 0 162 (ha := by simp only [zs, hw6, hw7]; rfl) (h := ?_)
        refine zp 1 163 (ha := by simp only [zs, hw6, hw7]; rfl) (h := ?_)
        refine zt 2 164 (hy := by
          intro w' hw'
          obtain ⟨x0, x1, x2, x3, x4, x5⟩ := HCL.out w' hw'
          first | (go_simp; with_reducible rfl)) (ha := by simp only [zs, hw6, hw7]; rfl) (h := ?_)
        refine zp 3 165 (ha := by simp only [zs, hw6, hw7]; rfl) (h := ?_)
        refine zp 4 166 (ha := by simp only [zs, hw6, hw7]; rfl) (h := ?_)
        refine zp 5 167 (ha := by simp only [zs, hw6, hw7]; rfl) (h := ?_)
        refine zo 6 168 (h := fun K hK => ?_)
        refine zg Try.func52 #[.pointer (some ⟨r.Br, 0, none⟩), .int .i64 (t + 3)] (h := ?_)
        refine (st_in HRO.out HST.out (t + 3) HS.out hlen).mono ?_
        rintro e W8 ⟨A8, c8, rfl, hC_, hst_⟩
        refine ⟨_, rfl, ?_⟩
        have HST := zm hst_
        have HC8 := zm hC_
        clear hst_ hC_
        refine hK.out _ _ HST.out.ch (fun hHeld => ?_)
        clear hK K
        refine zn (ha := by simp only [zs, hw6, hw7]; rfl) (h := ?_)
        refine zo 7 169 (h := fun K hK => ?_)
        refine zg Try.func37 #[.pointer (some ⟨r.Br, 0, none⟩), .int .i64 9, .int .i64 (x.out), .string ⟨#[]⟩, .slice A8 (bsL r.l 9 (t + 3)).length c8] (h := ?_)
        refine (st_asks HRO.out HST.out HGK.out rfl HC8.out).mono ?_
        rintro e W9 ⟨rfl, hst_, hg_⟩
        refine ⟨_, rfl, ?_⟩
        have HST := zm hst_
        have HGK := zm hg_
        clear hst_ hg_
        refine hK.out _ _ HST.out.ch (fun hHeld => ?_)
        clear hK K
        refine zn (ha := by simp only [zs, hw6, hw7]; rfl) (h := ?_)
        refine done_ (done_of HT_.out (by kernel_rfl)) ?_
        clear hHeld
        go_wp2
        go_end0
        have e : L ++ callL r x 3 = Lc ++ rg x.args.length (argAsk r.l x t) ++ askL 9 (t + 1) noS (bsL r.l 9 x.each) ++ askL 9 x.ret noS (bsL r.l 9 (t + 2)) ++ askL 9 x.out noS (bsL r.l 9 (t + 3)) := by
         rw [callL, HTL.out, spareAsk, if_pos hge, HLC.out]
         simp only [List.append_assoc, List.append_nil, List.nil_append]
        exact ⟨rfl, by rw [e]; exact HST.out.rebase HCH.out, HGO.out.next⟩
       ·rw [if_neg hge, List.nil_append] at HGK
        go_wp2
        clear x0 x1 x2 x3 x4 x5
        obtain ⟨Wd, hWd⟩ : ∃ Wd, wr.drew = Wd := ⟨_, rfl⟩
        have HST := zm (HST.out.quiet (W' := Wd) (by rw [← hWd]; exact below_drew (Below.refl _ _)))
        refine start_ (n := 8) (S := fun W' => Chg (fun i => i = r.Mb) Wb W') (ds := []) #[false, false, false, false, false, false, false, false] (by kernel_rfl) rfl rfl (by rw [hWd]; exact HST.out.ch) (fun hHeld => ?_)
        rw [hWd] at hHeld ⊢
        refine with_tabW cdtab30 cdbits30 (fun HT_ HW_ => ?_)
        refine zp 0 154 (ha := by simp only [zs, hw6, hw7]; rfl) (h := ?_)
        refine zp 1 155 (ha := by simp only [zs, hw6, hw7]; rfl) (h := ?_)
        refine zt 2 156 (hy := by
          intro w' hw'
          obtain ⟨x0, x1, x2, x3, x4, x5⟩ := HCL.out w' hw'
          first | (go_simp; with_reducible rfl)) (ha := by simp only [zs, hw6, hw7]; rfl) (h := ?_)
        refine zp 3 157 (ha := by simp only [zs, hw6, hw7]; rfl) (h := ?_)
        refine zp 4 158 (ha := by simp only [zs, hw6, hw7]; rfl) (h := ?_)
        refine zp 5 159 (ha := by simp only [zs, hw6, hw7]; rfl) (h := ?_)
        refine zo 6 160 (h := fun K hK => ?_)
        refine zg Try.func52 #[.pointer (some ⟨r.Br, 0, none⟩), .int .i64 (t + 2)] (h := ?_)
        refine (st_in HRO.out HST.out (t + 2) HS.out hlen).mono ?_
        rintro e W8 ⟨A8, c8, rfl, hC_, hst_⟩
        refine ⟨_, rfl, ?_⟩
        have HST := zm hst_
        have HC8 := zm hC_
        clear hst_ hC_
        refine hK.out _ _ HST.out.ch (fun hHeld => ?_)
        clear hK K
        refine zn (ha := by simp only [zs, hw6, hw7]; rfl) (h := ?_)
        refine zo 7 161 (h := fun K hK => ?_)
        refine zg Try.func37 #[.pointer (some ⟨r.Br, 0, none⟩), .int .i64 9, .int .i64 (x.ret), .string ⟨#[]⟩, .slice A8 (bsL r.l 9 (t + 2)).length c8] (h := ?_)
        refine (st_asks HRO.out HST.out HGK.out rfl HC8.out).mono ?_
        rintro e W9 ⟨rfl, hst_, hg_⟩
        refine ⟨_, rfl, ?_⟩
        have HST := zm hst_
        have HGK := zm hg_
        clear hst_ hg_
        refine hK.out _ _ HST.out.ch (fun hHeld => ?_)
        clear hK K
        refine zn (ha := by simp only [zs, hw6, hw7]; rfl) (h := ?_)
        refine done_ (done_of HT_.out (by kernel_rfl)) ?_
        clear hHeld
        go_wp2
        obtain ⟨Wd, hWd⟩ : ∃ Wd, W9.drew = Wd := ⟨_, rfl⟩
        have HST := zm (HST.out.quiet (W' := Wd) (by rw [← hWd]; exact below_drew (Below.refl _ _)))
        refine start_ (n := 8) (S := fun W' => Chg (fun i => i = r.Mb) Wb W') (ds := []) #[false, false, false, false, false, false, false, false] (by kernel_rfl) rfl rfl (by rw [hWd]; exact HST.out.ch) (fun hHeld => ?_)
        rw [hWd] at hHeld ⊢
        refine with_tabW cdtab31 cdbits31 (fun HT_ HW_ => ?_)
        refine zp 0 162 (ha := by simp only [zs, hw6, hw7]; rfl) (h := ?_)
        refine zp 1 163 (ha := by simp only [zs, hw6, hw7]; rfl) (h := ?_)
        refine zt 2 164 (hy := by
          intro w' hw'
          obtain ⟨x0, x1, x2, x3, x4, x5⟩ := HCL.out w' hw'
          first | (go_simp; with_reducible rfl)) (ha := by simp only [zs, hw6, hw7]; rfl) (h := ?_)
        refine zp 3 165 (ha := by simp only [zs, hw6, hw7]; rfl) (h := ?_)
        refine zp 4 166 (ha := by simp only [zs, hw6, hw7]; rfl) (h := ?_)
        refine zp 5 167 (ha := by simp only [zs, hw6, hw7]; rfl) (h := ?_)
        refine zo 6 168 (h := fun K hK => ?_)
        refine zg Try.func52 #[.pointer (some ⟨r.Br, 0, none⟩), .int .i64 (t + 3)] (h := ?_)
        refine (st_in HRO.out HST.out (t + 3) HS.out hlen).mono ?_
        rintro e W8 ⟨A8, c8, rfl, hC_, hst_⟩
        refine ⟨_, rfl, ?_⟩
        have HST := zm hst_
        have HC8 := zm hC_
        clear hst_ hC_
        refine hK.out _ _ HST.out.ch (fun hHeld => ?_)
        clear hK K
        refine zn (ha := by simp only [zs, hw6, hw7]; rfl) (h := ?_)
        refine zo 7 169 (h := fun K hK => ?_)
        refine zg Try.func37 #[.pointer (some ⟨r.Br, 0, none⟩), .int .i64 9, .int .i64 (x.out), .string ⟨#[]⟩, .slice A8 (bsL r.l 9 (t + 3)).length c8] (h := ?_)
        refine (st_asks HRO.out HST.out HGK.out rfl HC8.out).mono ?_
        rintro e W9 ⟨rfl, hst_, hg_⟩
        refine ⟨_, rfl, ?_⟩
        have HST := zm hst_
        have HGK := zm hg_
        clear hst_ hg_
        refine hK.out _ _ HST.out.ch (fun hHeld => ?_)
        clear hK K
        refine zn (ha := by simp only [zs, hw6, hw7]; rfl) (h := ?_)
        refine done_ (done_of HT_.out (by kernel_rfl)) ?_
        clear hHeld
        go_wp2
        go_end0
        have e : L ++ callL r x 3 = Lc ++ rg x.args.length (argAsk r.l x t) ++ askL 9 x.ret noS (bsL r.l 9 (t + 2)) ++ askL 9 x.out noS (bsL r.l 9 (t + 3)) := by
         rw [callL, HTL.out, spareAsk, if_neg (by omega), HLC.out]
         simp only [List.append_assoc, List.append_nil, List.nil_append]
        exact ⟨rfl, by rw [e]; exact HST.out.rebase HCH.out, HGO.out.next⟩
   ·have HTL := zm (show tailAsk r.s0 r.l x c = [] by unfold tailAsk; rw [if_neg (fun h => hc (.inl h)), if_neg (fun h => hc (.inr h))])
    have hc2 : (c == 2) = false := by simp; omega
    have hc3 : (c == 3) = false := by simp; omega
    have hn2 : (c != 2) = true := by rw [bne, hc2]; rfl
    have hn3 : (c != 3) = true := by rw [bne, hc3]; rfl
    clear hc
    go_wp2
    refine bodyPost_ret (results_none (by rfl) _ _ _) rfl ?_
    exact ⟨rfl, by rw [callL, HTL.out, List.append_nil]; exact HST.out.rebase HCH.out, HGO.out.next⟩
end Go.Proofs.Ytngppcmdaanheaa.Ls
namespace Go.Proofs.Ytngppcmdaanheaa.Ls
open Go.RowKit Go.Maps Go.Proofs.Ytngppcmdaanheaa.Iter Go.Proofs.Ytngppcmdaanheaa.ISet Go.Proofs.Ytngppcmdaanheaa.Pr Go.Proofs.Ytngppcmdaanheaa.Ext Go.Proofs.YtngppcmdaanheaaW.PrintWords Go.Proofs.YtngppcmdaanheaaW.PrintLast Go.Proofs.YtngppcmdaanheaaW.PrintMore
set_option linter.unusedVariables false
set_option linter.unusedSimpArgs false
theorem any_take {α : Type} (l : List α) (P : α → Bool) (d : α) (j : Nat) (h : j < l.length) : (l.take (j + 1)).any P = ((l.take j).any P || P (l.getD j d)) := by
 have e : l.take (j + 1) = l.take j ++ [l.getD j d] := by
  rw [List.take_add_one, List.getElem?_eq_getElem h]
  simp [List.getD, h]
 rw [e]
 simp
theorem any_of_take {α : Type} (l : List α) (P : α → Bool) (j : Nat) (h : (l.take j).any P = true) : l.any P = true := by
 obtain ⟨x, hx, hp⟩ := List.any_eq_true.1 h
 exact List.any_eq_true.2 ⟨x, List.mem_of_mem_take hx, hp⟩
def PredI (W : World) (v : Value) (P : Int → Bool) : Prop :=
 ∃ n cap, v = .func (.func n) #[] cap ∧ (∀ args w, (callFunc n args).run Try.prog w = .ok (.enter n args) w) ∧
  ∀ W', Below W.heap.size W W' → ∀ x : Int, Calls Try.prog n (#[.int .i64 x] ++ cap) W' fun e W'' => e = .returned (.bool (P x)) ∧ Below W'.heap.size W' W''
set_option maxHeartbeats 8000000 in
set_option maxRecDepth 100000 in
theorem indexI (v : Value) (P : Int → Bool) (A : Option Addr) (c : Nat) (l : List Int) (w : World) (h : PredI w v P) (hl : Kd.C (Kd.int .i64) w A l.length l) (hc : l.length ≤ c) (hn : l.length ≤ 140737488355328) :
  Calls Try.prog 81 #[.slice A l.length c, v] w fun e w' => (∃ i : Int, e = .returned (.int .i64 i) ∧ (decide (0 ≤ i)) = l.any P) ∧ Below w.heap.size w w' := by
 obtain ⟨n, cap, rfl, en, K⟩ := h
 have K0 := zm K
 have HR := zm hl
 clear K hl
 go_enter Try.func81, Try.ntmps81
 go_wp2
 go_loopg [5, 8] l.length (fun kq _ i W => ∃ j : Nat, i = .int .i64 j ∧ j + kq = l.length ∧ (l.take j).any P = false ∧ Below w.heap.size w W)
 case atStart => exact ⟨0, rfl, by omega, rfl, by repeat (first | exact Below.refl _ _ | apply below_drew1)⟩
 case round =>
  obtain ⟨j, rfl, hj, hp, hb⟩ := hrel
  have HB := zm hb
  have HP := zm hp
  clear hb hp
  by_cases hlt : j < l.length
  ·obtain ⟨ad, rfl, hc0⟩ := Kd.at_int (Kd.C_below HR.out HB.out) (j : Int) (by omega) (by omega)
   rw [Int.toNat_natCast] at hc0
   have HG := zm (show rd l (j : Int) = l.getD j 0 by unfold rd; rw [Int.toNat_natCast])
   generalize rd l (j : Int) = y at *
   have HT := zm (any_take l P 0 j hlt)
   have hg : decide ((j : Int) < (l.length : Int)) = true := decide_eq_true (by omega)
   have hw : wrap64 ((j : Int) + 1) = ((j + 1 : Nat) : Int) := by unfold wrap64; omega
   by_cases hP : P y = true
   ·go_wp2_with (first | (refine (K0.out _ HB.out y).mono ?_; rintro e w1 ⟨rfl, hb1⟩; have HB1 := zm (below_step HB.out hb1); clear hb1))
    go_ret
    refine ⟨⟨(j : Int), by simp [*], ?_⟩, HB1.out⟩
    rw [decide_eq_true (by omega)]
    exact (any_of_take l P (j + 1) (by rw [HT.out, ← HG.out, hP]; simp)).symm
   ·have hP' : P y = false := by simpa using hP
    clear hP
    go_wp2_with (first | (refine (K0.out _ HB.out y).mono ?_; rintro e w1 ⟨rfl, hb1⟩; have HB1 := zm (below_step HB.out hb1); clear hb1))
    go_roundg (gk - 1)
    case measure => omega
    case rel => exact ⟨j + 1, by go_num, by omega, by rw [HT.out, ← HG.out, hP', HP.out]; rfl, HB1.out⟩
  ·obtain rfl : j = l.length := by omega
   have hg : decide ((l.length : Int) < (l.length : Int)) = false := decide_eq_false (by omega)
   go_wp2
   go_ret
   refine ⟨⟨-1, by simp [*], ?_⟩, HB.out⟩
   have hp := HP.out
   rw [List.take_length] at hp
   rw [hp]
   rfl
set_option maxHeartbeats 4000000 in
set_option maxRecDepth 100000 in
theorem containsI (v : Value) (P : Int → Bool) (A : Option Addr) (c : Nat) (l : List Int) (w : World) (h : PredI w v P) (hl : Kd.C (Kd.int .i64) w A l.length l) (hc : l.length ≤ c) (hn : l.length ≤ 140737488355328) :
  Calls Try.prog 64 #[.slice A l.length c, v] w fun e w' => e = .returned (.bool (l.any P)) ∧ Below w.heap.size w w' := by
 have HI := zm (indexI v P A c l w h hl hc hn)
 clear h hl hc hn
 go_enter Try.func64, Try.ntmps64
 go_wp2_with (go_at_call 81; refine HI.out.mono ?_; rintro e w1 ⟨⟨i, rfl, hi⟩, hb⟩; have HB1 := zm hb; clear hb)
 go_ret
 exact ⟨by simp [*], HB1.out⟩
def PredG (W : World) (v : Value) (l : List S44) (P : S44 → Bool) : Prop :=
 ∃ n cap, v = .func (.func n) #[] cap ∧ (∀ args w, (callFunc n args).run Try.prog w = .ok (.enter n args) w) ∧
  ∀ W', Below W.heap.size W W' → ∀ x A c, x ∈ l → Kd.C (Kd.int .i64) W' A x.f1.length x.f1 → x.f1.length ≤ c → Calls Try.prog n (#[.agg #[.int .i64 x.f0, .slice A x.f1.length c, .int .i64 x.f2, .int .i64 x.f3, .int .i64 x.f4]] ++ cap) W' fun e W'' => e = .returned (.bool (P x)) ∧ Below W'.heap.size W' W''
set_option maxHeartbeats 8000000 in
set_option maxRecDepth 100000 in
theorem indexG (v : Value) (P : S44 → Bool) (A : Option Addr) (c : Nat) (l : List S44) (w : World) (h : PredG w v l P) (hl : Kd.C k44 w A l.length l) (hc : l.length ≤ c) (hn : l.length ≤ 140737488355328) :
  Calls Try.prog 84 #[.slice A l.length c, v] w fun e w' => (∃ i : Int, e = .returned (.int .i64 i) ∧ (decide (0 ≤ i)) = l.any P) ∧ Below w.heap.size w w' := by
 obtain ⟨n, cap, rfl, en, K⟩ := h
 have K0 := zm K
 have HR := zm hl
 clear K hl
 go_enter Try.func84, Try.ntmps84
 go_wp2
 go_loopg [5, 8] l.length (fun kq _ i W => ∃ j : Nat, i = .int .i64 j ∧ j + kq = l.length ∧ (l.take j).any P = false ∧ Below w.heap.size w W)
 case atStart => exact ⟨0, rfl, by omega, rfl, by repeat (first | exact Below.refl _ _ | apply below_drew1)⟩
 case round =>
  obtain ⟨j, rfl, hj, hp, hb⟩ := hrel
  have HB := zm hb
  have HP := zm hp
  clear hb hp
  by_cases hlt : j < l.length
  ·obtain ⟨ad, A7, c7, rfl, hc0, hc1, hc2, hc3, hc4, hcl, hcr⟩ := at_T44 (Kd.C_below HR.out HB.out) (j : Int) (by omega) (by omega)
   rw [Int.toNat_natCast] at hc0 hc1 hc2 hc3 hc4
   have HCR := zm hcr
   have HCL := zm hcl
   clear hcr hcl
   have HG := zm (show rd_T44 l (j : Int) = l.getD j z44 by unfold rd_T44; rw [Int.toNat_natCast])
   have HM := zm (show rd_T44 l (j : Int) ∈ l by rw [HG.out, List.getD_eq_getElem?_getD, List.getElem?_eq_getElem hlt]; exact List.getElem_mem hlt)
   generalize rd_T44 l (j : Int) = y at *
   have HT := zm (any_take l P z44 j hlt)
   have hg : decide ((j : Int) < (l.length : Int)) = true := decide_eq_true (by omega)
   have hw : wrap64 ((j : Int) + 1) = ((j + 1 : Nat) : Int) := by unfold wrap64; omega
   by_cases hP : P y = true
   ·go_wp2_with (first | (refine (K0.out _ HB.out y A7 c7 HM.out HCR.out HCL.out).mono ?_; rintro e w1 ⟨rfl, hb1⟩; have HB1 := zm (below_step HB.out hb1); clear hb1))
    go_ret
    refine ⟨⟨(j : Int), by simp [*], ?_⟩, HB1.out⟩
    rw [decide_eq_true (by omega)]
    exact (any_of_take l P (j + 1) (by rw [HT.out, ← HG.out, hP]; simp)).symm
   ·have hP' : P y = false := by simpa using hP
    clear hP
    go_wp2_with (first | (refine (K0.out _ HB.out y A7 c7 HM.out HCR.out HCL.out).mono ?_; rintro e w1 ⟨rfl, hb1⟩; have HB1 := zm (below_step HB.out hb1); clear hb1))
    go_roundg (gk - 1)
    case measure => omega
    case rel => exact ⟨j + 1, by go_num, by omega, by rw [HT.out, ← HG.out, hP', HP.out]; rfl, HB1.out⟩
  ·obtain rfl : j = l.length := by omega
   have hg : decide ((l.length : Int) < (l.length : Int)) = false := decide_eq_false (by omega)
   go_wp2
   go_ret
   refine ⟨⟨-1, by simp [*], ?_⟩, HB.out⟩
   have hp := HP.out
   rw [List.take_length] at hp
   rw [hp]
   rfl
set_option maxHeartbeats 4000000 in
set_option maxRecDepth 100000 in
theorem containsG (v : Value) (P : S44 → Bool) (A : Option Addr) (c : Nat) (l : List S44) (w : World) (h : PredG w v l P) (hl : Kd.C k44 w A l.length l) (hc : l.length ≤ c) (hn : l.length ≤ 140737488355328) :
  Calls Try.prog 74 #[.slice A l.length c, v] w fun e w' => e = .returned (.bool (l.any P)) ∧ Below w.heap.size w w' := by
 have HI := zm (indexG v P A c l w h hl hc hn)
 clear h hl hc hn
 go_enter Try.func74, Try.ntmps74
 go_wp2_with (go_at_call 84; refine HI.out.mono ?_; rintro e w1 ⟨⟨i, rfl, hi⟩, hb⟩; have HB1 := zm hb; clear hb)
 go_ret
 exact ⟨by simp [*], HB1.out⟩
def PredU (W : World) (v : Value) (l : List S46) (P : S46 → Bool) : Prop :=
 ∃ n cap, v = .func (.func n) #[] cap ∧ (∀ args w, (callFunc n args).run Try.prog w = .ok (.enter n args) w) ∧
  ∀ W', Below W.heap.size W W' → ∀ x A c, x ∈ l → Kd.C (Kd.int .i64) W' A x.f8.length x.f8 → x.f8.length ≤ c → Calls Try.prog n (#[.agg #[.int .i64 x.f0, .int .i64 x.f1, .int .i64 x.f2, .int .i64 x.f3, .int .i64 x.f4, .int .i64 x.f5, .int .i64 x.f6, .string x.f7, .slice A x.f8.length c]] ++ cap) W' fun e W'' => e = .returned (.bool (P x)) ∧ Below W'.heap.size W' W''
set_option maxHeartbeats 8000000 in
set_option maxRecDepth 100000 in
theorem indexU (v : Value) (P : S46 → Bool) (A : Option Addr) (c : Nat) (l : List S46) (w : World) (h : PredU w v l P) (hl : Kd.C k46 w A l.length l) (hc : l.length ≤ c) (hn : l.length ≤ 140737488355328) :
  Calls Try.prog 66 #[.slice A l.length c, v] w fun e w' => (∃ i : Int, e = .returned (.int .i64 i) ∧ (decide (0 ≤ i)) = l.any P) ∧ Below w.heap.size w w' := by
 obtain ⟨n, cap, rfl, en, K⟩ := h
 have K0 := zm K
 have HR := zm hl
 clear K hl
 go_enter Try.func66, Try.ntmps66
 go_wp2
 go_loopg [5, 8] l.length (fun kq _ i W => ∃ j : Nat, i = .int .i64 j ∧ j + kq = l.length ∧ (l.take j).any P = false ∧ Below w.heap.size w W)
 case atStart => exact ⟨0, rfl, by omega, rfl, by repeat (first | exact Below.refl _ _ | apply below_drew1)⟩
 case round =>
  obtain ⟨j, rfl, hj, hp, hb⟩ := hrel
  have HB := zm hb
  have HP := zm hp
  clear hb hp
  by_cases hlt : j < l.length
  ·obtain ⟨ad, A7, c7, rfl, hc0, hc1, hc2, hc3, hc4, hc5, hc6, hc7, hc8, hcl, hcr⟩ := at_T46 (Kd.C_below HR.out HB.out) (j : Int) (by omega) (by omega)
   rw [Int.toNat_natCast] at hc0 hc1 hc2 hc3 hc4 hc5 hc6 hc7 hc8
   have HCR := zm hcr
   have HCL := zm hcl
   clear hcr hcl
   have HG := zm (show rd_T46 l (j : Int) = l.getD j z46 by unfold rd_T46; rw [Int.toNat_natCast])
   have HM := zm (show rd_T46 l (j : Int) ∈ l by rw [HG.out, List.getD_eq_getElem?_getD, List.getElem?_eq_getElem hlt]; exact List.getElem_mem hlt)
   generalize rd_T46 l (j : Int) = y at *
   have HT := zm (any_take l P z46 j hlt)
   have hg : decide ((j : Int) < (l.length : Int)) = true := decide_eq_true (by omega)
   have hw : wrap64 ((j : Int) + 1) = ((j + 1 : Nat) : Int) := by unfold wrap64; omega
   by_cases hP : P y = true
   ·go_wp2_with (first | (refine (K0.out _ HB.out y A7 c7 HM.out HCR.out HCL.out).mono ?_; rintro e w1 ⟨rfl, hb1⟩; have HB1 := zm (below_step HB.out hb1); clear hb1))
    go_ret
    refine ⟨⟨(j : Int), by simp [*], ?_⟩, HB1.out⟩
    rw [decide_eq_true (by omega)]
    exact (any_of_take l P (j + 1) (by rw [HT.out, ← HG.out, hP]; simp)).symm
   ·have hP' : P y = false := by simpa using hP
    clear hP
    go_wp2_with (first | (refine (K0.out _ HB.out y A7 c7 HM.out HCR.out HCL.out).mono ?_; rintro e w1 ⟨rfl, hb1⟩; have HB1 := zm (below_step HB.out hb1); clear hb1))
    go_roundg (gk - 1)
    case measure => omega
    case rel => exact ⟨j + 1, by go_num, by omega, by rw [HT.out, ← HG.out, hP', HP.out]; rfl, HB1.out⟩
  ·obtain rfl : j = l.length := by omega
   have hg : decide ((l.length : Int) < (l.length : Int)) = false := decide_eq_false (by omega)
   go_wp2
   go_ret
   refine ⟨⟨-1, by simp [*], ?_⟩, HB.out⟩
   have hp := HP.out
   rw [List.take_length] at hp
   rw [hp]
   rfl
set_option maxHeartbeats 4000000 in
set_option maxRecDepth 100000 in
theorem containsU (v : Value) (P : S46 → Bool) (A : Option Addr) (c : Nat) (l : List S46) (w : World) (h : PredU w v l P) (hl : Kd.C k46 w A l.length l) (hc : l.length ≤ c) (hn : l.length ≤ 140737488355328) :
  Calls Try.prog 47 #[.slice A l.length c, v] w fun e w' => e = .returned (.bool (l.any P)) ∧ Below w.heap.size w w' := by
 have HI := zm (indexU v P A c l w h hl hc hn)
 clear h hl hc hn
 go_enter Try.func47, Try.ntmps47
 go_wp2_with (go_at_call 66; refine HI.out.mono ?_; rintro e w1 ⟨⟨i, rfl, hi⟩, hb⟩; have HB1 := zm hb; clear hb)
 go_ret
 exact ⟨by simp [*], HB1.out⟩
def PredK (W : World) (v : Value) (l : List S41) (P : S41 → Bool) : Prop :=
 ∃ n cap, v = .func (.func n) #[] cap ∧ (∀ args w, (callFunc n args).run Try.prog w = .ok (.enter n args) w) ∧
  ∀ W', Below W.heap.size W W' → ∀ x, x ∈ l → Calls Try.prog n (#[.agg #[.int .i64 x.f0, .int .i64 x.f1, .string x.f2, .int .i64 x.f3]] ++ cap) W' fun e W'' => e = .returned (.bool (P x)) ∧ Below W'.heap.size W' W''
set_option maxHeartbeats 8000000 in
set_option maxRecDepth 100000 in
theorem indexK (v : Value) (P : S41 → Bool) (A : Option Addr) (c : Nat) (l : List S41) (w : World) (h : PredK w v l P) (hl : Kd.C k41 w A l.length l) (hc : l.length ≤ c) (hn : l.length ≤ 140737488355328) :
  Calls Try.prog 51 #[.slice A l.length c, v] w fun e w' => (∃ i : Int, e = .returned (.int .i64 i) ∧ (decide (0 ≤ i)) = l.any P) ∧ Below w.heap.size w w' := by
 obtain ⟨n, cap, rfl, en, K⟩ := h
 have K0 := zm K
 have HR := zm hl
 clear K hl
 go_enter Try.func51, Try.ntmps51
 go_wp2
 go_loopg [5, 8] l.length (fun kq _ i W => ∃ j : Nat, i = .int .i64 j ∧ j + kq = l.length ∧ (l.take j).any P = false ∧ Below w.heap.size w W)
 case atStart => exact ⟨0, rfl, by omega, rfl, by repeat (first | exact Below.refl _ _ | apply below_drew1)⟩
 case round =>
  obtain ⟨j, rfl, hj, hp, hb⟩ := hrel
  have HB := zm hb
  have HP := zm hp
  clear hb hp
  by_cases hlt : j < l.length
  ·obtain ⟨ad, rfl, hc0, hc1, hc2, hc3⟩ := at_T41 (Kd.C_below HR.out HB.out) (j : Int) (by omega) (by omega)
   rw [Int.toNat_natCast] at hc0 hc1 hc2 hc3
   have HG := zm (show rd_T41 l (j : Int) = l.getD j z41 by unfold rd_T41; rw [Int.toNat_natCast])
   have HM := zm (show rd_T41 l (j : Int) ∈ l by rw [HG.out, List.getD_eq_getElem?_getD, List.getElem?_eq_getElem hlt]; exact List.getElem_mem hlt)
   generalize rd_T41 l (j : Int) = y at *
   have HT := zm (any_take l P z41 j hlt)
   have hg : decide ((j : Int) < (l.length : Int)) = true := decide_eq_true (by omega)
   have hw : wrap64 ((j : Int) + 1) = ((j + 1 : Nat) : Int) := by unfold wrap64; omega
   by_cases hP : P y = true
   ·go_wp2_with (first | (refine (K0.out _ HB.out y HM.out).mono ?_; rintro e w1 ⟨rfl, hb1⟩; have HB1 := zm (below_step HB.out hb1); clear hb1))
    go_ret
    refine ⟨⟨(j : Int), by simp [*], ?_⟩, HB1.out⟩
    rw [decide_eq_true (by omega)]
    exact (any_of_take l P (j + 1) (by rw [HT.out, ← HG.out, hP]; simp)).symm
   ·have hP' : P y = false := by simpa using hP
    clear hP
    go_wp2_with (first | (refine (K0.out _ HB.out y HM.out).mono ?_; rintro e w1 ⟨rfl, hb1⟩; have HB1 := zm (below_step HB.out hb1); clear hb1))
    go_roundg (gk - 1)
    case measure => omega
    case rel => exact ⟨j + 1, by go_num, by omega, by rw [HT.out, ← HG.out, hP', HP.out]; rfl, HB1.out⟩
  ·obtain rfl : j = l.length := by omega
   have hg : decide ((l.length : Int) < (l.length : Int)) = false := decide_eq_false (by omega)
   go_wp2
   go_ret
   refine ⟨⟨-1, by simp [*], ?_⟩, HB.out⟩
   have hp := HP.out
   rw [List.take_length] at hp
   rw [hp]
   rfl
set_option maxHeartbeats 4000000 in
set_option maxRecDepth 100000 in
theorem containsK (v : Value) (P : S41 → Bool) (A : Option Addr) (c : Nat) (l : List S41) (w : World) (h : PredK w v l P) (hl : Kd.C k41 w A l.length l) (hc : l.length ≤ c) (hn : l.length ≤ 140737488355328) :
  Calls Try.prog 34 #[.slice A l.length c, v] w fun e w' => e = .returned (.bool (l.any P)) ∧ Below w.heap.size w w' := by
 have HI := zm (indexK v P A c l w h hl hc hn)
 clear h hl hc hn
 go_enter Try.func34, Try.ntmps34
 go_wp2_with (go_at_call 51; refine HI.out.mono ?_; rintro e w1 ⟨⟨i, rfl, hi⟩, hb⟩; have HB1 := zm hb; clear hb)
 go_ret
 exact ⟨by simp [*], HB1.out⟩
end Go.Proofs.Ytngppcmdaanheaa.Ls
namespace Go.Proofs.Ytngppcmdaanheaa.Ls
open Go.RowKit Go.Maps Go.Proofs.Ytngppcmdaanheaa.Iter Go.Proofs.Ytngppcmdaanheaa.ISet Go.Proofs.Ytngppcmdaanheaa.Pr Go.Proofs.Ytngppcmdaanheaa.Ext Go.Proofs.YtngppcmdaanheaaW.PrintWords Go.Proofs.YtngppcmdaanheaaW.PrintLast Go.Proofs.YtngppcmdaanheaaW.PrintMore
set_option linter.unusedVariables false
set_option linter.unusedSimpArgs false
attribute [local go_sem] Oper.semAt_some
def eaT3 : Bool × List (List Nat × List Nat) := (true, [([], []), ([], []), ([1], [1]), ([], []), ([], []), ([], []), ([5], [5]), ([6], [6]), ([3, 4, 7, 7], [3, 4, 7]), ([0, 2, 8, 8], [0, 2, 8])])
def eaB3 : List Nat := [0, 0, 2, 0, 0, 0, 32, 96, 248, 511]
theorem eatab3 : rtab .any (opsOf Try.f57 3) = eaT3 := by kernel_rfl
theorem eabits3 : waitsOk eaT3.2 eaB3 = true := by kernel_rfl
def eaT5 : Bool × List (List Nat × List Nat) := (true, [([], []), ([], []), ([1], [1]), ([], []), ([], []), ([3, 4], [3, 4]), ([0, 2, 5, 5], [0, 2, 5])])
def eaB5 : List Nat := [0, 0, 2, 0, 0, 24, 63]
theorem eatab5 : rtab .any (opsOf Try.f57 5) = eaT5 := by kernel_rfl
theorem eabits5 : waitsOk eaT5.2 eaB5 = true := by kernel_rfl
def eaT7 : Bool × List (List Nat × List Nat) := (true, [([], []), ([], []), ([], []), ([2], [2]), ([], []), ([], []), ([5], [5]), ([4, 6], [4, 6]), ([0, 1, 3, 7, 7], [0, 1, 3, 7])])
def eaB7 : List Nat := [0, 0, 0, 4, 0, 0, 32, 112, 255]
theorem eatab7 : rtab .any (opsOf Try.f57 7) = eaT7 := by kernel_rfl
theorem eabits7 : waitsOk eaT7.2 eaB7 = true := by kernel_rfl
def eaT9 : Bool × List (List Nat × List Nat) := (true, [([], []), ([], []), ([], []), ([], []), ([3], [3]), ([2, 4], [2, 4]), ([0, 1, 5, 5], [0, 1, 5])])
def eaB9 : List Nat := [0, 0, 0, 0, 8, 28, 63]
theorem eatab9 : rtab .any (opsOf Try.f57 9) = eaT9 := by kernel_rfl
theorem eabits9 : waitsOk eaT9.2 eaB9 = true := by kernel_rfl
def eaT19 : Bool × List (List Nat × List Nat) := (true, [([], []), ([], []), ([1], [1]), ([], []), ([], []), ([], []), ([3, 4, 5, 5], [3, 4, 5]), ([0, 2, 6, 6], [0, 2, 6])])
def eaB19 : List Nat := [0, 0, 2, 0, 0, 0, 56, 127]
theorem eatab19 : rtab .any (opsOf Try.f57 19) = eaT19 := by kernel_rfl
theorem eabits19 : waitsOk eaT19.2 eaB19 = true := by kernel_rfl
abbrev RuT := S46
def protoS : ByteArray := ⟨#[112, 114, 111, 116, 111, 116, 121, 112, 101]⟩
def isFunB (fs : List FunT) (c : Int) : Bool := (fs.drop 1).any (fun f => f.f0 == c)
def eachL (r : Ro) (x : RuT) (c : Int) : List Fa :=
 if x.f0 = 4 then askL 9 x.f3 noS (loadsL r.l (fun k => decide (k = x.f7)) c)
 else if x.f0 = 5 then askL 9 x.f3 noS (loadsL r.l (fun _ => true) c)
 else if x.f0 = 6 then askL 3 c x.f7 (bsL r.l 9 x.f3)
 else if x.f0 = 7 then askL 8 c noS (bsL r.l 9 x.f3)
 else if x.f0 = 8 then callL r ⟨x.f6, if 0 ≤ x.f4 then bsL r.l 9 x.f4 else [], x.f8, -1, x.f3, x.f5⟩ c
 else if x.f0 = 9 then (if isFunB r.fs c = true then askL 9 x.f3 noS [x.f6] ++ (askL 4 x.f6 noS [0] ++ (askL 4 x.f6 noS (loadsL r.l (fun k => decide (k = protoS)) c) ++ callL r ⟨x.f6, [x.f6], x.f8, -1, x.f3, x.f5⟩ c)) else [])
 else []
def ruCells (x : RuT) (A : Option Addr) (c : Nat) : Array Value := #[.int .i64 x.f0, .int .i64 x.f1, .int .i64 x.f2, .int .i64 x.f3, .int .i64 x.f4, .int .i64 x.f5, .int .i64 x.f6, .string x.f7, .slice A x.f8.length c]
def EaAt (W : World) (b d : Nat) (k F X Y Z N M : Int) (s : ByteArray) (n : Nat) (A : Option Addr) (ca : Nat) (c : Int) : Prop :=
 W.cell? ⟨b, 0, none⟩ = some (.int .i64 k) ∧ W.cell? ⟨b, 1, none⟩ = some (.int .i64 F) ∧ W.cell? ⟨b, 2, none⟩ = some (.int .i64 X) ∧ W.cell? ⟨b, 3, none⟩ = some (.int .i64 Y) ∧ W.cell? ⟨b, 4, none⟩ = some (.int .i64 Z) ∧ W.cell? ⟨b, 5, none⟩ = some (.int .i64 N) ∧ W.cell? ⟨b, 6, none⟩ = some (.int .i64 M) ∧ W.cell? ⟨b, 7, none⟩ = some (.string s) ∧ W.cell? ⟨b, 8, none⟩ = some (.slice A n ca) ∧ W.cell? ⟨d, 0, none⟩ = some (.int .i64 c)
theorem each1_calls (c m : Int) (b : Nat) (x : FunT) (A : Option Addr) (ca : Nat) (hm : m = x.f0) (w : World) (h : w.cell? ⟨b, 0, none⟩ = some (.int .i64 c)) :
  Calls Try.prog 75 #[.agg #[.int .i64 x.f0, .slice A x.f1.length ca, .int .i64 x.f2, .int .i64 x.f3, .int .i64 x.f4], .pointer (some ⟨b, 0, none⟩)] w fun e w' => e = .returned (.bool (x.f0 == c)) ∧ Below w.heap.size w w' := by
 have hb : b < w.heap.size := by have := World.block_lt_of_cell? w _ h; simpa using this
 have h' : (w.alloc (.cells #[.int .i64 x.f0, .slice A x.f1.length ca, .int .i64 x.f2, .int .i64 x.f3, .int .i64 x.f4] 44)).cell? ⟨b, 0, none⟩ = some (.int .i64 c) := by rw [← h]; exact World.cell?_of_block (Below.heap_alloc _ _ _ hb)
 go_enter Try.func75, Try.ntmps75
 go_wp2
 go_ret
 exact ⟨rfl, (Below.refl _ _).alloc (Nat.le_refl _) _⟩
set_option maxHeartbeats 16000000 in
set_option maxRecDepth 100000 in
theorem each_calls {r : Ro} {w0 W1 W : World} {n : Nat} {S : Fa → Bool} {L R : List Fa} (h : RoAt r w0 W1) (hst : StA r n S L W1 W) (x : RuT) (c : Int) (hg : Good n (L ++ (eachL r x c ++ R)))
  {Al : Option Addr} {cl : Nat} (hargs : Kd.C (Kd.int .i64) W Al x.f8.length x.f8) (hsort : r.l.Pairwise LF) (hlen : r.l.length ≤ 900000) (hfl : 1 ≤ r.fs.length ∧ r.fs.length ≤ 1000000) (hfc : r.fs.length ≤ r.c1) (hs0 : 0 ≤ r.s0 ∧ r.s0 ≤ 1000000000) (hwc : wfI c) (hwl : ∀ f ∈ r.l, wfI f.f3) :
  Calls Try.prog 57 #[.pointer (some ⟨r.Br, 0, none⟩), .agg (ruCells x Al cl), .int .i64 c] W fun e W' => e = .returned (.tuple #[]) ∧ StA r n S (L ++ eachL r x c) W1 W' ∧ Good n ((L ++ eachL r x c) ++ R) := by
 obtain ⟨k, F, X, Y, Z, N, M, s, al⟩ := x
 obtain ⟨Wb, hWb⟩ : ∃ Wb, Wb = (W.alloc (.cells (ruCells ⟨k, F, X, Y, Z, N, M, s, al⟩ Al cl) 46)).alloc (.cells #[.int .i64 c] 3) := ⟨_, rfl⟩
 have hbb : Below W.heap.size W Wb := by rw [hWb]; exact below_alloc (below_alloc (Below.refl _ W) _) _
 have hstb := (hst.quiet hbb).here
 have hroB : RoAt r w0 Wb := (h.asked hst.ch).quiet hbb
 have hnb : Wb.heap[W.heap.size]? = some (.cells (ruCells ⟨k, F, X, Y, Z, N, M, s, al⟩ Al cl) 46 (0, 0)) := by rw [hWb]; simp only [alloc_at, World.size_alloc]; simp (disch := omega) [if_pos, if_neg]
 have hnc : Wb.heap[W.heap.size + 1]? = some (.cells #[.int .i64 c] 3 (0, 0)) := by rw [hWb]; simp only [alloc_at, World.size_alloc]; simp (disch := omega) [if_pos, if_neg]
 have hMb : FSet Wb r.Mb (n + L.length) (addS S L) := hstb.set
 have HXC := zm (show ∀ W', Chg (fun i => i = r.Mb) Wb W' → EaAt W' W.heap.size (W.heap.size + 1) k F X Y Z N M s al.length Al cl c from fun W' hc => by
  have hc' : ∀ j v, (ruCells ⟨k, F, X, Y, Z, N, M, s, al⟩ Al cl)[j]? = some v → W'.cell? ⟨W.heap.size, j, none⟩ = some v := fun j v hv => cell_map hMb hc (by simp [World.cell?, hnb, hv])
  exact ⟨hc' 0 _ rfl, hc' 1 _ rfl, hc' 2 _ rfl, hc' 3 _ rfl, hc' 4 _ rfl, hc' 5 _ rfl, hc' 6 _ rfl, hc' 7 _ rfl, hc' 8 _ rfl, cell_map hMb hc (by simp [World.cell?, hnc])⟩)
 obtain ⟨A1v, hA1v⟩ : ∃ A, r.A1 = A := ⟨_, rfl⟩
 have HA1V := zm hA1v
 have HRC := zm (show ∀ W', Chg (fun i => i = r.Mb) Wb W' → W'.cell? ⟨r.Br, 1, none⟩ = some (.slice A1v r.fs.length r.c1) from fun W' hc => by rw [← hA1v]; exact (hroB.asked hc).cell 1)
 clear hA1v
 have HAR := zm (show ∀ W', Chg (fun i => i = r.Mb) Wb W' → Kd.C (Kd.int .i64) W' Al al.length al from fun W' hc => intC_map hMb hc (Kd.C_below hargs hbb))
 have HRO := zm hroB
 have HST := zm hstb
 have HS := zm hsort
 have HWL := zm hwl
 have HCH := zm (show Chg (fun i => i = r.Mb) W1 Wb from hst.ch.then_below hbb)
 have HG := zm hg
 clear h hst hg hargs hsort hstb hroB hMb hnb hnc hbb hwl
 go_enter Try.func57, Try.ntmps57
 obtain ⟨x0, x1, x2, x3, x4, x5, x6, x7, x8, xc⟩ := HXC.out Wb HST.out.ch
 rw [hWb] at x0 x1 x2 x3 x4 x5 x6 x7 x8 xc
 have HWB := zm hWb
 clear hWb
 by_cases h4 : k = 4
 ·subst h4
  have HGK := zm (show Good n (L ++ (askL 9 Y noS (loadsL r.l (fun k => decide (k = s)) c) ++ R)) from HG.out)
  go_wp2
  rw [← HWB.out]
  clear x0 x1 x2 x3 x4 x5 x6 x7 x8 xc HWB
  obtain ⟨Wd, hWd⟩ : ∃ Wd, Wb.drew = Wd := ⟨_, rfl⟩
  have HST := zm (HST.out.quiet (W' := Wd) (by rw [← hWd]; exact below_drew (Below.refl _ _)))
  refine start_ (n := 10) (S := fun W' => Chg (fun i => i = r.Mb) Wb W') (ds := []) #[false, false, false, false, false, false, false, false, false, false] (by kernel_rfl) rfl rfl (by rw [hWd]; exact HST.out.ch) (fun hHeld => ?_)
  rw [hWd] at hHeld ⊢
  refine with_tabW eatab3 eabits3 (fun HT_ HW_ => ?_)
  refine zp 0 11 (h := ?_)
  refine zp 1 12 (h := ?_)
  refine zt 2 13 (hy := by
    intro w' hw'
    obtain ⟨x0, x1, x2, x3, x4, x5, x6, x7, x8, xc⟩ := HXC.out w' hw'
    first | (go_simp; with_reducible rfl)) (h := ?_)
  refine zp 3 14 (h := ?_)
  refine zt 4 15 (hy := by
    intro w' hw'
    obtain ⟨x0, x1, x2, x3, x4, x5, x6, x7, x8, xc⟩ := HXC.out w' hw'
    first | (go_simp; with_reducible rfl)) (h := ?_)
  refine zp 5 16 (h := ?_)
  refine zt 6 17 (hy := by
    intro w' hw'
    obtain ⟨x0, x1, x2, x3, x4, x5, x6, x7, x8, xc⟩ := HXC.out w' hw'
    first | (go_simp; with_reducible rfl)) (h := ?_)
  refine zo 7 18 (h := fun K hK => ?_)
  have hwz := HST.out.set.lt
  refine zg Try.func73 #[.string s] (h := ?_)
  refine (is_calls s _).mono ?_
  rintro e W7 ⟨rfl, hw7⟩
  refine ⟨_, rfl, ?_⟩
  have HK7 := zm (show W7.cell? ⟨Wd.heap.size, 0, none⟩ = some (.string s) by rw [hw7]; exact (cell_of_blk (heap_alloc_new _ _)).1)
  have hlt7 : Wd.heap.size < W7.heap.size := by rw [hw7]; simp
  have HST := zm (HST.out.quiet (W' := W7) (by rw [hw7]; exact (Below.refl _ _).alloc (Nat.le_refl _) _))
  clear hw7 hwz
  refine hK.out _ _ HST.out.ch (fun hHeld => ?_)
  clear hK K
  refine zn (h := ?_)
  refine zo 8 19 (h := fun K hK => ?_)
  refine zg Try.func53 #[.pointer (some ⟨r.Br, 0, none⟩), .int .i64 c, .func (.func 83) #[] #[.pointer (some ⟨Wd.heap.size, 0, none⟩)]] (h := ?_)
  refine (loads_calls (HRO.out.asked HST.out.ch) c 83 #[.pointer (some ⟨Wd.heap.size, 0, none⟩)] (fun k => decide (k = s)) (enters_of Try.func83 (by kernel_rfl) rfl) (fun W' hb' s' => is1_calls s s' _ W' ((hb'.cell hlt7).trans HK7.out)) HS.out hlen hwc HWL.out).mono ?_
  rintro e W8 ⟨v8, ys8, rfl, hO8, hp8, hb8⟩
  obtain ⟨A8, c8, rfl, hlc8, hcc8⟩ := own_slice3 hO8
  refine ⟨_, rfl, ?_⟩
  have HC8 := zm (Kd.R_reads' hO8).2.2
  have HP8 := zm hp8
  have HST := zm (HST.out.quiet hb8)
  clear hO8 hp8 hb8 hlc8 hcc8
  refine hK.out _ _ HST.out.ch (fun hHeld => ?_)
  clear hK K
  refine zn (h := ?_)
  refine zo 9 20 (h := fun K hK => ?_)
  refine zg Try.func37 #[.pointer (some ⟨r.Br, 0, none⟩), .int .i64 9, .int .i64 Y, .string ⟨#[]⟩, .slice A8 ys8.length c8] (h := ?_)
  refine (st_asks_perm HRO.out HST.out HP8.out HGK.out rfl HC8.out).mono ?_
  rintro e W9 ⟨rfl, hst_, hg_⟩
  refine ⟨_, rfl, ?_⟩
  have HST := zm hst_
  have HGK := zm hg_
  clear hst_ hg_
  refine hK.out _ _ HST.out.ch (fun hHeld => ?_)
  clear hK K
  refine zn (h := ?_)
  refine done_ (done_of HT_.out (by kernel_rfl)) ?_
  clear hHeld
  go_wp2
  go_end0
  exact ⟨rfl, HST.out.rebase HCH.out, HGK.out⟩
 by_cases h5 : k = 5
 ·subst h5
  have HGK := zm (show Good n (L ++ (askL 9 Y noS (loadsL r.l (fun _ => true) c) ++ R)) from HG.out)
  go_wp2
  rw [← HWB.out]
  clear x0 x1 x2 x3 x4 x5 x6 x7 x8 xc HWB
  obtain ⟨Wd, hWd⟩ : ∃ Wd, Wb.drew = Wd := ⟨_, rfl⟩
  have HST := zm (HST.out.quiet (W' := Wd) (by rw [← hWd]; exact below_drew (Below.refl _ _)))
  refine start_ (n := 7) (S := fun W' => Chg (fun i => i = r.Mb) Wb W') (ds := []) #[false, false, false, false, false, false, false] (by kernel_rfl) rfl rfl (by rw [hWd]; exact HST.out.ch) (fun hHeld => ?_)
  rw [hWd] at hHeld ⊢
  refine with_tabW eatab5 eabits5 (fun HT_ HW_ => ?_)
  refine zp 0 23 (h := ?_)
  refine zp 1 24 (h := ?_)
  refine zt 2 25 (hy := by
    intro w' hw'
    obtain ⟨x0, x1, x2, x3, x4, x5, x6, x7, x8, xc⟩ := HXC.out w' hw'
    first | (go_simp; with_reducible rfl)) (h := ?_)
  refine zp 3 26 (h := ?_)
  refine zt 4 27 (hy := by
    intro w' hw'
    obtain ⟨x0, x1, x2, x3, x4, x5, x6, x7, x8, xc⟩ := HXC.out w' hw'
    first | (go_simp; with_reducible rfl)) (h := ?_)
  refine zo 5 28 (h := fun K hK => ?_)
  refine zg Try.func53 #[.pointer (some ⟨r.Br, 0, none⟩), .int .i64 c, .func (.func 54) #[] #[]] (h := ?_)
  refine (loads_calls (HRO.out.asked HST.out.ch) c 54 #[] (fun _ => true) (enters_of Try.func54 (by kernel_rfl) rfl) (fun W' _ s' => isAny_calls s' W') HS.out hlen hwc HWL.out).mono ?_
  rintro e W8 ⟨v8, ys8, rfl, hO8, hp8, hb8⟩
  obtain ⟨A8, c8, rfl, hlc8, hcc8⟩ := own_slice3 hO8
  refine ⟨_, rfl, ?_⟩
  have HC8 := zm (Kd.R_reads' hO8).2.2
  have HP8 := zm hp8
  have HST := zm (HST.out.quiet hb8)
  clear hO8 hp8 hb8 hlc8 hcc8
  refine hK.out _ _ HST.out.ch (fun hHeld => ?_)
  clear hK K
  refine zn (h := ?_)
  refine zo 6 29 (h := fun K hK => ?_)
  refine zg Try.func37 #[.pointer (some ⟨r.Br, 0, none⟩), .int .i64 9, .int .i64 Y, .string ⟨#[]⟩, .slice A8 ys8.length c8] (h := ?_)
  refine (st_asks_perm HRO.out HST.out HP8.out HGK.out rfl HC8.out).mono ?_
  rintro e W9 ⟨rfl, hst_, hg_⟩
  refine ⟨_, rfl, ?_⟩
  have HST := zm hst_
  have HGK := zm hg_
  clear hst_ hg_
  refine hK.out _ _ HST.out.ch (fun hHeld => ?_)
  clear hK K
  refine zn (h := ?_)
  refine done_ (done_of HT_.out (by kernel_rfl)) ?_
  clear hHeld
  go_wp2
  go_end0
  exact ⟨rfl, HST.out.rebase HCH.out, HGK.out⟩
 by_cases h6 : k = 6
 ·subst h6
  have HGK := zm (show Good n (L ++ (askL 3 c s (bsL r.l 9 Y) ++ R)) from HG.out)
  go_wp2
  rw [← HWB.out]
  clear x0 x1 x2 x3 x4 x5 x6 x7 x8 xc HWB
  obtain ⟨Wd, hWd⟩ : ∃ Wd, Wb.drew = Wd := ⟨_, rfl⟩
  have HST := zm (HST.out.quiet (W' := Wd) (by rw [← hWd]; exact below_drew (Below.refl _ _)))
  refine start_ (n := 9) (S := fun W' => Chg (fun i => i = r.Mb) Wb W') (ds := []) #[false, false, false, false, false, false, false, false, false] (by kernel_rfl) rfl rfl (by rw [hWd]; exact HST.out.ch) (fun hHeld => ?_)
  rw [hWd] at hHeld ⊢
  refine with_tabW eatab7 eabits7 (fun HT_ HW_ => ?_)
  refine zp 0 32 (h := ?_)
  refine zt 1 33 (hy := by
    intro w' hw'
    obtain ⟨x0, x1, x2, x3, x4, x5, x6, x7, x8, xc⟩ := HXC.out w' hw'
    first | (go_simp; with_reducible rfl)) (h := ?_)
  refine zp 2 34 (h := ?_)
  refine zt 3 35 (hy := by
    intro w' hw'
    obtain ⟨x0, x1, x2, x3, x4, x5, x6, x7, x8, xc⟩ := HXC.out w' hw'
    first | (go_simp; with_reducible rfl)) (h := ?_)
  refine zp 4 36 (h := ?_)
  refine zp 5 37 (h := ?_)
  refine zt 6 38 (hy := by
    intro w' hw'
    obtain ⟨x0, x1, x2, x3, x4, x5, x6, x7, x8, xc⟩ := HXC.out w' hw'
    first | (go_simp; with_reducible rfl)) (h := ?_)
  refine zo 7 39 (h := fun K hK => ?_)
  refine zg Try.func52 #[.pointer (some ⟨r.Br, 0, none⟩), .int .i64 Y] (h := ?_)
  refine (st_in HRO.out HST.out Y HS.out hlen).mono ?_
  rintro e W8 ⟨A8, c8, rfl, hC_, hst_⟩
  refine ⟨_, rfl, ?_⟩
  have HST := zm hst_
  have HC8 := zm hC_
  clear hst_ hC_
  refine hK.out _ _ HST.out.ch (fun hHeld => ?_)
  clear hK K
  refine zn (h := ?_)
  refine zo 8 40 (h := fun K hK => ?_)
  refine zg Try.func37 #[.pointer (some ⟨r.Br, 0, none⟩), .int .i64 3, .int .i64 c, .string s, .slice A8 (bsL r.l 9 Y).length c8] (h := ?_)
  refine (st_asks HRO.out HST.out HGK.out rfl HC8.out).mono ?_
  rintro e W9 ⟨rfl, hst_, hg_⟩
  refine ⟨_, rfl, ?_⟩
  have HST := zm hst_
  have HGK := zm hg_
  clear hst_ hg_
  refine hK.out _ _ HST.out.ch (fun hHeld => ?_)
  clear hK K
  refine zn (h := ?_)
  refine done_ (done_of HT_.out (by kernel_rfl)) ?_
  clear hHeld
  go_wp2
  go_end0
  exact ⟨rfl, HST.out.rebase HCH.out, HGK.out⟩
 by_cases h7 : k = 7
 ·subst h7
  have HGK := zm (show Good n (L ++ (askL 8 c noS (bsL r.l 9 Y) ++ R)) from HG.out)
  go_wp2
  rw [← HWB.out]
  clear x0 x1 x2 x3 x4 x5 x6 x7 x8 xc HWB
  obtain ⟨Wd, hWd⟩ : ∃ Wd, Wb.drew = Wd := ⟨_, rfl⟩
  have HST := zm (HST.out.quiet (W' := Wd) (by rw [← hWd]; exact below_drew (Below.refl _ _)))
  refine start_ (n := 7) (S := fun W' => Chg (fun i => i = r.Mb) Wb W') (ds := []) #[false, false, false, false, false, false, false] (by kernel_rfl) rfl rfl (by rw [hWd]; exact HST.out.ch) (fun hHeld => ?_)
  rw [hWd] at hHeld ⊢
  refine with_tabW eatab9 eabits9 (fun HT_ HW_ => ?_)
  refine zp 0 43 (h := ?_)
  refine zt 1 44 (hy := by
    intro w' hw'
    obtain ⟨x0, x1, x2, x3, x4, x5, x6, x7, x8, xc⟩ := HXC.out w' hw'
    first | (go_simp; with_reducible rfl)) (h := ?_)
  refine zp 2 45 (h := ?_)
  refine zp 3 46 (h := ?_)
  refine zt 4 47 (hy := by
    intro w' hw'
    obtain ⟨x0, x1, x2, x3, x4, x5, x6, x7, x8, xc⟩ := HXC.out w' hw'
    first | (go_simp; with_reducible rfl)) (h := ?_)
  refine zo 5 48 (h := fun K hK => ?_)
  refine zg Try.func52 #[.pointer (some ⟨r.Br, 0, none⟩), .int .i64 Y] (h := ?_)
  refine (st_in HRO.out HST.out Y HS.out hlen).mono ?_
  rintro e W8 ⟨A8, c8, rfl, hC_, hst_⟩
  refine ⟨_, rfl, ?_⟩
  have HST := zm hst_
  have HC8 := zm hC_
  clear hst_ hC_
  refine hK.out _ _ HST.out.ch (fun hHeld => ?_)
  clear hK K
  refine zn (h := ?_)
  refine zo 6 49 (h := fun K hK => ?_)
  refine zg Try.func37 #[.pointer (some ⟨r.Br, 0, none⟩), .int .i64 8, .int .i64 c, .string ⟨#[]⟩, .slice A8 (bsL r.l 9 Y).length c8] (h := ?_)
  refine (st_asks HRO.out HST.out HGK.out rfl HC8.out).mono ?_
  rintro e W9 ⟨rfl, hst_, hg_⟩
  refine ⟨_, rfl, ?_⟩
  have HST := zm hst_
  have HGK := zm hg_
  clear hst_ hg_
  refine hK.out _ _ HST.out.ch (fun hHeld => ?_)
  clear hK K
  refine zn (h := ?_)
  refine done_ (done_of HT_.out (by kernel_rfl)) ?_
  clear hHeld
  go_wp2
  go_end0
  exact ⟨rfl, HST.out.rebase HCH.out, HGK.out⟩
 by_cases h8 : k = 8
 ·subst h8
  by_cases hz : 0 ≤ Z
  ·have HEQ := zm (show eachL r ⟨8, F, X, Y, Z, N, M, s, al⟩ c = callL r ⟨M, bsL r.l 9 Z, al, -1, Y, N⟩ c by simp [eachL, if_pos hz])
   have HGK := zm (show Good n (L ++ (callL r ⟨M, bsL r.l 9 Z, al, -1, Y, N⟩ c ++ R)) by rw [← HEQ.out]; exact HG.out)
   go_wp2_with fail
   rw [← HWB.out]
   clear x0 x1 x2 x3 x4 x5 x6 x7 x8 xc HWB
   refine (st_in HRO.out HST.out Z HS.out hlen).mono ?_
   rintro e W8 ⟨A9, c9, rfl, hC_, hst_⟩
   have HST := zm hst_
   have HC8 := zm hC_
   clear hst_ hC_
   obtain ⟨x0, x1, x2, x3, x4, x5, x6, x7, x8, xc⟩ := HXC.out W8 HST.out.ch
   go_wp2_with fail
   clear x0 x1 x2 x3 x4 x5 x6 x7 x8 xc
   refine (called_calls HRO.out HST.out ⟨M, bsL r.l 9 Z, al, -1, Y, N⟩ c HGK.out HC8.out (HAR.out _ HST.out.ch) HS.out hlen hfl.2 hs0).mono ?_
   rintro e W9 ⟨rfl, hst_, hg_⟩
   have HST := zm hst_
   have HGK := zm hg_
   clear hst_ hg_
   go_wp2
   go_end0
   rw [HEQ.out]
   exact ⟨rfl, HST.out.rebase HCH.out, HGK.out⟩
  ·have HEQ := zm (show eachL r ⟨8, F, X, Y, Z, N, M, s, al⟩ c = callL r ⟨M, [], al, -1, Y, N⟩ c by simp [eachL, if_neg hz])
   have HGK := zm (show Good n (L ++ (callL r ⟨M, [], al, -1, Y, N⟩ c ++ R)) by rw [← HEQ.out]; exact HG.out)
   go_wp2_with fail
   rw [← HWB.out]
   clear x0 x1 x2 x3 x4 x5 x6 x7 x8 xc HWB
   refine (called_calls HRO.out HST.out ⟨M, [], al, -1, Y, N⟩ c HGK.out (Kd.C_nil _ _) (HAR.out _ HST.out.ch) HS.out hlen hfl.2 hs0).mono ?_
   rintro e W9 ⟨rfl, hst_, hg_⟩
   have HST := zm hst_
   have HGK := zm hg_
   clear hst_ hg_
   go_wp2
   go_end0
   rw [HEQ.out]
   exact ⟨rfl, HST.out.rebase HCH.out, HGK.out⟩
 by_cases h9 : k = 9
 ·subst h9
  have d1 := HRC.out Wb HST.out.ch
  rw [HWB.out] at d1
  obtain ⟨A2v, hA2⟩ : ∃ A2v, A2v = (if r.c1 = 1 then A1v else A1v.map (·.add (1 * 5))) := ⟨_, rfl⟩
  have hcut : ∀ W : World, (Instr.slice 22 (.slice A1v r.fs.length r.c1) (some (.int .i64 1)) none none).run Try.prog W = .ok (.slice A2v (r.fs.drop 1).length (r.c1 - 1)) W := by
   intro W
   rw [List.length_drop, hA2]
   exact cut_from (P := Try.prog) 22 44 .i64 Try.underlying22 (i := (Try.prog.info? 44).getD default) (by kernel_rfl) 5 (by kernel_rfl) A1v r.fs.length r.c1 1 (by omega) (by omega) W
  have HCT := zm (containsG (.func (.func 75) #[] #[.pointer (some ⟨W.heap.size + 1, 0, none⟩)]) (fun f => f.f0 == c) A2v (r.c1 - 1) (r.fs.drop 1) Wb
   ⟨_, _, rfl, (enters_of Try.func75 (by kernel_rfl) rfl), fun W' hb' x A ca _ _ _ => each1_calls c _ _ x A ca rfl W' (by
    obtain ⟨_, _, _, _, _, _, _, _, _, xc⟩ := HXC.out Wb HST.out.ch
    have := World.block_lt_of_cell? Wb _ xc
    exact (hb'.cell (by simpa using this)).trans xc)⟩
   (by rw [hA2, ← HA1V.out]; exact Kd.C_drop (Kd.C_below HRO.out.hf HRO.out.bel) hfl.1 hfc) (by rw [List.length_drop]; omega) (by rw [List.length_drop]; omega))
  clear hA2
  go_wp2_with fail
  rw [← HWB.out]
  clear x0 x1 x2 x3 x4 x5 x6 x7 x8 xc d1 HWB hcut
  rw [show r.fs.length - 1 = (r.fs.drop 1).length by rw [List.length_drop]]
  refine HCT.out.mono ?_
  rintro e W2 ⟨he_, hb2⟩
  obtain rfl : e = .returned (.bool (isFunB r.fs c)) := he_
  have HST := zm (HST.out.quiet hb2)
  clear HCT hb2
  by_cases hB : isFunB r.fs c = true
  ·have HEQ := zm (show eachL r ⟨9, F, X, Y, Z, N, M, s, al⟩ c = askL 9 Y noS [M] ++ (askL 4 M noS [0] ++ (askL 4 M noS (loadsL r.l (fun k => decide (k = protoS)) c) ++ callL r ⟨M, [M], al, -1, Y, N⟩ c)) by simp [eachL, hB])
   have HGK := zm (show Good n (L ++ (askL 9 Y noS [M] ++ (askL 4 M noS [0] ++ (askL 4 M noS (loadsL r.l (fun k => decide (k = protoS)) c) ++ (callL r ⟨M, [M], al, -1, Y, N⟩ c ++ R))))) by
    have h9 := HG.out
    rw [HEQ.out] at h9
    simpa only [List.append_assoc] using h9)
   rw [hB]
   obtain ⟨x0, x1, x2, x3, x4, x5, x6, x7, x8, xc⟩ := HXC.out W2 HST.out.ch
   go_wp2_with fail
   clear x0 x1 x2 x3 x4 x5 x6 x7 x8 xc hB
   refine (st_ask1 HRO.out HST.out HGK.out rfl).mono ?_
   rintro e W3 ⟨rfl, hst_, hg_⟩
   have HST := zm hst_
   have HGK := zm hg_
   clear hst_ hg_
   obtain ⟨x0, x1, x2, x3, x4, x5, x6, x7, x8, xc⟩ := HXC.out W3 HST.out.ch
   go_wp2_with fail
   clear x0 x1 x2 x3 x4 x5 x6 x7 x8 xc
   refine (st_ask1 HRO.out HST.out HGK.out rfl).mono ?_
   rintro e W4 ⟨rfl, hst_, hg_⟩
   have HST := zm hst_
   have HGK := zm hg_
   clear hst_ hg_
   go_wp2
   obtain ⟨Wd, hWd⟩ : ∃ Wd, W4.drew = Wd := ⟨_, rfl⟩
   have HST := zm (HST.out.quiet (W' := Wd) (by rw [← hWd]; exact below_drew (Below.refl _ _)))
   refine start_ (n := 8) (S := fun W' => Chg (fun i => i = r.Mb) Wb W') (ds := []) #[false, false, false, false, false, false, false, false] (by kernel_rfl) rfl rfl (by rw [hWd]; exact HST.out.ch) (fun hHeld => ?_)
   rw [hWd] at hHeld ⊢
   refine with_tabW eatab19 eabits19 (fun HT_ HW_ => ?_)
   refine zp 0 95 (h := ?_)
   refine zp 1 96 (h := ?_)
   refine zt 2 97 (hy := by
     intro w' hw'
     obtain ⟨x0, x1, x2, x3, x4, x5, x6, x7, x8, xc⟩ := HXC.out w' hw'
     first | (go_simp; with_reducible rfl)) (h := ?_)
   refine zp 3 98 (h := ?_)
   refine zt 4 99 (hy := by
     intro w' hw'
     obtain ⟨x0, x1, x2, x3, x4, x5, x6, x7, x8, xc⟩ := HXC.out w' hw'
     first | (go_simp; with_reducible rfl)) (h := ?_)
   refine zo 5 100 (h := fun K hK => ?_)
   have hwz := HST.out.set.lt
   refine zg Try.func73 #[.string protoS] (h := ?_)
   refine (is_calls protoS _).mono ?_
   rintro e W7 ⟨rfl, hw7⟩
   refine ⟨_, rfl, ?_⟩
   have HK7 := zm (show W7.cell? ⟨Wd.heap.size, 0, none⟩ = some (.string protoS) by rw [hw7]; exact (cell_of_blk (heap_alloc_new _ _)).1)
   have hlt7 : Wd.heap.size < W7.heap.size := by rw [hw7]; simp
   have HST := zm (HST.out.quiet (W' := W7) (by rw [hw7]; exact (Below.refl _ _).alloc (Nat.le_refl _) _))
   clear hw7 hwz
   refine hK.out _ _ HST.out.ch (fun hHeld => ?_)
   clear hK K
   refine zn (h := ?_)
   refine zo 6 101 (h := fun K hK => ?_)
   refine zg Try.func53 #[.pointer (some ⟨r.Br, 0, none⟩), .int .i64 c, .func (.func 83) #[] #[.pointer (some ⟨Wd.heap.size, 0, none⟩)]] (h := ?_)
   refine (loads_calls (HRO.out.asked HST.out.ch) c 83 #[.pointer (some ⟨Wd.heap.size, 0, none⟩)] (fun k => decide (k = protoS)) (enters_of Try.func83 (by kernel_rfl) rfl) (fun W' hb' s' => is1_calls protoS s' _ W' ((hb'.cell hlt7).trans HK7.out)) HS.out hlen hwc HWL.out).mono ?_
   rintro e W8 ⟨v8, ys8, rfl, hO8, hp8, hb8⟩
   obtain ⟨A8, c8, rfl, hlc8, hcc8⟩ := own_slice3 hO8
   refine ⟨_, rfl, ?_⟩
   have HC8 := zm (Kd.R_reads' hO8).2.2
   have HP8 := zm hp8
   have HST := zm (HST.out.quiet hb8)
   clear hO8 hp8 hb8 hlc8 hcc8
   refine hK.out _ _ HST.out.ch (fun hHeld => ?_)
   clear hK K
   refine zn (h := ?_)
   refine zo 7 102 (h := fun K hK => ?_)
   refine zg Try.func37 #[.pointer (some ⟨r.Br, 0, none⟩), .int .i64 4, .int .i64 M, .string ⟨#[]⟩, .slice A8 ys8.length c8] (h := ?_)
   refine (st_asks_perm HRO.out HST.out HP8.out HGK.out rfl HC8.out).mono ?_
   rintro e W9 ⟨rfl, hst_, hg_⟩
   refine ⟨_, rfl, ?_⟩
   have HST := zm hst_
   have HGK := zm hg_
   clear hst_ hg_
   refine hK.out _ _ HST.out.ch (fun hHeld => ?_)
   clear hK K
   refine zn (h := ?_)
   refine done_ (done_of HT_.out (by kernel_rfl)) ?_
   clear hHeld
   obtain ⟨x0, x1, x2, x3, x4, x5, x6, x7, x8, xc⟩ := HXC.out W9 HST.out.ch
   have hlx : W.heap.size + 1 < W9.heap.size := by have := World.block_lt_of_cell? W9 _ xc; simpa using this
   have y3 : (W9.alloc (.cells #[.int .i64 M] 3)).cell? ⟨W.heap.size, 3, none⟩ = some (.int .i64 Y) := by rw [← x3]; exact World.cell?_of_block (Below.heap_alloc _ _ _ (by show W.heap.size < _; omega))
   have y5 : (W9.alloc (.cells #[.int .i64 M] 3)).cell? ⟨W.heap.size, 5, none⟩ = some (.int .i64 N) := by rw [← x5]; exact World.cell?_of_block (Below.heap_alloc _ _ _ (by show W.heap.size < _; omega))
   have y8 : (W9.alloc (.cells #[.int .i64 M] 3)).cell? ⟨W.heap.size, 8, none⟩ = some (.slice Al al.length cl) := by rw [← x8]; exact World.cell?_of_block (Below.heap_alloc _ _ _ (by show W.heap.size < _; omega))
   have yc : (W9.alloc (.cells #[.int .i64 M] 3)).cell? ⟨W.heap.size + 1, 0, none⟩ = some (.int .i64 c) := by rw [← xc]; exact World.cell?_of_block (Below.heap_alloc _ _ _ (by show W.heap.size + 1 < _; omega))
   go_wp2_with fail
   clear x0 x1 x2 x3 x4 x5 x6 x7 x8 xc y3 y5 y8 yc hlx
   have HST := zm (HST.out.quiet (W' := W9.alloc (.cells #[.int .i64 M] 3)) (below_alloc (Below.refl _ _) _))
   refine (called_calls HRO.out HST.out ⟨M, [M], al, -1, Y, N⟩ c HGK.out (At := some ⟨W9.heap.size, 0, none⟩) (ct := 1) (C_one (cell_of_blk (heap_alloc_new _ _)).1) (HAR.out _ HST.out.ch) HS.out hlen hfl.2 hs0).mono ?_
   rintro e W9 ⟨rfl, hst_, hg_⟩
   have HST := zm hst_
   have HGK := zm hg_
   clear hst_ hg_
   go_wp2
   go_end0
   have e : L ++ eachL r ⟨9, F, X, Y, Z, N, M, s, al⟩ c = L ++ askL 9 Y noS [M] ++ askL 4 M noS [0] ++ askL 4 M noS (loadsL r.l (fun k => decide (k = protoS)) c) ++ callL r ⟨M, [M], al, -1, Y, N⟩ c := by
    rw [HEQ.out]
    simp only [List.append_assoc]
   rw [e]
   exact ⟨rfl, HST.out.rebase HCH.out, HGK.out⟩
  ·have hB' : isFunB r.fs c = false := by simpa using hB
   have HEQ := zm (show eachL r ⟨9, F, X, Y, Z, N, M, s, al⟩ c = [] by simp [eachL, hB'])
   rw [hB']
   clear hB hB'
   go_wp2
   refine bodyPost_ret (results_none (by rfl) _ _ _) rfl ?_
   rw [HEQ.out, List.append_nil]
   refine ⟨rfl, HST.out.rebase HCH.out, ?_⟩
   have h9 := HG.out
   rw [HEQ.out, List.nil_append] at h9
   exact h9
 have hk4 : (k == 4) = false := by simp [h4]
 have hk5 : (k == 5) = false := by simp [h5]
 have hk6 : (k == 6) = false := by simp [h6]
 have hk7 : (k == 7) = false := by simp [h7]
 have hk8 : (k == 8) = false := by simp [h8]
 have hk9 : (k == 9) = false := by simp [h9]
 have HEQ := zm (show eachL r ⟨k, F, X, Y, Z, N, M, s, al⟩ c = [] by simp [eachL, h4, h5, h6, h7, h8, h9])
 clear h4 h5 h6 h7 h8 h9
 go_wp2
 go_end0
 rw [HEQ.out, List.append_nil]
 refine ⟨rfl, ?_, ?_⟩
 ·rw [← HWB.out]
  exact HST.out.rebase HCH.out
 ·have h9 := HG.out
  rw [HEQ.out, List.nil_append] at h9
  exact h9
end Go.Proofs.Ytngppcmdaanheaa.Ls
namespace Go.Proofs.Ytngppcmdaanheaa.Ls
open Go.RowKit Go.Maps Go.Proofs.Ytngppcmdaanheaa.Iter Go.Proofs.Ytngppcmdaanheaa.ISet Go.Proofs.Ytngppcmdaanheaa.Pr Go.Proofs.Ytngppcmdaanheaa.Ext Go.Proofs.YtngppcmdaanheaaW.PrintWords Go.Proofs.YtngppcmdaanheaaW.PrintLast Go.Proofs.YtngppcmdaanheaaW.PrintMore
set_option linter.unusedVariables false
set_option linter.unusedSimpArgs false
attribute [local go_sem] Oper.semAt_some
def ruT6 : Bool × List (List Nat × List Nat) := (true, [([], []), ([0], [0]), ([1], [1]), ([2], [2]), ([3], [3]), ([], []), ([5], [5]), ([4, 6], [4, 6]), ([7], [7]), ([8], [8]), ([9, 0, 1, 2, 3, 4, 5, 6, 7, 8, 9], [9])])
def ruB6 : List Nat := [0, 1, 3, 7, 15, 0, 32, 127, 255, 511, 1023]
theorem rutab6 : rtab .any (opsOf Try.f39 6) = ruT6 := by kernel_rfl
theorem rubits6 : waitsOk ruT6.2 ruB6 = true := by kernel_rfl
def ruT12 : Bool × List (List Nat × List Nat) := (true, [([], []), ([], []), ([1], [1]), ([], []), ([], []), ([4], [4]), ([3, 5], [3, 5]), ([0, 2, 6, 6], [0, 2, 6])])
def ruB12 : List Nat := [0, 0, 2, 0, 0, 16, 56, 127]
theorem rutab12 : rtab .any (opsOf Try.f39 12) = ruT12 := by kernel_rfl
theorem rubits12 : waitsOk ruT12.2 ruB12 = true := by kernel_rfl
theorem rd_mem (xs : List Int) (j : Nat) (h : j < xs.length) : rd xs (j : Int) ∈ xs := by
 unfold rd
 rw [Int.toNat_natCast, List.getD_eq_getElem?_getD, List.getElem?_eq_getElem h]
 exact List.getElem_mem h
theorem wf_bs {l : List Fa} (h : ∀ f ∈ l, wfI f.f3) (kind a : Int) {x : Int} (hx : x ∈ bsL l kind a) : wfI x := by
 unfold bsL toldR at hx
 obtain ⟨f, hf, rfl⟩ := List.mem_map.1 hx
 exact h f (List.mem_filter.1 hf).1
def markOf (r : Ro) (x : RuT) : Int := (rd_T44 r.fs x.f5).f0
def headL (r : Ro) (x : RuT) : List Fa :=
 if x.f0 = 1 then askL 9 x.f2 noS [x.f6] ++ askL 4 x.f6 noS [0]
 else if x.f0 = 2 then askL 9 x.f2 noS [markOf r x] ++ (askL 3 (markOf r x) protoS [markOf r x + 1] ++ (askL 4 (markOf r x) noS [1] ++ askL 4 (markOf r x + 1) noS [0]))
 else if x.f0 = 3 then askL 9 x.f3 noS (bsL r.l 9 x.f2)
 else []
def ruleL (r : Ro) (x : RuT) : List Fa := headL r x ++ rg (bsL r.l 9 x.f2).length (fun i => eachL r x (rd (bsL r.l 9 x.f2) (i : Int)))
def RuAt (W : World) (b : Nat) (k F X Y Z N M : Int) (s : ByteArray) (n : Nat) (A : Option Addr) (ca : Nat) : Prop :=
 W.cell? ⟨b, 0, none⟩ = some (.int .i64 k) ∧ W.cell? ⟨b, 1, none⟩ = some (.int .i64 F) ∧ W.cell? ⟨b, 2, none⟩ = some (.int .i64 X) ∧ W.cell? ⟨b, 3, none⟩ = some (.int .i64 Y) ∧ W.cell? ⟨b, 4, none⟩ = some (.int .i64 Z) ∧ W.cell? ⟨b, 5, none⟩ = some (.int .i64 N) ∧ W.cell? ⟨b, 6, none⟩ = some (.int .i64 M) ∧ W.cell? ⟨b, 7, none⟩ = some (.string s) ∧ W.cell? ⟨b, 8, none⟩ = some (.slice A n ca)
set_option maxHeartbeats 16000000 in
set_option maxRecDepth 100000 in
theorem rule_calls {r : Ro} {w0 W1 W : World} {n : Nat} {S : Fa → Bool} {L R : List Fa} (h : RoAt r w0 W1) (hst : StA r n S L W1 W) (x : RuT) (hg : Good n (L ++ (ruleL r x ++ R)))
  {Al : Option Addr} {cl : Nat} (hargs : Kd.C (Kd.int .i64) W Al x.f8.length x.f8) (hsort : r.l.Pairwise LF) (hlen : r.l.length ≤ 900000) (hfl : 1 ≤ r.fs.length ∧ r.fs.length ≤ 1000000) (hfc : r.fs.length ≤ r.c1) (hs0 : 0 ≤ r.s0 ∧ r.s0 ≤ 1000000000) (hwl : ∀ f ∈ r.l, wfI f.f3)
  (hN : x.f0 = 2 → 0 ≤ x.f5 ∧ x.f5 < r.fs.length ∧ 0 ≤ markOf r x ∧ markOf r x ≤ 1000000) :
  Calls Try.prog 39 #[.pointer (some ⟨r.Br, 0, none⟩), .agg (ruCells x Al cl)] W fun e W' => e = .returned (.tuple #[]) ∧ StA r n S (L ++ ruleL r x) W1 W' ∧ Good n ((L ++ ruleL r x) ++ R) := by
 obtain ⟨k, F, X, Y, Z, N, M, s, al⟩ := x
 obtain ⟨Wb, hWb⟩ : ∃ Wb, Wb = W.alloc (.cells (ruCells ⟨k, F, X, Y, Z, N, M, s, al⟩ Al cl) 46) := ⟨_, rfl⟩
 have hbb : Below W.heap.size W Wb := by rw [hWb]; exact below_alloc (Below.refl _ W) _
 have hstb := (hst.quiet hbb).here
 have hroB : RoAt r w0 Wb := (h.asked hst.ch).quiet hbb
 have hnb : Wb.heap[W.heap.size]? = some (.cells (ruCells ⟨k, F, X, Y, Z, N, M, s, al⟩ Al cl) 46 (0, 0)) := by rw [hWb]; exact heap_alloc_new _ _
 have hMb : FSet Wb r.Mb (n + L.length) (addS S L) := hstb.set
 have HXC := zm (show ∀ W', Chg (fun i => i = r.Mb) Wb W' → RuAt W' W.heap.size k F X Y Z N M s al.length Al cl from fun W' hc => by
  have hc' : ∀ j v, (ruCells ⟨k, F, X, Y, Z, N, M, s, al⟩ Al cl)[j]? = some v → W'.cell? ⟨W.heap.size, j, none⟩ = some v := fun j v hv => cell_map hMb hc (by simp [World.cell?, hnb, hv])
  exact ⟨hc' 0 _ rfl, hc' 1 _ rfl, hc' 2 _ rfl, hc' 3 _ rfl, hc' 4 _ rfl, hc' 5 _ rfl, hc' 6 _ rfl, hc' 7 _ rfl, hc' 8 _ rfl⟩)
 obtain ⟨A1v, hA1v⟩ : ∃ A, r.A1 = A := ⟨_, rfl⟩
 have HA1V := zm hA1v
 have HRC := zm (show ∀ W', Chg (fun i => i = r.Mb) Wb W' → W'.cell? ⟨r.Br, 1, none⟩ = some (.slice A1v r.fs.length r.c1) from fun W' hc => by rw [← hA1v]; exact (hroB.asked hc).cell 1)
 clear hA1v
 have HAR := zm (show ∀ W', Chg (fun i => i = r.Mb) Wb W' → Kd.C (Kd.int .i64) W' Al al.length al from fun W' hc => intC_map hMb hc (Kd.C_below hargs hbb))
 have HRO := zm hroB
 have HST := zm hstb
 have HMB := zm hMb
 have HS := zm hsort
 have HWL := zm hwl
 have HCH := zm (show Chg (fun i => i = r.Mb) W1 Wb from hst.ch.then_below hbb)
 have HG := zm hg
 have HN := zm hN
 clear h hst hg hargs hsort hstb hroB hMb hnb hbb hwl hN
 go_enter Try.func39, Try.ntmps39
 obtain ⟨x0, x1, x2, x3, x4, x5, x6, x7, x8⟩ := HXC.out Wb HST.out.ch
 rw [hWb] at x0 x1 x2 x3 x4 x5 x6 x7 x8
 have HWB := zm hWb
 clear hWb
 by_cases h1 : k = 1
 ·subst h1
  have HEQ := zm (show ruleL r ⟨1, F, X, Y, Z, N, M, s, al⟩ = (askL 9 X noS [M] ++ askL 4 M noS [0]) ++ rg (bsL r.l 9 X).length (fun i => eachL r ⟨1, F, X, Y, Z, N, M, s, al⟩ (rd (bsL r.l 9 X) (i : Int))) from rfl)
  have HGK := zm (show Good n (L ++ (askL 9 X noS [M] ++ (askL 4 M noS [0] ++ (rg (bsL r.l 9 X).length (fun i => eachL r ⟨1, F, X, Y, Z, N, M, s, al⟩ (rd (bsL r.l 9 X) (i : Int))) ++ R)))) by
   have h9 := HG.out
   rw [HEQ.out] at h9
   simpa only [List.append_assoc] using h9)
  go_wp2_with fail
  rw [← HWB.out]
  clear x0 x1 x2 x3 x4 x5 x6 x7 x8
  refine (st_ask1 HRO.out HST.out HGK.out (by rw [HWB.out]; simp)).mono ?_
  rintro e W2 ⟨rfl, hst_, hg_⟩
  have HST := zm hst_
  have HGK := zm hg_
  clear hst_ hg_ HWB
  obtain ⟨x0, x1, x2, x3, x4, x5, x6, x7, x8⟩ := HXC.out W2 HST.out.ch
  go_wp2_with fail
  clear x0 x1 x2 x3 x4 x5 x6 x7 x8
  refine (st_ask1 HRO.out HST.out HGK.out rfl).mono ?_
  rintro e W3 ⟨rfl, hst_, hg_⟩
  have HST := zm hst_
  have HGK := zm hg_
  clear hst_ hg_
  obtain ⟨x0, x1, x2, x3, x4, x5, x6, x7, x8⟩ := HXC.out W3 HST.out.ch
  go_wp2_with fail
  clear x0 x1 x2 x3 x4 x5 x6 x7 x8
  refine (st_in HRO.out HST.out X HS.out hlen).mono ?_
  rintro e Wi ⟨Ai, ci, rfl, hC_, hst_⟩
  have HCI := zm hst_.ch
  have HBI := zm (show ∀ W', Chg (fun i => i = r.Mb) Wi W' → Kd.C (Kd.int .i64) W' Ai (bsL r.l 9 X).length (bsL r.l 9 X) from fun W' hc => intC_map hst_.set hc hC_)
  have HROI := zm (HRO.out.asked hst_.ch)
  obtain ⟨Lc, hLc⟩ : ∃ Lc, Lc = L ++ askL 9 X noS [M] ++ askL 4 M noS [0] := ⟨_, rfl⟩
  have HST4 := zm (show StA r n S Lc Wi Wi by rw [hLc]; exact hst_.here)
  have HG4 := zm (show Good n (Lc ++ (rg (bsL r.l 9 X).length (fun i => eachL r ⟨1, F, X, Y, Z, N, M, s, al⟩ (rd (bsL r.l 9 X) (i : Int))) ++ R)) by rw [hLc]; exact HGK.out)
  have HLC := zm hLc
  have hbl : (bsL r.l 9 X).length ≤ 900000 := Nat.le_trans (bsL_le _ _ _) hlen
  clear hLc HST HGK hst_ hC_
  go_wp2
  generalize hF : (fun i : Nat => eachL r ⟨1, F, X, Y, Z, N, M, s, al⟩ (rd (bsL r.l 9 X) (i : Int))) = EF at *
  have HF := zm hF
  clear hF
  go_loopg [6, 71] (bsL r.l 9 X).length (fun jq v6 v71 W_ => ∃ j : Nat, v71 = .int .i64 j ∧ j + jq = (bsL r.l 9 X).length ∧ StA r n S (Lc ++ rg j EF) Wi W_)
  case atStart => exact ⟨0, rfl, by omega, by rw [rg_zero, List.append_nil]; exact HST4.out⟩
  case round =>
   clear HST4
   obtain ⟨j, rfl, hj, hst⟩ := hrel
   have HST := zm hst
   clear hst
   by_cases hla : j < (bsL r.l 9 X).length
   ·have HGK := zm (HG4.out.loop hla)
    have HPK := zm (show EF j = eachL r ⟨1, F, X, Y, Z, N, M, s, al⟩ (rd (bsL r.l 9 X) (j : Int)) by rw [← HF.out])
    have HRJ := zm (rg_succ j EF)
    have hwc := wf_bs HWL.out 9 X (rd_mem (bsL r.l 9 X) j hla)
    obtain ⟨ad3, rfl, hp3⟩ := Kd.at_int (HBI.out _ HST.out.ch) (j : Int) (by omega) (by omega)
    rw [Int.toNat_natCast] at hp3
    generalize rd (bsL r.l 9 X) (j : Int) = av at *
    generalize EF j = PJ at *
    rw [HPK.out] at HGK
    obtain ⟨x0, x1, x2, x3, x4, x5, x6, x7, x8⟩ := HXC.out wr (HCI.out.then_ HST.out.ch)
    go_wp2_with fail
    clear x0 x1 x2 x3 x4 x5 x6 x7 x8
    refine (each_calls HROI.out HST.out ⟨1, F, X, Y, Z, N, M, s, al⟩ av HGK.out (HAR.out _ (HCI.out.then_ HST.out.ch)) HS.out hlen hfl hfc hs0 hwc HWL.out).mono ?_
    rintro e W6 ⟨rfl, hst_, hg_⟩
    have HST := zm hst_
    clear hst_ hg_
    go_wp2
    go_roundg (gk - 1)
    case measure => omega
    case rel => exact ⟨j + 1, by go_num, by omega, by rw [HRJ.out, HPK.out, ← List.append_assoc]; exact HST.out⟩
   ·obtain rfl : j = (bsL r.l 9 X).length := by omega
    have HGK := zm (HG4.out.next)
    clear HG4
    go_wp2
    go_end0
    have e : L ++ ruleL r ⟨1, F, X, Y, Z, N, M, s, al⟩ = Lc ++ rg (bsL r.l 9 X).length EF := by
     rw [HEQ.out, HLC.out, ← HF.out]
     simp only [List.append_assoc, List.nil_append, List.append_nil]
    rw [e]
    exact ⟨rfl, (HST.out.rebase HCI.out).rebase HCH.out, HGK.out⟩
 by_cases h2 : k = 2
 ·subst h2
  obtain ⟨hn0, hn1, hm0, hm1⟩ := HN.out rfl
  obtain ⟨ad1, A1_, c1_, hA1, hd0, hd1, hd2, hd3, hd4, hpl, hpc⟩ := at_T44 (Kd.C_below HRO.out.hf HRO.out.bel) N hn0 hn1
  obtain rfl : A1v = some ad1 := HA1V.out.symm.trans hA1
  have HFM := zm (show ∀ W', Chg (fun i => i = r.Mb) Wb W' → W'.cell? (ad1.add (N.toNat * 5)) = some (.int .i64 (markOf r ⟨2, F, X, Y, Z, N, M, s, al⟩)) from fun W' hc => cell_map HMB.out hc hd0)
  clear hA1 hd0 hd1 hd2 hd3 hd4 hpl hpc HN
  have HEQ := zm (show ruleL r ⟨2, F, X, Y, Z, N, M, s, al⟩ = (askL 9 X noS [markOf r ⟨2, F, X, Y, Z, N, M, s, al⟩] ++ (askL 3 (markOf r ⟨2, F, X, Y, Z, N, M, s, al⟩) protoS [markOf r ⟨2, F, X, Y, Z, N, M, s, al⟩ + 1] ++ (askL 4 (markOf r ⟨2, F, X, Y, Z, N, M, s, al⟩) noS [1] ++ askL 4 (markOf r ⟨2, F, X, Y, Z, N, M, s, al⟩ + 1) noS [0]))) ++ rg (bsL r.l 9 X).length (fun i => eachL r ⟨2, F, X, Y, Z, N, M, s, al⟩ (rd (bsL r.l 9 X) (i : Int))) from rfl)
  generalize markOf r ⟨2, F, X, Y, Z, N, M, s, al⟩ = m at *
  have HGK := zm (show Good n (L ++ (askL 9 X noS [m] ++ (askL 3 m protoS [m + 1] ++ (askL 4 m noS [1] ++ (askL 4 (m + 1) noS [0] ++ (rg (bsL r.l 9 X).length (fun i => eachL r ⟨2, F, X, Y, Z, N, M, s, al⟩ (rd (bsL r.l 9 X) (i : Int))) ++ R)))))) by
   have h9 := HG.out
   rw [HEQ.out] at h9
   simpa only [List.append_assoc] using h9)
  have hw1 : wrap64 (m + 1) = m + 1 := by unfold wrap64; omega
  go_wp2
  rw [← HWB.out]
  clear x0 x1 x2 x3 x4 x5 x6 x7 x8 HWB
  obtain ⟨Wd, hWd⟩ : ∃ Wd, Wb.drew = Wd := ⟨_, rfl⟩
  have HST := zm (HST.out.quiet (W' := Wd) (by rw [← hWd]; exact below_drew (Below.refl _ _)))
  refine start_ (n := 11) (S := fun W' => Chg (fun i => i = r.Mb) Wb W') (ds := []) #[false, false, false, false, false, false, false, false, false, false, false] (by kernel_rfl) rfl rfl (by rw [hWd]; exact HST.out.ch) (fun hHeld => ?_)
  rw [hWd] at hHeld ⊢
  refine with_tabW rutab6 rubits6 (fun HT_ HW_ => ?_)
  refine zp 0 25 (h := ?_)
  refine zp 1 26 (h := ?_)
  refine zp 2 27 (h := ?_)
  refine zp 3 28 (h := ?_)
  refine zt 4 29 (hy := by
    intro w' hw'
    have d1 := HRC.out w' hw'
    first | (go_simp; with_reducible rfl)) (h := ?_)
  refine zp 5 30 (h := ?_)
  refine zt 6 31 (hy := by
    intro w' hw'
    obtain ⟨x0, x1, x2, x3, x4, x5, x6, x7, x8⟩ := HXC.out w' hw'
    first | (go_simp; with_reducible rfl)) (h := ?_)
  refine zp 7 32 (h := ?_)
  refine zp 8 33 (h := ?_)
  refine zt 9 34 (hy := by
    intro w' hw'
    have d4 := HFM.out w' hw'
    first | (go_simp; with_reducible rfl)) (h := ?_)
  refine zp 10 4 (h := ?_)
  refine done_ (done_of HT_.out (by kernel_rfl)) ?_
  clear hHeld
  obtain ⟨x0, x1, x2, x3, x4, x5, x6, x7, x8⟩ := HXC.out Wd HST.out.ch
  go_wp2_with fail
  clear x0 x1 x2 x3 x4 x5 x6 x7 x8
  refine (st_ask1 HRO.out HST.out HGK.out rfl).mono ?_
  rintro e W2 ⟨rfl, hst_, hg_⟩
  have HST := zm hst_
  have HGK := zm hg_
  clear hst_ hg_
  obtain ⟨x0, x1, x2, x3, x4, x5, x6, x7, x8⟩ := HXC.out W2 HST.out.ch
  go_wp2_with fail
  clear x0 x1 x2 x3 x4 x5 x6 x7 x8
  refine (st_ask1 HRO.out HST.out HGK.out rfl).mono ?_
  rintro e W3 ⟨rfl, hst_, hg_⟩
  have HST := zm hst_
  have HGK := zm hg_
  clear hst_ hg_
  obtain ⟨x0, x1, x2, x3, x4, x5, x6, x7, x8⟩ := HXC.out W3 HST.out.ch
  go_wp2_with fail
  clear x0 x1 x2 x3 x4 x5 x6 x7 x8
  refine (st_ask1 HRO.out HST.out HGK.out rfl).mono ?_
  rintro e W4 ⟨rfl, hst_, hg_⟩
  have HST := zm hst_
  have HGK := zm hg_
  clear hst_ hg_
  obtain ⟨x0, x1, x2, x3, x4, x5, x6, x7, x8⟩ := HXC.out W4 HST.out.ch
  go_wp2_with fail
  clear x0 x1 x2 x3 x4 x5 x6 x7 x8
  refine (st_ask1 HRO.out HST.out HGK.out rfl).mono ?_
  rintro e W5 ⟨rfl, hst_, hg_⟩
  have HST := zm hst_
  have HGK := zm hg_
  clear hst_ hg_
  obtain ⟨x0, x1, x2, x3, x4, x5, x6, x7, x8⟩ := HXC.out W5 HST.out.ch
  go_wp2_with fail
  clear x0 x1 x2 x3 x4 x5 x6 x7 x8
  refine (st_in HRO.out HST.out X HS.out hlen).mono ?_
  rintro e Wi ⟨Ai, ci, rfl, hC_, hst_⟩
  have HCI := zm hst_.ch
  have HBI := zm (show ∀ W', Chg (fun i => i = r.Mb) Wi W' → Kd.C (Kd.int .i64) W' Ai (bsL r.l 9 X).length (bsL r.l 9 X) from fun W' hc => intC_map hst_.set hc hC_)
  have HROI := zm (HRO.out.asked hst_.ch)
  obtain ⟨Lc, hLc⟩ : ∃ Lc, Lc = L ++ askL 9 X noS [m] ++ askL 3 m protoS [m + 1] ++ askL 4 m noS [1] ++ askL 4 (m + 1) noS [0] := ⟨_, rfl⟩
  have HST4 := zm (show StA r n S Lc Wi Wi by rw [hLc]; exact hst_.here)
  have HG4 := zm (show Good n (Lc ++ (rg (bsL r.l 9 X).length (fun i => eachL r ⟨2, F, X, Y, Z, N, M, s, al⟩ (rd (bsL r.l 9 X) (i : Int))) ++ R)) by rw [hLc]; exact HGK.out)
  have HLC := zm hLc
  have hbl : (bsL r.l 9 X).length ≤ 900000 := Nat.le_trans (bsL_le _ _ _) hlen
  clear hLc HST HGK hst_ hC_
  go_wp2
  generalize hF : (fun i : Nat => eachL r ⟨2, F, X, Y, Z, N, M, s, al⟩ (rd (bsL r.l 9 X) (i : Int))) = EF at *
  have HF := zm hF
  clear hF
  go_loopg [6, 71] (bsL r.l 9 X).length (fun jq v6 v71 W_ => ∃ j : Nat, v71 = .int .i64 j ∧ j + jq = (bsL r.l 9 X).length ∧ StA r n S (Lc ++ rg j EF) Wi W_)
  case atStart => exact ⟨0, rfl, by omega, by rw [rg_zero, List.append_nil]; exact HST4.out⟩
  case round =>
   clear HST4
   obtain ⟨j, rfl, hj, hst⟩ := hrel
   have HST := zm hst
   clear hst
   by_cases hla : j < (bsL r.l 9 X).length
   ·have HGK := zm (HG4.out.loop hla)
    have HPK := zm (show EF j = eachL r ⟨2, F, X, Y, Z, N, M, s, al⟩ (rd (bsL r.l 9 X) (j : Int)) by rw [← HF.out])
    have HRJ := zm (rg_succ j EF)
    have hwc := wf_bs HWL.out 9 X (rd_mem (bsL r.l 9 X) j hla)
    obtain ⟨ad3, rfl, hp3⟩ := Kd.at_int (HBI.out _ HST.out.ch) (j : Int) (by omega) (by omega)
    rw [Int.toNat_natCast] at hp3
    generalize rd (bsL r.l 9 X) (j : Int) = av at *
    generalize EF j = PJ at *
    rw [HPK.out] at HGK
    obtain ⟨x0, x1, x2, x3, x4, x5, x6, x7, x8⟩ := HXC.out wr (HCI.out.then_ HST.out.ch)
    go_wp2_with fail
    clear x0 x1 x2 x3 x4 x5 x6 x7 x8
    refine (each_calls HROI.out HST.out ⟨2, F, X, Y, Z, N, M, s, al⟩ av HGK.out (HAR.out _ (HCI.out.then_ HST.out.ch)) HS.out hlen hfl hfc hs0 hwc HWL.out).mono ?_
    rintro e W6 ⟨rfl, hst_, hg_⟩
    have HST := zm hst_
    clear hst_ hg_
    go_wp2
    go_roundg (gk - 1)
    case measure => omega
    case rel => exact ⟨j + 1, by go_num, by omega, by rw [HRJ.out, HPK.out, ← List.append_assoc]; exact HST.out⟩
   ·obtain rfl : j = (bsL r.l 9 X).length := by omega
    have HGK := zm (HG4.out.next)
    clear HG4
    go_wp2
    go_end0
    have e : L ++ ruleL r ⟨2, F, X, Y, Z, N, M, s, al⟩ = Lc ++ rg (bsL r.l 9 X).length EF := by
     rw [HEQ.out, HLC.out, ← HF.out]
     simp only [List.append_assoc, List.nil_append, List.append_nil]
    rw [e]
    exact ⟨rfl, (HST.out.rebase HCI.out).rebase HCH.out, HGK.out⟩
 by_cases h3 : k = 3
 ·subst h3
  have HEQ := zm (show ruleL r ⟨3, F, X, Y, Z, N, M, s, al⟩ = askL 9 Y noS (bsL r.l 9 X) ++ rg (bsL r.l 9 X).length (fun i => eachL r ⟨3, F, X, Y, Z, N, M, s, al⟩ (rd (bsL r.l 9 X) (i : Int))) from rfl)
  have HGK := zm (show Good n (L ++ (askL 9 Y noS (bsL r.l 9 X) ++ (rg (bsL r.l 9 X).length (fun i => eachL r ⟨3, F, X, Y, Z, N, M, s, al⟩ (rd (bsL r.l 9 X) (i : Int))) ++ R))) by
   have h9 := HG.out
   rw [HEQ.out] at h9
   simpa only [List.append_assoc] using h9)
  go_wp2
  rw [← HWB.out]
  clear x0 x1 x2 x3 x4 x5 x6 x7 x8 HWB
  obtain ⟨Wd, hWd⟩ : ∃ Wd, Wb.drew = Wd := ⟨_, rfl⟩
  have HST := zm (HST.out.quiet (W' := Wd) (by rw [← hWd]; exact below_drew (Below.refl _ _)))
  refine start_ (n := 8) (S := fun W' => Chg (fun i => i = r.Mb) Wb W') (ds := []) #[false, false, false, false, false, false, false, false] (by kernel_rfl) rfl rfl (by rw [hWd]; exact HST.out.ch) (fun hHeld => ?_)
  rw [hWd] at hHeld ⊢
  refine with_tabW rutab12 rubits12 (fun HT_ HW_ => ?_)
  refine zp 0 58 (h := ?_)
  refine zp 1 59 (h := ?_)
  refine zt 2 60 (hy := by
    intro w' hw'
    obtain ⟨x0, x1, x2, x3, x4, x5, x6, x7, x8⟩ := HXC.out w' hw'
    first | (go_simp; with_reducible rfl)) (h := ?_)
  refine zp 3 61 (h := ?_)
  refine zp 4 62 (h := ?_)
  refine zt 5 63 (hy := by
    intro w' hw'
    obtain ⟨x0, x1, x2, x3, x4, x5, x6, x7, x8⟩ := HXC.out w' hw'
    first | (go_simp; with_reducible rfl)) (h := ?_)
  refine zo 6 64 (h := fun K hK => ?_)
  refine zg Try.func52 #[.pointer (some ⟨r.Br, 0, none⟩), .int .i64 X] (h := ?_)
  refine (st_in HRO.out HST.out X HS.out hlen).mono ?_
  rintro e W8 ⟨A8, c8, rfl, hC_, hst_⟩
  refine ⟨_, rfl, ?_⟩
  have HST := zm hst_
  have HC8 := zm hC_
  clear hst_ hC_
  refine hK.out _ _ HST.out.ch (fun hHeld => ?_)
  clear hK K
  refine zn (h := ?_)
  refine zo 7 65 (h := fun K hK => ?_)
  refine zg Try.func37 #[.pointer (some ⟨r.Br, 0, none⟩), .int .i64 9, .int .i64 Y, .string ⟨#[]⟩, .slice A8 (bsL r.l 9 X).length c8] (h := ?_)
  refine (st_asks HRO.out HST.out HGK.out rfl HC8.out).mono ?_
  rintro e W9 ⟨rfl, hst_, hg_⟩
  refine ⟨_, rfl, ?_⟩
  have HST := zm hst_
  have HGK := zm hg_
  clear hst_ hg_
  refine hK.out _ _ HST.out.ch (fun hHeld => ?_)
  clear hK K
  refine zn (h := ?_)
  refine done_ (done_of HT_.out (by kernel_rfl)) ?_
  clear hHeld
  obtain ⟨x0, x1, x2, x3, x4, x5, x6, x7, x8⟩ := HXC.out W9 HST.out.ch
  go_wp2_with fail
  clear x0 x1 x2 x3 x4 x5 x6 x7 x8
  refine (st_in HRO.out HST.out X HS.out hlen).mono ?_
  rintro e Wi ⟨Ai, ci, rfl, hC_, hst_⟩
  have HCI := zm hst_.ch
  have HBI := zm (show ∀ W', Chg (fun i => i = r.Mb) Wi W' → Kd.C (Kd.int .i64) W' Ai (bsL r.l 9 X).length (bsL r.l 9 X) from fun W' hc => intC_map hst_.set hc hC_)
  have HROI := zm (HRO.out.asked hst_.ch)
  obtain ⟨Lc, hLc⟩ : ∃ Lc, Lc = L ++ askL 9 Y noS (bsL r.l 9 X) := ⟨_, rfl⟩
  have HST4 := zm (show StA r n S Lc Wi Wi by rw [hLc]; exact hst_.here)
  have HG4 := zm (show Good n (Lc ++ (rg (bsL r.l 9 X).length (fun i => eachL r ⟨3, F, X, Y, Z, N, M, s, al⟩ (rd (bsL r.l 9 X) (i : Int))) ++ R)) by rw [hLc]; exact HGK.out)
  have HLC := zm hLc
  have hbl : (bsL r.l 9 X).length ≤ 900000 := Nat.le_trans (bsL_le _ _ _) hlen
  clear hLc HST HGK hst_ hC_
  go_wp2
  generalize hF : (fun i : Nat => eachL r ⟨3, F, X, Y, Z, N, M, s, al⟩ (rd (bsL r.l 9 X) (i : Int))) = EF at *
  have HF := zm hF
  clear hF
  go_loopg [6, 71] (bsL r.l 9 X).length (fun jq v6 v71 W_ => ∃ j : Nat, v71 = .int .i64 j ∧ j + jq = (bsL r.l 9 X).length ∧ StA r n S (Lc ++ rg j EF) Wi W_)
  case atStart => exact ⟨0, rfl, by omega, by rw [rg_zero, List.append_nil]; exact HST4.out⟩
  case round =>
   clear HST4
   obtain ⟨j, rfl, hj, hst⟩ := hrel
   have HST := zm hst
   clear hst
   by_cases hla : j < (bsL r.l 9 X).length
   ·have HGK := zm (HG4.out.loop hla)
    have HPK := zm (show EF j = eachL r ⟨3, F, X, Y, Z, N, M, s, al⟩ (rd (bsL r.l 9 X) (j : Int)) by rw [← HF.out])
    have HRJ := zm (rg_succ j EF)
    have hwc := wf_bs HWL.out 9 X (rd_mem (bsL r.l 9 X) j hla)
    obtain ⟨ad3, rfl, hp3⟩ := Kd.at_int (HBI.out _ HST.out.ch) (j : Int) (by omega) (by omega)
    rw [Int.toNat_natCast] at hp3
    generalize rd (bsL r.l 9 X) (j : Int) = av at *
    generalize EF j = PJ at *
    rw [HPK.out] at HGK
    obtain ⟨x0, x1, x2, x3, x4, x5, x6, x7, x8⟩ := HXC.out wr (HCI.out.then_ HST.out.ch)
    go_wp2_with fail
    clear x0 x1 x2 x3 x4 x5 x6 x7 x8
    refine (each_calls HROI.out HST.out ⟨3, F, X, Y, Z, N, M, s, al⟩ av HGK.out (HAR.out _ (HCI.out.then_ HST.out.ch)) HS.out hlen hfl hfc hs0 hwc HWL.out).mono ?_
    rintro e W6 ⟨rfl, hst_, hg_⟩
    have HST := zm hst_
    clear hst_ hg_
    go_wp2
    go_roundg (gk - 1)
    case measure => omega
    case rel => exact ⟨j + 1, by go_num, by omega, by rw [HRJ.out, HPK.out, ← List.append_assoc]; exact HST.out⟩
   ·obtain rfl : j = (bsL r.l 9 X).length := by omega
    have HGK := zm (HG4.out.next)
    clear HG4
    go_wp2
    go_end0
    have e : L ++ ruleL r ⟨3, F, X, Y, Z, N, M, s, al⟩ = Lc ++ rg (bsL r.l 9 X).length EF := by
     rw [HEQ.out, HLC.out, ← HF.out]
     simp only [List.append_assoc, List.nil_append, List.append_nil]
    rw [e]
    exact ⟨rfl, (HST.out.rebase HCI.out).rebase HCH.out, HGK.out⟩
 have hk1 : (k == 1) = false := by simp [h1]
 have hk2 : (k == 2) = false := by simp [h2]
 have hk3 : (k == 3) = false := by simp [h3]
 have HEQ := zm (show ruleL r ⟨k, F, X, Y, Z, N, M, s, al⟩ = [] ++ rg (bsL r.l 9 X).length (fun i => eachL r ⟨k, F, X, Y, Z, N, M, s, al⟩ (rd (bsL r.l 9 X) (i : Int))) by simp [ruleL, headL, h1, h2, h3])
 have HGK := zm (show Good n (L ++ (rg (bsL r.l 9 X).length (fun i => eachL r ⟨k, F, X, Y, Z, N, M, s, al⟩ (rd (bsL r.l 9 X) (i : Int))) ++ R)) by
  have h9 := HG.out
  rw [HEQ.out] at h9
  simpa only [List.append_assoc, List.nil_append] using h9)
 clear h1 h2 h3 HN
 go_wp2_with fail
 rw [← HWB.out]
 clear x0 x1 x2 x3 x4 x5 x6 x7 x8 HWB hk1 hk2 hk3
 refine (st_in HRO.out HST.out X HS.out hlen).mono ?_
 rintro e Wi ⟨Ai, ci, rfl, hC_, hst_⟩
 have HCI := zm hst_.ch
 have HBI := zm (show ∀ W', Chg (fun i => i = r.Mb) Wi W' → Kd.C (Kd.int .i64) W' Ai (bsL r.l 9 X).length (bsL r.l 9 X) from fun W' hc => intC_map hst_.set hc hC_)
 have HROI := zm (HRO.out.asked hst_.ch)
 obtain ⟨Lc, hLc⟩ : ∃ Lc, Lc = L := ⟨_, rfl⟩
 have HST4 := zm (show StA r n S Lc Wi Wi by rw [hLc]; exact hst_.here)
 have HG4 := zm (show Good n (Lc ++ (rg (bsL r.l 9 X).length (fun i => eachL r ⟨k, F, X, Y, Z, N, M, s, al⟩ (rd (bsL r.l 9 X) (i : Int))) ++ R)) by rw [hLc]; exact HGK.out)
 have HLC := zm hLc
 have hbl : (bsL r.l 9 X).length ≤ 900000 := Nat.le_trans (bsL_le _ _ _) hlen
 clear hLc HST HGK hst_ hC_
 go_wp2
 generalize hF : (fun i : Nat => eachL r ⟨k, F, X, Y, Z, N, M, s, al⟩ (rd (bsL r.l 9 X) (i : Int))) = EF at *
 have HF := zm hF
 clear hF
 go_loopg [6, 71] (bsL r.l 9 X).length (fun jq v6 v71 W_ => ∃ j : Nat, v71 = .int .i64 j ∧ j + jq = (bsL r.l 9 X).length ∧ StA r n S (Lc ++ rg j EF) Wi W_)
 case atStart => exact ⟨0, rfl, by omega, by rw [rg_zero, List.append_nil]; exact HST4.out⟩
 case round =>
  clear HST4
  obtain ⟨j, rfl, hj, hst⟩ := hrel
  have HST := zm hst
  clear hst
  by_cases hla : j < (bsL r.l 9 X).length
  ·have HGK := zm (HG4.out.loop hla)
   have HPK := zm (show EF j = eachL r ⟨k, F, X, Y, Z, N, M, s, al⟩ (rd (bsL r.l 9 X) (j : Int)) by rw [← HF.out])
   have HRJ := zm (rg_succ j EF)
   have hwc := wf_bs HWL.out 9 X (rd_mem (bsL r.l 9 X) j hla)
   obtain ⟨ad3, rfl, hp3⟩ := Kd.at_int (HBI.out _ HST.out.ch) (j : Int) (by omega) (by omega)
   rw [Int.toNat_natCast] at hp3
   generalize rd (bsL r.l 9 X) (j : Int) = av at *
   generalize EF j = PJ at *
   rw [HPK.out] at HGK
   obtain ⟨x0, x1, x2, x3, x4, x5, x6, x7, x8⟩ := HXC.out wr (HCI.out.then_ HST.out.ch)
   go_wp2_with fail
   clear x0 x1 x2 x3 x4 x5 x6 x7 x8
   refine (each_calls HROI.out HST.out ⟨k, F, X, Y, Z, N, M, s, al⟩ av HGK.out (HAR.out _ (HCI.out.then_ HST.out.ch)) HS.out hlen hfl hfc hs0 hwc HWL.out).mono ?_
   rintro e W6 ⟨rfl, hst_, hg_⟩
   have HST := zm hst_
   clear hst_ hg_
   go_wp2
   go_roundg (gk - 1)
   case measure => omega
   case rel => exact ⟨j + 1, by go_num, by omega, by rw [HRJ.out, HPK.out, ← List.append_assoc]; exact HST.out⟩
  ·obtain rfl : j = (bsL r.l 9 X).length := by omega
   have HGK := zm (HG4.out.next)
   clear HG4
   go_wp2
   go_end0
   have e : L ++ ruleL r ⟨k, F, X, Y, Z, N, M, s, al⟩ = Lc ++ rg (bsL r.l 9 X).length EF := by
    rw [HEQ.out, HLC.out, ← HF.out]
    simp only [List.append_assoc, List.nil_append, List.append_nil]
   rw [e]
   exact ⟨rfl, (HST.out.rebase HCI.out).rebase HCH.out, HGK.out⟩
end Go.Proofs.Ytngppcmdaanheaa.Ls
