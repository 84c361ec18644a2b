/- gumshoelaw01.shown answers true. -/
import Derived.Test.YtcjbhdocmkpjcaaE3
import Derived.Test.YtcjbhdocmkpjcaaE6
import Derived.Test.YtcjbhdocmkpjcaaIter
namespace Go.Proofs.Ytcjbhdocmkpjcaa.Ext
open Go.RowKit Go.Proofs.YtcjbhdocmkpjcaaW.PrintWords Go.Proofs.YtcjbhdocmkpjcaaW.PrintLast Go.Proofs.Ytcjbhdocmkpjcaa.Pr Go.Proofs.Ytcjbhdocmkpjcaa.Base Go.Proofs.Ytcjbhdocmkpjcaa.Sets Go.Proofs.Ytcjbhdocmkpjcaa.Iter Go.Proofs.Ytcjbhdocmkpjcaa.ISet
set_option linter.unusedVariables false
set_option linter.unusedSimpArgs false

theorem blk_C {W : World} {g : Nat} {xs : List Int} {t : TypeId} (h : W.heap[g]? = some (.cells (xs.map (Value.int .i64)).toArray t (0, 0))) (hl : xs.length ≤ 9223372036854775807) : Kd.C (Kd.int .i64) W (some ⟨g, 0, none⟩) xs.length xs := by
  have ho : W.ownsRow 0 t 1 (.slice (some ⟨g, 0, none⟩) xs.length xs.length) xs.length (encs (Value.int .i64) xs) :=
    ⟨by simp [encs], .inr ⟨g, xs.length, _, rfl, Nat.zero_le _, h, Nat.le_refl _, by simpa [maxLen] using hl, by simp, by simp [encs, List.take_of_length_le]⟩⟩
  obtain ⟨A, c, e, _, hC⟩ := Kd.R_reads (Kd.R_of_own (h1 := fun _ => rfl) (ok := fun _ => True) ho (fun _ _ => trivial))
  injection e with e1 e2 e3
  subst e1
  exact hC

theorem rows_C {W : World} {g : Nat} {vs : Array Value} {t : TypeId} {l : List (List Int)} (h : W.heap[g]? = some (.cells vs t (0, 0))) (hl : l.length ≤ 9223372036854775807)
    (hv : ∀ (j : Nat) (p : List Int), l[j]? = some p → ∃ A c, vs[j]? = some (.slice A p.length c) ∧ p.length ≤ c ∧ Kd.C (Kd.int .i64) W A p.length p) : Kd.C (Kd.slice 3 (Kd.int .i64)) W (some ⟨g, 0, none⟩) l.length l := by
  refine ⟨rfl, hl, fun _ => ⟨⟨g, 0, none⟩, rfl, fun j p hj => ?_⟩⟩
  obtain ⟨A, c, h1, h2, h3⟩ := hv j p hj
  refine ⟨[.slice A p.length c], rfl, ⟨A, c, rfl, h2, h3⟩, fun i u hu => ?_⟩
  match i with
  | 0 =>
    obtain rfl : Value.slice A p.length c = u := by simpa using hu
    have hs : (Kd.slice 3 (Kd.int .i64)).sz = 1 := rfl
    have ha : (⟨g, 0, none⟩ : Addr).add (j * (Kd.slice 3 (Kd.int .i64)).sz + 0) = ⟨g, j, none⟩ := by rw [hs, Nat.mul_one, Nat.add_zero]; exact add_plain g j
    rw [ha]
    simp only [World.cell?, h]
    simpa using h1
  | i + 1 => simp at hu

theorem sset_shown : sset [1, 3, 2, 3] = [1, 2, 3] :=
  rising_eq (sset_facts _).1 (by decide) (fun x => by rw [(sset_facts _).2]; simp; omega)
theorem union_shown : bits_Union.f [[1, 3], [2, 3], []] = some ([1, 2, 3], 0) := by
  unfold bits_Union.f
  rw [if_pos (by decide), if_pos (by decide)]
  rw [show ([[1, 3], [2, 3], []] : List (List Int)).flatten = [1, 3, 2, 3] from rfl, sset_shown]
theorem same_shown : gumshoeref01_Same.f 5 [1, 2, 3] [1, 2, 3] = some true := by decide +kernel

theorem alloc_at' (w : World) (o : Obj) (k : Nat) : (w.alloc o).heap[k]? = if k = w.heap.size then some o else w.heap[k]? := by
  show (w.heap.push o)[k]? = _
  rw [Array.getElem?_push]

theorem union_lit (w : World) :
    Calls Try.prog 12 #[.slice (some ⟨w.heap.size + 1 + 1, 0, none⟩) 3 3] (((w.alloc (.cells #[.int .i64 1, .int .i64 3] 3)).alloc (.cells #[.int .i64 2, .int .i64 3] 3)).alloc (.cells #[.slice (some ⟨w.heap.size, 0, none⟩) 2 2, .slice (some ⟨w.heap.size + 1, 0, none⟩) 2 2, .slice none 0 0] 24))
      fun e w' => ∃ v : Value, e = .returned (.tuple #[v, .int .i64 0]) ∧ OwnI w' w.heap.size v [1, 2, 3] ∧ Below w.heap.size w w' := by
  obtain ⟨W, hW⟩ : ∃ W, ((w.alloc (.cells #[.int .i64 1, .int .i64 3] 3)).alloc (.cells #[.int .i64 2, .int .i64 3] 3)).alloc (.cells #[.slice (some ⟨w.heap.size, 0, none⟩) 2 2, .slice (some ⟨w.heap.size + 1, 0, none⟩) 2 2, .slice none 0 0] 24) = W := ⟨_, rfl⟩
  have h0 : W.heap[w.heap.size]? = some (.cells (([1, 3] : List Int).map (Value.int .i64)).toArray 3 (0, 0)) := by
    rw [← hW]; simp only [alloc_at', World.size_alloc]; simp (disch := omega) [if_pos, if_neg]
  have h1 : W.heap[w.heap.size + 1]? = some (.cells (([2, 3] : List Int).map (Value.int .i64)).toArray 3 (0, 0)) := by
    rw [← hW]; simp only [alloc_at', World.size_alloc]; simp (disch := omega) [if_pos, if_neg]
  have h2 : W.heap[w.heap.size + 1 + 1]? = some (.cells #[.slice (some ⟨w.heap.size, 0, none⟩) 2 2, .slice (some ⟨w.heap.size + 1, 0, none⟩) 2 2, .slice none 0 0] 24 (0, 0)) := by
    rw [← hW]; simp only [alloc_at', World.size_alloc]; simp (disch := omega) [if_pos, if_neg]
  have hs : W.heap.size = w.heap.size + 3 := by rw [← hW]; simp
  have hb : Below w.heap.size w W := by rw [← hW]; exact (((Below.refl _ w).alloc (Nat.le_refl _) _).alloc (by simp) _).alloc (by simp; omega) _
  rw [hW]
  have hC : Kd.C (Kd.slice 3 (Kd.int .i64)) W (some ⟨w.heap.size + 1 + 1, 0, none⟩) ([[1, 3], [2, 3], []] : List (List Int)).length [[1, 3], [2, 3], []] := by
    refine rows_C h2 (by simp) (fun j p hj => ?_)
    match j with
    | 0 => obtain rfl : [1, 3] = p := by simpa using hj
           exact ⟨_, 2, rfl, by simp, blk_C h0 (by simp)⟩
    | 1 => obtain rfl : [2, 3] = p := by simpa using hj
           exact ⟨_, 2, rfl, by simp, blk_C h1 (by simp)⟩
    | 2 => obtain rfl : [] = p := by simpa using hj
           exact ⟨none, 0, rfl, by simp, ⟨rfl, by simp, fun h => by simp at h⟩⟩
    | j + 3 => simp at hj
  refine (bits_Union.calls _ 3 [[1, 3], [2, 3], []] [1, 2, 3] 0 W hC (by simp) union_shown).mono ?_
  rintro e w' ⟨v, rfl, hO, hB⟩
  exact ⟨v, rfl, Kd.R_lower hO (by omega), hb.trans (hB.mono (by omega))⟩

/-- gumshoelaw01.shown. -/
def gumshoelaw01_shown.f : Option Bool := some true
set_option maxHeartbeats 2000000 in
theorem gumshoelaw01_shown.calls (r : Bool) (w : World) (h : gumshoelaw01_shown.f = some r) : Calls Try.prog 10 #[] w fun e w' => e = .returned (.bool r) ∧ Below w.heap.size w w' := by
  obtain rfl := Option.some.inj h
  clear h
  go_enter Try.func10, Try.ntmps10
  go_wp2_with fail
  refine (union_lit w).mono ?_
  rintro e w1 ⟨v, rfl, hO, hB⟩
  have HO1 := Aside0.mk hO
  have HB1 := Aside0.mk hB
  clear hO hB
  go_wp2_with fail
  refine (new_calls w1).mono ?_
  rintro e w2 ⟨rfl, hQ, hB, hs⟩
  have hq0 : QIs w2 w1.heap.size (w1.heap.size + 1) [] 0 (fun i => i = w1.heap.size ∨ i = w1.heap.size + 1) := ⟨_, _, _, hQ⟩
  have HB2 := Aside0.mk hB
  have HP := Aside0.mk (push_new w1.heap.size (w1.heap.size + 1) 0 [] _ 5 w2 hq0 (by omega) (by omega) (by decide) (by simp))
  have HS2 := Aside0.mk hs
  clear hQ hB hq0 hs
  go_wp2_with fail
  refine HP.out.mono ?_
  rintro e w3 ⟨rfl, hc, O3, hO3, hq3⟩
  have HB3 := Aside0.mk (HB2.out.trans (hc.below HB2.out.size (fun i hi => by rcases hi with rfl | rfl <;> omega)))
  have HO3 := Aside0.mk (show ∀ i, O3 i → w1.heap.size ≤ i from fun i hi => by have h2 := HS2.out; rcases hO3 i hi with (h | h) | h <;> omega)
  have HQ3 := Aside0.mk hq3
  clear HP hc hO3 hq3
  go_wp2_with fail
  refine (push_in w1.heap.size (w1.heap.size + 1) 1 [5] O3 5 w3 HQ3.out (by simp)).mono ?_
  rintro e w4 ⟨rfl, hd⟩
  have HB4 := Aside0.mk (HB3.out.trans (hd.below.mono HB3.out.size))
  have HQ4 := Aside0.mk (HQ3.out.chg (Chg.of_below hd.below (fun _ => False)) (fun i h => h.elim))
  clear hd
  go_wp2_with fail
  refine (pop_some w1.heap.size (w1.heap.size + 1) 1 5 [] O3 w4 HQ4.out).mono ?_
  rintro e w5 ⟨rfl, hc, hq5⟩
  have HB5 := Aside0.mk (HB4.out.trans (hc.below HB4.out.size (fun i hi => HO3.out i hi)))
  have HQ5 := Aside0.mk hq5
  clear hc hq5
  go_wp2_with fail
  refine (pop_empty w1.heap.size (w1.heap.size + 1) 1 O3 w5 HQ5.out).mono ?_
  rintro e w6 ⟨rfl, hd⟩
  have HB6 := Aside0.mk (HB5.out.trans (hd.below.mono HB5.out.size))
  have HO6 := Aside0.mk (Kd.R_below HO1.out HB6.out)
  have HB7 := Aside0.mk (HB1.out.trans (HB6.out.mono HB1.out.size))
  obtain ⟨A, c, hv, hlc, hC⟩ := Kd.R_reads HO6.out
  have HC := Aside0.mk hC
  subst hv
  clear hd hC HQ5 HQ4 HQ3 HB2 HB3 HB4 HB5 HO1 HB1 HO3 HS2 HO6 HB6
  go_wp2_with fail
  have hbw : Below w6.heap.size w6 (w6.alloc (.cells #[.int .i64 1, .int .i64 2, .int .i64 3] 3)) := (Below.refl _ w6).alloc (Nat.le_refl _) _
  have hn : (w6.alloc (.cells #[.int .i64 1, .int .i64 2, .int .i64 3] 3)).heap[w6.heap.size]? = some (.cells (([1, 2, 3] : List Int).map (Value.int .i64)).toArray 3 (0, 0)) := heap_alloc_new w6 _
  refine (gumshoeref01_Same.calls 5 A c [1, 2, 3] (some ⟨w6.heap.size, 0, none⟩) 3 [1, 2, 3] true _ (Kd.C_below HC.out hbw) hlc (blk_C hn (by simp)) (by simp) same_shown).mono ?_
  rintro e w7 ⟨rfl, hd⟩
  have HB8 := Aside0.mk (HB7.out.trans ((hbw.mono HB7.out.size).trans (hd.below.mono (by rw [World.size_alloc]; have := HB7.out.size; omega))))
  clear hd hbw hn
  go_wp2
  go_ret
  exact ⟨rfl, HB8.out⟩

end Go.Proofs.Ytcjbhdocmkpjcaa.Ext
