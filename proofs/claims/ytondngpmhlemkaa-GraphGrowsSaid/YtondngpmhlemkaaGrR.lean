/- What gumshoeref15's printed functions compute, in closed form. No condition. -/
import Derived.Test.YtondngpmhlemkaaRA
import Derived.Test.YtondngpmhlemkaaPr2
import Derived.Test.YtondngpmhlemkaaPr3
import Derived.Test.YtondngpmhlemkaaGrD
namespace Go.Proofs.Ytondngpmhlemkaa.Ref
open Go.RowKit Go.Proofs.Ytondngpmhlemkaa.Ev Go.Proofs.Ytondngpmhlemkaa.Pr Go.Proofs.Ytondngpmhlemkaa.Gr Go.Proofs.Ytondngpmhlemkaa.Ext Go.Proofs.Ytondngpmhlemkaa.Reach Go.Proofs.YtondngpmhlemkaaW.PrintWords Go.Proofs.YtondngpmhlemkaaW.PrintMore Go.Proofs.Ytondngpmhlemkaa.Sets
set_option linter.unusedVariables false

theorem rdF_nat (l : List S49) (i : Nat) : rd_T49 l (i : Int) = l.getD i z49 := by unfold rd_T49; rw [Int.toNat_natCast]
theorem rdE_nat (l : List S24) (i : Nat) : rd_T24 l (i : Int) = l.getD i z24 := by unfold rd_T24; rw [Int.toNat_natCast]

theorem callees_loop (l : List S49) (m : Int) (hm : l.length ≤ 1000000) (d : Nat) : ∀ i (out : List Int), i + d = l.length → out.length ≤ i → Ev fun k => gumshoeref15_Callees.l0 k l m out (i : Int) = some (allL out (calleesL (l.drop i) m)) := by
  induction d with
  | zero =>
    intro i out h ho
    refine Ev.step fun k => ?_
    rw [gumshoeref15_Callees.l0, if_neg (by omega), drop_len l i (by omega)]
    rfl
  | succ d ih =>
    intro i out h ho
    have hi : i < l.length := by omega
    have hd := drop_at l i z49 hi
    have hw := withL_length (l.getD i z49).f3 out
    by_cases c1 : (l.getD i z49).f0 = 5
    · by_cases c2 : (l.getD i z49).f1 = m
      · refine (((with_tells out (l.getD i z49).f3 (by omega)).and (ih (i + 1) (withL out (l.getD i z49).f3) (by omega) (by omega))).succ (q := fun k => gumshoeref15_Callees.j1 k l m out (i : Int) true = some (allL out (calleesL (l.drop i) m))) fun k hk => ?_).succ fun k hk => ?_
        · rw [gumshoeref15_Callees.j1, if_pos rfl, if_pos (by omega), if_pos (by omega), rdF_nat, hk.1, Option.bind_some, wrap_nat i (by omega), hk.2, hd]
          unfold calleesL toldL
          rw [List.filterMap_cons_some (b := l.getD i z49) (by unfold ofKind; rw [if_pos c1]), List.filterMap_cons_some (b := (l.getD i z49).f3) (by unfold calleeOf; rw [if_pos c2]), allL_cons]
        · rw [gumshoeref15_Callees.l0, if_pos (by omega), if_pos (by omega), rdF_nat, if_pos c1, show ((l.getD i z49).f1 == m) = true by simpa using c2, hk]
      · refine ((ih (i + 1) out (by omega) (by omega)).succ (q := fun k => gumshoeref15_Callees.j1 k l m out (i : Int) false = some (allL out (calleesL (l.drop i) m))) fun k hk => ?_).succ fun k hk => ?_
        · rw [gumshoeref15_Callees.j1, if_neg (by decide), wrap_nat i (by omega), hk, hd]
          unfold calleesL toldL
          rw [List.filterMap_cons_some (b := l.getD i z49) (by unfold ofKind; rw [if_pos c1]), List.filterMap_cons_none (by unfold calleeOf; rw [if_neg c2])]
        · rw [gumshoeref15_Callees.l0, if_pos (by omega), if_pos (by omega), rdF_nat, if_pos c1, show ((l.getD i z49).f1 == m) = false by simpa using c2, hk]
    · refine ((ih (i + 1) out (by omega) (by omega)).succ (q := fun k => gumshoeref15_Callees.j1 k l m out (i : Int) false = some (allL out (calleesL (l.drop i) m))) fun k hk => ?_).succ fun k hk => ?_
      · rw [gumshoeref15_Callees.j1, if_neg (by decide), wrap_nat i (by omega), hk, hd]
        unfold calleesL toldL
        rw [List.filterMap_cons_none (by unfold ofKind; rw [if_neg c1])]
      · rw [gumshoeref15_Callees.l0, if_pos (by omega), if_pos (by omega), rdF_nat, if_neg c1, hk]
theorem callees_tells (l : List S49) (m : Int) (hm : l.length ≤ 1000000) : Ev fun k => gumshoeref15_Callees.f k l m = some (sset (calleesL l m)) := by
  refine (callees_loop l m hm l.length 0 [] (by omega) (by simp)).mono fun k hk => ?_
  rw [gumshoeref15_Callees.f, show (0 : Int) = ((0 : Nat) : Int) from rfl, hk, allL_sset]
  rfl

theorem entered_loop (l : List S49) (hm : l.length ≤ 1000000) (d : Nat) : ∀ i (out : List Int), i + d = l.length → out.length ≤ i → Ev fun k => gumshoeref15_Entered.l0 k l out (i : Int) = some (allL out (enteredL (l.drop i))) := by
  induction d with
  | zero =>
    intro i out h ho
    refine Ev.step fun k => ?_
    rw [gumshoeref15_Entered.l0, if_neg (by omega), drop_len l i (by omega)]
    rfl
  | succ d ih =>
    intro i out h ho
    have hi : i < l.length := by omega
    have hd := drop_at l i z49 hi
    have hw := withL_length (l.getD i z49).f1 out
    by_cases c1 : (l.getD i z49).f0 = 6
    · refine ((with_tells out (l.getD i z49).f1 (by omega)).and (ih (i + 1) (withL out (l.getD i z49).f1) (by omega) (by omega))).succ fun k hk => ?_
      rw [gumshoeref15_Entered.l0, if_pos (by omega), if_pos (by omega), rdF_nat, if_pos c1, hk.1, Option.bind_some, wrap_nat i (by omega), hk.2, hd]
      unfold enteredL toldL
      rw [List.filterMap_cons_some (b := l.getD i z49) (by unfold ofKind; rw [if_pos c1]), List.map_cons, allL_cons]
    · refine (ih (i + 1) out (by omega) (by omega)).succ fun k hk => ?_
      rw [gumshoeref15_Entered.l0, if_pos (by omega), if_pos (by omega), rdF_nat, if_neg c1, wrap_nat i (by omega), hk, hd]
      unfold enteredL toldL
      rw [List.filterMap_cons_none (by unfold ofKind; rw [if_neg c1])]
theorem entered_tells (l : List S49) (hm : l.length ≤ 1000000) : Ev fun k => gumshoeref15_Entered.f k l = some (sset (enteredL l)) := by
  refine (entered_loop l hm l.length 0 [] (by omega) (by simp)).mono fun k hk => ?_
  rw [gumshoeref15_Entered.f, show (0 : Int) = ((0 : Nat) : Int) from rfl, hk, allL_sset]
  rfl

theorem callers_loop (l : List S24) (m : Int) (hm : l.length ≤ 1000000) (d : Nat) : ∀ i (out : List Int), i + d = l.length → out.length ≤ i → Ev fun k => gumshoeref15_Callers.l0 k l m out (i : Int) = some (allL out (callersL (l.drop i) m)) := by
  induction d with
  | zero =>
    intro i out h ho
    refine Ev.step fun k => ?_
    rw [gumshoeref15_Callers.l0, if_neg (by omega), drop_len l i (by omega)]
    rfl
  | succ d ih =>
    intro i out h ho
    have hi : i < l.length := by omega
    have hd := drop_at l i z24 hi
    have hw := withL_length (l.getD i z24).f1 out
    by_cases c1 : (l.getD i z24).f2 = m
    · refine ((with_tells out (l.getD i z24).f1 (by omega)).and (ih (i + 1) (withL out (l.getD i z24).f1) (by omega) (by omega))).succ fun k hk => ?_
      rw [gumshoeref15_Callers.l0, if_pos (by omega), if_pos (by omega), rdE_nat, if_pos c1, hk.1, Option.bind_some, wrap_nat i (by omega), hk.2, hd]
      unfold callersL
      rw [List.filterMap_cons_some (b := (l.getD i z24).f1) (by unfold callerOf; rw [if_pos c1]), allL_cons]
    · refine (ih (i + 1) out (by omega) (by omega)).succ fun k hk => ?_
      rw [gumshoeref15_Callers.l0, if_pos (by omega), if_pos (by omega), rdE_nat, if_neg c1, wrap_nat i (by omega), hk, hd]
      unfold callersL
      rw [List.filterMap_cons_none (by unfold callerOf; rw [if_neg c1])]
theorem callers_tells (l : List S24) (m : Int) (hm : l.length ≤ 1000000) : Ev fun k => gumshoeref15_Callers.f k l m = some (sset (callersL l m)) := by
  refine (callers_loop l m hm l.length 0 [] (by omega) (by simp)).mono fun k hk => ?_
  rw [gumshoeref15_Callers.f, show (0 : Int) = ((0 : Nat) : Int) from rfl, hk, allL_sset]
  rfl

/-! ### Reached -/
/-- One pass over edges. -/
def passL : List (Int × Int) → List Int → Bool → List Int × Bool
  | [], out, m => (out, m)
  | e :: es, out, m => if (out.contains e.1 && !out.contains e.2) = true then passL es (withL out e.2) true else passL es out m
theorem passL_sub : ∀ (es : List (Int × Int)) (out : List Int) (m : Bool) (x : Int), x ∈ out → x ∈ (passL es out m).1
  | [], _, _, _, h => h
  | e :: es, out, m, x, h => by
    unfold passL
    split
    · exact passL_sub es _ _ _ ((withL_mem e.2 out x).2 (.inr h))
    · exact passL_sub es _ _ _ h
theorem passL_false : ∀ (es : List (Int × Int)) (out : List Int) (m : Bool), (passL es out m).2 = false → (passL es out m).1 = out ∧ ∀ e ∈ es, e.1 ∈ out → e.2 ∈ out
  | [], _, _, _ => ⟨rfl, fun e h => by simp at h⟩
  | e :: es, out, m, h => by
    have ht : ∀ (es : List (Int × Int)) (out : List Int), (passL es out true).2 = true := by
      intro es
      induction es with
      | nil => intro out; rfl
      | cons e es ih => intro out; unfold passL; split <;> exact ih _
    unfold passL at h ⊢
    split at h
    · rw [ht] at h; cases h
    · rename_i hc
      rw [if_neg hc]
      obtain ⟨h1, h2⟩ := passL_false es out m h
      refine ⟨h1, fun e' he' h3 => ?_⟩
      rcases List.mem_cons.1 he' with rfl | he'
      · simp only [Bool.and_eq_true, List.contains_iff_mem, Bool.not_eq_true', not_and, Bool.not_eq_false] at hc
        exact hc h3
      · exact h2 e' he' h3
theorem passL_true : ∀ (es : List (Int × Int)) (out : List Int), (passL es out false).2 = true → ∃ e ∈ es, e.2 ∉ out ∧ e.2 ∈ (passL es out false).1
  | [], _, h => by cases h
  | e :: es, out, h => by
    unfold passL at h ⊢
    split at h
    · rename_i hc
      rw [if_pos hc]
      simp only [Bool.and_eq_true, List.contains_iff_mem, Bool.not_eq_true', Bool.eq_false_iff, ne_eq] at hc
      exact ⟨e, by simp, hc.2, passL_sub es _ _ _ ((withL_mem e.2 out e.2).2 (.inl rfl))⟩
    · rename_i hc
      rw [if_neg hc]
      obtain ⟨e', h1, h2⟩ := passL_true es out h
      exact ⟨e', by simp [h1], h2⟩

structure PInv (es : List (Int × Int)) (out : List Int) : Prop where
  rising : out.Pairwise (· < ·)
  sound : ∀ x ∈ out, Leads es x
  zero : 0 ∈ out
  sub : ∀ x ∈ out, x ∈ 0 :: es.map (·.2)
theorem PInv.length {es : List (Int × Int)} {out : List Int} (h : PInv es out) : out.length ≤ es.length + 1 := by
  have := nodup_le (h.rising.imp (fun h => by omega)) h.sub
  simpa using this
theorem PInv.pass {es0 : List (Int × Int)} : ∀ {es : List (Int × Int)} {out : List Int} {m : Bool}, PInv es0 out → (∀ e ∈ es, e ∈ es0) → PInv es0 (passL es out m).1
  | [], _, _, h, _ => h
  | e :: es, out, m, h, hs => by
    unfold passL
    split
    · rename_i hc
      simp only [Bool.and_eq_true, List.contains_iff_mem] at hc
      have he : e ∈ es0 := hs e (by simp)
      refine PInv.pass ⟨withL_rising e.2 out h.rising, fun x hx => ?_, (withL_mem e.2 out 0).2 (.inr h.zero), fun x hx => ?_⟩ (fun e' h' => hs e' (by simp [h']))
      · rcases (withL_mem e.2 out x).1 hx with rfl | hx
        · exact .step (h.sound _ hc.1) he
        · exact h.sound x hx
      · rcases (withL_mem e.2 out x).1 hx with rfl | hx
        · exact List.mem_cons_of_mem _ (List.mem_map_of_mem he)
        · exact h.sub x hx
    · exact PInv.pass h (fun e' h' => hs e' (by simp [h']))

theorem edgesL_drop (l : List S24) (i : Nat) (hi : i < l.length) : edgesL (l.drop i) = ((l.getD i z24).f0, (l.getD i z24).f2) :: edgesL (l.drop (i + 1)) := by
  unfold edgesL
  rw [drop_at l i z24 hi, List.map_cons]
theorem pass_loop (l : List S24) (hm : l.length ≤ 1000000) (r : List Int) (d : Nat) : ∀ i (out : List Int) (m : Bool), i + d = l.length → PInv (edgesL l) out →
    (Ev fun k => gumshoeref15_Reached.l0 k l (passL (edgesL (l.drop i)) out m).1 (passL (edgesL (l.drop i)) out m).2 = some r) → Ev fun k => gumshoeref15_Reached.l1 k l out m (i : Int) = some r := by
  induction d with
  | zero =>
    intro i out m h hp hr
    refine hr.succ fun k hk => ?_
    rw [gumshoeref15_Reached.l1, if_neg (by omega)]
    rw [drop_len l i (by omega)] at hk
    exact hk
  | succ d ih =>
    intro i out m h hp hr
    have hi : i < l.length := by omega
    have hlo := hp.length
    have hel : (edgesL l).length = l.length := by simp [edgesL]
    have he : ((l.getD i z24).f0, (l.getD i z24).f2) ∈ edgesL l := by
      refine List.mem_map.2 ⟨l.getD i z24, ?_, rfl⟩
      rw [List.getD_eq_getElem?_getD, List.getElem?_eq_getElem hi]
      exact List.getElem_mem hi
    rw [edgesL_drop l i hi] at hr
    unfold passL at hr
    have hhas := (has_tells out (l.getD i z24).f0 (by omega)).and (has_tells out (l.getD i z24).f2 (by omega))
    by_cases hc : (out.contains (l.getD i z24).f0 && !out.contains (l.getD i z24).f2) = true
    · rw [if_pos hc] at hr
      have hp2 : PInv (edgesL l) (withL out (l.getD i z24).f2) := by
        have := PInv.pass (m := false) hp (es := [((l.getD i z24).f0, (l.getD i z24).f2)]) (fun e h => by simp at h; rw [h]; exact he)
        unfold passL at this
        rw [if_pos hc] at this
        exact this
      have h1 := ih (i + 1) (withL out (l.getD i z24).f2) true (by omega) hp2 hr
      refine (hhas.and (((with_tells out (l.getD i z24).f2 (by omega)).and h1).succ (q := fun k => gumshoeref15_Reached.j2 k l out m (i : Int) true = some r) fun k hk => ?_)).succ fun k hk => ?_
      · rw [gumshoeref15_Reached.j2, if_pos rfl, if_pos (by omega), if_pos (by omega), rdE_nat, hk.1, Option.bind_some, wrap_nat i (by omega), hk.2]
      · simp only [Bool.and_eq_true] at hc
        rw [gumshoeref15_Reached.l1, if_pos (by omega), if_pos (by omega), rdE_nat, hk.1.1, Option.bind_some, hk.1.2, Option.bind_some, if_pos hc.1, hc.2, hk.2]
    · rw [if_neg hc] at hr
      have h1 := ih (i + 1) out m (by omega) hp hr
      refine (hhas.and (h1.succ (q := fun k => gumshoeref15_Reached.j2 k l out m (i : Int) false = some r) fun k hk => ?_)).succ fun k hk => ?_
      · rw [gumshoeref15_Reached.j2, if_neg (by decide), wrap_nat i (by omega), hk]
      · rw [gumshoeref15_Reached.l1, if_pos (by omega), if_pos (by omega), rdE_nat, hk.1.1, Option.bind_some, hk.1.2, Option.bind_some]
        by_cases c1 : out.contains (l.getD i z24).f0 = true
        · rw [c1, Bool.true_and] at hc
          rw [if_pos c1, Bool.eq_false_iff.2 hc, hk.2]
        · rw [if_neg c1, hk.2]
theorem rounds_loop (l : List S24) (hm : l.length ≤ 1000000) (N : Nat) : ∀ (out : List Int), ((edgesL l).filter (fun e => !out.contains e.2)).length ≤ N → PInv (edgesL l) out → Ev fun k => gumshoeref15_Reached.l0 k l out true = some (reachL (edgesL l)) := by
  induction N with
  | zero =>
    intro out hN hp
    refine (pass_loop l hm (reachL (edgesL l)) l.length 0 out false (by omega) hp ?_).succ fun k hk => ?_
    · cases hb : (passL (edgesL (l.drop 0)) out false).2 with
      | true =>
        obtain ⟨e, he, h1, h2⟩ := passL_true _ _ hb
        have h0 : (edgesL l).filter (fun e => !out.contains e.2) = [] := List.eq_nil_of_length_eq_zero (by omega)
        rw [List.filter_eq_nil_iff] at h0
        have := h0 e he
        rw [Bool.not_eq_true', Bool.not_eq_false, List.contains_iff_mem] at this
        exact absurd this h1
      | false =>
        obtain ⟨h1, h2⟩ := passL_false _ _ _ hb
        refine Ev.step fun k => ?_
        rw [gumshoeref15_Reached.l0, if_neg (by decide), h1]
        congr 1
        exact rising_reach hp.rising (fun x => ⟨hp.sound x, fun hr => by
          induction hr with
          | zero => exact hp.zero
          | step _ he ih => exact h2 _ he ih⟩)
    · rw [gumshoeref15_Reached.l0, if_pos rfl]; exact hk
  | succ N ih =>
    intro out hN hp
    refine (pass_loop l hm (reachL (edgesL l)) l.length 0 out false (by omega) hp ?_).succ fun k hk => ?_
    · have hpp : PInv (edgesL l) (passL (edgesL (l.drop 0)) out false).1 := hp.pass (fun e h => h)
      cases hb : (passL (edgesL (l.drop 0)) out false).2 with
      | true =>
        refine ih _ ?_ hpp
        obtain ⟨e, he, h1, h2⟩ := passL_true _ _ hb
        have := Go.Proofs.Ytondngpmhlemkaa.Reach.filter_lt (p := fun e : Int × Int => !out.contains e.2) (q := fun e : Int × Int => !(passL (edgesL (l.drop 0)) out false).1.contains e.2) (fun x hx => by
          simp only [Bool.not_eq_true', Bool.eq_false_iff] at hx ⊢
          intro hc
          exact hx (List.contains_iff_mem.2 (passL_sub _ _ _ _ (List.contains_iff_mem.1 hc)))) (show e ∈ edgesL l from he) (by simpa using h1) (by simpa using h2)
        omega
      | false =>
        obtain ⟨h1, h2⟩ := passL_false _ _ _ hb
        refine Ev.step fun k => ?_
        rw [gumshoeref15_Reached.l0, if_neg (by decide), h1]
        congr 1
        exact rising_reach hp.rising (fun x => ⟨hp.sound x, fun hr => by
          induction hr with
          | zero => exact hp.zero
          | step _ he ih => exact h2 _ he ih⟩)
    · rw [gumshoeref15_Reached.l0, if_pos rfl]; exact hk
theorem reached_tells (l : List S24) (hm : l.length ≤ 1000000) : Ev fun k => gumshoeref15_Reached.f k l = some (reachL (edgesL l)) := by
  refine (rounds_loop l hm _ [0] (Nat.le_refl _) ⟨by simp, fun x hx => by obtain rfl := List.mem_singleton.1 hx; exact .zero, by simp, by simp⟩).mono fun k hk => ?_
  rw [gumshoeref15_Reached.f]
  exact hk

theorem some_tells (l : List S24) : gumshoelaw15_some.f l = some (l.take 100) := by
  unfold gumshoelaw15_some.f mn
  by_cases h : (100 : Int) < (l.length : Int)
  · rw [if_pos h, if_pos (by omega), if_pos (by omega)]; rfl
  · rw [if_neg h, if_pos (by omega), if_pos (by omega), Int.toNat_natCast, List.take_of_length_le (Nat.le_refl _), List.take_of_length_le (by omega)]
theorem few_tells (l : List S49) : gumshoelaw15_few.f l = some (l.take 100) := by
  unfold gumshoelaw15_few.f mn
  by_cases h : (100 : Int) < (l.length : Int)
  · rw [if_pos h, if_pos (by omega), if_pos (by omega)]; rfl
  · rw [if_neg h, if_pos (by omega), if_pos (by omega), Int.toNat_natCast, List.take_of_length_le (Nat.le_refl _), List.take_of_length_le (by omega)]

theorem shown_tells : Ev fun k => gumshoelaw15_shown.f k = some true := by
  have h1 : graph_Reached.f [⟨0, 9, 2⟩, ⟨2, 11, 3⟩, ⟨1, 12, 4⟩] = some [0, 2, 3] := by
    unfold graph_Reached.f
    rw [if_pos (by decide)]
    congr 1
    unfold reachL
    rw [show grow (edgesL [⟨0, 9, 2⟩, ⟨2, 11, 3⟩, ⟨1, 12, 4⟩]) (edgesL [⟨0, 9, 2⟩, ⟨2, 11, 3⟩, ⟨1, 12, 4⟩]).length [0] = [0, 2, 3] by decide +kernel]
    exact sset_rising (by decide)
  have h2 : graph_Callees.f [⟨5, 9, ⟨#[]⟩, 5⟩, ⟨5, 9, ⟨#[]⟩, 4⟩] 9 = some [4, 5] := by
    unfold graph_Callees.f
    rw [if_pos (by decide)]
    congr 1
    rw [show calleesL [⟨5, 9, ⟨#[]⟩, 5⟩, ⟨5, 9, ⟨#[]⟩, 4⟩] 9 = [5, 4] from rfl]
    exact rising_eq (sset_facts _).1 (by decide) (fun x => by rw [(sset_facts _).2]; simp; omega)
  refine ((same_tells [0, 2, 3] [0, 2, 3] (by decide)).and (same_tells [4, 5] [4, 5] (by decide))).mono fun k hk => ?_
  rw [gumshoelaw15_shown.f, h1, Option.bind_some, h2, Option.bind_some, hk.1, Option.bind_some]
  simp only [decide_true, if_pos]
  rw [hk.2]
  rfl
end Go.Proofs.Ytondngpmhlemkaa.Ref
