/- The plain law of BitsLaws. No condition. -/
import Derived.Test.YtcjbhdocmkpjcaaPureBitsParts
import Derived.Test.YtcjbhdocmkpjcaaPc1
namespace Go.Proofs.Ytcjbhdocmkpjcaa.Pure
open Go.RowKit Go.Proofs.Ytcjbhdocmkpjcaa.Ev Go.Proofs.YtcjbhdocmkpjcaaW.PrintWords Go.Proofs.YtcjbhdocmkpjcaaW.PrintMore Go.Proofs.Ytcjbhdocmkpjcaa.Ext Go.Proofs.Ytcjbhdocmkpjcaa.Giv Go.Proofs.Ytcjbhdocmkpjcaa.Base Go.Proofs.Ytcjbhdocmkpjcaa.Sets
set_option linter.unusedVariables false
set_option linter.unusedSimpArgs false

theorem cut_tells_c (l : List Int) : Pc.gumshoelaw01_cut.f l = some (l.take 200) := by
  unfold Pc.gumshoelaw01_cut.f mn
  by_cases h : (200 : Int) < (l.length : Int)
  · rw [if_pos h, if_pos (by omega), if_pos (by omega)]; rfl
  · rw [if_neg h, if_pos (by omega), if_pos (by omega), Int.toNat_natCast, List.take_of_length_le (Nat.le_refl _), List.take_of_length_le (by omega)]
theorem union_sets (l : List (List Int)) (h : l.all setB = true) (hn : l.flatten.length ≤ 17592186044416) : bits_Union.f l = some (sset l.flatten, 0) := by
  unfold bits_Union.f
  rw [if_pos h, if_pos hn]
theorem union_not (l : List (List Int)) (h : l.all setB = false) : bits_Union.f l = some ([], 2) := by
  unfold bits_Union.f
  rw [h, if_neg (by decide)]
theorem pick_sets (a b : List Int) (inn : Bool) (h1 : setB a = true) (h2 : setB b = true) (hn : a.length ≤ 17592186044416) : bits_picked.g inn a b = some (a.filter fun n => b.contains n == inn, 0) := by
  unfold bits_picked.g
  rw [if_pos (by simp [h1, h2]), if_pos hn, pickL_sets inn a b (setB_rising a h1) (setB_rising b h2)]
theorem pick_not (a b : List Int) (inn : Bool) (h : (setB a && setB b) = false) : bits_picked.g inn a b = some ([], 2) := by
  unfold bits_picked.g
  rw [if_neg (by simp at h ⊢; exact h)]
theorem setB_sset (l : List (List Int)) (h : l.all setB = true) : setB (sset l.flatten) = true := by
  apply decide_eq_true
  refine ⟨fun n hn => ?_, (sset_facts _).1⟩
  rw [(sset_facts _).2, List.mem_flatten] at hn
  obtain ⟨x, hx, hn⟩ := hn
  exact (of_decide_eq_true (List.all_eq_true.1 h x hx) : SetOk x).1 n hn
theorem setB_filter (l : List Int) (p : Int → Bool) (h : setB l = true) : setB (l.filter p) = true := by
  have h' : SetOk l := of_decide_eq_true h
  exact decide_eq_true (⟨fun n hn => h'.1 n (List.mem_filter.1 hn).1, h'.2.sublist List.filter_sublist⟩ : SetOk (l.filter p))
theorem sset_len (x b n : List Int) (hx : x.Pairwise (· < ·)) (hb : b.Pairwise (· < ·)) (hn : n.Pairwise (· < ·)) (hm : ∀ z, z ∈ x ↔ z ∈ b ∨ z ∈ n) (hd : ∀ z, z ∈ n → z ∉ b) : x.length = b.length + n.length := by
  have e1 : x.filter (fun z => b.contains z) = b := by
    refine rising_eq (hx.sublist List.filter_sublist) hb fun z => ?_
    rw [List.mem_filter, List.contains_iff_mem, hm]
    constructor
    · exact fun h => h.2
    · exact fun h => ⟨.inl h, h⟩
  have e2 : x.filter (fun z => !b.contains z) = n := by
    refine rising_eq (hx.sublist List.filter_sublist) hn fun z => ?_
    rw [List.mem_filter, hm]
    constructor
    · rintro ⟨h | h, h2⟩
      · rw [List.contains_iff_mem.2 h] at h2; simp at h2
      · exact h
    · intro h
      refine ⟨.inr h, ?_⟩
      have := hd z h
      rw [← List.contains_iff_mem] at this
      simpa using this
  have e3 := List.length_eq_countP_add_countP (fun z => b.contains z) (l := x)
  rw [List.countP_eq_length_filter, List.countP_eq_length_filter, e1] at e3
  have e4 : (x.filter fun z => decide ¬(b.contains z = true)) = n := by
    rw [← e2]
    congr 1
    funext z
    cases b.contains z <;> rfl
  rw [e4] at e3
  exact e3

theorem laws_all (a b : List Int) (ha : a.length ≤ 200) (hb : b.length ≤ 200) : Ev fun k => ((bits_Union.f (([a, b, a] : List (List Int)))).bind fun bt116 => ((bits_Union.f (([b, a] : List (List Int)))).bind fun bt123 => ((bits_Meet.f a b).bind fun bt127 => ((bits_Minus.f a b).bind fun bt131 => ((bits_Union.f (([bt127.1, bt131.1] : List (List Int)))).bind fun bt138 => (if bt116.2 = 0 then ((bits_Within.f a bt116.1).bind fun bt142 => (if true = true then (if bt123.2 = 0 then (if bt127.2 = 0 then (if bt131.2 = 0 then (if bt138.2 = 0 then (if bt142.2 = 0 then (if bt142.1 = true then ((gumshoeref01_Same.f bt116.1 bt123.1).bind fun t144 => (if t144 = true then ((gumshoeref01_Same.f bt138.1 a).bind fun t145 => (if t145 = true then ((bits_Right.f bt116.1).bind fun t146 => (if t146 = true then (Pc.gumshoelaw01_BitsLaws.j1 k ((bt116.1.length : Int) == (wrap64 ((b.length : Int) + (bt131.1.length : Int))))) else (Pc.gumshoelaw01_BitsLaws.j1 k false))) else (Pc.gumshoelaw01_BitsLaws.j1 k false))) else (Pc.gumshoelaw01_BitsLaws.j1 k false))) else (Pc.gumshoelaw01_BitsLaws.j1 k false)) else (Pc.gumshoelaw01_BitsLaws.j1 k false)) else (Pc.gumshoelaw01_BitsLaws.j1 k false)) else (Pc.gumshoelaw01_BitsLaws.j1 k false)) else (Pc.gumshoelaw01_BitsLaws.j1 k false)) else (Pc.gumshoelaw01_BitsLaws.j1 k false)) else (Pc.gumshoelaw01_BitsLaws.j1 k false))) else (if true = true then (if bt123.2 = bt116.2 then (if bt127.2 = bt116.2 then (Pc.gumshoelaw01_BitsLaws.j0 k (bt131.2 == bt116.2)) else (Pc.gumshoelaw01_BitsLaws.j0 k false)) else (Pc.gumshoelaw01_BitsLaws.j0 k false)) else (Pc.gumshoelaw01_BitsLaws.j0 k false)))))))) = some true := by
  unfold bits_Meet.f bits_Minus.f
  cases hab : (setB a && setB b) with
  | false =>
    have h3 : [a, b, a].all setB = false := by simp at hab ⊢; intro h1 h2; rw [hab h1] at h2; cases h2
    have h2 : [b, a].all setB = false := by simp at hab ⊢; intro h1; cases h : setB a with | false => rfl | true => rw [hab h] at h1; cases h1
    refine Ev.step fun k => ?_
    rw [union_not _ h3, union_not _ h2, pick_not a b _ hab, pick_not a b _ hab]
    simp only [Option.bind_some]
    rw [union_sets [[], []] (by decide) (by decide)]
    simp [Pc.gumshoelaw01_BitsLaws.j0]
  | true =>
    rw [Bool.and_eq_true] at hab
    obtain ⟨h1, h2⟩ := hab
    have ra := setB_rising a h1
    have rb := setB_rising b h2
    have h3 : [a, b, a].all setB = true := by simp [h1, h2]
    have hX := setB_sset _ h3
    rw [union_sets _ h3 (by simp; omega), union_sets [b, a] (by simp [h1, h2]) (by simp; omega), pick_sets a b _ h1 h2 (by omega), pick_sets a b _ h1 h2 (by omega)]
    simp only [Option.bind_some]
    have f1 := List.length_filter_le (fun n => b.contains n == true) a
    have f2 := List.length_filter_le (fun n => b.contains n == false) a
    rw [union_sets [_, _] (by simp only [List.all_cons, List.all_nil, setB_filter a _ h1, Bool.and_true]) (by simp only [List.flatten_cons, List.flatten_nil, List.length_append, List.length_nil]; omega)]
    simp only [Option.bind_some]
    have e1 : sset [b, a].flatten = sset [a, b, a].flatten := rising_eq (sset_facts _).1 (sset_facts _).1 fun x => by
      rw [(sset_facts _).2, (sset_facts _).2]; simp only [List.flatten_cons, List.flatten_nil, List.mem_append, List.append_nil]; constructor
      · rintro (h | h) <;> simp [h]
      · rintro (h | h | h) <;> simp [h]
    have e2 : sset [a.filter fun n => b.contains n == true, a.filter fun n => b.contains n == false].flatten = a := rising_eq (sset_facts _).1 ra fun x => by
      rw [(sset_facts _).2]; simp only [List.flatten_cons, List.flatten_nil, List.mem_append, List.append_nil, List.mem_filter]; constructor
      · rintro (h | h) <;> exact h.1
      · intro h; cases hc : b.contains x <;> simp [h]
    have e3 : (sset [a, b, a].flatten).length = b.length + (a.filter fun n => b.contains n == false).length := by
      refine sset_len _ _ _ (sset_facts _).1 rb (ra.sublist List.filter_sublist) (fun z => ?_) (fun z hz hb' => ?_)
      · rw [(sset_facts _).2]; simp only [List.flatten_cons, List.flatten_nil, List.mem_append, List.append_nil, List.mem_filter]; constructor
        · intro h
          cases hc : b.contains z with
          | true => exact .inl (List.contains_iff_mem.1 hc)
          | false =>
            refine .inr ⟨?_, rfl⟩
            rcases h with h | h | h
            · exact h
            · rw [List.contains_iff_mem.2 h] at hc; cases hc
            · exact h
        · rintro (h | h)
          · exact .inr (.inl h)
          · exact .inl h.1
      · rw [List.mem_filter, List.contains_iff_mem.2 hb'] at hz
        exact absurd hz.2 (by decide)
    have e4 : bits_Within.f a (sset [a, b, a].flatten) = some (true, 0) := by
      unfold bits_Within.f
      rw [if_pos (by simp only [List.all_cons, List.all_nil, h1, hX, Bool.and_true]), bothL_sets _ _ ra (sset_facts _).1]
      congr 2
      rw [List.all_map, List.all_eq_true]
      intro x hx
      show (sset [a, b, a].flatten).contains x = true
      rw [List.contains_iff_mem, (sset_facts _).2]
      simp [hx]
    rw [e1, e2, e4]
    refine Ev.step fun k => ?_
    simp only [if_true, Option.bind_some, gumshoeref01_Same.f, bits_Right.f, decide_true, hX]
    rw [Pc.gumshoelaw01_BitsLaws.j1, wrap_id _ (by omega) (by omega), e3]
    simp

theorem BitsLaws (l0 : List Int) (h0 : ∀ a ∈ l0, (Lit.int .i64 a).wf = true) (l1 : List Int) (h1 : ∀ a ∈ l1, (Lit.int .i64 a).wf = true) : ∃ k, Pc.gumshoelaw01_BitsLaws.f k l0 l1 = some true := by
  refine (laws_all (l0.take 200) (l1.take 200) (by rw [List.length_take]; omega) (by rw [List.length_take]; omega)).ex.imp fun k hk => ?_
  rw [Pc.gumshoelaw01_BitsLaws.f, gumshoelaw01_shown.f, Option.bind_some, cut_tells_c, Option.bind_some, cut_tells_c, Option.bind_some]
  exact hk
end Go.Proofs.Ytcjbhdocmkpjcaa.Pure
