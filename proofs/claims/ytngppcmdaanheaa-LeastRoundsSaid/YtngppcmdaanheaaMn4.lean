/- Lemmas for the claims of this seat (own texts, packed; what the claims do not use is left out). No condition. -/
import Derived.Test.YtngppcmdaanheaaMn0
import Derived.Test.YtngppcmdaanheaaMn1
import Derived.Test.YtngppcmdaanheaaMn2
import Derived.Test.YtngppcmdaanheaaMn3
namespace Go.Proofs.Ytngppcmdaanheaa.Lu
open Go.RowKit Go.Proofs.Ytngppcmdaanheaa.Ev Go.Proofs.Ytngppcmdaanheaa.Pr Go.Proofs.Ytngppcmdaanheaa.Ls Go.Proofs.Ytngppcmdaanheaa.Ref Go.Proofs.YtngppcmdaanheaaW.PrintWords Go.Proofs.YtngppcmdaanheaaW.PrintMore
set_option linter.unusedVariables false
set_option linter.unusedSimpArgs false
theorem rdK_nat (l : List Fa) (i : Nat) : rd_T41 l (i : Int) = l.getD i z41 := by unfold rd_T41; rw [Int.toNat_natCast]
noncomputable instance lfDec (x y : Fa) : Decidable (LF x y) := Classical.propDecidable _
theorem before_tells (x y : Fa) : q8_Before.f x.f0 x.f1 x.f2 x.f3 y.f0 y.f1 y.f2 y.f3 = some (decide (LF x y)) := by
 unfold q8_Before.f LF
 by_cases h0 : x.f0 = y.f0
 ·rw [if_pos h0]
  by_cases h1 : x.f1 = y.f1
  ·rw [if_pos h1]
   by_cases h2 : x.f2.toList = y.f2.toList
   ·have e2 := bytes_ext h2
    rw [if_pos h2]
    congr 1
    refine decide_eq_decide.2 ?_
    have := SL.irrefl y.f2
    rw [e2]
    constructor
    ·intro h
     exact .inr ⟨h0, .inr ⟨h1, .inr ⟨rfl, h⟩⟩⟩
    ·rintro (h | ⟨_, h | ⟨_, h | ⟨_, h⟩⟩⟩)
     ·omega
     ·omega
     ·exact absurd h this
     ·exact h
   ·rw [if_neg h2, bytesLess_eq]
    congr 1
    refine decide_eq_decide.2 ?_
    constructor
    ·intro h
     exact .inr ⟨h0, .inr ⟨h1, .inl h⟩⟩
    ·rintro (h | ⟨_, h | ⟨_, h | ⟨h, _⟩⟩⟩)
     ·omega
     ·omega
     ·exact h
     ·exact absurd (by rw [h]) h2
  ·rw [if_neg h1]
   congr 1
   refine decide_eq_decide.2 ?_
   constructor
   ·intro h
    exact .inr ⟨h0, .inl h⟩
   ·rintro (h | ⟨_, h | ⟨h, _⟩⟩)
    ·omega
    ·exact h
    ·exact absurd h h1
 ·rw [if_neg h0]
  congr 1
  refine decide_eq_decide.2 ?_
  constructor
  ·intro h
   exact .inl h
  ·rintro (h | ⟨h, _⟩)
   ·exact h
   ·exact absurd h h0
theorem eqT_iff (x y : Fa) : ((x.f0 == y.f0 && (x.f1 == y.f1 && (x.f2.toList == y.f2.toList && x.f3 == y.f3))) = true) ↔ x = y := by
 obtain ⟨a, b, c, d⟩ := x
 obtain ⟨a', b', c', d'⟩ := y
 simp only [Bool.and_eq_true, beq_iff_eq]
 constructor
 ·rintro ⟨h1, h2, h3, h4⟩
  rw [h1, h2, bytes_ext h3, h4]
 ·intro h
  injection h with h1 h2 h3 h4
  subst h1 h2 h3 h4
  exact ⟨rfl, rfl, rfl, rfl⟩
theorem pw_ins {l : List Fa} (hl : l.Pairwise LF) {f : Fa} {i : Nat} (h1 : ∀ x ∈ l.take i, LF x f) (h2 : ∀ x ∈ l.drop i, LF f x) : (l.take i ++ ([f] ++ l.drop i)).Pairwise LF := by
 have hp : (l.take i ++ l.drop i).Pairwise LF := by rw [List.take_append_drop]; exact hl
 obtain ⟨p1, p2, p3⟩ := List.pairwise_append.1 hp
 refine List.pairwise_append.2 ⟨p1, List.pairwise_append.2 ⟨List.pairwise_singleton _ _, p2, fun a ha b hb => ?_⟩, fun a ha b hb => ?_⟩
 ·obtain rfl := List.mem_singleton.1 ha
  exact h2 b hb
 ·rcases List.mem_append.1 hb with hb | hb
  ·obtain rfl := List.mem_singleton.1 hb
   exact h1 a ha
  ·exact p3 a ha b hb
def WithOk (l : List Fa) (f : Fa) (out : List Fa) : Prop := out.Pairwise LF ∧ ∀ x, x ∈ out ↔ x ∈ l ∨ x = f
theorem with_put (l : List Fa) (hl : l.Pairwise LF) (f : Fa) (hm : l.length ≤ 2000000000000) (i : Nat) (hi : i ≤ l.length) (h1 : ∀ x ∈ l.take i, LF x f) (h2 : ∀ x ∈ l.drop i, LF f x) :
  ∃ out, WithOk l f out ∧ Ev fun k => q8_With.j1 k l (i : Int) false f.f0 f.f1 f.f2 f.f3 = some out := by
 refine ⟨l.take i ++ ([f] ++ l.drop i), ⟨pw_ins hl h1 h2, fun x => ?_⟩, Ev.step fun k => ?_⟩
 ·rw [List.mem_append, List.mem_append, List.mem_singleton]
  have : x ∈ l ↔ x ∈ l.take i ∨ x ∈ l.drop i := by rw [← List.mem_append, List.take_append_drop]
  rw [this]
  constructor
  ·rintro (h | h | h)
   ·exact .inl (.inl h)
   ·exact .inr h
   ·exact .inl (.inr h)
  ·rintro ((h | h) | h)
   ·exact .inl h
   ·exact .inr (.inr h)
   ·exact .inr (.inl h)
 ·have e1 : (l.take i).length ≤ l.length := by rw [List.length_take]; omega
  have e2 : (l.take i).length + (l.drop i).length = l.length := by rw [← List.length_append, List.take_append_drop]
  rw [q8_With.j1, if_neg (by simp), if_pos (by omega), if_pos (by omega)]
  simp only [Option.bind_some, Int.toNat_natCast, List.nil_append, List.length_nil, Nat.zero_add]
  rw [if_pos (by omega), if_pos (by omega), if_pos (by simp only [List.length_append, List.length_singleton]; omega), List.append_assoc]
theorem with_loop8 (l : List Fa) (hl : l.Pairwise LF) (f : Fa) (hm : l.length ≤ 2000000000000) : ∀ i, i ≤ l.length → (∀ x ∈ l.drop i, LF f x) →
  ∃ out, WithOk l f out ∧ Ev fun k => q8_With.l0 k l (i : Int) f.f0 f.f1 f.f2 f.f3 = some out := by
 intro i
 induction i with
 | zero =>
  intro hi h2
  obtain ⟨out, ho, hk⟩ := with_put l hl f hm 0 hi (by simp) h2
  refine ⟨out, ho, hk.succ fun k hk => ?_⟩
  rw [q8_With.l0, if_neg (by omega)]
  exact hk
 | succ i ih =>
  intro hi h2
  have hw : wrap64 (((i + 1 : Nat) : Int) - 1) = (i : Int) := by unfold wrap64; omega
  have hd := drop_at l i z41 (by omega)
  have ht := take_at l i z41 (by omega)
  have hsp : (l.take (i + 1) ++ l.drop (i + 1)).Pairwise LF := by rw [List.take_append_drop]; exact hl
  obtain ⟨p1, p2, p3⟩ := List.pairwise_append.1 hsp
  have hmem : l.getD i z41 ∈ l := by rw [List.getD_eq_getElem?_getD, List.getElem?_eq_getElem (by omega : i < l.length)]; exact List.getElem_mem _
  by_cases hlt : LF (l.getD i z41) f
  ·obtain ⟨out, ho, hk⟩ := with_put l hl f hm (i + 1) hi (fun x hx => by
    rw [ht] at hx p1
    rcases List.mem_append.1 hx with hx | hx
    ·exact LF.trans ((List.pairwise_append.1 p1).2.2 x hx _ (List.mem_singleton.2 rfl)) hlt
    ·rw [List.mem_singleton.1 hx]
     exact hlt) h2
   refine ⟨out, ho, hk.succ fun k hk => ?_⟩
   rw [q8_With.l0, if_pos (by omega), hw, if_pos (by omega), if_pos (by omega), rdK_nat, before_tells, decide_eq_true hlt]
   simp only [Option.bind_some, Bool.not_true]
   exact hk
  ·by_cases he : l.getD i z41 = f
   ·refine ⟨l, ⟨hl, fun x => ⟨.inl, fun h => h.elim id (fun h => by rw [h, ← he]; exact hmem)⟩⟩, (Ev.step fun k => ?_ : Ev fun k => q8_With.j1 k l ((i + 1 : Nat) : Int) true f.f0 f.f1 f.f2 f.f3 = some l).succ fun k hk => ?_⟩
    ·rw [q8_With.j1, if_pos rfl, hw, if_pos (by omega), if_pos (by omega), rdK_nat, if_pos ((eqT_iff _ _).2 he)]
    ·rw [q8_With.l0, if_pos (by omega), hw, if_pos (by omega), if_pos (by omega), rdK_nat, before_tells, decide_eq_false hlt]
     simp only [Option.bind_some, Bool.not_false]
     exact hk
   ·have hgt : LF f (l.getD i z41) := by
     rcases LF.tri (l.getD i z41) f with h | h | h
     ·exact absurd h hlt
     ·exact absurd h he
     ·exact h
    obtain ⟨out, ho, hk⟩ := ih (by omega) (fun x hx => by
     rw [hd] at hx
     rcases List.mem_cons.1 hx with hx | hx
     ·rw [hx]
      exact hgt
     ·exact h2 x hx)
    have hk1 : Ev fun k => q8_With.j1 k l ((i + 1 : Nat) : Int) true f.f0 f.f1 f.f2 f.f3 = some out := hk.succ fun k hk => by
     rw [q8_With.j1, if_pos rfl, hw, if_pos (by omega), if_pos (by omega), rdK_nat, if_neg (fun h => he ((eqT_iff _ _).1 h))]
     exact hk
    refine ⟨out, ho, hk1.succ fun k hk => ?_⟩
    rw [q8_With.l0, if_pos (by omega), hw, if_pos (by omega), if_pos (by omega), rdK_nat, before_tells, decide_eq_false hlt]
    simp only [Option.bind_some, Bool.not_false]
    exact hk
theorem factSet_le (xs : List Fa) : (factSet xs).length ≤ xs.length := by
 have h := factSet_rises xs
 have hn : (factSet xs).Nodup := h.1.imp (fun {a b} hab e => by subst e; exact LF.irrefl _ hab)
 exact hn.length_le_of_subset (fun x hx => (h.2 x).1 hx)
theorem with_tells (L : List Fa) (f : Fa) (hn : L.length ≤ 1000000000000) : Ev fun k => q8_With.f k (factSet L) f.f0 f.f1 f.f2 f.f3 = some (factSet (L ++ [f])) := by
 have h := factSet_rises L
 have hl := factSet_le L
 obtain ⟨out, ho, hk⟩ := with_loop8 (factSet L) h.1 f (by omega) (factSet L).length (Nat.le_refl _) (by simp)
 have e : out = factSet (L ++ [f]) := rise_unique ho.1 (factSet_rises _).1 (fun x => by rw [ho.2, h.2, (factSet_rises _).2, List.mem_append, List.mem_singleton])
 rw [← e]
 exact hk
end Go.Proofs.Ytngppcmdaanheaa.Lu
namespace Go.Proofs.Ytngppcmdaanheaa.Lu
open Go.RowKit Go.Proofs.Ytngppcmdaanheaa.Ev Go.Proofs.Ytngppcmdaanheaa.Pr Go.Proofs.Ytngppcmdaanheaa.Ls Go.Proofs.Ytngppcmdaanheaa.Sets Go.Proofs.YtngppcmdaanheaaW.PrintWords Go.Proofs.YtngppcmdaanheaaW.PrintMore
open Go.Proofs.Ytngppcmdaanheaa.Rm (Leads mem_reachL reachL)
open Go.Proofs.Ytngppcmdaanheaa.Ref (withL withL_length withL_mem has_tells allL_mem allL_rising allL_sset allL_cons sset_rising)
set_option linter.unusedVariables false
set_option linter.unusedSimpArgs false
def keyOk (l : List Fa) : Prop := ∀ f ∈ l, f.f0 ≠ 3 → f.f2 = (⟨#[]⟩ : ByteArray)
theorem bsL_drop (l : List Fa) (kind a : Int) (i : Nat) (h : i < l.length) : bsL (l.drop i) kind a = if (l.getD i z41).f0 = kind ∧ (l.getD i z41).f1 = a then (l.getD i z41).f3 :: bsL (l.drop (i + 1)) kind a else bsL (l.drop (i + 1)) kind a := by
 rw [drop_at l i z41 h]
 unfold bsL toldR
 rw [List.filter_cons]
 unfold isT
 by_cases h : (l.getD i z41).f0 = kind ∧ (l.getD i z41).f1 = a
 ·rw [if_pos (by simpa using h), if_pos h]
  rfl
 ·rw [if_neg (by simpa using h), if_neg h]
theorem bs_loop (l : List Fa) (kind a : Int) (hm : l.length ≤ 1000000) (d : Nat) : ∀ i (out : List Int), i + d = l.length → out.length ≤ i → Ev fun k => q4_bs.l0 k l kind a out (i : Int) = some (Ref.allL out (bsL (l.drop i) kind a)) := by
 induction d with
 | zero =>
  intro i out h ho
  refine Ev.step fun k => ?_
  rw [q4_bs.l0, if_neg (by omega), drop_len l i (by omega)]
  rfl
 | succ d ih =>
  intro i out h ho
  have hi : i < l.length := by omega
  have hd := bsL_drop l kind a i hi
  have hw := withL_length (l.getD i z41).f3 out
  by_cases c1 : (l.getD i z41).f0 = kind
  ·by_cases c2 : (l.getD i z41).f1 = a
   ·refine (((Ref.with_tells out (l.getD i z41).f3 (by omega)).and (ih (i + 1) (withL out (l.getD i z41).f3) (by omega) (by omega))).succ (q := fun k => q4_bs.j1 k l kind a out (i : Int) true = some (Ref.allL out (bsL (l.drop i) kind a))) fun k hk => ?_).succ fun k hk => ?_
    ·rw [q4_bs.j1, if_pos rfl, if_pos (by omega), if_pos (by omega), rdK_nat, hk.1, Option.bind_some, wrap_nat i (by omega), hk.2, hd, if_pos ⟨c1, c2⟩, allL_cons]
    ·rw [q4_bs.l0, if_pos (by omega), if_pos (by omega), rdK_nat, if_pos c1, show ((l.getD i z41).f1 == a) = true by simpa using c2, hk]
   ·refine ((ih (i + 1) out (by omega) (by omega)).succ (q := fun k => q4_bs.j1 k l kind a out (i : Int) false = some (Ref.allL out (bsL (l.drop i) kind a))) fun k hk => ?_).succ fun k hk => ?_
    ·rw [q4_bs.j1, if_neg (by decide), wrap_nat i (by omega), hk, hd, if_neg (fun h => c2 h.2)]
    ·rw [q4_bs.l0, if_pos (by omega), if_pos (by omega), rdK_nat, if_pos c1, show ((l.getD i z41).f1 == a) = false by simpa using c2, hk]
  ·refine ((ih (i + 1) out (by omega) (by omega)).succ (q := fun k => q4_bs.j1 k l kind a out (i : Int) false = some (Ref.allL out (bsL (l.drop i) kind a))) fun k hk => ?_).succ fun k hk => ?_
   ·rw [q4_bs.j1, if_neg (by decide), wrap_nat i (by omega), hk, hd, if_neg (fun h => c1 h.1)]
   ·rw [q4_bs.l0, if_pos (by omega), if_pos (by omega), rdK_nat, if_neg c1, hk]
theorem mem_bsL {l : List Fa} {kind a x : Int} : x ∈ bsL l kind a ↔ ∃ f ∈ l, f.f0 = kind ∧ f.f1 = a ∧ f.f3 = x := by
 unfold bsL toldR isT
 simp only [List.mem_map, List.mem_filter, decide_eq_true_iff]
 constructor
 ·rintro ⟨f, ⟨h1, h2, h3⟩, h4⟩
  exact ⟨f, h1, h2, h3, h4⟩
 ·rintro ⟨f, h1, h2, h3, h4⟩
  exact ⟨f, ⟨h1, h2, h3⟩, h4⟩
theorem bsL_rising {l : List Fa} (hs : l.Pairwise LF) (hk : keyOk l) {kind a : Int} (hne : kind ≠ 3) : (bsL l kind a).Pairwise (· < ·) := by
 unfold bsL toldR
 rw [List.pairwise_map]
 have hp : (l.filter (isT kind a)).Pairwise LF := hs.filter _
 refine List.Pairwise.imp_of_mem (fun {x y} hx hy h => ?_) hp
 obtain ⟨x1, x2⟩ := List.mem_filter.1 hx
 obtain ⟨y1, y2⟩ := List.mem_filter.1 hy
 unfold isT at x2 y2
 simp only [decide_eq_true_iff] at x2 y2
 have e1 := hk x x1 (by omega)
 have e2 := hk y y1 (by omega)
 rcases h with h | ⟨_, h | ⟨_, h | ⟨_, h⟩⟩⟩
 ·omega
 ·omega
 ·rw [e1, e2] at h
  exact absurd h (SL.irrefl _)
 ·exact h
theorem bs_tells (l : List Fa) (hs : l.Pairwise LF) (hk : keyOk l) (hm : l.length ≤ 1000000) (kind a : Int) (hne : kind ≠ 3) : Ev fun k => q4_bs.f k l kind a = some (bsL l kind a) := by
 refine (bs_loop l kind a hm l.length 0 [] (by omega) (by simp)).mono fun k h => ?_
 rw [q4_bs.f, show (0 : Int) = ((0 : Nat) : Int) from rfl, h, List.drop_zero, allL_sset, sset_rising (bsL_rising hs hk hne)]
/-! ### load -/
def addC (c : List Int) (ps : List Int) : List Int := ps.foldl (fun c x => if c.contains x = true then c else c ++ [x]) c
theorem addC_sub (ps : List Int) : ∀ (c : List Int) {x : Int}, x ∈ c → x ∈ addC c ps := by
 induction ps with
 | nil => intro c x h; exact h
 | cons p ps ih =>
  intro c x h
  show x ∈ addC (if c.contains p = true then c else c ++ [p]) ps
  refine ih _ ?_
  split
  ·exact h
  ·exact List.mem_append_left _ h
theorem addC_mem (ps : List Int) : ∀ (c : List Int) (x : Int), x ∈ addC c ps ↔ x ∈ c ∨ x ∈ ps := by
 induction ps with
 | nil => intro c x; simp [addC]
 | cons p ps ih =>
  intro c x
  show x ∈ addC (if c.contains p = true then c else c ++ [p]) ps ↔ _
  rw [ih, List.mem_cons]
  by_cases h : c.contains p = true
  ·rw [if_pos h]
   have hp : p ∈ c := by simpa using h
   constructor
   ·rintro (h | h)
    ·exact .inl h
    ·exact .inr (.inr h)
   ·rintro (h | h | h)
    ·exact .inl h
    ·exact .inl (h ▸ hp)
    ·exact .inr h
  ·rw [if_neg h, List.mem_append, List.mem_singleton]
   constructor
   ·rintro ((h | h) | h)
    ·exact .inl h
    ·exact .inr (.inl h)
    ·exact .inr (.inr h)
   ·rintro (h | h | h)
    ·exact .inl (.inl h)
    ·exact .inl (.inr h)
    ·exact .inr h
theorem addC_nodup (ps : List Int) : ∀ (c : List Int), c.Nodup → (addC c ps).Nodup := by
 induction ps with
 | nil => intro c h; exact h
 | cons p ps ih =>
  intro c h
  show (addC (if c.contains p = true then c else c ++ [p]) ps).Nodup
  refine ih _ ?_
  split
  ·exact h
  ·rename_i hc
   refine List.nodup_append.2 ⟨h, by simp, fun a ha b hb e => ?_⟩
   obtain rfl := List.mem_singleton.1 hb
   subst e
   exact hc (by simpa using ha)
theorem addC_pre (ps : List Int) : ∀ (c : List Int), c <+: addC c ps := by
 induction ps with
 | nil => intro c; exact List.prefix_refl _
 | cons p ps ih =>
  intro c
  show c <+: addC (if c.contains p = true then c else c ++ [p]) ps
  refine List.IsPrefix.trans ?_ (ih _)
  split
  ·exact List.prefix_refl _
  ·exact List.prefix_append _ _
theorem addC_cons (c : List Int) (p : Int) (ps : List Int) : addC c (p :: ps) = addC (if c.contains p = true then c else c ++ [p]) ps := rfl
theorem chain_in (l : List Fa) (key : ByteArray) (any : Bool) (i : Nat) (hi : i + 1 ≤ 9223372036854775807) (ps : List Int) (r : List Int) (hp : ps.length ≤ 1000000) (d : Nat) : ∀ j c, j + d = ps.length → c.length ≤ 1000002 + j →
  (Ev fun k => q4_load.l0 k l key any (addC c (ps.drop j)) ((i + 1 : Nat) : Int) = some r) → Ev fun k => q4_load.l1 k l key any c (i : Int) ps (j : Int) = some r := by
 induction d with
 | zero =>
  intro j c h hc hk
  refine hk.succ fun k hk => ?_
  rw [drop_len ps j (by omega)] at hk
  rw [q4_load.l1, if_neg (by omega), wrap_nat i hi]
  exact hk
 | succ d ih =>
  intro j c h hc hk
  rw [drop_at ps j 0 (by omega), addC_cons] at hk
  by_cases hb : c.contains (ps.getD j 0) = true
  ·rw [if_pos hb] at hk
   refine ((has_tells c (ps.getD j 0) (by omega)).and (ih (j + 1) c (by omega) (by omega) hk)).succ fun k hk => ?_
   rw [q4_load.l1, if_pos (by omega), if_pos (by omega), rd_nat, hk.1, Option.bind_some, if_pos hb, wrap_nat j (by omega)]
   exact hk.2
  ·rw [if_neg hb] at hk
   refine ((has_tells c (ps.getD j 0) (by omega)).and (ih (j + 1) (c ++ [ps.getD j 0]) (by omega) (by simp; omega) hk)).succ fun k hk => ?_
   rw [q4_load.l1, if_pos (by omega), if_pos (by omega), rd_nat, hk.1, Option.bind_some, if_neg hb, if_pos (by omega), wrap_nat j (by omega)]
   exact hk.2
structure CInv (m : Int) (es : List (Int × Int)) (c : List Int) (i : Nat) : Prop where
 nd : c.Nodup
 st : m ∈ c
 sound : ∀ x ∈ c, Leads m es x
 shut : ∀ x ∈ c.take i, ∀ y, (x, y) ∈ es → y ∈ c
theorem leads_in {m : Int} {es : List (Int × Int)} {x : Int} (h : Leads m es x) : x = m ∨ ∃ a, (a, x) ∈ es := by
 cases h with
 | zero => exact .inl rfl
 | step _ h => exact .inr ⟨_, h⟩
theorem CInv.len {m : Int} {es : List (Int × Int)} {c : List Int} {i : Nat} (h : CInv m es c i) : c.length ≤ es.length + 1 := by
 have h1 := h.nd.length_le_of_subset (l₂ := m :: es.map (·.2)) (fun x hx => by
  rcases leads_in (h.sound x hx) with e | ⟨a, ha⟩
  ·rw [e]; exact List.mem_cons_self ..
  ·exact List.mem_cons_of_mem _ (List.mem_map.2 ⟨_, ha, rfl⟩))
 simpa using h1
theorem CInv.full {m : Int} {es : List (Int × Int)} {c : List Int} {i : Nat} (h : CInv m es c i) (hi : c.length ≤ i) (x : Int) : x ∈ c ↔ Leads m es x := by
 refine ⟨h.sound x, fun hx => ?_⟩
 induction hx with
 | zero => exact h.st
 | step _ he ih => exact h.shut _ (by rw [List.take_of_length_le hi]; exact ih) _ he
theorem chain_out (l : List Fa) (hs : l.Pairwise LF) (hk : keyOk l) (hm : l.length ≤ 900000) (m : Int) (key : ByteArray) (any : Bool) (r : List Int)
  (hr : ∀ c, (∀ x, x ∈ c ↔ Leads m (prE l) x) → c.length ≤ 1000000 → Ev fun k => q4_load.l2 k l key any c [] 0 = some r) (d : Nat) : ∀ i c, l.length + 2 ≤ i + d → i ≤ c.length → CInv m (prE l) c i →
  Ev fun k => q4_load.l0 k l key any c (i : Int) = some r := by
 have hpl := prE_le l
 induction d with
 | zero =>
  intro i c h hi hc
  have := hc.len
  omega
 | succ d ih =>
  intro i c h hi hc
  have hcl := hc.len
  by_cases hlt : i < c.length
  ·have hbl := bsL_le l 4 (c.getD i 0)
   have hci : CInv m (prE l) (addC c (bsL l 4 (c.getD i 0))) (i + 1) := by
    have hmem : c.getD i 0 ∈ c := by rw [List.getD_eq_getElem?_getD, List.getElem?_eq_getElem hlt]; exact List.getElem_mem _
    refine ⟨addC_nodup _ _ hc.nd, addC_sub _ _ hc.st, fun x hx => ?_, fun x hx y hy => ?_⟩
    ·rcases (addC_mem _ _ _).1 hx with hx | hx
     ·exact hc.sound x hx
     ·obtain ⟨f, h1, h2, h3, h4⟩ := mem_bsL.1 hx
      exact .step (hc.sound _ hmem) ((mem_prE l _ _).2 ⟨f, h1, h2, h3, h4⟩)
    ·obtain ⟨t, ht⟩ := addC_pre (bsL l 4 (c.getD i 0)) c
     rw [← ht, List.take_append_of_le_length (by omega), take_at c i 0 hlt] at hx
     rcases List.mem_append.1 hx with hx | hx
     ·exact addC_sub _ _ (hc.shut x hx y hy)
     ·obtain rfl := List.mem_singleton.1 hx
      obtain ⟨f, h1, h2, h3, h4⟩ := (mem_prE l _ _).1 hy
      exact (addC_mem _ _ _).2 (.inr (mem_bsL.2 ⟨f, h1, h2, h3, h4⟩))
   have hlen := hci.len
   have h1 := chain_in l key any i (by omega) (bsL l 4 (c.getD i 0)) r (by omega) _ 0 c (Nat.zero_add _) (by omega) (by
    rw [List.drop_zero]
    refine ih (i + 1) _ (by omega) ?_ hci
    have := (addC_pre (bsL l 4 (c.getD i 0)) c).length_le
    omega)
   refine ((bs_tells l hs hk (by omega) 4 (c.getD i 0) (by omega)).and h1).succ fun k hk => ?_
   rw [q4_load.l0, if_pos (by omega), if_pos (by omega), rd_nat, hk.1, Option.bind_some]
   exact hk.2
  ·refine (hr c (hc.full (by omega)) (by omega)).succ fun k hk => ?_
   rw [q4_load.l0, if_neg (by omega)]
   exact hk
def askOk (key : ByteArray) (any : Bool) (s : ByteArray) : Bool := any || decide (s = key)
def gotL (l : List Fa) (p : ByteArray → Bool) (c : List Int) : List Int := (l.filter (fun f => decide (f.f1 ∈ c) && okL p f)).map (·.f3)
theorem gotL_drop (l : List Fa) (p : ByteArray → Bool) (c : List Int) (i : Nat) (h : i < l.length) : gotL (l.drop i) p c = if (decide ((l.getD i z41).f1 ∈ c) && okL p (l.getD i z41)) = true then (l.getD i z41).f3 :: gotL (l.drop (i + 1)) p c else gotL (l.drop (i + 1)) p c := by
 rw [drop_at l i z41 h]
 unfold gotL
 rw [List.filter_cons]
 split <;> rfl
theorem got_loop (l : List Fa) (hm : l.length ≤ 900000) (key : ByteArray) (any : Bool) (c : List Int) (hc : c.length ≤ 1000000) (d : Nat) : ∀ i (out : List Int), i + d = l.length → out.length ≤ i →
  Ev fun k => q4_load.l2 k l key any c out (i : Int) = some (Ref.allL out (gotL (l.drop i) (askOk key any) c)) := by
 induction d with
 | zero =>
  intro i out h ho
  refine Ev.step fun k => ?_
  rw [q4_load.l2, if_neg (by omega), drop_len l i (by omega)]
  rfl
 | succ d ih =>
  intro i out h ho
  have hi : i < l.length := by omega
  have hd := gotL_drop l (askOk key any) c i hi
  generalize hf : l.getD i z41 = f at *
  have hw := withL_length f.f3 out
  have hyes : (decide (f.f1 ∈ c) && okL (askOk key any) f) = true → Ev fun k => q4_load.j3 k l key any c out (i : Int) true = some (Ref.allL out (gotL (l.drop i) (askOk key any) c)) := fun hok => by
   refine ((Ref.with_tells out f.f3 (by omega)).and (ih (i + 1) (withL out f.f3) (by omega) (by omega))).succ fun k hk => ?_
   rw [q4_load.j3, if_pos rfl, if_pos (by omega), if_pos (by omega), rdK_nat, hf, hk.1, Option.bind_some, wrap_nat i (by omega), hk.2, hd, if_pos hok, allL_cons]
  have hno : ¬ (decide (f.f1 ∈ c) && okL (askOk key any) f) = true → Ev fun k => q4_load.j3 k l key any c out (i : Int) false = some (Ref.allL out (gotL (l.drop i) (askOk key any) c)) := fun hok => by
   refine (ih (i + 1) out (by omega) (by omega)).succ fun k hk => ?_
   rw [q4_load.j3, if_neg (by decide), wrap_nat i (by omega), hk, hd, if_neg hok]
  have hh := has_tells c f.f1 (by omega)
  have hcc : c.contains f.f1 = decide (f.f1 ∈ c) := by simp
  rw [hcc] at hh
  by_cases hin : f.f1 ∈ c
  ·rw [decide_eq_true hin] at hh hyes hno
   have h0 : ∀ k, q4_load.l2 (k + 1) l key any c out (i : Int) = (q1_Has.f k c f.f1).bind fun t => (if t = true then (if f.f0 = 8 then (q4_load.j3 k l key any c out (i : Int) true) else (if f.f0 = 3 then (if any = true then (q4_load.j3 k l key any c out (i : Int) true) else (q4_load.j3 k l key any c out (i : Int) ((f.f2).toList == key.toList))) else (q4_load.j3 k l key any c out (i : Int) false))) else (q4_load.j3 k l key any c out (i : Int) false)) := fun k => by
    rw [q4_load.l2, if_pos (by omega), if_pos (by omega), rdK_nat, hf]
   by_cases h8 : f.f0 = 8
   ·refine (hh.and (hyes (by simp [okL, h8]))).succ fun k hk => ?_
    rw [h0, hk.1, Option.bind_some, if_pos rfl, if_pos h8]
    exact hk.2
   ·by_cases h3 : f.f0 = 3
    ·by_cases ha : any = true
     ·refine (hh.and (hyes (by simp [okL, h3, askOk, ha]))).succ fun k hk => ?_
      rw [h0, hk.1, Option.bind_some, if_pos rfl, if_neg h8, if_pos h3, if_pos ha]
      exact hk.2
     ·have ha' : any = false := by simpa using ha
      by_cases hs : f.f2 = key
      ·refine (hh.and (hyes (by simp [okL, h3, askOk, ha', hs]))).succ fun k hk => ?_
       rw [h0, hk.1, Option.bind_some, if_pos rfl, if_neg h8, if_pos h3, if_neg ha, show (f.f2.toList == key.toList) = true by simp [hs]]
       exact hk.2
      ·refine (hh.and (hno (by simp [okL, h3, askOk, ha', hs]))).succ fun k hk => ?_
       rw [h0, hk.1, Option.bind_some, if_pos rfl, if_neg h8, if_pos h3, if_neg ha, show (f.f2.toList == key.toList) = false by simpa using fun e => hs (bytes_ext e)]
       exact hk.2
    ·refine (hh.and (hno (by simp [okL, h8, h3]))).succ fun k hk => ?_
     rw [h0, hk.1, Option.bind_some, if_pos rfl, if_neg h8, if_neg h3]
     exact hk.2
  ·rw [decide_eq_false hin] at hh hno
   refine (hh.and (hno (by simp))).succ fun k hk => ?_
   rw [q4_load.l2, if_pos (by omega), if_pos (by omega), rdK_nat, hf, hk.1, Option.bind_some, if_neg (by decide)]
   exact hk.2
theorem load_tells (l : List Fa) (hs : l.Pairwise LF) (hk : keyOk l) (hm : l.length ≤ 900000) (m : Int) (key : ByteArray) (any : Bool) :
  ∃ ys : List Int, (∀ x, x ∈ ys ↔ x ∈ loadsL l (askOk key any) m) ∧ ys.length ≤ (loadsL l (askOk key any) m).length ∧ Ev fun k => q4_load.f k l m key any = some ys := by
 refine ⟨Ref.allL [] (loadsL l (askOk key any) m), fun x => by rw [allL_mem]; simp, ?_, ?_⟩
 ·have h1 := Ref.allL_length [] (loadsL l (askOk key any) m)
  rw [List.length_nil] at h1
  omega
 ·refine chain_out l hs hk hm m key any _ (fun c hc hl => ?_) (l.length + 2) 0 [m] (by omega) (by simp) ⟨by simp, by simp, fun x hx => by rw [List.mem_singleton.1 hx]; exact .zero, by simp⟩
  refine (got_loop l hm key any c hl l.length 0 [] (by omega) (by simp)).mono fun k h => ?_
  rw [show (0 : Int) = ((0 : Nat) : Int) from rfl, h, List.drop_zero]
  congr 2
  unfold gotL loadsL
  congr 1
  refine List.filter_congr (fun f _ => ?_)
  congr 1
  exact decide_eq_decide.2 ((hc _).trans (mem_reachL m (prE l) _).symm)
end Go.Proofs.Ytngppcmdaanheaa.Lu
namespace Go.Proofs.Ytngppcmdaanheaa.Lu
open Go.RowKit Go.Maps Go.Proofs.Ytngppcmdaanheaa.Iter Go.Proofs.Ytngppcmdaanheaa.ISet Go.Proofs.Ytngppcmdaanheaa.Pr Go.Proofs.Ytngppcmdaanheaa.Ls Go.Proofs.Ytngppcmdaanheaa.Ext Go.Proofs.YtngppcmdaanheaaW.PrintWords Go.Proofs.YtngppcmdaanheaaW.PrintLast Go.Proofs.YtngppcmdaanheaaW.PrintMore
set_option linter.unusedVariables false
set_option linter.unusedSimpArgs false
attribute [local go_sem] Oper.semAt_some
def askT3 : Bool × List (List Nat × List Nat) := (true, [([], []), ([], []), ([1], [1]), ([2], [2]), ([3], [3]), ([], []), ([], []), ([], []), ([], []), ([], []), ([8, 9], [8, 9]), ([10], [10]), ([5, 6, 7, 11], [5, 6, 7, 11]), ([4, 12], [4, 12]), ([0, 0, 1, 2, 3, 4, 5, 6, 7, 8, 9, 10, 11, 12, 13], [0]), ([14, 0, 1, 2, 3, 4, 5, 6, 7, 8, 9, 10, 11, 12, 13], [14]), ([15, 13, 13, 0, 1, 2, 3, 4, 5, 6, 7, 8, 9, 10, 11, 12, 13], [13, 15])])
def askB3 : List Nat := [0, 0, 2, 6, 14, 0, 0, 0, 0, 0, 768, 1792, 4064, 8190, 16383, 32767, 65535]
theorem asktab3 : rtab .any (opsOf Try.f26 3) = askT3 := by kernel_rfl
theorem askbits3 : waitsOk askT3.2 askB3 = true := by kernel_rfl
def cellsR (r : Ro) (A : Option Addr) (n c : Nat) : Array Value := #[.int .i64 r.s0, .slice r.A1 r.fs.length r.c1, .slice r.A2 r.rs.length r.c2, .slice r.A3 r.l.length r.c3, .slice A n c]
structure RR (r : Ro) (w0 : World) : Prop where
  low : w0.heap.size ≤ r.Br
  hf : Kd.C k44 w0 r.A1 r.fs.length r.fs
  hr : Kd.C k46 w0 r.A2 r.rs.length r.rs
  hl : Kd.C k41 w0 r.A3 r.l.length r.l
  cl : r.l.length ≤ r.c3
structure LoR (r : Ro) (w0 : World) : Prop where
  low : w0.heap.size ≤ r.Br
structure SR (r : Ro) (w0 : World) (L : List Fa) (W1 W : World) : Prop where
  lo : LoR r w0
  bel : Below w0.heap.size w0 W
  box : ∃ Ao co, W.heap[r.Br]? = some (.cells (cellsR r Ao (factSet L).length co) 53 (0, 0)) ∧ Kd.V k41 41 W 0 (fun k => w0.heap.size ≤ k ∧ k ≠ r.Br) (.slice Ao (factSet L).length co) (factSet L)
  box1 : ∃ A n c, W1.heap[r.Br]? = some (.cells (cellsR r A n c) 53 (0, 0))
  ch : Chg (fun i => i = r.Br) W1 W
def SRx (r : Ro) (w0 W1 W : World) : Prop := ∃ L, SR r w0 L W1 W
section
variable {r : Ro} {w0 W1 W W' : World} {L R : List Fa} {n : Nat}
theorem SR.x (h : SR r w0 L W1 W) : SRx r w0 W1 W := ⟨L, h⟩
theorem SR.lt (h : SR r w0 L W1 W) : r.Br < W.heap.size := by
  obtain ⟨_, _, h1, _⟩ := h.box
  exact (Array.getElem?_eq_some_iff.1 h1).1
theorem SR.quiet (h : SR r w0 L W1 W) (hb : Below W.heap.size W W') : SR r w0 L W1 W' := by
  have hlt := h.lt
  obtain ⟨Ao, co, h1, h2⟩ := h.box
  exact ⟨h.lo, below_then h.bel h.bel.size hb, ⟨Ao, co, (hb.block _ hlt).trans h1, Kd.V_below h2 hb⟩, h.box1, h.ch.then_below hb⟩
theorem SR.frz (h : SR r w0 L W1 W) {j : Nat} : W.frozen? ⟨r.Br, j, none⟩ = false := by
  obtain ⟨_, _, h1, _⟩ := h.box
  simp [World.frozen?, h1]
theorem SR.here (h : SR r w0 L W1 W) : SR r w0 L W W := by
  obtain ⟨Ao, co, h1, h2⟩ := h.box
  exact ⟨h.lo, h.bel, h.box, ⟨_, _, _, h1⟩, Chg.refl _ _⟩
theorem SRx.rebase {W0 : World} (h0 : SRx r w0 W0 W1) (h : SR r w0 L W1 W) : SR r w0 L W0 W := by
  obtain ⟨_, h0⟩ := h0
  exact ⟨h.lo, h.bel, h.box, h0.box1, h0.ch.then_ h.ch⟩
theorem SRx.then_ {W0 : World} (h0 : SRx r w0 W0 W1) (h : SRx r w0 W1 W) : SRx r w0 W0 W := by
  obtain ⟨_, h⟩ := h
  exact ⟨_, h0.rebase h⟩
theorem SRx.then_below (h : SRx r w0 W1 W) (hb : Below W.heap.size W W') : SRx r w0 W1 W' := by
  obtain ⟨_, h⟩ := h
  exact ⟨_, h.quiet hb⟩
theorem SRx.flds (h : SRx r w0 W1 W) : W.cell? ⟨r.Br, 0, none⟩ = some (.int .i64 r.s0) ∧ W.cell? ⟨r.Br, 1, none⟩ = some (.slice r.A1 r.fs.length r.c1) ∧ W.cell? ⟨r.Br, 2, none⟩ = some (.slice r.A2 r.rs.length r.c2) ∧ W.cell? ⟨r.Br, 3, none⟩ = some (.slice r.A3 r.l.length r.c3) := by
  obtain ⟨_, h⟩ := h
  obtain ⟨Ao, co, h1, _⟩ := h.box
  simp [World.cell?, h1, cellsR]
theorem SRx.bel (h : SRx r w0 W1 W) : Below w0.heap.size w0 W := by
  obtain ⟨_, h⟩ := h
  exact h.bel
theorem SRx.cell (h : SRx r w0 W1 W) {a : Addr} {v : Value} (hv : W1.cell? a = some v) (hne : a.block ≠ r.Br) : W.cell? a = some v := by
  obtain ⟨_, h⟩ := h
  exact h.ch.cell hv hne
theorem SRx.intCell (h : SRx r w0 W1 W) {a : Addr} {k : IntKind} {x : Int} (hv : W1.cell? a = some (.int k x)) : W.cell? a = some (.int k x) := by
  obtain ⟨L, h⟩ := h
  by_cases e : a.block = r.Br
  · obtain ⟨A, n, c, h1⟩ := h.box1
    obtain ⟨Ao, co, h2, _⟩ := h.box
    obtain ⟨b, o, sp⟩ := a
    dsimp only at e
    subst e
    unfold World.cell? at hv ⊢
    simp only [h1, h2] at hv ⊢
    split at hv
    · cases hv
    · rename_i hs
      rw [if_neg hs]
      match o, hv with
      | 0, hv => exact hv
      | 1, hv => simp [cellsR] at hv
      | 2, hv => simp [cellsR] at hv
      | 3, hv => simp [cellsR] at hv
      | 4, hv => simp [cellsR] at hv
      | o + 5, hv => simp [cellsR] at hv
  · exact h.ch.cell hv e
theorem SRx.ints (h : SRx r w0 W1 W) {A : Option Addr} {m : Nat} {xs : List Int} (hc : Kd.C (Kd.int .i64) W1 A m xs) : Kd.C (Kd.int .i64) W A m xs :=
  ⟨hc.1, hc.2.1, fun hn => by
    obtain ⟨ad, e, hx⟩ := hc.2.2 hn
    refine ⟨ad, e, fun j p hp => ?_⟩
    obtain ⟨c, h1, h2, h3⟩ := hx j p hp
    refine ⟨c, h1, h2, fun i u hu => ?_⟩
    obtain rfl : c = [.int .i64 p] := h2
    match i, hu with
    | 0, hu => obtain rfl : Value.int .i64 p = u := by simpa using hu
               exact h.intCell (h3 0 _ rfl)
    | i + 1, hu => simp at hu⟩
theorem with_calls {Ao : Option Addr} {co : Nat} {ok : Nat → Prop} {f : Fa} (hv : Kd.V k41 41 W 0 ok (.slice Ao (factSet L).length co) (factSet L)) (hn : L.length ≤ 1000000000000) :
    Calls Try.prog 25 #[.slice Ao (factSet L).length co, .agg #[.int .i64 f.f0, .int .i64 f.f1, .string f.f2, .int .i64 f.f3]] W fun e W' => ∃ A2 c2, e = .returned (.slice A2 (factSet (L ++ [f])).length c2) ∧ Kd.V k41 41 W' 0 (fun k => ok k ∨ W.heap.size ≤ k) (.slice A2 (factSet (L ++ [f])).length c2) (factSet (L ++ [f])) ∧ Below W.heap.size W W' := by
  obtain ⟨k, hk⟩ := (with_tells L f hn).ex
  refine (q8_With.calls k ok Ao co (factSet L) f.f0 f.f1 f.f2 f.f3 (factSet (L ++ [f])) W hv hk).mono ?_
  rintro e W' ⟨v, rfl, h1, h2⟩
  obtain ⟨A2, c2, rfl⟩ := Kd.V_slice h1
  exact ⟨A2, c2, rfl, h1, h2⟩
end
theorem SR.put {r : Ro} {w0 W1 W Wd W8 : World} {L : List Fa} {f : Fa} {A2 : Option Addr} {c2 : Nat} (h : SR r w0 L W1 W) (hd : Below W.heap.size W Wd) (h8 : Below Wd.heap.size Wd W8)
    (hv : Kd.V k41 41 W8 0 (fun k => (w0.heap.size ≤ k ∧ k ≠ r.Br) ∨ Wd.heap.size ≤ k) (.slice A2 (factSet (L ++ [f])).length c2) (factSet (L ++ [f]))) :
    SR r w0 (L ++ [f]) W1 (W8.setCell ⟨r.Br, 4, none⟩ (.slice A2 (factSet (L ++ [f])).length c2)) := by
  have hq := h.quiet (below_step hd h8)
  have hlt : r.Br < Wd.heap.size := Nat.lt_of_lt_of_le h.lt hd.size
  obtain ⟨Ao, co, h1, _⟩ := hq.box
  obtain ⟨lo⟩ := h.lo
  refine ⟨⟨lo⟩, hq.bel.setCell (by simpa using lo) _, ⟨A2, c2, ?_, ?_⟩, hq.box1, hq.ch.setCell (.inl rfl) _⟩
  · exact blk_put h1 4 _ rfl
  · have hsz : w0.heap.size ≤ Wd.heap.size := Nat.le_trans h.bel.size hd.size
    refine Kd.V_far (Kd.V_mono hv (fun k hk => ?_)) (fun k hk => hk.2) _
    rcases hk with hk | hk
    · exact hk
    · exact ⟨Nat.le_trans hsz hk, fun e => by rw [e] at hk; exact absurd hk (Nat.not_le.2 hlt)⟩
theorem askL_take_succ (kind a : Int) (s : ByteArray) (xs : List Int) (j : Nat) (x : Int) (h : xs.take (j + 1) = xs.take j ++ [x]) : askL kind a s (xs.take (j + 1)) = askL kind a s (xs.take j) ++ [⟨kind, a, s, x⟩] := by
  rw [h]
  simp [askL]
set_option maxHeartbeats 4000000 in
set_option maxRecDepth 100000 in
theorem ask_calls {r : Ro} {w0 W1 W : World} {L : List Fa} (h : RR r w0) (hst : SR r w0 L W1 W) (kind a : Int) (s : ByteArray) (A : Option Addr) (c : Nat) (xs : List Int) (hC : Kd.C (Kd.int .i64) W A xs.length xs) (hn : L.length + xs.length ≤ 1000000000000) :
    Calls Try.prog 26 #[.pointer (some ⟨r.Br, 0, none⟩), .int .i64 kind, .int .i64 a, .string s, .slice A xs.length c] W fun e W' => e = .returned (.tuple #[]) ∧ SR r w0 (L ++ askL kind a s xs) W1 W' := by
  have HR := zm h
  have hxl := hC.2.1
  have HC := zm (show ∀ W', SRx r w0 W W' → Kd.C (Kd.int .i64) W' A xs.length xs from fun W' hx => hx.ints hC)
  have H1 := zm hst.x
  have HST := zm hst.here
  clear h hC hst
  go_enter Try.func26, Try.ntmps26
  go_wp2
  go_loopg [10] xs.length (fun kq v10 W_ => ∃ j : Nat, v10 = .int .i64 j ∧ j + kq = xs.length ∧ SR r w0 (L ++ askL kind a s (xs.take j)) W W_)
  case atStart => exact ⟨0, rfl, by omega, by rw [List.take_zero, askL, List.map_nil, List.append_nil]; exact HST.out⟩
  case round =>
    clear HST
    obtain ⟨j, rfl, hj, hst⟩ := hrel
    have HST := zm hst
    by_cases hlt : j < xs.length
    · obtain ⟨ad, rfl, hx⟩ := Kd.at_int (HC.out _ hst.x) (j : Int) (by omega) (by omega)
      rw [Int.toNat_natCast] at hx
      have hx' : rd xs (j : Int) = xs[j] := by unfold rd; rw [Int.toNat_natCast, List.getD_eq_getElem?_getD, List.getElem?_eq_getElem hlt]; rfl
      have HTK := zm (askL_take_succ kind a s xs j (rd xs (j : Int)) (by rw [hx', List.take_succ_eq_append_getElem hlt]))
      clear hx'
      generalize rd xs (j : Int) = x at *
      obtain ⟨Lj, hLj⟩ : ∃ Lj, Lj = L ++ askL kind a s (xs.take j) := ⟨_, rfl⟩
      have HLJ := zm hLj
      rw [← hLj] at HST hst
      have HWN := zm (show Lj.length ≤ 1000000000000 by rw [hLj, List.length_append, askL, List.length_map, List.length_take]; omega)
      obtain ⟨Ao, co, hbox, hv⟩ := hst.box
      have HLB := zm (show (⟨r.Br, 4, none⟩ : Addr).block < wr.heap.size from hst.lt)
      have HLA := zm (show (ad.add j).block < wr.heap.size by have := World.block_lt_of_cell? wr _ hx; simpa using this)
      obtain ⟨Wd, hWd⟩ : ∃ Wd, wr.drew = Wd := ⟨_, rfl⟩
      have hbd : Below wr.heap.size wr Wd := by rw [← hWd]; exact below_drew (Below.refl _ _)
      have HV := zm (Kd.V_below hv hbd)
      have HBX := zm hbox
      have HD4 := zm (show Wd.cell? ⟨r.Br, 4, none⟩ = some (.slice Ao (factSet Lj).length co) by rw [hbd.cell hst.lt]; simp [World.cell?, hbox, cellsR])
      have HDX := zm (show Wd.cell? (ad.add j) = some (.int .i64 x) from (hbd.cell HLA.out).trans hx)
      have HDB := zm hbd
      clear hLj hst hv hbox hx hbd
      go_wp2
      refine start_ (n := 17) (S := fun W' => W'.cell? ⟨r.Br, 4, none⟩ = some (.slice Ao (factSet Lj).length co) ∧ W'.cell? (ad.add j) = some (.int .i64 x) ∧ Below wr.heap.size wr W') (ds := [16]) #[false, false, false, false, false, false, false, false, false, false, false, false, false, false, false, false, false] (by kernel_rfl) rfl rfl (by rw [hWd]; exact ⟨HD4.out, HDX.out, HDB.out⟩) (fun hHeld => ?_)
      rw [hWd] at hHeld ⊢
      refine with_tabW asktab3 askbits3 (fun HT_ HW_ => ?_)
      refine zp 0 17 (h := ?_)
      refine zp 1 18 (h := ?_)
      refine zp 2 19 (h := ?_)
      refine zp 3 20 (h := ?_)
      refine zt 4 21 (hy := by
          intro w' hw'
          obtain ⟨d4, dx, _⟩ := hw'
          first | (go_simp; with_reducible rfl)) (h := ?_)
      refine zp 5 22 (h := ?_)
      refine zp 6 23 (h := ?_)
      refine zp 7 24 (h := ?_)
      refine zp 8 25 (h := ?_)
      refine zp 9 26 (h := ?_)
      refine zp 10 27 (h := ?_)
      refine zt 11 28 (hy := by
          intro w' hw'
          obtain ⟨d4, dx, _⟩ := hw'
          first | (go_simp; with_reducible rfl)) (h := ?_)
      refine zp 12 29 (h := ?_)
      refine zo 13 30 (h := fun K hK => ?_)
      refine zg Try.func25 #[.slice Ao (factSet Lj).length co, .agg #[.int .i64 kind, .int .i64 a, .string s, .int .i64 x]] (h := ?_)
      refine (with_calls (f := ⟨kind, a, s, x⟩) HV.out HWN.out).mono ?_
      rintro e W8 ⟨Ao2, co2, rfl, hv8, hb8⟩
      refine ⟨_, rfl, ?_⟩
      have HV8 := zm hv8
      have HB8 := zm hb8
      clear hv8
      refine hK.out _ _ ⟨(hb8.cell (Nat.lt_of_lt_of_le HLB.out HDB.out.size)).trans hHeld.1, (hb8.cell (Nat.lt_of_lt_of_le HLA.out HDB.out.size)).trans hHeld.2.1, below_step hHeld.2.2 hb8⟩ (fun hHeld => ?_)
      clear hK K
      refine zn (h := ?_)
      refine zp 14 31 (h := ?_)
      refine zp 15 32 (h := ?_)
      refine last_ (i := 16) (N := none) #[true, true, true, true, true, true, true, true, true, true, true, true, true, true, true, true, true] rfl rfl (one_of HT_.out (by kernel_rfl)) (by decide) (fun K hK => ?_)
      have hfz : W8.frozen? ⟨r.Br, 4, none⟩ = false := (HST.out.quiet (below_step HDB.out HB8.out)).frz
      obtain ⟨d4, _, _⟩ := hHeld
      refine skip_step (w1 := W8.setCell ⟨r.Br, 4, none⟩ (.slice Ao2 (factSet (Lj ++ [⟨kind, a, s, x⟩])).length co2)) (by rfl) (by first | (go_simp; done) | (go_simp; rfl)) ?_
      refine hK.out _ _ ?_
      clear hK K
      refine norm_ (a' := ?_) ?_ ?_
      rotate_left
      · show Act.put _ (none) _ = _
        simp only [Act.put, List.setIfInBounds_toArray, List.set_cons_zero, List.set_cons_succ, i64_w, i32_w]
        rfl
      refine done_ (done_of HT_.out (by kernel_rfl)) ?_
      have HSN := zm (HST.out.put HDB.out HB8.out HV8.out)
      go_wp2
      go_roundg (gk - 1)
      case measure => omega
      case rel => exact ⟨j + 1, by go_num, by omega, by rw [HTK.out, ← List.append_assoc, ← HLJ.out]; exact HSN.out⟩
    · obtain rfl : j = xs.length := by omega
      clear hst
      go_wp2
      go_end0
      rw [List.take_length] at HST
      exact ⟨rfl, H1.out.rebase HST.out⟩
end Go.Proofs.Ytngppcmdaanheaa.Lu
namespace Go.Proofs.Ytngppcmdaanheaa.Lu
open Go.RowKit Go.Maps Go.Proofs.Ytngppcmdaanheaa.Iter Go.Proofs.Ytngppcmdaanheaa.ISet Go.Proofs.Ytngppcmdaanheaa.Pr Go.Proofs.Ytngppcmdaanheaa.Ls Go.Proofs.Ytngppcmdaanheaa.Ext Go.Proofs.YtngppcmdaanheaaW.PrintWords Go.Proofs.YtngppcmdaanheaaW.PrintLast Go.Proofs.YtngppcmdaanheaaW.PrintMore
set_option linter.unusedVariables false
set_option linter.unusedSimpArgs false
theorem factSet_same {L L' : List Fa} (h : ∀ f, f ∈ L ↔ f ∈ L') : factSet L = factSet L' :=
 Ls.rise_unique (factSet_rises L).1 (factSet_rises L').1 (fun f => by rw [(factSet_rises L).2, (factSet_rises L').2, h])
section
variable {r : Ro} {w0 W1 W W' : World} {L R : List Fa} {n : Nat}
theorem SR.same {L' : List Fa} (h : SR r w0 L W1 W) (hs : ∀ f, f ∈ L ↔ f ∈ L') : SR r w0 L' W1 W := by
 obtain ⟨lo, bel, box, box1, ch⟩ := h
 rw [factSet_same hs] at box
 exact ⟨lo, bel, box, box1, ch⟩
structure LOk (r : Ro) : Prop where
 srt : r.l.Pairwise LF
 key : keyOk r.l
 len : r.l.length ≤ 900000
theorem sr_bs (h : RR r w0) (hst : SR r w0 L W1 W) (hl : LOk r) (kind a : Int) (hne : kind ≠ 3) :
  Calls Try.prog 27 #[.slice r.A3 r.l.length r.c3, .int .i64 kind, .int .i64 a] W fun e W' => ∃ A c, e = .returned (.slice A (bsL r.l kind a).length c) ∧ Kd.C (Kd.int .i64) W' A (bsL r.l kind a).length (bsL r.l kind a) ∧ SR r w0 L W1 W' := by
 obtain ⟨k, hk⟩ := (bs_tells r.l hl.srt hl.key (Nat.le_trans hl.len (by decide)) kind a hne).ex
 refine (q4_bs.calls k r.A3 r.c3 r.l kind a _ W (Kd.C_below h.hl hst.bel) h.cl hk).mono ?_
 rintro e W' ⟨v, rfl, hR, hb⟩
 obtain ⟨A, c, rfl, hlc, hC⟩ := Kd.R_reads hR
 exact ⟨A, c, rfl, hC, hst.quiet hb⟩
theorem sr_load (h : RR r w0) (hst : SR r w0 L W1 W) (hl : LOk r) (m : Int) (key : ByteArray) (any : Bool) :
  Calls Try.prog 30 #[.slice r.A3 r.l.length r.c3, .int .i64 m, .string key, .bool any] W fun e W' => ∃ A c ys, e = .returned (.slice A ys.length c) ∧ Kd.C (Kd.int .i64) W' A ys.length ys ∧ (∀ x, x ∈ ys ↔ x ∈ loadsL r.l (askOk key any) m) ∧ ys.length ≤ (loadsL r.l (askOk key any) m).length ∧ SR r w0 L W1 W' := by
 obtain ⟨ys, hm, hy, he⟩ := load_tells r.l hl.srt hl.key hl.len m key any
 obtain ⟨k, hk⟩ := he.ex
 refine (q4_load.calls k r.A3 r.c3 r.l m key any _ W (Kd.C_below h.hl hst.bel) h.cl hk).mono ?_
 rintro e W' ⟨v, rfl, hR, hb⟩
 obtain ⟨A, c, rfl, hlc, hC⟩ := Kd.R_reads hR
 exact ⟨A, c, ys, rfl, hC, hm, hy, hst.quiet hb⟩
theorem sr_in (h : RR r w0) (hst : SR r w0 L W1 W) (hl : LOk r) (a : Int) :
  Calls Try.prog 29 #[.pointer (some ⟨r.Br, 0, none⟩), .int .i64 a] W fun e W' => ∃ A c, e = .returned (.slice A (bsL r.l 9 a).length c) ∧ Kd.C (Kd.int .i64) W' A (bsL r.l 9 a).length (bsL r.l 9 a) ∧ SR r w0 L W1 W' := by
 have HA := zm (sr_bs h hst hl 9 a (by omega))
 obtain ⟨d0, d1, d2, d3⟩ := hst.x.flds
 clear h hst hl
 go_enter Try.func29, Try.ntmps29
 go_wp2_with (go_at_call 27; refine HA.out.mono ?_; rintro e w1 ⟨A, c, rfl, hC, hst⟩; have HC := zm hC; have HST := zm hst; clear hC hst)
 go_ret
 exact ⟨_, _, rfl, HC.out, HST.out⟩
theorem sr_asks (h : RR r w0) (hst : SR r w0 L W1 W) {kind a : Int} {s : ByteArray} {xs : List Int} (hg : Ls.Good n (L ++ (askL kind a s xs ++ R))) {A : Option Addr} {c m : Nat} (hm : m = xs.length) (hC : Kd.C (Kd.int .i64) W A xs.length xs) :
  Calls Try.prog 26 #[.pointer (some ⟨r.Br, 0, none⟩), .int .i64 kind, .int .i64 a, .string s, .slice A m c] W fun e W' => e = .returned (.tuple #[]) ∧ SR r w0 (L ++ askL kind a s xs) W1 W' ∧ Ls.Good n ((L ++ askL kind a s xs) ++ R) := by
 subst hm
 have h1 := hg.head.2
 have hl : (L ++ askL kind a s xs).length = L.length + xs.length := by simp [askL]
 refine (ask_calls h hst kind a s A c xs hC (by omega)).mono ?_
 rintro e W' ⟨rfl, hs⟩
 exact ⟨rfl, hs, hg.next⟩
theorem sr_ask1 (h : RR r w0) (hst : SR r w0 L W1 W) {kind a : Int} {s : ByteArray} {x : Int} (hg : Ls.Good n (L ++ (askL kind a s [x] ++ R))) {g : Nat} (hgb : g = W.heap.size) :
  Calls Try.prog 26 #[.pointer (some ⟨r.Br, 0, none⟩), .int .i64 kind, .int .i64 a, .string s, .slice (some ⟨g, 0, none⟩) 1 1] (W.alloc (.cells #[.int .i64 x] 3)) fun e W' => e = .returned (.tuple #[]) ∧ SR r w0 (L ++ askL kind a s [x]) W1 W' ∧ Ls.Good n ((L ++ askL kind a s [x]) ++ R) := by
 subst hgb
 exact sr_asks h (hst.quiet ((Below.refl _ W).alloc (Nat.le_refl _) _)) hg (A := some ⟨W.heap.size, 0, none⟩) (c := 1) rfl (C_one (cell_of_blk (heap_alloc_new _ _)).1)
theorem sr_asks_mem (h : RR r w0) (hst : SR r w0 L W1 W) {kind a : Int} {s : ByteArray} {xs ys : List Int} (hp : ∀ x, x ∈ ys ↔ x ∈ xs) (hy : ys.length ≤ xs.length) (hg : Ls.Good n (L ++ (askL kind a s xs ++ R))) {A : Option Addr} {c m : Nat} (hm : m = ys.length) (hC : Kd.C (Kd.int .i64) W A ys.length ys) :
  Calls Try.prog 26 #[.pointer (some ⟨r.Br, 0, none⟩), .int .i64 kind, .int .i64 a, .string s, .slice A m c] W fun e W' => e = .returned (.tuple #[]) ∧ SR r w0 (L ++ askL kind a s xs) W1 W' ∧ Ls.Good n ((L ++ askL kind a s xs) ++ R) := by
 subst hm
 have h1 := hg.head.2
 have hl : (L ++ askL kind a s xs).length = L.length + xs.length := by simp [askL]
 refine (ask_calls h hst kind a s A c ys hC (by omega)).mono ?_
 rintro e W' ⟨rfl, hs⟩
 refine ⟨rfl, hs.same (fun f => ?_), hg.next⟩
 rw [List.mem_append, List.mem_append]
 unfold askL
 simp only [List.mem_map, hp]
end
end Go.Proofs.Ytngppcmdaanheaa.Lu
namespace Go.Proofs.Ytngppcmdaanheaa.Lu
open Go.RowKit Go.Maps Go.Proofs.Ytngppcmdaanheaa.Iter Go.Proofs.Ytngppcmdaanheaa.ISet Go.Proofs.Ytngppcmdaanheaa.Pr Go.Proofs.Ytngppcmdaanheaa.Ls Go.Proofs.Ytngppcmdaanheaa.Ext Go.Proofs.YtngppcmdaanheaaW.PrintWords Go.Proofs.YtngppcmdaanheaaW.PrintLast Go.Proofs.YtngppcmdaanheaaW.PrintMore
set_option linter.unusedVariables false
set_option linter.unusedSimpArgs false
attribute [local go_sem] Oper.semAt_some
def rcdT12 : Bool × List (List Nat × List Nat) := (true, [([], []), ([], []), ([1], [1]), ([], []), ([2, 3], [2, 3]), ([4], [4]), ([], []), ([], []), ([6, 7], [6, 7]), ([0, 5, 8, 8], [0, 5, 8])])
def rcdB12 : List Nat := [0, 0, 2, 0, 14, 30, 0, 0, 192, 511]
theorem rcdtab12 : rtab .any (opsOf Try.f31 12) = rcdT12 := by kernel_rfl
theorem rcdbits12 : waitsOk rcdT12.2 rcdB12 = true := by kernel_rfl
def rcdT14 : Bool × List (List Nat × List Nat) := (true, [([], []), ([], []), ([1], [1]), ([], []), ([2, 3], [2, 3]), ([4], [4]), ([], []), ([], []), ([], []), ([7, 8], [7, 8]), ([9], [9]), ([6, 10], [6, 10]), ([0, 5, 11, 11], [0, 5, 11])])
def rcdB14 : List Nat := [0, 0, 2, 0, 14, 30, 0, 0, 0, 384, 896, 1984, 4095]
theorem rcdtab14 : rtab .any (opsOf Try.f31 14) = rcdT14 := by kernel_rfl
theorem rcdbits14 : waitsOk rcdT14.2 rcdB14 = true := by kernel_rfl
def FunAt (W : World) (b : Nat) (f0 : Int) (A : Option Addr) (n c : Nat) (f2 f3 f4 : Int) : Prop :=
 W.cell? ⟨b, 0, none⟩ = some (.int .i64 f0) ∧ W.cell? ⟨b, 1, none⟩ = some (.slice A n c) ∧ W.cell? ⟨b, 2, none⟩ = some (.int .i64 f2) ∧ W.cell? ⟨b, 3, none⟩ = some (.int .i64 f3) ∧ W.cell? ⟨b, 4, none⟩ = some (.int .i64 f4)
set_option maxHeartbeats 16000000 in
set_option maxRecDepth 100000 in
theorem called_calls {r : Ro} {w0 W1 W : World} {n : Nat} {L R : List Fa} (h : RR r w0) (hst : SR r w0 L W1 W) (x : Cl) (c : Int) (hg : Ls.Good n (L ++ (callL r x c ++ R)))
  {At Aa : Option Addr} {ct ca : Nat} (hthis : Kd.C (Kd.int .i64) W At x.this.length x.this) (hargs : Kd.C (Kd.int .i64) W Aa x.args.length x.args) (hlo : LOk r) (hfl : 1 ≤ r.fs.length ∧ r.fs.length ≤ 1000000) (hs0 : 0 ≤ r.s0 ∧ r.s0 ≤ 1000000000) :
  Calls Try.prog 31 #[.pointer (some ⟨r.Br, 0, none⟩), .int .i64 x.mark, .int .i64 c, .slice At x.this.length ct, .slice Aa x.args.length ca, .int .i64 x.each, .int .i64 x.ret, .int .i64 x.out] W fun e W' => e = .returned (.tuple #[]) ∧ SR r w0 (L ++ callL r x c) W1 W' ∧ Ls.Good n ((L ++ callL r x c) ++ R) := by
 obtain ⟨A1v, hA1v⟩ : ∃ A, r.A1 = A := ⟨_, rfl⟩
 have HA1V := zm hA1v
 have HRC := zm (show ∀ W', SRx r w0 W W' → W'.cell? ⟨r.Br, 0, none⟩ = some (.int .i64 r.s0) ∧ W'.cell? ⟨r.Br, 1, none⟩ = some (.slice A1v r.fs.length r.c1) from fun W' hx => ⟨hx.flds.1, by rw [← hA1v]; exact hx.flds.2.1⟩)
 clear hA1v
 have HTH := zm (show ∀ W', SRx r w0 W W' → Kd.C (Kd.int .i64) W' At x.this.length x.this from fun W' hx => hx.ints hthis)
 have HAR := zm (show ∀ W', SRx r w0 W W' → Kd.C (Kd.int .i64) W' Aa x.args.length x.args from fun W' hx => hx.ints hargs)
 have HRR := zm h
 have HST := zm hst.here
 have H1 := zm hst.x
 have HLO := zm hlo
 have HG := zm (show Ls.Good n (L ++ (rg r.fs.length (funAsk r.l x c r.fs) ++ (tailAsk r.s0 r.l x c ++ R))) by rw [callL, List.append_assoc] at hg; exact hg)
 have harg : x.args.length ≤ 9223372036854775807 := hargs.2.1
 have HGO := zm hg
 clear h hst hg hthis hargs hlo
 go_enter Try.func31, Try.ntmps31
 go_wp2
 go_loopg [16] (r.fs.length - 1) (fun kq v16 W_ => ∃ k : Nat, v16 = .int .i64 k ∧ k + kq = r.fs.length ∧ 1 ≤ k ∧ SR r w0 (L ++ rg k (funAsk r.l x c r.fs)) W W_)
 case atStart => exact ⟨1, rfl, by omega, by omega, by rw [show rg 1 (funAsk r.l x c r.fs) = [] by rw [rg_succ, rg_zero, funAsk, if_pos (.inl rfl)]; rfl, List.append_nil]; exact HST.out⟩
 case round =>
  clear HST
  obtain ⟨k, rfl, hk, hk1, hst⟩ := hrel
  have HST := zm hst
  by_cases hlt : k < r.fs.length
  ·obtain ⟨ad, A1_, c1_, hA1, hd0, hd1, hd2, hd3, hd4, hpl, hpc⟩ := at_T44 (Kd.C_below HRR.out.hf hst.bel) (k : Int) (by omega) (by omega)
   rw [Int.toNat_natCast] at hd0 hd1 hd2 hd3 hd4
   obtain rfl : A1v = some ad := HA1V.out.symm.trans hA1
   clear hA1
   have HGK := zm (HG.out.loop hlt)
   have HFK := zm (show funAsk r.l x c r.fs k = if k = 0 ∨ (rd_T44 r.fs k).f0 ≠ c then [] else _ from rfl)
   have HRG := zm (rg_succ k (funAsk r.l x c r.fs))
   generalize rd_T44 r.fs (k : Int) = f at *
   generalize funAsk r.l x c r.fs k = FK at *
   obtain ⟨f0, f1, f2, f3, f4⟩ := f
   dsimp only at hd0 hd1 hd2 hd3 hd4 hpl hpc HFK
   obtain ⟨Wf, hWf⟩ : ∃ Wf, Wf = wr.alloc (.cells #[.int .i64 f0, .slice A1_ f1.length c1_, .int .i64 f2, .int .i64 f3, .int .i64 f4] 44) := ⟨_, rfl⟩
   have hbf : Below wr.heap.size wr Wf := by rw [hWf]; exact below_alloc (Below.refl _ wr) _
   have HCHF := zm (hst.x.then_below hbf)
   have hstf := (hst.quiet hbf).here
   have hne : wr.heap.size ≠ r.Br := fun e => absurd hst.lt (by omega)
   have hnf : Wf.heap[wr.heap.size]? = some (.cells #[.int .i64 f0, .slice A1_ f1.length c1_, .int .i64 f2, .int .i64 f3, .int .i64 f4] 44 (0, 0)) := by rw [hWf]; exact heap_alloc_new _ _
   have HFC := zm (show ∀ W', SRx r w0 Wf W' → FunAt W' wr.heap.size f0 A1_ f1.length c1_ f2 f3 f4 from fun W' hc => by
    have hc' : ∀ j v, (#[.int .i64 f0, .slice A1_ f1.length c1_, .int .i64 f2, .int .i64 f3, .int .i64 f4] : Array Value)[j]? = some v → W'.cell? ⟨wr.heap.size, j, none⟩ = some v := fun j v hv => hc.cell (by simp [World.cell?, hnf, hv]) hne
    exact ⟨hc' 0 _ rfl, hc' 1 _ rfl, hc' 2 _ rfl, hc' 3 _ rfl, hc' 4 _ rfl⟩)
   have HPC := zm (show ∀ W', SRx r w0 Wf W' → Kd.C (Kd.int .i64) W' A1_ f1.length f1 from fun W' hc => hc.ints (Kd.C_below hpc hbf))
   have hpn : f1.length ≤ 9223372036854775807 := hpc.2.1
   have HSTF := zm hstf
   have HWF := zm hWf
   obtain ⟨d0, d1⟩ := HRC.out wr hst.x
   clear hWf hst hstf hnf hbf hpc hpl HST hne
   have hkz : k ≠ 0 := by omega
   by_cases hfc : f0 = c
   ·have HF1 := zm (HFK.out.trans (if_neg (fun h => h.elim hkz (fun h => h hfc))))
    rw [HF1.out, List.append_nil] at HGK
    clear HFK hkz
    have hfc' := hfc.symm
    clear hfc
    subst hfc'
    have hfb : (c == c) = true := by simp
    have HST := HSTF
    go_wp2_with fail
    rw [← HWF.out]
    clear hd0 hd1 hd2 hd3 hd4 d0 d1
    refine (sr_ask1 HRR.out HST.out HGK.out (by rw [HWF.out]; simp)).mono ?_
    rintro e W2 ⟨rfl, hst_, hg_⟩
    have HST := zm hst_
    have HGK := zm hg_
    clear hst_ hg_
    obtain ⟨y0, y1, y2, y3, y4⟩ := HFC.out W2 HST.out.x
    go_wp2_with fail
    clear y0 y1 y2 y3 y4
    refine (sr_ask1 HRR.out HST.out HGK.out rfl).mono ?_
    rintro e W3 ⟨rfl, hst_, hg_⟩
    have HST := zm hst_
    have HGK := zm hg_
    clear hst_ hg_
    obtain ⟨y0, y1, y2, y3, y4⟩ := HFC.out W3 HST.out.x
    go_wp2_with fail
    clear y0 y1 y2 y3 y4
    refine (sr_asks HRR.out HST.out HGK.out rfl (HTH.out _ (HCHF.out.then_ HST.out.x))).mono ?_
    rintro e W4 ⟨rfl, hst_, hg_⟩
    have HST := zm hst_
    have HGK := zm hg_
    clear hst_ hg_
    go_wp2_with fail
    obtain ⟨Lc, hLc⟩ : ∃ Lc, Lc = L ++ rg k (funAsk r.l x c r.fs) ++ askL 5 x.mark noS [c] ++ askL 6 (k : Int) noS [0] ++ askL 9 f2 noS x.this := ⟨_, rfl⟩
    have HST4 := zm (show SR r w0 Lc Wf W4 by rw [hLc]; exact HST.out)
    have HG4 := zm (show Ls.Good n (Lc ++ (rg f1.length (parAsk r.l x f1) ++ (askL 9 x.ret noS (bsL r.l 9 f3) ++ (askL 9 x.out noS (bsL r.l 9 f4) ++ [])))) by rw [hLc]; exact HGK.out)
    have HLC := zm hLc
    clear hLc HST HGK
    go_loopg [18] f1.length (fun jq v18 W_ => ∃ j : Nat, v18 = .int .i64 j ∧ j + jq = f1.length ∧ SR r w0 (Lc ++ rg j (parAsk r.l x f1)) Wf W_)
    case atStart => exact ⟨0, rfl, by omega, by rw [rg_zero, List.append_nil]; exact HST4.out⟩
    case round =>
     clear HST4
     obtain ⟨j, rfl, hj, hst⟩ := hrel
     have HST := zm hst
     clear hst
     obtain ⟨y0, y1, y2, y3, y4⟩ := HFC.out _ HST.out.x
     by_cases hlt2 : j < f1.length
     ·obtain ⟨ad2, rfl, hp2_⟩ := Kd.at_int (HPC.out _ HST.out.x) (j : Int) (by omega) (by omega)
      clear hp2_
      have HP2 := zm (show ∀ W', SRx r w0 Wf W' → W'.cell? (ad2.add j) = some (.int .i64 (rd f1 (j : Int))) from fun W' hx => by
       obtain ⟨ad2', e, h2⟩ := Kd.at_int (HPC.out _ hx) (j : Int) (by omega) (by omega)
       cases e
       rwa [Int.toNat_natCast] at h2)
      have HGK := zm (HG4.out.loop hlt2)
      have HPK := zm (show parAsk r.l x f1 j = if 0 ≤ x.each then askL 9 (rd f1 (j : Int)) noS (bsL r.l 9 x.each) ++ [] else if j < x.args.length then askL 9 (rd f1 (j : Int)) noS (bsL r.l 9 (rd x.args (j : Int))) ++ [] else [] from rfl)
      have HRJ := zm (rg_succ j (parAsk r.l x f1))
      generalize rd f1 (j : Int) = pv at *
      generalize parAsk r.l x f1 j = PJ at *
      by_cases hge : 0 ≤ x.each
      ·have HP1 := zm (HPK.out.trans (if_pos hge))
       rw [HP1.out, List.append_nil] at HGK
       clear HPK
       go_wp2
       clear y0 y1 y2 y3 y4
       obtain ⟨Wd, hWd⟩ : ∃ Wd, wr.drew = Wd := ⟨_, rfl⟩
       have HST := zm (HST.out.quiet (W' := Wd) (by rw [← hWd]; exact below_drew (Below.refl _ _)))
       refine start_ (n := 10) (S := fun W' => SRx r w0 Wf W') (ds := []) #[false, false, false, false, false, false, false, false, false, false] (by kernel_rfl) rfl rfl (by rw [hWd]; exact HST.out.x) (fun hHeld => ?_)
       rw [hWd] at hHeld ⊢
       refine with_tabW rcdtab12 rcdbits12 (fun HT_ HW_ => ?_)
       refine zp 0 66 (h := ?_)
       refine zp 1 67 (h := ?_)
       refine zt 2 68 (hy := by
         intro w' hw'
         obtain ⟨y0, y1, y2, y3, y4⟩ := HFC.out w' hw'
         first | (go_simp; with_reducible rfl)) (h := ?_)
       refine zp 3 69 (h := ?_)
       refine zp 4 70 (h := ?_)
       refine zt 5 71 (hy := by
         intro w' hw'
         have hp2 := HP2.out w' hw'
         first | (go_simp; with_reducible rfl)) (h := ?_)
       refine zp 6 72 (h := ?_)
       refine zp 7 73 (h := ?_)
       refine zo 8 74 (h := fun K hK => ?_)
       refine zg Try.func29 #[.pointer (some ⟨r.Br, 0, none⟩), .int .i64 x.each] (h := ?_)
       refine (sr_in HRR.out HST.out HLO.out x.each).mono ?_
       rintro e W8 ⟨A8, c8, rfl, hC_, hst_⟩
       refine ⟨_, rfl, ?_⟩
       have HST := zm hst_
       have HC8 := zm hC_
       clear hst_ hC_
       refine hK.out _ _ HST.out.x (fun hHeld => ?_)
       clear hK K
       refine zn (h := ?_)
       refine zo 9 75 (h := fun K hK => ?_)
       refine zg Try.func26 #[.pointer (some ⟨r.Br, 0, none⟩), .int .i64 9, .int .i64 pv, .string ⟨#[]⟩, .slice A8 (bsL r.l 9 x.each).length c8] (h := ?_)
       refine (sr_asks HRR.out HST.out HGK.out rfl HC8.out).mono ?_
       rintro e W9 ⟨rfl, hst_, hg_⟩
       refine ⟨_, rfl, ?_⟩
       have HST := zm hst_
       have HGK := zm hg_
       clear hst_ hg_
       refine hK.out _ _ HST.out.x (fun hHeld => ?_)
       clear hK K
       refine zn (h := ?_)
       refine done_ (done_of HT_.out (by kernel_rfl)) ?_
       clear hHeld
       go_wp2
       go_roundg (gk - 1)
       case measure => omega
       case rel => exact ⟨j + 1, by go_num, by omega, by rw [HRJ.out, HP1.out, List.append_nil, ← List.append_assoc]; exact HST.out⟩
      ·by_cases hla : j < x.args.length
       ·have HP1 := zm ((HPK.out.trans (if_neg hge)).trans (if_pos hla))
        rw [HP1.out, List.append_nil] at HGK
        clear HPK
        obtain ⟨ad3, rfl, hp3_⟩ := Kd.at_int (HAR.out _ (HCHF.out.then_ HST.out.x)) (j : Int) (by omega) (by omega)
        clear hp3_
        have HP3 := zm (show ∀ W', SRx r w0 Wf W' → W'.cell? (ad3.add j) = some (.int .i64 (rd x.args (j : Int))) from fun W' hx => by
         obtain ⟨ad3', e, h2⟩ := Kd.at_int (HAR.out _ (HCHF.out.then_ hx)) (j : Int) (by omega) (by omega)
         cases e
         rwa [Int.toNat_natCast] at h2)
        generalize rd x.args (j : Int) = av at *
        go_wp2
        clear y0 y1 y2 y3 y4
        obtain ⟨Wd, hWd⟩ : ∃ Wd, wr.drew = Wd := ⟨_, rfl⟩
        have HST := zm (HST.out.quiet (W' := Wd) (by rw [← hWd]; exact below_drew (Below.refl _ _)))
        refine start_ (n := 13) (S := fun W' => SRx r w0 Wf W') (ds := []) #[false, false, false, false, false, false, false, false, false, false, false, false, false] (by kernel_rfl) rfl rfl (by rw [hWd]; exact HST.out.x) (fun hHeld => ?_)
        rw [hWd] at hHeld ⊢
        refine with_tabW rcdtab14 rcdbits14 (fun HT_ HW_ => ?_)
        refine zp 0 80 (h := ?_)
        refine zp 1 81 (h := ?_)
        refine zt 2 82 (hy := by
          intro w' hw'
          obtain ⟨y0, y1, y2, y3, y4⟩ := HFC.out w' hw'
          first | (go_simp; with_reducible rfl)) (h := ?_)
        refine zp 3 83 (h := ?_)
        refine zp 4 84 (h := ?_)
        refine zt 5 85 (hy := by
          intro w' hw'
          have hp2 := HP2.out w' hw'
          first | (go_simp; with_reducible rfl)) (h := ?_)
        refine zp 6 86 (h := ?_)
        refine zp 7 87 (h := ?_)
        refine zp 8 88 (h := ?_)
        refine zp 9 89 (h := ?_)
        refine zt 10 90 (hy := by
          intro w' hw'
          have hp3 := HP3.out w' hw'
          first | (go_simp; with_reducible rfl)) (h := ?_)
        refine zo 11 91 (h := fun K hK => ?_)
        refine zg Try.func29 #[.pointer (some ⟨r.Br, 0, none⟩), .int .i64 av] (h := ?_)
        refine (sr_in HRR.out HST.out HLO.out av).mono ?_
        rintro e W8 ⟨A8, c8, rfl, hC_, hst_⟩
        refine ⟨_, rfl, ?_⟩
        have HST := zm hst_
        have HC8 := zm hC_
        clear hst_ hC_
        refine hK.out _ _ HST.out.x (fun hHeld => ?_)
        clear hK K
        refine zn (h := ?_)
        refine zo 12 92 (h := fun K hK => ?_)
        refine zg Try.func26 #[.pointer (some ⟨r.Br, 0, none⟩), .int .i64 9, .int .i64 pv, .string ⟨#[]⟩, .slice A8 (bsL r.l 9 av).length c8] (h := ?_)
        refine (sr_asks HRR.out HST.out HGK.out rfl HC8.out).mono ?_
        rintro e W9 ⟨rfl, hst_, hg_⟩
        refine ⟨_, rfl, ?_⟩
        have HST := zm hst_
        have HGK := zm hg_
        clear hst_ hg_
        refine hK.out _ _ HST.out.x (fun hHeld => ?_)
        clear hK K
        refine zn (h := ?_)
        refine done_ (done_of HT_.out (by kernel_rfl)) ?_
        clear hHeld
        go_wp2
        go_roundg (gk - 1)
        case measure => omega
        case rel => exact ⟨j + 1, by go_num, by omega, by rw [HRJ.out, HP1.out, List.append_nil, ← List.append_assoc]; exact HST.out⟩
       ·have HP1 := zm ((HPK.out.trans (if_neg hge)).trans (if_neg hla))
        clear HPK
        have hla' : x.args.length ≤ j := by omega
        go_wp2
        go_roundg (gk - 1)
        case measure => omega
        case rel => exact ⟨j + 1, by go_num, by omega, by rw [HRJ.out, HP1.out, List.append_nil]; exact HST.out⟩
     ·obtain rfl : j = f1.length := by omega
      have HGK := zm (HG4.out.next)
      clear HG4
      go_wp2_with fail
      clear y0 y1 y2 y3 y4
      refine (sr_in HRR.out HST.out HLO.out (f3)).mono ?_
      rintro e W5 ⟨A8, c8, rfl, hC_, hst_⟩
      have HST := zm hst_
      have HC8 := zm hC_
      clear hst_ hC_
      obtain ⟨y0, y1, y2, y3, y4⟩ := HFC.out W5 HST.out.x
      go_wp2_with fail
      clear y0 y1 y2 y3 y4
      refine (sr_asks HRR.out HST.out HGK.out rfl (HC8.out)).mono ?_
      rintro e W6 ⟨rfl, hst_, hg_⟩
      have HST := zm hst_
      have HGK := zm hg_
      clear hst_ hg_
      obtain ⟨y0, y1, y2, y3, y4⟩ := HFC.out W6 HST.out.x
      go_wp2_with fail
      clear y0 y1 y2 y3 y4
      refine (sr_in HRR.out HST.out HLO.out (f4)).mono ?_
      rintro e W7 ⟨A8, c8, rfl, hC_, hst_⟩
      have HST := zm hst_
      have HC8 := zm hC_
      clear hst_ hC_
      obtain ⟨y0, y1, y2, y3, y4⟩ := HFC.out W7 HST.out.x
      go_wp2_with fail
      clear y0 y1 y2 y3 y4
      refine (sr_asks HRR.out HST.out HGK.out rfl (HC8.out)).mono ?_
      rintro e W8 ⟨rfl, hst_, hg_⟩
      have HST := zm hst_
      have HGK := zm hg_
      clear hst_ hg_
      obtain ⟨y0, y1, y2, y3, y4⟩ := HFC.out W8 HST.out.x
      go_wp2
      clear y0 y1 y2 y3 y4
      go_roundg (r.fs.length - (k + 1))
      case measure => omega
      case rel =>
       have e : L ++ rg (k + 1) (funAsk r.l x c r.fs) = Lc ++ rg f1.length (parAsk r.l x f1) ++ askL 9 x.ret noS (bsL r.l 9 f3) ++ askL 9 x.out noS (bsL r.l 9 f4) := by
        rw [HRG.out, HF1.out, HLC.out]
        simp only [List.append_assoc, List.append_nil]
       exact ⟨k + 1, by go_num, by omega, by omega, by rw [e]; exact HCHF.out.rebase HST.out⟩
   ·have hfb : (f0 == c) = false := by simp [hfc]
    have hfn : (f0 != c) = true := by rw [bne, hfb]; rfl
    have HF0 := zm (show FK = [] by rw [HFK.out, if_pos (.inr hfc)])
    go_wp2
    rw [← HWF.out]
    go_roundg (gk - 1)
    case measure => omega
    case rel => exact ⟨k + 1, by go_num, by omega, by omega, by rw [HRG.out, HF0.out, List.append_nil]; exact HCHF.out.rebase HSTF.out⟩
  ·obtain rfl : k = r.fs.length := by omega
   have HGK := zm (HG.out.next.head)
   clear hst
   obtain ⟨d0, d1⟩ := HRC.out wr HST.out.x
   by_cases hc2 : c = 2
   ·subst hc2
    obtain ⟨t, ht⟩ : ∃ t, t = r.s0 - 9 := ⟨_, rfl⟩
    have hw4 : wrap64 (r.s0 - 9) = r.s0 - 9 := by unfold wrap64; omega
    have HTL := zm (show tailAsk r.s0 r.l x 2 = spareAsk r.l x 2 t by simp [tailAsk, ht])
    rw [HTL.out] at HGK
    unfold spareAsk at HGK
    have hw5 : wrap64 (t + 1) = t + 1 := by unfold wrap64; omega
    have hw6 : wrap64 (t + 2) = t + 2 := by unfold wrap64; omega
    have hw7 : wrap64 (t + 3) = t + 3 := by unfold wrap64; omega
    have HT := zm ht
    clear ht
    go_wp2_with fail
    rw [← HT.out]
    clear d0 d1
    refine (sr_ask1 HRR.out HST.out HGK.out rfl).mono ?_
    rintro e W2 ⟨rfl, hst_, hg_⟩
    have HST := zm hst_
    have HGK := zm hg_
    clear hst_ hg_
    go_wp2_with fail
    refine (sr_asks HRR.out HST.out HGK.out rfl (HTH.out _ HST.out.x)).mono ?_
    rintro e W3 ⟨rfl, hst_, hg_⟩
    have HST := zm hst_
    have HGK := zm hg_
    clear hst_ hg_
    go_wp2_with fail
    obtain ⟨Lc, hLc⟩ : ∃ Lc, Lc = L ++ rg r.fs.length (funAsk r.l x 2 r.fs) ++ askL 5 x.mark noS [2] ++ askL 9 t noS x.this := ⟨_, rfl⟩
    have HST4 := zm (show SR r w0 Lc W W3 by rw [hLc]; exact HST.out)
    have HG4 := zm (show Ls.Good n (Lc ++ (rg x.args.length (argAsk r.l x t) ++ ((if 0 ≤ x.each then askL 9 (t + 1) noS (bsL r.l 9 x.each) else []) ++ (askL 9 x.ret noS (bsL r.l 9 (t + 2)) ++ (askL 9 x.out noS (bsL r.l 9 (t + 3)) ++ []))))) by rw [hLc]; exact HGK.out)
    have HLC := zm hLc
    clear hLc HST HGK
    go_loopg [20] x.args.length (fun jq v20 W_ => ∃ j : Nat, v20 = .int .i64 j ∧ j + jq = x.args.length ∧ SR r w0 (Lc ++ rg j (argAsk r.l x t)) W W_)
    case atStart => exact ⟨0, rfl, by omega, by rw [rg_zero, List.append_nil]; exact HST4.out⟩
    case round =>
     clear HST4
     obtain ⟨j, rfl, hj, hst⟩ := hrel
     have HST := zm hst
     clear hst
     by_cases hla : j < x.args.length
     ·have HGK := zm (HG4.out.loop hla)
      have HPK := zm (show argAsk r.l x t j = askL 9 (t + 1) noS (bsL r.l 9 (rd x.args (j : Int))) ++ [] from rfl)
      have HRJ := zm (rg_succ j (argAsk r.l x t))
      obtain ⟨ad3, rfl, hp3⟩ := Kd.at_int (HAR.out _ HST.out.x) (j : Int) (by omega) (by omega)
      rw [Int.toNat_natCast] at hp3
      generalize rd x.args (j : Int) = av at *
      generalize argAsk r.l x t j = PJ at *
      rw [HPK.out, List.append_nil] at HGK
      go_wp2_with fail
      refine (sr_in HRR.out HST.out HLO.out (av)).mono ?_
      rintro e W5 ⟨A8, c8, rfl, hC_, hst_⟩
      have HST := zm hst_
      have HC8 := zm hC_
      clear hst_ hC_
      go_wp2_with fail
      refine (sr_asks HRR.out HST.out HGK.out rfl (HC8.out)).mono ?_
      rintro e W6 ⟨rfl, hst_, hg_⟩
      have HST := zm hst_
      have HGK := zm hg_
      clear hst_ hg_
      go_wp2
      go_roundg (gk - 1)
      case measure => omega
      case rel => exact ⟨j + 1, by go_num, by omega, by rw [HRJ.out, HPK.out, List.append_nil, ← List.append_assoc]; exact HST.out⟩
     ·obtain rfl : j = x.args.length := by omega
      have HGK := zm (HG4.out.next)
      clear HG4
      by_cases hge : 0 ≤ x.each
      ·rw [if_pos hge] at HGK
       go_wp2_with fail
       refine (sr_in HRR.out HST.out HLO.out (x.each)).mono ?_
       rintro e W5 ⟨A8, c8, rfl, hC_, hst_⟩
       have HST := zm hst_
       have HC8 := zm hC_
       clear hst_ hC_
       go_wp2_with fail
       refine (sr_asks HRR.out HST.out HGK.out rfl (HC8.out)).mono ?_
       rintro e W6 ⟨rfl, hst_, hg_⟩
       have HST := zm hst_
       have HGK := zm hg_
       clear hst_ hg_
       go_wp2_with fail
       refine (sr_in HRR.out HST.out HLO.out (t + 2)).mono ?_
       rintro e W7 ⟨A8, c8, rfl, hC_, hst_⟩
       have HST := zm hst_
       have HC8 := zm hC_
       clear hst_ hC_
       go_wp2_with fail
       refine (sr_asks HRR.out HST.out HGK.out rfl (HC8.out)).mono ?_
       rintro e W8 ⟨rfl, hst_, hg_⟩
       have HST := zm hst_
       have HGK := zm hg_
       clear hst_ hg_
       go_wp2_with fail
       refine (sr_in HRR.out HST.out HLO.out (t + 3)).mono ?_
       rintro e W9 ⟨A8, c8, rfl, hC_, hst_⟩
       have HST := zm hst_
       have HC8 := zm hC_
       clear hst_ hC_
       go_wp2_with fail
       refine (sr_asks HRR.out HST.out HGK.out rfl (HC8.out)).mono ?_
       rintro e WA ⟨rfl, hst_, hg_⟩
       have HST := zm hst_
       have HGK := zm hg_
       clear hst_ hg_
       go_wp2
       go_end0
       have e : L ++ callL r x 2 = Lc ++ rg x.args.length (argAsk r.l x t) ++ askL 9 (t + 1) noS (bsL r.l 9 x.each) ++ askL 9 x.ret noS (bsL r.l 9 (t + 2)) ++ askL 9 x.out noS (bsL r.l 9 (t + 3)) := by
        rw [callL, HTL.out, spareAsk, if_pos hge, HLC.out]
        simp only [List.append_assoc, List.append_nil, List.nil_append]
       exact ⟨rfl, by rw [e]; exact H1.out.rebase HST.out, HGO.out.next⟩
      ·rw [if_neg hge, List.nil_append] at HGK
       go_wp2_with fail
       refine (sr_in HRR.out HST.out HLO.out (t + 2)).mono ?_
       rintro e W7 ⟨A8, c8, rfl, hC_, hst_⟩
       have HST := zm hst_
       have HC8 := zm hC_
       clear hst_ hC_
       go_wp2_with fail
       refine (sr_asks HRR.out HST.out HGK.out rfl (HC8.out)).mono ?_
       rintro e W8 ⟨rfl, hst_, hg_⟩
       have HST := zm hst_
       have HGK := zm hg_
       clear hst_ hg_
       go_wp2_with fail
       refine (sr_in HRR.out HST.out HLO.out (t + 3)).mono ?_
       rintro e W9 ⟨A8, c8, rfl, hC_, hst_⟩
       have HST := zm hst_
       have HC8 := zm hC_
       clear hst_ hC_
       go_wp2_with fail
       refine (sr_asks HRR.out HST.out HGK.out rfl (HC8.out)).mono ?_
       rintro e WA ⟨rfl, hst_, hg_⟩
       have HST := zm hst_
       have HGK := zm hg_
       clear hst_ hg_
       go_wp2
       go_end0
       have e : L ++ callL r x 2 = Lc ++ rg x.args.length (argAsk r.l x t) ++ askL 9 x.ret noS (bsL r.l 9 (t + 2)) ++ askL 9 x.out noS (bsL r.l 9 (t + 3)) := by
        rw [callL, HTL.out, spareAsk, if_neg (by omega), HLC.out]
        simp only [List.append_assoc, List.append_nil, List.nil_append]
       exact ⟨rfl, by rw [e]; exact H1.out.rebase HST.out, HGO.out.next⟩
   ·by_cases hc3 : c = 3
    ·subst hc3
     obtain ⟨t, ht⟩ : ∃ t, t = r.s0 - 9 + 4 := ⟨_, rfl⟩
     have hw4 : wrap64 (r.s0 - 9) = r.s0 - 9 := by unfold wrap64; omega
     have HTL := zm (show tailAsk r.s0 r.l x 3 = spareAsk r.l x 3 t by simp [tailAsk, ht])
     rw [HTL.out] at HGK
     unfold spareAsk at HGK
     have hw5 : wrap64 (t + 1) = t + 1 := by unfold wrap64; omega
     have hw6 : wrap64 (t + 2) = t + 2 := by unfold wrap64; omega
     have hw7 : wrap64 (t + 3) = t + 3 := by unfold wrap64; omega
     have HT := zm ht
     clear ht
     go_wp2_with fail
     rw [← HT.out]
     clear d0 d1
     refine (sr_ask1 HRR.out HST.out HGK.out rfl).mono ?_
     rintro e W2 ⟨rfl, hst_, hg_⟩
     have HST := zm hst_
     have HGK := zm hg_
     clear hst_ hg_
     go_wp2_with fail
     refine (sr_asks HRR.out HST.out HGK.out rfl (HTH.out _ HST.out.x)).mono ?_
     rintro e W3 ⟨rfl, hst_, hg_⟩
     have HST := zm hst_
     have HGK := zm hg_
     clear hst_ hg_
     go_wp2_with fail
     obtain ⟨Lc, hLc⟩ : ∃ Lc, Lc = L ++ rg r.fs.length (funAsk r.l x 3 r.fs) ++ askL 5 x.mark noS [3] ++ askL 9 t noS x.this := ⟨_, rfl⟩
     have HST4 := zm (show SR r w0 Lc W W3 by rw [hLc]; exact HST.out)
     have HG4 := zm (show Ls.Good n (Lc ++ (rg x.args.length (argAsk r.l x t) ++ ((if 0 ≤ x.each then askL 9 (t + 1) noS (bsL r.l 9 x.each) else []) ++ (askL 9 x.ret noS (bsL r.l 9 (t + 2)) ++ (askL 9 x.out noS (bsL r.l 9 (t + 3)) ++ []))))) by rw [hLc]; exact HGK.out)
     have HLC := zm hLc
     clear hLc HST HGK
     go_loopg [20] x.args.length (fun jq v20 W_ => ∃ j : Nat, v20 = .int .i64 j ∧ j + jq = x.args.length ∧ SR r w0 (Lc ++ rg j (argAsk r.l x t)) W W_)
     case atStart => exact ⟨0, rfl, by omega, by rw [rg_zero, List.append_nil]; exact HST4.out⟩
     case round =>
      clear HST4
      obtain ⟨j, rfl, hj, hst⟩ := hrel
      have HST := zm hst
      clear hst
      by_cases hla : j < x.args.length
      ·have HGK := zm (HG4.out.loop hla)
       have HPK := zm (show argAsk r.l x t j = askL 9 (t + 1) noS (bsL r.l 9 (rd x.args (j : Int))) ++ [] from rfl)
       have HRJ := zm (rg_succ j (argAsk r.l x t))
       obtain ⟨ad3, rfl, hp3⟩ := Kd.at_int (HAR.out _ HST.out.x) (j : Int) (by omega) (by omega)
       rw [Int.toNat_natCast] at hp3
       generalize rd x.args (j : Int) = av at *
       generalize argAsk r.l x t j = PJ at *
       rw [HPK.out, List.append_nil] at HGK
       go_wp2_with fail
       refine (sr_in HRR.out HST.out HLO.out (av)).mono ?_
       rintro e W5 ⟨A8, c8, rfl, hC_, hst_⟩
       have HST := zm hst_
       have HC8 := zm hC_
       clear hst_ hC_
       go_wp2_with fail
       refine (sr_asks HRR.out HST.out HGK.out rfl (HC8.out)).mono ?_
       rintro e W6 ⟨rfl, hst_, hg_⟩
       have HST := zm hst_
       have HGK := zm hg_
       clear hst_ hg_
       go_wp2
       go_roundg (gk - 1)
       case measure => omega
       case rel => exact ⟨j + 1, by go_num, by omega, by rw [HRJ.out, HPK.out, List.append_nil, ← List.append_assoc]; exact HST.out⟩
      ·obtain rfl : j = x.args.length := by omega
       have HGK := zm (HG4.out.next)
       clear HG4
       by_cases hge : 0 ≤ x.each
       ·rw [if_pos hge] at HGK
        go_wp2_with fail
        refine (sr_in HRR.out HST.out HLO.out (x.each)).mono ?_
        rintro e W5 ⟨A8, c8, rfl, hC_, hst_⟩
        have HST := zm hst_
        have HC8 := zm hC_
        clear hst_ hC_
        go_wp2_with fail
        refine (sr_asks HRR.out HST.out HGK.out rfl (HC8.out)).mono ?_
        rintro e W6 ⟨rfl, hst_, hg_⟩
        have HST := zm hst_
        have HGK := zm hg_
        clear hst_ hg_
        go_wp2_with fail
        refine (sr_in HRR.out HST.out HLO.out (t + 2)).mono ?_
        rintro e W7 ⟨A8, c8, rfl, hC_, hst_⟩
        have HST := zm hst_
        have HC8 := zm hC_
        clear hst_ hC_
        go_wp2_with fail
        refine (sr_asks HRR.out HST.out HGK.out rfl (HC8.out)).mono ?_
        rintro e W8 ⟨rfl, hst_, hg_⟩
        have HST := zm hst_
        have HGK := zm hg_
        clear hst_ hg_
        go_wp2_with fail
        refine (sr_in HRR.out HST.out HLO.out (t + 3)).mono ?_
        rintro e W9 ⟨A8, c8, rfl, hC_, hst_⟩
        have HST := zm hst_
        have HC8 := zm hC_
        clear hst_ hC_
        go_wp2_with fail
        refine (sr_asks HRR.out HST.out HGK.out rfl (HC8.out)).mono ?_
        rintro e WA ⟨rfl, hst_, hg_⟩
        have HST := zm hst_
        have HGK := zm hg_
        clear hst_ hg_
        go_wp2
        go_end0
        have e : L ++ callL r x 3 = Lc ++ rg x.args.length (argAsk r.l x t) ++ askL 9 (t + 1) noS (bsL r.l 9 x.each) ++ askL 9 x.ret noS (bsL r.l 9 (t + 2)) ++ askL 9 x.out noS (bsL r.l 9 (t + 3)) := by
         rw [callL, HTL.out, spareAsk, if_pos hge, HLC.out]
         simp only [List.append_assoc, List.append_nil, List.nil_append]
        exact ⟨rfl, by rw [e]; exact H1.out.rebase HST.out, HGO.out.next⟩
       ·rw [if_neg hge, List.nil_append] at HGK
        go_wp2_with fail
        refine (sr_in HRR.out HST.out HLO.out (t + 2)).mono ?_
        rintro e W7 ⟨A8, c8, rfl, hC_, hst_⟩
        have HST := zm hst_
        have HC8 := zm hC_
        clear hst_ hC_
        go_wp2_with fail
        refine (sr_asks HRR.out HST.out HGK.out rfl (HC8.out)).mono ?_
        rintro e W8 ⟨rfl, hst_, hg_⟩
        have HST := zm hst_
        have HGK := zm hg_
        clear hst_ hg_
        go_wp2_with fail
        refine (sr_in HRR.out HST.out HLO.out (t + 3)).mono ?_
        rintro e W9 ⟨A8, c8, rfl, hC_, hst_⟩
        have HST := zm hst_
        have HC8 := zm hC_
        clear hst_ hC_
        go_wp2_with fail
        refine (sr_asks HRR.out HST.out HGK.out rfl (HC8.out)).mono ?_
        rintro e WA ⟨rfl, hst_, hg_⟩
        have HST := zm hst_
        have HGK := zm hg_
        clear hst_ hg_
        go_wp2
        go_end0
        have e : L ++ callL r x 3 = Lc ++ rg x.args.length (argAsk r.l x t) ++ askL 9 x.ret noS (bsL r.l 9 (t + 2)) ++ askL 9 x.out noS (bsL r.l 9 (t + 3)) := by
         rw [callL, HTL.out, spareAsk, if_neg (by omega), HLC.out]
         simp only [List.append_assoc, List.append_nil, List.nil_append]
        exact ⟨rfl, by rw [e]; exact H1.out.rebase HST.out, HGO.out.next⟩
    ·have HTL := zm (show tailAsk r.s0 r.l x c = [] by unfold tailAsk; rw [if_neg hc2, if_neg hc3])
     have hb2 : (c == 2) = false := by simp [hc2]
     have hb3 : (c == 3) = false := by simp [hc3]
     have hn2 : (c != 2) = true := by rw [bne, hb2]; rfl
     have hn3 : (c != 3) = true := by rw [bne, hb3]; rfl
     go_wp2
     refine bodyPost_ret (results_none (by rfl) _ _ _) rfl ?_
     exact ⟨rfl, by rw [callL, HTL.out, List.append_nil]; exact H1.out.rebase HST.out, HGO.out.next⟩
end Go.Proofs.Ytngppcmdaanheaa.Lu
namespace Go.Proofs.Ytngppcmdaanheaa.Lu
open Go.RowKit Go.Maps Go.Proofs.Ytngppcmdaanheaa.Iter Go.Proofs.Ytngppcmdaanheaa.ISet Go.Proofs.Ytngppcmdaanheaa.Pr Go.Proofs.Ytngppcmdaanheaa.Ls Go.Proofs.Ytngppcmdaanheaa.Ext Go.Proofs.YtngppcmdaanheaaW.PrintWords Go.Proofs.YtngppcmdaanheaaW.PrintLast Go.Proofs.YtngppcmdaanheaaW.PrintMore
set_option linter.unusedVariables false
set_option linter.unusedSimpArgs false
attribute [local go_sem] Oper.semAt_some
def reaT4 : Bool × List (List Nat × List Nat) := (true, [([], []), ([], []), ([1], [1]), ([], []), ([3], [3]), ([4], [4]), ([5], [5]), ([], []), ([], []), ([8], [8]), ([], []), ([10], [10]), ([11], [11]), ([6, 7, 9, 12], [6, 7, 9, 12]), ([0, 2, 13, 13], [0, 2, 13])])
def reaB4 : List Nat := [0, 0, 2, 0, 8, 24, 56, 0, 0, 256, 0, 1024, 3072, 8184, 16383]
theorem reatab4 : rtab .any (opsOf Try.f44 4) = reaT4 := by kernel_rfl
theorem reabits4 : waitsOk reaT4.2 reaB4 = true := by kernel_rfl
def reaT6 : Bool × List (List Nat × List Nat) := (true, [([], []), ([], []), ([], []), ([2], [2]), ([], []), ([], []), ([5], [5]), ([4, 6], [4, 6]), ([0, 1, 3, 7, 7], [0, 1, 3, 7])])
def reaB6 : List Nat := [0, 0, 0, 4, 0, 0, 32, 112, 255]
theorem reatab6 : rtab .any (opsOf Try.f44 6) = reaT6 := by kernel_rfl
theorem reabits6 : waitsOk reaT6.2 reaB6 = true := by kernel_rfl
def reaT23 : Bool × List (List Nat × List Nat) := (true, [([], []), ([], []), ([1], [1]), ([], []), ([3], [3]), ([4], [4]), ([5], [5]), ([], []), ([6, 7], [6, 7]), ([0, 2, 8, 8], [0, 2, 8])])
def reaB23 : List Nat := [0, 0, 2, 0, 8, 24, 56, 0, 248, 511]
theorem reatab23 : rtab .any (opsOf Try.f44 23) = reaT23 := by kernel_rfl
theorem reabits23 : waitsOk reaT23.2 reaB23 = true := by kernel_rfl
theorem askOk_false (s : ByteArray) : (fun k => decide (k = s)) = askOk s false := by funext k; simp [askOk]
theorem askOk_true (s : ByteArray) : (fun _ => true) = askOk s true := by funext k; simp [askOk]
theorem any_drop_take {α : Type} (l : List α) (P : α → Bool) (d : α) (k : Nat) (h1 : 1 ≤ k) (h : k < l.length) : ((l.take (k + 1)).drop 1).any P = (((l.take k).drop 1).any P || P (l.getD k d)) := by
 have e : l.take (k + 1) = l.take k ++ [l.getD k d] := by
  rw [List.take_add_one, List.getElem?_eq_getElem h]
  simp [List.getD, h]
 rw [e, List.drop_append_of_le_length (by rw [List.length_take]; omega), List.any_append]
 simp
set_option maxHeartbeats 16000000 in
set_option maxRecDepth 100000 in
theorem each_calls {r : Ro} {w0 W1 W : World} {n : Nat} {L R : List Fa} (h : RR r w0) (hst : SR r w0 L W1 W) (x : Ls.RuT) (c : Int) (hg : Ls.Good n (L ++ (eachL r x c ++ R)))
  {Al : Option Addr} {cl : Nat} (hargs : Kd.C (Kd.int .i64) W Al x.f8.length x.f8) (hlo : LOk r) (hfl : 1 ≤ r.fs.length ∧ r.fs.length ≤ 1000000) (hs0 : 0 ≤ r.s0 ∧ r.s0 ≤ 1000000000) :
  Calls Try.prog 44 #[.pointer (some ⟨r.Br, 0, none⟩), .agg (ruCells x Al cl), .int .i64 c] W fun e W' => e = .returned (.tuple #[]) ∧ SR r w0 (L ++ eachL r x c) W1 W' ∧ Ls.Good n ((L ++ eachL r x c) ++ R) := by
 obtain ⟨k, F, X, Y, Z, N, M, s, al⟩ := x
 obtain ⟨Wb, hWb⟩ : ∃ Wb, Wb = W.alloc (.cells (ruCells ⟨k, F, X, Y, Z, N, M, s, al⟩ Al cl) 46) := ⟨_, rfl⟩
 have hbb : Below W.heap.size W Wb := by rw [hWb]; exact below_alloc (Below.refl _ W) _
 have hstb := (hst.quiet hbb).here
 have hne : W.heap.size ≠ r.Br := fun e => absurd hst.lt (by omega)
 have hnb : Wb.heap[W.heap.size]? = some (.cells (ruCells ⟨k, F, X, Y, Z, N, M, s, al⟩ Al cl) 46 (0, 0)) := by rw [hWb]; exact heap_alloc_new _ _
 have HXC := zm (show ∀ W', SRx r w0 Wb W' → RuAt W' W.heap.size k F X Y Z N M s al.length Al cl from fun W' hc => by
  have hc' : ∀ j v, (ruCells ⟨k, F, X, Y, Z, N, M, s, al⟩ Al cl)[j]? = some v → W'.cell? ⟨W.heap.size, j, none⟩ = some v := fun j v hv => hc.cell (by simp [World.cell?, hnb, hv]) hne
  exact ⟨hc' 0 _ rfl, hc' 1 _ rfl, hc' 2 _ rfl, hc' 3 _ rfl, hc' 4 _ rfl, hc' 5 _ rfl, hc' 6 _ rfl, hc' 7 _ rfl, hc' 8 _ rfl⟩)
 have HAR := zm (show ∀ W', SRx r w0 Wb W' → Kd.C (Kd.int .i64) W' Al al.length al from fun W' hc => hc.ints (Kd.C_below hargs hbb))
 have HRR := zm h
 have HST := zm hstb
 have HLO := zm hlo
 have H1 := zm (hst.x.then_below hbb)
 have HG := zm hg
 clear h hst hg hargs hstb hnb hbb hlo hne
 go_enter Try.func44, Try.ntmps44
 obtain ⟨x0, x1, x2, x3, x4, x5, x6, x7, x8⟩ := HXC.out Wb HST.out.x
 rw [hWb] at x0 x1 x2 x3 x4 x5 x6 x7 x8
 have HWB := zm hWb
 clear hWb
 by_cases h4 : k = 4
 ·subst h4
  have HGK := zm (show Ls.Good n (L ++ (askL 9 Y noS (loadsL r.l (askOk s false) c) ++ R)) by rw [← askOk_false]; exact HG.out)
  go_wp2
  rw [← HWB.out]
  clear x0 x1 x2 x3 x4 x5 x6 x7 x8 HWB
  obtain ⟨Wd, hWd⟩ : ∃ Wd, Wb.drew = Wd := ⟨_, rfl⟩
  have HST := zm (HST.out.quiet (W' := Wd) (by rw [← hWd]; exact below_drew (Below.refl _ _)))
  refine start_ (n := 15) (S := fun W' => SRx r w0 Wb W') (ds := []) #[false, false, false, false, false, false, false, false, false, false, false, false, false, false, false] (by kernel_rfl) rfl rfl (by rw [hWd]; exact HST.out.x) (fun hHeld => ?_)
  rw [hWd] at hHeld ⊢
  refine with_tabW reatab4 reabits4 (fun HT_ HW_ => ?_)
  refine zp 0 14 (h := ?_)
  refine zp 1 15 (h := ?_)
  refine zt 2 16 (hy := by
    intro w' hw'
    obtain ⟨x0, x1, x2, x3, x4, x5, x6, x7, x8⟩ := HXC.out w' hw'
    first | (go_simp; with_reducible rfl)) (h := ?_)
  refine zp 3 17 (h := ?_)
  refine zp 4 18 (h := ?_)
  refine zp 5 19 (h := ?_)
  refine zt 6 20 (hy := by
    intro w' hw'
    obtain ⟨d0, d1, d2, d3⟩ := hw'.flds
    first | (go_simp; with_reducible rfl)) (h := ?_)
  refine zp 7 21 (h := ?_)
  refine zp 8 22 (h := ?_)
  refine zt 9 23 (hy := by
    intro w' hw'
    obtain ⟨x0, x1, x2, x3, x4, x5, x6, x7, x8⟩ := HXC.out w' hw'
    first | (go_simp; with_reducible rfl)) (h := ?_)
  refine zp 10 24 (h := ?_)
  refine zt 11 25 (hy := by
    intro w' hw'
    obtain ⟨x0, x1, x2, x3, x4, x5, x6, x7, x8⟩ := HXC.out w' hw'
    first | (go_simp; with_reducible rfl)) (h := ?_)
  refine zp 12 26 (h := ?_)
  refine zo 13 27 (h := fun K hK => ?_)
  refine zg Try.func30 #[.slice r.A3 r.l.length r.c3, .int .i64 c, .string s, .bool false] (h := ?_)
  refine (sr_load HRR.out HST.out HLO.out c s false).mono ?_
  rintro e W8 ⟨A8, c8, ys8, rfl, hC_, hm_, hy_, hst_⟩
  refine ⟨_, rfl, ?_⟩
  have HST := zm hst_
  have HC8 := zm hC_
  have HM8 := zm hm_
  have HY8 := zm hy_
  clear hst_ hC_ hm_ hy_
  refine hK.out _ _ HST.out.x (fun hHeld => ?_)
  clear hK K
  refine zn (h := ?_)
  refine zo 14 28 (h := fun K hK => ?_)
  refine zg Try.func26 #[.pointer (some ⟨r.Br, 0, none⟩), .int .i64 9, .int .i64 Y, .string ⟨#[]⟩, .slice A8 ys8.length c8] (h := ?_)
  refine (sr_asks_mem HRR.out HST.out HM8.out HY8.out HGK.out rfl HC8.out).mono ?_
  rintro e W9 ⟨rfl, hst_, hg_⟩
  refine ⟨_, rfl, ?_⟩
  have HST := zm hst_
  have HGK := zm hg_
  clear hst_ hg_
  refine hK.out _ _ HST.out.x (fun hHeld => ?_)
  clear hK K
  refine zn (h := ?_)
  refine done_ (done_of HT_.out (by kernel_rfl)) ?_
  clear hHeld
  go_wp2
  go_end0
  have e : eachL r ⟨4, F, X, Y, Z, N, M, s, al⟩ c = askL 9 Y noS (loadsL r.l (askOk s false) c) := by rw [← askOk_false]; rfl
  rw [e]
  exact ⟨rfl, H1.out.rebase HST.out, HGK.out⟩
 by_cases h5 : k = 5
 ·subst h5
  have HGK := zm (show Ls.Good n (L ++ (askL 9 Y noS (loadsL r.l (askOk s true) c) ++ R)) by rw [← askOk_true]; exact HG.out)
  go_wp2
  rw [← HWB.out]
  clear x0 x1 x2 x3 x4 x5 x6 x7 x8 HWB
  obtain ⟨Wd, hWd⟩ : ∃ Wd, Wb.drew = Wd := ⟨_, rfl⟩
  have HST := zm (HST.out.quiet (W' := Wd) (by rw [← hWd]; exact below_drew (Below.refl _ _)))
  refine start_ (n := 15) (S := fun W' => SRx r w0 Wb W') (ds := []) #[false, false, false, false, false, false, false, false, false, false, false, false, false, false, false] (by kernel_rfl) rfl rfl (by rw [hWd]; exact HST.out.x) (fun hHeld => ?_)
  rw [hWd] at hHeld ⊢
  refine with_tabW reatab4 reabits4 (fun HT_ HW_ => ?_)
  refine zp 0 14 (h := ?_)
  refine zp 1 15 (h := ?_)
  refine zt 2 16 (hy := by
    intro w' hw'
    obtain ⟨x0, x1, x2, x3, x4, x5, x6, x7, x8⟩ := HXC.out w' hw'
    first | (go_simp; with_reducible rfl)) (h := ?_)
  refine zp 3 17 (h := ?_)
  refine zp 4 18 (h := ?_)
  refine zp 5 19 (h := ?_)
  refine zt 6 20 (hy := by
    intro w' hw'
    obtain ⟨d0, d1, d2, d3⟩ := hw'.flds
    first | (go_simp; with_reducible rfl)) (h := ?_)
  refine zp 7 21 (h := ?_)
  refine zp 8 22 (h := ?_)
  refine zt 9 23 (hy := by
    intro w' hw'
    obtain ⟨x0, x1, x2, x3, x4, x5, x6, x7, x8⟩ := HXC.out w' hw'
    first | (go_simp; with_reducible rfl)) (h := ?_)
  refine zp 10 24 (h := ?_)
  refine zt 11 25 (hy := by
    intro w' hw'
    obtain ⟨x0, x1, x2, x3, x4, x5, x6, x7, x8⟩ := HXC.out w' hw'
    first | (go_simp; with_reducible rfl)) (h := ?_)
  refine zp 12 26 (h := ?_)
  refine zo 13 27 (h := fun K hK => ?_)
  refine zg Try.func30 #[.slice r.A3 r.l.length r.c3, .int .i64 c, .string s, .bool true] (h := ?_)
  refine (sr_load HRR.out HST.out HLO.out c s true).mono ?_
  rintro e W8 ⟨A8, c8, ys8, rfl, hC_, hm_, hy_, hst_⟩
  refine ⟨_, rfl, ?_⟩
  have HST := zm hst_
  have HC8 := zm hC_
  have HM8 := zm hm_
  have HY8 := zm hy_
  clear hst_ hC_ hm_ hy_
  refine hK.out _ _ HST.out.x (fun hHeld => ?_)
  clear hK K
  refine zn (h := ?_)
  refine zo 14 28 (h := fun K hK => ?_)
  refine zg Try.func26 #[.pointer (some ⟨r.Br, 0, none⟩), .int .i64 9, .int .i64 Y, .string ⟨#[]⟩, .slice A8 ys8.length c8] (h := ?_)
  refine (sr_asks_mem HRR.out HST.out HM8.out HY8.out HGK.out rfl HC8.out).mono ?_
  rintro e W9 ⟨rfl, hst_, hg_⟩
  refine ⟨_, rfl, ?_⟩
  have HST := zm hst_
  have HGK := zm hg_
  clear hst_ hg_
  refine hK.out _ _ HST.out.x (fun hHeld => ?_)
  clear hK K
  refine zn (h := ?_)
  refine done_ (done_of HT_.out (by kernel_rfl)) ?_
  clear hHeld
  go_wp2
  go_end0
  have e : eachL r ⟨5, F, X, Y, Z, N, M, s, al⟩ c = askL 9 Y noS (loadsL r.l (askOk s true) c) := by rw [← askOk_true]; rfl
  rw [e]
  exact ⟨rfl, H1.out.rebase HST.out, HGK.out⟩
 by_cases h6 : k = 6
 ·subst h6
  have HGK := zm (show Ls.Good n (L ++ (askL 3 c s (bsL r.l 9 Y) ++ R)) from HG.out)
  go_wp2
  rw [← HWB.out]
  clear x0 x1 x2 x3 x4 x5 x6 x7 x8 HWB
  obtain ⟨Wd, hWd⟩ : ∃ Wd, Wb.drew = Wd := ⟨_, rfl⟩
  have HST := zm (HST.out.quiet (W' := Wd) (by rw [← hWd]; exact below_drew (Below.refl _ _)))
  refine start_ (n := 9) (S := fun W' => SRx r w0 Wb W') (ds := []) #[false, false, false, false, false, false, false, false, false] (by kernel_rfl) rfl rfl (by rw [hWd]; exact HST.out.x) (fun hHeld => ?_)
  rw [hWd] at hHeld ⊢
  refine with_tabW reatab6 reabits6 (fun HT_ HW_ => ?_)
  refine zp 0 31 (h := ?_)
  refine zp 1 32 (h := ?_)
  refine zp 2 33 (h := ?_)
  refine zt 3 34 (hy := by
    intro w' hw'
    obtain ⟨x0, x1, x2, x3, x4, x5, x6, x7, x8⟩ := HXC.out w' hw'
    first | (go_simp; with_reducible rfl)) (h := ?_)
  refine zp 4 35 (h := ?_)
  refine zp 5 36 (h := ?_)
  refine zt 6 37 (hy := by
    intro w' hw'
    obtain ⟨x0, x1, x2, x3, x4, x5, x6, x7, x8⟩ := HXC.out w' hw'
    first | (go_simp; with_reducible rfl)) (h := ?_)
  refine zo 7 38 (h := fun K hK => ?_)
  refine zg Try.func29 #[.pointer (some ⟨r.Br, 0, none⟩), .int .i64 Y] (h := ?_)
  refine (sr_in HRR.out HST.out HLO.out Y).mono ?_
  rintro e W8 ⟨A8, c8, rfl, hC_, hst_⟩
  refine ⟨_, rfl, ?_⟩
  have HST := zm hst_
  have HC8 := zm hC_
  clear hst_ hC_
  refine hK.out _ _ HST.out.x (fun hHeld => ?_)
  clear hK K
  refine zn (h := ?_)
  refine zo 8 39 (h := fun K hK => ?_)
  refine zg Try.func26 #[.pointer (some ⟨r.Br, 0, none⟩), .int .i64 3, .int .i64 c, .string s, .slice A8 (bsL r.l 9 Y).length c8] (h := ?_)
  refine (sr_asks HRR.out HST.out HGK.out rfl HC8.out).mono ?_
  rintro e W9 ⟨rfl, hst_, hg_⟩
  refine ⟨_, rfl, ?_⟩
  have HST := zm hst_
  have HGK := zm hg_
  clear hst_ hg_
  refine hK.out _ _ HST.out.x (fun hHeld => ?_)
  clear hK K
  refine zn (h := ?_)
  refine done_ (done_of HT_.out (by kernel_rfl)) ?_
  clear hHeld
  go_wp2
  go_end0
  exact ⟨rfl, H1.out.rebase HST.out, HGK.out⟩
 by_cases h7 : k = 7
 ·subst h7
  have HGK := zm (show Ls.Good n (L ++ (askL 8 c noS (bsL r.l 9 Y) ++ R)) from HG.out)
  go_wp2_with fail
  rw [← HWB.out]
  clear x0 x1 x2 x3 x4 x5 x6 x7 x8 HWB
  refine (sr_in HRR.out HST.out HLO.out (Y)).mono ?_
  rintro e W5 ⟨A8, c8, rfl, hC_, hst_⟩
  have HST := zm hst_
  have HC8 := zm hC_
  clear hst_ hC_
  go_wp2_with fail
  refine (sr_asks HRR.out HST.out HGK.out rfl (HC8.out)).mono ?_
  rintro e W6 ⟨rfl, hst_, hg_⟩
  have HST := zm hst_
  have HGK := zm hg_
  clear hst_ hg_
  go_wp2
  go_end0
  exact ⟨rfl, H1.out.rebase HST.out, HGK.out⟩
 by_cases h8 : k = 8
 ·subst h8
  by_cases hz : 0 ≤ Z
  ·have HEQ := zm (show eachL r ⟨8, F, X, Y, Z, N, M, s, al⟩ c = callL r ⟨M, bsL r.l 9 Z, al, -1, Y, N⟩ c by simp [eachL, if_pos hz])
   have HGK := zm (show Ls.Good n (L ++ (callL r ⟨M, bsL r.l 9 Z, al, -1, Y, N⟩ c ++ R)) by rw [← HEQ.out]; exact HG.out)
   go_wp2_with fail
   rw [← HWB.out]
   clear x0 x1 x2 x3 x4 x5 x6 x7 x8 HWB
   refine (sr_in HRR.out HST.out HLO.out (Z)).mono ?_
   rintro e W5 ⟨A8, c8, rfl, hC_, hst_⟩
   have HST := zm hst_
   have HC8 := zm hC_
   clear hst_ hC_
   obtain ⟨x0, x1, x2, x3, x4, x5, x6, x7, x8⟩ := HXC.out W5 HST.out.x
   go_wp2_with fail
   clear x0 x1 x2 x3 x4 x5 x6 x7 x8
   refine (called_calls HRR.out HST.out ⟨M, bsL r.l 9 Z, al, -1, Y, N⟩ c HGK.out HC8.out (HAR.out _ HST.out.x) HLO.out hfl hs0).mono ?_
   rintro e W9 ⟨rfl, hst_, hg_⟩
   have HST := zm hst_
   have HGK := zm hg_
   clear hst_ hg_
   go_wp2
   go_end0
   rw [HEQ.out]
   exact ⟨rfl, H1.out.rebase HST.out, HGK.out⟩
  ·have HEQ := zm (show eachL r ⟨8, F, X, Y, Z, N, M, s, al⟩ c = callL r ⟨M, [], al, -1, Y, N⟩ c by simp [eachL, if_neg hz])
   have HGK := zm (show Ls.Good n (L ++ (callL r ⟨M, [], al, -1, Y, N⟩ c ++ R)) by rw [← HEQ.out]; exact HG.out)
   go_wp2_with fail
   rw [← HWB.out]
   clear x0 x1 x2 x3 x4 x5 x6 x7 x8 HWB
   refine (called_calls HRR.out HST.out ⟨M, [], al, -1, Y, N⟩ c HGK.out (Kd.C_nil _ _) (HAR.out _ HST.out.x) HLO.out hfl hs0).mono ?_
   rintro e W9 ⟨rfl, hst_, hg_⟩
   have HST := zm hst_
   have HGK := zm hg_
   clear hst_ hg_
   go_wp2
   go_end0
   rw [HEQ.out]
   exact ⟨rfl, H1.out.rebase HST.out, HGK.out⟩
 by_cases h9 : k = 9
 ·subst h9
  go_wp2
  rw [← HWB.out]
  clear x0 x1 x2 x3 x4 x5 x6 x7 x8 HWB
  go_loopg [7, 8] (r.fs.length - 1) (fun kq v7 v8 W_ => ∃ g : Nat, v8 = .int .i64 g ∧ v7 = .bool (((r.fs.take g).drop 1).any (fun f => f.f0 == c)) ∧ g + kq = r.fs.length ∧ 1 ≤ g ∧ SR r w0 L Wb W_)
  case atStart => exact ⟨1, rfl, by rw [show (r.fs.take 1).drop 1 = [] by cases r.fs <;> rfl]; rfl, by omega, by omega, HST.out⟩
  case round =>
   clear HST
   obtain ⟨g, rfl, rfl, hgk, hg1, hst⟩ := hrel
   have HST := zm hst
   clear hst
   obtain ⟨A1v, hA1v⟩ : ∃ A, r.A1 = A := ⟨_, rfl⟩
   have HA1V := zm hA1v
   have d1 : wr.cell? ⟨r.Br, 1, none⟩ = some (.slice A1v r.fs.length r.c1) := by rw [← hA1v]; exact HST.out.x.flds.2.1
   clear hA1v
   by_cases hlt : g < r.fs.length
   ·obtain ⟨ad, A1_, c1_, hA1, hd0, hd1, hd2, hd3, hd4, hpl, hpc⟩ := at_T44 (Kd.C_below HRR.out.hf HST.out.bel) (g : Int) (by omega) (by omega)
    rw [Int.toNat_natCast] at hd0
    obtain rfl : A1v = some ad := HA1V.out.symm.trans hA1
    have HAN := zm (any_drop_take r.fs (fun f => f.f0 == c) z44 g hg1 hlt)
    have hgd : r.fs.getD g z44 = rd_T44 r.fs (g : Int) := by unfold rd_T44; rw [Int.toNat_natCast]
    rw [hgd] at HAN
    clear hA1 hd1 hd2 hd3 hd4 hpl hpc hgd
    generalize (rd_T44 r.fs (g : Int)).f0 = m at *
    generalize ((r.fs.take g).drop 1).any (fun f => f.f0 == c) = q at *
    cases q
    ·go_wp2
     go_roundg (gk - 1)
     case measure => omega
     case rel => exact ⟨g + 1, by go_num, by rw [HAN.out]; rfl, by omega, by omega, HST.out⟩
    ·go_wp2
     go_roundg (gk - 1)
     case measure => omega
     case rel => exact ⟨g + 1, by go_num, by rw [HAN.out]; rfl, by omega, by omega, HST.out⟩
   ·obtain rfl : g = r.fs.length := by omega
    have HB := zm (show ((r.fs.take r.fs.length).drop 1).any (fun f => f.f0 == c) = isFunB r.fs c by rw [List.take_length]; rfl)
    rw [HB.out]
    by_cases hB : isFunB r.fs c = true
    ·have HEQ := zm (show eachL r ⟨9, F, X, Y, Z, N, M, s, al⟩ c = askL 9 Y noS [M] ++ (askL 4 M noS [0] ++ (askL 4 M noS (loadsL r.l (askOk protoS false) c) ++ callL r ⟨M, [M], al, -1, Y, N⟩ c)) by rw [← askOk_false]; simp [eachL, hB])
     have HGK := zm (show Ls.Good n (L ++ (askL 9 Y noS [M] ++ (askL 4 M noS [0] ++ (askL 4 M noS (loadsL r.l (askOk protoS false) c) ++ (callL r ⟨M, [M], al, -1, Y, N⟩ c ++ R))))) by
      have h9 := HG.out
      rw [HEQ.out] at h9
      simpa only [List.append_assoc] using h9)
     rw [hB]
     obtain ⟨x0, x1, x2, x3, x4, x5, x6, x7, x8⟩ := HXC.out wr HST.out.x
     go_wp2_with fail
     clear x0 x1 x2 x3 x4 x5 x6 x7 x8 hB d1
     refine (sr_ask1 HRR.out HST.out HGK.out rfl).mono ?_
     rintro e W3 ⟨rfl, hst_, hg_⟩
     have HST := zm hst_
     have HGK := zm hg_
     clear hst_ hg_
     obtain ⟨x0, x1, x2, x3, x4, x5, x6, x7, x8⟩ := HXC.out W3 HST.out.x
     go_wp2_with fail
     clear x0 x1 x2 x3 x4 x5 x6 x7 x8
     refine (sr_ask1 HRR.out HST.out HGK.out rfl).mono ?_
     rintro e W4 ⟨rfl, hst_, hg_⟩
     have HST := zm hst_
     have HGK := zm hg_
     clear hst_ hg_
     go_wp2
     obtain ⟨Wd, hWd⟩ : ∃ Wd, W4.drew = Wd := ⟨_, rfl⟩
     have HST := zm (HST.out.quiet (W' := Wd) (by rw [← hWd]; exact below_drew (Below.refl _ _)))
     refine start_ (n := 10) (S := fun W' => SRx r w0 Wb W') (ds := []) #[false, false, false, false, false, false, false, false, false, false] (by kernel_rfl) rfl rfl (by rw [hWd]; exact HST.out.x) (fun hHeld => ?_)
     rw [hWd] at hHeld ⊢
     refine with_tabW reatab23 reabits23 (fun HT_ HW_ => ?_)
     refine zp 0 109 (h := ?_)
     refine zp 1 110 (h := ?_)
     refine zt 2 111 (hy := by
       intro w' hw'
       obtain ⟨x0, x1, x2, x3, x4, x5, x6, x7, x8⟩ := HXC.out w' hw'
       first | (go_simp; with_reducible rfl)) (h := ?_)
     refine zp 3 112 (h := ?_)
     refine zp 4 113 (h := ?_)
     refine zp 5 114 (h := ?_)
     refine zt 6 115 (hy := by
       intro w' hw'
       obtain ⟨d0, d1, d2, d3⟩ := hw'.flds
       first | (go_simp; with_reducible rfl)) (h := ?_)
     refine zp 7 116 (h := ?_)
     refine zo 8 117 (h := fun K hK => ?_)
     refine zg Try.func30 #[.slice r.A3 r.l.length r.c3, .int .i64 c, .string protoS, .bool false] (h := ?_)
     refine (sr_load HRR.out HST.out HLO.out c protoS false).mono ?_
     rintro e W8 ⟨A8, c8, ys8, rfl, hC_, hm_, hy_, hst_⟩
     refine ⟨_, rfl, ?_⟩
     have HST := zm hst_
     have HC8 := zm hC_
     have HM8 := zm hm_
     have HY8 := zm hy_
     clear hst_ hC_ hm_ hy_
     refine hK.out _ _ HST.out.x (fun hHeld => ?_)
     clear hK K
     refine zn (h := ?_)
     refine zo 9 118 (h := fun K hK => ?_)
     refine zg Try.func26 #[.pointer (some ⟨r.Br, 0, none⟩), .int .i64 4, .int .i64 M, .string ⟨#[]⟩, .slice A8 ys8.length c8] (h := ?_)
     refine (sr_asks_mem HRR.out HST.out HM8.out HY8.out HGK.out rfl HC8.out).mono ?_
     rintro e W9 ⟨rfl, hst_, hg_⟩
     refine ⟨_, rfl, ?_⟩
     have HST := zm hst_
     have HGK := zm hg_
     clear hst_ hg_
     refine hK.out _ _ HST.out.x (fun hHeld => ?_)
     clear hK K
     refine zn (h := ?_)
     refine done_ (done_of HT_.out (by kernel_rfl)) ?_
     clear hHeld
     obtain ⟨x0, x1, x2, x3, x4, x5, x6, x7, x8⟩ := HXC.out W9 HST.out.x
     have hlx : W.heap.size < W9.heap.size := by have := World.block_lt_of_cell? W9 _ x0; simpa using this
     have y3 : (W9.alloc (.cells #[.int .i64 M] 3)).cell? ⟨W.heap.size, 3, none⟩ = some (.int .i64 Y) := by rw [← x3]; exact World.cell?_of_block (Below.heap_alloc _ _ _ hlx)
     have y5 : (W9.alloc (.cells #[.int .i64 M] 3)).cell? ⟨W.heap.size, 5, none⟩ = some (.int .i64 N) := by rw [← x5]; exact World.cell?_of_block (Below.heap_alloc _ _ _ hlx)
     have y8 : (W9.alloc (.cells #[.int .i64 M] 3)).cell? ⟨W.heap.size, 8, none⟩ = some (.slice Al al.length cl) := by rw [← x8]; exact World.cell?_of_block (Below.heap_alloc _ _ _ hlx)
     go_wp2_with fail
     clear x0 x1 x2 x3 x4 x5 x6 x7 x8 y3 y5 y8 hlx
     have HST := zm (HST.out.quiet (W' := W9.alloc (.cells #[.int .i64 M] 3)) (below_alloc (Below.refl _ _) _))
     refine (called_calls HRR.out HST.out ⟨M, [M], al, -1, Y, N⟩ c HGK.out (At := some ⟨W9.heap.size, 0, none⟩) (ct := 1) (C_one (cell_of_blk (heap_alloc_new _ _)).1) (HAR.out _ HST.out.x) HLO.out hfl hs0).mono ?_
     rintro e WA ⟨rfl, hst_, hg_⟩
     have HST := zm hst_
     have HGK := zm hg_
     clear hst_ hg_
     go_wp2
     go_end0
     have e : L ++ eachL r ⟨9, F, X, Y, Z, N, M, s, al⟩ c = L ++ askL 9 Y noS [M] ++ askL 4 M noS [0] ++ askL 4 M noS (loadsL r.l (askOk protoS false) c) ++ callL r ⟨M, [M], al, -1, Y, N⟩ c := by
      rw [HEQ.out]
      simp only [List.append_assoc]
     rw [e]
     exact ⟨rfl, H1.out.rebase HST.out, HGK.out⟩
    ·have hB' : isFunB r.fs c = false := by simpa using hB
     have HEQ := zm (show eachL r ⟨9, F, X, Y, Z, N, M, s, al⟩ c = [] by simp [eachL, hB'])
     rw [hB']
     clear hB hB'
     go_wp2
     go_end0
     rw [HEQ.out, List.append_nil]
     refine ⟨rfl, H1.out.rebase HST.out, ?_⟩
     have h9 := HG.out
     rw [HEQ.out, List.nil_append] at h9
     exact h9
 have hk4 : (k == 4) = false := by simp [h4]
 have hk5 : (k == 5) = false := by simp [h5]
 have hk6 : (k == 6) = false := by simp [h6]
 have hk7 : (k == 7) = false := by simp [h7]
 have hk8 : (k == 8) = false := by simp [h8]
 have hk9 : (k == 9) = false := by simp [h9]
 have HEQ := zm (show eachL r ⟨k, F, X, Y, Z, N, M, s, al⟩ c = [] by simp [eachL, h4, h5, h6, h7, h8, h9])
 clear h4 h5 h6 h7 h8 h9
 go_wp2
 go_end0
 rw [HEQ.out, List.append_nil]
 refine ⟨rfl, ?_, ?_⟩
 ·rw [← HWB.out]
  exact H1.out.rebase HST.out
 ·have h9 := HG.out
  rw [HEQ.out, List.nil_append] at h9
  exact h9
end Go.Proofs.Ytngppcmdaanheaa.Lu
namespace Go.Proofs.Ytngppcmdaanheaa.Lu
open Go.RowKit Go.Maps Go.Proofs.Ytngppcmdaanheaa.Iter Go.Proofs.Ytngppcmdaanheaa.ISet Go.Proofs.Ytngppcmdaanheaa.Pr Go.Proofs.Ytngppcmdaanheaa.Ls Go.Proofs.Ytngppcmdaanheaa.Ext Go.Proofs.YtngppcmdaanheaaW.PrintWords Go.Proofs.YtngppcmdaanheaaW.PrintLast Go.Proofs.YtngppcmdaanheaaW.PrintMore
set_option linter.unusedVariables false
set_option linter.unusedSimpArgs false
attribute [local go_sem] Oper.semAt_some
def rruT7 : Bool × List (List Nat × List Nat) := (true, [([], []), ([0], [0]), ([1], [1]), ([2], [2]), ([3], [3]), ([], []), ([5], [5]), ([4, 6], [4, 6]), ([7], [7]), ([8], [8]), ([9, 0, 1, 2, 3, 4, 5, 6, 7, 8, 9], [9])])
def rruB7 : List Nat := [0, 1, 3, 7, 15, 0, 32, 127, 255, 511, 1023]
theorem rrutab7 : rtab .any (opsOf Try.f28 7) = rruT7 := by kernel_rfl
theorem rrubits7 : waitsOk rruT7.2 rruB7 = true := by kernel_rfl
def rruT17 : Bool × List (List Nat × List Nat) := (true, [([], []), ([], []), ([], []), ([], []), ([2, 3], [2, 3]), ([4], [4]), ([0, 1, 5], [0, 1, 5])])
def rruB17 : List Nat := [0, 0, 0, 0, 12, 28, 63]
theorem rrutab17 : rtab .any (opsOf Try.f28 17) = rruT17 := by kernel_rfl
theorem rrubits17 : waitsOk rruT17.2 rruB17 = true := by kernel_rfl
set_option maxHeartbeats 16000000 in
set_option maxRecDepth 100000 in
theorem rule_calls {r : Ro} {w0 W1 W : World} {n : Nat} {L R : List Fa} (h : RR r w0) (hst : SR r w0 L W1 W) (x : Ls.RuT) (hg : Ls.Good n (L ++ (ruleL r x ++ R)))
  {Al : Option Addr} {cl : Nat} (hargs : Kd.C (Kd.int .i64) W Al x.f8.length x.f8) (hlo : LOk r) (hfl : 1 ≤ r.fs.length ∧ r.fs.length ≤ 1000000) (hs0 : 0 ≤ r.s0 ∧ r.s0 ≤ 1000000000)
  (hN : x.f0 = 2 → 0 ≤ x.f5 ∧ x.f5 < r.fs.length ∧ 0 ≤ markOf r x ∧ markOf r x ≤ 1000000) :
  Calls Try.prog 28 #[.pointer (some ⟨r.Br, 0, none⟩), .agg (ruCells x Al cl)] W fun e W' => e = .returned (.tuple #[]) ∧ SR r w0 (L ++ ruleL r x) W1 W' ∧ Ls.Good n ((L ++ ruleL r x) ++ R) := by
 obtain ⟨k, F, X, Y, Z, N, M, s, al⟩ := x
 obtain ⟨Wb, hWb⟩ : ∃ Wb, Wb = W.alloc (.cells (ruCells ⟨k, F, X, Y, Z, N, M, s, al⟩ Al cl) 46) := ⟨_, rfl⟩
 have hbb : Below W.heap.size W Wb := by rw [hWb]; exact below_alloc (Below.refl _ W) _
 have hstb := (hst.quiet hbb).here
 have hne : W.heap.size ≠ r.Br := fun e => absurd hst.lt (by omega)
 have hnb : Wb.heap[W.heap.size]? = some (.cells (ruCells ⟨k, F, X, Y, Z, N, M, s, al⟩ Al cl) 46 (0, 0)) := by rw [hWb]; exact heap_alloc_new _ _
 have HXC := zm (show ∀ W', SRx r w0 Wb W' → RuAt W' W.heap.size k F X Y Z N M s al.length Al cl from fun W' hc => by
  have hc' : ∀ j v, (ruCells ⟨k, F, X, Y, Z, N, M, s, al⟩ Al cl)[j]? = some v → W'.cell? ⟨W.heap.size, j, none⟩ = some v := fun j v hv => hc.cell (by simp [World.cell?, hnb, hv]) hne
  exact ⟨hc' 0 _ rfl, hc' 1 _ rfl, hc' 2 _ rfl, hc' 3 _ rfl, hc' 4 _ rfl, hc' 5 _ rfl, hc' 6 _ rfl, hc' 7 _ rfl, hc' 8 _ rfl⟩)
 have HAR := zm (show ∀ W', SRx r w0 Wb W' → Kd.C (Kd.int .i64) W' Al al.length al from fun W' hc => hc.ints (Kd.C_below hargs hbb))
 have HRR := zm h
 have HST := zm hstb
 have HLO := zm hlo
 have H1 := zm (hst.x.then_below hbb)
 have HG := zm hg
 have HN := zm hN
 have hlen := hlo.len
 clear h hst hg hargs hstb hnb hbb hlo hne hN
 go_enter Try.func28, Try.ntmps28
 obtain ⟨x0, x1, x2, x3, x4, x5, x6, x7, x8⟩ := HXC.out Wb HST.out.x
 rw [hWb] at x0 x1 x2 x3 x4 x5 x6 x7 x8
 go_wp2_with fail
 rw [← hWb]
 clear x0 x1 x2 x3 x4 x5 x6 x7 x8 hWb
 refine (sr_in HRR.out HST.out HLO.out X).mono ?_
 rintro e Wi ⟨Ai, ci, rfl, hC_, hst_⟩
 have HCI := zm hst_.x
 have HBI := zm (show ∀ W', SRx r w0 Wi W' → Kd.C (Kd.int .i64) W' Ai (bsL r.l 9 X).length (bsL r.l 9 X) from fun W' hc => hc.ints hC_)
 have HST := zm hst_.here
 have hbl : (bsL r.l 9 X).length ≤ 900000 := Nat.le_trans (bsL_le _ _ _) hlen
 clear hC_ hst_
 obtain ⟨x0, x1, x2, x3, x4, x5, x6, x7, x8⟩ := HXC.out Wi (HCI.out.then_ HST.out.x)
 by_cases h1 : k = 1
 ·subst h1
  have HEQ := zm (show ruleL r ⟨1, F, X, Y, Z, N, M, s, al⟩ = (askL 9 X noS [M] ++ askL 4 M noS [0]) ++ rg (bsL r.l 9 X).length (fun i => eachL r ⟨1, F, X, Y, Z, N, M, s, al⟩ (rd (bsL r.l 9 X) (i : Int))) from rfl)
  have HGK := zm (show Ls.Good n (L ++ (askL 9 X noS [M] ++ (askL 4 M noS [0] ++ (rg (bsL r.l 9 X).length (fun i => eachL r ⟨1, F, X, Y, Z, N, M, s, al⟩ (rd (bsL r.l 9 X) (i : Int))) ++ R)))) by
   have h9 := HG.out
   rw [HEQ.out] at h9
   simpa only [List.append_assoc] using h9)
  go_wp2_with fail
  clear x0 x1 x2 x3 x4 x5 x6 x7 x8
  refine (sr_ask1 HRR.out HST.out HGK.out rfl).mono ?_
  rintro e W2 ⟨rfl, hst_, hg_⟩
  have HST := zm hst_
  have HGK := zm hg_
  clear hst_ hg_
  obtain ⟨x0, x1, x2, x3, x4, x5, x6, x7, x8⟩ := HXC.out W2 (HCI.out.then_ HST.out.x)
  go_wp2_with fail
  clear x0 x1 x2 x3 x4 x5 x6 x7 x8
  refine (sr_ask1 HRR.out HST.out HGK.out rfl).mono ?_
  rintro e W3 ⟨rfl, hst_, hg_⟩
  have HST := zm hst_
  have HGK := zm hg_
  clear hst_ hg_
  obtain ⟨EF, hEF⟩ : ∃ EF : Nat → List Fa, EF = fun i : Nat => eachL r ⟨1, F, X, Y, Z, N, M, s, al⟩ (rd (bsL r.l 9 X) (i : Int)) := ⟨_, rfl⟩
  obtain ⟨Lc, hLc⟩ : ∃ Lc, Lc = L ++ askL 9 X noS [M] ++ askL 4 M noS [0] := ⟨_, rfl⟩
  have HST4 := zm (show SR r w0 Lc Wi W3 by rw [hLc]; exact HST.out)
  have HG4 := zm (show Ls.Good n (Lc ++ (rg (bsL r.l 9 X).length EF ++ R)) by rw [hLc, hEF]; exact HGK.out)
  have HLC := zm hLc
  have HF := zm hEF
  clear hLc hEF HST HGK
  go_wp2
  go_loopg [6] (bsL r.l 9 X).length (fun jq v6 W_ => ∃ j : Nat, v6 = .int .i64 j ∧ j + jq = (bsL r.l 9 X).length ∧ SR r w0 (Lc ++ rg j EF) Wi W_)
  case atStart => exact ⟨0, rfl, by omega, by rw [rg_zero, List.append_nil]; exact HST4.out⟩
  case round =>
   clear HST4
   obtain ⟨j, rfl, hj, hst⟩ := hrel
   have HST := zm hst
   clear hst
   by_cases hla : j < (bsL r.l 9 X).length
   ·have HGK := zm (HG4.out.loop hla)
    have HPK := zm (congrFun HF.out j)
    have HRJ := zm (rg_succ j EF)
    obtain ⟨ad3, rfl, hp3_⟩ := Kd.at_int (HBI.out _ HST.out.x) (j : Int) (by omega) (by omega)
    clear hp3_
    have HP3 := zm (show ∀ W', SRx r w0 Wi W' → W'.cell? (ad3.add j) = some (.int .i64 (rd (bsL r.l 9 X) (j : Int))) from fun W' hx => by
     obtain ⟨ad3', e, h2⟩ := Kd.at_int (HBI.out _ hx) (j : Int) (by omega) (by omega)
     cases e
     rwa [Int.toNat_natCast] at h2)
    generalize rd (bsL r.l 9 X) (j : Int) = av at *
    generalize EF j = PJ at *
    rw [HPK.out] at HGK
    go_wp2
    obtain ⟨Wd, hWd⟩ : ∃ Wd, wr.drew = Wd := ⟨_, rfl⟩
    have HST := zm (HST.out.quiet (W' := Wd) (by rw [← hWd]; exact below_drew (Below.refl _ _)))
    refine start_ (n := 7) (S := fun W' => SRx r w0 Wi W') (ds := []) #[false, false, false, false, false, false, false] (by kernel_rfl) rfl rfl (by rw [hWd]; exact HST.out.x) (fun hHeld => ?_)
    rw [hWd] at hHeld ⊢
    refine with_tabW rrutab17 rrubits17 (fun HT_ HW_ => ?_)
    refine zp 0 73 (h := ?_)
    refine zt 1 74 (hy := by
      intro w' hw'
      obtain ⟨x0, x1, x2, x3, x4, x5, x6, x7, x8⟩ := HXC.out w' (HCI.out.then_ hw')
      first | (go_simp; with_reducible rfl)) (h := ?_)
    refine zp 2 75 (h := ?_)
    refine zp 3 76 (h := ?_)
    refine zp 4 77 (h := ?_)
    refine zt 5 78 (hy := by
      intro w' hw'
      have hp3 := HP3.out w' hw'
      first | (go_simp; with_reducible rfl)) (h := ?_)
    refine zo 6 79 (h := fun K hK => ?_)
    refine zg Try.func44 #[.pointer (some ⟨r.Br, 0, none⟩), .agg (ruCells ⟨1, F, X, Y, Z, N, M, s, al⟩ Al cl), .int .i64 av] (h := ?_)
    refine (each_calls HRR.out HST.out ⟨1, F, X, Y, Z, N, M, s, al⟩ av HGK.out (HAR.out _ (HCI.out.then_ HST.out.x)) HLO.out hfl hs0).mono ?_
    rintro e W9 ⟨rfl, hst_, hg_⟩
    refine ⟨_, rfl, ?_⟩
    have HST := zm hst_
    clear hst_ hg_
    refine hK.out _ _ HST.out.x (fun hHeld => ?_)
    clear hK K
    refine zn (h := ?_)
    refine done_ (done_of HT_.out (by kernel_rfl)) ?_
    clear hHeld
    go_wp2
    go_roundg (gk - 1)
    case measure => omega
    case rel => exact ⟨j + 1, by go_num, by omega, by rw [HRJ.out, HPK.out, ← List.append_assoc]; exact HST.out⟩
   ·obtain rfl : j = (bsL r.l 9 X).length := by omega
    have HGK := zm (HG4.out.next)
    clear HG4
    go_wp2
    go_end0
    have e : L ++ ruleL r ⟨1, F, X, Y, Z, N, M, s, al⟩ = Lc ++ rg (bsL r.l 9 X).length EF := by
     rw [HEQ.out, HLC.out, HF.out]
     simp only [List.append_assoc, List.nil_append, List.append_nil]
    rw [e]
    exact ⟨rfl, H1.out.rebase (HCI.out.rebase HST.out), HGK.out⟩
 by_cases h2 : k = 2
 ·subst h2
  obtain ⟨hn0, hn1, hm0, hm1⟩ := HN.out rfl
  obtain ⟨A1v, hA1v⟩ : ∃ A, r.A1 = A := ⟨_, rfl⟩
  obtain ⟨ad1, A1_, c1_, hA1, hd0, hd1, hd2, hd3, hd4, hpl, hpc⟩ := at_T44 (Kd.C_below HRR.out.hf HST.out.bel) N hn0 hn1
  obtain rfl : A1v = some ad1 := hA1v.symm.trans hA1
  have HD1 := zm (show ∀ W', SRx r w0 Wi W' → W'.cell? ⟨r.Br, 1, none⟩ = some (.slice (some ad1) r.fs.length r.c1) from fun W' hx => by rw [← hA1v]; exact hx.flds.2.1)
  have HFM := zm (show ∀ W', SRx r w0 Wi W' → W'.cell? (ad1.add (N.toNat * 5)) = some (.int .i64 (markOf r ⟨2, F, X, Y, Z, N, M, s, al⟩)) from fun W' hc => hc.intCell hd0)
  clear hA1 hd0 hd1 hd2 hd3 hd4 hpl hpc HN hA1v
  have HEQ := zm (show ruleL r ⟨2, F, X, Y, Z, N, M, s, al⟩ = (askL 9 X noS [markOf r ⟨2, F, X, Y, Z, N, M, s, al⟩] ++ (askL 3 (markOf r ⟨2, F, X, Y, Z, N, M, s, al⟩) protoS [markOf r ⟨2, F, X, Y, Z, N, M, s, al⟩ + 1] ++ (askL 4 (markOf r ⟨2, F, X, Y, Z, N, M, s, al⟩) noS [1] ++ askL 4 (markOf r ⟨2, F, X, Y, Z, N, M, s, al⟩ + 1) noS [0]))) ++ rg (bsL r.l 9 X).length (fun i => eachL r ⟨2, F, X, Y, Z, N, M, s, al⟩ (rd (bsL r.l 9 X) (i : Int))) from rfl)
  generalize markOf r ⟨2, F, X, Y, Z, N, M, s, al⟩ = m at *
  have HGK := zm (show Ls.Good n (L ++ (askL 9 X noS [m] ++ (askL 3 m protoS [m + 1] ++ (askL 4 m noS [1] ++ (askL 4 (m + 1) noS [0] ++ (rg (bsL r.l 9 X).length (fun i => eachL r ⟨2, F, X, Y, Z, N, M, s, al⟩ (rd (bsL r.l 9 X) (i : Int))) ++ R)))))) by
   have h9 := HG.out
   rw [HEQ.out] at h9
   simpa only [List.append_assoc] using h9)
  have hw1 : wrap64 (m + 1) = m + 1 := by unfold wrap64; omega
  go_wp2
  clear x0 x1 x2 x3 x4 x5 x6 x7 x8
  obtain ⟨Wd, hWd⟩ : ∃ Wd, Wi.drew = Wd := ⟨_, rfl⟩
  have HST := zm (HST.out.quiet (W' := Wd) (by rw [← hWd]; exact below_drew (Below.refl _ _)))
  refine start_ (n := 11) (S := fun W' => SRx r w0 Wi W') (ds := []) #[false, false, false, false, false, false, false, false, false, false, false] (by kernel_rfl) rfl rfl (by rw [hWd]; exact HST.out.x) (fun hHeld => ?_)
  rw [hWd] at hHeld ⊢
  refine with_tabW rrutab7 rrubits7 (fun HT_ HW_ => ?_)
  refine zp 0 29 (h := ?_)
  refine zp 1 30 (h := ?_)
  refine zp 2 31 (h := ?_)
  refine zp 3 32 (h := ?_)
  refine zt 4 33 (hy := by
    intro w' hw'
    have d1 := HD1.out w' hw'
    first | (go_simp; with_reducible rfl)) (h := ?_)
  refine zp 5 34 (h := ?_)
  refine zt 6 35 (hy := by
    intro w' hw'
    obtain ⟨x0, x1, x2, x3, x4, x5, x6, x7, x8⟩ := HXC.out w' (HCI.out.then_ hw')
    first | (go_simp; with_reducible rfl)) (h := ?_)
  refine zp 7 36 (h := ?_)
  refine zp 8 37 (h := ?_)
  refine zt 9 38 (hy := by
    intro w' hw'
    have d4 := HFM.out w' hw'
    first | (go_simp; with_reducible rfl)) (h := ?_)
  refine zp 10 5 (h := ?_)
  refine done_ (done_of HT_.out (by kernel_rfl)) ?_
  clear hHeld
  obtain ⟨x0, x1, x2, x3, x4, x5, x6, x7, x8⟩ := HXC.out Wd (HCI.out.then_ HST.out.x)
  go_wp2_with fail
  clear x0 x1 x2 x3 x4 x5 x6 x7 x8
  refine (sr_ask1 HRR.out HST.out HGK.out rfl).mono ?_
  rintro e W2 ⟨rfl, hst_, hg_⟩
  have HST := zm hst_
  have HGK := zm hg_
  clear hst_ hg_
  obtain ⟨x0, x1, x2, x3, x4, x5, x6, x7, x8⟩ := HXC.out W2 (HCI.out.then_ HST.out.x)
  go_wp2_with fail
  clear x0 x1 x2 x3 x4 x5 x6 x7 x8
  refine (sr_ask1 HRR.out HST.out HGK.out rfl).mono ?_
  rintro e W3 ⟨rfl, hst_, hg_⟩
  have HST := zm hst_
  have HGK := zm hg_
  clear hst_ hg_
  obtain ⟨x0, x1, x2, x3, x4, x5, x6, x7, x8⟩ := HXC.out W3 (HCI.out.then_ HST.out.x)
  go_wp2_with fail
  clear x0 x1 x2 x3 x4 x5 x6 x7 x8
  refine (sr_ask1 HRR.out HST.out HGK.out rfl).mono ?_
  rintro e W4 ⟨rfl, hst_, hg_⟩
  have HST := zm hst_
  have HGK := zm hg_
  clear hst_ hg_
  obtain ⟨x0, x1, x2, x3, x4, x5, x6, x7, x8⟩ := HXC.out W4 (HCI.out.then_ HST.out.x)
  go_wp2_with fail
  clear x0 x1 x2 x3 x4 x5 x6 x7 x8
  refine (sr_ask1 HRR.out HST.out HGK.out rfl).mono ?_
  rintro e W5 ⟨rfl, hst_, hg_⟩
  have HST := zm hst_
  have HGK := zm hg_
  clear hst_ hg_
  obtain ⟨EF, hEF⟩ : ∃ EF : Nat → List Fa, EF = fun i : Nat => eachL r ⟨2, F, X, Y, Z, N, M, s, al⟩ (rd (bsL r.l 9 X) (i : Int)) := ⟨_, rfl⟩
  obtain ⟨Lc, hLc⟩ : ∃ Lc, Lc = L ++ askL 9 X noS [m] ++ askL 3 m protoS [m + 1] ++ askL 4 m noS [1] ++ askL 4 (m + 1) noS [0] := ⟨_, rfl⟩
  have HST4 := zm (show SR r w0 Lc Wi W5 by rw [hLc]; exact HST.out)
  have HG4 := zm (show Ls.Good n (Lc ++ (rg (bsL r.l 9 X).length EF ++ R)) by rw [hLc, hEF]; exact HGK.out)
  have HLC := zm hLc
  have HF := zm hEF
  clear hLc hEF HST HGK
  go_wp2
  go_loopg [6] (bsL r.l 9 X).length (fun jq v6 W_ => ∃ j : Nat, v6 = .int .i64 j ∧ j + jq = (bsL r.l 9 X).length ∧ SR r w0 (Lc ++ rg j EF) Wi W_)
  case atStart => exact ⟨0, rfl, by omega, by rw [rg_zero, List.append_nil]; exact HST4.out⟩
  case round =>
   clear HST4
   obtain ⟨j, rfl, hj, hst⟩ := hrel
   have HST := zm hst
   clear hst
   by_cases hla : j < (bsL r.l 9 X).length
   ·have HGK := zm (HG4.out.loop hla)
    have HPK := zm (congrFun HF.out j)
    have HRJ := zm (rg_succ j EF)
    obtain ⟨ad3, rfl, hp3_⟩ := Kd.at_int (HBI.out _ HST.out.x) (j : Int) (by omega) (by omega)
    clear hp3_
    have HP3 := zm (show ∀ W', SRx r w0 Wi W' → W'.cell? (ad3.add j) = some (.int .i64 (rd (bsL r.l 9 X) (j : Int))) from fun W' hx => by
     obtain ⟨ad3', e, h2⟩ := Kd.at_int (HBI.out _ hx) (j : Int) (by omega) (by omega)
     cases e
     rwa [Int.toNat_natCast] at h2)
    generalize rd (bsL r.l 9 X) (j : Int) = av at *
    generalize EF j = PJ at *
    rw [HPK.out] at HGK
    go_wp2
    obtain ⟨Wd, hWd⟩ : ∃ Wd, wr.drew = Wd := ⟨_, rfl⟩
    have HST := zm (HST.out.quiet (W' := Wd) (by rw [← hWd]; exact below_drew (Below.refl _ _)))
    refine start_ (n := 7) (S := fun W' => SRx r w0 Wi W') (ds := []) #[false, false, false, false, false, false, false] (by kernel_rfl) rfl rfl (by rw [hWd]; exact HST.out.x) (fun hHeld => ?_)
    rw [hWd] at hHeld ⊢
    refine with_tabW rrutab17 rrubits17 (fun HT_ HW_ => ?_)
    refine zp 0 73 (h := ?_)
    refine zt 1 74 (hy := by
      intro w' hw'
      obtain ⟨x0, x1, x2, x3, x4, x5, x6, x7, x8⟩ := HXC.out w' (HCI.out.then_ hw')
      first | (go_simp; with_reducible rfl)) (h := ?_)
    refine zp 2 75 (h := ?_)
    refine zp 3 76 (h := ?_)
    refine zp 4 77 (h := ?_)
    refine zt 5 78 (hy := by
      intro w' hw'
      have hp3 := HP3.out w' hw'
      first | (go_simp; with_reducible rfl)) (h := ?_)
    refine zo 6 79 (h := fun K hK => ?_)
    refine zg Try.func44 #[.pointer (some ⟨r.Br, 0, none⟩), .agg (ruCells ⟨2, F, X, Y, Z, N, M, s, al⟩ Al cl), .int .i64 av] (h := ?_)
    refine (each_calls HRR.out HST.out ⟨2, F, X, Y, Z, N, M, s, al⟩ av HGK.out (HAR.out _ (HCI.out.then_ HST.out.x)) HLO.out hfl hs0).mono ?_
    rintro e W9 ⟨rfl, hst_, hg_⟩
    refine ⟨_, rfl, ?_⟩
    have HST := zm hst_
    clear hst_ hg_
    refine hK.out _ _ HST.out.x (fun hHeld => ?_)
    clear hK K
    refine zn (h := ?_)
    refine done_ (done_of HT_.out (by kernel_rfl)) ?_
    clear hHeld
    go_wp2
    go_roundg (gk - 1)
    case measure => omega
    case rel => exact ⟨j + 1, by go_num, by omega, by rw [HRJ.out, HPK.out, ← List.append_assoc]; exact HST.out⟩
   ·obtain rfl : j = (bsL r.l 9 X).length := by omega
    have HGK := zm (HG4.out.next)
    clear HG4
    go_wp2
    go_end0
    have e : L ++ ruleL r ⟨2, F, X, Y, Z, N, M, s, al⟩ = Lc ++ rg (bsL r.l 9 X).length EF := by
     rw [HEQ.out, HLC.out, HF.out]
     simp only [List.append_assoc, List.nil_append, List.append_nil]
    rw [e]
    exact ⟨rfl, H1.out.rebase (HCI.out.rebase HST.out), HGK.out⟩
 by_cases h3 : k = 3
 ·subst h3
  have HEQ := zm (show ruleL r ⟨3, F, X, Y, Z, N, M, s, al⟩ = askL 9 Y noS (bsL r.l 9 X) ++ rg (bsL r.l 9 X).length (fun i => eachL r ⟨3, F, X, Y, Z, N, M, s, al⟩ (rd (bsL r.l 9 X) (i : Int))) from rfl)
  have HGK := zm (show Ls.Good n (L ++ (askL 9 Y noS (bsL r.l 9 X) ++ (rg (bsL r.l 9 X).length (fun i => eachL r ⟨3, F, X, Y, Z, N, M, s, al⟩ (rd (bsL r.l 9 X) (i : Int))) ++ R))) by
   have h9 := HG.out
   rw [HEQ.out] at h9
   simpa only [List.append_assoc] using h9)
  go_wp2_with fail
  clear x0 x1 x2 x3 x4 x5 x6 x7 x8
  refine (sr_asks HRR.out HST.out HGK.out rfl (HBI.out _ HST.out.x)).mono ?_
  rintro e W2 ⟨rfl, hst_, hg_⟩
  have HST := zm hst_
  have HGK := zm hg_
  clear hst_ hg_
  obtain ⟨EF, hEF⟩ : ∃ EF : Nat → List Fa, EF = fun i : Nat => eachL r ⟨3, F, X, Y, Z, N, M, s, al⟩ (rd (bsL r.l 9 X) (i : Int)) := ⟨_, rfl⟩
  obtain ⟨Lc, hLc⟩ : ∃ Lc, Lc = L ++ askL 9 Y noS (bsL r.l 9 X) := ⟨_, rfl⟩
  have HST4 := zm (show SR r w0 Lc Wi W2 by rw [hLc]; exact HST.out)
  have HG4 := zm (show Ls.Good n (Lc ++ (rg (bsL r.l 9 X).length EF ++ R)) by rw [hLc, hEF]; exact HGK.out)
  have HLC := zm hLc
  have HF := zm hEF
  clear hLc hEF HST HGK
  go_wp2
  go_loopg [6] (bsL r.l 9 X).length (fun jq v6 W_ => ∃ j : Nat, v6 = .int .i64 j ∧ j + jq = (bsL r.l 9 X).length ∧ SR r w0 (Lc ++ rg j EF) Wi W_)
  case atStart => exact ⟨0, rfl, by omega, by rw [rg_zero, List.append_nil]; exact HST4.out⟩
  case round =>
   clear HST4
   obtain ⟨j, rfl, hj, hst⟩ := hrel
   have HST := zm hst
   clear hst
   by_cases hla : j < (bsL r.l 9 X).length
   ·have HGK := zm (HG4.out.loop hla)
    have HPK := zm (congrFun HF.out j)
    have HRJ := zm (rg_succ j EF)
    obtain ⟨ad3, rfl, hp3_⟩ := Kd.at_int (HBI.out _ HST.out.x) (j : Int) (by omega) (by omega)
    clear hp3_
    have HP3 := zm (show ∀ W', SRx r w0 Wi W' → W'.cell? (ad3.add j) = some (.int .i64 (rd (bsL r.l 9 X) (j : Int))) from fun W' hx => by
     obtain ⟨ad3', e, h2⟩ := Kd.at_int (HBI.out _ hx) (j : Int) (by omega) (by omega)
     cases e
     rwa [Int.toNat_natCast] at h2)
    generalize rd (bsL r.l 9 X) (j : Int) = av at *
    generalize EF j = PJ at *
    rw [HPK.out] at HGK
    go_wp2
    obtain ⟨Wd, hWd⟩ : ∃ Wd, wr.drew = Wd := ⟨_, rfl⟩
    have HST := zm (HST.out.quiet (W' := Wd) (by rw [← hWd]; exact below_drew (Below.refl _ _)))
    refine start_ (n := 7) (S := fun W' => SRx r w0 Wi W') (ds := []) #[false, false, false, false, false, false, false] (by kernel_rfl) rfl rfl (by rw [hWd]; exact HST.out.x) (fun hHeld => ?_)
    rw [hWd] at hHeld ⊢
    refine with_tabW rrutab17 rrubits17 (fun HT_ HW_ => ?_)
    refine zp 0 73 (h := ?_)
    refine zt 1 74 (hy := by
      intro w' hw'
      obtain ⟨x0, x1, x2, x3, x4, x5, x6, x7, x8⟩ := HXC.out w' (HCI.out.then_ hw')
      first | (go_simp; with_reducible rfl)) (h := ?_)
    refine zp 2 75 (h := ?_)
    refine zp 3 76 (h := ?_)
    refine zp 4 77 (h := ?_)
    refine zt 5 78 (hy := by
      intro w' hw'
      have hp3 := HP3.out w' hw'
      first | (go_simp; with_reducible rfl)) (h := ?_)
    refine zo 6 79 (h := fun K hK => ?_)
    refine zg Try.func44 #[.pointer (some ⟨r.Br, 0, none⟩), .agg (ruCells ⟨3, F, X, Y, Z, N, M, s, al⟩ Al cl), .int .i64 av] (h := ?_)
    refine (each_calls HRR.out HST.out ⟨3, F, X, Y, Z, N, M, s, al⟩ av HGK.out (HAR.out _ (HCI.out.then_ HST.out.x)) HLO.out hfl hs0).mono ?_
    rintro e W9 ⟨rfl, hst_, hg_⟩
    refine ⟨_, rfl, ?_⟩
    have HST := zm hst_
    clear hst_ hg_
    refine hK.out _ _ HST.out.x (fun hHeld => ?_)
    clear hK K
    refine zn (h := ?_)
    refine done_ (done_of HT_.out (by kernel_rfl)) ?_
    clear hHeld
    go_wp2
    go_roundg (gk - 1)
    case measure => omega
    case rel => exact ⟨j + 1, by go_num, by omega, by rw [HRJ.out, HPK.out, ← List.append_assoc]; exact HST.out⟩
   ·obtain rfl : j = (bsL r.l 9 X).length := by omega
    have HGK := zm (HG4.out.next)
    clear HG4
    go_wp2
    go_end0
    have e : L ++ ruleL r ⟨3, F, X, Y, Z, N, M, s, al⟩ = Lc ++ rg (bsL r.l 9 X).length EF := by
     rw [HEQ.out, HLC.out, HF.out]
     simp only [List.append_assoc, List.nil_append, List.append_nil]
    rw [e]
    exact ⟨rfl, H1.out.rebase (HCI.out.rebase HST.out), HGK.out⟩
 have hk1 : (k == 1) = false := by simp [h1]
 have hk2 : (k == 2) = false := by simp [h2]
 have hk3 : (k == 3) = false := by simp [h3]
 have HEQ := zm (show ruleL r ⟨k, F, X, Y, Z, N, M, s, al⟩ = [] ++ rg (bsL r.l 9 X).length (fun i => eachL r ⟨k, F, X, Y, Z, N, M, s, al⟩ (rd (bsL r.l 9 X) (i : Int))) by simp [ruleL, headL, h1, h2, h3])
 have HGK := zm (show Ls.Good n (L ++ (rg (bsL r.l 9 X).length (fun i => eachL r ⟨k, F, X, Y, Z, N, M, s, al⟩ (rd (bsL r.l 9 X) (i : Int))) ++ R)) by
  have h9 := HG.out
  rw [HEQ.out] at h9
  simpa only [List.append_assoc, List.nil_append] using h9)
 clear h1 h2 h3 HN
 obtain ⟨EF, hEF⟩ : ∃ EF : Nat → List Fa, EF = fun i : Nat => eachL r ⟨k, F, X, Y, Z, N, M, s, al⟩ (rd (bsL r.l 9 X) (i : Int)) := ⟨_, rfl⟩
 obtain ⟨Lc, hLc⟩ : ∃ Lc, Lc = L := ⟨_, rfl⟩
 have HST4 := zm (show SR r w0 Lc Wi Wi by rw [hLc]; exact HST.out)
 have HG4 := zm (show Ls.Good n (Lc ++ (rg (bsL r.l 9 X).length EF ++ R)) by rw [hLc, hEF]; exact HGK.out)
 have HLC := zm hLc
 have HF := zm hEF
 clear hLc hEF HST HGK
 go_wp2
 go_loopg [6] (bsL r.l 9 X).length (fun jq v6 W_ => ∃ j : Nat, v6 = .int .i64 j ∧ j + jq = (bsL r.l 9 X).length ∧ SR r w0 (Lc ++ rg j EF) Wi W_)
 case atStart => exact ⟨0, rfl, by omega, by rw [rg_zero, List.append_nil]; exact HST4.out⟩
 case round =>
  clear HST4
  obtain ⟨j, rfl, hj, hst⟩ := hrel
  have HST := zm hst
  clear hst
  by_cases hla : j < (bsL r.l 9 X).length
  ·have HGK := zm (HG4.out.loop hla)
   have HPK := zm (congrFun HF.out j)
   have HRJ := zm (rg_succ j EF)
   obtain ⟨ad3, rfl, hp3_⟩ := Kd.at_int (HBI.out _ HST.out.x) (j : Int) (by omega) (by omega)
   clear hp3_
   have HP3 := zm (show ∀ W', SRx r w0 Wi W' → W'.cell? (ad3.add j) = some (.int .i64 (rd (bsL r.l 9 X) (j : Int))) from fun W' hx => by
    obtain ⟨ad3', e, h2⟩ := Kd.at_int (HBI.out _ hx) (j : Int) (by omega) (by omega)
    cases e
    rwa [Int.toNat_natCast] at h2)
   generalize rd (bsL r.l 9 X) (j : Int) = av at *
   generalize EF j = PJ at *
   rw [HPK.out] at HGK
   go_wp2
   obtain ⟨Wd, hWd⟩ : ∃ Wd, wr.drew = Wd := ⟨_, rfl⟩
   have HST := zm (HST.out.quiet (W' := Wd) (by rw [← hWd]; exact below_drew (Below.refl _ _)))
   refine start_ (n := 7) (S := fun W' => SRx r w0 Wi W') (ds := []) #[false, false, false, false, false, false, false] (by kernel_rfl) rfl rfl (by rw [hWd]; exact HST.out.x) (fun hHeld => ?_)
   rw [hWd] at hHeld ⊢
   refine with_tabW rrutab17 rrubits17 (fun HT_ HW_ => ?_)
   refine zp 0 73 (h := ?_)
   refine zt 1 74 (hy := by
     intro w' hw'
     obtain ⟨x0, x1, x2, x3, x4, x5, x6, x7, x8⟩ := HXC.out w' (HCI.out.then_ hw')
     first | (go_simp; with_reducible rfl)) (h := ?_)
   refine zp 2 75 (h := ?_)
   refine zp 3 76 (h := ?_)
   refine zp 4 77 (h := ?_)
   refine zt 5 78 (hy := by
     intro w' hw'
     have hp3 := HP3.out w' hw'
     first | (go_simp; with_reducible rfl)) (h := ?_)
   refine zo 6 79 (h := fun K hK => ?_)
   refine zg Try.func44 #[.pointer (some ⟨r.Br, 0, none⟩), .agg (ruCells ⟨k, F, X, Y, Z, N, M, s, al⟩ Al cl), .int .i64 av] (h := ?_)
   refine (each_calls HRR.out HST.out ⟨k, F, X, Y, Z, N, M, s, al⟩ av HGK.out (HAR.out _ (HCI.out.then_ HST.out.x)) HLO.out hfl hs0).mono ?_
   rintro e W9 ⟨rfl, hst_, hg_⟩
   refine ⟨_, rfl, ?_⟩
   have HST := zm hst_
   clear hst_ hg_
   refine hK.out _ _ HST.out.x (fun hHeld => ?_)
   clear hK K
   refine zn (h := ?_)
   refine done_ (done_of HT_.out (by kernel_rfl)) ?_
   clear hHeld
   go_wp2
   go_roundg (gk - 1)
   case measure => omega
   case rel => exact ⟨j + 1, by go_num, by omega, by rw [HRJ.out, HPK.out, ← List.append_assoc]; exact HST.out⟩
  ·obtain rfl : j = (bsL r.l 9 X).length := by omega
   have HGK := zm (HG4.out.next)
   clear HG4
   go_wp2
   go_end0
   have e : L ++ ruleL r ⟨k, F, X, Y, Z, N, M, s, al⟩ = Lc ++ rg (bsL r.l 9 X).length EF := by
    rw [HEQ.out, HLC.out, HF.out]
    simp only [List.append_assoc, List.nil_append, List.append_nil]
   rw [e]
   exact ⟨rfl, H1.out.rebase (HCI.out.rebase HST.out), HGK.out⟩
end Go.Proofs.Ytngppcmdaanheaa.Lu
namespace Go.Proofs.Ytngppcmdaanheaa.Lu
open Go.RowKit Go.Maps Go.Proofs.Ytngppcmdaanheaa.Iter Go.Proofs.Ytngppcmdaanheaa.ISet Go.Proofs.Ytngppcmdaanheaa.Pr Go.Proofs.Ytngppcmdaanheaa.Ls Go.Proofs.Ytngppcmdaanheaa.Ext Go.Proofs.YtngppcmdaanheaaW.PrintWords Go.Proofs.YtngppcmdaanheaaW.PrintLast Go.Proofs.YtngppcmdaanheaaW.PrintMore
set_option linter.unusedVariables false
set_option linter.unusedSimpArgs false
attribute [local go_sem] Oper.semAt_some
def rroT5 : Bool × List (List Nat × List Nat) := (true, [([], []), ([], []), ([1], [1]), ([2], [2]), ([3], [3]), ([], []), ([], []), ([5, 6], [5, 6]), ([7], [7]), ([4, 8], [4, 8]), ([0, 0, 1, 2, 3, 4, 5, 6, 7, 8, 9], [0]), ([10, 0, 1, 2, 3, 4, 5, 6, 7, 8, 9], [10]), ([11, 9, 9, 0, 1, 2, 3, 4, 5, 6, 7, 8, 9], [9, 11])])
def rroB5 : List Nat := [0, 0, 2, 6, 14, 0, 0, 96, 224, 510, 1023, 2047, 4095]
theorem rrotab5 : rtab .any (opsOf Try.f15 5) = rroT5 := by kernel_rfl
theorem rrobits5 : waitsOk rroT5.2 rroB5 = true := by kernel_rfl
def rroT37 : Bool × List (List Nat × List Nat) := (true, [([], []), ([], []), ([], []), ([1, 2], [1, 2]), ([3], [3]), ([4], [4]), ([], []), ([], []), ([6, 7], [6, 7]), ([8], [8]), ([], []), ([], []), ([], []), ([11, 12], [11, 12]), ([13], [13]), ([10, 14], [10, 14]), ([], []), ([], []), ([], []), ([17, 18], [17, 18]), ([19], [19]), ([], []), ([], []), ([21, 22], [21, 22]), ([23], [23]), ([0, 5, 9, 15, 16, 20, 24, 15], [0, 5, 9, 15, 16, 20, 24])])
def rroB37 : List Nat := [0, 0, 0, 6, 14, 30, 0, 0, 192, 448, 0, 0, 0, 6144, 14336, 31744, 0, 0, 0, 393216, 917504, 0, 0, 6291456, 14680064, 33554431]
theorem rrotab37 : rtab .any (opsOf Try.f15 37) = rroT37 := by kernel_rfl
theorem rrobits37 : waitsOk rroT37.2 rroB37 = true := by kernel_rfl
def sameL (r : Ro) (i : Nat) : List Fa := [rd_T41 r.l (i : Int)]
def callsL (r : Ro) (i : Nat) : List Fa := builtL r (rd_T41 r.l (i : Int))
def refL (r : Ro) : List Fa :=
 rg r.l.length (sameL r) ++ (askL 6 0 noS [0] ++ (askL 3 1 callS [2] ++ (askL 3 1 applyS [3] ++ (askL 4 1 noS [0] ++ (askL 4 2 noS [1] ++ (askL 4 3 noS [1] ++ (rg r.rs.length (newL r) ++ rg r.l.length (callsL r))))))))
theorem rg_two (n : Nat) (F G : Nat → List Fa) : (rg n (fun i => F i ++ G i)).length = (rg n F).length + (rg n G).length := by
 induction n with
 | zero => rfl
 | succ n ih =>
  rw [rg_succ, rg_succ, rg_succ, List.length_append, List.length_append, List.length_append, List.length_append, ih]
  omega
theorem refL_len (r : Ro) : (refL r).length = (roundL r).length := by
 have h : (rg r.l.length (oldL r)).length = (rg r.l.length (sameL r)).length + (rg r.l.length (callsL r)).length := rg_two r.l.length (sameL r) (callsL r)
 unfold refL roundL
 simp only [List.length_append]
 omega
theorem mem_refL (r : Ro) (f : Fa) : f ∈ refL r ↔ f ∈ roundL r := by
 have h : f ∈ rg r.l.length (oldL r) ↔ f ∈ rg r.l.length (sameL r) ∨ f ∈ rg r.l.length (callsL r) := by
  rw [mem_rg, mem_rg, mem_rg]
  constructor
  ·rintro ⟨i, hi, hm⟩
   rcases List.mem_append.1 hm with hm | hm
   ·exact .inl ⟨i, hi, hm⟩
   ·exact .inr ⟨i, hi, hm⟩
  ·rintro (⟨i, hi, hm⟩ | ⟨i, hi, hm⟩)
   ·exact ⟨i, hi, List.mem_append_left _ hm⟩
   ·exact ⟨i, hi, List.mem_append_right _ hm⟩
 unfold refL roundL
 simp only [List.mem_append, h]
 constructor
 ·rintro (a | a | a | a | a | a | a | a | a)
  ·exact .inl (.inl a)
  ·exact .inr (.inl a)
  ·exact .inr (.inr (.inl a))
  ·exact .inr (.inr (.inr (.inl a)))
  ·exact .inr (.inr (.inr (.inr (.inl a))))
  ·exact .inr (.inr (.inr (.inr (.inr (.inl a)))))
  ·exact .inr (.inr (.inr (.inr (.inr (.inr (.inl a))))))
  ·exact .inr (.inr (.inr (.inr (.inr (.inr (.inr a))))))
  ·exact .inl (.inr a)
 ·rintro ((a | a) | a | a | a | a | a | a | a)
  ·exact .inl a
  ·exact .inr (.inr (.inr (.inr (.inr (.inr (.inr (.inr a)))))))
  ·exact .inr (.inl a)
  ·exact .inr (.inr (.inl a))
  ·exact .inr (.inr (.inr (.inl a)))
  ·exact .inr (.inr (.inr (.inr (.inl a))))
  ·exact .inr (.inr (.inr (.inr (.inr (.inl a)))))
  ·exact .inr (.inr (.inr (.inr (.inr (.inr (.inl a))))))
  ·exact .inr (.inr (.inr (.inr (.inr (.inr (.inr (.inl a)))))))
theorem good_refL {r : Ro} (h : Ls.Good 0 (roundL r)) : Ls.Good 0 (refL r) := ⟨fun f hf => h.1 f ((mem_refL r f).1 hf), by rw [refL_len]; exact h.2⟩
def SyR (W : World) (b : Nat) (s0 : Int) (A : Option Addr) (n c : Nat) : Prop := W.cell? ⟨b, 0, none⟩ = some (.int .i64 s0) ∧ W.cell? ⟨b, 2, none⟩ = some (.slice A n c)
def FaEl (W : World) (p : Addr) (f0 f1 : Int) (f2 : ByteArray) (f3 : Int) : Prop :=
 W.cell? p = some (.int .i64 f0) ∧ W.cell? ⟨p.block, p.off + 1, none⟩ = some (.int .i64 f1) ∧ W.cell? ⟨p.block, p.off + 2, none⟩ = some (.string f2) ∧ W.cell? ⟨p.block, p.off + 3, none⟩ = some (.int .i64 f3)
def RuEl (W : World) (p : Addr) (k F X Y Z N M : Int) (s : ByteArray) (n : Nat) (A : Option Addr) (ca : Nat) : Prop :=
 W.cell? p = some (.int .i64 k) ∧ W.cell? ⟨p.block, p.off + 1, none⟩ = some (.int .i64 F) ∧ W.cell? ⟨p.block, p.off + 2, none⟩ = some (.int .i64 X) ∧ W.cell? ⟨p.block, p.off + 3, none⟩ = some (.int .i64 Y) ∧ W.cell? ⟨p.block, p.off + 4, none⟩ = some (.int .i64 Z) ∧ W.cell? ⟨p.block, p.off + 5, none⟩ = some (.int .i64 N) ∧ W.cell? ⟨p.block, p.off + 6, none⟩ = some (.int .i64 M) ∧ W.cell? ⟨p.block, p.off + 7, none⟩ = some (.string s) ∧ W.cell? ⟨p.block, p.off + 8, none⟩ = some (.slice A n ca)
theorem factSet_nil : factSet [] = [] := Ls.rise_unique (factSet_rises []).1 List.Pairwise.nil (fun f => (factSet_rises []).2 f)
set_option maxHeartbeats 16000000 in
set_option maxRecDepth 100000 in
theorem Round_calls {r : Ro} {w : World} (hBr : r.Br = w.heap.size + 1) (hf : Kd.C k44 w r.A1 r.fs.length r.fs) (hr : Kd.C k46 w r.A2 r.rs.length r.rs) (hl : Kd.C k41 w r.A3 r.l.length r.l) (hcl : r.l.length ≤ r.c3)
  (hg : Ls.Good 0 (roundL r)) (hlo : LOk r) (hfl : 1 ≤ r.fs.length ∧ r.fs.length ≤ 1000000) (hs0 : 0 ≤ r.s0 ∧ r.s0 ≤ 1000000000)
  (hN : ∀ x ∈ r.rs, x.f0 = 2 → 0 ≤ x.f5 ∧ x.f5 < r.fs.length ∧ 0 ≤ markOf r x ∧ markOf r x ≤ 1000000) :
  Calls Try.prog 15 #[.agg #[.int .i64 r.s0, .slice r.A1 r.fs.length r.c1, .slice r.A2 r.rs.length r.c2], .slice r.A3 r.l.length r.c3] w fun e w' => ∃ A c, e = .returned (.slice A (factSet (roundL r)).length c) ∧ Kd.V k41 41 w' 0 (fun k => w.heap.size ≤ k) (.slice A (factSet (roundL r)).length c) (factSet (roundL r)) ∧ Below w.heap.size w w' := by
 obtain ⟨Wb, hWb⟩ : ∃ Wb, Wb = (w.alloc (.cells #[.int .i64 r.s0, .slice r.A1 r.fs.length r.c1, .slice r.A2 r.rs.length r.c2] 25)).alloc (.cells (cellsR r none 0 0) 53) := ⟨_, rfl⟩
 have hbb : Below w.heap.size w Wb := by rw [hWb]; exact below_alloc (below_alloc (Below.refl _ w) _) _
 have hn1 : Wb.heap[w.heap.size + 1]? = some (.cells (cellsR r none 0 0) 53 (0, 0)) := by rw [hWb]; simp only [alloc_at, World.size_alloc]; simp (disch := omega) [if_pos, if_neg]
 have hn0 : Wb.heap[w.heap.size]? = some (.cells #[.int .i64 r.s0, .slice r.A1 r.fs.length r.c1, .slice r.A2 r.rs.length r.c2] 25 (0, 0)) := by rw [hWb]; simp only [alloc_at, World.size_alloc]; simp (disch := omega) [if_pos, if_neg]
 have hrr : RR r w := ⟨by omega, hf, hr, hl, hcl⟩
 have hsr : SR r w [] Wb Wb := ⟨⟨by omega⟩, hbb, ⟨none, 0, by rw [factSet_nil, hBr]; exact hn1, by rw [factSet_nil]; exact Kd.V_nil _ _ _ _ _⟩, ⟨none, 0, 0, by rw [hBr]; exact hn1⟩, Chg.refl _ _⟩
 obtain ⟨A2v, hA2v⟩ : ∃ A, r.A2 = A := ⟨_, rfl⟩
 obtain ⟨A3v, hA3v⟩ : ∃ A, r.A3 = A := ⟨_, rfl⟩
 have HA2V := zm hA2v
 have HA3V := zm hA3v
 have hne : w.heap.size ≠ r.Br := by omega
 have HSY := zm (show ∀ W', SRx r w Wb W' → SyR W' w.heap.size r.s0 A2v r.rs.length r.c2 from fun W' hx => ⟨hx.cell (by simp [World.cell?, hn0]) hne, by rw [← hA2v]; exact hx.cell (by simp [World.cell?, hn0]) hne⟩)
 have HRR := zm hrr
 have HST := zm hsr
 have HLO := zm hlo
 have HG := zm (show Ls.Good 0 ([] ++ (rg r.l.length (sameL r) ++ (askL 6 0 noS [0] ++ (askL 3 1 callS [2] ++ (askL 3 1 applyS [3] ++ (askL 4 1 noS [0] ++ (askL 4 2 noS [1] ++ (askL 4 3 noS [1] ++ (rg r.rs.length (newL r) ++ (rg r.l.length (callsL r) ++ [])))))))))) by
  rw [List.nil_append, List.append_nil]; exact good_refL hg)
 have HN := zm hN
 have HBR := zm hBr
 have hlm : r.l.length ≤ 9223372036854775807 := hl.2.1
 have hrm : r.rs.length ≤ 9223372036854775807 := hr.2.1
 have hlen := hlo.len
 clear hf hr hl hg hlo hsr hrr hn0 hn1 hbb hN hne hcl
 rw [hA2v, hA3v]
 have hWr : (w.alloc (.cells #[.int .i64 r.s0, .slice r.A1 r.fs.length r.c1, .slice A2v r.rs.length r.c2] 25)).alloc (.cells #[.int .i64 r.s0, .slice r.A1 r.fs.length r.c1, .slice A2v r.rs.length r.c2, .slice A3v r.l.length r.c3, .slice none 0 0] 53) = Wb := by
  rw [hWb, cellsR, hA2v, hA3v]
 clear hA2v hA3v hWb
 go_enter Try.func15, Try.ntmps15
 go_wp2
 clear hWr
 rw [show w.heap.size + 1 = r.Br by omega]
 clear hBr
 go_loopg [6] r.l.length (fun kq v6 W_ => ∃ k : Nat, v6 = .int .i64 k ∧ k + kq = r.l.length ∧ SR r w (rg k (sameL r)) Wb W_)
 case atStart => exact ⟨0, rfl, by omega, HST.out⟩
 case round =>
  clear HST
  obtain ⟨k, rfl, hk, hst⟩ := hrel
  have HST := zm hst
  by_cases hlt : k < r.l.length
  ·obtain ⟨ad, hA3, hd0, hd1, hd2, hd3⟩ := at_T41 HRR.out.hl (k : Int) (by omega) (by omega)
   rw [Int.toNat_natCast] at hd0 hd1 hd2 hd3
   obtain rfl : A3v = some ad := HA3V.out.symm.trans hA3
   have HRG := zm (rg_succ k (sameL r))
   have HFK := zm (show sameL r k = [rd_T41 r.l (k : Int)] from rfl)
   have HWN0 := zm (HG.out.loop hlt).2
   generalize rd_T41 r.l (k : Int) = f at *
   obtain ⟨f0, f1, f2, f3⟩ := f
   dsimp only at hd0 hd1 hd2 hd3
   have HFC := zm (show ∀ W', SRx r w Wb W' → FaEl W' (ad.add (k * 4)) f0 f1 f2 f3 from fun W' hx => by
    have ht : ∀ {a : Addr} {v : Value}, w.cell? a = some v → W'.cell? a = some v := fun {a v} h => (hx.bel.cell (World.block_lt_of_cell? w _ h)).trans h
    exact ⟨ht hd0, ht hd1, ht hd2, ht hd3⟩)
   clear hA3 hd0 hd1 hd2 hd3
   obtain ⟨Lj, hLj⟩ : ∃ Lj, Lj = rg k (sameL r) := ⟨_, rfl⟩
   have HLJ := zm hLj
   rw [← hLj] at HST hst
   have HWN := zm (show Lj.length ≤ 1000000000000 by have := HWN0.out; rw [hLj]; simp only [List.length_append, List.nil_append] at this; omega)
   obtain ⟨Ao, co, hbox, hv⟩ := hst.box
   have HLB := zm (show (⟨r.Br, 4, none⟩ : Addr).block < wr.heap.size from hst.lt)
   obtain ⟨Wd, hWd⟩ : ∃ Wd, wr.drew = Wd := ⟨_, rfl⟩
   have hbd : Below wr.heap.size wr Wd := by rw [← hWd]; exact below_drew (Below.refl _ _)
   have HV := zm (Kd.V_below hv hbd)
   have HD4 := zm (show Wd.cell? ⟨r.Br, 4, none⟩ = some (.slice Ao (factSet Lj).length co) by rw [hbd.cell hst.lt]; simp [World.cell?, hbox, cellsR])
   have HDB := zm hbd
   clear hLj hst hv hbox hbd HWN0
   go_wp2
   refine start_ (n := 13) (S := fun W' => W'.cell? ⟨r.Br, 4, none⟩ = some (.slice Ao (factSet Lj).length co) ∧ Below wr.heap.size wr W') (ds := [12]) #[false, false, false, false, false, false, false, false, false, false, false, false, false] (by kernel_rfl) rfl rfl (by rw [hWd]; exact ⟨HD4.out, HDB.out⟩) (fun hHeld => ?_)
   rw [hWd] at hHeld ⊢
   refine with_tabW rrotab5 rrobits5 (fun HT_ HW_ => ?_)
   refine zp 0 27 (h := ?_)
   refine zp 1 28 (h := ?_)
   refine zp 2 29 (h := ?_)
   refine zp 3 30 (h := ?_)
   refine zt 4 31 (hy := by
     intro w' hw'
     obtain ⟨d4, _⟩ := hw'
     first | (go_simp; with_reducible rfl)) (h := ?_)
   refine zp 5 32 (h := ?_)
   refine zp 6 33 (h := ?_)
   refine zp 7 34 (h := ?_)
   refine zt 8 35 (hy := by
     intro w' hw'
     obtain ⟨e0, e1, e2, e3⟩ := HFC.out w' (HST.out.x.then_below hw'.2)
     first | (go_simp; with_reducible rfl)) (h := ?_)
   refine zo 9 36 (h := fun K hK => ?_)
   refine zg Try.func25 #[.slice Ao (factSet Lj).length co, .agg #[.int .i64 f0, .int .i64 f1, .string f2, .int .i64 f3]] (h := ?_)
   refine (with_calls (f := ⟨f0, f1, f2, f3⟩) HV.out HWN.out).mono ?_
   rintro e W8 ⟨Ao2, co2, rfl, hv8, hb8⟩
   refine ⟨_, rfl, ?_⟩
   have HV8 := zm hv8
   have HB8 := zm hb8
   clear hv8
   refine hK.out _ _ ⟨(hb8.cell (Nat.lt_of_lt_of_le HLB.out HDB.out.size)).trans hHeld.1, below_step hHeld.2 hb8⟩ (fun hHeld => ?_)
   clear hK K
   refine zn (h := ?_)
   refine zp 10 37 (h := ?_)
   refine zp 11 38 (h := ?_)
   refine last_ (i := 12) (N := none) #[true, true, true, true, true, true, true, true, true, true, true, true, true] rfl rfl (one_of HT_.out (by kernel_rfl)) (by decide) (fun K hK => ?_)
   have hfz : W8.frozen? ⟨r.Br, 4, none⟩ = false := (HST.out.quiet (below_step HDB.out HB8.out)).frz
   obtain ⟨d4, _⟩ := hHeld
   refine skip_step (w1 := W8.setCell ⟨r.Br, 4, none⟩ (.slice Ao2 (factSet (Lj ++ [⟨f0, f1, f2, f3⟩])).length co2)) (by rfl) (by first | (go_simp; done) | (go_simp; rfl)) ?_
   refine hK.out _ _ ?_
   clear hK K
   refine norm_ (a' := ?_) ?_ ?_
   rotate_left
   ·show Act.put _ (none) _ = _
    simp only [Act.put, List.setIfInBounds_toArray, List.set_cons_zero, List.set_cons_succ, i64_w, i32_w]
    rfl
   refine done_ (done_of HT_.out (by kernel_rfl)) ?_
   have HSN := zm (HST.out.put HDB.out HB8.out HV8.out)
   go_wp2
   go_roundg (gk - 1)
   case measure => omega
   case rel => exact ⟨k + 1, by go_num, by omega, by rw [HRG.out, HFK.out, ← HLJ.out]; exact HSN.out⟩
  ·obtain rfl : k = r.l.length := by omega
   have HGK := zm HG.out.next
   clear hst HG
   rw [List.nil_append] at HGK
   go_wp2_with fail
   refine (sr_ask1 HRR.out HST.out HGK.out rfl).mono ?_
   rintro e W2 ⟨rfl, hst_, hg_⟩
   have HST := zm hst_
   have HGK := zm hg_
   clear hst_ hg_
   go_wp2_with fail
   refine (sr_ask1 HRR.out HST.out HGK.out rfl).mono ?_
   rintro e W3 ⟨rfl, hst_, hg_⟩
   have HST := zm hst_
   have HGK := zm hg_
   clear hst_ hg_
   go_wp2_with fail
   refine (sr_ask1 HRR.out HST.out HGK.out rfl).mono ?_
   rintro e W4 ⟨rfl, hst_, hg_⟩
   have HST := zm hst_
   have HGK := zm hg_
   clear hst_ hg_
   go_wp2_with fail
   refine (sr_ask1 HRR.out HST.out HGK.out rfl).mono ?_
   rintro e W5 ⟨rfl, hst_, hg_⟩
   have HST := zm hst_
   have HGK := zm hg_
   clear hst_ hg_
   go_wp2_with fail
   refine (sr_ask1 HRR.out HST.out HGK.out rfl).mono ?_
   rintro e W6 ⟨rfl, hst_, hg_⟩
   have HST := zm hst_
   have HGK := zm hg_
   clear hst_ hg_
   go_wp2_with fail
   refine (sr_ask1 HRR.out HST.out HGK.out rfl).mono ?_
   rintro e W7 ⟨rfl, hst_, hg_⟩
   have HST := zm hst_
   have HGK := zm hg_
   clear hst_ hg_
   obtain ⟨Lc, hLc⟩ : ∃ Lc, Lc = rg r.l.length (sameL r) ++ askL 6 0 noS [0] ++ askL 3 1 callS [2] ++ askL 3 1 applyS [3] ++ askL 4 1 noS [0] ++ askL 4 2 noS [1] ++ askL 4 3 noS [1] := ⟨_, rfl⟩
   have HST4 := zm (show SR r w Lc Wb W7 by rw [hLc]; exact HST.out)
   have HG4 := zm (show Ls.Good 0 (Lc ++ (rg r.rs.length (newL r) ++ (rg r.l.length (callsL r) ++ []))) by rw [hLc]; exact HGK.out)
   have HLC := zm hLc
   clear hLc HST HGK
   go_wp2
   go_loopg [7] r.rs.length (fun kq v7 W_ => ∃ k : Nat, v7 = .int .i64 k ∧ k + kq = r.rs.length ∧ SR r w (Lc ++ rg k (newL r)) Wb W_)
   case atStart => exact ⟨0, rfl, by omega, by rw [rg_zero, List.append_nil]; exact HST4.out⟩
   case round =>
    clear HST4
    obtain ⟨k, rfl, hk, hst⟩ := hrel
    have HST := zm hst
    clear hst
    obtain ⟨s0_, s2_⟩ := HSY.out wr HST.out.x
    by_cases hlt : k < r.rs.length
    ·obtain ⟨ad, Al, cl, hA2, hd0, hd1, hd2, hd3, hd4, hd5, hd6, hd7, hd8, hcl, hcr⟩ := at_T46 HRR.out.hr (k : Int) (by omega) (by omega)
     rw [Int.toNat_natCast] at hd0 hd1 hd2 hd3 hd4 hd5 hd6 hd7 hd8
     obtain rfl : A2v = some ad := HA2V.out.symm.trans hA2
     have HGK := zm (HG4.out.loop hlt)
     have HRG := zm (rg_succ k (newL r))
     have HFK := zm (show newL r k = if 0 < (bsL r.l 6 (rd_T46 r.rs (k : Int)).f1).length then ruleL r (rd_T46 r.rs (k : Int)) else [] from rfl)
     have HNK := zm (HN.out (rd_T46 r.rs (k : Int)) (by
      unfold rd_T46
      rw [Int.toNat_natCast, List.getD_eq_getElem?_getD, List.getElem?_eq_getElem hlt]
      exact List.getElem_mem hlt))
     generalize rd_T46 r.rs (k : Int) = x at *
     obtain ⟨x0, x1, x2, x3, x4, x5, x6, x7, x8⟩ := x
     dsimp only at hd0 hd1 hd2 hd3 hd4 hd5 hd6 hd7 hd8 hcl hcr
     have HEL := zm (show ∀ W', SRx r w Wb W' → RuEl W' (ad.add (k * 9)) x0 x1 x2 x3 x4 x5 x6 x7 x8.length Al cl from fun W' hx => by
      have ht : ∀ {a : Addr} {v : Value}, w.cell? a = some v → W'.cell? a = some v := fun {a v} h => (hx.bel.cell (World.block_lt_of_cell? w _ h)).trans h
      exact ⟨ht hd0, ht hd1, ht hd2, ht hd3, ht hd4, ht hd5, ht hd6, ht hd7, ht hd8⟩)
     have HAR := zm (show ∀ W', SRx r w Wb W' → Kd.C (Kd.int .i64) W' Al x8.length x8 from fun W' hx => Kd.C_below hcr hx.bel)
     clear hA2 hd0 hd1 hd2 hd3 hd4 hd5 hd6 hd7 hd8 hcl hcr
     obtain ⟨y0, y1, y2, y3, y4, y5, y6, y7, y8⟩ := HEL.out wr HST.out.x
     go_wp2_with fail
     clear y0 y1 y2 y3 y4 y5 y6 y7 y8 s0_ s2_
     have hsb := sr_bs HRR.out HST.out HLO.out 6 x1 (by omega)
     rw [HA3V.out] at hsb
     refine hsb.mono ?_
     clear hsb
     rintro e W8 ⟨A8, c8, rfl, hC_, hst_⟩
     have HST := zm hst_
     clear hst_ hC_
     obtain ⟨y0, y1, y2, y3, y4, y5, y6, y7, y8⟩ := HEL.out W8 HST.out.x
     obtain ⟨s0_, s2_⟩ := HSY.out W8 HST.out.x
     by_cases hbs : 0 < (bsL r.l 6 x1).length
     ·have HEQ := zm (HFK.out.trans (if_pos hbs))
      rw [HEQ.out] at HGK
      go_wp2_with fail
      clear y0 y1 y2 y3 y4 y5 y6 y7 y8 s0_ s2_ hbs
      refine (rule_calls HRR.out HST.out ⟨x0, x1, x2, x3, x4, x5, x6, x7, x8⟩ HGK.out (HAR.out _ HST.out.x) HLO.out hfl hs0 HNK.out).mono ?_
      rintro e W9 ⟨rfl, hst_, hg_⟩
      have HST := zm hst_
      clear hst_ hg_
      go_wp2
      go_roundg (gk - 1)
      case measure => omega
      case rel => exact ⟨k + 1, by go_num, by omega, by rw [HRG.out, HEQ.out, ← List.append_assoc]; exact HST.out⟩
     ·have HEQ := zm (HFK.out.trans (if_neg hbs))
      go_wp2
      go_roundg (gk - 1)
      case measure => omega
      case rel => exact ⟨k + 1, by go_num, by omega, by rw [HRG.out, HEQ.out, List.append_nil]; exact HST.out⟩
    ·obtain rfl : k = r.rs.length := by omega
     have HGK := zm HG4.out.next
     clear HG4
     obtain ⟨T, hT⟩ : ∃ T, T = r.s0 - 9 := ⟨_, rfl⟩
     have hT0 : -9 ≤ T := by omega
     have hT1 : T ≤ 1000000000 := by omega
     have hwT : wrap64 (r.s0 - 9) = r.s0 - 9 := by unfold wrap64; omega
     have HT := zm hT
     clear hT
     go_wp2
     rw [← HT.out]
     clear s0_ s2_ hwT
     obtain ⟨Ld, hLd⟩ : ∃ Ld, Ld = Lc ++ rg r.rs.length (newL r) := ⟨_, rfl⟩
     have HST5 := zm (show SR r w Ld Wb wr by rw [hLd]; exact HST.out)
     have HG5 := zm (show Ls.Good 0 (Ld ++ (rg r.l.length (callsL r) ++ [])) by rw [hLd]; exact HGK.out)
     have HLD := zm hLd
     clear hLd HST HGK
     go_loopg [10] r.l.length (fun kq v10 W_ => ∃ i : Nat, v10 = .int .i64 i ∧ i + kq = r.l.length ∧ SR r w (Ld ++ rg i (callsL r)) Wb W_)
     case atStart => exact ⟨0, rfl, by omega, by rw [rg_zero, List.append_nil]; exact HST5.out⟩
     case round =>
      clear HST5
      obtain ⟨i, rfl, hi, hst⟩ := hrel
      have HST := zm hst
      clear hst
      by_cases hlt : i < r.l.length
      ·obtain ⟨ad, hA3, hd0, hd1, hd2, hd3⟩ := at_T41 HRR.out.hl (i : Int) (by omega) (by omega)
       rw [Int.toNat_natCast] at hd0 hd1 hd2 hd3
       obtain rfl : A3v = some ad := HA3V.out.symm.trans hA3
       have HGK := zm (HG5.out.loop hlt)
       have HRG := zm (rg_succ i (callsL r))
       have HFK := zm (show callsL r i = builtL r (rd_T41 r.l (i : Int)) from rfl)
       generalize rd_T41 r.l (i : Int) = f at *
       generalize callsL r i = PI at *
       obtain ⟨f0, f1, f2, f3⟩ := f
       dsimp only at hd0 hd1 hd2 hd3
       have HFC := zm (show ∀ W', SRx r w Wb W' → FaEl W' (ad.add (i * 4)) f0 f1 f2 f3 from fun W' hx => by
        have ht : ∀ {a : Addr} {v : Value}, w.cell? a = some v → W'.cell? a = some v := fun {a v} h => (hx.bel.cell (World.block_lt_of_cell? w _ h)).trans h
        exact ⟨ht hd0, ht hd1, ht hd2, ht hd3⟩)
       clear hA3 hd0 hd1 hd2 hd3
       obtain ⟨e0, e1, e2, e3⟩ := HFC.out wr HST.out.x
       by_cases hb2 : f0 = 5 ∧ f3 = 2
       ·have HEQ := zm (show PI = apL r T (T + 1) f1 by rw [HT.out]; exact HFK.out.trans (if_pos hb2))
        obtain ⟨rfl, rfl⟩ := hb2
        rw [HEQ.out] at HGK
        go_wp2_with fail
        clear e0 e1 e2 e3
        refine (sr_in HRR.out HST.out HLO.out (T)).mono ?_
        rintro e Wi ⟨Ai, ci, rfl, hC_, hst_⟩
        have HCI := zm hst_.x
        have HBI := zm (show ∀ W', SRx r w Wi W' → Kd.C (Kd.int .i64) W' Ai (bsL r.l 9 (T)).length (bsL r.l 9 (T)) from fun W' hc => hc.ints hC_)
        have HST := zm hst_.here
        have hbl : (bsL r.l 9 (T)).length ≤ 900000 := Nat.le_trans (bsL_le _ _ _) hlen
        clear hC_ hst_
        obtain ⟨EF, hEF⟩ : ∃ EF : Nat → List Fa, EF = fun j : Nat => callL r ⟨f1, bsL r.l 9 (T + 1), [], T + 1, T + 2, T + 3⟩ (rd (bsL r.l 9 (T)) (j : Int)) := ⟨_, rfl⟩
        obtain ⟨Le, hLe⟩ : ∃ Le, Le = Ld ++ rg i (callsL r) := ⟨_, rfl⟩
        have HST6 := zm (show SR r w Le Wi Wi by rw [hLe]; exact HST.out)
        have HG6 := zm (show Ls.Good 0 (Le ++ (rg (bsL r.l 9 (T)).length EF ++ [])) by rw [hLe, hEF]; exact HGK.out)
        have HLE := zm hLe
        have HF := zm hEF
        clear hLe hEF HST HGK
        go_wp2_with fail
        go_loopg [16] (bsL r.l 9 (T)).length (fun jq v16 W_ => ∃ j : Nat, v16 = .int .i64 j ∧ j + jq = (bsL r.l 9 (T)).length ∧ SR r w (Le ++ rg j EF) Wi W_)
        case atStart => exact ⟨0, rfl, by omega, by rw [rg_zero, List.append_nil]; exact HST6.out⟩
        case round =>
         clear HST6
         obtain ⟨j, rfl, hj, hst⟩ := hrel
         have HST := zm hst
         clear hst
         by_cases hla : j < (bsL r.l 9 (T)).length
         ·have HGK := zm (HG6.out.loop hla)
          have HPK := zm (congrFun HF.out j)
          have HRJ := zm (rg_succ j EF)
          obtain ⟨ad3, rfl, hp3_⟩ := Kd.at_int (HBI.out _ HST.out.x) (j : Int) (by omega) (by omega)
          clear hp3_
          have HP3 := zm (show ∀ W', SRx r w Wi W' → W'.cell? (ad3.add j) = some (.int .i64 (rd (bsL r.l 9 (T)) (j : Int))) from fun W' hx => by
           obtain ⟨ad3', e, h2⟩ := Kd.at_int (HBI.out _ hx) (j : Int) (by omega) (by omega)
           cases e
           rwa [Int.toNat_natCast] at h2)
          generalize rd (bsL r.l 9 (T)) (j : Int) = av at *
          generalize EF j = PJ at *
          rw [HPK.out] at HGK
          have hwk : wrap64 (T) = T := by unfold wrap64; omega
          have hwa : wrap64 (T + 1) = T + 1 := by unfold wrap64; omega
          have hwb : wrap64 (T + 2) = T + 2 := by unfold wrap64; omega
          have hwc : wrap64 (T + 3) = T + 3 := by unfold wrap64; omega
          go_wp2
          obtain ⟨Wd, hWd⟩ : ∃ Wd, wr.drew = Wd := ⟨_, rfl⟩
          have HST := zm (HST.out.quiet (W' := Wd) (by rw [← hWd]; exact below_drew (Below.refl _ _)))
          refine start_ (n := 26) (S := fun W' => SRx r w Wi W') (ds := []) #[false, false, false, false, false, false, false, false, false, false, false, false, false, false, false, false, false, false, false, false, false, false, false, false, false, false] (by kernel_rfl) rfl rfl (by rw [hWd]; exact HST.out.x) (fun hHeld => ?_)
          rw [hWd] at hHeld ⊢
          refine with_tabW rrotab37 rrobits37 (fun HT_ HW_ => ?_)
          refine zp 0 154 (ha := by simp only [zs, hwk, hwa, hwb, hwc]; rfl) (h := ?_)
          refine zp 1 155 (ha := by simp only [zs, hwk, hwa, hwb, hwc]; rfl) (h := ?_)
          refine zp 2 156 (ha := by simp only [zs, hwk, hwa, hwb, hwc]; rfl) (h := ?_)
          refine zp 3 157 (ha := by simp only [zs, hwk, hwa, hwb, hwc]; rfl) (h := ?_)
          refine zp 4 158 (ha := by simp only [zs, hwk, hwa, hwb, hwc]; rfl) (h := ?_)
          refine zt 5 159 (hy := by
            intro w' hw'
            obtain ⟨e0, e1, e2, e3⟩ := HFC.out w' (HCI.out.then_ hw')
            first | (go_simp; with_reducible rfl)) (ha := by simp only [zs, hwk, hwa, hwb, hwc]; rfl) (h := ?_)
          refine zp 6 160 (ha := by simp only [zs, hwk, hwa, hwb, hwc]; rfl) (h := ?_)
          refine zp 7 161 (ha := by simp only [zs, hwk, hwa, hwb, hwc]; rfl) (h := ?_)
          refine zp 8 162 (ha := by simp only [zs, hwk, hwa, hwb, hwc]; rfl) (h := ?_)
          refine zt 9 163 (hy := by
            intro w' hw'
            have hp3 := HP3.out w' hw'
            first | (go_simp; with_reducible rfl)) (ha := by simp only [zs, hwk, hwa, hwb, hwc]; rfl) (h := ?_)
          refine zp 10 164 (ha := by simp only [zs, hwk, hwa, hwb, hwc]; rfl) (h := ?_)
          refine zp 11 165 (ha := by simp only [zs, hwk, hwa, hwb, hwc]; rfl) (h := ?_)
          refine zp 12 166 (ha := by simp only [zs, hwk, hwa, hwb, hwc]; rfl) (h := ?_)
          refine zp 13 167 (ha := by simp only [zs, hwk, hwa, hwb, hwc]; rfl) (h := ?_)
          refine zp 14 168 (ha := by simp only [zs, hwk, hwa, hwb, hwc]; rfl) (h := ?_)
          refine zp 16 170 (ha := by simp only [zs, hwk, hwa, hwb, hwc]; rfl) (h := ?_)
          refine zp 17 171 (ha := by simp only [zs, hwk, hwa, hwb, hwc]; rfl) (h := ?_)
          refine zp 18 172 (ha := by simp only [zs, hwk, hwa, hwb, hwc]; rfl) (h := ?_)
          refine zp 19 173 (ha := by simp only [zs, hwk, hwa, hwb, hwc]; rfl) (h := ?_)
          refine zp 20 174 (ha := by simp only [zs, hwk, hwa, hwb, hwc]; rfl) (h := ?_)
          refine zp 21 175 (ha := by simp only [zs, hwk, hwa, hwb, hwc]; rfl) (h := ?_)
          refine zp 22 176 (ha := by simp only [zs, hwk, hwa, hwb, hwc]; rfl) (h := ?_)
          refine zp 23 177 (ha := by simp only [zs, hwk, hwa, hwb, hwc]; rfl) (h := ?_)
          refine zp 24 178 (ha := by simp only [zs, hwk, hwa, hwb, hwc]; rfl) (h := ?_)
          refine zo 15 169 (h := fun K hK => ?_)
          refine zg Try.func29 #[.pointer (some ⟨r.Br, 0, none⟩), .int .i64 (T + 1)] (h := ?_)
          refine (sr_in HRR.out HST.out HLO.out (T + 1)).mono ?_
          rintro e W8 ⟨A8, c8, rfl, hC_, hst_⟩
          refine ⟨_, rfl, ?_⟩
          have HST := zm hst_
          have HC8 := zm hC_
          clear hst_ hC_
          refine hK.out _ _ HST.out.x (fun hHeld => ?_)
          clear hK K
          refine zn (ha := by simp only [zs, hwk, hwa, hwb, hwc]; rfl) (h := ?_)
          refine zo 25 179 (h := fun K hK => ?_)
          refine zg Try.func31 #[.pointer (some ⟨r.Br, 0, none⟩), .int .i64 f1, .int .i64 av, .slice A8 (bsL r.l 9 (T + 1)).length c8, .slice none 0 0, .int .i64 (T + 1), .int .i64 (T + 2), .int .i64 (T + 3)] (h := ?_)
          refine (called_calls HRR.out HST.out ⟨f1, bsL r.l 9 (T + 1), [], T + 1, T + 2, T + 3⟩ av HGK.out HC8.out (Kd.C_nil _ _) HLO.out hfl hs0).mono ?_
          rintro e W9 ⟨rfl, hst_, hg_⟩
          refine ⟨_, rfl, ?_⟩
          have HST := zm hst_
          clear hst_ hg_
          refine hK.out _ _ HST.out.x (fun hHeld => ?_)
          clear hK K
          refine zn (ha := by simp only [zs, hwk, hwa, hwb, hwc]; rfl) (h := ?_)
          refine done_ (done_of HT_.out (by kernel_rfl)) ?_
          clear hHeld
          go_wp2
          go_roundg (gk - 1)
          case measure => omega
          case rel => exact ⟨j + 1, by go_num, by omega, by rw [HRJ.out, HPK.out, ← List.append_assoc]; exact HST.out⟩
         ·obtain rfl : j = (bsL r.l 9 (T)).length := by omega
          go_wp2
          go_roundg (r.l.length - (i + 1))
          case measure => omega
          case rel => exact ⟨i + 1, by go_num, by omega, by
           have e : Ld ++ rg (i + 1) (callsL r) = Le ++ rg (bsL r.l 9 (T)).length EF := by
            rw [HRG.out, HEQ.out, HLE.out, HF.out]
            simp only [apL, List.append_assoc]
           rw [e]
           exact HCI.out.rebase HST.out⟩
       by_cases hb3 : f0 = 5 ∧ f3 = 3
       ·have HEQ := zm (show PI = spreadL r (T + 4) (T + 8) ++ apL r (T + 4) (T + 8) f1 by rw [HT.out]; exact HFK.out.trans ((if_neg hb2).trans (if_pos hb3)))
        clear hb2
        obtain ⟨rfl, rfl⟩ := hb3
        rw [HEQ.out] at HGK
        have HGL := zm (show Ls.Good 0 ((Ld ++ rg i (callsL r)) ++ (spreadL r (T + 4) (T + 8) ++ (apL r (T + 4) (T + 8) f1 ++ []))) by have h9 := HGK.out; rwa [List.append_assoc (spreadL r (T + 4) (T + 8))] at h9)
        clear HGK
        go_wp2_with fail
        clear e0 e1 e2 e3
        refine (sr_in HRR.out HST.out HLO.out (T + 5)).mono ?_
        rintro e Wo ⟨Ao, co, rfl, hC_, hst_⟩
        have HCO := zm hst_.x
        have HBO := zm (show ∀ W', SRx r w Wo W' → Kd.C (Kd.int .i64) W' Ao (bsL r.l 9 (T + 5)).length (bsL r.l 9 (T + 5)) from fun W' hc => hc.ints hC_)
        have HST := zm hst_.here
        have hbo : (bsL r.l 9 (T + 5)).length ≤ 900000 := Nat.le_trans (bsL_le _ _ _) hlen
        clear hC_ hst_
        obtain ⟨SF, hSF⟩ : ∃ SF : Nat → List Fa, SF = fun j : Nat => askL 9 (T + 8) noS (loadsL r.l (fun _ => true) (rd (bsL r.l 9 (T + 5)) (j : Int))) ++ [] := ⟨_, rfl⟩
        have HSP := zm (show spreadL r (T + 4) (T + 8) = rg (bsL r.l 9 (T + 5)).length SF by rw [hSF, spreadL, show T + 4 + 1 = T + 5 by omega])
        obtain ⟨Lf, hLf⟩ : ∃ Lf, Lf = Ld ++ rg i (callsL r) := ⟨_, rfl⟩
        have HST7 := zm (show SR r w Lf Wo Wo by rw [hLf]; exact HST.out)
        have HG7 := zm (show Ls.Good 0 (Lf ++ (rg (bsL r.l 9 (T + 5)).length SF ++ (apL r (T + 4) (T + 8) f1 ++ []))) by rw [hLf, ← HSP.out]; exact HGL.out)
        have HLF := zm hLf
        have HSF := zm hSF
        clear hLf hSF HST HGL
        go_wp2_with fail
        go_loopg [14] (bsL r.l 9 (T + 5)).length (fun jq v14 W_ => ∃ j : Nat, v14 = .int .i64 j ∧ j + jq = (bsL r.l 9 (T + 5)).length ∧ SR r w (Lf ++ rg j SF) Wo W_)
        case atStart => exact ⟨0, rfl, by omega, by rw [rg_zero, List.append_nil]; exact HST7.out⟩
        case round =>
         clear HST7
         obtain ⟨j, rfl, hj, hst⟩ := hrel
         have HST := zm hst
         clear hst
         by_cases hla : j < (bsL r.l 9 (T + 5)).length
         ·have HGK := zm (HG7.out.loop hla)
          have HPK := zm (congrFun HSF.out j)
          have HRJ := zm (rg_succ j SF)
          obtain ⟨ad3, rfl, hp3⟩ := Kd.at_int (HBO.out _ HST.out.x) (j : Int) (by omega) (by omega)
          rw [Int.toNat_natCast] at hp3
          generalize rd (bsL r.l 9 (T + 5)) (j : Int) = av at *
          generalize SF j = PJ at *
          rw [HPK.out, List.append_nil] at HGK
          go_wp2_with fail
          clear hp3
          have hsl := sr_load HRR.out HST.out HLO.out av ⟨#[]⟩ true
          rw [HA3V.out] at hsl
          refine hsl.mono ?_
          clear hsl
          rintro e W5 ⟨A8, c8, ys8, rfl, hC_, hm_, hy_, hst_⟩
          rw [← askOk_true] at hm_ hy_
          have HST := zm hst_
          have HC8 := zm hC_
          have HM8 := zm hm_
          have HY8 := zm hy_
          clear hst_ hC_ hm_ hy_
          go_wp2_with fail
          refine (sr_asks_mem HRR.out HST.out HM8.out HY8.out HGK.out rfl HC8.out).mono ?_
          rintro e W6 ⟨rfl, hst_, hg_⟩
          have HST := zm hst_
          clear hst_ hg_
          go_wp2
          go_roundg (gk - 1)
          case measure => omega
          case rel => exact ⟨j + 1, by go_num, by omega, by rw [HRJ.out, HPK.out, List.append_nil, ← List.append_assoc]; exact HST.out⟩
         ·obtain rfl : j = (bsL r.l 9 (T + 5)).length := by omega
          have HGK := zm HG7.out.next
          have HST := zm (HCO.out.rebase HST.out)
          clear HG7
          go_wp2_with fail
          refine (sr_in HRR.out HST.out HLO.out (T + 4)).mono ?_
          rintro e Wi ⟨Ai, ci, rfl, hC_, hst_⟩
          have HCI := zm hst_.x
          have HBI := zm (show ∀ W', SRx r w Wi W' → Kd.C (Kd.int .i64) W' Ai (bsL r.l 9 (T + 4)).length (bsL r.l 9 (T + 4)) from fun W' hc => hc.ints hC_)
          have HST := zm hst_.here
          have hbl : (bsL r.l 9 (T + 4)).length ≤ 900000 := Nat.le_trans (bsL_le _ _ _) hlen
          clear hC_ hst_
          obtain ⟨EF, hEF⟩ : ∃ EF : Nat → List Fa, EF = fun j : Nat => callL r ⟨f1, bsL r.l 9 (T + 4 + 1), [], T + 8, T + 4 + 2, T + 4 + 3⟩ (rd (bsL r.l 9 (T + 4)) (j : Int)) := ⟨_, rfl⟩
          obtain ⟨Le, hLe⟩ : ∃ Le, Le = Lf ++ rg (bsL r.l 9 (T + 5)).length SF := ⟨_, rfl⟩
          have HST6 := zm (show SR r w Le Wi Wi by rw [hLe]; exact HST.out)
          have HG6 := zm (show Ls.Good 0 (Le ++ (rg (bsL r.l 9 (T + 4)).length EF ++ [])) by rw [hLe, hEF]; exact HGK.out)
          have HLE := zm hLe
          have HF := zm hEF
          clear hLe hEF HST HGK
          go_wp2_with fail
          go_loopg [16] (bsL r.l 9 (T + 4)).length (fun jq v16 W_ => ∃ j : Nat, v16 = .int .i64 j ∧ j + jq = (bsL r.l 9 (T + 4)).length ∧ SR r w (Le ++ rg j EF) Wi W_)
          case atStart => exact ⟨0, rfl, by omega, by rw [rg_zero, List.append_nil]; exact HST6.out⟩
          case round =>
           clear HST6
           obtain ⟨j, rfl, hj, hst⟩ := hrel
           have HST := zm hst
           clear hst
           by_cases hla : j < (bsL r.l 9 (T + 4)).length
           ·have HGK := zm (HG6.out.loop hla)
            have HPK := zm (congrFun HF.out j)
            have HRJ := zm (rg_succ j EF)
            obtain ⟨ad3, rfl, hp3_⟩ := Kd.at_int (HBI.out _ HST.out.x) (j : Int) (by omega) (by omega)
            clear hp3_
            have HP3 := zm (show ∀ W', SRx r w Wi W' → W'.cell? (ad3.add j) = some (.int .i64 (rd (bsL r.l 9 (T + 4)) (j : Int))) from fun W' hx => by
             obtain ⟨ad3', e, h2⟩ := Kd.at_int (HBI.out _ hx) (j : Int) (by omega) (by omega)
             cases e
             rwa [Int.toNat_natCast] at h2)
            generalize rd (bsL r.l 9 (T + 4)) (j : Int) = av at *
            generalize EF j = PJ at *
            rw [HPK.out] at HGK
            have hwk : wrap64 (T + 4) = T + 4 := by unfold wrap64; omega
            have hwa : wrap64 (T + 4 + 1) = T + 4 + 1 := by unfold wrap64; omega
            have hwb : wrap64 (T + 4 + 2) = T + 4 + 2 := by unfold wrap64; omega
            have hwc : wrap64 (T + 4 + 3) = T + 4 + 3 := by unfold wrap64; omega
            go_wp2
            obtain ⟨Wd, hWd⟩ : ∃ Wd, wr.drew = Wd := ⟨_, rfl⟩
            have HST := zm (HST.out.quiet (W' := Wd) (by rw [← hWd]; exact below_drew (Below.refl _ _)))
            refine start_ (n := 26) (S := fun W' => SRx r w Wi W') (ds := []) #[false, false, false, false, false, false, false, false, false, false, false, false, false, false, false, false, false, false, false, false, false, false, false, false, false, false] (by kernel_rfl) rfl rfl (by rw [hWd]; exact HST.out.x) (fun hHeld => ?_)
            rw [hWd] at hHeld ⊢
            refine with_tabW rrotab37 rrobits37 (fun HT_ HW_ => ?_)
            refine zp 0 154 (ha := by simp only [zs, hwk, hwa, hwb, hwc]; rfl) (h := ?_)
            refine zp 1 155 (ha := by simp only [zs, hwk, hwa, hwb, hwc]; rfl) (h := ?_)
            refine zp 2 156 (ha := by simp only [zs, hwk, hwa, hwb, hwc]; rfl) (h := ?_)
            refine zp 3 157 (ha := by simp only [zs, hwk, hwa, hwb, hwc]; rfl) (h := ?_)
            refine zp 4 158 (ha := by simp only [zs, hwk, hwa, hwb, hwc]; rfl) (h := ?_)
            refine zt 5 159 (hy := by
              intro w' hw'
              obtain ⟨e0, e1, e2, e3⟩ := HFC.out w' (HCI.out.then_ hw')
              first | (go_simp; with_reducible rfl)) (ha := by simp only [zs, hwk, hwa, hwb, hwc]; rfl) (h := ?_)
            refine zp 6 160 (ha := by simp only [zs, hwk, hwa, hwb, hwc]; rfl) (h := ?_)
            refine zp 7 161 (ha := by simp only [zs, hwk, hwa, hwb, hwc]; rfl) (h := ?_)
            refine zp 8 162 (ha := by simp only [zs, hwk, hwa, hwb, hwc]; rfl) (h := ?_)
            refine zt 9 163 (hy := by
              intro w' hw'
              have hp3 := HP3.out w' hw'
              first | (go_simp; with_reducible rfl)) (ha := by simp only [zs, hwk, hwa, hwb, hwc]; rfl) (h := ?_)
            refine zp 10 164 (ha := by simp only [zs, hwk, hwa, hwb, hwc]; rfl) (h := ?_)
            refine zp 11 165 (ha := by simp only [zs, hwk, hwa, hwb, hwc]; rfl) (h := ?_)
            refine zp 12 166 (ha := by simp only [zs, hwk, hwa, hwb, hwc]; rfl) (h := ?_)
            refine zp 13 167 (ha := by simp only [zs, hwk, hwa, hwb, hwc]; rfl) (h := ?_)
            refine zp 14 168 (ha := by simp only [zs, hwk, hwa, hwb, hwc]; rfl) (h := ?_)
            refine zp 16 170 (ha := by simp only [zs, hwk, hwa, hwb, hwc]; rfl) (h := ?_)
            refine zp 17 171 (ha := by simp only [zs, hwk, hwa, hwb, hwc]; rfl) (h := ?_)
            refine zp 18 172 (ha := by simp only [zs, hwk, hwa, hwb, hwc]; rfl) (h := ?_)
            refine zp 19 173 (ha := by simp only [zs, hwk, hwa, hwb, hwc]; rfl) (h := ?_)
            refine zp 20 174 (ha := by simp only [zs, hwk, hwa, hwb, hwc]; rfl) (h := ?_)
            refine zp 21 175 (ha := by simp only [zs, hwk, hwa, hwb, hwc]; rfl) (h := ?_)
            refine zp 22 176 (ha := by simp only [zs, hwk, hwa, hwb, hwc]; rfl) (h := ?_)
            refine zp 23 177 (ha := by simp only [zs, hwk, hwa, hwb, hwc]; rfl) (h := ?_)
            refine zp 24 178 (ha := by simp only [zs, hwk, hwa, hwb, hwc]; rfl) (h := ?_)
            refine zo 15 169 (h := fun K hK => ?_)
            refine zg Try.func29 #[.pointer (some ⟨r.Br, 0, none⟩), .int .i64 (T + 4 + 1)] (h := ?_)
            refine (sr_in HRR.out HST.out HLO.out (T + 4 + 1)).mono ?_
            rintro e W8 ⟨A8, c8, rfl, hC_, hst_⟩
            refine ⟨_, rfl, ?_⟩
            have HST := zm hst_
            have HC8 := zm hC_
            clear hst_ hC_
            refine hK.out _ _ HST.out.x (fun hHeld => ?_)
            clear hK K
            refine zn (ha := by simp only [zs, hwk, hwa, hwb, hwc]; rfl) (h := ?_)
            refine zo 25 179 (h := fun K hK => ?_)
            refine zg Try.func31 #[.pointer (some ⟨r.Br, 0, none⟩), .int .i64 f1, .int .i64 av, .slice A8 (bsL r.l 9 (T + 4 + 1)).length c8, .slice none 0 0, .int .i64 (T + 8), .int .i64 (T + 4 + 2), .int .i64 (T + 4 + 3)] (h := ?_)
            refine (called_calls HRR.out HST.out ⟨f1, bsL r.l 9 (T + 4 + 1), [], T + 8, T + 4 + 2, T + 4 + 3⟩ av HGK.out HC8.out (Kd.C_nil _ _) HLO.out hfl hs0).mono ?_
            rintro e W9 ⟨rfl, hst_, hg_⟩
            refine ⟨_, rfl, ?_⟩
            have HST := zm hst_
            clear hst_ hg_
            refine hK.out _ _ HST.out.x (fun hHeld => ?_)
            clear hK K
            refine zn (ha := by simp only [zs, hwk, hwa, hwb, hwc]; rfl) (h := ?_)
            refine done_ (done_of HT_.out (by kernel_rfl)) ?_
            clear hHeld
            go_wp2
            go_roundg (gk - 1)
            case measure => omega
            case rel => exact ⟨j + 1, by go_num, by omega, by rw [HRJ.out, HPK.out, ← List.append_assoc]; exact HST.out⟩
           ·obtain rfl : j = (bsL r.l 9 (T + 4)).length := by omega
            go_wp2
            go_roundg (r.l.length - (i + 1))
            case measure => omega
            case rel => exact ⟨i + 1, by go_num, by omega, by
             have e : Ld ++ rg (i + 1) (callsL r) = Le ++ rg (bsL r.l 9 (T + 4)).length EF := by
              rw [HRG.out, HEQ.out, HLE.out, HF.out, HLF.out, HSP.out]
              simp only [apL, List.append_assoc]
             rw [e]
             exact HCI.out.rebase HST.out⟩
       have hq : ((f0 == 5) && ((f3 == 2) || (f3 == 3))) = false := by
        rw [Bool.eq_false_iff]
        intro h
        simp only [Bool.and_eq_true, Bool.or_eq_true, beq_iff_eq] at h
        rcases h with ⟨a, b | b⟩
        ·exact hb2 ⟨a, b⟩
        ·exact hb3 ⟨a, b⟩
       have HEQ := zm (show PI = [] from HFK.out.trans ((if_neg hb2).trans (if_neg hb3)))
       by_cases h5 : f0 = 5
       ·have h2 : (f3 != 2) = true := by
         have : f3 ≠ 2 := fun h => hb2 ⟨h5, h⟩
         simpa using this
        have h3 : (f3 != 3) = true := by
         have : f3 ≠ 3 := fun h => hb3 ⟨h5, h⟩
         simpa using this
        subst h5
        clear hq hb2 hb3
        go_wp2
        go_roundg (gk - 1)
        case measure => omega
        case rel => exact ⟨i + 1, by go_num, by omega, by rw [HRG.out, HEQ.out, List.append_nil]; exact HST.out⟩
       ·have h5' : (f0 != 5) = true := by simpa using h5
        clear hq hb2 hb3 h5
        go_wp2
        go_roundg (gk - 1)
        case measure => omega
        case rel => exact ⟨i + 1, by go_num, by omega, by rw [HRG.out, HEQ.out, List.append_nil]; exact HST.out⟩
      ·obtain rfl : i = r.l.length := by omega
       clear HG5
       have e : Ld ++ rg r.l.length (callsL r) = refL r := by
        rw [HLD.out, HLC.out, refL]
        simp only [List.append_assoc]
       rw [e] at HST
       obtain ⟨Ao, co, hbox, hv⟩ := HST.out.box
       have d4 : wr.cell? ⟨r.Br, 4, none⟩ = some (.slice Ao (factSet (refL r)).length co) := by simp [World.cell?, hbox, cellsR]
       have HV := zm hv
       have hlb : (⟨r.Br, 4, none⟩ : Addr).block < wr.heap.size := HST.out.lt
       have HB := zm HST.out.bel
       have hfs : factSet (refL r) = factSet (roundL r) := factSet_same (mem_refL r)
       have HFS := zm hfs
       clear hv hbox hfs e
       go_wp2
       rw [HFS.out] at HV ⊢
       go_ret
       exact ⟨_, _, rfl, Kd.V_mono HV.out (fun k h => h.1), HB.out⟩
end Go.Proofs.Ytngppcmdaanheaa.Lu
namespace Go.Proofs.Ytngppcmdaanheaa.Ls
open Go.RowKit Go.Maps Go.Proofs.Ytngppcmdaanheaa.Iter Go.Proofs.Ytngppcmdaanheaa.ISet Go.Proofs.Ytngppcmdaanheaa.Pr Go.Proofs.Ytngppcmdaanheaa.Lu Go.Proofs.Ytngppcmdaanheaa.Ext Go.Proofs.YtngppcmdaanheaaW.PrintWords Go.Proofs.YtngppcmdaanheaaW.PrintLast Go.Proofs.YtngppcmdaanheaaW.PrintMore
set_option linter.unusedVariables false
instance decKey (l : List Fa) : Decidable (keyOk l) := by unfold keyOk; infer_instance
def q4_Round.f (a0_0 : Int) (l0_1 : List S44) (l0_2 : List S46) (l1 : List Fa) : Option (List Fa) := if RoundOk (roC a0_0 l0_1 l0_2 l1) ∧ keyOk l1 then some (factSet (roundL (roC a0_0 l0_1 l0_2 l1))) else none
theorem q4_Round.calls (a0_0 : Int) (A0_1 : Option Addr) (c0_1 : Nat) (l0_1 : List S44) (A0_2 : Option Addr) (c0_2 : Nat) (l0_2 : List S46) (A1 : Option Addr) (c1 : Nat) (l1 : List Fa) (r : List Fa) (w : World)
  (hr0_1 : Kd.C k44 w A0_1 l0_1.length l0_1) (hc0_1 : l0_1.length ≤ c0_1) (hr0_2 : Kd.C k46 w A0_2 l0_2.length l0_2) (hc0_2 : l0_2.length ≤ c0_2) (hr1 : Kd.C k41 w A1 l1.length l1) (hc1 : l1.length ≤ c1) (h : q4_Round.f a0_0 l0_1 l0_2 l1 = some r) :
  Calls Try.prog 15 #[.agg #[.int .i64 a0_0, .slice A0_1 l0_1.length c0_1, .slice A0_2 l0_2.length c0_2], .slice A1 l1.length c1] w fun e w' => ∃ v0_ : Value, e = .returned v0_ ∧ Kd.V k41 41 w' w.heap.size (fun k_ => w.heap.size ≤ k_) v0_ r ∧ Below w.heap.size w w' := by
 unfold q4_Round.f at h
 by_cases hs : RoundOk (roC a0_0 l0_1 l0_2 l1) ∧ keyOk l1
 ·rw [if_pos hs] at h
  obtain rfl : factSet (roundL (roC a0_0 l0_1 l0_2 l1)) = r := by injection h
  have hk : RoundOk (⟨w.heap.size + 1, a0_0, A0_1, c0_1, l0_1, A0_2, c0_2, l0_2, A1, c1, l1, 0⟩ : Ro) := RoundOk.of hs.1
  refine (Round_calls (r := ⟨w.heap.size + 1, a0_0, A0_1, c0_1, l0_1, A0_2, c0_2, l0_2, A1, c1, l1, 0⟩) rfl hr0_1 hr0_2 hr1 hc1 hk.good ⟨hk.srt, hs.2, hk.len⟩ hk.fun1 hk.sets hk.mark).mono ?_
  rintro e w' ⟨A, c, rfl, hv, hb⟩
  exact ⟨_, rfl, hv, hb⟩
 ·rw [if_neg hs] at h
  cases h
end Go.Proofs.Ytngppcmdaanheaa.Ls
namespace Go.Proofs.Ytngppcmdaanheaa.Pr
open Go.RowKit Go.Proofs.YtngppcmdaanheaaW.PrintWords Go.Proofs.YtngppcmdaanheaaW.PrintLast Go.Proofs.YtngppcmdaanheaaW.PrintMore
attribute [local go_sem] max2_int min2_int max_two min_two
set_option linter.unusedVariables false
set_option linter.unusedSimpArgs false
/-! ### cmp_Or_int: function 61 -/
def cmp_Or_int.l0 : Nat → Int → List Int → Int → Int → Option (Int)
 | 0, _, _, _, _ => none
 | k + 1, x3, x6, x7, x8 => if x8 < x7 then (if 0 ≤ x8 then (if x8 < (x6.length : Int) then (if (rd x6 x8) = x3 then (cmp_Or_int.l0 k x3 x6 x7 (wrap64 (x8 + 1))) else (some (rd x6 x8))) else (none)) else (none)) else (some x3)
def cmp_Or_int.f (k : Nat) (l0 : List Int) : Option (Int) := cmp_Or_int.l0 k 0 l0 (l0.length : Int) 0
theorem cmp_Or_int.mono_l : ∀ k, (∀ y0 y1 y2 y3, LeO (cmp_Or_int.l0 k y0 y1 y2 y3) (cmp_Or_int.l0 (k + 1) y0 y1 y2 y3))
 | 0 => fun _ _ _ _ r h => by simp [cmp_Or_int.l0] at h
 | k + 1 => by
  have ih0 := cmp_Or_int.mono_l k
  ·intro y0 y1 y2 y3
   unfold cmp_Or_int.l0
   repeat' first
   | (with_reducible exact ih0 _ _ _ _)
   | (with_reducible exact LeO.refl _)
   | (with_reducible exact LeO.none _)
   | (with_reducible refine LeO.ite ?_ ?_)
   | (with_reducible refine LeO.bind ?_ (fun _ => ?_))
   | exact ih0 _ _ _ _
   | exact LeO.none _
   | refine LeO.ite ?_ ?_
   | refine LeO.bind ?_ (fun _ => ?_)
theorem cmp_Or_int.mono : ∀ a0 k, LeO (cmp_Or_int.f k a0) (cmp_Or_int.f (k + 1) a0) := by
 intro a0 k
 have ih0 := cmp_Or_int.mono_l k
 unfold cmp_Or_int.f
 repeat' first
   | (with_reducible exact ih0 _ _ _ _)
   | (with_reducible exact LeO.refl _)
   | (with_reducible exact LeO.none _)
   | (with_reducible refine LeO.ite ?_ ?_)
   | (with_reducible refine LeO.bind ?_ (fun _ => ?_))
   | exact ih0 _ _ _ _
   | exact LeO.none _
   | refine LeO.ite ?_ ?_
   | refine LeO.bind ?_ (fun _ => ?_)
set_option maxHeartbeats 8000000 in
set_option maxRecDepth 100000 in
theorem cmp_Or_int.calls (k : Nat) (A0 : Option Addr) (c0 : Nat) (l0 : List Int) (r : Int) (w : World) (hr0 : Kd.C (Kd.int .i64) w A0 l0.length l0) (hc0 : l0.length ≤ c0) (h : cmp_Or_int.f k l0 = some r) :
  Calls Try.prog 61 #[.slice A0 l0.length c0] w fun e w' => e = .returned (.int .i64 r) ∧ Drawn0 w w' := by
 have HR0 := zm hr0
 have HC0 := zm hc0
 clear hr0 hc0
 have H : (cmp_Or_int.l0 k 0 l0 (l0.length : Int) 0) = some r := h
 clear h
 have H' := zm H
 clear H
 go_enter Try.func61, Try.ntmps61
 go_wp2
 go_loopg [8] k (fun kq v8 w' => ∃ (x8_1 : Int), v8 = .int .i64 x8_1 ∧ Aside0 (cmp_Or_int.l0 kq 0 l0 (l0.length : Int) x8_1 = some r) ∧ Aside0 (kq ≤ k) ∧ Drawn0 w w')
 case atStart => exact ⟨(0), zR, H', ⟨Nat.le_refl _⟩, by repeat (first | exact Drawn0.refl _ | apply Drawn0.step)⟩
 case round =>
  clear H'
  obtain ⟨x8_1, rfl, HA, HK1, ⟨m1, rfl⟩⟩ := hrel
  cases gk with
  | zero => exact absurd HA.out (by simp [cmp_Or_int.l0])
  | succ k1 =>
   have H := HA.out
   clear HA
   simp only [cmp_Or_int.l0] at H
   by_cases c2 : x8_1 < (l0.length : Int)
   ·rw [if_pos c2] at H
    have c2b0 : decide (x8_1 < (l0.length : Int)) = true := decide_eq_true c2
    clear c2
    by_cases c3 : 0 ≤ x8_1
    ·rw [if_pos c3] at H
     have c3b0 : decide (0 ≤ x8_1) = true := decide_eq_true c3
     clear c3
     by_cases c4 : x8_1 < (l0.length : Int)
     ·rw [if_pos c4] at H
      have c4b0 : decide (x8_1 < (l0.length : Int)) = true := decide_eq_true c4
      clear c4
      by_cases c5 : (rd l0 x8_1) = 0
      ·rw [if_pos c5] at H
       have c5b0 : ((rd l0 x8_1) == 0) = true := beq_iff_eq.mpr c5
       have c5b1 : ((rd l0 x8_1) != 0) = false := bne_eq_false_iff_eq.mpr c5
       clear c5
       have H' := zm H
       clear H
       have p101 : 0 ≤ (x8_1 : Int) := of_decide_eq_true zA
       have q101 : x8_1 < (l0.length : Int) := of_decide_eq_true zA
       obtain ⟨ad101, e101, hx101_0⟩ := Kd.at_int HR0.out x8_1 p101 q101
       cases e101
       replace p101 := eq_true p101
       replace q101 := eq_true q101
       go_wp2
       go_roundg k1
       case measure => have := HK1.out; omega
       case rel => exact ⟨(wrap64 (x8_1 + 1)), zR, H', ⟨by have := HK1.out; omega⟩, by repeat (first | exact Drawn0.refl _ | apply Drawn0.step)⟩
      ·rw [if_neg c5] at H
       have c5b0 : ((rd l0 x8_1) == 0) = false := beq_eq_false_iff_ne.mpr c5
       have c5b1 : ((rd l0 x8_1) != 0) = true := bne_iff_ne.mpr c5
       obtain rfl := Option.some.inj H
       have p101 : 0 ≤ (x8_1 : Int) := of_decide_eq_true zA
       have q101 : x8_1 < (l0.length : Int) := of_decide_eq_true zA
       obtain ⟨ad101, e101, hx101_0⟩ := Kd.at_int HR0.out x8_1 p101 q101
       cases e101
       replace p101 := eq_true p101
       replace q101 := eq_true q101
       go_wp2
       go_ret
       exact ⟨zR, by repeat (first | exact Drawn0.refl _ | apply Drawn0.step)⟩
     ·rw [if_neg c4] at H
      exact absurd H (by simp)
    ·rw [if_neg c3] at H
     exact absurd H (by simp)
   ·rw [if_neg c2] at H
    have c2b0 : decide (x8_1 < (l0.length : Int)) = false := decide_eq_false c2
    clear c2
    obtain rfl := Option.some.inj H
    go_wp2
    go_ret
    exact ⟨zR, by repeat (first | exact Drawn0.refl _ | apply Drawn0.step)⟩
end Go.Proofs.Ytngppcmdaanheaa.Pr
namespace Go.Proofs.Ytngppcmdaanheaa.Pr
open Go.RowKit Go.Proofs.YtngppcmdaanheaaW.PrintWords Go.Proofs.YtngppcmdaanheaaW.PrintLast Go.Proofs.YtngppcmdaanheaaW.PrintMore
attribute [local go_sem] max2_int min2_int max_two min_two
set_option linter.unusedVariables false
set_option linter.unusedSimpArgs false
/-! ### cmp_isNaN_int: function 79 -/
def cmp_isNaN_int.f (a0 : Int) : Option (Bool) := some (a0 != a0)
set_option maxHeartbeats 8000000 in
set_option maxRecDepth 100000 in
theorem cmp_isNaN_int.calls (a0 : Int) (r : Bool) (w : World) (h : cmp_isNaN_int.f a0 = some r) :
  Calls Try.prog 79 #[.int .i64 a0] w fun e w' => e = .returned (.bool r) ∧ Drawn0 w w' := by
 have H : (some (a0 != a0)) = some r := h
 clear h
 obtain rfl := Option.some.inj H
 go_enter Try.func79, Try.ntmps79
 go_wp2
 go_ret
 exact ⟨zR, by repeat (first | exact Drawn0.refl _ | apply Drawn0.step)⟩
end Go.Proofs.Ytngppcmdaanheaa.Pr
namespace Go.Proofs.Ytngppcmdaanheaa.Pr
open Go.RowKit Go.Proofs.YtngppcmdaanheaaW.PrintWords Go.Proofs.YtngppcmdaanheaaW.PrintLast Go.Proofs.YtngppcmdaanheaaW.PrintMore
attribute [local go_sem] max2_int min2_int max_two min_two
set_option linter.unusedVariables false
set_option linter.unusedSimpArgs false
/-! ### cmp_Compare_int: function 62 -/
def cmp_Compare_int.f (a0 : Int) (a1 : Int) : Option (Int) := (cmp_isNaN_int.f a0).bind fun t102 => ((cmp_isNaN_int.f a1).bind fun t103 => (if t102 = true then (if t103 = true then (some 0) else (some (-1))) else (if t103 = true then (some 1) else (if a0 < a1 then (some (-1)) else (if a0 > a1 then (some 1) else (some 0))))))
set_option maxHeartbeats 8000000 in
set_option maxRecDepth 100000 in
theorem cmp_Compare_int.calls (a0 : Int) (a1 : Int) (r : Int) (w : World) (h : cmp_Compare_int.f a0 a1 = some r) :
  Calls Try.prog 62 #[.int .i64 a0, .int .i64 a1] w fun e w' => e = .returned (.int .i64 r) ∧ Drawn0 w w' := by
 have H : ((cmp_isNaN_int.f a0).bind fun t102 => ((cmp_isNaN_int.f a1).bind fun t103 => (if t102 = true then (if t103 = true then (some 0) else (some (-1))) else (if t103 = true then (some 1) else (if a0 < a1 then (some (-1)) else (if a0 > a1 then (some 1) else (some 0))))))) = some r := h
 clear h
 obtain ⟨t102, A3, H⟩ := zO H
 obtain ⟨t103, A4, H⟩ := zO H
 by_cases c5 : t102 = true
 ·subst c5
  rw [if_pos rfl] at H
  by_cases c6 : t103 = true
  ·subst c6
   rw [if_pos rfl] at H
   obtain rfl := Option.some.inj H
   go_enter Try.func62, Try.ntmps62
   go_wp2_with (first | ((with_reducible refine gate_callee (f := 79) rfl ?_); refine goesL_ (some 10) rfl rfl Try.func79 (by kernel_rfl) rfl #[.int .i64 a1] rfl zP ?_; (with_reducible refine (cmp_isNaN_int.calls a1 true _ A4.out).mono ?_); rintro e w' ⟨rfl, ⟨nd, rfl⟩⟩; refine ⟨_, rfl, ?_⟩) | ((with_reducible refine gate_callee (f := 79) rfl ?_); refine goesL_ (some 8) rfl rfl Try.func79 (by kernel_rfl) rfl #[.int .i64 a0] rfl zP ?_; (with_reducible refine (cmp_isNaN_int.calls a0 true _ A3.out).mono ?_); rintro e w' ⟨rfl, ⟨nd, rfl⟩⟩; refine ⟨_, rfl, ?_⟩))
   go_ret
   exact ⟨zR, by repeat (first | exact Drawn0.refl _ | apply Drawn0.step)⟩
  ·replace c6 := Bool.eq_false_iff.mpr c6
   subst c6
   rw [if_neg (show ¬ (false = true) by decide)] at H
   obtain rfl := Option.some.inj H
   go_enter Try.func62, Try.ntmps62
   go_wp2_with (first | ((with_reducible refine gate_callee (f := 79) rfl ?_); refine goesL_ (some 10) rfl rfl Try.func79 (by kernel_rfl) rfl #[.int .i64 a1] rfl zP ?_; (with_reducible refine (cmp_isNaN_int.calls a1 false _ A4.out).mono ?_); rintro e w' ⟨rfl, ⟨nd, rfl⟩⟩; refine ⟨_, rfl, ?_⟩) | ((with_reducible refine gate_callee (f := 79) rfl ?_); refine goesL_ (some 8) rfl rfl Try.func79 (by kernel_rfl) rfl #[.int .i64 a0] rfl zP ?_; (with_reducible refine (cmp_isNaN_int.calls a0 true _ A3.out).mono ?_); rintro e w' ⟨rfl, ⟨nd, rfl⟩⟩; refine ⟨_, rfl, ?_⟩))
   go_ret
   exact ⟨zR, by repeat (first | exact Drawn0.refl _ | apply Drawn0.step)⟩
 ·replace c5 := Bool.eq_false_iff.mpr c5
  subst c5
  rw [if_neg (show ¬ (false = true) by decide)] at H
  by_cases c7 : t103 = true
  ·subst c7
   rw [if_pos rfl] at H
   obtain rfl := Option.some.inj H
   go_enter Try.func62, Try.ntmps62
   go_wp2_with (first | ((with_reducible refine gate_callee (f := 79) rfl ?_); refine goesL_ (some 10) rfl rfl Try.func79 (by kernel_rfl) rfl #[.int .i64 a1] rfl zP ?_; (with_reducible refine (cmp_isNaN_int.calls a1 true _ A4.out).mono ?_); rintro e w' ⟨rfl, ⟨nd, rfl⟩⟩; refine ⟨_, rfl, ?_⟩) | ((with_reducible refine gate_callee (f := 79) rfl ?_); refine goesL_ (some 8) rfl rfl Try.func79 (by kernel_rfl) rfl #[.int .i64 a0] rfl zP ?_; (with_reducible refine (cmp_isNaN_int.calls a0 false _ A3.out).mono ?_); rintro e w' ⟨rfl, ⟨nd, rfl⟩⟩; refine ⟨_, rfl, ?_⟩))
   go_ret
   exact ⟨zR, by repeat (first | exact Drawn0.refl _ | apply Drawn0.step)⟩
  ·replace c7 := Bool.eq_false_iff.mpr c7
   subst c7
   rw [if_neg (show ¬ (false = true) by decide)] at H
   by_cases c8 : a0 < a1
   ·rw [if_pos c8] at H
    have c8b0 : decide (a0 < a1) = true := decide_eq_true c8
    clear c8
    obtain rfl := Option.some.inj H
    go_enter Try.func62, Try.ntmps62
    go_wp2_with (first | ((with_reducible refine gate_callee (f := 79) rfl ?_); refine goesL_ (some 10) rfl rfl Try.func79 (by kernel_rfl) rfl #[.int .i64 a1] rfl zP ?_; (with_reducible refine (cmp_isNaN_int.calls a1 false _ A4.out).mono ?_); rintro e w' ⟨rfl, ⟨nd, rfl⟩⟩; refine ⟨_, rfl, ?_⟩) | ((with_reducible refine gate_callee (f := 79) rfl ?_); refine goesL_ (some 8) rfl rfl Try.func79 (by kernel_rfl) rfl #[.int .i64 a0] rfl zP ?_; (with_reducible refine (cmp_isNaN_int.calls a0 false _ A3.out).mono ?_); rintro e w' ⟨rfl, ⟨nd, rfl⟩⟩; refine ⟨_, rfl, ?_⟩))
    go_ret
    exact ⟨zR, by repeat (first | exact Drawn0.refl _ | apply Drawn0.step)⟩
   ·rw [if_neg c8] at H
    have c8b0 : decide (a0 < a1) = false := decide_eq_false c8
    clear c8
    by_cases c9 : a0 > a1
    ·rw [if_pos c9] at H
     have c9b0 : decide (a1 < a0) = true := decide_eq_true c9
     clear c9
     obtain rfl := Option.some.inj H
     go_enter Try.func62, Try.ntmps62
     go_wp2_with (first | ((with_reducible refine gate_callee (f := 79) rfl ?_); refine goesL_ (some 10) rfl rfl Try.func79 (by kernel_rfl) rfl #[.int .i64 a1] rfl zP ?_; (with_reducible refine (cmp_isNaN_int.calls a1 false _ A4.out).mono ?_); rintro e w' ⟨rfl, ⟨nd, rfl⟩⟩; refine ⟨_, rfl, ?_⟩) | ((with_reducible refine gate_callee (f := 79) rfl ?_); refine goesL_ (some 8) rfl rfl Try.func79 (by kernel_rfl) rfl #[.int .i64 a0] rfl zP ?_; (with_reducible refine (cmp_isNaN_int.calls a0 false _ A3.out).mono ?_); rintro e w' ⟨rfl, ⟨nd, rfl⟩⟩; refine ⟨_, rfl, ?_⟩))
     go_ret
     exact ⟨zR, by repeat (first | exact Drawn0.refl _ | apply Drawn0.step)⟩
    ·rw [if_neg c9] at H
     have c9b0 : decide (a1 < a0) = false := decide_eq_false c9
     clear c9
     obtain rfl := Option.some.inj H
     go_enter Try.func62, Try.ntmps62
     go_wp2_with (first | ((with_reducible refine gate_callee (f := 79) rfl ?_); refine goesL_ (some 10) rfl rfl Try.func79 (by kernel_rfl) rfl #[.int .i64 a1] rfl zP ?_; (with_reducible refine (cmp_isNaN_int.calls a1 false _ A4.out).mono ?_); rintro e w' ⟨rfl, ⟨nd, rfl⟩⟩; refine ⟨_, rfl, ?_⟩) | ((with_reducible refine gate_callee (f := 79) rfl ?_); refine goesL_ (some 8) rfl rfl Try.func79 (by kernel_rfl) rfl #[.int .i64 a0] rfl zP ?_; (with_reducible refine (cmp_isNaN_int.calls a0 false _ A3.out).mono ?_); rintro e w' ⟨rfl, ⟨nd, rfl⟩⟩; refine ⟨_, rfl, ?_⟩))
     go_ret
     exact ⟨zR, by repeat (first | exact Drawn0.refl _ | apply Drawn0.step)⟩
end Go.Proofs.Ytngppcmdaanheaa.Pr
namespace Go.Proofs.Ytngppcmdaanheaa.Pr
open Go.RowKit Go.Proofs.Ytngppcmdaanheaa.Ls Go.Proofs.Ytngppcmdaanheaa.Va Go.Proofs.YtngppcmdaanheaaW.PrintWords Go.Proofs.YtngppcmdaanheaaW.PrintLast Go.Proofs.YtngppcmdaanheaaW.PrintMore
attribute [local go_sem] max2_int min2_int max_two min_two
set_option linter.unusedVariables false
set_option linter.unusedSimpArgs false
/-! ### e_order: function 42 -/
def e_order.f (k : Nat) (a0_0 : Int) (a0_1 : Int) (a0_2 : ByteArray) (a0_3 : Int) (a1_0 : Int) (a1_1 : Int) (a1_2 : ByteArray) (a1_3 : Int) : Option (Int) := (cmp_Compare_int.f a0_0 a1_0).bind fun t106 => ((cmp_Compare_int.f a0_1 a1_1).bind fun t107 => ((cmp_Compare_string.f a0_2 a1_2).bind fun t108 => ((cmp_Compare_int.f a0_3 a1_3).bind fun t109 => ((cmp_Or_int.f k (([t106, t107, t108, t109] : List Int))).bind fun t113 => (some t113)))))
theorem e_order.mono : ∀ a0 a1 a2 a3 a4 a5 a6 a7 k, LeO (e_order.f k a0 a1 a2 a3 a4 a5 a6 a7) (e_order.f (k + 1) a0 a1 a2 a3 a4 a5 a6 a7) := by
 intro a0 a1 a2 a3 a4 a5 a6 a7 k
 unfold e_order.f
 repeat' first
   | (with_reducible exact cmp_Or_int.mono _ _)
   | (with_reducible exact LeO.refl _)
   | (with_reducible exact LeO.none _)
   | (with_reducible refine LeO.ite ?_ ?_)
   | (with_reducible refine LeO.bind ?_ (fun _ => ?_))
   | exact cmp_Or_int.mono _ _
   | exact LeO.none _
   | refine LeO.ite ?_ ?_
   | refine LeO.bind ?_ (fun _ => ?_)
def e_order.T1 : Bool × List (List Nat × List Nat) := (true, [([], []), ([0], [0]), ([], []), ([2], [2]), ([1, 3], [1, 3]), ([], []), ([5], [5]), ([], []), ([7], [7]), ([6, 8, 4], [6, 8]), ([], []), ([10], [10]), ([], []), ([12], [12]), ([11, 13, 9], [11, 13]), ([], []), ([15], [15]), ([], []), ([17], [17]), ([16, 18, 14], [16, 18]), ([4, 9, 14, 19], [4, 9, 14, 19]), ([20, 19], [20]), ([21, 21, 0, 1, 2, 3, 4, 5, 6, 7, 8, 9, 10, 11, 12, 13, 14, 15, 16, 17, 18, 19, 20, 21], [21])])
def e_order.B1 : List Nat := [0, 1, 0, 4, 15, 0, 32, 0, 128, 511, 0, 1024, 0, 4096, 16383, 0, 32768, 0, 131072, 524287, 1048575, 2097151, 4194303]
theorem e_order.tab1 : rtab .any (opsOf Try.f42 1) = e_order.T1 := by kernel_rfl
theorem e_order.bits1 : waitsOk e_order.T1.2 e_order.B1 = true := by kernel_rfl
set_option maxHeartbeats 8000000 in
set_option maxRecDepth 100000 in
theorem e_order.calls (k : Nat) (a0_0 : Int) (a0_1 : Int) (a0_2 : ByteArray) (a0_3 : Int) (a1_0 : Int) (a1_1 : Int) (a1_2 : ByteArray) (a1_3 : Int) (r : Int) (w : World) (h : e_order.f k a0_0 a0_1 a0_2 a0_3 a1_0 a1_1 a1_2 a1_3 = some r) :
  Calls Try.prog 42 #[.agg #[.int .i64 a0_0, .int .i64 a0_1, .string a0_2, .int .i64 a0_3], .agg #[.int .i64 a1_0, .int .i64 a1_1, .string a1_2, .int .i64 a1_3]] w fun e w' => e = .returned (.int .i64 r) ∧ Below w.heap.size w w' := by
 have hu41 := Try.underlying41
 have HB := zm (Below.refl w.heap.size w)
 have H : ((cmp_Compare_int.f a0_0 a1_0).bind fun t106 => ((cmp_Compare_int.f a0_1 a1_1).bind fun t107 => ((cmp_Compare_string.f a0_2 a1_2).bind fun t108 => ((cmp_Compare_int.f a0_3 a1_3).bind fun t109 => ((cmp_Or_int.f k (([t106, t107, t108, t109] : List Int))).bind fun t113 => (some t113)))))) = some r := h
 clear h
 obtain ⟨t106, A3, H⟩ := zO H
 obtain ⟨t107, A4, H⟩ := zO H
 obtain ⟨t108, A5, H⟩ := zO H
 obtain ⟨t109, A6, H⟩ := zO H
 obtain ⟨y110, hy110⟩ : ∃ y_ : List Int, y_ = (([t106, t107, t108, t109] : List Int)) := ⟨_, rfl⟩
 replace H : ((cmp_Or_int.f k y110).bind fun t113 => (some t113)) = some r := by first | (rw [hy110]; with_reducible exact H) | (have H2_ := (Option.bind_some _ _).symm.trans H; rw [hy110]; with_reducible exact H2_) | (have H2_ := (Option.bind_some _ _).symm.trans H; with_reducible exact H2_) | with_reducible exact H | (rw [hy110]; exact H) | exact H
 have Ny110 := zm hy110
 clear hy110
 obtain ⟨t113, A7, H⟩ := zO H
 obtain rfl := Option.some.inj H
 go_enter Try.func42, Try.ntmps42
 try go_wp2_with (first | ((with_reducible refine gate_dst (N := 2) rfl ?_); refine zX (N := 2) (cs := #[.int .i64 a0_0, .int .i64 a0_1, .string a0_2, .int .i64 a0_3]) (t := 41) (h := ?_); intro gb104 hg w8 hbox hb; have BK104 := zm hbox; have GW104 := zm ((by rw [hg]; exact (below_size zB) : w.heap.size ≤ gb104)); have GE104 := zm ((by rw [hg]; exact (below_size zB) : w.heap.size ≤ gb104)); replace HB := zm (below_step zB hb); clear hb hbox hg) | ((with_reducible refine gate_dst (N := 3) rfl ?_); refine zX (N := 3) (cs := #[.int .i64 a1_0, .int .i64 a1_1, .string a1_2, .int .i64 a1_3]) (t := 41) (h := ?_); intro gb105 hg w9 hbox hb; have BK105 := zm hbox; have GW105 := zm ((by rw [hg]; exact (below_size zG) : w.heap.size ≤ gb105)); have GE105 := zm ((by rw [hg]; exact (below_size zG) : w.heap.size ≤ gb105)); have NB104_105 := zm ((by rw [hg]; exact Nat.ne_of_lt (blk_lt (g := gb104) (o := .cells #[.int .i64 a0_0, .int .i64 a0_1, .string a0_2, .int .i64 a0_3] 41 (0, 0)) zK) : gb104 ≠ gb105)); have NB105_104 := zm ((by rw [hg]; exact Nat.ne_of_gt (blk_lt (g := gb104) (o := .cells #[.int .i64 a0_0, .int .i64 a0_1, .string a0_2, .int .i64 a0_3] 41 (0, 0)) zK) : gb105 ≠ gb104)); replace BK104 := zm (blk_below (g := gb104) (o := .cells #[.int .i64 a0_0, .int .i64 a0_1, .string a0_2, .int .i64 a0_3] 41 (0, 0)) zK hb); replace HB := zm (below_step zG hb); clear hb hbox hg))
 have n0_ := zm (blk_drew BK104.out)
 have n1_ := zm (blk_drew BK105.out)
 have n2_ := zm (below_drew1 HB.out)
 clear BK104
 clear BK105
 clear HB
 have BK104 := n0_
 have BK105 := n1_
 have HB := n2_
 clear n0_ n1_ n2_
 refine start_ (n := 23) (S := fun w' => w'.cell? ⟨gb104, 0, none⟩ = some (.int .i64 a0_0) ∧ w'.cell? ⟨gb104, 1, none⟩ = some (.int .i64 a0_1) ∧ w'.cell? ⟨gb104, 2, none⟩ = some (.string a0_2) ∧ w'.cell? ⟨gb104, 3, none⟩ = some (.int .i64 a0_3) ∧ w'.cell? ⟨gb105, 0, none⟩ = some (.int .i64 a1_0) ∧ w'.cell? ⟨gb105, 1, none⟩ = some (.int .i64 a1_1) ∧ w'.cell? ⟨gb105, 2, none⟩ = some (.string a1_2) ∧ w'.cell? ⟨gb105, 3, none⟩ = some (.int .i64 a1_3)) (ds := []) #[false, false, false, false, false, false, false, false, false, false, false, false, false, false, false, false, false, false, false, false, false, false, false] (by kernel_rfl) rfl rfl ⟨zj BK104.out 0, zj BK104.out 1, zj BK104.out 2, zj BK104.out 3, zj BK105.out 0, zj BK105.out 1, zj BK105.out 2, zj BK105.out 3⟩ (fun hHeld => ?_); refine with_tabW e_order.tab1 e_order.bits1 (fun HT_ HW_ => ?_)
 generalize w9.drew = w10 at BK104 BK105 HB hHeld ⊢
 refine zp 0 5 (hy := by
   intro w'
   go_simp
   with_reducible rfl) (h := ?_)
 refine zp 2 7 (hy := by
   intro w'
   go_simp
   with_reducible rfl) (h := ?_)
 refine zp 5 10 (hy := by
   intro w'
   go_simp
   with_reducible rfl) (h := ?_)
 refine zp 7 12 (hy := by
   intro w'
   go_simp
   with_reducible rfl) (h := ?_)
 refine zp 10 15 (hy := by
   intro w'
   go_simp
   with_reducible rfl) (h := ?_)
 refine zp 12 17 (hy := by
   intro w'
   go_simp
   with_reducible rfl) (h := ?_)
 refine zp 15 20 (hy := by
   intro w'
   go_simp
   with_reducible rfl) (h := ?_)
 refine zp 17 22 (hy := by
   intro w'
   go_simp
   with_reducible rfl) (h := ?_)
 refine zt 1 6 (hy := by
   rintro w' ⟨s0, s1, s2, s3, s4, s5, s6, s7⟩
   go_simp
   with_reducible rfl) (h := ?_)
 refine zt 3 8 (hy := by
   rintro w' ⟨s0, s1, s2, s3, s4, s5, s6, s7⟩
   go_simp
   with_reducible rfl) (h := ?_)
 refine zt 6 11 (hy := by
   rintro w' ⟨s0, s1, s2, s3, s4, s5, s6, s7⟩
   go_simp
   with_reducible rfl) (h := ?_)
 refine zt 8 13 (hy := by
   rintro w' ⟨s0, s1, s2, s3, s4, s5, s6, s7⟩
   go_simp
   with_reducible rfl) (h := ?_)
 refine zt 11 16 (hy := by
   rintro w' ⟨s0, s1, s2, s3, s4, s5, s6, s7⟩
   go_simp
   with_reducible rfl) (h := ?_)
 refine zt 13 18 (hy := by
   rintro w' ⟨s0, s1, s2, s3, s4, s5, s6, s7⟩
   go_simp
   with_reducible rfl) (h := ?_)
 refine zt 16 21 (hy := by
   rintro w' ⟨s0, s1, s2, s3, s4, s5, s6, s7⟩
   go_simp
   with_reducible rfl) (h := ?_)
 refine zt 18 23 (hy := by
   rintro w' ⟨s0, s1, s2, s3, s4, s5, s6, s7⟩
   go_simp
   with_reducible rfl) (h := ?_)
 refine zo 4 9 (h := fun K hK => ?_)
 refine goes_ Try.func62 (by kernel_rfl) rfl #[.int .i64 a0_0, .int .i64 a1_0] (by rfl) rfl rfl zP ?_
 with_reducible refine (cmp_Compare_int.calls a0_0 a1_0 t106 _ A3.out).mono ?_
 rintro e w' ⟨rfl, ⟨nd, rfl⟩⟩
 refine ⟨_, rfl, ?_⟩
 refine hK.out _ _ ⟨zj BK104.out 0, zj BK104.out 1, zj BK104.out 2, zj BK104.out 3, zj BK105.out 0, zj BK105.out 1, zj BK105.out 2, zj BK105.out 3⟩ (fun hHeld => ?_)
 clear hK K
 refine zn (h := ?_)
 refine zo 9 14 (h := fun K hK => ?_)
 refine goes_ Try.func62 (by kernel_rfl) rfl #[.int .i64 a0_1, .int .i64 a1_1] (by rfl) rfl rfl zP ?_
 with_reducible refine (cmp_Compare_int.calls a0_1 a1_1 t107 _ A4.out).mono ?_
 rintro e w' ⟨rfl, ⟨nd, rfl⟩⟩
 refine ⟨_, rfl, ?_⟩
 refine hK.out _ _ ⟨zj BK104.out 0, zj BK104.out 1, zj BK104.out 2, zj BK104.out 3, zj BK105.out 0, zj BK105.out 1, zj BK105.out 2, zj BK105.out 3⟩ (fun hHeld => ?_)
 clear hK K
 refine zn (h := ?_)
 refine zo 14 19 (h := fun K hK => ?_)
 refine goes_ Try.func63 (by kernel_rfl) rfl #[.string a0_2, .string a1_2] (by rfl) rfl rfl zP ?_
 with_reducible refine (cmp_Compare_string.calls a0_2 a1_2 t108 _ A5.out).mono ?_
 rintro e w' ⟨rfl, ⟨nd, rfl⟩⟩
 refine ⟨_, rfl, ?_⟩
 refine hK.out _ _ ⟨zj BK104.out 0, zj BK104.out 1, zj BK104.out 2, zj BK104.out 3, zj BK105.out 0, zj BK105.out 1, zj BK105.out 2, zj BK105.out 3⟩ (fun hHeld => ?_)
 clear hK K
 refine zn (h := ?_)
 refine zo 19 24 (h := fun K hK => ?_)
 refine goes_ Try.func62 (by kernel_rfl) rfl #[.int .i64 a0_3, .int .i64 a1_3] (by rfl) rfl rfl zP ?_
 with_reducible refine (cmp_Compare_int.calls a0_3 a1_3 t109 _ A6.out).mono ?_
 rintro e w' ⟨rfl, ⟨nd, rfl⟩⟩
 refine ⟨_, rfl, ?_⟩
 refine hK.out _ _ ⟨zj BK104.out 0, zj BK104.out 1, zj BK104.out 2, zj BK104.out 3, zj BK105.out 0, zj BK105.out 1, zj BK105.out 2, zj BK105.out 3⟩ (fun hHeld => ?_)
 clear hK K
 refine zn (h := ?_)
 refine zo 20 25 (h := fun K hK => ?_)
 refine Kd.R_lit_step (Kd.int .i64) _ 3 ?hg (N := 25) ?hd (xs := ([t106, t107, t108, t109] : List Int)) (inner := [.int .i64 t106, .int .i64 t107, .int .i64 t108, .int .i64 t109]) (ok := fun _ => True) (okp := fun _ => True) ?hr ?hp (fun _ hk => hk) trivial (Below.refl _ _) (Nat.le_refl _) (by simp) ?_; (case hd => rfl); (case hg => rfl); (case hr => first | (go_simp; done) | (go_simp; rfl)); (case hp => exact (Reps.one (show Kd.M (Kd.int .i64) _ _ _ t106 [.int .i64 t106] from rfl) (Reps.one (show Kd.M (Kd.int .i64) _ _ _ t107 [.int .i64 t107] from rfl) (Reps.one (show Kd.M (Kd.int .i64) _ _ _ t108 [.int .i64 t108] from rfl) (Reps.one (show Kd.M (Kd.int .i64) _ _ _ t109 [.int .i64 t109] from rfl) (Reps.none _ _))))))
 intro v111 w11 ho12 hb hg_ hnew_
 clear hg_ hnew_
 (first | rw [← Ny110.out] at ho12 | (simp only [Int.reduceToNat] at ho12; rw [← Ny110.out] at ho12))
 have n0_ := zm (Kd.R_lower ho12 (below_size zG))
 have n1_ := zm (blk_below (g := gb104) (o := .cells #[.int .i64 a0_0, .int .i64 a0_1, .string a0_2, .int .i64 a0_3] 41 (0, 0)) zK hb)
 have n2_ := zm (blk_below (g := gb105) (o := .cells #[.int .i64 a1_0, .int .i64 a1_1, .string a1_2, .int .i64 a1_3] 41 (0, 0)) zK hb)
 have n3_ := zm (below_step zG hb)
 clear BK104
 clear BK105
 clear HB
 have HO112 := n0_
 have BK104 := n1_
 have BK105 := n2_
 have HB := n3_
 clear n0_ n1_ n2_ n3_
 clear hb ho12
 obtain ⟨Ao13, co13, eo13⟩ := Kd.R_slice HO112.out
 (first | subst eo13 | (injection eo13 with f1_ f2_ f3_; have f4_ := f1_.symm; have f5_ := f3_.symm; clear f1_ f2_ f3_; subst f4_; subst f5_))
 refine hK.out _ _ ⟨zj BK104.out 0, zj BK104.out 1, zj BK104.out 2, zj BK104.out 3, zj BK105.out 0, zj BK105.out 1, zj BK105.out 2, zj BK105.out 3⟩ (fun hHeld => ?_)
 clear hK K
 refine zn (h := ?_)
 refine zo 21 26 (h := fun K hK => ?_)
 refine goes_ Try.func61 (by kernel_rfl) rfl #[.slice Ao13 y110.length co13] (by rfl) rfl rfl zP ?_
 with_reducible refine (cmp_Or_int.calls k _ _ y110 t113 _ ?side1 ?side2 A7.out).mono ?_
 (case side1 => exact zC ((Kd.R_reads' HO112.out).2.2))
 (case side2 => exact (Kd.R_reads' HO112.out).2.1)
 rintro e w' ⟨rfl, ⟨nd, rfl⟩⟩
 refine ⟨_, rfl, ?_⟩
 refine hK.out _ _ ⟨zj BK104.out 0, zj BK104.out 1, zj BK104.out 2, zj BK104.out 3, zj BK105.out 0, zj BK105.out 1, zj BK105.out 2, zj BK105.out 3⟩ (fun hHeld => ?_)
 clear hK K
 refine zn (h := ?_)
 refine zp 22 4 (hy := by
   intro w'
   go_simp
   with_reducible rfl) (h := ?_)
 refine done_ (done_of HT_.out (by kernel_rfl)) ?_
 try go_wp2
 go_ret
 exact ⟨zE, zG⟩
end Go.Proofs.Ytngppcmdaanheaa.Pr
namespace Go.Proofs.Ytngppcmdaanheaa.Pr
open Go.RowKit Go.Proofs.YtngppcmdaanheaaW.PrintWords Go.Proofs.YtngppcmdaanheaaW.PrintLast Go.Proofs.YtngppcmdaanheaaW.PrintMore
attribute [local go_sem] max2_int min2_int max_two min_two
set_option linter.unusedVariables false
set_option linter.unusedSimpArgs false
/-! ### e_fits: function 50 -/
mutual
def e_fits.j0 : Nat → Bool → Int → List (S44) → List (S46) → Int → Int → ByteArray → Int → Option (Bool)
 | 0, _, _, _, _, _, _, _, _ => none
 | k + 1, x28, x115000, x115001, x115002, x116000, x116001, x116002, x116003 => if x28 = true then (some false) else (if x116000 = 3 then (e_fits.j1 k x116000 (x116000 == 3) x115000 x115001 x115002 x116000 x116001 x116002 x116003) else (if x116000 = 4 then (e_fits.j1 k x116000 (x116000 == 4) x115000 x115001 x115002 x116000 x116001 x116002 x116003) else (if x116000 = 5 then (e_fits.j1 k x116000 (x116000 == 5) x115000 x115001 x115002 x116000 x116001 x116002 x116003) else (e_fits.j1 k x116000 (x116000 == 8) x115000 x115001 x115002 x116000 x116001 x116002 x116003))))
def e_fits.j1 : Nat → Int → Bool → Int → List (S44) → List (S46) → Int → Int → ByteArray → Int → Option (Bool)
 | 0, _, _, _, _, _, _, _, _, _ => none
 | k + 1, x30, x31, x115000, x115001, x115002, x116000, x116001, x116002, x116003 => if x31 = true then (some true) else (if x30 = 6 then (if x116001 < (x115001.length : Int) then (some (x116003 == 0)) else (some false)) else (if x30 = 9 then (some (decide (x116001 < x115000))) else (some false)))
end
def e_fits.f (k : Nat) (a0_0 : Int) (l0_1 : List (S44)) (l0_2 : List (S46)) (a1_0 : Int) (a1_1 : Int) (a1_2 : ByteArray) (a1_3 : Int) : Option (Bool) := if (mn a1_1 a1_3) < 0 then (e_fits.j0 k true a0_0 l0_1 l0_2 a1_0 a1_1 a1_2 a1_3) else (if (mx a1_1 a1_3) > 1000001 then (e_fits.j0 k true a0_0 l0_1 l0_2 a1_0 a1_1 a1_2 a1_3) else (if a1_0 = 3 then (e_fits.j0 k false a0_0 l0_1 l0_2 a1_0 a1_1 a1_2 a1_3) else (e_fits.j0 k (a1_2.toList != ([] : List UInt8)) a0_0 l0_1 l0_2 a1_0 a1_1 a1_2 a1_3)))
set_option maxHeartbeats 8000000 in
set_option maxRecDepth 100000 in
theorem e_fits.calls (k : Nat) (a0_0 : Int) (A0_1 : Option Addr) (c0_1 : Nat) (l0_1 : List (S44)) (A0_2 : Option Addr) (c0_2 : Nat) (l0_2 : List (S46)) (a1_0 : Int) (a1_1 : Int) (a1_2 : ByteArray) (a1_3 : Int) (r : Bool) (w : World) (hr0_1 : Kd.C k44 w A0_1 l0_1.length l0_1) (hc0_1 : l0_1.length ≤ c0_1) (hr0_2 : Kd.C k46 w A0_2 l0_2.length l0_2) (hc0_2 : l0_2.length ≤ c0_2) (h : e_fits.f k a0_0 l0_1 l0_2 a1_0 a1_1 a1_2 a1_3 = some r) :
  Calls Try.prog 50 #[.agg #[.int .i64 a0_0, .slice A0_1 l0_1.length c0_1, .slice A0_2 l0_2.length c0_2], .agg #[.int .i64 a1_0, .int .i64 a1_1, .string a1_2, .int .i64 a1_3]] w fun e w' => e = .returned (.bool r) ∧ Below w.heap.size w w' := by
 have hu25 := Try.underlying25
 have hu41 := Try.underlying41
 have HR0_1 := zm hr0_1
 have HC0_1 := zm hc0_1
 clear hr0_1 hc0_1
 have HR0_2 := zm hr0_2
 have HC0_2 := zm hc0_2
 clear hr0_2 hc0_2
 have HB := zm (Below.refl w.heap.size w)
 have H : (if (mn a1_1 a1_3) < 0 then (e_fits.j0 k true a0_0 l0_1 l0_2 a1_0 a1_1 a1_2 a1_3) else (if (mx a1_1 a1_3) > 1000001 then (e_fits.j0 k true a0_0 l0_1 l0_2 a1_0 a1_1 a1_2 a1_3) else (if a1_0 = 3 then (e_fits.j0 k false a0_0 l0_1 l0_2 a1_0 a1_1 a1_2 a1_3) else (e_fits.j0 k (a1_2.toList != ([] : List UInt8)) a0_0 l0_1 l0_2 a1_0 a1_1 a1_2 a1_3)))) = some r := h
 clear h
 have HC3 := zm H
 clear H
 go_enter Try.func50, Try.ntmps50
 go_upto_region 1 with (first | ((with_reducible refine gate_dst (N := 2) rfl ?_); (try (refine gate_guard (by rfl) ?_; dsimp only)); refine zX (N := 2) (cs := #[.int .i64 a0_0, .slice A0_1 l0_1.length c0_1, .slice A0_2 l0_2.length c0_2]) (t := 25) (h := ?_); intro gb114 hg w4 hbox hb; have BK114 := zm hbox; have GW114 := zm ((zS : w.heap.size ≤ gb114)); have GE114 := zm ((zS : w.heap.size ≤ gb114)); replace HB := zm (below_step zB hb); clear hb hbox hg) | ((with_reducible refine gate_dst (N := 3) rfl ?_); (try (refine gate_guard (by rfl) ?_; dsimp only)); refine zX (N := 3) (cs := #[.int .i64 a1_0, .int .i64 a1_1, .string a1_2, .int .i64 a1_3]) (t := 41) (h := ?_); intro gb115 hg w5 hbox hb; have BK115 := zm hbox; have GW115 := zm ((zT : w.heap.size ≤ gb115)); have GE115 := zm ((zT : w.heap.size ≤ gb115)); have NB114_115 := zm ((zL : gb114 ≠ gb115)); have NB115_114 := zm ((zM : gb115 ≠ gb114)); replace BK114 := zm (blk_below (g := gb114) zK hb); replace HB := zm (below_step zG hb); clear hb hbox hg))
 (try simp only [Act.put, List.setIfInBounds_toArray, List.set_cons_zero, List.set_cons_succ])
 go_cut [28] (fun v28 wc => ∃ (kq : Nat) (x28_2 : Bool), v28 = .bool x28_2 ∧ Aside0 (e_fits.j0 kq x28_2 a0_0 l0_1 l0_2 a1_0 a1_1 a1_2 a1_3 = some r) ∧ Aside0 (kq ≤ k) ∧ Aside0 (wc.heap[gb114]? = some (.cells #[.int .i64 a0_0, (.slice A0_1 l0_1.length c0_1), (.slice A0_2 l0_2.length c0_2)] 25 (0, 0))) ∧ Aside0 (wc.heap[gb115]? = some (.cells #[.int .i64 a1_0, .int .i64 a1_1, .string a1_2, .int .i64 a1_3] 41 (0, 0))) ∧ Aside0 (Below w.heap.size w wc))
 case first =>
  have H := HC3.out
  clear HC3
  obtain ⟨ji6, hji6⟩ : ∃ j_ : Int, (mn a1_1 a1_3) = j_ := ⟨_, rfl⟩
  replace H : (if (ji6) < 0 then (e_fits.j0 k true a0_0 l0_1 l0_2 a1_0 a1_1 a1_2 a1_3) else (if (mx a1_1 a1_3) > 1000001 then (e_fits.j0 k true a0_0 l0_1 l0_2 a1_0 a1_1 a1_2 a1_3) else (if a1_0 = 3 then (e_fits.j0 k false a0_0 l0_1 l0_2 a1_0 a1_1 a1_2 a1_3) else (e_fits.j0 k (a1_2.toList != ([] : List UInt8)) a0_0 l0_1 l0_2 a1_0 a1_1 a1_2 a1_3)))) = some r := by first | (rw [hji6] at H; exact H) | (simp only [hji6] at H ⊢; exact H)
  have hji6_ : (if a1_3 < a1_1 then a1_3 else a1_1) = ji6 := hji6
  by_cases c7 : (ji6) < 0
  ·rw [if_pos c7] at H
   have c7b0 : decide ((ji6) < 0) = true := decide_eq_true c7
   clear c7
   (first | rw [c7b0] | (simp only [i64_w, i32_w]; rw [c7b0]) | skip)
   have H' := zm H
   clear H
   have hnb8 := NB115_114.out
   have hnc8 := NB114_115.out
   obtain ⟨hcz9_0, hcz9_1, hcz9_2, hcz9_3, hfz9_0, hfz9_1, hfz9_2, hfz9_3⟩ := zd4 BK115.out (.int .i64 a1_0) (.int .i64 a1_1) (.string a1_2) (.int .i64 a1_3)
   go_wp2
   go_meet
   case rel => exact ⟨_, (true), zR, H', ⟨by first | omega | exact Nat.le_refl _⟩, ⟨zK⟩, ⟨zK⟩, ⟨zG⟩⟩
  ·rw [if_neg c7] at H
   have c7b0 : decide ((ji6) < 0) = false := decide_eq_false c7
   clear c7
   (first | rw [c7b0] | (simp only [i64_w, i32_w]; rw [c7b0]) | skip)
   obtain ⟨ji10, hji10⟩ : ∃ j_ : Int, (mx a1_1 a1_3) = j_ := ⟨_, rfl⟩
   replace H : (if (ji10) > 1000001 then (e_fits.j0 k true a0_0 l0_1 l0_2 a1_0 a1_1 a1_2 a1_3) else (if a1_0 = 3 then (e_fits.j0 k false a0_0 l0_1 l0_2 a1_0 a1_1 a1_2 a1_3) else (e_fits.j0 k (a1_2.toList != ([] : List UInt8)) a0_0 l0_1 l0_2 a1_0 a1_1 a1_2 a1_3))) = some r := by first | (rw [hji10] at H; exact H) | (simp only [hji10] at H ⊢; exact H)
   have hji10_ : (if a1_1 < a1_3 then a1_3 else a1_1) = ji10 := hji10
   by_cases c11 : (ji10) > 1000001
   ·rw [if_pos c11] at H
    have c11b0 : decide (1000001 < (ji10)) = true := decide_eq_true c11
    clear c11
    have H' := zm H
    clear H
    have hnb12 := NB115_114.out
    have hnc12 := NB114_115.out
    obtain ⟨hcz13_0, hcz13_1, hcz13_2, hcz13_3, hfz13_0, hfz13_1, hfz13_2, hfz13_3⟩ := zd4 BK115.out (.int .i64 a1_0) (.int .i64 a1_1) (.string a1_2) (.int .i64 a1_3)
    go_wp2
    go_meet
    case rel => exact ⟨_, (true), zR, H', ⟨by first | omega | exact Nat.le_refl _⟩, ⟨zK⟩, ⟨zK⟩, ⟨zG⟩⟩
   ·rw [if_neg c11] at H
    have c11b0 : decide (1000001 < (ji10)) = false := decide_eq_false c11
    clear c11
    by_cases c14 : a1_0 = 3
    ·rw [if_pos c14] at H
     have c14b0 : (a1_0 == 3) = true := beq_iff_eq.mpr c14
     have c14b1 : (a1_0 != 3) = false := bne_eq_false_iff_eq.mpr c14
     clear c14
     have H' := zm H
     clear H
     have hnb15 := NB115_114.out
     have hnc15 := NB114_115.out
     obtain ⟨hcz16_0, hcz16_1, hcz16_2, hcz16_3, hfz16_0, hfz16_1, hfz16_2, hfz16_3⟩ := zd4 BK115.out (.int .i64 a1_0) (.int .i64 a1_1) (.string a1_2) (.int .i64 a1_3)
     go_wp2
     go_meet
     case rel => exact ⟨_, (false), zR, H', ⟨by first | omega | exact Nat.le_refl _⟩, ⟨zK⟩, ⟨zK⟩, ⟨zG⟩⟩
    ·rw [if_neg c14] at H
     have c14b0 : (a1_0 == 3) = false := beq_eq_false_iff_ne.mpr c14
     have c14b1 : (a1_0 != 3) = true := bne_iff_ne.mpr c14
     have H' := zm H
     clear H
     have hnb17 := NB115_114.out
     have hnc17 := NB114_115.out
     obtain ⟨hcz18_0, hcz18_1, hcz18_2, hcz18_3, hfz18_0, hfz18_1, hfz18_2, hfz18_3⟩ := zd4 BK115.out (.int .i64 a1_0) (.int .i64 a1_1) (.string a1_2) (.int .i64 a1_3)
     go_wp2
     go_meet
     case rel => exact ⟨_, ((a1_2.toList != ([] : List UInt8))), zR, H', ⟨by first | omega | exact Nat.le_refl _⟩, ⟨zK⟩, ⟨zK⟩, ⟨zG⟩⟩
 case rest =>
  clear HC3
  obtain ⟨kq, x28_2, rfl, HA, HJ2, BK114, BK115, HB⟩ := hcut
  cases kq with
  | zero => exact absurd HA.out (by simp [e_fits.j0])
  | succ kj2 =>
   have H := HA.out
   clear HA
   simp only [e_fits.j0] at H
   by_cases c19 : x28_2 = true
   ·subst c19
    rw [if_pos rfl] at H
    obtain rfl := Option.some.inj H
    go_wp2
    go_ret
    exact ⟨zE, zG⟩
   ·replace c19 := Bool.eq_false_iff.mpr c19
    subst c19
    rw [if_neg (show ¬ (false = true) by decide)] at H
    have HC20 := zm H
    clear H
    have hnb21 := NB115_114.out
    have hnc21 := NB114_115.out
    obtain ⟨hcz22_0, hcz22_1, hcz22_2, hcz22_3, hfz22_0, hfz22_1, hfz22_2, hfz22_3⟩ := zd4 BK115.out (.int .i64 a1_0) (.int .i64 a1_1) (.string a1_2) (.int .i64 a1_3)
    go_upto_if 31 with (fail)
    go_cut [31] (fun v31 wc => ∃ (kq : Nat) (x31_19 : Bool), v31 = .bool x31_19 ∧ Aside0 (e_fits.j1 kq a1_0 x31_19 a0_0 l0_1 l0_2 a1_0 a1_1 a1_2 a1_3 = some r) ∧ Aside0 (kq ≤ kj2) ∧ Aside0 (wc.heap[gb114]? = some (.cells #[.int .i64 a0_0, (.slice A0_1 l0_1.length c0_1), (.slice A0_2 l0_2.length c0_2)] 25 (0, 0))) ∧ Aside0 (wc.heap[gb115]? = some (.cells #[.int .i64 a1_0, .int .i64 a1_1, .string a1_2, .int .i64 a1_3] 41 (0, 0))) ∧ Aside0 (Below w.heap.size w wc))
    case first =>
     have H := HC20.out
     clear HC20
     by_cases c23 : a1_0 = 3
     ·rw [if_pos c23] at H
      have c23b0 : (a1_0 == 3) = true := beq_iff_eq.mpr c23
      have c23b1 : (a1_0 != 3) = false := bne_eq_false_iff_eq.mpr c23
      clear c23
      (first | rw [c23b0] | (simp only [i64_w, i32_w]; rw [c23b0]) | skip)
      have H' := zm H
      clear H
      go_wp2
      go_meet
      case rel => exact ⟨_, ((a1_0 == 3)), zR, H', ⟨by have := HJ2.out; first | omega | exact Nat.le_refl _⟩, ⟨zK⟩, ⟨zK⟩, ⟨zG⟩⟩
     ·rw [if_neg c23] at H
      have c23b0 : (a1_0 == 3) = false := beq_eq_false_iff_ne.mpr c23
      have c23b1 : (a1_0 != 3) = true := bne_iff_ne.mpr c23
      (first | rw [c23b0] | (simp only [i64_w, i32_w]; rw [c23b0]) | skip)
      by_cases c24 : a1_0 = 4
      ·rw [if_pos c24] at H
       have c24b0 : (a1_0 == 4) = true := beq_iff_eq.mpr c24
       have c24b1 : (a1_0 != 4) = false := bne_eq_false_iff_eq.mpr c24
       clear c24
       have H' := zm H
       clear H
       go_wp2
       go_meet
       case rel => exact ⟨_, ((a1_0 == 4)), zR, H', ⟨by have := HJ2.out; first | omega | exact Nat.le_refl _⟩, ⟨zK⟩, ⟨zK⟩, ⟨zG⟩⟩
      ·rw [if_neg c24] at H
       have c24b0 : (a1_0 == 4) = false := beq_eq_false_iff_ne.mpr c24
       have c24b1 : (a1_0 != 4) = true := bne_iff_ne.mpr c24
       by_cases c25 : a1_0 = 5
       ·rw [if_pos c25] at H
        have c25b0 : (a1_0 == 5) = true := beq_iff_eq.mpr c25
        have c25b1 : (a1_0 != 5) = false := bne_eq_false_iff_eq.mpr c25
        clear c25
        have H' := zm H
        clear H
        go_wp2
        go_meet
        case rel => exact ⟨_, ((a1_0 == 5)), zR, H', ⟨by have := HJ2.out; first | omega | exact Nat.le_refl _⟩, ⟨zK⟩, ⟨zK⟩, ⟨zG⟩⟩
       ·rw [if_neg c25] at H
        have c25b0 : (a1_0 == 5) = false := beq_eq_false_iff_ne.mpr c25
        have c25b1 : (a1_0 != 5) = true := bne_iff_ne.mpr c25
        have H' := zm H
        clear H
        go_wp2
        go_meet
        case rel => exact ⟨_, ((a1_0 == 8)), zR, H', ⟨by have := HJ2.out; first | omega | exact Nat.le_refl _⟩, ⟨zK⟩, ⟨zK⟩, ⟨zG⟩⟩
    case rest =>
     clear HC20
     clear hcz22_0 hcz22_1 hcz22_2 hcz22_3 hfz22_0 hfz22_1 hfz22_2 hfz22_3
     obtain ⟨kq, x31_19, rfl, HA, HJ19, BK114, BK115, HB⟩ := hcut
     cases kq with
     | zero => exact absurd HA.out (by simp [e_fits.j1])
     | succ kj19 =>
      have H := HA.out
      clear HA
      simp only [e_fits.j1] at H
      by_cases c26 : x31_19 = true
      ·subst c26
       rw [if_pos rfl] at H
       obtain rfl := Option.some.inj H
       go_wp2
       go_ret
       exact ⟨zE, zG⟩
      ·replace c26 := Bool.eq_false_iff.mpr c26
       subst c26
       rw [if_neg (show ¬ (false = true) by decide)] at H
       by_cases c27 : a1_0 = 6
       ·rw [if_pos c27] at H
        have c27b0 : (a1_0 == 6) = true := beq_iff_eq.mpr c27
        have c27b1 : (a1_0 != 6) = false := bne_eq_false_iff_eq.mpr c27
        clear c27
        by_cases c28 : a1_1 < (l0_1.length : Int)
        ·rw [if_pos c28] at H
         have c28b0 : decide (a1_1 < (l0_1.length : Int)) = true := decide_eq_true c28
         clear c28
         obtain rfl := Option.some.inj H
         have hnb29 := NB115_114.out
         have hnc29 := NB114_115.out
         obtain ⟨hcz30_0, hcz30_1, hcz30_2, hcz30_3, hfz30_0, hfz30_1, hfz30_2, hfz30_3⟩ := zd4 BK115.out (.int .i64 a1_0) (.int .i64 a1_1) (.string a1_2) (.int .i64 a1_3)
         obtain ⟨hcz31_0, hcz31_1, hcz31_2, hfz31_0, hfz31_1, hfz31_2⟩ := zd3 BK114.out (.int .i64 a0_0) (.slice A0_1 l0_1.length c0_1) (.slice A0_2 l0_2.length c0_2)
         go_wp2
         go_ret
         exact ⟨zE, zG⟩
        ·rw [if_neg c28] at H
         have c28b0 : decide (a1_1 < (l0_1.length : Int)) = false := decide_eq_false c28
         clear c28
         obtain rfl := Option.some.inj H
         have hnb32 := NB115_114.out
         have hnc32 := NB114_115.out
         obtain ⟨hcz33_0, hcz33_1, hcz33_2, hcz33_3, hfz33_0, hfz33_1, hfz33_2, hfz33_3⟩ := zd4 BK115.out (.int .i64 a1_0) (.int .i64 a1_1) (.string a1_2) (.int .i64 a1_3)
         obtain ⟨hcz34_0, hcz34_1, hcz34_2, hfz34_0, hfz34_1, hfz34_2⟩ := zd3 BK114.out (.int .i64 a0_0) (.slice A0_1 l0_1.length c0_1) (.slice A0_2 l0_2.length c0_2)
         go_wp2
         go_ret
         exact ⟨zE, zG⟩
       ·rw [if_neg c27] at H
        have c27b0 : (a1_0 == 6) = false := beq_eq_false_iff_ne.mpr c27
        have c27b1 : (a1_0 != 6) = true := bne_iff_ne.mpr c27
        by_cases c35 : a1_0 = 9
        ·rw [if_pos c35] at H
         have c35b0 : (a1_0 == 9) = true := beq_iff_eq.mpr c35
         have c35b1 : (a1_0 != 9) = false := bne_eq_false_iff_eq.mpr c35
         clear c35
         obtain rfl := Option.some.inj H
         have hnb36 := NB115_114.out
         have hnc36 := NB114_115.out
         obtain ⟨hcz37_0, hcz37_1, hcz37_2, hcz37_3, hfz37_0, hfz37_1, hfz37_2, hfz37_3⟩ := zd4 BK115.out (.int .i64 a1_0) (.int .i64 a1_1) (.string a1_2) (.int .i64 a1_3)
         obtain ⟨hcz38_0, hcz38_1, hcz38_2, hfz38_0, hfz38_1, hfz38_2⟩ := zd3 BK114.out (.int .i64 a0_0) (.slice A0_1 l0_1.length c0_1) (.slice A0_2 l0_2.length c0_2)
         go_wp2
         go_ret
         exact ⟨zE, zG⟩
        ·rw [if_neg c35] at H
         have c35b0 : (a1_0 == 9) = false := beq_eq_false_iff_ne.mpr c35
         have c35b1 : (a1_0 != 9) = true := bne_iff_ne.mpr c35
         obtain rfl := Option.some.inj H
         go_wp2
         go_ret
         exact ⟨zE, zG⟩
end Go.Proofs.Ytngppcmdaanheaa.Pr
namespace Go.Proofs.Ytngppcmdaanheaa.Pr
open Go.RowKit Go.Proofs.YtngppcmdaanheaaW.PrintWords Go.Proofs.YtngppcmdaanheaaW.PrintLast Go.Proofs.YtngppcmdaanheaaW.PrintMore
attribute [local go_sem] max2_int min2_int max_two min_two
set_option linter.unusedVariables false
set_option linter.unusedSimpArgs false
/-! ### e_areRight: function 33 -/
mutual
def e_areRight.l0 : Nat → List (S41) → List (S41) → Int → Int → Int → List (S44) → List (S46) → Option (Bool)
 | 0, _, _, _, _, _, _, _ => none
 | k + 1, x1, x7, x8, x9, x117000, x117001, x117002 => if x9 < x8 then (if 0 ≤ x9 then (if x9 < (x7.length : Int) then ((e_fits.f k x117000 x117001 x117002 ((rd_T41 x7 x9).f0) ((rd_T41 x7 x9).f1) ((rd_T41 x7 x9).f2) ((rd_T41 x7 x9).f3)).bind fun t119 => (if t119 = true then (if x9 > 0 then (if 0 ≤ (wrap64 (x9 - 1)) then (if (wrap64 (x9 - 1)) < (x1.length : Int) then ((e_order.f k ((rd_T41 x1 (wrap64 (x9 - 1))).f0) ((rd_T41 x1 (wrap64 (x9 - 1))).f1) ((rd_T41 x1 (wrap64 (x9 - 1))).f2) ((rd_T41 x1 (wrap64 (x9 - 1))).f3) ((rd_T41 x7 x9).f0) ((rd_T41 x7 x9).f1) ((rd_T41 x7 x9).f2) ((rd_T41 x7 x9).f3)).bind fun t121 => (e_areRight.j1 k x1 x7 x8 x9 (decide (t121 ≥ 0)) x117000 x117001 x117002)) else (none)) else (none)) else (e_areRight.j1 k x1 x7 x8 x9 false x117000 x117001 x117002)) else (e_areRight.j1 k x1 x7 x8 x9 true x117000 x117001 x117002))) else (none)) else (none)) else (some true)
def e_areRight.j1 : Nat → List (S41) → List (S41) → Int → Int → Bool → Int → List (S44) → List (S46) → Option (Bool)
 | 0, _, _, _, _, _, _, _, _ => none
 | k + 1, x1, x7, x8, x9, x31, x117000, x117001, x117002 => if x31 = true then (some false) else (e_areRight.l0 k x1 x7 x8 (wrap64 (x9 + 1)) x117000 x117001 x117002)
end
def e_areRight.f (k : Nat) (a0_0 : Int) (l0_1 : List (S44)) (l0_2 : List (S46)) (l1 : List (S41)) : Option (Bool) := e_areRight.l0 k l1 l1 (l1.length : Int) 0 a0_0 l0_1 l0_2
def e_areRight.T4 : Bool × List (List Nat × List Nat) := (true, [([], []), ([], []), ([0, 1], [0, 1]), ([2], [2]), ([3, 2], [3]), ([4], [4]), ([5, 4], [4, 5]), ([6, 4, 4], [4, 6]), ([7], [7]), ([7], [7]), ([9, 7], [7, 9]), ([8, 10, 7], [7, 8, 10]), ([11, 7], [7, 11]), ([7], [7]), ([12, 13, 7, 7], [7, 12, 13]), ([14, 7], [7, 14]), ([7, 15, 4], [4, 7, 15]), ([4, 16], [4, 16])])
def e_areRight.B4 : List Nat := [0, 0, 3, 7, 15, 31, 63, 127, 255, 255, 767, 2047, 4095, 255, 16383, 32767, 65535, 131071]
theorem e_areRight.tab4 : rtab .any (opsOf Try.f33 4) = e_areRight.T4 := by kernel_rfl
theorem e_areRight.bits4 : waitsOk e_areRight.T4.2 e_areRight.B4 = true := by kernel_rfl
set_option maxHeartbeats 8000000 in
set_option maxRecDepth 100000 in
theorem e_areRight.calls (k : Nat) (a0_0 : Int) (A0_1 : Option Addr) (c0_1 : Nat) (l0_1 : List (S44)) (A0_2 : Option Addr) (c0_2 : Nat) (l0_2 : List (S46)) (A1 : Option Addr) (c1 : Nat) (l1 : List (S41)) (r : Bool) (w : World) (hr0_1 : Kd.C k44 w A0_1 l0_1.length l0_1) (hc0_1 : l0_1.length ≤ c0_1) (hr0_2 : Kd.C k46 w A0_2 l0_2.length l0_2) (hc0_2 : l0_2.length ≤ c0_2) (hr1 : Kd.C k41 w A1 l1.length l1) (hc1 : l1.length ≤ c1) (h : e_areRight.f k a0_0 l0_1 l0_2 l1 = some r) :
  Calls Try.prog 33 #[.agg #[.int .i64 a0_0, .slice A0_1 l0_1.length c0_1, .slice A0_2 l0_2.length c0_2], .slice A1 l1.length c1] w fun e w' => e = .returned (.bool r) ∧ Below w.heap.size w w' := by
 have hu25 := Try.underlying25
 have hu41 := Try.underlying41
 have HR0_1 := zm hr0_1
 have HC0_1 := zm hc0_1
 clear hr0_1 hc0_1
 have HR0_2 := zm hr0_2
 have HC0_2 := zm hc0_2
 clear hr0_2 hc0_2
 have HR1 := zm hr1
 have HC1 := zm hc1
 clear hr1 hc1
 have HB := zm (Below.refl w.heap.size w)
 have H : (e_areRight.l0 k l1 l1 (l1.length : Int) 0 a0_0 l0_1 l0_2) = some r := h
 clear h
 have H' := zm H
 clear H
 go_enter Try.func33, Try.ntmps33
 go_wp2_with (first | ((with_reducible refine gate_dst (N := 2) rfl ?_); refine zX (N := 2) (cs := #[.int .i64 a0_0, .slice A0_1 l0_1.length c0_1, .slice A0_2 l0_2.length c0_2]) (t := 25) (h := ?_); intro gb116 hg w3 hbox hb; have BK116 := zm hbox; have GW116 := zm ((zS : w.heap.size ≤ gb116)); have GE116 := zm ((zS : w.heap.size ≤ gb116)); replace HB := zm (below_step zB hb); clear hb hbox hg))
 go_loopg [9] k (fun kq v9 w' => ∃ (x9_1 : Int), v9 = .int .i64 x9_1 ∧ Aside0 (e_areRight.l0 kq l1 l1 (l1.length : Int) x9_1 a0_0 l0_1 l0_2 = some r) ∧ Aside0 (kq ≤ k) ∧ Aside0 (w'.heap[gb116]? = some (.cells #[.int .i64 a0_0, (.slice A0_1 l0_1.length c0_1), (.slice A0_2 l0_2.length c0_2)] 25 (0, 0))) ∧ Aside0 (Below w.heap.size w w'))
 case atStart => exact ⟨(0), zR, H', ⟨Nat.le_refl _⟩, ⟨zK⟩, ⟨zG⟩⟩
 case round =>
  clear H'
  obtain ⟨x9_1, rfl, HA, HK1, BK116, HB⟩ := hrel
  cases gk with
  | zero => exact absurd HA.out (by simp [e_areRight.l0])
  | succ k1 =>
   have H := HA.out
   clear HA
   simp only [e_areRight.l0] at H
   by_cases c4 : x9_1 < (l1.length : Int)
   ·rw [if_pos c4] at H
    have c4b0 : decide (x9_1 < (l1.length : Int)) = true := decide_eq_true c4
    clear c4
    by_cases c5 : 0 ≤ x9_1
    ·rw [if_pos c5] at H
     have c5b0 : decide (0 ≤ x9_1) = true := decide_eq_true c5
     clear c5
     by_cases c6 : x9_1 < (l1.length : Int)
     ·rw [if_pos c6] at H
      have c6b0 : decide (x9_1 < (l1.length : Int)) = true := decide_eq_true c6
      clear c6
      have HC7 := zm H
      clear H
      have p117 : 0 ≤ (x9_1 : Int) := of_decide_eq_true zA
      have q117 : x9_1 < (l1.length : Int) := of_decide_eq_true zA
      obtain ⟨ad117, e117, hx117_0, hx117_1, hx117_2, hx117_3⟩ := at_T41 HR1.out x9_1 p117 q117
      cases e117
      replace hx117_0 := zH HB.out hx117_0
      replace hx117_1 := zH HB.out hx117_1
      replace hx117_2 := zH HB.out hx117_2
      replace hx117_3 := zH HB.out hx117_3
      replace p117 := eq_true p117
      replace q117 := eq_true q117
      go_upto_region 4 with (first | ((with_reducible refine gate_dst (N := 6) rfl ?_); refine zX (N := 6) (cs := #[.int .i64 0, .int .i64 0, .string (⟨#[]⟩ : ByteArray), .int .i64 0]) (t := 41) (h := ?_); intro gb118 hg w8 hbox hb; have BK118 := zm hbox; have GW118 := zm ((zT : w.heap.size ≤ gb118)); have GE118 := zm ((zT : w.heap.size ≤ gb118)); have NB116_118 := zm ((zL : gb116 ≠ gb118)); have NB118_116 := zm ((zM : gb118 ≠ gb116)); replace BK116 := zm (blk_below (g := gb116) zK hb); replace HB := zm (below_step zG hb); clear hb hbox hg; have hnb9 := NB118_116.out; have hnc9 := NB116_118.out; obtain ⟨hcz10_0, hcz10_1, hcz10_2, hcz10_3, hfz10_0, hfz10_1, hfz10_2, hfz10_3⟩ := zd4 BK118.out (.int .i64 0) (.int .i64 0) (.string (⟨#[]⟩ : ByteArray)) (.int .i64 0)))
      (try simp only [Act.put, List.setIfInBounds_toArray, List.set_cons_zero, List.set_cons_succ])
      go_cut [31] (fun v31 wc => ∃ (kq : Nat) (x31_6 : Bool), v31 = .bool x31_6 ∧ Aside0 (e_areRight.j1 kq l1 l1 (l1.length : Int) x9_1 x31_6 a0_0 l0_1 l0_2 = some r) ∧ Aside0 (kq ≤ k1) ∧ Aside0 (wc.heap[gb116]? = some (.cells #[.int .i64 a0_0, (.slice A0_1 l0_1.length c0_1), (.slice A0_2 l0_2.length c0_2)] 25 (0, 0))) ∧ Aside0 (wc.heap[gb118]? = some (.cells #[.int .i64 ((rd_T41 l1 x9_1).f0), .int .i64 ((rd_T41 l1 x9_1).f1), .string ((rd_T41 l1 x9_1).f2), .int .i64 ((rd_T41 l1 x9_1).f3)] 41 (0, 0))) ∧ Aside0 (Below w.heap.size w wc))
      case first =>
       have H := HC7.out
       clear HC7
       obtain ⟨t119, A11, H⟩ := zO H
       by_cases c12 : t119 = true
       ·subst c12
        rw [if_pos rfl] at H
        by_cases c13 : x9_1 > 0
        ·rw [if_pos c13] at H
         have c13b0 : decide (0 < x9_1) = true := decide_eq_true c13
         clear c13
         (first | rw [c13b0] | (simp only [i64_w, i32_w]; rw [c13b0]) | skip)
         obtain ⟨ji14, hji14⟩ : ∃ j_ : Int, (wrap64 (x9_1 - 1)) = j_ := ⟨_, rfl⟩
         replace H : (if 0 ≤ (ji14) then (if (ji14) < (l1.length : Int) then ((e_order.f k1 ((rd_T41 l1 (ji14)).f0) ((rd_T41 l1 (ji14)).f1) ((rd_T41 l1 (ji14)).f2) ((rd_T41 l1 (ji14)).f3) ((rd_T41 l1 x9_1).f0) ((rd_T41 l1 x9_1).f1) ((rd_T41 l1 x9_1).f2) ((rd_T41 l1 x9_1).f3)).bind fun t121 => (e_areRight.j1 k1 l1 l1 (l1.length : Int) x9_1 (decide (t121 ≥ 0)) a0_0 l0_1 l0_2)) else (none)) else (none)) = some r := by first | (rw [hji14] at H; exact H) | (simp only [hji14] at H ⊢; exact H)
         (try rw [hji14] at A11)
         have hji14w : (IntKind.i64.wrap (x9_1 - 1)) = ji14 := (i64_w _).trans hji14
         by_cases c15 : 0 ≤ (ji14)
         ·rw [if_pos c15] at H
          have c15b0 : decide (0 ≤ (ji14)) = true := decide_eq_true c15
          clear c15
          by_cases c16 : (ji14) < (l1.length : Int)
          ·rw [if_pos c16] at H
           have c16b0 : decide ((ji14) < (l1.length : Int)) = true := decide_eq_true c16
           clear c16
           obtain ⟨t121, A17, H⟩ := zO H
           have H' := zm H
           clear H
           try go_wp2
           have n0_ : Aside0 (((((w8.setCell ⟨gb118, 0, none⟩ (.int .i64 ((rd_T41 l1 x9_1).f0))).setCell ⟨gb118, 1, none⟩ (.int .i64 ((rd_T41 l1 x9_1).f1))).setCell ⟨gb118, 2, none⟩ (.string ((rd_T41 l1 x9_1).f2))).setCell ⟨gb118, 3, none⟩ (.int .i64 ((rd_T41 l1 x9_1).f3))).heap[gb116]? = some (.cells #[.int .i64 a0_0, .slice A0_1 l0_1.length c0_1, .slice A0_2 l0_2.length c0_2] 25 (0, 0))) := ⟨by (with_reducible repeat (first | refine blk_drewN ?_ _ | refine blk_drew ?_ | refine blk_alloc ?_ _)); refine blk_far ?_ NB116_118.out _; (with_reducible repeat (first | refine blk_drewN ?_ _ | refine blk_drew ?_ | refine blk_alloc ?_ _)); refine blk_far ?_ NB116_118.out _; (with_reducible repeat (first | refine blk_drewN ?_ _ | refine blk_drew ?_ | refine blk_alloc ?_ _)); refine blk_far ?_ NB116_118.out _; (with_reducible repeat (first | refine blk_drewN ?_ _ | refine blk_drew ?_ | refine blk_alloc ?_ _)); refine blk_far ?_ NB116_118.out _; (with_reducible repeat (first | refine blk_drewN ?_ _ | refine blk_drew ?_ | refine blk_alloc ?_ _)); exact BK116.out⟩
           have n1_ : Aside0 (((((w8.setCell ⟨gb118, 0, none⟩ (.int .i64 ((rd_T41 l1 x9_1).f0))).setCell ⟨gb118, 1, none⟩ (.int .i64 ((rd_T41 l1 x9_1).f1))).setCell ⟨gb118, 2, none⟩ (.string ((rd_T41 l1 x9_1).f2))).setCell ⟨gb118, 3, none⟩ (.int .i64 ((rd_T41 l1 x9_1).f3))).heap[gb118]? = some (.cells #[.int .i64 ((rd_T41 l1 x9_1).f0), .int .i64 ((rd_T41 l1 x9_1).f1), .string ((rd_T41 l1 x9_1).f2), .int .i64 ((rd_T41 l1 x9_1).f3)] 41 (0, 0))) := ⟨by (with_reducible repeat (first | refine blk_drewN ?_ _ | refine blk_drew ?_ | refine blk_alloc ?_ _)); refine blk_put (cs := #[.int .i64 ((rd_T41 l1 x9_1).f0), .int .i64 ((rd_T41 l1 x9_1).f1), .string ((rd_T41 l1 x9_1).f2), .int .i64 0]) ?_ 3 _ rfl; (with_reducible repeat (first | refine blk_drewN ?_ _ | refine blk_drew ?_ | refine blk_alloc ?_ _)); refine blk_put (cs := #[.int .i64 ((rd_T41 l1 x9_1).f0), .int .i64 ((rd_T41 l1 x9_1).f1), .string (⟨#[]⟩ : ByteArray), .int .i64 0]) ?_ 2 _ rfl; (with_reducible repeat (first | refine blk_drewN ?_ _ | refine blk_drew ?_ | refine blk_alloc ?_ _)); refine blk_put (cs := #[.int .i64 ((rd_T41 l1 x9_1).f0), .int .i64 0, .string (⟨#[]⟩ : ByteArray), .int .i64 0]) ?_ 1 _ rfl; (with_reducible repeat (first | refine blk_drewN ?_ _ | refine blk_drew ?_ | refine blk_alloc ?_ _)); refine blk_put (cs := #[.int .i64 0, .int .i64 0, .string (⟨#[]⟩ : ByteArray), .int .i64 0]) ?_ 0 _ rfl; (with_reducible repeat (first | refine blk_drewN ?_ _ | refine blk_drew ?_ | refine blk_alloc ?_ _)); exact BK118.out⟩
           have n2_ : Aside0 (Below w.heap.size w ((((w8.setCell ⟨gb118, 0, none⟩ (.int .i64 ((rd_T41 l1 x9_1).f0))).setCell ⟨gb118, 1, none⟩ (.int .i64 ((rd_T41 l1 x9_1).f1))).setCell ⟨gb118, 2, none⟩ (.string ((rd_T41 l1 x9_1).f2))).setCell ⟨gb118, 3, none⟩ (.int .i64 ((rd_T41 l1 x9_1).f3)))) := ⟨zG⟩
           (try clear BK116)
           (try clear BK118)
           (try clear HB)
           generalize ((((w8.setCell ⟨gb118, 0, none⟩ (.int .i64 ((rd_T41 l1 x9_1).f0))).setCell ⟨gb118, 1, none⟩ (.int .i64 ((rd_T41 l1 x9_1).f1))).setCell ⟨gb118, 2, none⟩ (.string ((rd_T41 l1 x9_1).f2))).setCell ⟨gb118, 3, none⟩ (.int .i64 ((rd_T41 l1 x9_1).f3))) = w18 at n0_ n1_ n2_ ⊢
           have BK116 := n0_
           have BK118 := n1_
           have HB := n2_
           clear n0_ n1_ n2_
           have n0_ := zm (blk_drew BK116.out)
           have n1_ := zm (blk_drew BK118.out)
           have n2_ := zm (below_drew1 HB.out)
           clear BK116
           clear BK118
           clear HB
           have BK116 := n0_
           have BK118 := n1_
           have HB := n2_
           clear n0_ n1_ n2_
           have p120 : 0 ≤ ((ji14) : Int) := of_decide_eq_true zA
           have q120 : (ji14) < (l1.length : Int) := of_decide_eq_true zA
           obtain ⟨ad120, e120, hx120_0, hx120_1, hx120_2, hx120_3⟩ := at_T41 HR1.out (ji14) p120 q120
           have hw120_3 := hx120_3
           have hw120_2 := hx120_2
           have hw120_1 := hx120_1
           have hw120_0 := hx120_0
           obtain rfl : ad117 = ad120 := (by injection e120)
           replace hx120_0 := zH HB.out hx120_0
           replace hx120_1 := zH HB.out hx120_1
           replace hx120_2 := zH HB.out hx120_2
           replace hx120_3 := zH HB.out hx120_3
           replace p120 := eq_true p120
           replace q120 := eq_true q120
           refine start_ (n := 18) (S := fun w' => w'.cell? ⟨gb116, 0, none⟩ = some (.int .i64 a0_0) ∧ w'.cell? ⟨gb116, 1, none⟩ = some (.slice A0_1 l0_1.length c0_1) ∧ w'.cell? ⟨gb116, 2, none⟩ = some (.slice A0_2 l0_2.length c0_2) ∧ w'.cell? ⟨gb118, 0, none⟩ = some (.int .i64 ((rd_T41 l1 x9_1).f0)) ∧ w'.cell? ⟨gb118, 1, none⟩ = some (.int .i64 ((rd_T41 l1 x9_1).f1)) ∧ w'.cell? ⟨gb118, 2, none⟩ = some (.string ((rd_T41 l1 x9_1).f2)) ∧ w'.cell? ⟨gb118, 3, none⟩ = some (.int .i64 ((rd_T41 l1 x9_1).f3)) ∧ w'.cell? (ad117.add (((ji14)).toNat * 4)) = some (.int .i64 ((rd_T41 l1 (ji14)).f0)) ∧ w'.cell? ⟨(ad117.add (((ji14)).toNat * 4)).block, (ad117.add (((ji14)).toNat * 4)).off + 1, none⟩ = some (.int .i64 ((rd_T41 l1 (ji14)).f1)) ∧ w'.cell? ⟨(ad117.add (((ji14)).toNat * 4)).block, (ad117.add (((ji14)).toNat * 4)).off + 2, none⟩ = some (.string ((rd_T41 l1 (ji14)).f2)) ∧ w'.cell? ⟨(ad117.add (((ji14)).toNat * 4)).block, (ad117.add (((ji14)).toNat * 4)).off + 3, none⟩ = some (.int .i64 ((rd_T41 l1 (ji14)).f3))) (ds := []) #[false, false, false, false, false, false, false, false, false, false, false, false, false, false, false, false, false, false] (by kernel_rfl) rfl rfl ⟨zj BK116.out 0, zj BK116.out 1, zj BK116.out 2, zj BK118.out 0, zj BK118.out 1, zj BK118.out 2, zj BK118.out 3, (zH HB.out hw120_0), (zH HB.out hw120_1), (zH HB.out hw120_2), (zH HB.out hw120_3)⟩ (fun hHeld => ?_); refine with_tabW e_areRight.tab4 e_areRight.bits4 (fun HT_ HW_ => ?_)
           generalize w18.drew = w19 at BK116 BK118 HB hx120_0 hx120_1 hx120_2 hx120_3 hHeld ⊢
           refine zt 0 14 (hy := by
             rintro w' ⟨s0, s1, s2, s3, s4, s5, s6, s7, s8, s9, s10⟩
             go_simp
             with_reducible rfl) (h := ?_)
           refine zt 1 15 (hy := by
             rintro w' ⟨s0, s1, s2, s3, s4, s5, s6, s7, s8, s9, s10⟩
             go_simp
             with_reducible rfl) (h := ?_)
           refine zo 2 16 (h := fun K hK => ?_)
           refine goes_ Try.func50 (by kernel_rfl) rfl #[.agg #[.int .i64 a0_0, .slice A0_1 l0_1.length c0_1, .slice A0_2 l0_2.length c0_2], .agg #[.int .i64 ((rd_T41 l1 x9_1).f0), .int .i64 ((rd_T41 l1 x9_1).f1), .string ((rd_T41 l1 x9_1).f2), .int .i64 ((rd_T41 l1 x9_1).f3)]] (by rfl) rfl rfl zP ?_
           with_reducible refine (e_fits.calls k1 a0_0 _ _ l0_1 _ _ l0_2 ((rd_T41 l1 x9_1).f0) ((rd_T41 l1 x9_1).f1) ((rd_T41 l1 x9_1).f2) ((rd_T41 l1 x9_1).f3) true _ ?side1 ?side2 ?side3 ?side4 A11.out).mono ?_
           (case side1 => exact zC (Kd.C_below HR0_1.out HB.out))
           (case side2 => exact HC0_1.out)
           (case side3 => exact zC (Kd.C_below HR0_2.out HB.out))
           (case side4 => exact HC0_2.out)
           rintro e w20 ⟨rfl, hb⟩
           refine ⟨_, rfl, ?_⟩
           have n0_ := zm (blk_below (g := gb116) zK hb)
           have n1_ := zm (blk_below (g := gb118) zK hb)
           have n2_ := zm (below_step zG hb)
           clear BK116
           clear BK118
           clear HB
           have BK116 := n0_
           have BK118 := n1_
           have HB := n2_
           clear n0_ n1_ n2_
           (try clear hb)
           (try clear hb2)
           (try clear hk)
           (try clear hi)
           refine hK.out _ _ ⟨zj BK116.out 0, zj BK116.out 1, zj BK116.out 2, zj BK118.out 0, zj BK118.out 1, zj BK118.out 2, zj BK118.out 3, (zH HB.out hw120_0), (zH HB.out hw120_1), (zH HB.out hw120_2), (zH HB.out hw120_3)⟩ (fun hHeld => ?_)
           clear hK K
           refine zn (h := ?_)
           refine zp 3 17 (hy := by
             intro w'
             go_simp
             with_reducible rfl) (h := ?_)
           refine zp 4 18 (hy := by
             intro w'
             go_simp
             with_reducible rfl) (h := ?_)
           refine zp 5 19 (hy := by
             intro w'
             go_simp
             with_reducible rfl) (h := ?_)
           refine zp 6 20 (hy := by
             intro w'
             go_simp
             with_reducible rfl) (h := ?_)
           refine zp 7 21 (hy := by
             intro w'
             go_simp
             with_reducible rfl) (h := ?_)
           refine zp 8 22 (hy := by
             intro w'
             go_simp
             with_reducible rfl) (h := ?_)
           refine zp 9 23 (hy := by
             intro w'
             go_simp
             with_reducible rfl) (h := ?_)
           refine zp 10 24 (hy := by
             intro w'
             go_simp
             with_reducible rfl) (h := ?_)
           refine zp 11 25 (hy := by
             intro w'
             go_simp
             with_reducible rfl) (h := ?_)
           refine zt 12 26 (hy := by
             rintro w' ⟨s0, s1, s2, s3, s4, s5, s6, s7, s8, s9, s10⟩
             go_simp
             with_reducible rfl) (h := ?_)
           refine zt 13 27 (hy := by
             rintro w' ⟨s0, s1, s2, s3, s4, s5, s6, s7, s8, s9, s10⟩
             go_simp
             with_reducible rfl) (h := ?_)
           refine zo 14 28 (h := fun K hK => ?_)
           refine goes_ Try.func42 (by kernel_rfl) rfl #[.agg #[.int .i64 ((rd_T41 l1 (ji14)).f0), .int .i64 ((rd_T41 l1 (ji14)).f1), .string ((rd_T41 l1 (ji14)).f2), .int .i64 ((rd_T41 l1 (ji14)).f3)], .agg #[.int .i64 ((rd_T41 l1 x9_1).f0), .int .i64 ((rd_T41 l1 x9_1).f1), .string ((rd_T41 l1 x9_1).f2), .int .i64 ((rd_T41 l1 x9_1).f3)]] (by rfl) rfl rfl (by (try simp only [List.map_toArray, List.map_cons, List.map_nil]); first | done | (simp only [hji14]; rfl) | rfl | (simp only [List.length_drop, List.length_take]; rfl)) ?_
           with_reducible refine (e_order.calls k1 ((rd_T41 l1 (ji14)).f0) ((rd_T41 l1 (ji14)).f1) ((rd_T41 l1 (ji14)).f2) ((rd_T41 l1 (ji14)).f3) ((rd_T41 l1 x9_1).f0) ((rd_T41 l1 x9_1).f1) ((rd_T41 l1 x9_1).f2) ((rd_T41 l1 x9_1).f3) t121 _ A17.out).mono ?_
           rintro e w21 ⟨rfl, hb⟩
           refine ⟨_, rfl, ?_⟩
           have n0_ := zm (blk_below (g := gb116) zK hb)
           have n1_ := zm (blk_below (g := gb118) zK hb)
           have n2_ := zm (below_step zG hb)
           clear BK116
           clear BK118
           clear HB
           have BK116 := n0_
           have BK118 := n1_
           have HB := n2_
           clear n0_ n1_ n2_
           (try clear hb)
           (try clear hb2)
           (try clear hk)
           (try clear hi)
           refine hK.out _ _ ⟨zj BK116.out 0, zj BK116.out 1, zj BK116.out 2, zj BK118.out 0, zj BK118.out 1, zj BK118.out 2, zj BK118.out 3, (zH HB.out hw120_0), (zH HB.out hw120_1), (zH HB.out hw120_2), (zH HB.out hw120_3)⟩ (fun hHeld => ?_)
           clear hK K
           refine zn (h := ?_)
           refine zp 15 29 (hy := by
             intro w'
             go_simp
             with_reducible rfl) (h := ?_)
           refine zp 16 30 (hy := by
             intro w'
             go_simp
             with_reducible rfl) (h := ?_)
           refine zp 17 31 (hy := by
             intro w'
             go_simp
             with_reducible rfl) (h := ?_)
           refine done_ (done_of HT_.out (by kernel_rfl)) ?_
           try go_wp2
           go_meet
           case rel => exact ⟨_, (decide (t121 ≥ 0)), zR, H', ⟨by have := HK1.out; first | omega | exact Nat.le_refl _⟩, ⟨zK⟩, ⟨zK⟩, ⟨zG⟩⟩
          ·rw [if_neg c16] at H
           exact absurd H (by simp)
         ·rw [if_neg c15] at H
          exact absurd H (by simp)
        ·rw [if_neg c13] at H
         have c13b0 : decide (0 < x9_1) = false := decide_eq_false c13
         clear c13
         (first | rw [c13b0] | (simp only [i64_w, i32_w]; rw [c13b0]) | skip)
         have H' := zm H
         clear H
         try go_wp2
         have n0_ : Aside0 (((((w8.setCell ⟨gb118, 0, none⟩ (.int .i64 ((rd_T41 l1 x9_1).f0))).setCell ⟨gb118, 1, none⟩ (.int .i64 ((rd_T41 l1 x9_1).f1))).setCell ⟨gb118, 2, none⟩ (.string ((rd_T41 l1 x9_1).f2))).setCell ⟨gb118, 3, none⟩ (.int .i64 ((rd_T41 l1 x9_1).f3))).heap[gb116]? = some (.cells #[.int .i64 a0_0, .slice A0_1 l0_1.length c0_1, .slice A0_2 l0_2.length c0_2] 25 (0, 0))) := ⟨by (with_reducible repeat (first | refine blk_drewN ?_ _ | refine blk_drew ?_ | refine blk_alloc ?_ _)); refine blk_far ?_ NB116_118.out _; (with_reducible repeat (first | refine blk_drewN ?_ _ | refine blk_drew ?_ | refine blk_alloc ?_ _)); refine blk_far ?_ NB116_118.out _; (with_reducible repeat (first | refine blk_drewN ?_ _ | refine blk_drew ?_ | refine blk_alloc ?_ _)); refine blk_far ?_ NB116_118.out _; (with_reducible repeat (first | refine blk_drewN ?_ _ | refine blk_drew ?_ | refine blk_alloc ?_ _)); refine blk_far ?_ NB116_118.out _; (with_reducible repeat (first | refine blk_drewN ?_ _ | refine blk_drew ?_ | refine blk_alloc ?_ _)); exact BK116.out⟩
         have n1_ : Aside0 (((((w8.setCell ⟨gb118, 0, none⟩ (.int .i64 ((rd_T41 l1 x9_1).f0))).setCell ⟨gb118, 1, none⟩ (.int .i64 ((rd_T41 l1 x9_1).f1))).setCell ⟨gb118, 2, none⟩ (.string ((rd_T41 l1 x9_1).f2))).setCell ⟨gb118, 3, none⟩ (.int .i64 ((rd_T41 l1 x9_1).f3))).heap[gb118]? = some (.cells #[.int .i64 ((rd_T41 l1 x9_1).f0), .int .i64 ((rd_T41 l1 x9_1).f1), .string ((rd_T41 l1 x9_1).f2), .int .i64 ((rd_T41 l1 x9_1).f3)] 41 (0, 0))) := ⟨by (with_reducible repeat (first | refine blk_drewN ?_ _ | refine blk_drew ?_ | refine blk_alloc ?_ _)); refine blk_put (cs := #[.int .i64 ((rd_T41 l1 x9_1).f0), .int .i64 ((rd_T41 l1 x9_1).f1), .string ((rd_T41 l1 x9_1).f2), .int .i64 0]) ?_ 3 _ rfl; (with_reducible repeat (first | refine blk_drewN ?_ _ | refine blk_drew ?_ | refine blk_alloc ?_ _)); refine blk_put (cs := #[.int .i64 ((rd_T41 l1 x9_1).f0), .int .i64 ((rd_T41 l1 x9_1).f1), .string (⟨#[]⟩ : ByteArray), .int .i64 0]) ?_ 2 _ rfl; (with_reducible repeat (first | refine blk_drewN ?_ _ | refine blk_drew ?_ | refine blk_alloc ?_ _)); refine blk_put (cs := #[.int .i64 ((rd_T41 l1 x9_1).f0), .int .i64 0, .string (⟨#[]⟩ : ByteArray), .int .i64 0]) ?_ 1 _ rfl; (with_reducible repeat (first | refine blk_drewN ?_ _ | refine blk_drew ?_ | refine blk_alloc ?_ _)); refine blk_put (cs := #[.int .i64 0, .int .i64 0, .string (⟨#[]⟩ : ByteArray), .int .i64 0]) ?_ 0 _ rfl; (with_reducible repeat (first | refine blk_drewN ?_ _ | refine blk_drew ?_ | refine blk_alloc ?_ _)); exact BK118.out⟩
         have n2_ : Aside0 (Below w.heap.size w ((((w8.setCell ⟨gb118, 0, none⟩ (.int .i64 ((rd_T41 l1 x9_1).f0))).setCell ⟨gb118, 1, none⟩ (.int .i64 ((rd_T41 l1 x9_1).f1))).setCell ⟨gb118, 2, none⟩ (.string ((rd_T41 l1 x9_1).f2))).setCell ⟨gb118, 3, none⟩ (.int .i64 ((rd_T41 l1 x9_1).f3)))) := ⟨zG⟩
         (try clear BK116)
         (try clear BK118)
         (try clear HB)
         generalize ((((w8.setCell ⟨gb118, 0, none⟩ (.int .i64 ((rd_T41 l1 x9_1).f0))).setCell ⟨gb118, 1, none⟩ (.int .i64 ((rd_T41 l1 x9_1).f1))).setCell ⟨gb118, 2, none⟩ (.string ((rd_T41 l1 x9_1).f2))).setCell ⟨gb118, 3, none⟩ (.int .i64 ((rd_T41 l1 x9_1).f3))) = w22 at n0_ n1_ n2_ ⊢
         have BK116 := n0_
         have BK118 := n1_
         have HB := n2_
         clear n0_ n1_ n2_
         have n0_ := zm (blk_drew BK116.out)
         have n1_ := zm (blk_drew BK118.out)
         have n2_ := zm (below_drew1 HB.out)
         clear BK116
         clear BK118
         clear HB
         have BK116 := n0_
         have BK118 := n1_
         have HB := n2_
         clear n0_ n1_ n2_
         refine start_ (n := 18) (S := fun w' => w'.cell? ⟨gb116, 0, none⟩ = some (.int .i64 a0_0) ∧ w'.cell? ⟨gb116, 1, none⟩ = some (.slice A0_1 l0_1.length c0_1) ∧ w'.cell? ⟨gb116, 2, none⟩ = some (.slice A0_2 l0_2.length c0_2) ∧ w'.cell? ⟨gb118, 0, none⟩ = some (.int .i64 ((rd_T41 l1 x9_1).f0)) ∧ w'.cell? ⟨gb118, 1, none⟩ = some (.int .i64 ((rd_T41 l1 x9_1).f1)) ∧ w'.cell? ⟨gb118, 2, none⟩ = some (.string ((rd_T41 l1 x9_1).f2)) ∧ w'.cell? ⟨gb118, 3, none⟩ = some (.int .i64 ((rd_T41 l1 x9_1).f3))) (ds := []) #[false, false, false, false, false, false, false, false, false, false, false, false, false, false, false, false, false, false] (by kernel_rfl) rfl rfl ⟨zj BK116.out 0, zj BK116.out 1, zj BK116.out 2, zj BK118.out 0, zj BK118.out 1, zj BK118.out 2, zj BK118.out 3⟩ (fun hHeld => ?_); refine with_tabW e_areRight.tab4 e_areRight.bits4 (fun HT_ HW_ => ?_)
         generalize w22.drew = w23 at BK116 BK118 HB hHeld ⊢
         refine zt 0 14 (hy := by
           rintro w' ⟨s0, s1, s2, s3, s4, s5, s6⟩
           go_simp
           with_reducible rfl) (h := ?_)
         refine zt 1 15 (hy := by
           rintro w' ⟨s0, s1, s2, s3, s4, s5, s6⟩
           go_simp
           with_reducible rfl) (h := ?_)
         refine zo 2 16 (h := fun K hK => ?_)
         refine goes_ Try.func50 (by kernel_rfl) rfl #[.agg #[.int .i64 a0_0, .slice A0_1 l0_1.length c0_1, .slice A0_2 l0_2.length c0_2], .agg #[.int .i64 ((rd_T41 l1 x9_1).f0), .int .i64 ((rd_T41 l1 x9_1).f1), .string ((rd_T41 l1 x9_1).f2), .int .i64 ((rd_T41 l1 x9_1).f3)]] (by rfl) rfl rfl zP ?_
         with_reducible refine (e_fits.calls k1 a0_0 _ _ l0_1 _ _ l0_2 ((rd_T41 l1 x9_1).f0) ((rd_T41 l1 x9_1).f1) ((rd_T41 l1 x9_1).f2) ((rd_T41 l1 x9_1).f3) true _ ?side1 ?side2 ?side3 ?side4 A11.out).mono ?_
         (case side1 => exact zC (Kd.C_below HR0_1.out HB.out))
         (case side2 => exact HC0_1.out)
         (case side3 => exact zC (Kd.C_below HR0_2.out HB.out))
         (case side4 => exact HC0_2.out)
         rintro e w24 ⟨rfl, hb⟩
         refine ⟨_, rfl, ?_⟩
         have n0_ := zm (blk_below (g := gb116) zK hb)
         have n1_ := zm (blk_below (g := gb118) zK hb)
         have n2_ := zm (below_step zG hb)
         clear BK116
         clear BK118
         clear HB
         have BK116 := n0_
         have BK118 := n1_
         have HB := n2_
         clear n0_ n1_ n2_
         (try clear hb)
         (try clear hb2)
         (try clear hk)
         (try clear hi)
         refine hK.out _ _ ⟨zj BK116.out 0, zj BK116.out 1, zj BK116.out 2, zj BK118.out 0, zj BK118.out 1, zj BK118.out 2, zj BK118.out 3⟩ (fun hHeld => ?_)
         clear hK K
         refine zn (h := ?_)
         refine zp 3 17 (hy := by
           intro w'
           go_simp
           with_reducible rfl) (h := ?_)
         refine zp 4 18 (hy := by
           intro w'
           go_simp
           with_reducible rfl) (h := ?_)
         refine zp 5 19 (hy := by
           intro w'
           go_simp
           with_reducible rfl) (h := ?_)
         refine zp 6 20 (hy := by
           intro w'
           go_simp
           with_reducible rfl) (h := ?_)
         refine zp 7 21 (hy := by
           intro w'
           go_simp
           with_reducible rfl) (h := ?_)
         refine zu 8 22 (h := ?_)
         refine zu 9 23 (h := ?_)
         refine zu 10 24 (h := ?_)
         refine zu 11 25 (h := ?_)
         refine zu 12 26 (h := ?_)
         refine zu 13 27 (h := ?_)
         refine zu 14 28 (h := ?_)
         refine zu 15 29 (h := ?_)
         refine zp 16 30 (hy := by
           intro w'
           go_simp
           with_reducible rfl) (h := ?_)
         refine zp 17 31 (hy := by
           intro w'
           go_simp
           with_reducible rfl) (h := ?_)
         refine done_ (done_of HT_.out (by kernel_rfl)) ?_
         try go_wp2
         go_meet
         case rel => exact ⟨_, (false), zR, H', ⟨by have := HK1.out; first | omega | exact Nat.le_refl _⟩, ⟨zK⟩, ⟨zK⟩, ⟨zG⟩⟩
       ·replace c12 := Bool.eq_false_iff.mpr c12
        subst c12
        rw [if_neg (show ¬ (false = true) by decide)] at H
        have H' := zm H
        clear H
        try go_wp2
        have n0_ : Aside0 (((((w8.setCell ⟨gb118, 0, none⟩ (.int .i64 ((rd_T41 l1 x9_1).f0))).setCell ⟨gb118, 1, none⟩ (.int .i64 ((rd_T41 l1 x9_1).f1))).setCell ⟨gb118, 2, none⟩ (.string ((rd_T41 l1 x9_1).f2))).setCell ⟨gb118, 3, none⟩ (.int .i64 ((rd_T41 l1 x9_1).f3))).heap[gb116]? = some (.cells #[.int .i64 a0_0, .slice A0_1 l0_1.length c0_1, .slice A0_2 l0_2.length c0_2] 25 (0, 0))) := ⟨by (with_reducible repeat (first | refine blk_drewN ?_ _ | refine blk_drew ?_ | refine blk_alloc ?_ _)); refine blk_far ?_ NB116_118.out _; (with_reducible repeat (first | refine blk_drewN ?_ _ | refine blk_drew ?_ | refine blk_alloc ?_ _)); refine blk_far ?_ NB116_118.out _; (with_reducible repeat (first | refine blk_drewN ?_ _ | refine blk_drew ?_ | refine blk_alloc ?_ _)); refine blk_far ?_ NB116_118.out _; (with_reducible repeat (first | refine blk_drewN ?_ _ | refine blk_drew ?_ | refine blk_alloc ?_ _)); refine blk_far ?_ NB116_118.out _; (with_reducible repeat (first | refine blk_drewN ?_ _ | refine blk_drew ?_ | refine blk_alloc ?_ _)); exact BK116.out⟩
        have n1_ : Aside0 (((((w8.setCell ⟨gb118, 0, none⟩ (.int .i64 ((rd_T41 l1 x9_1).f0))).setCell ⟨gb118, 1, none⟩ (.int .i64 ((rd_T41 l1 x9_1).f1))).setCell ⟨gb118, 2, none⟩ (.string ((rd_T41 l1 x9_1).f2))).setCell ⟨gb118, 3, none⟩ (.int .i64 ((rd_T41 l1 x9_1).f3))).heap[gb118]? = some (.cells #[.int .i64 ((rd_T41 l1 x9_1).f0), .int .i64 ((rd_T41 l1 x9_1).f1), .string ((rd_T41 l1 x9_1).f2), .int .i64 ((rd_T41 l1 x9_1).f3)] 41 (0, 0))) := ⟨by (with_reducible repeat (first | refine blk_drewN ?_ _ | refine blk_drew ?_ | refine blk_alloc ?_ _)); refine blk_put (cs := #[.int .i64 ((rd_T41 l1 x9_1).f0), .int .i64 ((rd_T41 l1 x9_1).f1), .string ((rd_T41 l1 x9_1).f2), .int .i64 0]) ?_ 3 _ rfl; (with_reducible repeat (first | refine blk_drewN ?_ _ | refine blk_drew ?_ | refine blk_alloc ?_ _)); refine blk_put (cs := #[.int .i64 ((rd_T41 l1 x9_1).f0), .int .i64 ((rd_T41 l1 x9_1).f1), .string (⟨#[]⟩ : ByteArray), .int .i64 0]) ?_ 2 _ rfl; (with_reducible repeat (first | refine blk_drewN ?_ _ | refine blk_drew ?_ | refine blk_alloc ?_ _)); refine blk_put (cs := #[.int .i64 ((rd_T41 l1 x9_1).f0), .int .i64 0, .string (⟨#[]⟩ : ByteArray), .int .i64 0]) ?_ 1 _ rfl; (with_reducible repeat (first | refine blk_drewN ?_ _ | refine blk_drew ?_ | refine blk_alloc ?_ _)); refine blk_put (cs := #[.int .i64 0, .int .i64 0, .string (⟨#[]⟩ : ByteArray), .int .i64 0]) ?_ 0 _ rfl; (with_reducible repeat (first | refine blk_drewN ?_ _ | refine blk_drew ?_ | refine blk_alloc ?_ _)); exact BK118.out⟩
        have n2_ : Aside0 (Below w.heap.size w ((((w8.setCell ⟨gb118, 0, none⟩ (.int .i64 ((rd_T41 l1 x9_1).f0))).setCell ⟨gb118, 1, none⟩ (.int .i64 ((rd_T41 l1 x9_1).f1))).setCell ⟨gb118, 2, none⟩ (.string ((rd_T41 l1 x9_1).f2))).setCell ⟨gb118, 3, none⟩ (.int .i64 ((rd_T41 l1 x9_1).f3)))) := ⟨zG⟩
        (try clear BK116)
        (try clear BK118)
        (try clear HB)
        generalize ((((w8.setCell ⟨gb118, 0, none⟩ (.int .i64 ((rd_T41 l1 x9_1).f0))).setCell ⟨gb118, 1, none⟩ (.int .i64 ((rd_T41 l1 x9_1).f1))).setCell ⟨gb118, 2, none⟩ (.string ((rd_T41 l1 x9_1).f2))).setCell ⟨gb118, 3, none⟩ (.int .i64 ((rd_T41 l1 x9_1).f3))) = w25 at n0_ n1_ n2_ ⊢
        have BK116 := n0_
        have BK118 := n1_
        have HB := n2_
        clear n0_ n1_ n2_
        have n0_ := zm (blk_drew BK116.out)
        have n1_ := zm (blk_drew BK118.out)
        have n2_ := zm (below_drew1 HB.out)
        clear BK116
        clear BK118
        clear HB
        have BK116 := n0_
        have BK118 := n1_
        have HB := n2_
        clear n0_ n1_ n2_
        refine start_ (n := 18) (S := fun w' => w'.cell? ⟨gb116, 0, none⟩ = some (.int .i64 a0_0) ∧ w'.cell? ⟨gb116, 1, none⟩ = some (.slice A0_1 l0_1.length c0_1) ∧ w'.cell? ⟨gb116, 2, none⟩ = some (.slice A0_2 l0_2.length c0_2) ∧ w'.cell? ⟨gb118, 0, none⟩ = some (.int .i64 ((rd_T41 l1 x9_1).f0)) ∧ w'.cell? ⟨gb118, 1, none⟩ = some (.int .i64 ((rd_T41 l1 x9_1).f1)) ∧ w'.cell? ⟨gb118, 2, none⟩ = some (.string ((rd_T41 l1 x9_1).f2)) ∧ w'.cell? ⟨gb118, 3, none⟩ = some (.int .i64 ((rd_T41 l1 x9_1).f3))) (ds := []) #[false, false, false, false, false, false, false, false, false, false, false, false, false, false, false, false, false, false] (by kernel_rfl) rfl rfl ⟨zj BK116.out 0, zj BK116.out 1, zj BK116.out 2, zj BK118.out 0, zj BK118.out 1, zj BK118.out 2, zj BK118.out 3⟩ (fun hHeld => ?_); refine with_tabW e_areRight.tab4 e_areRight.bits4 (fun HT_ HW_ => ?_)
        generalize w25.drew = w26 at BK116 BK118 HB hHeld ⊢
        refine zt 0 14 (hy := by
          rintro w' ⟨s0, s1, s2, s3, s4, s5, s6⟩
          go_simp
          with_reducible rfl) (h := ?_)
        refine zt 1 15 (hy := by
          rintro w' ⟨s0, s1, s2, s3, s4, s5, s6⟩
          go_simp
          with_reducible rfl) (h := ?_)
        refine zo 2 16 (h := fun K hK => ?_)
        refine goes_ Try.func50 (by kernel_rfl) rfl #[.agg #[.int .i64 a0_0, .slice A0_1 l0_1.length c0_1, .slice A0_2 l0_2.length c0_2], .agg #[.int .i64 ((rd_T41 l1 x9_1).f0), .int .i64 ((rd_T41 l1 x9_1).f1), .string ((rd_T41 l1 x9_1).f2), .int .i64 ((rd_T41 l1 x9_1).f3)]] (by rfl) rfl rfl zP ?_
        with_reducible refine (e_fits.calls k1 a0_0 _ _ l0_1 _ _ l0_2 ((rd_T41 l1 x9_1).f0) ((rd_T41 l1 x9_1).f1) ((rd_T41 l1 x9_1).f2) ((rd_T41 l1 x9_1).f3) false _ ?side1 ?side2 ?side3 ?side4 A11.out).mono ?_
        (case side1 => exact zC (Kd.C_below HR0_1.out HB.out))
        (case side2 => exact HC0_1.out)
        (case side3 => exact zC (Kd.C_below HR0_2.out HB.out))
        (case side4 => exact HC0_2.out)
        rintro e w27 ⟨rfl, hb⟩
        refine ⟨_, rfl, ?_⟩
        have n0_ := zm (blk_below (g := gb116) zK hb)
        have n1_ := zm (blk_below (g := gb118) zK hb)
        have n2_ := zm (below_step zG hb)
        clear BK116
        clear BK118
        clear HB
        have BK116 := n0_
        have BK118 := n1_
        have HB := n2_
        clear n0_ n1_ n2_
        (try clear hb)
        (try clear hb2)
        (try clear hk)
        (try clear hi)
        refine hK.out _ _ ⟨zj BK116.out 0, zj BK116.out 1, zj BK116.out 2, zj BK118.out 0, zj BK118.out 1, zj BK118.out 2, zj BK118.out 3⟩ (fun hHeld => ?_)
        clear hK K
        refine zn (h := ?_)
        refine zp 3 17 (hy := by
          intro w'
          go_simp
          with_reducible rfl) (h := ?_)
        refine zp 4 18 (hy := by
          intro w'
          go_simp
          with_reducible rfl) (h := ?_)
        refine zu 5 19 (h := ?_)
        refine zu 6 20 (h := ?_)
        refine zu 7 21 (h := ?_)
        refine zu 8 22 (h := ?_)
        refine zu 9 23 (h := ?_)
        refine zu 10 24 (h := ?_)
        refine zu 11 25 (h := ?_)
        refine zu 12 26 (h := ?_)
        refine zu 13 27 (h := ?_)
        refine zu 14 28 (h := ?_)
        refine zu 15 29 (h := ?_)
        refine zu 16 30 (h := ?_)
        refine zp 17 31 (hy := by
          intro w'
          go_simp
          with_reducible rfl) (h := ?_)
        refine done_ (done_of HT_.out (by kernel_rfl)) ?_
        try go_wp2
        go_meet
        case rel => exact ⟨_, (true), zR, H', ⟨by have := HK1.out; first | omega | exact Nat.le_refl _⟩, ⟨zK⟩, ⟨zK⟩, ⟨zG⟩⟩
      case rest =>
       clear HC7
       clear hcz10_0 hcz10_1 hcz10_2 hcz10_3 hfz10_0 hfz10_1 hfz10_2 hfz10_3 hx117_1 hx117_2 hx117_3 p117 q117
       obtain ⟨kq, x31_6, rfl, HA, HJ6, BK116, BK118, HB⟩ := hcut
       cases kq with
       | zero => exact absurd HA.out (by simp [e_areRight.j1])
       | succ kj6 =>
        have H := HA.out
        clear HA
        simp only [e_areRight.j1] at H
        by_cases c28 : x31_6 = true
        ·subst c28
         rw [if_pos rfl] at H
         obtain rfl := Option.some.inj H
         go_wp2
         go_ret
         exact ⟨zE, zG⟩
        ·replace c28 := Bool.eq_false_iff.mpr c28
         subst c28
         rw [if_neg (show ¬ (false = true) by decide)] at H
         have H' := zm H
         clear H
         go_wp2
         go_roundg kj6
         case measure => have := HK1.out; have := HJ6.out; omega
         case rel => exact ⟨(wrap64 (x9_1 + 1)), zR, H', ⟨by have := HK1.out; have := HJ6.out; omega⟩, ⟨zK⟩, ⟨zG⟩⟩
     ·rw [if_neg c6] at H
      exact absurd H (by simp)
    ·rw [if_neg c5] at H
     exact absurd H (by simp)
   ·rw [if_neg c4] at H
    have c4b0 : decide (x9_1 < (l1.length : Int)) = false := decide_eq_false c4
    clear c4
    obtain rfl := Option.some.inj H
    go_wp2
    go_ret
    exact ⟨zE, zG⟩
end Go.Proofs.Ytngppcmdaanheaa.Pr
