/- slices.Insert of one number into a row of one's own. No condition. -/
import Derived.Test.YtcjbhdocmkpjcaaE5
import Derived.Test.YtcjbhdocmkpjcaaG1
import Derived.Shelf.Spec.SlicesInsertGrow
import Derived.Lib.LazyBuf
namespace Go.Proofs.Ytcjbhdocmkpjcaa.Ext
open Go.RowKit Go.Proofs.YtcjbhdocmkpjcaaW.PrintWords Go.Proofs.YtcjbhdocmkpjcaaW.PrintLast Go.Proofs.Ytcjbhdocmkpjcaa.Pr Go.Proofs.Ytcjbhdocmkpjcaa.Base Go.Proofs.Ytcjbhdocmkpjcaa.Iter Go.Proofs.Ytcjbhdocmkpjcaa.ISet Go.Proofs.Ytcjbhdocmkpjcaa.Sets
set_option linter.unusedVariables false
set_option linter.unusedSimpArgs false

def insRen : Go.Shelf.Ren := ⟨fun | 21 => 40 | 27 => 51 | 28 => 52 | 35 => 66 | 39 => 72 | n => n, fun | 22 => 24 | 3 => 3 | 4 => 4 | 0 => 0 | n => n, fun | n => n⟩
theorem insLays : Go.Proofs.Lays2.n21 Try.prog insRen := {
  mixed := by kernel_rfl
  f21 := Try.func40.trans (congrArg some (by kernel_rfl))
  f27 := Try.func51.trans (congrArg some (by kernel_rfl))
  f28 := Try.func52.trans (congrArg some (by kernel_rfl))
  f35 := Try.func66.trans (congrArg some (by kernel_rfl))
  f39 := Try.func72.trans (congrArg some (by kernel_rfl))
  t0 := Try.underlying0
  a0 := Try.isAgg0
  z0 := Try.sizeOf0
  v0 := Try.zeroValue0
  t3 := Try.underlying3
  a3 := Try.isAgg3
  z3 := Try.sizeOf3
  v3 := Try.zeroValue3
  t4 := Try.underlying4
  a4 := Try.isAgg4
  z4 := Try.sizeOf4
  v4 := Try.zeroValue4
  t22 := Try.underlying24
  a22 := Try.isAgg24
  z22 := Try.sizeOf24
  v22 := Try.zeroValue24
  i3 := infoI }

theorem own_row {w' : World} {base g n cap : Nat} {f : Nat → Value} {ys : List Int} (h : w'.rowIs g 3 cap f) (hb : base ≤ g) (hn : ys.length = n) (hc : n ≤ cap) (hm : cap ≤ 9223372036854775807) (hf : ∀ j, j < n → f j = .int .i64 (ys.getD j 0)) : OwnI w' base (.slice (some ⟨g, 0, none⟩) n cap) ys := by
  obtain ⟨c, hg, hs, hv⟩ := h
  subst hn
  refine Kd.R_of_own (show w'.ownsRow base 3 1 _ ys.length (encs (Value.int .i64) ys) from ⟨by simp [encs], .inr ⟨g, cap, c, rfl, hb, hg, hc, by simpa [maxLen] using hm, by omega, ?_⟩⟩) (fun _ _ => trivial)
  apply List.ext_getElem?
  intro j
  rw [Nat.mul_one, List.getElem?_take]
  by_cases hj : j < ys.length
  · rw [if_pos hj, Array.getElem?_toList, hv j (by omega), hf j hj]
    simp [encs, List.getD_eq_getElem?_getD, hj]
  · rw [if_neg hj]
    simp [encs, hj]

/-- What the row holds with a number put in. -/
theorem ins_getD (xs : List Int) (x : Int) (i j : Nat) (hi : i ≤ xs.length) (hj : j < xs.length + 1) :
    (xs.take i ++ x :: xs.drop i).getD j 0 = if j < i then xs.getD j 0 else if j = i then x else xs.getD (j - 1) 0 := by
  simp only [List.getD_eq_getElem?_getD]
  by_cases h1 : j < i
  · rw [if_pos h1, List.getElem?_append_left (by simp; omega), List.getElem?_take, if_pos h1]
  · rw [if_neg h1, List.getElem?_append_right (by simp; omega), List.length_take, Nat.min_eq_left hi]
    by_cases h2 : j = i
    · subst h2; simp
    · rw [if_neg h2, show j - i = (j - i - 1) + 1 by omega, List.getElem?_cons_succ, List.getElem?_drop, show i + (j - i - 1) = j - 1 by omega]
theorem ins_len (xs : List Int) (x : Int) (i : Nat) (hi : i ≤ xs.length) : (xs.take i ++ x :: xs.drop i).length = xs.length + 1 := by
  simp; omega

theorem alloc_row (w : World) (c : Array Value) (n : Nat) (hn : c.size = n) : (w.alloc (.cells c 3)).rowIs w.heap.size 3 n (fun j => c.getD j (.int .i64 0)) := by
  subst hn
  exact World.rowIs_alloc w c 3 _ (fun j hj => by simp [Array.getD_eq_getD_getElem?, hj])
theorem front_getD (l : List Value) (r : Array Value) (j : Nat) (hj : j < l.length) : (l.toArray ++ r).getD j (.int .i64 0) = l.getD j (.int .i64 0) := by
  rw [Array.getD_eq_getD_getElem?, Array.getElem?_append_left (by simpa using hj)]
  simp [List.getD_eq_getElem?_getD]
theorem map_getD (xs : List Int) (j : Nat) (hj : j < xs.length) : (xs.map (Value.int .i64)).getD j (.int .i64 0) = .int .i64 (xs.getD j 0) := by
  simp [List.getD_eq_getElem?_getD, hj]
theorem drop_at (xs : List Int) (i j : Nat) (h1 : i < j) (h2 : j < xs.length + 1) : ((xs.map (Value.int .i64)).drop i)[j - (i + 1)]?.getD default = .int .i64 (xs.getD (j - 1) 0) := by
  rw [List.getElem?_drop, show i + (j - (i + 1)) = j - 1 by omega]
  simp [List.getD_eq_getElem?_getD, show j - 1 < xs.length by omega]
/-- A number stored at i, what stood from i on behind it. -/
theorem two_sets (xs : List Int) (x : Int) (i j : Nat) (F : Nat → Value) (hi : i ≤ xs.length) (hj : j < xs.length + 1) (hF : ∀ j, j < i → F j = .int .i64 (xs.getD j 0)) :
    (if i ≤ j ∧ j < i + 1 then Value.int .i64 x else if i + 1 ≤ j ∧ j < i + 1 + (xs.length - i) then ((xs.map (Value.int .i64)).drop i)[j - (i + 1)]?.getD default else F j) = .int .i64 (if j < i then xs.getD j 0 else if j = i then x else xs.getD (j - 1) 0) := by
  by_cases h1 : j < i
  · rw [if_neg (by omega), if_neg (by omega), if_pos h1, hF j h1]
  · by_cases h2 : j = i
    · rw [if_pos (by omega), if_neg h1, if_pos h2]
    · rw [if_neg (by omega), if_pos (by omega), if_neg h1, if_neg h2, drop_at xs i j (by omega) hj]

def InsPost (w : World) (base : Nat) (ys : List Int) (e : Ending) (w' : World) : Prop := ∃ v : Value, e = .returned v ∧ OwnI w' base v ys ∧ Below base w w'

theorem insert_own (v : Value) (xs : List Int) (x : Int) (i base g : Nat) (w : World) (h : OwnI w base v xs) (hl : xs.length ≤ 4398046511104) (hi : i ≤ xs.length) (hbs : base ≤ w.heap.size)
    (hg : w.heap[g]? = some (.cells #[.int .i64 x] 3 (0, 0))) (hgv : v.ownBlock ≠ some g) :
    Calls Try.prog 40 #[v, .int .i64 i, .slice (some ⟨g, 0, none⟩) 1 1] w (InsPost w base (xs.take i ++ x :: xs.drop i)) := by
  have ho := Kd.own_of_R h
  have hvs : ∀ j u, [Value.int .i64 x][j]? = some u → w.cell? ⟨g, 0 + j, none⟩ = some u := by
    intro j u hj
    match j with
    | 0 => simp at hj; subst hj; simp [World.cell?, hg]
    | j + 1 => simp at hj
  have h1v : ∀ u ∈ [Value.int .i64 x], u.oneCell' = true := by intro u hu; simp at hu; subst hu; rfl
  have h1c : ∀ u ∈ xs.map (Value.int .i64), u.oneCell' = true := by
    intro u hu
    obtain ⟨y, _, rfl⟩ := List.mem_map.1 hu
    rfl
  have hlen := ins_len xs x i hi
  rcases ho.2 with ⟨rfl, h0⟩ | ⟨b, cap, cur, rfl, hb, hgb, h1, h2, h3, h4⟩
  · obtain rfl : xs = [] := List.eq_nil_of_length_eq_zero h0
    obtain rfl : i = 0 := by simpa using hi
    refine (Any2.slices_Insert_int_end_grow insLays none 0 0 g 0 1 1 [] [.int .i64 x] w (by omega) (by omega) (by omega) (by omega) rfl rfl (fun _ => rfl) (fun a ha => by cases ha) hvs h1v).mono ?_
    rintro e w' ⟨rfl, rfl⟩
    simp only [show insRen.t 3 = 3 from rfl]
    have hge := grownCap_ge w (0 + 1) 0 3
    have hle := grownCap_le_maxLen w (0 + 1) 0 3 (by simp only [maxLen]; omega)
    simp only [maxLen] at hle
    generalize grownCap w (0 + 1) 0 3 = G at *
    have hA := alloc_row w.drew (([] ++ [Value.int .i64 x] : List Value).toArray ++ Builtin.zeroCells (Value.int .i64 0).cells (G - (0 + 1))) G (by simp [size_zeroCells, Value.cells]; omega)
    refine ⟨_, rfl, own_row (g := w.heap.size) hA hbs rfl hge hle (fun j hj => ?_), (below_drew1 (Below.refl _ _)).alloc hbs _⟩
    obtain rfl : j = 0 := by omega
    rw [front_getD _ _ _ (by simp)]
    simp
  · have hcell : ∀ j, j < xs.length → cur[j]? = some (.int .i64 (xs.getD j 0)) := by
      intro j hj
      have := congrArg (fun l => l[j]?) h4
      simp only [Nat.mul_one] at this
      rw [List.getElem?_take, if_pos hj, Array.getElem?_toList] at this
      rw [this]
      simp [encs, List.getD_eq_getElem?_getD, hj]
    have hR : w.rowIs b 3 cap (fun j => cur.getD j (.int .i64 0)) := ⟨cur, hgb, by omega, fun j hj => by simp [Array.getD_eq_getD_getElem?, show j < cur.size by omega]⟩
    have hF : ∀ j, j < xs.length → cur.getD j (.int .i64 0) = .int .i64 (xs.getD j 0) := fun j hj => by rw [Array.getD_eq_getD_getElem?, hcell j hj]; rfl
    have hcs : ∀ j u, (xs.map (Value.int .i64))[j]? = some u → w.cell? ⟨b, 0 + j, none⟩ = some u := by
      intro j u hu
      have hj : j < xs.length := by
        have := (List.getElem?_eq_some_iff.1 hu).1
        simpa using this
      rw [Nat.zero_add, hR.cell (by omega : j < cap), hF j hj]
      rw [← hu]
      simp [List.getD_eq_getElem?_getD, hj]
    have hbg : g ≠ b := fun e => hgv (by simp [Value.ownBlock, e])
    have hmax : cap ≤ 9223372036854775807 := h2
    by_cases hn : i < xs.length
    · by_cases hroom : xs.length + 1 ≤ cap
      · refine (Any2.slices_Insert_int_shift insLays b 0 xs.length cap i g 0 1 1 (xs.map (Value.int .i64)) [.int .i64 x] w hn (by omega) hroom hmax hbg (by simp) rfl hcs
          (fun j hj => by rw [Nat.zero_add, hR.cell (by omega)]; rfl) (fun j hj => hR.frozen _) hvs h1c h1v 3 3 1 cap (by simp [World.shape?, hg]) (by simp [World.shape?, hgb]; omega) (by omega) (by simp [World.frozen?, hg]) (by simp [World.frozen?, hg])).mono ?_
        rintro e w' ⟨rfl, rfl⟩
        have hR2 := rowIs_setCells [Value.int .i64 x] (0 + i) _ _ (rowIs_setCells ((xs.map (Value.int .i64)).drop i) (0 + (i + 1)) _ _ hR.drew)
        refine ⟨_, rfl, own_row hR2 hb hlen hroom hmax (fun j hj => ?_), Go.below_setCells hb _ _ _ (Go.below_setCells hb _ _ _ (below_drew1 (Below.refl _ _)))⟩
        rw [ins_getD xs x i j hi hj, ← two_sets xs x i j (fun j => cur.getD j (.int .i64 0)) hi hj (fun j hj' => hF j (by omega))]
        simp only [Nat.zero_add, List.length_cons, List.length_nil, List.length_drop, List.length_map]
        by_cases hji : i ≤ j ∧ j < i + 1
        · rw [if_pos hji, if_pos hji, show j - i = 0 by omega]; rfl
        · rw [if_neg hji, if_neg hji]
      · refine (Any2.slices_Insert_int_grow insLays b 0 xs.length cap i g 0 1 1 (xs.map (Value.int .i64)) [.int .i64 x] w hn (by omega) h1 (by omega) (by omega) (by simp) rfl hcs hvs h1c h1v).mono ?_
        rintro e w' ⟨rfl, rfl⟩
        simp only [show insRen.t 3 = 3 from rfl]
        have hge := grownCap_ge w (xs.length + 1) cap 3
        have hle := grownCap_le_maxLen w (xs.length + 1) cap 3 (by simp only [maxLen]; omega)
        simp only [maxLen] at hle
        generalize grownCap w (xs.length + 1) cap 3 = G at *
        have hA := alloc_row w (((xs.map (Value.int .i64)).take i).toArray ++ Builtin.zeroCells (Value.int .i64 0).cells (xs.length + 1 - i) ++ Builtin.zeroCells (Value.int .i64 0).cells (G - (xs.length + 1))) G (by simp [size_zeroCells, Value.cells]; omega)
        have hR2 := rowIs_setCells ((xs.map (Value.int .i64)).drop i) (i + 1) _ _ (rowIs_setCells [Value.int .i64 x] i _ _ hA.drew).drew
        refine ⟨_, rfl, own_row hR2 hbs hlen hge hle (fun j hj => ?_), Go.below_setCells hbs _ _ _ (below_drew1 (Go.below_setCells hbs _ _ _ (below_drew1 ((Below.refl _ _).alloc hbs _))))⟩
        rw [ins_getD xs x i j hi hj, ← two_sets xs x i j (fun j => (((xs.map (Value.int .i64)).take i).toArray ++ Builtin.zeroCells (Value.int .i64 0).cells (xs.length + 1 - i) ++ Builtin.zeroCells (Value.int .i64 0).cells (G - (xs.length + 1))).getD j (.int .i64 0)) hi hj (fun j hj' => by
          rw [Array.append_assoc, front_getD _ _ _ (by simp; omega), List.getD_eq_getElem?_getD, List.getElem?_take, if_pos hj', ← List.getD_eq_getElem?_getD]; exact map_getD xs j (by omega))]
        simp only [List.length_cons, List.length_nil, List.length_drop, List.length_map, Nat.zero_add]
        by_cases hji : i ≤ j ∧ j < i + 1
        · rw [if_neg (by omega), if_pos hji, if_pos hji, show j - i = 0 by omega]; rfl
        · rw [if_neg hji, if_neg hji]
    · obtain rfl : i = xs.length := by omega
      by_cases hroom : xs.length + 1 ≤ cap
      · refine (Any2.slices_Insert_int_end_room insLays b 0 xs.length cap g 0 1 1 [.int .i64 x] w (by omega) hroom hmax rfl (fun j hj => by rw [hR.cell (by omega)]; rfl) (fun j hj => hR.frozen _) hvs h1v).mono ?_
        rintro e w' ⟨rfl, rfl⟩
        have hR2 := rowIs_setCells [Value.int .i64 x] (0 + xs.length) _ _ hR
        refine ⟨_, rfl, own_row hR2 hb hlen hroom hmax (fun j hj => ?_), Go.below_setCells hb _ _ _ (Below.refl _ _)⟩
        rw [ins_getD xs x _ j hi hj]
        simp only [Nat.zero_add, List.length_cons, List.length_nil]
        by_cases hji : j < xs.length
        · rw [if_neg (by omega), if_pos hji, hF j hji]
        · rw [if_pos (by omega), if_neg hji, if_pos (by omega), show j - xs.length = 0 by omega]; rfl
      · refine (Any2.slices_Insert_int_end_grow insLays (some ⟨b, 0, none⟩) xs.length cap g 0 1 1 (xs.map (Value.int .i64)) [.int .i64 x] w (by omega) h1 (by omega) (by omega) (by simp) rfl (fun a => by cases a) (fun a ha j u hu => by cases ha; have h := hcs j u hu; rw [Nat.zero_add] at h; rw [add_plain]; exact h) hvs h1v).mono ?_
        rintro e w' ⟨rfl, rfl⟩
        simp only [show insRen.t 3 = 3 from rfl]
        have hge := grownCap_ge w (xs.length + 1) cap 3
        have hle := grownCap_le_maxLen w (xs.length + 1) cap 3 (by simp only [maxLen]; omega)
        simp only [maxLen] at hle
        generalize grownCap w (xs.length + 1) cap 3 = G at *
        have hA := alloc_row w.drew (((xs.map (Value.int .i64)) ++ [Value.int .i64 x]).toArray ++ Builtin.zeroCells (Value.int .i64 0).cells (G - (xs.length + 1))) G (by simp [size_zeroCells, Value.cells]; omega)
        refine ⟨_, rfl, own_row (g := w.heap.size) hA hbs hlen hge hle (fun j hj => ?_), (below_drew1 (Below.refl _ _)).alloc hbs _⟩
        rw [ins_getD xs x _ j hi hj, front_getD _ _ _ (by simp; omega), List.getD_eq_getElem?_getD]
        by_cases hji : j < xs.length
        · rw [if_pos hji, List.getElem?_append_left (by simpa using hji), ← List.getD_eq_getElem?_getD]; exact map_getD xs j hji
        · rw [if_neg hji, if_pos (by omega), List.getElem?_append_right (by simp; omega), show j - (xs.map (Value.int .i64)).length = 0 by simp; omega]; rfl
end Go.Proofs.Ytcjbhdocmkpjcaa.Ext
