/- Lemmas for the claims of this seat (own texts, packed; what the claims do not use is left out). No condition. -/
import Derived.Shelf.Small.Bits
import Derived.Shelf.Small.Wraps
import Derived.Shelf.Strconv.Itoa0
import Derived.Shelf.Sort.Plain
import Derived.Shelf.Slices.Turned
import Derived.Ground.Names2Prog
import Derived.Shelf.Slices.CompactI
import Derived.Shelf.Slices.SearchI
import Derived.Shelf.Slices.Cells
import Derived.Shelf.Slices.In.SortNone
import Derived.Test.YtondngpmhlemkaaProg
import Derived.Lib.SlicesCompact
import Derived.Lib.RowBridge
import Derived.RangeFuncNested
import Derived.RangeFuncBound
import Derived.RangeFuncCalls
import Derived.RangeFuncLeaves
import Derived.Below
import Derived.Deep.Draws
import Derived.Sort.OwnSortedInts
import Derived.Sort.LoopGhostIn
import Derived.Lib.OwnBridge
import Derived.Maps.OwnIn
import Derived.Shelf.Abstract
import Derived.Shelf.RegionOpen
import Derived.OwnWalkIn
import Derived.TacticsInMore
import Derived.LoopNIn
import Derived.LoopIn
import Derived.Deep.AppendLies
import Derived.Maps.AppendAt
import Derived.OwnWalk
import Derived.Laws.BytesArg
import Derived.Laws.MakeOwn
import Derived.Laws.OwnMore
import Derived.Deep.OwnRows
import Derived.Tactics
import Derived.Lib.ConvBytes
import Derived.Laws.Slices
import Derived.WalkKit
import Derived.KernelRfl
import Derived.RowKit3
import Derived.Deep.LoopGhost
import Derived.Deep.QuietTactic
import Derived.BigQuiet
import Derived.WideLaws
import Derived.Deep.DeepCutAuto
import Derived.Deep.CutBlock
import Derived.Deep.RegionHeld3
import Derived.Laws.Rows
import Derived.Lib.AppendStr
import Derived.ArgAppend
import Derived.Laws.IdiomCopy
import Derived.OrdersHeld
import Derived.Laws.BitsLemmas
import Derived.RowKit
import Derived.Maps.OwnSet
import Derived.Maps.Keyed
import Derived.Maps.Views
import Derived.Maps.GroupsBeside
import Derived.Shelf.SlSortCmp.WholeK
import Derived.Shelf.SlGeneric
import Derived.Ground.SlsfProg
import Derived.Shelf.SlicesE.Kit
import Derived.Shelf.RegionOpenPlain
import Derived.Lib.Walk
import Derived.Sort.WalkB12
import Derived.Shelf.SlSortCmp.NoneTotal
import Derived.OrdersIn
import Derived.Test.YtondngpmhlemkaaMh0
/-
  DERIVED: THE SHELF's CONTRACTS AT THIS DUMP, IN PLAIN WORDS (tools/lay-plain.mjs out of 'TryShelf.lean', which tools/lay-shelf.mjs wrote): THE SAME DECLARATIONS UNDER THE SAME NAMES: 'import', 'namespace', 'open', 'def', 'theorem' AND NOTHING ELSE: no command of the shelf's: FOR A HAND-IN. Each laying: the table of numbers ('.._ren') and one theorem, a field a fact of the dump's own or the kernel's comparison; each contract: ONE APPLICATION.
-/
namespace Go.Proofs
open Go.Shelf
def Try.lays189_ren : Go.Shelf.Ren := ⟨fun | 189 => 54 | 125 => 50 | 257 => 67 | 128 => 64 | 129 => 65 | 294 => 73 | 295 => 74 | 296 => 75 | 297 => 76 | 298 => 77 | 299 => 78 | 216 => 79 | 300 => 80 | 301 => 81 | 328 => 83 | 329 => 69 | 330 => 70 | 331 => 84 | 332 => 85 | 215 => 51 | 343 => 86 | n => n, fun | 28 => 27 | 3 => 3 | 46 => 82 | 0 => 0 | 51 => 94 | 53 => 96 | 4 => 4 | 183 => 88 | 182 => 87 | 131 => 55 | 5 => 5 | 9 => 9 | 218 => 99 | 222 => 103 | 228 => 111 | 229 => 112 | n => n, fun | n => n⟩
theorem Try.lays189 : Go.Proofs.Lays.n189 Try.prog Try.lays189_ren := {
  mixed := by kernel_rfl
  f125 := Try.func50.trans (congrArg some (by kernel_rfl))
  f128 := Try.func64.trans (congrArg some (by kernel_rfl))
  f129 := Try.func65.trans (congrArg some (by kernel_rfl))
  f189 := Try.func54.trans (congrArg some (by kernel_rfl))
  f215 := Try.func51.trans (congrArg some (by kernel_rfl))
  f216 := Try.func79.trans (congrArg some (by kernel_rfl))
  f257 := Try.func67.trans (congrArg some (by kernel_rfl))
  f294 := Try.func73.trans (congrArg some (by kernel_rfl))
  f295 := Try.func74.trans (congrArg some (by kernel_rfl))
  f296 := Try.func75.trans (congrArg some (by kernel_rfl))
  f297 := Try.func76.trans (congrArg some (by kernel_rfl))
  f298 := Try.func77.trans (congrArg some (by kernel_rfl))
  f299 := Try.func78.trans (congrArg some (by kernel_rfl))
  f300 := Try.func80.trans (congrArg some (by kernel_rfl))
  f301 := Try.func81.trans (congrArg some (by kernel_rfl))
  f328 := Try.func83.trans (congrArg some (by kernel_rfl))
  f329 := Try.func69.trans (congrArg some (by kernel_rfl))
  f330 := Try.func70.trans (congrArg some (by kernel_rfl))
  f331 := Try.func84.trans (congrArg some (by kernel_rfl))
  f332 := Try.func85.trans (congrArg some (by kernel_rfl))
  f343 := Try.func86.trans (congrArg some (by kernel_rfl))
  t0 := Try.underlying0
  a0 := Try.isAgg0
  z0 := Try.sizeOf0
  v0 := Try.zeroValue0
  t3 := Try.underlying3
  a3 := Try.isAgg3
  z3 := Try.sizeOf3
  v3 := Try.zeroValue3
  t4 := Try.underlying4
  a4 := Try.isAgg4
  z4 := Try.sizeOf4
  v4 := Try.zeroValue4
  t5 := Try.underlying5
  a5 := Try.isAgg5
  z5 := Try.sizeOf5
  v5 := Try.zeroValue5
  t9 := Try.underlying9
  a9 := Try.isAgg9
  z9 := Try.sizeOf9
  v9 := Try.zeroValue9
  t28 := Try.underlying27
  a28 := Try.isAgg27
  z28 := Try.sizeOf27
  v28 := Try.zeroValue27
  t46 := Try.underlying82
  a46 := Try.isAgg82
  z46 := Try.sizeOf82
  v46 := Try.zeroValue82
  t51 := Try.underlying94
  a51 := Try.isAgg94
  z51 := Try.sizeOf94
  v51 := Try.zeroValue94
  t53 := Try.underlying96
  a53 := Try.isAgg96
  z53 := Try.sizeOf96
  v53 := Try.zeroValue96
  t131 := Try.underlying55
  a131 := Try.isAgg55
  z131 := Try.sizeOf55
  v131 := Try.zeroValue55
  t182 := Try.underlying87
  a182 := Try.isAgg87
  z182 := Try.sizeOf87
  v182 := Try.zeroValue87
  t183 := Try.underlying88
  a183 := Try.isAgg88
  z183 := Try.sizeOf88
  v183 := Try.zeroValue88
  t218 := Try.underlying99
  a218 := Try.isAgg99
  z218 := Try.sizeOf99
  v218 := Try.zeroValue99
  t222 := Try.underlying103
  a222 := Try.isAgg103
  z222 := Try.sizeOf103
  v222 := Try.zeroValue103
  t228 := Try.underlying111
  a228 := Try.isAgg111
  z228 := Try.sizeOf111
  v228 := Try.zeroValue111
  t229 := Try.underlying112
  a229 := Try.isAgg112
  z229 := Try.sizeOf112
  v229 := Try.zeroValue112 }
open Go.Sort Go.RowKit in
theorem Try.slices_Sort_int (blk off cap : Nat) (zs : List Int) (w : World) (hH : Holds (Value.int .i64) w blk off zs.toArray) (hblk : blk < w.heap.size) (hsz : zs.length < 4611686018427387904) :
    Calls Try.prog 54 #[.slice (some ⟨blk, off, none⟩) zs.length cap] w fun e w' =>
      e = .returned (.tuple #[]) ∧ ∃ n os, w' = grow (putRow (Value.int .i64) (Sort.ahead w n) blk off (zs.mergeSort fun x y => decide (x ≤ y)).toArray) os := Any.slices_Sort_int Try.lays189 blk off cap zs w hH hblk hsz
def Try.lays107_ren : Go.Shelf.Ren := ⟨fun | 107 => 48 | 108 => 55 | n => n, fun | 28 => 27 | 3 => 3 | 4 => 4 | 0 => 0 | n => n, fun | n => n⟩
theorem Try.lays107 : Go.Proofs.Lays.n107 Try.prog Try.lays107_ren := {
  mixed := by kernel_rfl
  f107 := Try.func48.trans (congrArg some (by kernel_rfl))
  f108 := Try.func55.trans (congrArg some (by kernel_rfl))
  t0 := Try.underlying0
  a0 := Try.isAgg0
  z0 := Try.sizeOf0
  v0 := Try.zeroValue0
  t3 := Try.underlying3
  a3 := Try.isAgg3
  z3 := Try.sizeOf3
  v3 := Try.zeroValue3
  t4 := Try.underlying4
  a4 := Try.isAgg4
  z4 := Try.sizeOf4
  v4 := Try.zeroValue4
  t28 := Try.underlying27
  a28 := Try.isAgg27
  z28 := Try.sizeOf27
  v28 := Try.zeroValue27 }
open Go.Lib in
/-- slices.Contains at []int: "Contains reports whether v is present in s.": IT RETURNS 'elements.contains v'; the world is as it was. ITS CALLEE slices.Index IS MET BY ITS OWN CONTRACT OFF THE SHELF (lay that first): no loop is walked here. (LAID: no walk: one application.) -/
theorem Try.slices_Contains_int (b off n c : Nat) (zs : List Int) (x : Int) (w : World) (hz : n ≤ zs.length) (hbig : n ≤ 9223372036854775807) (hc : ∀ j, j < zs.length → w.cell? ⟨b, off + j, none⟩ = some (.int .i64 (zs.getD j 0))) :
    Calls Try.prog 48 #[.slice (some ⟨b, off, none⟩) n c, .int .i64 x] w fun e w' => e = .returned (.bool ((zs.take n).contains x)) ∧ w' = w := Any.slices_Contains_int Try.lays107 b off n c zs x w hz hbig hc
open Go.Lib in
/-- The same at a slice of length 0, a nil one too. (LAID: no walk: one application.) -/
theorem Try.slices_Contains_int_empty (a : Option Addr) (c : Nat) (x : Int) (w : World) :
    Calls Try.prog 48 #[.slice a 0 c, .int .i64 x] w fun e w' => e = .returned (.bool false) ∧ w' = w := Any.slices_Contains_int_empty Try.lays107 a c x w
def Try.laysNm220_ren : Go.Shelf.Ren := ⟨fun | 20 => 45 | n => n, fun | 22 => 27 | 3 => 3 | 4 => 4 | 0 => 0 | n => n, fun | n => n⟩
theorem Try.laysNm220 : Go.Proofs.Lays2.n20 Try.prog Try.laysNm220_ren := {
  mixed := by kernel_rfl
  f20 := Try.func45.trans (congrArg some (by kernel_rfl))
  t0 := Try.underlying0
  a0 := Try.isAgg0
  z0 := Try.sizeOf0
  v0 := Try.zeroValue0
  t3 := Try.underlying3
  a3 := Try.isAgg3
  z3 := Try.sizeOf3
  v3 := Try.zeroValue3
  t4 := Try.underlying4
  a4 := Try.isAgg4
  z4 := Try.sizeOf4
  v4 := Try.zeroValue4
  t22 := Try.underlying27
  a22 := Try.isAgg27
  z22 := Try.sizeOf27
  v22 := Try.zeroValue27
  i3 := by kernel_rfl }
open Go.RowKit Go.Lib Go.Sort in
/-- slices.Compact at []int: "Compact replaces consecutive runs of equal elements with a single copy. This is like the uniq command found on Unix. Compact modifies the contents of the slice s and returns the modified slice, which may have a smaller length. Compact zeroes the elements between the new length and the original length. The result preserves the nilness of s.": IT RETURNS THE SLICE CUT TO 'Lib.compact zs'; ITS CELLS HOLD 'Lib.compact zs', THEN ZERO VALUES up to the old length; all else is as it was, but for the count of draws. IN THE WORDS OF slices.Sort's CONTRACT ('Holds', 'putRow'): so the everyday 'slices.Sort(xs); xs = slices.Compact(xs)' goes from the one contract to the other. It asks 'zs.length ≤ cap' (every slice's: the reslicing 's[:k]' looks at it). Length 0, nil: '.._empty'. (LAID: no walk: one application.) -/
theorem Try.slices_Compact_int (blk off cap : Nat) (zs : List Int) (w : World) (hH : Holds (Value.int .i64) w blk off zs.toArray) (hsz : zs.length ≤ 9223372036854775807) (hcap : zs.length ≤ cap) :
    Calls Try.prog 45 #[.slice (some ⟨blk, off, none⟩) zs.length cap] w fun e w' => e = .returned (.slice (some ⟨blk, off, none⟩) (Lib.compact zs).length cap) ∧ ∃ q, w' = putRow (Value.int .i64) (Sort.ahead w q) blk off (Lib.compact zs ++ List.replicate (zs.length - (Lib.compact zs).length) 0).toArray := Any.slices_Compact_int Try.laysNm220 blk off cap zs w hH hsz hcap
open Go.RowKit Go.Lib Go.Sort in
/-- The same at a slice of length 0, a nil one too: it comes back as it is. (LAID: no walk: one application.) -/
theorem Try.slices_Compact_int_empty (a : Option Addr) (cap : Nat) (w : World) :
    Calls Try.prog 45 #[.slice a 0 cap] w fun e w' => e = .returned (.slice a 0 cap) ∧ w' = w := Any.slices_Compact_int_empty Try.laysNm220 a cap w
open Go.RowKit Go.Sort in
/-- .. and plain. (LAID: no walk: one application.) -/
theorem Try.slices_Sort_int_none (p : Option Addr) (cap : Nat) (w : World) :
    Calls Try.prog 54 #[.slice p 0 cap] w fun e w' => e = .returned (.tuple #[]) ∧ w' = w := Any.slices_Sort_int_none Try.lays189 p cap w
end Go.Proofs

/- Plain facts on sorted lists: what sorting and compacting makes of numbers; a rising list is known by what is in it. -/
namespace Go.Proofs.Ytondngpmhlemkaa.Sets
open Go.Lib
set_option linter.unusedVariables false
def sset (xs : List Int) : List Int := Lib.compact (xs.mergeSort fun x y => decide (x ≤ y))
theorem getBang (zs : List Int) (m : Nat) (h : m < zs.length) : zs.toArray[m]! = zs[m] := by
  rw [getElem!_pos zs.toArray m (by simpa using h)]
  simp
theorem compactUpTo_sorted (zs : List Int) (hs : zs.Pairwise (· ≤ ·)) : ∀ m, m ≤ zs.length →
    (compactUpTo zs.toArray m).Pairwise (· < ·) ∧ (∀ x, x ∈ compactUpTo zs.toArray m ↔ x ∈ zs.take m) ∧ ∀ x ∈ compactUpTo zs.toArray m, ∀ (h : 0 < m) (h2 : m - 1 < zs.length), x ≤ zs[m - 1]
  | 0, _ => by
    have h0 : compactUpTo zs.toArray 0 = [] := by
      cases hc : compactUpTo zs.toArray 0 with
      | nil => rfl
      | cons a l => simp [compactUpTo] at hc
    rw [h0]
    simp
  | m + 1, hm => by
    obtain ⟨h1, h2, h3⟩ := compactUpTo_sorted zs hs m (by omega)
    have hlt : m < zs.length := by omega
    rw [compactUpTo_succ, getBang zs m hlt]
    have htk : zs.take (m + 1) = zs.take m ++ [zs[m]] := by rw [List.take_succ_eq_append_getElem hlt]
    have hle : ∀ x ∈ compactUpTo zs.toArray m, x ≤ zs[m] := by
      intro x hx
      have hx' := (h2 x).1 hx
      obtain ⟨i, hi, rfl⟩ := List.mem_iff_getElem.1 hx'
      rw [List.length_take] at hi
      rw [List.getElem_take]
      exact (List.pairwise_iff_getElem.1 hs) i m (by omega) hlt (by omega)
    by_cases hk : keeps zs.toArray m = true
    · rw [if_pos hk]
      have hstrict : ∀ x ∈ compactUpTo zs.toArray m, x < zs[m] := by
        intro x hx
        rcases Nat.eq_zero_or_pos m with h0 | h0
        · subst h0
          have := (h2 x).1 hx
          simp at this
        · have ha := h3 x hx h0 (by omega)
          have hne : zs[m] ≠ zs[m - 1] := by
            intro e
            have := keeps_neg (d := zs.toArray) h0 (by rw [getBang zs m hlt, getBang zs (m - 1) (by omega)]; exact e)
            rw [this] at hk
            cases hk
          have hb := (List.pairwise_iff_getElem.1 hs) (m - 1) m (by omega) hlt (by omega)
          omega
      refine ⟨?_, ?_, ?_⟩
      · rw [List.pairwise_append]
        exact ⟨h1, by simp, fun a ha b hb => by simp at hb; subst hb; exact hstrict a ha⟩
      · intro x
        rw [htk, List.mem_append, List.mem_append, h2]
      · intro x hx _ _
        simp only [Nat.add_sub_cancel]
        rw [List.mem_append] at hx
        rcases hx with hx | hx
        · exact hle x hx
        · simp at hx; omega
    · rw [if_neg hk, List.append_nil]
      have h0 : 0 < m := by
        rcases Nat.eq_zero_or_pos m with h0 | h0
        · subst h0
          exact absurd (keeps_lt_one zs.toArray 0 (by omega)) hk
        · exact h0
      have he : zs[m] = zs[m - 1] := by
        by_cases e : zs[m] = zs[m - 1]
        · exact e
        · exact absurd (keeps_pos (d := zs.toArray) (m := m) (by rw [getBang zs m hlt, getBang zs (m - 1) (by omega)]; exact e)) hk
      refine ⟨h1, ?_, ?_⟩
      · intro x
        rw [htk, List.mem_append, h2]
        constructor
        · exact .inl
        · rintro (h | h)
          · exact h
          · simp at h
            rw [h, he]
            exact List.mem_iff_getElem.2 ⟨m - 1, by rw [List.length_take]; omega, by rw [List.getElem_take]⟩
      · intro x hx _ _
        simp only [Nat.add_sub_cancel]
        exact hle x hx
theorem sset_facts (xs : List Int) : (sset xs).Pairwise (· < ·) ∧ ∀ x, x ∈ sset xs ↔ x ∈ xs := by
  have hs : (xs.mergeSort fun x y => decide (x ≤ y)).Pairwise (· ≤ ·) := by
    have := List.pairwise_mergeSort (le := fun x y : Int => decide (x ≤ y)) (fun a b c h1 h2 => by simp at *; omega) (fun a b => by simp; omega) xs
    exact this.imp (fun h => by simpa using h)
  obtain ⟨h1, h2, _⟩ := compactUpTo_sorted _ hs _ (Nat.le_refl _)
  refine ⟨h1, fun x => ?_⟩
  have := h2 x
  rw [List.take_length] at this
  rw [show sset xs = compactUpTo (xs.mergeSort fun x y => decide (x ≤ y)).toArray (xs.mergeSort fun x y => decide (x ≤ y)).length from rfl, this]
  exact (List.mergeSort_perm xs _).mem_iff
theorem rising_eq : ∀ {a b : List Int}, a.Pairwise (· < ·) → b.Pairwise (· < ·) → (∀ x, x ∈ a ↔ x ∈ b) → a = b
  | [], [], _, _, _ => rfl
  | [], y :: b, _, _, h => absurd ((h y).2 (by simp)) (by simp)
  | x :: a, [], _, _, h => absurd ((h x).1 (by simp)) (by simp)
  | x :: a, y :: b, ha, hb, h => by
    have ha' := List.pairwise_cons.1 ha
    have hb' := List.pairwise_cons.1 hb
    have hxy : x = y := by
      have h1 := (h x).1 (by simp)
      have h2 := (h y).2 (by simp)
      rw [List.mem_cons] at h1 h2
      rcases h1 with e | h1
      · exact e
      · rcases h2 with e | h2
        · exact e.symm
        · have := hb'.1 x h1
          have := ha'.1 y h2
          omega
    subst hxy
    congr 1
    refine rising_eq ha'.2 hb'.2 (fun z => ?_)
    constructor
    · intro hz
      have := (h z).1 (by simp [hz])
      rw [List.mem_cons] at this
      rcases this with e | h1
      · subst e; have := ha'.1 z hz; omega
      · exact h1
    · intro hz
      have := (h z).2 (by simp [hz])
      rw [List.mem_cons] at this
      rcases this with e | h1
      · subst e; have := hb'.1 z hz; omega
      · exact h1
end Go.Proofs.Ytondngpmhlemkaa.Sets

/- A range over a function: one law for the caller, one word for an iterator's contract. Each party owns blocks: the caller those of O (which may grow by new ones), the iterator others; what neither owns stays as it is. -/
namespace Go.Proofs.Ytondngpmhlemkaa.Iter
open Go.RowKit
set_option linter.unusedVariables false
structure Chg (S : Nat → Prop) (W W' : World) : Prop where
  os : W'.os = W.os
  tape : W'.tape = W.tape
  output : W'.output = W.output
  size : W.heap.size ≤ W'.heap.size
  block : ∀ k, k < W.heap.size → ¬ S k → W'.heap[k]? = W.heap[k]?
theorem Chg.refl (S : Nat → Prop) (W : World) : Chg S W W := ⟨rfl, rfl, rfl, Nat.le_refl _, fun _ _ _ => rfl⟩
theorem Chg.mono {S T : Nat → Prop} {W W' : World} (h : Chg S W W') (hs : ∀ k, k < W.heap.size → S k → T k) : Chg T W W' :=
  ⟨h.os, h.tape, h.output, h.size, fun k hk hn => h.block k hk (fun hS => hn (hs k hk hS))⟩
theorem Chg.trans {S T : Nat → Prop} {A B C : World} (h : Chg S A B) (k : Chg T B C) (hT : ∀ i, T i → S i ∨ A.heap.size ≤ i) : Chg S A C :=
  ⟨k.os.trans h.os, k.tape.trans h.tape, k.output.trans h.output, Nat.le_trans h.size k.size, fun i hi hn =>
    (k.block i (Nat.lt_of_lt_of_le hi h.size) (fun hTi => (hT i hTi).elim hn (fun h' => by omega))).trans (h.block i hi hn)⟩
theorem Chg.then_ {S : Nat → Prop} {A B C : World} (h : Chg S A B) (k : Chg S B C) : Chg S A C := h.trans k (fun _ hi => .inl hi)
theorem Chg.alloc {S : Nat → Prop} {A B : World} (h : Chg S A B) (o : Obj) : Chg S A (B.alloc o) :=
  h.then_ ⟨rfl, rfl, rfl, by simp, fun k hk _ => Below.heap_alloc _ _ _ hk⟩
theorem Chg.drew {S : Nat → Prop} {A B : World} (h : Chg S A B) : Chg S A B.drew := ⟨h.os, h.tape, h.output, h.size, h.block⟩
theorem Chg.setCell {S : Nat → Prop} {A B : World} (h : Chg S A B) {p : Addr} (hp : S p.block ∨ A.heap.size ≤ p.block) (u : Value) : Chg S A (B.setCell p u) :=
  h.trans (T := fun k => k = p.block) ⟨rfl, rfl, rfl, by simp [World.setCell], fun k _ hn => Below.heap_setCell _ _ _ _ hn⟩ (fun k hk => by rw [hk]; exact hp)
theorem Chg.putObj {S : Nat → Prop} {A B : World} (h : Chg S A B) {l : Nat} (hl : S l ∨ A.heap.size ≤ l) (o : Obj) : Chg S A (B.putObj l o) :=
  h.trans (T := fun k => k = l) ⟨rfl, rfl, rfl, by simp, fun k _ hn => World.putObj_heap_other hn⟩ (fun k hk => by rw [hk]; exact hl)
theorem Chg.put1 (A : World) (l : Nat) (o : Obj) : Chg (fun i => i = l) A (A.putObj l o) := (Chg.refl (fun i => i = l) A).putObj (.inl rfl) o
theorem Chg.grown {S : Nat → Prop} {A B C : World} {row : Option Nat} (h : Chg S A B) (hg : B.grownBy C row) (hr : ∀ k, row = some k → S k ∨ A.heap.size ≤ k) : Chg S A C :=
  h.trans (T := fun k => row = some k) ⟨hg.os, hg.tape, hg.output, hg.size, fun k hk hn => hg.block k hk (fun e => hn e.symm)⟩ hr
theorem Chg.of_grown {A B : World} {row : Option Nat} (hg : A.grownBy B row) : Chg (fun k => row = some k) A B := ⟨hg.os, hg.tape, hg.output, hg.size, fun k hk hn => hg.block k hk (fun e => hn e.symm)⟩
theorem Chg.of_below {A B : World} (hb : Below A.heap.size A B) (S : Nat → Prop) : Chg S A B := ⟨hb.os, hb.tape, hb.output, hb.size, fun k hk _ => hb.block k hk⟩
theorem Chg.below {A B : World} {S : Nat → Prop} (h : Chg S A B) {n : Nat} (hn : n ≤ A.heap.size) (hS : ∀ k, S k → n ≤ k) : Below n A B :=
  ⟨h.os, h.tape, h.output, h.size, fun k hk => h.block k (by omega) (fun hs => by have := hS k hs; omega)⟩
theorem Chg.blk {S : Nat → Prop} {A B : World} (h : Chg S A B) {k : Nat} {o : Obj} (hk : A.heap[k]? = some o) (hn : ¬ S k) : B.heap[k]? = some o :=
  (h.block k (Array.getElem?_eq_some_iff.1 hk).1 hn).trans hk
theorem Chg.cell {S : Nat → Prop} {A B : World} (h : Chg S A B) {a : Addr} {v : Value} (hc : A.cell? a = some v) (hn : ¬ S a.block) : B.cell? a = some v := by
  have := h.block a.block (World.block_lt_of_cell? A a hc) hn
  simpa [World.cell?, this] using hc
def Abide (B0 : Nat) (J : (Nat → Prop) → World → Prop) : Prop :=
  ∀ (O : Nat → Prop) (A B : World) (T : Nat → Prop), J O A → Chg T A B → (∀ i, T i → B0 ≤ i ∧ ¬ O i) → J O B
def Grow (O : Nat → Prop) (W : World) (O2 : Nat → Prop) (W' : World) : Prop := ∀ i, O2 i → (O i ∨ W.heap.size ≤ i) ∧ i < W'.heap.size
theorem Grow.same {O : Nat → Prop} {W W' : World} (hO : ∀ i, O i → i < W.heap.size) (hs : W.heap.size ≤ W'.heap.size) : Grow O W O W' := fun i hi => ⟨.inl hi, Nat.lt_of_lt_of_le (hO i hi) hs⟩
def IterOK {α : Type} (P : Program) (gf : Nat) (lb : Array Value) (encs : α → Array Value) (xs : List α) (B0 : Nat) (Oi : Nat → Prop) (w : World) : Prop :=
  ∀ (l : Nat) (J : Nat → (Nat → Prop) → World → Prop) (Jx : Nat → (Nat → Prop) → World → Prop) (O : Nat → Prop) (W : World),
    Chg (fun i => O i ∧ w.heap.size ≤ i) w W → (∀ i, O i → ¬ Oi i ∧ B0 ≤ i ∧ i < W.heap.size) → (∀ k, Abide B0 (J k)) → (∀ k, Abide B0 (Jx k)) →
    (∀ k (x : α) (O1 : Nat → Prop) (W1 : World), xs[k]? = some x → J k O1 W1 → (∀ i, O1 i → i < W1.heap.size) → YieldAt Fence.wide 0 P l (encs x) W1 fun e W' =>
      (e = .returned (.bool true) ∧ (∃ O2 : Nat → Prop, Grow O1 W1 O2 W' ∧ J (k + 1) O2 W') ∧ Chg O1 W1 W') ∨ (e = .returned (.bool false) ∧ (∃ O2 : Nat → Prop, Grow O1 W1 O2 W' ∧ Jx k O2 W') ∧ Chg O1 W1 W')) →
    J 0 O W →
    Calls P gf (#[.func (.yield l) #[] #[]] ++ lb) W fun e W' => (∃ v, e = .returned v) ∧ ((∃ O2, J xs.length O2 W') ∨ (∃ k O2, k < xs.length ∧ Jx k O2 W'))
def rPost (I : Nat → (Nat → Prop) → World → Prop) (Ix : Code → Nat → (Nat → Prop) → World → Prop) (k : Nat) (O : Nat → Prop) (W : World) : Exit → Act → World → Prop
  | .normal, _, W' => Chg O W W' ∧ ∃ O2 : Nat → Prop, Grow O W O2 W' ∧ I (k + 1) O2 W'
  | .ret, _, W' => Chg O W W' ∧ ∃ O2 : Nat → Prop, Grow O W O2 W' ∧ Ix .ret k O2 W'
  | .exit id, _, W' => Chg O W W' ∧ ∃ O2 : Nat → Prop, Grow O W O2 W' ∧ Ix (.exit id) k O2 W'
  | .goto t, _, W' => Chg O W W' ∧ ∃ O2 : Nat → Prop, Grow O W O2 W' ∧ Ix (.goto t) k O2 W'
  | .panic _, _, _ => False
  | .outgrown, _, _ => False
variable {P : Program}
theorem wp_rangeFunc_own {α : Type} {g : Operand} {ps : Array Tmp} {assign body : Code} {Q : Exit → Act → World → Prop} {a : Act} {w : World} {gf : Nat} {lb : Array Value}
    (hg : a.eval g = .func (.func gf) #[] lb) (eg : ∀ args w, (callFunc gf args).run P w = .ok (.enter gf args) w)
    {encs : α → Array Value} {xs : List α} {B0 : Nat} {Oi : Nat → Prop} {w0 : World} (hit : IterOK P gf lb encs xs B0 Oi w0) (hps : ∀ x, (encs x).size = ps.size)
    (O : Nat → Prop) (hB0 : B0 ≤ w.heap.size) (hO : ∀ i, O i → B0 ≤ i ∧ i < w.heap.size ∧ ¬ Oi i) (hOi : ∀ i, Oi i → i < w.heap.size) (hw0 : Chg (fun i => O i ∧ w0.heap.size ≤ i) w0 w)
    (I : Nat → (Nat → Prop) → World → Prop) (Ix : Code → Nat → (Nat → Prop) → World → Prop) (Ax : α → (Nat → Prop) → Act → World → Prop)
    (hI : ∀ k, Abide B0 (I k)) (hAx : ∀ x a', Abide B0 (fun O W => Ax x O a' W)) (hIx : ∀ c k, Abide B0 (Ix c k))
    (h0 : I 0 O w)
    (hassign : ∀ (l k : Nat) (x : α) (O1 : Nat → Prop) (W : World) (K : Act → World → Prop), xs[k]? = some x → I k O1 W →
      (∀ i, O1 i → i < W.heap.size) → (∀ a' W' (O2 : Nat → Prop), Chg O1 W W' → Grow O1 W O2 W' → I k O2 W' → Ax x O2 a' W' → K a' W') →
      assign.wpIn (Fence.wide.inRound l) 0 P (Exit.then K (fun _ _ _ => False)) { tmps := (ps.zip (encs x)).foldl (fun t (p, v) => t.setIfInBounds p v) a.tmps, defers := [] } W)
    (hbody : ∀ (l k : Nat) (x : α) (O1 : Nat → Prop) (a' : Act) (W : World), xs[k]? = some x → (∀ i, O1 i → i < W.heap.size) → w.heap.size ≤ l → ¬ O1 l → (∃ r, W.heap[l]? = some (.loop r)) → I k O1 W → Ax x O1 a' W → body.wpIn (Fence.wide.inRound l) 0 P (rPost I Ix k O1 W) a' W)
    (hdone : ∀ (D : Nat) (O1 : Nat → Prop) (W : World), w.heap.size ≤ D → ¬ O1 D → I xs.length O1 W → W.heap[D]? = some (.deferred (some [])) → Q .normal { a with defers := { target := .collected D, args := #[] } :: a.defers } W)
    (hstop : ∀ (D k : Nat) (c : Code) (O1 : Nat → Prop) (W : World), w.heap.size ≤ D → ¬ O1 D → k < xs.length → Ix c k O1 W → W.heap[D]? = some (.deferred (some [])) → c.wpIn Fence.wide 0 P Q { a with defers := { target := .collected D, args := #[] } :: a.defers } W) :
    (Code.rangeFunc g ps assign body).wpIn Fence.wide 0 P Q a w := by
  refine wpIn_rangeFunc ?_
  intro fn hfn
  have hro : Fence.wide.round = none := rfl
  rw [hro]
  obtain ⟨rec, hrec⟩ : ∃ rec : LoopState → Option Code → Loop, rec = fun st pe => { state := st, pending := pe, fn, tmps := a.tmps, params := ps, assign, body, defers := w.heap.size } := ⟨_, rfl⟩
  obtain ⟨W1, hW1⟩ : ∃ W1, (w.alloc (.deferred (some []))).alloc (.loop (rec .ready none)) = W1 := ⟨_, rfl⟩
  have hL1 : W1.heap[w.heap.size + 1]? = some (.loop (rec .ready none)) := by
    rw [← hW1]; have := World.alloc_heap_new (w.alloc (.deferred (some []))) (.loop (rec .ready none)); rwa [World.size_alloc] at this
  have hK1 : W1.heap[w.heap.size]? = some (.deferred (some [])) := by
    rw [← hW1]; exact (Below.heap_alloc _ _ _ (by simp)).trans (World.alloc_heap_new w _)
  have hcw : Chg (fun _ => False) w W1 := by rw [← hW1]; exact ((Chg.refl _ w).alloc _).alloc _
  have hI1 : I 0 O W1 := hI 0 O w W1 _ h0 hcw (fun i hi => hi.elim)
  -- the caller's blocks, the loop's record, the block for the rounds' deferred calls
  let OO : (Nat → Prop) → Nat → Prop := fun O1 i => O1 i ∨ i = w.heap.size ∨ i = w.heap.size + 1
  refine ⟨w.heap.size + 1, [{ target := .collected w.heap.size, args := #[] }], W1, { target := .fn (.func gf) lb, args := #[.func (.yield (w.heap.size + 1)) #[] #[]] }, W1, gf,
    #[.func (.yield (w.heap.size + 1)) #[] #[]] ++ lb, W1, ?_, ?_, ?_, ?_, (fun h => by cases h), ?_⟩
  · rw [← hW1, hrec]; exact run_enterLoop_outer _ _ _ _ _
  · simp only [resolve, hg]
    simp [go_sem]
  · intro f' hf'; trivial
  · simp [invoke, go_sem, eg]
  · refine callsIn_wide.2 ?_
    refine (hit (w.heap.size + 1)
      (fun k O2 W => ∃ O1 : Nat → Prop, (∀ i, O2 i ↔ OO O1 i) ∧ ¬ O1 w.heap.size ∧ ¬ O1 (w.heap.size + 1) ∧ I k O1 W ∧ W.heap[w.heap.size + 1]? = some (.loop (rec .ready none)) ∧ W.heap[w.heap.size]? = some (.deferred (some [])))
      (fun k O2 W => ∃ O1 : Nat → Prop, (∀ i, O2 i ↔ OO O1 i) ∧ ¬ O1 w.heap.size ∧ ¬ O1 (w.heap.size + 1) ∧ ∃ c, Ix c k O1 W ∧ W.heap[w.heap.size + 1]? = some (.loop (rec .done (some c))) ∧ W.heap[w.heap.size]? = some (.deferred (some [])))
      (OO O) W1 ?_ ?_ ?_ ?_ ?_ ?_).mono ?_
    · refine (hw0.mono (fun k hk hs => ⟨.inl hs.1, hs.2⟩)).trans hcw (fun i hi => hi.elim)
    · intro i hi
      rcases hi with hi | hi | hi
      · exact ⟨(hO i hi).2.2, (hO i hi).1, Nat.lt_of_lt_of_le (hO i hi).2.1 hcw.size⟩
      · exact ⟨fun h => by have := hOi i h; omega, by omega, by rw [hi]; exact (Array.getElem?_eq_some_iff.1 hK1).1⟩
      · exact ⟨fun h => by have := hOi i h; omega, by omega, by rw [hi]; exact (Array.getElem?_eq_some_iff.1 hL1).1⟩
    · -- all of it abides the iterator's own steps
      intro k O2 A B T hs hc hT
      obtain ⟨O1, hO1, hn1, hn2, hi, hl, hk⟩ := hs
      have hT1 : ∀ i, T i → B0 ≤ i ∧ ¬ O1 i := fun i h => ⟨(hT i h).1, fun h1 => (hT i h).2 ((hO1 i).2 (.inl h1))⟩
      refine ⟨O1, hO1, hn1, hn2, hI k O1 A B T hi hc hT1, hc.blk hl (fun h => (hT _ h).2 ((hO1 _).2 (.inr (.inr rfl)))), hc.blk hk (fun h => (hT _ h).2 ((hO1 _).2 (.inr (.inl rfl))))⟩
    · intro k O2 A B T hs hc hT
      obtain ⟨O1, hO1, hn1, hn2, c, hi, hl, hk⟩ := hs
      have hT1 : ∀ i, T i → B0 ≤ i ∧ ¬ O1 i := fun i h => ⟨(hT i h).1, fun h1 => (hT i h).2 ((hO1 i).2 (.inl h1))⟩
      refine ⟨O1, hO1, hn1, hn2, c, hIx c k O1 A B T hi hc hT1, hc.blk hl (fun h => (hT _ h).2 ((hO1 _).2 (.inr (.inr rfl)))), hc.blk hk (fun h => (hT _ h).2 ((hO1 _).2 (.inr (.inl rfl))))⟩
    · -- ONE ROUND
      rintro k x O2 W hx ⟨O1, hO1, hn1, hn2, hi, hl, hk⟩ hb2
      have hb1 : ∀ i, O1 i → i < W.heap.size := fun i h => hb2 i ((hO1 i).2 (.inl h))
      have hlt : w.heap.size + 1 < W.heap.size := (Array.getElem?_eq_some_iff.1 hl).1
      have hy := run_yield (P := P) (args := encs x) hl (by rw [hrec]; exact hps x)
      rw [hrec] at hy
      refine ⟨fn, _, assign, body, hy, roundIn_of_wpIn trivial (hassign _ k x O1 W _ hx hi hb1 ?_)⟩
      clear hy
      intro a' Wa O3 hca hO3 hia hax
      have hl' := hca.blk hl hn2
      have hk' := hca.blk hk hn1
      have hn1' : ¬ O3 w.heap.size := fun h => (hO3 _ h).1.elim hn1 (fun h' => by omega)
      have hn2' : ¬ O3 (w.heap.size + 1) := fun h => (hO3 _ h).1.elim hn2 (fun h' => by omega)
      have hlta : w.heap.size + 1 < Wa.heap.size := (Array.getElem?_eq_some_iff.1 hl').1
      refine ⟨_, run_beginRound hl' (by rw [hrec]), ?_⟩
      obtain ⟨Wb, hWb⟩ : ∃ Wb, Wa.putObj (w.heap.size + 1) (.loop { rec .ready none with state := .busy }) = Wb := ⟨_, rfl⟩
      have hcb : Chg (fun i => i = w.heap.size + 1) Wa Wb := by rw [← hWb]; exact Chg.put1 Wa _ _
      have hl2 : Wb.heap[w.heap.size + 1]? = some (.loop { rec .ready none with state := .busy }) := by rw [← hWb]; exact World.putObj_heap_same hlta
      have hk2 : Wb.heap[w.heap.size]? = some (.deferred (some [])) := hcb.blk hk' (by omega)
      have hTb : ∀ i, i = w.heap.size + 1 → B0 ≤ i ∧ ¬ O3 i := fun i e => by subst e; exact ⟨by omega, hn2'⟩
      have hib : I k O3 Wb := hI k O3 Wa Wb _ hia hcb hTb
      have haxb : Ax x O3 a' Wb := hAx x a' O3 Wa Wb _ hax hcb hTb
      rw [hWb]
      have fin : ∀ (jump : Option Code) (W3 : World), Chg O3 Wb W3 →
          (Instr.endRound (w.heap.size + 1) jump).run P W3 = .ok (.bool jump.isNone) (W3.putObj (w.heap.size + 1) (.loop (rec (if jump.isNone then .ready else .done) jump))) ∧
          w.heap.size + 1 < W3.heap.size ∧
          (W3.putObj (w.heap.size + 1) (.loop (rec (if jump.isNone then .ready else .done) jump))).heap[w.heap.size + 1]? = some (.loop (rec (if jump.isNone then .ready else .done) jump)) ∧
          (W3.putObj (w.heap.size + 1) (.loop (rec (if jump.isNone then .ready else .done) jump))).heap[w.heap.size]? = some (.deferred (some [])) ∧
          Chg O2 W (W3.putObj (w.heap.size + 1) (.loop (rec (if jump.isNone then .ready else .done) jump))) := fun jump W3 hk3 => by
        have hl3 := hk3.blk hl2 hn2'
        have := run_endRound (P := P) jump hl3
        rw [hrec] at this ⊢
        have hlt3 := (Array.getElem?_eq_some_iff.1 hl3).1
        refine ⟨this, hlt3, World.putObj_heap_same hlt3, (World.putObj_heap_other (by omega)).trans (hk3.blk hk2 hn1'), ?_⟩
        have c1 : Chg O2 W Wa := hca.mono (fun i _ h => (hO1 i).2 (.inl h))
        have c2 : Chg O2 W Wb := c1.trans hcb (fun i e => by subst e; exact .inl ((hO1 _).2 (.inr (.inr rfl))))
        have c3 : Chg O2 W W3 := c2.trans hk3 (fun i h => (hO3 i h).1.elim (fun h' => .inl ((hO1 i).2 (.inl h'))) .inr)
        exact c3.putObj (.inl ((hO1 _).2 (.inr (.inr rfl)))) _
      have hb3 : ∀ i, O3 i → i < Wb.heap.size := fun i h => Nat.lt_of_lt_of_le (hO3 i h).2 hcb.size
      refine wpIn_mono (hbody _ k x O3 a' _ hx hb3 (by omega) hn2' ⟨_, hl2⟩ hib haxb) ?_
      have hOO : ∀ (O4 : Nat → Prop) (W3 : World), Chg O3 Wb W3 → Grow O3 Wb O4 W3 → ∀ (o : Obj), (¬ O4 w.heap.size) ∧ (¬ O4 (w.heap.size + 1)) ∧ Grow O2 W (OO O4) (W3.putObj (w.heap.size + 1) o) := by
        intro O4 W3 h3 hO4 o
        have hs1 := hcb.size
        have hs2 := hca.size
        have hs3 := h3.size
        have hs4 : (W3.putObj (w.heap.size + 1) o).heap.size = W3.heap.size := by simp
        refine ⟨fun h => (hO4 _ h).1.elim hn1' (fun h' => by omega), fun h => (hO4 _ h).1.elim hn2' (fun h' => by omega), ?_⟩
        intro i hi
        rw [hs4]
        rcases hi with hi | hi | hi
        · refine ⟨?_, (hO4 i hi).2⟩
          rcases (hO4 i hi).1 with h | h
          · rcases (hO3 i h).1 with h | h
            · exact .inl ((hO1 i).2 (.inl h))
            · exact .inr h
          · exact .inr (by omega)
        · exact ⟨.inl ((hO1 i).2 (.inr (.inl hi))), by omega⟩
        · exact ⟨.inl ((hO1 i).2 (.inr (.inr hi))), by omega⟩
      have jmp : ∀ (c : Code) (W3 : World) (O4 : Nat → Prop), Chg O3 Wb W3 → Grow O3 Wb O4 W3 → Ix c k O4 W3 → ∃ (r : Value) (w'' : World), (Instr.endRound (w.heap.size + 1) (some c)).run P W3 = .ok r w'' ∧
          ((Ending.returned r = .returned (.bool true) ∧ (∃ O2' : Nat → Prop, Grow O2 W O2' w'' ∧ ∃ O1 : Nat → Prop, (∀ i, O2' i ↔ OO O1 i) ∧ ¬ O1 w.heap.size ∧ ¬ O1 (w.heap.size + 1) ∧ I (k + 1) O1 w'' ∧ w''.heap[w.heap.size + 1]? = some (.loop (rec .ready none)) ∧ w''.heap[w.heap.size]? = some (.deferred (some []))) ∧ Chg O2 W w'') ∨
           (Ending.returned r = .returned (.bool false) ∧ (∃ O2' : Nat → Prop, Grow O2 W O2' w'' ∧ ∃ O1 : Nat → Prop, (∀ i, O2' i ↔ OO O1 i) ∧ ¬ O1 w.heap.size ∧ ¬ O1 (w.heap.size + 1) ∧ ∃ c, Ix c k O1 w'' ∧ w''.heap[w.heap.size + 1]? = some (.loop (rec .done (some c))) ∧ w''.heap[w.heap.size]? = some (.deferred (some []))) ∧ Chg O2 W w'')) := by
        intro c W3 O4 hk3 hO4 hi3
        obtain ⟨hr, hlt3, hl4, hk4, hc4⟩ := fin (some c) W3 hk3
        obtain ⟨h1, h2, h3⟩ := hOO O4 W3 hk3 hO4 _
        exact ⟨_, _, hr, .inr ⟨rfl, ⟨OO O4, h3, O4, fun _ => Iff.rfl, h1, h2, c, hIx c k O4 W3 _ (fun i => i = w.heap.size + 1) hi3 (Chg.put1 _ _ _) (fun i e => by subst e; exact ⟨by omega, h2⟩), hl4, hk4⟩, hc4⟩⟩
      rintro e a3 W3 hp
      cases e with
      | normal =>
        obtain ⟨hk3, O4, hO4, hi4⟩ := hp
        obtain ⟨hr, hlt3, hl4, hk4, hc4⟩ := fin none W3 hk3
        obtain ⟨h1, h2, h3⟩ := hOO O4 W3 hk3 hO4 _
        exact ⟨_, _, hr, .inl ⟨rfl, ⟨OO O4, h3, O4, fun _ => Iff.rfl, h1, h2, hI (k + 1) O4 W3 _ (fun i => i = w.heap.size + 1) hi4 (Chg.put1 _ _ _) (fun i e => by subst e; exact ⟨by omega, h2⟩), hl4, hk4⟩, hc4⟩⟩
      | ret =>
        obtain ⟨hk3, O4, hO4, hi4⟩ := hp
        exact jmp .ret W3 O4 hk3 hO4 hi4
      | exit id =>
        obtain ⟨hk3, O4, hO4, hi4⟩ := hp
        exact jmp (.exit id) W3 O4 hk3 hO4 hi4
      | goto t =>
        obtain ⟨hk3, O4, hO4, hi4⟩ := hp
        exact jmp (.goto t) W3 O4 hk3 hO4 hi4
      | panic ch => exact hp.elim
      | outgrown => exact hp.elim
    · exact ⟨O, fun _ => Iff.rfl, fun h => by have := (hO _ h).2.1; omega, fun h => by have := (hO _ h).2.1; omega, hI1, hL1, hK1⟩
    · -- BEHIND THE ITERATOR
      rintro e W2 ⟨⟨v, rfl⟩, (⟨O2, O1, hO1, hn1, hn2, hi, hl, hk⟩ | ⟨k, O2, hlen, O1, hO1, hn1, hn2, c, hi, hl, hk⟩)⟩
      · refine ⟨none, _, by have := run_endLoop (P := P) hl (by rw [hrec]; simp); rw [hrec] at this; exact this, hdone _ O1 _ (Nat.le_refl _) hn1 (hI _ O1 W2 _ (fun i => i = w.heap.size + 1) hi (Chg.put1 _ _ _) (fun i e => by subst e; exact ⟨by omega, hn2⟩)) ((World.putObj_heap_other (by omega)).trans hk)⟩
      · exact ⟨some c, _, by have := run_endLoop (P := P) hl (by rw [hrec]; simp); rw [hrec] at this; exact this, hstop _ k c O1 _ (Nat.le_refl _) hn1 hlen (hIx c k O1 W2 _ (fun i => i = w.heap.size + 1) hi (Chg.put1 _ _ _) (fun i e => by subst e; exact ⟨by omega, hn2⟩)) ((World.putObj_heap_other (by omega)).trans hk)⟩
theorem wp_rangeFunc_go {α : Type} {g : Operand} {ps : Array Tmp} {assign body : Code} {Q : Exit → Act → World → Prop} {a : Act} {w : World} {gf : Nat} {lb : Array Value}
    (hg : a.eval g = .func (.func gf) #[] lb) (eg : ∀ args w, (callFunc gf args).run P w = .ok (.enter gf args) w)
    {encs : α → Array Value} {xs : List α} {B0 : Nat} {Oi : Nat → Prop} {w0 : World} (hit : IterOK P gf lb encs xs B0 Oi w0) (hps : ∀ x, (encs x).size = ps.size)
    (O : Nat → Prop) (hB0 : B0 ≤ w.heap.size) (hO : ∀ i, O i → B0 ≤ i ∧ i < w.heap.size ∧ ¬ Oi i) (hOi : ∀ i, Oi i → i < w.heap.size) (hw0 : Chg (fun i => O i ∧ w0.heap.size ≤ i) w0 w)
    (I : Nat → (Nat → Prop) → World → Prop) (Ix : Code → Nat → (Nat → Prop) → World → Prop)
    (hI : ∀ k, Abide B0 (I k)) (hIx : ∀ c k, Abide B0 (Ix c k))
    (h0 : I 0 O w)
    (hround : ∀ (l0 k : Nat) (x : α) (O1 : Nat → Prop) (W : World) (K : Act → World → Prop), xs[k]? = some x → I k O1 W →
      (∀ i, O1 i → i < W.heap.size) → (∀ a' W' (O2 : Nat → Prop), Chg O1 W W' → Grow O1 W O2 W' → I k O2 W' →
        (∀ (l : Nat) (T : Nat → Prop) (Wb : World), Chg T W' Wb → (∀ i, T i → B0 ≤ i ∧ ¬ O2 i) → (∀ i, O2 i → i < Wb.heap.size) → w.heap.size ≤ l → ¬ O2 l → (∃ r, Wb.heap[l]? = some (.loop r)) → I k O2 Wb → body.wpIn (Fence.wide.inRound l) 0 P (rPost I Ix k O2 Wb) a' Wb) → K a' W') →
      assign.wpIn (Fence.wide.inRound l0) 0 P (Exit.then K (fun _ _ _ => False)) { tmps := (ps.zip (encs x)).foldl (fun t (p, v) => t.setIfInBounds p v) a.tmps, defers := [] } W)
    (hdone : ∀ (D : Nat) (O1 : Nat → Prop) (W : World), w.heap.size ≤ D → ¬ O1 D → I xs.length O1 W → W.heap[D]? = some (.deferred (some [])) → Q .normal { a with defers := { target := .collected D, args := #[] } :: a.defers } W)
    (hstop : ∀ (D k : Nat) (c : Code) (O1 : Nat → Prop) (W : World), w.heap.size ≤ D → ¬ O1 D → k < xs.length → Ix c k O1 W → W.heap[D]? = some (.deferred (some [])) → c.wpIn Fence.wide 0 P Q { a with defers := { target := .collected D, args := #[] } :: a.defers } W) :
    (Code.rangeFunc g ps assign body).wpIn Fence.wide 0 P Q a w :=
  wp_rangeFunc_own (α := Nat × α) (encs := fun x => encs x.2) (xs := (List.range xs.length).zip xs) hg eg
    (by
      have hz : ∀ (k : Nat) (x : Nat × α), ((List.range xs.length).zip xs)[k]? = some x ↔ xs[k]? = some x.2 ∧ x.1 = k := by
        intro k x
        rw [List.getElem?_zip_eq_some]
        constructor
        · rintro ⟨h1, h2⟩
          have hk := (List.getElem?_eq_some_iff.1 h2).1
          rw [List.getElem?_range hk] at h1
          exact ⟨h2, (Option.some.inj h1).symm⟩
        · rintro ⟨h2, rfl⟩
          have hk := (List.getElem?_eq_some_iff.1 h2).1
          exact ⟨List.getElem?_range hk, h2⟩
      have hl : ((List.range xs.length).zip xs).length = xs.length := by simp
      intro l J Jx O W h1 h2 h3 h4 h5 h6
      rw [hl]
      exact hit l J Jx O W h1 h2 h3 h4 (fun k x O1 W1 hx hj hb => h5 k (k, x) O1 W1 ((hz k (k, x)).2 ⟨hx, rfl⟩) hj hb) h6)
    (fun x => hps x.2) O hB0 hO hOi hw0 I Ix
    (fun x O1 a' W => ∀ (l : Nat) (T : Nat → Prop) (Wb : World), Chg T W Wb → (∀ i, T i → B0 ≤ i ∧ ¬ O1 i) → (∀ i, O1 i → i < Wb.heap.size) → w.heap.size ≤ l → ¬ O1 l → (∃ r, Wb.heap[l]? = some (.loop r)) → I x.1 O1 Wb → body.wpIn (Fence.wide.inRound l) 0 P (rPost I Ix x.1 O1 Wb) a' Wb)
    hI
    (fun x a' O1 A B T h hc hT l T' Wb hc' hT' => h l (fun i => T i ∨ T' i) Wb ((hc.mono (fun _ _ h => .inl h)).trans (hc'.mono (fun _ _ h => .inr h)) (fun i hi => .inl hi)) (fun i hi => hi.elim (hT i) (hT' i)))
    hIx h0
    (fun l k x O1 W K hx hi hb hK => by
      have hk := hx
      rw [List.getElem?_zip_eq_some] at hk
      obtain ⟨hk1, hk2⟩ := hk
      have hlt := (List.getElem?_eq_some_iff.1 hk2).1
      rw [List.getElem?_range hlt] at hk1
      have hkx := Option.some.inj hk1
      exact hround l k x.2 O1 W K hk2 hi hb (fun a' W' O2 hc hO2 hi2 hb => hK a' W' O2 hc hO2 hi2 (by rw [← hkx]; exact hb)))
    (fun l k x O1 a' W hx hb hl hnl hrec hi hax => by
      have hk := hx
      rw [List.getElem?_zip_eq_some] at hk
      obtain ⟨hk1, hk2⟩ := hk
      have hlt := (List.getElem?_eq_some_iff.1 hk2).1
      rw [List.getElem?_range hlt] at hk1
      have hkx := Option.some.inj hk1
      have := hax l (fun _ => False) W (Chg.refl _ _) (fun _ h => h.elim) hb hl hnl hrec (by rw [← hkx]; exact hi)
      rwa [← hkx] at this)
    (fun D O1 W hD hn hi hK => hdone D O1 W hD hn (by simpa using hi) hK)
    (fun D k c O1 W hD hn hk hi hK => hstop D k c O1 W hD hn (by simpa using hk) hi hK)
end Go.Proofs.Ytondngpmhlemkaa.Iter

/- Rows of whole numbers of a call's own: sorted, each once, longer by one; small facts on worlds. No condition. -/
namespace Go.Proofs.Ytondngpmhlemkaa.Ext
open Go.RowKit Go.Proofs.YtondngpmhlemkaaW.PrintWords Go.Proofs.YtondngpmhlemkaaW.PrintLast Go.Proofs.YtondngpmhlemkaaW.PrintMore Go.Proofs.Ytondngpmhlemkaa.Sets Go.Proofs.Ytondngpmhlemkaa.Iter
set_option linter.unusedVariables false
set_option linter.unusedSimpArgs false
attribute [local go_sem] Oper.semAt_some
abbrev OwnI (W : World) (base : Nat) (v : Value) (xs : List Int) : Prop := Kd.R (Kd.int .i64) 3 W base (fun _ => True) v xs
theorem infoI : (Try.prog.info? 3).map (fun i => (i.zero, i.size, i.bytes)) = some (some (.int .i64 0), 1, 8) := by kernel_rfl
theorem own_slice3 {w : World} {base : Nat} {v : Value} {xs : List Int} (h : OwnI w base v xs) : ∃ A c, v = .slice A xs.length c ∧ xs.length ≤ c ∧ c ≤ 9223372036854775807 := by
  have ho := Kd.own_of_R h
  rcases ho.2 with ⟨rfl, h0⟩ | ⟨g, cap, cur, rfl, _, _, h1, h2, _⟩
  · exact ⟨none, 0, by rw [h0], by omega, by omega⟩
  · exact ⟨_, cap, rfl, h1, h2⟩
/-! ### slices.Sort and slices.Compact on what the call owns -/
theorem sort_own (v : Value) (xs : List Int) (base : Nat) (w : World) (h : OwnI w base v xs) (hl : xs.length < 4611686018427387904) :
    Calls Try.prog 54 #[v] w fun e w' => e = .returned (.tuple #[]) ∧ OwnI w' base v (xs.mergeSort fun x y => decide (x ≤ y)) ∧ w.grownBy w' v.ownBlock := by
  have ho := Kd.own_of_R h
  rcases ho.2 with ⟨rfl, h0⟩ | ⟨g, cap, cur, rfl, hb, hg, h1, h2, h3, h4⟩
  · obtain rfl : xs = [] := List.eq_nil_of_length_eq_zero h0
    refine (Try.slices_Sort_int_none none 0 w).mono ?_
    rintro e w' ⟨rfl, rfl⟩
    exact ⟨rfl, by simpa using h, World.grownBy.refl _ _⟩
  · have hH : Sort.Holds (Value.int .i64) w g 0 xs.toArray := holds_of_blockI hg (by rw [Nat.mul_one] at h4; exact h4)
    refine (Try.slices_Sort_int g 0 cap xs w hH (Array.getElem?_eq_some_iff.1 hg).1 hl).mono ?_
    rintro e w' ⟨rfl, n, os, rfl⟩
    have hlen : (xs.mergeSort fun x y => decide (x ≤ y)).length = xs.length := List.length_mergeSort _
    have hs := ownsRow_sortedI (w := w) (n := n) (os := os) (ss := xs) (ts := xs.mergeSort fun x y => decide (x ≤ y)) hlen hb hg h1 h2 h3
    refine ⟨rfl, Kd.R_of_own ?_ (fun _ _ => trivial), grownBy_sortedI _⟩
    rw [hlen]
    exact hs
theorem own_base_lt {w : World} {base : Nat} {v : Value} {xs : List Int} (h : OwnI w base v xs) (k : Nat) (hk : v.ownBlock = some k) : base ≤ k := own_base (Kd.own_of_R h) k hk
theorem append1_in {F : Fence} {m : Nat} {ops : Array Oper} {rest : List Oper} {o : Oper} {act : Act} {Q : Exit → Act → World → Prop} {W : World} (base : Nat) (hgd : o.guard = none) (s x : Operand)
    (ho : o.op = .call { callee := .builtin .append, args := #[s, x], argTypes := #[27, 27] })
    (v : Value) (xs : List Int) (y : Int) (gb : Nat) (hs : act.eval s = v) (hx : act.eval x = .slice (some ⟨gb, 0, none⟩) 1 1) (hy : W.cell? ⟨gb, 0, none⟩ = some (.int .i64 y)) (HO : OwnI W base v xs) (hbase : base ≤ W.heap.size) (hl : xs.length < 17592186044416)
    (h : ∀ v1 w1, OwnI w1 base v1 (xs ++ [y]) → W.grownBy w1 v.ownBlock → (v1.ownBlock = v.ownBlock ∨ v1.ownBlock = some W.heap.size) → (∃ g n c, v1 = .slice (some ⟨g, 0, none⟩) n c) → wpListIn F m Try.prog ops Q rest (act.put o.dst v1) w1) :
    wpListIn F m Try.prog ops Q (o :: rest) act W := by
  obtain ⟨i0, hi, hz0, hz1, hz2⟩ := info_parts infoI
  refine wpListIn_append_own_at W hgd s x 27 ho base 3 i0 (.int .i64 0) 1 8 Try.underlying27 hi hz0 hz1 hz2 rfl (by decide) v xs.length _ hs (Kd.own_of_R HO) ⟨gb, 0, none⟩ 1 1 [.int .i64 y] hx rfl (fun j u hj => ?_) (by simp [Value.oneCell']) (by simp only [maxLen]; omega) (by omega) hbase ?_
  · match j, hj with
    | 0, hj => obtain rfl : Value.int .i64 y = u := by simpa using hj
               simpa [Addr.add] using hy
    | j + 1, hj => simp at hj
  intro v1 w1 hown hg hnil hat
  have hown' : w1.ownsRow base 3 1 v1 (xs ++ [y]).length (encs (Value.int .i64) (xs ++ [y])) := by simpa [encs] using hown
  refine h v1 w1 (Kd.R_of_own hown' (fun _ _ => trivial)) hg hat ?_
  rcases hown'.2 with ⟨_, h0⟩ | ⟨g, cap, cur, e, _⟩
  · simp at h0
  · exact ⟨g, _, cap, e⟩
theorem own_chg {W W' : World} {base : Nat} {v : Value} {xs : List Int} {T : Nat → Prop} (h : OwnI W base v xs) (hc : Chg T W W') (hn : ∀ k, v.ownBlock = some k → ¬ T k) : OwnI W' base v xs :=
  Kd.R_of_own (own_move (Kd.own_of_R h) (fun k hk => hc.block k (own_lt (Kd.own_of_R h) k hk) (hn k hk))) (fun _ _ => trivial)
theorem frozen_chg {W W' : World} {T : Nat → Prop} (hc : Chg T W W') {a : Addr} (hlt : a.block < W.heap.size) (hn : ¬ T a.block) : W'.frozen? a = W.frozen? a := by
  have := hc.block a.block hlt hn
  simp only [World.frozen?, this]
theorem alloc_at (w : World) (o : Obj) (k : Nat) : (w.alloc o).heap[k]? = if k = w.heap.size then some o else w.heap[k]? := by
  show (w.heap.push o)[k]? = _
  rw [Array.getElem?_push]
theorem cell_of_blk {W : World} {g : Nat} {v : Value} {t : TypeId} (h : W.heap[g]? = some (.cells #[v] t (0, 0))) : W.cell? ⟨g, 0, none⟩ = some v ∧ W.frozen? ⟨g, 0, none⟩ = false := by
  constructor <;> simp [World.cell?, World.frozen?, h]
end Go.Proofs.Ytondngpmhlemkaa.Ext

/- slices.AppendSeq of nil, Collect, Sorted over an iterator of whole numbers. No condition. -/
namespace Go.Proofs.Ytondngpmhlemkaa.Ext
open Go.RowKit Go.Proofs.YtondngpmhlemkaaW.PrintWords Go.Proofs.YtondngpmhlemkaaW.PrintLast Go.Proofs.YtondngpmhlemkaaW.PrintMore Go.Proofs.Ytondngpmhlemkaa.Sets Go.Proofs.Ytondngpmhlemkaa.Iter
set_option linter.unusedVariables false
set_option linter.unusedSimpArgs false
attribute [local go_sem] Oper.semAt_some
def encI (x : Int) : Array Value := #[.int .i64 x]
structure BoxRow (W : World) (base b : Nat) (xs : List Int) (O : Nat → Prop) : Prop where
  out : ∃ v, W.cell? ⟨b, 0, none⟩ = some v ∧ OwnI W base v xs ∧ ∀ i, v.ownBlock = some i → O i ∧ i ≠ b
  free : W.frozen? ⟨b, 0, none⟩ = false
  lt : b < W.heap.size
  own : O b
theorem BoxRow.chg {A B : World} {base b : Nat} {xs : List Int} {O T : Nat → Prop} (h : BoxRow A base b xs O) (hc : Chg T A B) (hT : ∀ i, T i → ¬ O i) : BoxRow B base b xs O := by
  obtain ⟨v, h1, h2, h3⟩ := h.out
  refine ⟨⟨v, hc.cell h1 (fun ht => hT _ ht h.own), own_chg h2 hc (fun i hi ht => hT i ht (h3 i hi).1), h3⟩, ?_, Nat.lt_of_lt_of_le h.lt hc.size, h.own⟩
  rw [frozen_chg hc h.lt (fun ht => hT _ ht h.own)]
  exact h.free
theorem BoxRow.fresh (W : World) (base : Nat) (t : TypeId) (O : Nat → Prop) (hO : O W.heap.size) : BoxRow (W.alloc (.cells #[.slice none 0 0] t)) base W.heap.size [] O := by
  have hn := heap_alloc_new W (.cells #[.slice none 0 0] t)
  exact ⟨⟨_, (cell_of_blk hn).1, Kd.R_nil _ _ _ _ _, fun i hi => by simp [Value.ownBlock] at hi⟩, (cell_of_blk hn).2, by simp, hO⟩
theorem BoxRow.step {W w1 : World} {base b : Nat} {xs : List Int} {O : Nat → Prop} (h : BoxRow W base b xs O) {v : Value} (hv : W.cell? ⟨b, 0, none⟩ = some v) (hv3 : ∀ i, v.ownBlock = some i → O i ∧ i ≠ b) (o : Obj) (hg : (W.alloc o).grownBy w1 v.ownBlock) :
    w1.cell? ⟨b, 0, none⟩ = some v ∧ w1.frozen? ⟨b, 0, none⟩ = false := by
  have h0 : Chg (fun i => v.ownBlock = some i) W w1 := ((Chg.refl _ W).alloc o).grown hg (fun k hk => .inl hk)
  refine ⟨h0.cell hv (fun h => (hv3 _ h).2 rfl), ?_⟩
  rw [frozen_chg h0 h.lt (fun h => (hv3 _ h).2 rfl)]
  exact h.free
theorem BoxRow.stored {W w1 : World} {base b : Nat} {xs ys : List Int} {O : Nat → Prop} (h : BoxRow W base b xs O) {v v1 : Value} (hv : W.cell? ⟨b, 0, none⟩ = some v) (hv3 : ∀ i, v.ownBlock = some i → O i ∧ i ≠ b) (o : Obj) (hg : (W.alloc o).grownBy w1 v.ownBlock)
    (hO : OwnI w1 base v1 ys) (hat : v1.ownBlock = v.ownBlock ∨ v1.ownBlock = some (W.alloc o).heap.size) (hOb : ∀ i, O i → i < W.heap.size) :
    Chg O W (w1.setCell ⟨b, 0, none⟩ v1) ∧ ∃ O2 : Nat → Prop, Grow O W O2 (w1.setCell ⟨b, 0, none⟩ v1) ∧ (∀ i, O i → O2 i) ∧ BoxRow (w1.setCell ⟨b, 0, none⟩ v1) base b ys O2 := by
  have h0 : Chg (fun i => v.ownBlock = some i) W w1 := ((Chg.refl _ W).alloc o).grown hg (fun k hk => .inl hk)
  obtain ⟨hcell, hfr⟩ := h.step hv hv3 o hg
  have hlt := h.lt
  have hv1 : ∀ i, v1.ownBlock = some i → (O i ∨ W.heap.size ≤ i) ∧ i ≠ b := by
    intro i hi
    rcases hat with e | e
    · rw [e] at hi
      exact ⟨.inl (hv3 i hi).1, (hv3 i hi).2⟩
    · rw [e] at hi
      injection hi with hi
      have : (W.alloc o).heap.size = W.heap.size + 1 := by simp
      exact ⟨.inr (by omega), by omega⟩
  have h1 : Chg (fun i => i = b) w1 (w1.setCell ⟨b, 0, none⟩ v1) := (Chg.refl (fun i => i = b) w1).setCell (p := ⟨b, 0, none⟩) (.inl rfl) v1
  have hc2 : Chg O W (w1.setCell ⟨b, 0, none⟩ v1) := (h0.mono (fun i _ hi => (hv3 i hi).1)).trans h1 (fun i e => by subst e; exact .inl h.own)
  have hl1 := own_lt (Kd.own_of_R hO)
  have hsz : (w1.setCell ⟨b, 0, none⟩ v1).heap.size = w1.heap.size := by simp [World.setCell]
  have hs2 := hc2.size
  exact ⟨hc2, fun i => (O i ∨ W.heap.size ≤ i) ∧ i < (w1.setCell ⟨b, 0, none⟩ v1).heap.size, fun i h => h, fun i h => ⟨.inl h, Nat.lt_of_lt_of_le (hOb i h) hs2⟩, ⟨v1, World.cell?_setCell_same' _ _ _ (by rw [hcell]; rfl), own_chg hO h1 (fun i hi e => (hv1 i hi).2 e), fun i hi => ⟨⟨(hv1 i hi).1, by rw [hsz]; exact hl1 i hi⟩, (hv1 i hi).2⟩⟩, by rw [World.frozen?_setCell]; exact hfr, Nat.lt_of_lt_of_le h.lt hc2.size, ⟨.inl h.own, Nat.lt_of_lt_of_le h.lt hc2.size⟩⟩
structure ApI (w : World) (B0 : Nat) (xs : List Int) (k : Nat) (O : Nat → Prop) (W : World) : Prop where
  bel : Below B0 w W
  row : BoxRow W w.heap.size w.heap.size (xs.take k) O
theorem ApI.abide (w : World) (B0 : Nat) (hB0 : B0 ≤ w.heap.size) (xs : List Int) (k : Nat) : Abide B0 (ApI w B0 xs k) := by
  intro O A B T h hc hT
  exact ⟨h.bel.trans (hc.below (Nat.le_trans hB0 (Nat.le_of_lt h.row.lt)) (fun i hi => (hT i hi).1)), h.row.chg hc (fun i hi => (hT i hi).2)⟩
def CollPost (B0 : Nat) (w : World) (xs : List Int) (e : Ending) (w' : World) : Prop := ∃ v : Value, e = .returned v ∧ OwnI w' w.heap.size v xs ∧ Below B0 w w'
set_option maxHeartbeats 2000000 in
theorem appendSeq_calls {gf : Nat} {lb : Array Value} {xs : List Int} {B0 : Nat} {Oi : Nat → Prop} {w0 w : World} (eg : ∀ args w, (callFunc gf args).run Try.prog w = .ok (.enter gf args) w) (hit : IterOK Try.prog gf lb encI xs B0 Oi w0)
    (hw : Below w0.heap.size w0 w) (hB0 : B0 ≤ w.heap.size) (hOi : ∀ i, Oi i → i < w.heap.size) (hl : xs.length ≤ 17592186044416) :
    Calls Try.prog 66 #[.slice none 0 0, .func (.func gf) #[] lb] w (CollPost B0 w xs) := by
  refine (callsIn_wide (n := 0)).1 ?_
  refine callsIn_of_wp_marks Try.func66 rfl trivial ?_ rfl
  simp only [Try.ntmps66, List.size_toArray, List.length_cons, List.length_nil, Nat.reduceAdd, Nat.reduceSub, Array.replicate_succ, Array.replicate_zero, List.push_toArray, List.append_toArray, List.nil_append, List.cons_append]
  have hdep : Fence.wide.depth = none := rfl
  have hfns : ∀ f, Fence.wide.fn f := fun _ => trivial
  gi_wp2
  have hI0 : ApI w B0 xs 0 (fun i => i = w.heap.size) (w.alloc (.cells #[.slice none 0 0] 27)) := ⟨(Below.refl _ w).alloc hB0 _, BoxRow.fresh w _ _ _ rfl⟩
  have hc0 : Chg (fun i => i = w.heap.size ∧ w0.heap.size ≤ i) w0 (w.alloc (.cells #[.slice none 0 0] 27)) := (Chg.of_below hw _).alloc _
  have hs0 : (w.alloc (.cells #[.slice none 0 0] 27)).heap.size = w.heap.size + 1 := by simp
  generalize w.alloc (.cells #[.slice none 0 0] 27) = W1 at *
  refine wp_rangeFunc_go (gf := gf) (lb := lb) rfl eg hit (fun _ => rfl) (fun i => i = w.heap.size) (by omega) (fun i hi => by subst hi; exact ⟨by omega, by omega, fun h => by have := hOi _ h; omega⟩) (fun i hi => by have := hOi _ hi; omega) hc0
    (ApI w B0 xs) (fun _ _ _ _ => False) (fun k => ApI.abide w B0 hB0 xs k) (fun _ _ _ _ _ _ h _ _ => h) hI0 ?round ?done ?stop
  case stop => exact fun D k c O1 W _ _ _ h _ => h.elim
  case round =>
    intro l0 k x O1 W K hx hi hb hK
    dsimp only [encI]
    gi_wp2
    refine hK _ _ O1 (Chg.refl _ _) (Grow.same hb (Nat.le_refl _)) hi ?_
    intro l T Wb hc hT hOb hll hnl hrec hi
    obtain ⟨v, hv1, hv2, hv3⟩ := hi.row.out
    have hfr := hi.row.free
    have HI := Aside0.mk hi
    have hk : k < xs.length := (List.getElem?_eq_some_iff.1 hx).1
    have HTK := Aside0.mk (show xs.take k ++ [x] = xs.take (k + 1) by rw [List.take_add_one, hx]; rfl)
    have hle : (xs.take k).length < 17592186044416 := by rw [List.length_take]; omega
    have hbs : w.heap.size < Wb.heap.size := hi.row.lt
    have hsl := own_slice3 hv2
    obtain ⟨A, c, hve, _, _⟩ := hsl
    subst hve
    have HO2 := Aside0.mk (show OwnI (Wb.alloc (.cells #[.int .i64 x] 3)) w.heap.size (.slice A (xs.take k).length c) _ from Kd.R_below hv2 ((Below.refl _ Wb).alloc (Nat.le_refl _) _))
    clear hi hv2 hx hrec hc hT hK
    generalize xs.take k = ys at *
    gi_wp2_with (gi_at_builtin; go_loud (refine append1_in w.heap.size rfl _ _ rfl (.slice A ys.length c) ys x Wb.heap.size rfl rfl (by simp) HO2.out (by simp; omega) hle ?_; rintro v1 w1 hO1 hg1 hat1 ⟨g1, n1, c1', rfl⟩; obtain ⟨hcell1, hfr1⟩ := HI.out.row.step hv1 hv3 _ hg1; have HST := Aside0.mk (HI.out.row.stored hv1 hv3 _ hg1 hO1 hat1 hOb); have HVB := Aside0.mk (show Chg (fun i => O1 i ∧ B0 ≤ i) Wb w1 from ((Chg.refl _ Wb).alloc _).grown hg1 (fun i hi => .inl ⟨(hv3 i hi).1, Nat.le_trans hB0 (own_base_lt HO2.out i hi)⟩)); clear hO1 hat1 hg1))
    obtain ⟨hst1, O2, hO2, hOO, hrow⟩ := HST.out
    refine ⟨hst1, O2, hO2, HI.out.bel.trans ((HVB.out.setCell (p := ⟨w.heap.size, 0, none⟩) (.inl ⟨HI.out.row.own, hB0⟩) _).below (Nat.le_trans hB0 (Nat.le_of_lt hbs)) (fun i hi => hi.2)), ?_⟩
    rw [← HTK.out]
    exact hrow
  case done =>
    intro D O1 W hD hnD hi hK
    obtain ⟨v, hv1, hv2, hv3⟩ := hi.row.out
    have HI := Aside0.mk hi
    rw [List.take_of_length_le (Nat.le_refl _)] at hv2
    have HV2 := Aside0.mk hv2
    have hsl := own_slice3 hv2
    obtain ⟨A, c, hve, _, _⟩ := hsl
    subst hve
    clear hi hv2
    gi_wp2
    refine ⟨by simp, .inl ⟨_, _, rfl, run_takeDeferred hK, ?_⟩⟩
    refine ⟨.slice A xs.length c, by simp [results, Try.results66, go_sem], _, rfl, ?_, ?_⟩
    · exact own_chg HV2.out (Chg.put1 W D _) (fun i h e => by subst e; exact hnD (hv3 _ h).1)
    · exact HI.out.bel.trans ((Chg.put1 W D _).below (Nat.le_trans hB0 (Nat.le_of_lt HI.out.row.lt)) (fun i e => by subst e; omega))
set_option maxHeartbeats 400000 in
theorem collect_calls {gf : Nat} {lb : Array Value} {xs : List Int} {B0 : Nat} {Oi : Nat → Prop} {w0 w : World} (eg : ∀ args w, (callFunc gf args).run Try.prog w = .ok (.enter gf args) w) (hit : IterOK Try.prog gf lb encI xs B0 Oi w0)
    (hw : Below w0.heap.size w0 w) (hB0 : B0 ≤ w.heap.size) (hOi : ∀ i, Oi i → i < w.heap.size) (hl : xs.length ≤ 17592186044416) :
    Calls Try.prog 53 #[.func (.func gf) #[] lb] w (CollPost B0 w xs) := by
  have HA := Aside0.mk (appendSeq_calls eg hit hw hB0 hOi hl)
  clear eg hit hw hB0 hOi hl
  go_enter Try.func53, Try.ntmps53
  go_wp2_with (go_at_call 66; refine HA.out.mono ?_; rintro e w1 ⟨v, rfl, hO, hB⟩; have HO := Aside0.mk hO; have HB := Aside0.mk hB; clear hO hB)
  go_ret
  exact ⟨_, rfl, HO.out, HB.out⟩
set_option maxHeartbeats 400000 in
theorem sorted_calls {gf : Nat} {lb : Array Value} {xs : List Int} {B0 : Nat} {Oi : Nat → Prop} {w0 w : World} (eg : ∀ args w, (callFunc gf args).run Try.prog w = .ok (.enter gf args) w) (hit : IterOK Try.prog gf lb encI xs B0 Oi w0)
    (hw : Below w0.heap.size w0 w) (hB0 : B0 ≤ w.heap.size) (hOi : ∀ i, Oi i → i < w.heap.size) (hl : xs.length ≤ 17592186044416) :
    Calls Try.prog 44 #[.func (.func gf) #[] lb] w (CollPost B0 w (xs.mergeSort fun x y => decide (x ≤ y))) := by
  have HA := Aside0.mk (collect_calls eg hit hw hB0 hOi hl)
  clear eg hit hw hOi
  go_enter Try.func44, Try.ntmps44
  go_wp2_with (go_at_call 53; refine HA.out.mono ?_; rintro e w1 ⟨v, rfl, hO, hB⟩; have HO := Aside0.mk hO; have HB := Aside0.mk hB; clear hO hB)
  clear HA
  refine (sort_own v xs _ _ HO.out (by omega)).mono ?_
  rintro e w2 ⟨rfl, hO, hG⟩
  have HO2 := Aside0.mk hO
  have HB2 := Aside0.mk (HB.out.grown hG (Nat.le_trans hB0 HB.out.size) (fun k hk => Nat.le_trans hB0 (own_base_lt HO.out k hk)))
  clear hO hG HO HB
  go_wp2_with fail
  go_ret
  exact ⟨_, rfl, HO2.out, HB2.out⟩
end Go.Proofs.Ytondngpmhlemkaa.Ext

-- WRITTEN BY hprint.py (a patched scratch copy of print.py, see NOTES.md): out of the translation and of contracts proved by hand.
namespace Go.Proofs.Ytondngpmhlemkaa.Pr
open Go.RowKit Go.Proofs.YtondngpmhlemkaaW.PrintWords Go.Proofs.YtondngpmhlemkaaW.PrintLast Go.Proofs.YtondngpmhlemkaaW.PrintMore
attribute [local go_sem] min2_int min_two
set_option linter.unusedVariables false
set_option linter.unusedSimpArgs false
def errW : Option Int → Value
  | none => .nilIface
  | some c => .iface 0 (.int .i64 c)
theorem errW_none : errW none = .nilIface := rfl
theorem errW_some (c : Int) : errW (some c) = .iface 0 (.int .i64 c) := rfl
theorem info3 : (Try.prog.info? 3).map (fun i => (i.zero, i.size, i.bytes)) = some (some (.int .i64 0), 1, 8) := by kernel_rfl
theorem info24 : (Try.prog.info? 24).map (fun i => (i.zero, i.size, i.bytes)) = some (some (.agg #[(.int .i64 0), (.int .i64 0), (.int .i64 0)]), 3, 24) := by kernel_rfl
theorem info49 : (Try.prog.info? 49).map (fun i => (i.zero, i.size, i.bytes)) = some (some (.agg #[(.int .i64 0), (.int .i64 0), (.string ⟨#[]⟩), (.int .i64 0)]), 4, 40) := by kernel_rfl
-- the values' own types
/-! #### struct type 24 -/
structure S24 where
  f0 : Int
  f1 : Int
  f2 : Int
def z24 : S24 := ⟨(0 : Int), (0 : Int), (0 : Int)⟩
def k24 : Kd S24 := Kd.iso (Kd.pair (Kd.int .i64) (Kd.pair (Kd.int .i64) (Kd.int .i64))) (fun x : S24 => (x.f0, x.f1, x.f2))
theorem k24_open {w : World} {x : S24} {cs : List Value} (h : k24.K w x cs) : cs = [.int .i64 x.f0, .int .i64 x.f1, .int .i64 x.f2] := by
  obtain ⟨_, _, rfl, rfl, ⟨_, _, rfl, rfl, rfl⟩⟩ := h
  exact rfl
theorem k24_mk (w : World) (x : S24)  : k24.K w x [.int .i64 x.f0, .int .i64 x.f1, .int .i64 x.f2] := ⟨[.int .i64 x.f0], [.int .i64 x.f1, .int .i64 x.f2], rfl, rfl, ⟨[.int .i64 x.f1], [.int .i64 x.f2], rfl, rfl, rfl⟩⟩
theorem k24_mkM (w : World) (base : Nat) (ok : Nat → Prop) (x : S24)  : k24.M w base ok x [.int .i64 x.f0, .int .i64 x.f1, .int .i64 x.f2] := ⟨[.int .i64 x.f0], [.int .i64 x.f1, .int .i64 x.f2], rfl, rfl, ⟨[.int .i64 x.f1], [.int .i64 x.f2], rfl, rfl, rfl⟩⟩
def rd_T24 (xs : List S24) (i : Int) : S24 := xs.getD i.toNat z24
theorem at_T24 {w : World} {A : Option Addr} {n : Nat} {xs : List S24} (h : Kd.C k24 w A n xs) (i : Int) (h0 : 0 ≤ i) (h1 : i < n) : ∃ ad , A = some ad ∧ w.cell? (ad.add (i.toNat * 3)) = some (.int .i64 (rd_T24 xs i).f0) ∧ w.cell? ⟨(ad.add (i.toNat * 3)).block, (ad.add (i.toNat * 3)).off + 1, none⟩ = some (.int .i64 (rd_T24 xs i).f1) ∧ w.cell? ⟨(ad.add (i.toNat * 3)).block, (ad.add (i.toNat * 3)).off + 2, none⟩ = some (.int .i64 (rd_T24 xs i).f2) := by
  obtain ⟨ad, c, e, _, hK, hc0⟩ := Kd.C_get h z24 i h0 h1
  have hc : ∀ j u, c[j]? = some u → w.cell? (ad.add (i.toNat * 3 + j)) = some u := hc0
  obtain rfl := k24_open hK
  exact ⟨ad, e, hc 0 _ rfl, by rw [← add_field _ _ 1 (by omega)]; exact hc 1 _ rfl, by rw [← add_field _ _ 2 (by omega)]; exact hc 2 _ rfl⟩
/-! #### struct type 49 -/
structure S49 where
  f0 : Int
  f1 : Int
  f2 : ByteArray
  f3 : Int
def z49 : S49 := ⟨(0 : Int), (0 : Int), (⟨#[]⟩ : ByteArray), (0 : Int)⟩
def k49 : Kd S49 := Kd.iso (Kd.pair (Kd.int .i64) (Kd.pair (Kd.int .i64) (Kd.pair Kd.string (Kd.int .i64)))) (fun x : S49 => (x.f0, x.f1, x.f2, x.f3))
theorem k49_heap : Kd.Heap k49 := Kd.heap_iso _ (Kd.heap_pair (Kd.heap_int .i64) (Kd.heap_pair (Kd.heap_int .i64) (Kd.heap_pair Kd.heap_string (Kd.heap_int .i64))))
theorem k49_open {w : World} {x : S49} {cs : List Value} (h : k49.K w x cs) : cs = [.int .i64 x.f0, .int .i64 x.f1, .string x.f2, .int .i64 x.f3] := by
  obtain ⟨_, _, rfl, rfl, ⟨_, _, rfl, rfl, ⟨_, _, rfl, rfl, rfl⟩⟩⟩ := h
  exact rfl
theorem k49_mkM (w : World) (base : Nat) (ok : Nat → Prop) (x : S49)  : k49.M w base ok x [.int .i64 x.f0, .int .i64 x.f1, .string x.f2, .int .i64 x.f3] := ⟨[.int .i64 x.f0], [.int .i64 x.f1, .string x.f2, .int .i64 x.f3], rfl, rfl, ⟨[.int .i64 x.f1], [.string x.f2, .int .i64 x.f3], rfl, rfl, ⟨[.string x.f2], [.int .i64 x.f3], rfl, rfl, rfl⟩⟩⟩
def rd_T49 (xs : List S49) (i : Int) : S49 := xs.getD i.toNat z49
theorem at_T49 {w : World} {A : Option Addr} {n : Nat} {xs : List S49} (h : Kd.C k49 w A n xs) (i : Int) (h0 : 0 ≤ i) (h1 : i < n) : ∃ ad , A = some ad ∧ w.cell? (ad.add (i.toNat * 4)) = some (.int .i64 (rd_T49 xs i).f0) ∧ w.cell? ⟨(ad.add (i.toNat * 4)).block, (ad.add (i.toNat * 4)).off + 1, none⟩ = some (.int .i64 (rd_T49 xs i).f1) ∧ w.cell? ⟨(ad.add (i.toNat * 4)).block, (ad.add (i.toNat * 4)).off + 2, none⟩ = some (.string (rd_T49 xs i).f2) ∧ w.cell? ⟨(ad.add (i.toNat * 4)).block, (ad.add (i.toNat * 4)).off + 3, none⟩ = some (.int .i64 (rd_T49 xs i).f3) := by
  obtain ⟨ad, c, e, _, hK, hc0⟩ := Kd.C_get h z49 i h0 h1
  have hc : ∀ j u, c[j]? = some u → w.cell? (ad.add (i.toNat * 4 + j)) = some u := hc0
  obtain rfl := k49_open hK
  exact ⟨ad, e, hc 0 _ rfl, by rw [← add_field _ _ 1 (by omega)]; exact hc 1 _ rfl, by rw [← add_field _ _ 2 (by omega)]; exact hc 2 _ rfl, by rw [← add_field _ _ 3 (by omega)]; exact hc 3 _ rfl⟩
/-! #### struct type 66 -/
structure S66 where
  f0 : Int
  f1 : (List Int)
  f2 : Int
  f3 : Int
  f4 : Int
def z66 : S66 := ⟨(0 : Int), ([] : List Int), (0 : Int), (0 : Int), (0 : Int)⟩
def k66 : Kd S66 := Kd.iso (Kd.pair (Kd.int .i64) (Kd.pair (Kd.slice 3 (Kd.int .i64)) (Kd.pair (Kd.int .i64) (Kd.pair (Kd.int .i64) (Kd.int .i64))))) (fun x : S66 => (x.f0, x.f1, x.f2, x.f3, x.f4))
theorem k66_open {w : World} {x : S66} {cs : List Value} (h : k66.K w x cs) : ∃ A1 c1, cs = [.int .i64 x.f0, .slice A1 x.f1.length c1, .int .i64 x.f2, .int .i64 x.f3, .int .i64 x.f4] ∧ x.f1.length ≤ c1 ∧ (Kd.int .i64).C w A1 x.f1.length x.f1 := by
  obtain ⟨_, _, rfl, rfl, ⟨_, _, rfl, ⟨A1, c1, rfl, l1, g1⟩, ⟨_, _, rfl, rfl, ⟨_, _, rfl, rfl, rfl⟩⟩⟩⟩ := h
  exact ⟨A1, c1, rfl, l1, g1⟩
def rd_T66 (xs : List S66) (i : Int) : S66 := xs.getD i.toNat z66
theorem at_T66 {w : World} {A : Option Addr} {n : Nat} {xs : List S66} (h : Kd.C k66 w A n xs) (i : Int) (h0 : 0 ≤ i) (h1 : i < n) : ∃ ad A1 c1, A = some ad ∧ w.cell? (ad.add (i.toNat * 5)) = some (.int .i64 (rd_T66 xs i).f0) ∧ w.cell? ⟨(ad.add (i.toNat * 5)).block, (ad.add (i.toNat * 5)).off + 1, none⟩ = some (.slice A1 (rd_T66 xs i).f1.length c1) ∧ w.cell? ⟨(ad.add (i.toNat * 5)).block, (ad.add (i.toNat * 5)).off + 2, none⟩ = some (.int .i64 (rd_T66 xs i).f2) ∧ w.cell? ⟨(ad.add (i.toNat * 5)).block, (ad.add (i.toNat * 5)).off + 3, none⟩ = some (.int .i64 (rd_T66 xs i).f3) ∧ w.cell? ⟨(ad.add (i.toNat * 5)).block, (ad.add (i.toNat * 5)).off + 4, none⟩ = some (.int .i64 (rd_T66 xs i).f4) ∧ (rd_T66 xs i).f1.length ≤ c1 ∧ (Kd.int .i64).C w A1 (rd_T66 xs i).f1.length (rd_T66 xs i).f1 := by
  obtain ⟨ad, c, e, _, hK, hc0⟩ := Kd.C_get h z66 i h0 h1
  have hc : ∀ j u, c[j]? = some u → w.cell? (ad.add (i.toNat * 5 + j)) = some u := hc0
  obtain ⟨A1, c1, rfl, l1, g1⟩ := k66_open hK
  exact ⟨ad, A1, c1, e, hc 0 _ rfl, by rw [← add_field _ _ 1 (by omega)]; exact hc 1 _ rfl, by rw [← add_field _ _ 2 (by omega)]; exact hc 2 _ rfl, by rw [← add_field _ _ 3 (by omega)]; exact hc 3 _ rfl, by rw [← add_field _ _ 4 (by omega)]; exact hc 4 _ rfl, l1, g1⟩
/-! #### struct type 68 -/
structure S68 where
  f0 : Int
  f1 : Int
  f2 : Int
  f3 : Int
  f4 : Int
  f5 : Int
  f6 : Int
  f7 : ByteArray
  f8 : (List Int)
def z68 : S68 := ⟨(0 : Int), (0 : Int), (0 : Int), (0 : Int), (0 : Int), (0 : Int), (0 : Int), (⟨#[]⟩ : ByteArray), ([] : List Int)⟩
def k68 : Kd S68 := Kd.iso (Kd.pair (Kd.int .i64) (Kd.pair (Kd.int .i64) (Kd.pair (Kd.int .i64) (Kd.pair (Kd.int .i64) (Kd.pair (Kd.int .i64) (Kd.pair (Kd.int .i64) (Kd.pair (Kd.int .i64) (Kd.pair Kd.string (Kd.slice 3 (Kd.int .i64)))))))))) (fun x : S68 => (x.f0, x.f1, x.f2, x.f3, x.f4, x.f5, x.f6, x.f7, x.f8))
theorem k68_open {w : World} {x : S68} {cs : List Value} (h : k68.K w x cs) : ∃ A8 c8, cs = [.int .i64 x.f0, .int .i64 x.f1, .int .i64 x.f2, .int .i64 x.f3, .int .i64 x.f4, .int .i64 x.f5, .int .i64 x.f6, .string x.f7, .slice A8 x.f8.length c8] ∧ x.f8.length ≤ c8 ∧ (Kd.int .i64).C w A8 x.f8.length x.f8 := by
  obtain ⟨_, _, rfl, rfl, ⟨_, _, rfl, rfl, ⟨_, _, rfl, rfl, ⟨_, _, rfl, rfl, ⟨_, _, rfl, rfl, ⟨_, _, rfl, rfl, ⟨_, _, rfl, rfl, ⟨_, _, rfl, rfl, ⟨A8, c8, rfl, l8, g8⟩⟩⟩⟩⟩⟩⟩⟩⟩ := h
  exact ⟨A8, c8, rfl, l8, g8⟩
def rd_T68 (xs : List S68) (i : Int) : S68 := xs.getD i.toNat z68
theorem at_T68 {w : World} {A : Option Addr} {n : Nat} {xs : List S68} (h : Kd.C k68 w A n xs) (i : Int) (h0 : 0 ≤ i) (h1 : i < n) : ∃ ad A8 c8, A = some ad ∧ w.cell? (ad.add (i.toNat * 9)) = some (.int .i64 (rd_T68 xs i).f0) ∧ w.cell? ⟨(ad.add (i.toNat * 9)).block, (ad.add (i.toNat * 9)).off + 1, none⟩ = some (.int .i64 (rd_T68 xs i).f1) ∧ w.cell? ⟨(ad.add (i.toNat * 9)).block, (ad.add (i.toNat * 9)).off + 2, none⟩ = some (.int .i64 (rd_T68 xs i).f2) ∧ w.cell? ⟨(ad.add (i.toNat * 9)).block, (ad.add (i.toNat * 9)).off + 3, none⟩ = some (.int .i64 (rd_T68 xs i).f3) ∧ w.cell? ⟨(ad.add (i.toNat * 9)).block, (ad.add (i.toNat * 9)).off + 4, none⟩ = some (.int .i64 (rd_T68 xs i).f4) ∧ w.cell? ⟨(ad.add (i.toNat * 9)).block, (ad.add (i.toNat * 9)).off + 5, none⟩ = some (.int .i64 (rd_T68 xs i).f5) ∧ w.cell? ⟨(ad.add (i.toNat * 9)).block, (ad.add (i.toNat * 9)).off + 6, none⟩ = some (.int .i64 (rd_T68 xs i).f6) ∧ w.cell? ⟨(ad.add (i.toNat * 9)).block, (ad.add (i.toNat * 9)).off + 7, none⟩ = some (.string (rd_T68 xs i).f7) ∧ w.cell? ⟨(ad.add (i.toNat * 9)).block, (ad.add (i.toNat * 9)).off + 8, none⟩ = some (.slice A8 (rd_T68 xs i).f8.length c8) ∧ (rd_T68 xs i).f8.length ≤ c8 ∧ (Kd.int .i64).C w A8 (rd_T68 xs i).f8.length (rd_T68 xs i).f8 := by
  obtain ⟨ad, c, e, _, hK, hc0⟩ := Kd.C_get h z68 i h0 h1
  have hc : ∀ j u, c[j]? = some u → w.cell? (ad.add (i.toNat * 9 + j)) = some u := hc0
  obtain ⟨A8, c8, rfl, l8, g8⟩ := k68_open hK
  exact ⟨ad, A8, c8, e, hc 0 _ rfl, by rw [← add_field _ _ 1 (by omega)]; exact hc 1 _ rfl, by rw [← add_field _ _ 2 (by omega)]; exact hc 2 _ rfl, by rw [← add_field _ _ 3 (by omega)]; exact hc 3 _ rfl, by rw [← add_field _ _ 4 (by omega)]; exact hc 4 _ rfl, by rw [← add_field _ _ 5 (by omega)]; exact hc 5 _ rfl, by rw [← add_field _ _ 6 (by omega)]; exact hc 6 _ rfl, by rw [← add_field _ _ 7 (by omega)]; exact hc 7 _ rfl, by rw [← add_field _ _ 8 (by omega)]; exact hc 8 _ rfl, l8, g8⟩
end Go.Proofs.Ytondngpmhlemkaa.Pr

/- graph.told, its iterator; graph.set. No condition. -/
namespace Go.Proofs.Ytondngpmhlemkaa.Ext
open Go.RowKit Go.Proofs.YtondngpmhlemkaaW.PrintWords Go.Proofs.YtondngpmhlemkaaW.PrintLast Go.Proofs.YtondngpmhlemkaaW.PrintMore Go.Proofs.Ytondngpmhlemkaa.Sets Go.Proofs.Ytondngpmhlemkaa.Iter Go.Proofs.Ytondngpmhlemkaa.Pr
set_option linter.unusedVariables false
set_option linter.unusedSimpArgs false
attribute [local go_sem] Oper.semAt_some
theorem fm_take {α β : Type} (g : α → Option β) {l : List α} {j : Nat} {x : α} (hx : l[j]? = some x) : (l.take (j + 1)).filterMap g = (l.take j).filterMap g ++ (g x).toList := by
  rw [List.take_add_one, hx, List.filterMap_append]
  cases h : g x <;> simp [h]
theorem fm_at {α β : Type} (g : α → Option β) {l : List α} {j : Nat} {x : α} {y : β} (hx : l[j]? = some x) (hg : g x = some y) : (l.filterMap g)[((l.take j).filterMap g).length]? = some y := by
  have h1 : l.filterMap g = (l.take (j + 1)).filterMap g ++ (l.drop (j + 1)).filterMap g := by rw [← List.filterMap_append, List.take_append_drop]
  rw [h1, fm_take g hx, hg]
  simp
def encF (f : S49) : Array Value := #[.agg #[.int .i64 f.f0, .int .i64 f.f1, .string f.f2, .int .i64 f.f3]]
def ofKind (kind : Int) (f : S49) : Option S49 := if f.f0 = kind then some f else none
def toldL (l : List S49) (kind : Int) : List S49 := l.filterMap (ofKind kind)
structure ToldSt (w00 : World) (Bl Bk : Nat) (A : Option Addr) (ca : Nat) (l : List S49) (kind : Int) (W : World) : Prop where
  below : Below w00.heap.size w00 W
  boxl : W.cell? ⟨Bl, 0, none⟩ = some (.slice A l.length ca)
  boxk : W.cell? ⟨Bk, 0, none⟩ = some (.int .i64 kind)
theorem ToldSt.chg {w00 : World} {Bl Bk : Nat} {A : Option Addr} {ca : Nat} {l : List S49} {kind : Int} {W W' : World} {T : Nat → Prop} (h : ToldSt w00 Bl Bk A ca l kind W) (hc : Chg T W W') (hT : ∀ i, T i → w00.heap.size ≤ i ∧ i ≠ Bl ∧ i ≠ Bk) : ToldSt w00 Bl Bk A ca l kind W' :=
  ⟨h.below.trans (hc.below h.below.size (fun k hk => (hT k hk).1)), hc.cell h.boxl (fun ht => (hT _ ht).2.1 rfl), hc.cell h.boxk (fun ht => (hT _ ht).2.2 rfl)⟩
structure ToldRel (w00 : World) (Bl Bk : Nat) (A : Option Addr) (ca : Nat) (l : List S49) (kind : Int) (J : Nat → (Nat → Prop) → World → Prop) (k : Nat) (W : World) : Prop where
  st : ToldSt w00 Bl Bk A ca l kind W
  own : ∃ O1, J (toldL (l.take k) kind).length O1 W ∧ ∀ i, O1 i → w00.heap.size ≤ i ∧ i ≠ Bl ∧ i ≠ Bk ∧ i < W.heap.size
theorem rdT_at (l : List S49) (k : Nat) (hk : k < l.length) : l[k]? = some (rd_T49 l (k : Int)) := by
  unfold rd_T49
  rw [Int.toNat_natCast, List.getD_eq_getElem?_getD, List.getElem?_eq_getElem hk]
  rfl
set_option maxHeartbeats 2000000 in
theorem told1_iter (w00 w : World) (Bl Bk : Nat) (A : Option Addr) (ca : Nat) (l : List S49) (kind : Int) (hr : Kd.C k49 w00 A l.length l) (hB : w00.heap.size ≤ Bl ∧ w00.heap.size ≤ Bk) (hs : ToldSt w00 Bl Bk A ca l kind w) :
    IterOK Try.prog 47 #[.pointer (some ⟨Bl, 0, none⟩), .pointer (some ⟨Bk, 0, none⟩)] encF (toldL l kind) w00.heap.size (fun i => i = Bl ∨ i = Bk) w := by
  intro y J Jx O W hcW hO hJ hJx hY h0
  have hs0 : ToldSt w00 Bl Bk A ca l kind W := hs.chg hcW (fun i hi => ⟨(hO i hi.1).2.1, fun e => (hO i hi.1).1 (.inl e), fun e => (hO i hi.1).1 (.inr e)⟩)
  have HREL := Aside0.mk (show ToldRel w00 Bl Bk A ca l kind J 0 W from ⟨hs0, O, h0, fun i hi => ⟨(hO i hi).2.1, fun e => (hO i hi).1 (.inl e), fun e => (hO i hi).1 (.inr e), (hO i hi).2.2⟩⟩)
  have HY := Aside0.mk hY
  have HJ := Aside0.mk hJ
  have HR := Aside0.mk hr
  have hm : l.length ≤ 9223372036854775807 := hr.2.1
  have hboxl := hs0.boxl
  clear hY hJ hJx h0 hs0 hr hs hcW hO
  refine (callsIn_wide (n := 0)).1 ?_
  refine callsIn_of_wp Try.func47 rfl trivial ?_ rfl
  simp only [Try.ntmps47, List.size_toArray, List.length_cons, List.length_nil, Nat.reduceAdd, Nat.reduceSub, Array.replicate_succ, Array.replicate_zero, List.push_toArray, List.append_toArray, List.nil_append, List.cons_append]
  gi_wp2
  gi_loopg [5, 8] l.length (fun kq v5 v8 w' => ∃ k : Nat, v8 = .int .i64 k ∧ k + kq = l.length ∧ ToldRel w00 Bl Bk A ca l kind J k w')
  case atStart => exact ⟨0, rfl, by omega, HREL.out⟩
  case round =>
    clear HREL hboxl
    obtain ⟨k, rfl, hk, hrel⟩ := hrel
    by_cases hlt : k < l.length
    · obtain ⟨ad, rfl, hc0, hc1, hc2, hc3⟩ := at_T49 (Kd.C_below HR.out hrel.st.below) (k : Int) (by omega) (by omega)
      rw [Int.toNat_natCast] at hc0 hc1 hc2 hc3
      have HX := Aside0.mk (rdT_at l k hlt)
      obtain ⟨O1, hj, hd⟩ := hrel.own
      have hboxk := hrel.st.boxk
      have HL := Aside0.mk hrel
      have HD := Aside0.mk hd
      clear hrel hd
      generalize rd_T49 l (k : Int) = x at *
      have hja := HJ.out _ _ _ (wr.alloc (.cells #[.int .i64 x.f0, .int .i64 x.f1, .string x.f2, .int .i64 x.f3] 49)) (fun _ => False) hj ((Chg.refl _ _).alloc _) (fun i h => h.elim)
      have hsa := HL.out.st.chg ((Chg.refl (fun _ => False) wr).alloc (.cells #[.int .i64 x.f0, .int .i64 x.f1, .string x.f2, .int .i64 x.f3] 49)) (fun i h => h.elim)
      have hbk2 := hsa.boxk
      by_cases he : x.f0 = kind
      · have hox : ofKind kind x = some x := by unfold ofKind; rw [if_pos he]
        have hyl := HY.out _ x O1 _ (fm_at (ofKind kind) HX.out hox) hja (fun i hi => by have := (HD.out i hi).2.2.2; simp; omega)
        have HSA := Aside0.mk hsa
        have HF := Aside0.mk (show toldL (l.take (k + 1)) kind = toldL (l.take k) kind ++ [x] by unfold toldL; rw [fm_take _ HX.out, hox]; rfl)
        have HKL := Aside0.mk (List.getElem?_eq_some_iff.1 (fm_at (ofKind kind) HX.out hox)).1
        obtain ⟨fn, tmps, asg, bdy, hy, hR⟩ := hyl
        dsimp only [encF] at hy
        have HR2 := Aside0.mk hR
        clear hR hj hja hsa hox
        subst he
        gi_wp2
        refine ⟨rfl, HR2.out.mono ?_⟩
        rintro e W' (⟨rfl, ⟨O2, hO2, hJ2⟩, hc⟩ | ⟨rfl, ⟨O2, hO2, hx⟩, hc⟩)
        · have HG := Aside0.mk (show ToldRel w00 Bl Bk (some ad) ca l x.f0 J (k + 1) W' from ⟨HSA.out.chg hc (fun i hi => ⟨(HD.out i hi).1, (HD.out i hi).2.1, (HD.out i hi).2.2.1⟩), O2, by rw [HF.out, List.length_append]; exact hJ2, fun i hi => (hO2 i hi).1.elim (fun h => ⟨(HD.out i h).1, (HD.out i h).2.1, (HD.out i h).2.2.1, (hO2 i hi).2⟩) (fun h => by
            have h0 := (hO2 i hi).2
            have h1 := HL.out.st.below.size
            have h2 := World.block_lt_of_cell? wr _ HL.out.st.boxl
            have h3 := World.block_lt_of_cell? wr _ HL.out.st.boxk
            simp at h h2 h3
            omega)⟩)
          clear hO2 hJ2 hc hy hc0 hc1 hc2 hc3 hboxk hbk2
          gi_wp2
          gi_roundg (gk - 1)
          case measure => omega
          case rel => exact ⟨k + 1, by go_num, by omega, HG.out⟩
        · gi_wp2
          refine bodyPost_ret (results_none rfl _ _ _) rfl ?_
          exact ⟨⟨_, rfl⟩, .inr ⟨_, O2, HKL.out, hx⟩⟩
      · have hox : ofKind kind x = none := by unfold ofKind; rw [if_neg he]
        have HG := Aside0.mk (show ToldRel w00 Bl Bk (some ad) ca l kind J (k + 1) (wr.alloc (.cells #[.int .i64 x.f0, .int .i64 x.f1, .string x.f2, .int .i64 x.f3] 49)) from ⟨hsa, O1, by
          have : toldL (l.take (k + 1)) kind = toldL (l.take k) kind := by unfold toldL; rw [fm_take _ HX.out, hox]; simp
          rw [this]; exact hja, fun i hi => ⟨(HD.out i hi).1, (HD.out i hi).2.1, (HD.out i hi).2.2.1, by have := (HD.out i hi).2.2.2; simp; omega⟩⟩)
        have hne : (x.f0 == kind) = false := by simpa using he
        clear hj hja hsa hox
        gi_wp2
        refine ⟨(fun f h => (by cases h)), ?_⟩
        gi_wp2
        gi_roundg (gk - 1)
        case measure => omega
        case rel => exact ⟨k + 1, by go_num, by omega, HG.out⟩
    · obtain rfl : k = l.length := by omega
      have HF := Aside0.mk hrel
      clear hrel
      gi_wp2
      go_end0
      obtain ⟨O1, hj, _⟩ := HF.out.own
      rw [List.take_length] at hj
      exact ⟨⟨_, rfl⟩, .inl ⟨O1, hj⟩⟩
theorem told_calls (va : Value) (kind : Int) (w : World) (h1 : va.oneCell' = true) :
    Calls Try.prog 34 #[va, .int .i64 kind] w fun e w' => e = .returned (.func (.func 47) #[] #[.pointer (some ⟨w.heap.size, 0, none⟩), .pointer (some ⟨w.heap.size + 1, 0, none⟩)]) ∧ w' = (w.alloc (.cells #[va] 35)).alloc (.cells #[.int .i64 kind] 3) := by
  go_enter Try.func34, Try.ntmps34
  go_wp2
  go_ret
  exact ⟨rfl, rfl⟩
/-! ### graph.set -/
theorem compact_cut (A : Option Addr) (c : Nat) (xs : List Int) (base : Nat) (w : World) (h : OwnI w base (.slice A xs.length c) xs) (hl : xs.length < 4611686018427387904) :
    Calls Try.prog 45 #[.slice A xs.length xs.length] w fun e w' => ∃ v', e = .returned v' ∧ Kd.V (Kd.int .i64) 3 w' base (fun k => base ≤ k) v' (Lib.compact xs) ∧ w.grownBy w' (Value.slice A xs.length c).ownBlock := by
  have ho := Kd.own_of_R h
  rcases ho.2 with ⟨hv, h0⟩ | ⟨g, cap, cur, hv, hb, hg, h1, h2, h3, h4⟩
  · obtain rfl : xs = [] := List.eq_nil_of_length_eq_zero h0
    injection hv with e1 e2 e3
    subst e1 e3
    refine (Try.slices_Compact_int_empty none 0 w).mono ?_
    rintro e w' ⟨rfl, rfl⟩
    exact ⟨_, rfl, Kd.V_nil _ _ _ _ _, World.grownBy.refl _ _⟩
  · injection hv with e1 e2 e3
    subst e1 e3
    have hH : Sort.Holds (Value.int .i64) w g 0 xs.toArray := holds_of_blockI hg (by rw [Nat.mul_one] at h4; exact h4)
    refine (Try.slices_Compact_int g 0 xs.length xs w hH (by omega) (Nat.le_refl _)).mono ?_
    rintro e w' ⟨rfl, q, rfl⟩
    have hcl : (Lib.compact xs).length ≤ xs.length := Lib.compact_length_le xs
    have hr := Lib.ownsRow_putRow (enc := Value.int .i64) (q := q) (k := (Lib.compact xs).length) (ys := Lib.compact xs ++ List.replicate (xs.length - (Lib.compact xs).length) 0) ho (by simp; omega) hcl
    refine ⟨_, rfl, ?_, ?_⟩
    · have hr' := hr
      simp only [List.take_left'] at hr'
      have hR : Kd.R (Kd.int .i64) 3 _ base (fun k => base ≤ k) (.slice (some ⟨g, 0, none⟩) (Lib.compact xs).length c) (Lib.compact xs) := Kd.R_of_own hr' (fun k hk => by
        have : g = k := by simpa [Value.ownBlock] using hk
        omega)
      exact ⟨_, _, rfl, hcl, Kd.R_F hR⟩
    · have := grownBy_sortedI (w := w) (g := g) (n := q) (os := #[]) (Lib.compact xs ++ List.replicate (xs.length - (Lib.compact xs).length) 0).toArray
      rw [Sort.grow_empty] at this
      exact this
def SetPost (B0 : Nat) (w : World) (xs : List Int) (e : Ending) (w' : World) : Prop := ∃ v : Value, e = .returned v ∧ Kd.V (Kd.int .i64) 3 w' w.heap.size (fun k => w.heap.size ≤ k) v (sset xs) ∧ Below B0 w w'
set_option maxHeartbeats 1000000 in
theorem set_calls {gf : Nat} {lb : Array Value} {xs : List Int} {B0 : Nat} {Oi : Nat → Prop} {w0 w : World} (eg : ∀ args w, (callFunc gf args).run Try.prog w = .ok (.enter gf args) w) (hit : IterOK Try.prog gf lb encI xs B0 Oi w0)
    (hw : Below w0.heap.size w0 w) (hB0 : B0 ≤ w.heap.size) (hOi : ∀ i, Oi i → i < w.heap.size) (hl : xs.length ≤ 17592186044416) :
    Calls Try.prog 29 #[.func (.func gf) #[] lb] w (SetPost B0 w xs) := by
  have HA := Aside0.mk (sorted_calls eg hit hw hB0 hOi hl)
  have hlen : (xs.mergeSort fun x y => decide (x ≤ y)).length = xs.length := List.length_mergeSort _
  have HS := Aside0.mk (show sset xs = Lib.compact (xs.mergeSort fun x y => decide (x ≤ y)) from rfl)
  clear eg hit hw hOi
  have hl2 : (xs.mergeSort fun x y => decide (x ≤ y)).length ≤ 17592186044416 := by omega
  clear hlen hl
  generalize (xs.mergeSort fun x y => decide (x ≤ y)) = ys at *
  go_enter Try.func29, Try.ntmps29
  go_wp2_with fail
  refine HA.out.mono ?_
  rintro e w1 ⟨v, rfl, hO, hB⟩
  have HO := Aside0.mk hO
  have HB := Aside0.mk hB
  obtain ⟨A, c, rfl, hlc, hc⟩ := own_slice3 hO
  clear HA hO hB
  go_wp2_with fail
  refine (compact_cut A c ys w.heap.size w1 HO.out (by omega)).mono ?_
  rintro e w2 ⟨v, rfl, hV, hG⟩
  have HV := Aside0.mk hV
  have HB2 := Aside0.mk (HB.out.grown hG (Nat.le_trans hB0 HB.out.size) (fun k hk => Nat.le_trans hB0 (own_base_lt HO.out k hk)))
  clear hV hG HO HB
  go_wp2_with fail
  go_ret
  exact ⟨_, rfl, by rw [HS.out]; exact HV.out, HB2.out⟩
end Go.Proofs.Ytondngpmhlemkaa.Ext

/- An iterator that goes through another one and hands on what it is given: what is so between two rounds. No condition. -/
namespace Go.Proofs.Ytondngpmhlemkaa.Iter
open Go.RowKit
set_option linter.unusedVariables false
def HandOn (B0 : Nat) (J : Nat → (Nat → Prop) → World → Prop) (cs : List (Nat × Value)) (n : Nat) (O1 : Nat → Prop) (W : World) : Prop :=
  ∃ Oj : Nat → Prop, J n Oj W ∧ (∀ i, Oj i ∨ i ∈ cs.map (·.1) → O1 i) ∧ (∀ i, Oj i → B0 ≤ i ∧ i ∉ cs.map (·.1)) ∧ ∀ c ∈ cs, W.cell? ⟨c.1, 0, none⟩ = some c.2
def HandX (Jx : Nat → (Nat → Prop) → World → Prop) (N : Nat) (c : Code) (O1 : Nat → Prop) (W : World) : Prop :=
  c = .ret ∧ ∃ (n : Nat) (Oj : Nat → Prop), n < N ∧ Jx n Oj W ∧ ∀ i, Oj i → O1 i
variable {B0 : Nat} {J Jx : Nat → (Nat → Prop) → World → Prop} {cs : List (Nat × Value)} {n N : Nat} {O1 : Nat → Prop} {W W' : World}
theorem HandOn.abide (hJ : ∀ k, Abide B0 (J k)) (cs : List (Nat × Value)) (n : Nat) : Abide B0 (HandOn B0 J cs n) := by
  rintro O A B T ⟨Oj, h1, h2, h3, h4⟩ hc hT
  refine ⟨Oj, hJ n Oj A B T h1 hc (fun i hi => ⟨(hT i hi).1, fun h => (hT i hi).2 (h2 i (.inl h))⟩), h2, h3, fun c hcs => hc.cell (h4 c hcs) (fun ht => (hT _ ht).2 (h2 _ (.inr (List.mem_map_of_mem hcs))))⟩
theorem HandX.abide (hJx : ∀ k, Abide B0 (Jx k)) (N : Nat) (c : Code) : Abide B0 (HandX Jx N c) := by
  rintro O A B T ⟨e, n, Oj, h1, h2, h3⟩ hc hT
  exact ⟨e, n, Oj, h1, hJx n Oj A B T h2 hc (fun i hi => ⟨(hT i hi).1, fun h => (hT i hi).2 (h3 i h)⟩), h3⟩
theorem HandOn.cell (h : HandOn B0 J cs n O1 W) {g : Nat} {v : Value} (hm : (g, v) ∈ cs) : W.cell? ⟨g, 0, none⟩ = some v := by
  obtain ⟨Oj, _, _, _, h4⟩ := h
  exact h4 _ hm
theorem HandOn.start (hJ : J n O1 W) (hO : ∀ i, O1 i → B0 ≤ i ∧ i ∉ cs.map (·.1)) (hcs : ∀ c ∈ cs, W.cell? ⟨c.1, 0, none⟩ = some c.2) : HandOn B0 J cs n (fun i => O1 i ∨ i ∈ cs.map (·.1)) W :=
  ⟨O1, hJ, fun _ h => h, hO, hcs⟩
theorem HandOn.more (h : HandOn B0 J cs n O1 W) {O2 : Nat → Prop} (hO : ∀ i, O1 i → O2 i) : HandOn B0 J cs n O2 W := by
  obtain ⟨Oj, h1, h2, h3, h4⟩ := h
  exact ⟨Oj, h1, fun i hi => hO i (h2 i hi), h3, h4⟩
theorem HandOn.alloc (hJ : ∀ k, Abide B0 (J k)) (h : HandOn B0 J cs n O1 W) (o : Obj) : HandOn B0 J cs n (fun i => O1 i ∨ i = W.heap.size) (W.alloc o) :=
  (HandOn.abide hJ cs n O1 W _ (fun _ => False) h ((Chg.refl _ _).alloc o) (fun _ h => h.elim)).more (fun _ h => .inl h)
theorem grow_alloc {O : Nat → Prop} (hO : ∀ i, O i → i < W.heap.size) (o : Obj) : Grow O W (fun i => O i ∨ i = W.heap.size) (W.alloc o) := fun i hi => by
  rw [World.size_alloc]
  rcases hi with hi | rfl
  · have := hO i hi
    exact ⟨.inl hi, by omega⟩
  · exact ⟨.inr (Nat.le_refl _), by omega⟩
theorem HandOn.call {P : Program} {y : Nat} {args : Array Value} (h : HandOn B0 J cs n O1 W) (hOb : ∀ i, O1 i → i < W.heap.size)
    (hY : ∀ Oj, J n Oj W → (∀ i, Oj i → i < W.heap.size) → YieldAt Fence.wide 0 P y args W fun e W' =>
      (e = .returned (.bool true) ∧ (∃ O2 : Nat → Prop, Grow Oj W O2 W' ∧ J (n + 1) O2 W') ∧ Chg Oj W W') ∨ (e = .returned (.bool false) ∧ (∃ O2 : Nat → Prop, Grow Oj W O2 W' ∧ Jx n O2 W') ∧ Chg Oj W W')) (hN : n < N) (hsz : B0 ≤ W.heap.size) :
    YieldAt Fence.wide 0 P y args W fun e W' =>
      (e = .returned (.bool true) ∧ (Chg O1 W W' ∧ ∃ O2 : Nat → Prop, Grow O1 W O2 W' ∧ HandOn B0 J cs (n + 1) O2 W')) ∨
      (e = .returned (.bool false) ∧ (Chg O1 W W' ∧ ∃ O2 : Nat → Prop, Grow O1 W O2 W' ∧ HandX Jx N .ret O2 W')) := by
  obtain ⟨Oj, h1, h2, h3, h4⟩ := h
  have hj : ∀ i, Oj i → i < W.heap.size := fun i hi => hOb i (h2 i (.inl hi))
  refine (hY Oj h1 hj).mono ?_
  rintro e W' (⟨rfl, ⟨O2, hg, hj2⟩, hc⟩ | ⟨rfl, ⟨O2, hg, hj2⟩, hc⟩)
  · refine .inl ⟨rfl, hc.mono (fun i _ hi => h2 i (.inl hi)), fun i => O2 i ∨ i ∈ cs.map (·.1), ?_, O2, hj2, fun _ h => h, ?_, fun c hcs => hc.cell (h4 c hcs) (fun ho => (h3 _ ho).2 (List.mem_map_of_mem hcs))⟩
    · intro i hi
      rcases hi with hi | hi
      · exact ⟨(hg i hi).1.imp_left (fun h => h2 i (.inl h)), (hg i hi).2⟩
      · exact ⟨.inl (h2 i (.inr hi)), Nat.lt_of_lt_of_le (hOb i (h2 i (.inr hi))) hc.size⟩
    · intro i hi
      rcases (hg i hi).1 with h | h
      · exact h3 i h
      · exact ⟨by omega, fun hm => by have := hOb i (h2 i (.inr hm)); omega⟩
  · exact .inr ⟨rfl, hc.mono (fun i _ hi => h2 i (.inl hi)), O2, fun i hi => ⟨(hg i hi).1.imp_left (fun h => h2 i (.inl h)), (hg i hi).2⟩, rfl, n, O2, hN, hj2, fun _ h => h⟩
theorem HandOn.out (h : HandOn B0 J cs n O1 W) : ∃ Oj, J n Oj W ∧ ∀ i, Oj i → O1 i := by
  obtain ⟨Oj, h1, h2, _, _⟩ := h
  exact ⟨Oj, h1, fun i hi => h2 i (.inl hi)⟩
end Go.Proofs.Ytondngpmhlemkaa.Iter

/- graph.Callees, Entered, Callers: their iterators. No condition. -/
namespace Go.Proofs.Ytondngpmhlemkaa.Ext
open Go.RowKit Go.Proofs.YtondngpmhlemkaaW.PrintWords Go.Proofs.YtondngpmhlemkaaW.PrintLast Go.Proofs.YtondngpmhlemkaaW.PrintMore Go.Proofs.Ytondngpmhlemkaa.Sets Go.Proofs.Ytondngpmhlemkaa.Iter Go.Proofs.Ytondngpmhlemkaa.Pr
set_option linter.unusedVariables false
set_option linter.unusedSimpArgs false
attribute [local go_sem] Oper.semAt_some
def calleeOf (mark : Int) (f : S49) : Option Int := if f.f1 = mark then some f.f3 else none
def calleesL (l : List S49) (mark : Int) : List Int := (toldL l 5).filterMap (calleeOf mark)
def enteredL (l : List S49) : List Int := (toldL l 6).map (·.f1)
set_option maxHeartbeats 2000000 in
theorem callees1_iter (w00 w : World) (Bl Bm : Nat) (A : Option Addr) (ca : Nat) (l : List S49) (mark : Int) (hr : Kd.C k49 w00 A l.length l) (hB : w00.heap.size ≤ Bl ∧ w00.heap.size ≤ Bm) (hs : ToldSt w00 Bl Bm A ca l mark w) :
    IterOK Try.prog 33 #[.pointer (some ⟨Bl, 0, none⟩), .pointer (some ⟨Bm, 0, none⟩)] encI (calleesL l mark) w00.heap.size (fun i => i = Bl ∨ i = Bm) w := by
  intro y J Jx O W hcW hO hJ hJx hY h0
  have hs0 : ToldSt w00 Bl Bm A ca l mark W := hs.chg hcW (fun i hi => ⟨(hO i hi.1).2.1, fun e => (hO i hi.1).1 (.inl e), fun e => (hO i hi.1).1 (.inr e)⟩)
  have hltm := World.block_lt_of_cell? W _ hs0.boxk
  have hltl := World.block_lt_of_cell? W _ hs0.boxl
  have hsz := hs0.below.size
  simp only at hltm hltl
  have hboxl := hs0.boxl
  refine (callsIn_wide (n := 0)).1 ?_
  refine callsIn_of_wp_marks Try.func33 rfl trivial ?_ rfl
  simp only [Try.ntmps33, List.size_toArray, List.length_cons, List.length_nil, Nat.reduceAdd, Nat.reduceSub, Array.replicate_succ, Array.replicate_zero, List.push_toArray, List.append_toArray, List.nil_append, List.cons_append]
  have hdep : Fence.wide.depth = none := rfl
  have hfns : ∀ f, Fence.wide.fn f := fun _ => trivial
  have HO := Aside0.mk hO
  have HY := Aside0.mk hY
  have HJ := Aside0.mk hJ
  have HJx := Aside0.mk hJx
  have HR := Aside0.mk hr
  have HS := Aside0.mk hs0
  clear hO hY hJ hJx hr hs hs0 hcW
  gi_wp2_with (gi_at_call 34; refine (callsIn_wide.2 (told_calls _ _ _ rfl)).mono ?_; rintro e w' ⟨rfl, rfl⟩)
  obtain ⟨W3, hW3⟩ : ∃ W3, ((W.alloc (.cells #[.func (.yield y) #[] #[]] 53)).alloc (.cells #[.slice A l.length ca] 35)).alloc (.cells #[.int .i64 5] 3) = W3 := ⟨_, rfl⟩
  have hc3 : Chg (fun _ => False) W W3 := by rw [← hW3]; exact (((Chg.refl _ W).alloc _).alloc _).alloc _
  have hs3 : W3.heap.size = W.heap.size + 3 := by rw [← hW3]; simp
  have hy3 : W3.cell? ⟨W.heap.size, 0, none⟩ = some (.func (.yield y) #[] #[]) := by
    rw [← hW3]
    exact (cell_of_blk (t := 53) (by simp only [alloc_at, World.size_alloc]; simp (disch := omega) [if_pos, if_neg])).1
  have ht3 : ToldSt w00 (W.heap.size + 1) (W.heap.size + 2) A ca l 5 W3 := by
    refine ⟨HS.out.below.trans (hc3.below hsz (fun i h => h.elim)), ?_, ?_⟩
    · rw [← hW3]
      exact (cell_of_blk (t := 35) (by simp only [alloc_at, World.size_alloc]; simp (disch := omega) [if_pos, if_neg])).1
    · rw [← hW3]
      exact (cell_of_blk (t := 3) (by simp only [alloc_at, World.size_alloc]; simp (disch := omega) [if_pos, if_neg])).1
  have hit := told1_iter w00 W3 (W.heap.size + 1) (W.heap.size + 2) A ca l 5 HR.out (by omega) ht3
  have hst : HandOn w00.heap.size J [(Bm, .int .i64 mark), (W.heap.size, .func (.yield y) #[] #[])] 0 (fun i => O i ∨ i ∈ ([(Bm, .int .i64 mark), (W.heap.size, .func (.yield y) #[] #[])] : List (Nat × Value)).map (·.1)) W3 := by
    refine HandOn.start (HJ.out 0 O W W3 _ h0 hc3 (fun i h => h.elim)) (fun i hi => ⟨(HO.out i hi).2.1, fun hm => ?_⟩) (fun c hc => ?_)
    · simp at hm
      rcases hm with hm | hm
      · exact (HO.out i hi).1 (.inr hm)
      · have := (HO.out i hi).2.2; omega
    · simp at hc
      rcases hc with rfl | rfl
      · exact hc3.cell HS.out.boxk (fun h => h)
      · exact hy3
  rw [hW3]
  clear hW3 ht3 hy3 h0 hboxl
  refine wp_rangeFunc_go (gf := 47) (lb := #[.pointer (some ⟨W.heap.size + 1, 0, none⟩), .pointer (some ⟨W.heap.size + 2, 0, none⟩)]) rfl (enters_of Try.func47 (by kernel_rfl) rfl) hit (fun _ => rfl)
    _ (by omega) (fun i hi => ?_) (fun i hi => by rcases hi with rfl | rfl <;> omega) (Chg.refl _ _)
    (fun k => HandOn w00.heap.size J [(Bm, .int .i64 mark), (W.heap.size, .func (.yield y) #[] #[])] (((toldL l 5).take k).filterMap (calleeOf mark)).length) (fun c _ => HandX Jx (calleesL l mark).length c)
    (fun k => HandOn.abide HJ.out _ _) (fun c k => HandX.abide HJx.out _ c) hst ?round ?done ?stop
  · simp at hi
    rcases hi with hi | hi | hi
    · have := HO.out i hi
      exact ⟨this.2.1, by omega, by omega⟩
    · subst hi; exact ⟨by omega, by omega, by omega⟩
    · subst hi; exact ⟨by omega, by omega, by omega⟩
  case stop =>
    rintro D k c O1 W4 hD hnD hk ⟨rfl, n, Oj, hn, hx, hOj⟩ hK
    gi_wp2
    refine ⟨by simp, .inl ⟨_, _, rfl, run_takeDeferred hK, ?_⟩⟩
    exact ⟨_, results_none rfl _ _ _, ⟨_, rfl⟩, .inr ⟨n, Oj, hn, HJx.out n Oj W4 _ (fun i => i = D) hx (Chg.put1 _ _ _) (fun i e => by subst e; exact ⟨by omega, fun h => hnD (hOj _ h)⟩)⟩⟩
  case round =>
    intro l0 k x O1 W4 K hx hi hb hK
    dsimp only [encF]
    gi_wp2
    refine hK _ _ _ ((Chg.refl _ _).alloc _) (grow_alloc hb _) (hi.alloc HJ.out _) ?_
    have hn4 := heap_alloc_new W4 (.cells #[.int .i64 x.f0, .int .i64 x.f1, .string x.f2, .int .i64 x.f3] 49)
    have hkl : k < (toldL l 5).length := (List.getElem?_eq_some_iff.1 hx).1
    have HX := Aside0.mk hx
    clear hi hK hb hx
    intro l1 T Wb hc hT hOb hll hnl hrec hi
    have hn5 := hc.blk hn4 (fun ht => (hT _ ht).2 (.inr rfl))
    have hf1 : Wb.cell? ⟨W4.heap.size, 1, none⟩ = some (.int .i64 x.f1) := by simp [World.cell?, hn5]
    have hf3 : Wb.cell? ⟨W4.heap.size, 3, none⟩ = some (.int .i64 x.f3) := by simp [World.cell?, hn5]
    have hcm := hi.cell (g := Bm) (v := .int .i64 mark) (by simp)
    have hcy := hi.cell (g := W.heap.size) (v := .func (.yield y) #[] #[]) (by simp)
    have HI := Aside0.mk hi
    clear hi hn4 hn5 hrec hT hc hnl
    by_cases he : x.f1 = mark
    · have hox : calleeOf mark x = some x.f3 := by unfold calleeOf; rw [if_pos he]
      have HL := Aside0.mk (show ((List.take (k + 1) (toldL l 5)).filterMap (calleeOf mark)).length = ((List.take k (toldL l 5)).filterMap (calleeOf mark)).length + 1 by rw [fm_take _ HX.out, hox]; simp)
      have hxn := fm_at (calleeOf mark) HX.out hox
      have hyl := HI.out.call (y := y) (args := #[.int .i64 x.f3]) (Jx := Jx) (N := (calleesL l mark).length) hOb (fun Oj hj hOj => HY.out _ x.f3 Oj Wb hxn hj hOj) (List.getElem?_eq_some_iff.1 hxn).1 (by have := World.block_lt_of_cell? Wb _ hcm; simp at this; omega)
      obtain ⟨fn, tmps, asg, bdy, hy, hR⟩ := hyl
      have HR2 := Aside0.mk hR
      clear hR hxn hox
      subst he
      gi_wp2
      refine RoundIn.mono (F := Fence.wide.inRound l1) HR2.out ?_
      rintro e W' (⟨rfl, hr⟩ | ⟨rfl, hr⟩)
      · have HG := Aside0.mk hr
        clear hr hy hf1 hf3 hcm hcy
        gi_wp2
        have := HG.out
        rw [← HL.out] at this
        exact this
      · have HG := Aside0.mk hr
        clear hr hy hf1 hf3 hcm hcy
        gi_wp2
        exact HG.out
    · have hox : calleeOf mark x = none := by unfold calleeOf; rw [if_neg he]
      have HL := Aside0.mk (show ((List.take (k + 1) (toldL l 5)).filterMap (calleeOf mark)).length = ((List.take k (toldL l 5)).filterMap (calleeOf mark)).length by rw [fm_take _ HX.out, hox]; simp)
      have hne : (x.f1 == mark) = false := by simpa using he
      gi_wp2
      refine ⟨Chg.refl _ _, _, Grow.same hOb (Nat.le_refl _), ?_⟩
      dsimp only
      rw [HL.out]
      exact HI.out.more (fun _ h => h)
  case done =>
    intro D O1 W4 hD hnD hi hK
    rw [List.take_length] at hi
    obtain ⟨Oj, hj, hOj⟩ := hi.out
    gi_wp2
    refine ⟨by simp, .inl ⟨_, _, rfl, run_takeDeferred hK, ?_⟩⟩
    exact ⟨_, results_none rfl _ _ _, ⟨_, rfl⟩, .inl ⟨Oj, HJ.out _ Oj W4 _ (fun i => i = D) hj (Chg.put1 _ _ _) (fun i e => by subst e; exact ⟨by omega, fun h => hnD (hOj _ h)⟩)⟩⟩
end Go.Proofs.Ytondngpmhlemkaa.Ext

/- graph.Entered, Callers: their iterators; slices.Values; the contracts of Callees, Entered, Callers. No condition. -/
namespace Go.Proofs.Ytondngpmhlemkaa.Ext
open Go.RowKit Go.Proofs.YtondngpmhlemkaaW.PrintWords Go.Proofs.YtondngpmhlemkaaW.PrintLast Go.Proofs.YtondngpmhlemkaaW.PrintMore Go.Proofs.Ytondngpmhlemkaa.Sets Go.Proofs.Ytondngpmhlemkaa.Iter Go.Proofs.Ytondngpmhlemkaa.Pr
set_option linter.unusedVariables false
set_option linter.unusedSimpArgs false
attribute [local go_sem] Oper.semAt_some
structure Caps (w00 : World) (cs : List (Nat × Value)) (W : World) : Prop where
  below : Below w00.heap.size w00 W
  cells : ∀ c ∈ cs, W.cell? ⟨c.1, 0, none⟩ = some c.2
theorem Caps.chg {w00 : World} {cs : List (Nat × Value)} {W W' : World} {T : Nat → Prop} (h : Caps w00 cs W) (hc : Chg T W W') (hT : ∀ i, T i → w00.heap.size ≤ i ∧ ∀ c ∈ cs, i ≠ c.1) : Caps w00 cs W' :=
  ⟨h.below.trans (hc.below h.below.size (fun k hk => (hT k hk).1)), fun c hcs => hc.cell (h.cells c hcs) (fun ht => (hT _ ht).2 c hcs rfl)⟩
theorem Caps.at {w00 : World} {cs : List (Nat × Value)} {W : World} (h : Caps w00 cs W) {g : Nat} {v : Value} (hm : (g, v) ∈ cs) : W.cell? ⟨g, 0, none⟩ = some v := h.cells _ hm
structure CapsRel {α : Type} (w00 : World) (cs : List (Nat × Value)) (J : Nat → (Nat → Prop) → World → Prop) (n : Nat) (W : World) : Prop where
  st : Caps w00 cs W
  own : ∃ O1, J n O1 W ∧ ∀ i, O1 i → w00.heap.size ≤ i ∧ (∀ c ∈ cs, i ≠ c.1) ∧ i < W.heap.size
set_option maxHeartbeats 2000000 in
theorem entered1_iter (w00 w : World) (Bl : Nat) (A : Option Addr) (ca : Nat) (l : List S49) (hr : Kd.C k49 w00 A l.length l) (hB : w00.heap.size ≤ Bl) (hs : Caps w00 [(Bl, .slice A l.length ca)] w) :
    IterOK Try.prog 35 #[.pointer (some ⟨Bl, 0, none⟩)] encI (enteredL l) w00.heap.size (fun i => i = Bl) w := by
  intro y J Jx O W hcW hO hJ hJx hY h0
  have hs0 : Caps w00 [(Bl, .slice A l.length ca)] W := hs.chg hcW (fun i hi => ⟨(hO i hi.1).2.1, fun c hc => by simp at hc; subst hc; exact (hO i hi.1).1⟩)
  have hboxl := hs0.at (g := Bl) (v := .slice A l.length ca) (by simp)
  have hltl := World.block_lt_of_cell? W _ hboxl
  have hsz := hs0.below.size
  simp only at hltl
  refine (callsIn_wide (n := 0)).1 ?_
  refine callsIn_of_wp_marks Try.func35 rfl trivial ?_ rfl
  simp only [Try.ntmps35, List.size_toArray, List.length_cons, List.length_nil, Nat.reduceAdd, Nat.reduceSub, Array.replicate_succ, Array.replicate_zero, List.push_toArray, List.append_toArray, List.nil_append, List.cons_append]
  have hdep : Fence.wide.depth = none := rfl
  have hfns : ∀ f, Fence.wide.fn f := fun _ => trivial
  have HO := Aside0.mk hO
  have HY := Aside0.mk hY
  have HJ := Aside0.mk hJ
  have HJx := Aside0.mk hJx
  have HR := Aside0.mk hr
  have HS := Aside0.mk hs0
  clear hO hY hJ hJx hr hs hs0 hcW
  gi_wp2_with (gi_at_call 34; refine (callsIn_wide.2 (told_calls _ _ _ rfl)).mono ?_; rintro e w' ⟨rfl, rfl⟩)
  obtain ⟨W3, hW3⟩ : ∃ W3, ((W.alloc (.cells #[.func (.yield y) #[] #[]] 53)).alloc (.cells #[.slice A l.length ca] 35)).alloc (.cells #[.int .i64 6] 3) = W3 := ⟨_, rfl⟩
  have hc3 : Chg (fun _ => False) W W3 := by rw [← hW3]; exact (((Chg.refl _ W).alloc _).alloc _).alloc _
  have hs3 : W3.heap.size = W.heap.size + 3 := by rw [← hW3]; simp
  have hy3 : W3.cell? ⟨W.heap.size, 0, none⟩ = some (.func (.yield y) #[] #[]) := by
    rw [← hW3]
    exact (cell_of_blk (t := 53) (by simp only [alloc_at, World.size_alloc]; simp (disch := omega) [if_pos, if_neg])).1
  have ht3 : ToldSt w00 (W.heap.size + 1) (W.heap.size + 2) A ca l 6 W3 := by
    refine ⟨HS.out.below.trans (hc3.below hsz (fun i h => h.elim)), ?_, ?_⟩
    · rw [← hW3]
      exact (cell_of_blk (t := 35) (by simp only [alloc_at, World.size_alloc]; simp (disch := omega) [if_pos, if_neg])).1
    · rw [← hW3]
      exact (cell_of_blk (t := 3) (by simp only [alloc_at, World.size_alloc]; simp (disch := omega) [if_pos, if_neg])).1
  have hit := told1_iter w00 W3 (W.heap.size + 1) (W.heap.size + 2) A ca l 6 HR.out (by omega) ht3
  have hst : HandOn w00.heap.size J [(W.heap.size, .func (.yield y) #[] #[])] 0 (fun i => O i ∨ i ∈ ([(W.heap.size, .func (.yield y) #[] #[])] : List (Nat × Value)).map (·.1)) W3 := by
    refine HandOn.start (HJ.out 0 O W W3 _ h0 hc3 (fun i h => h.elim)) (fun i hi => ⟨(HO.out i hi).2.1, fun hm => ?_⟩) (fun c hc => ?_)
    · simp at hm
      have := (HO.out i hi).2.2; omega
    · simp at hc
      subst hc
      exact hy3
  rw [hW3]
  clear hW3 ht3 hy3 h0 hboxl
  refine wp_rangeFunc_go (gf := 47) (lb := #[.pointer (some ⟨W.heap.size + 1, 0, none⟩), .pointer (some ⟨W.heap.size + 2, 0, none⟩)]) rfl (enters_of Try.func47 (by kernel_rfl) rfl) hit (fun _ => rfl)
    _ (by omega) (fun i hi => ?_) (fun i hi => by rcases hi with rfl | rfl <;> omega) (Chg.refl _ _)
    (fun k => HandOn w00.heap.size J [(W.heap.size, .func (.yield y) #[] #[])] k) (fun c _ => HandX Jx (enteredL l).length c)
    (fun k => HandOn.abide HJ.out _ _) (fun c k => HandX.abide HJx.out _ c) hst ?round ?done ?stop
  · simp at hi
    rcases hi with hi | hi
    · have := HO.out i hi
      exact ⟨this.2.1, by omega, by omega⟩
    · subst hi; exact ⟨by omega, by omega, by omega⟩
  case stop =>
    rintro D k c O1 W4 hD hnD hk ⟨rfl, n, Oj, hn, hx, hOj⟩ hK
    gi_wp2
    refine ⟨by simp, .inl ⟨_, _, rfl, run_takeDeferred hK, ?_⟩⟩
    exact ⟨_, results_none rfl _ _ _, ⟨_, rfl⟩, .inr ⟨n, Oj, hn, HJx.out n Oj W4 _ (fun i => i = D) hx (Chg.put1 _ _ _) (fun i e => by subst e; exact ⟨by omega, fun h => hnD (hOj _ h)⟩)⟩⟩
  case round =>
    intro l0 k x O1 W4 K hx hi hb hK
    dsimp only [encF]
    gi_wp2
    refine hK _ _ _ ((Chg.refl _ _).alloc _) (grow_alloc hb _) (hi.alloc HJ.out _) ?_
    have hn4 := heap_alloc_new W4 (.cells #[.int .i64 x.f0, .int .i64 x.f1, .string x.f2, .int .i64 x.f3] 49)
    have HX := Aside0.mk hx
    clear hi hK hb hx
    intro l1 T Wb hc hT hOb hll hnl hrec hi
    have hn5 := hc.blk hn4 (fun ht => (hT _ ht).2 (.inr rfl))
    have hf1 : Wb.cell? ⟨W4.heap.size, 1, none⟩ = some (.int .i64 x.f1) := by simp [World.cell?, hn5]
    have hcy := hi.cell (g := W.heap.size) (v := .func (.yield y) #[] #[]) (by simp)
    have HI := Aside0.mk hi
    clear hi hn4 hn5 hrec hT hc hnl
    have hxn : (enteredL l)[k]? = some x.f1 := by unfold enteredL; rw [List.getElem?_map, HX.out]; rfl
    have hyl := HI.out.call (y := y) (args := #[.int .i64 x.f1]) (Jx := Jx) (N := (enteredL l).length) hOb (fun Oj hj hOj => HY.out _ x.f1 Oj Wb hxn hj hOj) (List.getElem?_eq_some_iff.1 hxn).1 (by have := World.block_lt_of_cell? Wb _ hcy; simp at this; omega)
    obtain ⟨fn, tmps, asg, bdy, hy, hR⟩ := hyl
    have HR2 := Aside0.mk hR
    clear hR hxn
    gi_wp2
    refine RoundIn.mono (F := Fence.wide.inRound l1) HR2.out ?_
    rintro e W' (⟨rfl, hr⟩ | ⟨rfl, hr⟩)
    · have HG := Aside0.mk hr
      clear hr hy hf1 hcy
      gi_wp2
      exact HG.out
    · have HG := Aside0.mk hr
      clear hr hy hf1 hcy
      gi_wp2
      exact HG.out
  case done =>
    intro D O1 W4 hD hnD hi hK
    have hl : (toldL l 6).length = (enteredL l).length := by simp [enteredL]
    rw [hl] at hi
    obtain ⟨Oj, hj, hOj⟩ := hi.out
    gi_wp2
    refine ⟨by simp, .inl ⟨_, _, rfl, run_takeDeferred hK, ?_⟩⟩
    exact ⟨_, results_none rfl _ _ _, ⟨_, rfl⟩, .inl ⟨Oj, HJ.out _ Oj W4 _ (fun i => i = D) hj (Chg.put1 _ _ _) (fun i e => by subst e; exact ⟨by omega, fun h => hnD (hOj _ h)⟩)⟩⟩
theorem rdE_at (l : List S24) (k : Nat) (hk : k < l.length) : l[k]? = some (rd_T24 l (k : Int)) := by
  unfold rd_T24
  rw [Int.toNat_natCast, List.getD_eq_getElem?_getD, List.getElem?_eq_getElem hk]
  rfl
/-! ### slices.Values -/
theorem values_calls (va : Value) (w : World) (h1 : va.oneCell' = true) :
    Calls Try.prog 30 #[va] w fun e w' => e = .returned (.func (.func 46) #[] #[.pointer (some ⟨w.heap.size, 0, none⟩)]) ∧ w' = w.alloc (.cells #[va] 27) := by
  go_enter Try.func30, Try.ntmps30
  go_wp2
  go_ret
  exact ⟨rfl, rfl⟩
set_option maxHeartbeats 2000000 in
theorem values1_iter (w00 w : World) (Bl : Nat) (A : Option Addr) (ca : Nat) (l : List Int) (hr : Kd.C (Kd.int .i64) w00 A l.length l) (hB : w00.heap.size ≤ Bl) (hs : Caps w00 [(Bl, .slice A l.length ca)] w) :
    IterOK Try.prog 46 #[.pointer (some ⟨Bl, 0, none⟩)] encI l w00.heap.size (fun i => i = Bl) w := by
  intro y J Jx O W hcW hO hJ hJx hY h0
  have hs0 : Caps w00 [(Bl, .slice A l.length ca)] W := hs.chg hcW (fun i hi => ⟨(hO i hi.1).2.1, fun c hc => by simp at hc; subst hc; exact (hO i hi.1).1⟩)
  have HREL := Aside0.mk (show CapsRel (α := Unit) w00 [(Bl, .slice A l.length ca)] J 0 W from ⟨hs0, O, h0, fun i hi => ⟨(hO i hi).2.1, fun c hc => by simp at hc; subst hc; exact (hO i hi).1, (hO i hi).2.2⟩⟩)
  have HY := Aside0.mk hY
  have HJ := Aside0.mk hJ
  have HR := Aside0.mk hr
  have hm : l.length ≤ 9223372036854775807 := hr.2.1
  have hboxl := hs0.at (g := Bl) (v := .slice A l.length ca) (by simp)
  clear hY hJ hJx h0 hs0 hr hs hcW hO
  refine (callsIn_wide (n := 0)).1 ?_
  refine callsIn_of_wp Try.func46 rfl trivial ?_ rfl
  simp only [Try.ntmps46, List.size_toArray, List.length_cons, List.length_nil, Nat.reduceAdd, Nat.reduceSub, Array.replicate_succ, Array.replicate_zero, List.push_toArray, List.append_toArray, List.nil_append, List.cons_append]
  gi_wp2
  gi_loopg [4, 7] l.length (fun kq v5 v8 w' => ∃ k : Nat, v8 = .int .i64 k ∧ k + kq = l.length ∧ CapsRel (α := Unit) w00 [(Bl, .slice A l.length ca)] J k w')
  case atStart => exact ⟨0, rfl, by omega, HREL.out⟩
  case round =>
    clear HREL hboxl
    obtain ⟨k, rfl, hk, hrel⟩ := hrel
    by_cases hlt : k < l.length
    · obtain ⟨ad, rfl, hc0⟩ := Kd.at_int (Kd.C_below HR.out hrel.st.below) (k : Int) (by omega) (by omega)
      rw [Int.toNat_natCast] at hc0
      have HX := Aside0.mk (show l[k]? = some (rd l (k : Int)) by unfold rd; rw [Int.toNat_natCast, List.getD_eq_getElem?_getD, List.getElem?_eq_getElem hlt]; rfl)
      obtain ⟨O1, hj, hd⟩ := hrel.own
      have hboxl := hrel.st.at (g := Bl) (v := .slice (some ad) l.length ca) (by simp)
      have Hlt := Aside0.mk (show Bl < wr.heap.size from World.block_lt_of_cell? wr _ hboxl)
      have HL := Aside0.mk hrel
      have HD := Aside0.mk hd
      clear hrel hd
      generalize rd l (k : Int) = x at *
      have hyl := HY.out _ x O1 _ HX.out hj (fun i hi => (HD.out i hi).2.2)
      obtain ⟨fn, tmps, asg, bdy, hy, hR⟩ := hyl
      dsimp only [encI] at hy
      have HR2 := Aside0.mk hR
      clear hR hj
      gi_wp2
      refine ⟨rfl, HR2.out.mono ?_⟩
      rintro e W' (⟨rfl, ⟨O2, hO2, hJ2⟩, hc⟩ | ⟨rfl, ⟨O2, hO2, hx⟩, hc⟩)
      · have HG := Aside0.mk (show CapsRel (α := Unit) w00 [(Bl, .slice (some ad) l.length ca)] J (k + 1) W' from ⟨HL.out.st.chg hc (fun i hi => ⟨(HD.out i hi).1, (HD.out i hi).2.1⟩), O2, hJ2, fun i hi => (hO2 i hi).1.elim (fun h => ⟨(HD.out i h).1, (HD.out i h).2.1, (hO2 i hi).2⟩) (fun h => by
            have h0 := (hO2 i hi).2
            have h1 := HL.out.st.below.size
            have h2 := Hlt.out
            refine ⟨by omega, fun c hc => ?_, h0⟩
            simp at hc
            subst hc
            simp only
            omega)⟩)
        clear hO2 hJ2 hc hy hc0 hboxl
        gi_wp2
        gi_roundg (gk - 1)
        case measure => omega
        case rel => exact ⟨k + 1, by go_num, by omega, HG.out⟩
      · gi_wp2
        refine bodyPost_ret (results_none rfl _ _ _) rfl ?_
        exact ⟨⟨_, rfl⟩, .inr ⟨_, O2, hlt, hx⟩⟩
    · obtain rfl : k = l.length := by omega
      have HF := Aside0.mk hrel
      clear hrel
      gi_wp2
      go_end0
      obtain ⟨O1, hj, _⟩ := HF.out.own
      exact ⟨⟨_, rfl⟩, .inl ⟨O1, hj⟩⟩
end Go.Proofs.Ytondngpmhlemkaa.Ext
namespace Go.Proofs.Ytondngpmhlemkaa.Gr
open Go.RowKit Go.Proofs.YtondngpmhlemkaaW.PrintWords Go.Proofs.YtondngpmhlemkaaW.PrintLast Go.Proofs.YtondngpmhlemkaaW.PrintMore Go.Proofs.Ytondngpmhlemkaa.Sets Go.Proofs.Ytondngpmhlemkaa.Iter Go.Proofs.Ytondngpmhlemkaa.Pr Go.Proofs.Ytondngpmhlemkaa.Ext
set_option linter.unusedVariables false
set_option linter.unusedSimpArgs false
theorem toldL_length (l : List S49) (k : Int) : (toldL l k).length ≤ l.length := List.length_filterMap_le _ _
def graph_Callees.f (l : List S49) (mark : Int) : Option (List Int) := if l.length ≤ 17592186044416 then some (sset (calleesL l mark)) else none
set_option maxHeartbeats 400000 in
theorem graph_Callees.calls (A0 : Option Addr) (c0 : Nat) (l0 : List S49) (a1 : Int) (r : List Int) (w : World) (hr0 : Kd.C k49 w A0 l0.length l0) (hc0 : l0.length ≤ c0) (h : graph_Callees.f l0 a1 = some r) :
    Calls Try.prog 16 #[.slice A0 l0.length c0, .int .i64 a1] w fun e w' => ∃ v0_ : Value, e = .returned v0_ ∧ Kd.V (Kd.int .i64) 3 w' w.heap.size (fun k_ => w.heap.size ≤ k_) v0_ r ∧ Below w.heap.size w w' := by
  unfold graph_Callees.f at h
  by_cases hl : l0.length ≤ 17592186044416
  case neg => rw [if_neg hl] at h; cases h
  rw [if_pos hl] at h
  obtain rfl := Option.some.inj h
  obtain ⟨W2, hW2⟩ : ∃ W2, (w.alloc (.cells #[.slice A0 l0.length c0] 35)).alloc (.cells #[.int .i64 a1] 3) = W2 := ⟨_, rfl⟩
  have hb : Below w.heap.size w W2 := by rw [← hW2]; exact ((Below.refl _ w).alloc (Nat.le_refl _) _).alloc (by simp) _
  have hs2 : W2.heap.size = w.heap.size + 2 := by rw [← hW2]; simp
  have hst : ToldSt w w.heap.size (w.heap.size + 1) A0 c0 l0 a1 W2 := by
    refine ⟨hb, ?_, ?_⟩
    · rw [← hW2]
      exact (cell_of_blk (t := 35) (by simp only [alloc_at, World.size_alloc]; simp (disch := omega) [if_pos, if_neg])).1
    · rw [← hW2]
      exact (cell_of_blk (t := 3) (by simp only [alloc_at, World.size_alloc]; simp (disch := omega) [if_pos, if_neg])).1
  have HS := Aside0.mk (set_calls (enters_of Try.func33 (by kernel_rfl) rfl) (callees1_iter w W2 w.heap.size (w.heap.size + 1) A0 c0 l0 a1 hr0 (by omega) hst) (Below.refl _ _) (by omega) (fun i hi => by rcases hi with rfl | rfl <;> omega) (Nat.le_trans (List.length_filterMap_le _ _) (Nat.le_trans (toldL_length l0 5) hl)))
  rw [← hW2] at HS
  have HB := Aside0.mk hb
  have HW2 := Aside0.mk hW2
  clear hr0 hc0 h hst hb hs2 hW2
  go_enter Try.func16, Try.ntmps16
  go_wp2_with (go_at_call 29; refine HS.out.mono ?_; rintro e w' ⟨v, rfl, hV, hB⟩; have HV := Aside0.mk hV; have HB2 := Aside0.mk hB; clear hV hB)
  go_ret
  refine ⟨_, rfl, Kd.V_mono HV.out (fun k hk => ?_), ?_⟩
  · simp at hk; omega
  · have := HB.out
    rw [← HW2.out] at this
    exact this.trans HB2.out
def graph_Entered.f (l : List S49) : Option (List Int) := if l.length ≤ 17592186044416 then some (sset (enteredL l)) else none
set_option maxHeartbeats 400000 in
theorem graph_Entered.calls (A0 : Option Addr) (c0 : Nat) (l0 : List S49) (r : List Int) (w : World) (hr0 : Kd.C k49 w A0 l0.length l0) (hc0 : l0.length ≤ c0) (h : graph_Entered.f l0 = some r) :
    Calls Try.prog 19 #[.slice A0 l0.length c0] w fun e w' => ∃ v0_ : Value, e = .returned v0_ ∧ Kd.V (Kd.int .i64) 3 w' w.heap.size (fun k_ => w.heap.size ≤ k_) v0_ r ∧ Below w.heap.size w w' := by
  unfold graph_Entered.f at h
  by_cases hl : l0.length ≤ 17592186044416
  case neg => rw [if_neg hl] at h; cases h
  rw [if_pos hl] at h
  obtain rfl := Option.some.inj h
  have hb : Below w.heap.size w (w.alloc (.cells #[.slice A0 l0.length c0] 35)) := (Below.refl _ w).alloc (Nat.le_refl _) _
  have hst : Caps w [(w.heap.size, .slice A0 l0.length c0)] (w.alloc (.cells #[.slice A0 l0.length c0] 35)) :=
    ⟨hb, fun c hc => by simp at hc; subst hc; exact (cell_of_blk (heap_alloc_new w _)).1⟩
  have HS := Aside0.mk (set_calls (enters_of Try.func35 (by kernel_rfl) rfl) (entered1_iter w _ w.heap.size A0 c0 l0 hr0 (Nat.le_refl _) hst) (Below.refl _ _) (by simp) (fun i hi => by subst hi; simp) (by unfold enteredL; rw [List.length_map]; exact Nat.le_trans (toldL_length l0 6) hl))
  have HB := Aside0.mk hb
  clear hr0 hc0 h hst hb
  go_enter Try.func19, Try.ntmps19
  go_wp2_with (go_at_call 29; refine HS.out.mono ?_; rintro e w' ⟨v, rfl, hV, hB⟩; have HV := Aside0.mk hV; have HB2 := Aside0.mk hB; clear hV hB)
  go_ret
  refine ⟨_, rfl, Kd.V_mono HV.out (fun k hk => ?_), HB.out.trans HB2.out⟩
  simp at hk; omega
end Go.Proofs.Ytondngpmhlemkaa.Gr

/- A map from whole numbers to truths, as a set: over whatever program. -/
namespace Go.Proofs.Ytondngpmhlemkaa.ISet
open Go.RowKit Go.Maps Go.Proofs.Ytondngpmhlemkaa.Iter
set_option linter.unusedVariables false
def wfI (x : Int) : Prop := (Lit.int .i64 x).wf = true
instance (x : Int) : Decidable (wfI x) := inferInstanceAs (Decidable (_ = _))
theorem plainElem_bool_inv {H : Type} {P : Program} {e : TypeId} (he : P.underlying e = some .bool) {v : Value} {z : DataW H × List MemPlace} (h : plainElem P e v = some z) : ∃ a, v = .bool a ∧ z = (.lit (.bool a), []) := by
  cases v <;> simp_all [plainElem]
def ISet (P : Program) (K E : TypeId) (W : World) (b n : Nat) (S : Int → Bool) : Prop :=
  ∃ D : DataW Unit, W.ownsMap P K (plainElem P E) b n D ∧ ∀ x, wfI x → D.atKey (.int .i64 x) (.lit (.bool false)) = .lit (.bool (S x))
variable {P : Program} {K E : TypeId} {W : World} {b n : Nat} {S : Int → Bool}
theorem isKeyLit_int (x : Int) : WideAt.IsKeyLit (.int .i64 x) := by simp [WideAt.IsKeyLit]
theorem ISet.made (W : World) : ISet P K E (W.alloc (.map #[] 0)) W.heap.size 0 (fun _ => false) :=
  ⟨.map [], World.ownsMap_made W P K _, fun x _ => rfl⟩
theorem ISet.mono (h : ISet P K E W b n S) {n' : Nat} (hn : n ≤ n') : ISet P K E W b n' S := by
  obtain ⟨D, h1, h2⟩ := h
  exact ⟨D, h1.mono hn, h2⟩
theorem ISet.lt (h : ISet P K E W b n S) : b < W.heap.size := by
  obtain ⟨D, h1, _⟩ := h
  exact h1.lt
theorem ISet.chg {T : Nat → Prop} {W' : World} (h : ISet P K E W b n S) (hc : Chg T W W') (hn : ¬ T b) : ISet P K E W' b n S := by
  obtain ⟨D, ⟨es, clock, hb, F, hs, hD⟩, h2⟩ := h
  exact ⟨D, ⟨es, clock, hc.blk hb hn, F, hs, hD⟩, h2⟩
theorem ISet.look (h : ISet P K E W b n S) {t : TypeId} (hk : P.underlying K = some (.int .i64)) (he : P.underlying E = some .bool) (ht : P.underlying t = some (.map K E)) (hz : (zeroValue E).run P W = .ok (.bool false) W) (x : Int) (hx : wfI x) :
    (Instr.lookup t (.map (some b)) (.int .i64 x) false).run P W = .ok (.bool (S x)) W := by
  obtain ⟨D, hown, hS⟩ := h
  obtain ⟨v, ps, hrun, hv⟩ := hown.lookup (int_keyed hk) ht hz (plainElem_bool he false) (keyOf_int_mk hk hx)
  obtain ⟨c, rfl, hc⟩ := plainElem_bool_inv he hv
  rw [hS x hx] at hc
  simp only [Prod.mk.injEq, DataW.lit.injEq, Lit.bool.injEq] at hc
  rw [hrun, ← hc.1]
theorem ISet.put (h : ISet P K E W b n S) {t : TypeId} (hk : P.underlying K = some (.int .i64)) (he : P.underlying E = some .bool) (ht : P.underlying t = some (.map K E)) (hn : n < maxLen) (x : Int) (hx : wfI x) (v : Bool) :
    ∃ W', (Instr.mapUpdate t (.map (some b)) (.int .i64 x) (.bool v)).run P W = .ok () W' ∧ ISet P K E W' b (n + 1) (fun y => if y = x then v else S y) ∧ Chg (fun i => i = b) W W' := by
  obtain ⟨D, hown, hS⟩ := h
  obtain ⟨W', hrun, hown', hg⟩ := hown.update (int_keyed hk) ht hn (keyOf_int_mk hk hx) (plainElem_bool he v)
  refine ⟨W', hrun, ⟨_, hown', fun y hy => ?_⟩, (Chg.of_grown hg).mono (fun i _ h => by injection h with h; exact h.symm)⟩
  show _ = DataW.lit (Lit.bool (if y = x then v else S y))
  by_cases e : y = x
  · subst e
    rw [if_pos rfl, atKey_put_same hown.isMap (isKeyLit_int y)]
  · rw [if_neg e, atKey_put_other (by intro h; injection h with _ h; exact e h), hS y hy]
theorem ISet.del (h : ISet P K E W b n S) {t : TypeId} (hk : P.underlying K = some (.int .i64)) (ht : P.underlying t = some (.map K E)) (x : Int) (hx : wfI x) (ty : TypeId) :
    ∃ W', (Builtin.delete_ #[t, K] ty #[.map (some b), .int .i64 x]).run P W = .ok (.tuple #[]) W' ∧ ISet P K E W' b n (fun y => if y = x then false else S y) ∧ Chg (fun i => i = b) W W' := by
  obtain ⟨D, hown, hS⟩ := h
  obtain ⟨W', hrun, hown', hg⟩ := hown.drop (int_keyed hk) ht (keyOf_int_mk hk hx) ty
  refine ⟨W', hrun, ⟨_, hown', fun y hy => ?_⟩, (Chg.of_grown hg.grown).mono (fun i _ h => by injection h with h; exact h.symm)⟩
  show _ = DataW.lit (Lit.bool (if y = x then false else S y))
  by_cases e : y = x
  · subst e
    rw [if_pos rfl, atKey_del_same]
  · rw [if_neg e, atKey_del_other (by intro h; injection h with _ h; exact e h), hS y hy]
theorem wpList_del_set {ops : Array Oper} {rest : List Oper} {o : Oper} {a : Act} {Q : Exit → Act → World → Prop} (hg : o.guard = none) (m x : Operand) (t : TypeId) (hop : o.op = Op.call { callee := Callee.builtin Builtin.delete, args := #[m, x], argTypes := #[t, K] })
    (hk : P.underlying K = some (.int .i64)) (ht : P.underlying t = some (.map K E)) (hm : a.eval m = .map (some b)) (h : ISet P K E W b n S) (y : Int) (hx : a.eval x = .int .i64 y) (hy : wfI y)
    (hK : ∀ W', ISet P K E W' b n (fun z => if z = y then false else S z) → Chg (fun i => i = b) W W' → wpList P ops Q rest (a.put o.dst (.tuple #[])) W') :
    wpList P ops Q (o :: rest) a W := by
  refine wpList_plain hg fun K' hK' => ?_
  obtain ⟨W', hrun, r1, r2⟩ := h.del hk ht y hy o.type
  unfold Oper.wp
  simp [execOp, hop, resolve, invoke, builtin, hm, hx, hrun, Result.andThen]
  exact hK' _ _ (hK W' r1 r2)
end Go.Proofs.Ytondngpmhlemkaa.ISet

/- A map of slices of whole numbers that a call has made (each key's slice grows by appending), as a function of its keys. No condition. -/
namespace Go.Proofs.Ytondngpmhlemkaa.Gp
open Go.RowKit Go.Maps Go.ChangeShapes Go.WideShapes Go.MapKept Go.ChangeMaps Go.Proofs.Ytondngpmhlemkaa.Iter Go.Proofs.Ytondngpmhlemkaa.ISet Go.Proofs.YtondngpmhlemkaaW.PrintWords
open Go.WideElems (Fit rd rg pl rd_val elemAt)
set_option linter.unusedVariables false
set_option linter.unusedSimpArgs false
def itemOf : DataW Unit → Option Int
  | .lit (.int _ n) => some n
  | _ => none
def items : DataW Unit → List Int
  | .slice xs _ => xs.filterMap itemOf
  | _ => []
theorem items_lits (q : IntKind) (zs : List Int) : items (.slice (lits q zs) []) = zs := by
  show (lits q zs).filterMap itemOf = zs
  unfold lits
  rw [List.filterMap_map]
  induction zs with
  | nil => rfl
  | cons z zs ih => rw [List.filterMap_cons]; simp only [Function.comp, itemOf, List.cons.injEq, true_and]; exact ih
theorem items_row {w : World} {base : Nat} {e : TypeId} {q : IntKind} {v : Value} {zs : List Int} (h : w.ownsInts base e q v zs) : items (rowDatum q v zs) = zs := by
  rcases h.datum (H := Unit) with ⟨h1, h2⟩ | h1
  · rw [h1, h2]; rfl
  · rw [h1, items_lits]
theorem ownsInts_chg {T : Nat → Prop} {W W' : World} {base : Nat} {e : TypeId} {q : IntKind} {v : Value} {zs : List Int} (h : W.ownsInts base e q v zs) (hc : Chg T W W') (hn : ∀ g, v.ownBlock = some g → ¬ T g) : W'.ownsInts base e q v zs :=
  ⟨own_move h.1 (fun k hk => hc.block k (h.1.lt k hk).2 (hn k hk)), h.2⟩
structure GMap (P : Program) (K e : TypeId) (W : World) (b n : Nat) (G : Int → List Int) (O : Nat → Prop) : Prop where
  map : ∃ D : DataW Unit, W.ownsGroups P K (b + 1) e .i64 b n D ∧ ∀ x, wfI x → items (D.atKey (.int .i64 x) .nil) = G x
  own : O b
  rows : W.Shuns b (fun i => ¬ O i)
variable {P : Program} {K e : TypeId} {W : World} {b n : Nat} {G : Int → List Int} {O : Nat → Prop}
theorem groups_isMap {D : DataW Unit} {base : Nat} (h : W.ownsGroups P K base e .i64 b n D) : IsMap D := by
  obtain ⟨es, clock, _, _, _, hD, _⟩ := h
  exact ⟨_, hD⟩
theorem GMap.made (W : World) (hO : O W.heap.size) : GMap P K e (W.alloc (.map #[] 0)) W.heap.size 0 (fun _ => []) O :=
  ⟨⟨.map [], World.ownsGroups_made W P K e .i64, fun x _ => rfl⟩, hO, World.Shuns_made W _⟩
theorem GMap.lt (h : GMap P K e W b n G O) : b < W.heap.size := by
  obtain ⟨D, ⟨es, clock, hb, _⟩, _⟩ := h.map
  exact (Array.getElem?_eq_some_iff.1 hb).1
theorem GMap.chg {T : Nat → Prop} {W' : World} (h : GMap P K e W b n G O) (hc : Chg T W W') (hn : ∀ i, O i → ¬ T i) : GMap P K e W' b n G O := by
  obtain ⟨D, ⟨es, clock, hb, F, hs, hD, hbb, hlen, hap⟩, hG⟩ := h.map
  have hlt : b < W.heap.size := (Array.getElem?_eq_some_iff.1 hb).1
  have hb' : W'.heap[b]? = some (.map es clock) := (hc.block b hlt (hn b h.own)).trans hb
  have hoff : ∀ x ∈ es.toList, ∀ g, x.val.ownBlock = some g → ¬ T g := fun x hx g hg ht => h.rows es clock hb x hx g hg (fun ho => hn g ho ht)
  have hst : ∀ x ∈ es.toList, ∀ z, rowElem (H := Unit) W (b + 1) e .i64 x.val = some z → rowElem W' (b + 1) e .i64 x.val = some z := fun x hx z hz => by
    obtain ⟨zs, ho, rfl⟩ := rowElem_inv hz
    exact rowElem_mk (ownsInts_chg ho hc (hoff x hx))
  obtain ⟨F1, hmap, _⟩ := F.stay hst
  refine ⟨⟨D, ⟨es, clock, hb', F1, hs, by rw [hmap]; exact hD, hbb, fun x hx zs ho => ?_, hap⟩, hG⟩, h.own, fun es' clock' he x hx g hg => ?_⟩
  · obtain ⟨y, hy⟩ := F.reads x hx
    obtain ⟨z, hz, _⟩ := rd_val hy
    obtain ⟨zs0, ho0, _⟩ := rowElem_inv hz
    rw [ho.unique (ownsInts_chg ho0 hc (hoff x hx))]
    exact hlen x hx zs0 ho0
  · rw [hb'] at he
    cases he
    exact h.rows es clock hb x hx g hg
theorem GMap.mono {O2 : Nat → Prop} (h : GMap P K e W b n G O) (hO : ∀ i, O i → O2 i) : GMap P K e W b n G O2 :=
  ⟨h.map, hO _ h.own, fun es clock he x hx g hg hn => h.rows es clock he x hx g hg (fun ho => hn (hO g ho))⟩
theorem GMap.bound (h : GMap P K e W b n G O) : GMap P K e W b n G (fun i => O i ∧ i < W.heap.size) := by
  refine ⟨h.map, ⟨h.own, h.lt⟩, fun es clock he x hx g hg hn => ?_⟩
  obtain ⟨D, ⟨es', clock', hb, F, _⟩, _⟩ := h.map
  rw [hb] at he
  cases he
  obtain ⟨y, hy⟩ := F.reads x hx
  obtain ⟨z, hz, _⟩ := rd_val hy
  obtain ⟨zs0, ho0, _⟩ := rowElem_inv hz
  exact h.rows es clock hb x hx g hg (fun ho => hn ⟨ho, (ho0.1.lt g hg).2⟩)
theorem GMap.same {G' : Int → List Int} (h : GMap P K e W b n G O) (hG : ∀ x, wfI x → G x = G' x) : GMap P K e W b n G' O := by
  obtain ⟨D, h1, h2⟩ := h.map
  exact ⟨⟨D, h1, fun x hx => (h2 x hx).trans (hG x hx)⟩, h.own, h.rows⟩
theorem lookup_fixed {t E : TypeId} (hk : P.underlying K = some (.int .i64)) (ht : P.underlying t = some (.map K E)) (hz : ∀ W, (zeroValue E).run P W = .ok (.slice none 0 0) W) {es : Array MapEntry} {clock : Nat}
    (hkeys : ∀ y ∈ es.toList, ∃ l, keyOf P K y.key = some l) (x : Int) (hx : wfI x) :
    ∃ v, ∀ W' : World, W'.heap[b]? = some (.map es clock) → (Instr.lookup t (.map (some b)) (.int .i64 x) false).run P W' = .ok v W' := by
  have hkey : keyOf P K (.int .i64 x) = some (.int .i64 x) := keyOf_int_mk hk hx
  have isK : ∀ {v : Value} {l : Lit}, keyOf P K v = some l → IsKey (.int .i64) v := fun {v l} h => by
    have h' : mapKey P K v = some l := by simpa [keyOf, hk] using h
    obtain ⟨d', hd', h1, h2⟩ := mapKey_isKey h'
    rw [hk] at hd'
    cases hd'
    exact h1
  have hks : ∀ y ∈ es.toList, IsKey (.int .i64) y.key := fun y hy => by
    obtain ⟨l, hl⟩ := hkeys y hy
    exact isK hl
  rcases findNow_spec (isK hkey) es.toList 0 hks with ⟨h1, h2⟩ | ⟨j, e0, h1, h2, h3⟩
  · exact ⟨.slice none 0 0, fun W' hb => by simp [Instr.lookup, run_underlying ht, MapKept.run_getObj_map hb, (int_keyed hk).check W' _ hkey, run_findKey hk h1, hz, Result.andThen]⟩
  · exact ⟨e0.val, fun W' hb => by simp [Instr.lookup, run_underlying ht, MapKept.run_getObj_map hb, (int_keyed hk).check W' _ hkey, run_findKey hk h1, hz, Result.andThen]⟩
theorem GMap.look (h : GMap P K e W b n G O) {t E : TypeId} (hk : P.underlying K = some (.int .i64)) (ht : P.underlying t = some (.map K E)) (hz : ∀ W, (zeroValue E).run P W = .ok (.slice none 0 0) W) (hn : n < maxLen) (x : Int) (hx : wfI x) :
    ∃ v, (∃ es clock, W.heap[b]? = some (.map es clock) ∧ ∀ W' : World, W'.heap[b]? = some (.map es clock) → (Instr.lookup t (.map (some b)) (.int .i64 x) false).run P W' = .ok v W') ∧ W.ownsInts (b + 1) e .i64 v (G x) ∧ (G x).length ≤ n ∧ (∀ g, v.ownBlock = some g → O g ∧ g ≠ b) ∧
      ∀ (W1 : World) (v' : Value) (zs' : List Int), W.grownBy W1 v.ownBlock → W1.ownsInts (b + 1) e .i64 v' zs' → zs'.length ≤ n + 1 → (v'.ownBlock = v.ownBlock ∨ ∃ g, v'.ownBlock = some g ∧ W.heap.size ≤ g) →
        ∃ W2, (Instr.mapUpdate t (.map (some b)) (.int .i64 x) v').run P W1 = .ok () W2 ∧ GMap P K e W2 b (n + 1) (fun y => if y = x then zs' else G y) (fun i => O i ∨ W.heap.size ≤ i) ∧ W1.grownBy W2 (some b) := by
  obtain ⟨D, hown, hG⟩ := h.map
  have hkey : keyOf P K (.int .i64 x) = some (.int .i64 x) := keyOf_int_mk hk hx
  obtain ⟨v, zs, hrun, hat, hoi, hzl, hback⟩ := hown.at (int_keyed hk) ht (hz W) hn hkey
  have hzs : zs = G x := by rw [← hG x hx, hat, items_row hoi]
  subst hzs
  have hvO : ∀ g, v.ownBlock = some g → O g ∧ g ≠ b := by
    obtain ⟨es, clock, hb, F, _⟩ := hown
    rcases Maps.fit_look false (int_keyed hk) ht (hz W) hb F hkey with ⟨hrun', _, _⟩ | ⟨e0, y, hm0, _, hrun', _, _, _⟩
    · rw [hrun] at hrun'
      obtain rfl : v = .slice none 0 0 := by simpa using hrun'
      intro g hg'
      cases hg'
    · rw [hrun] at hrun'
      obtain rfl : v = e0.val := by simpa using hrun'
      intro g hg'
      refine ⟨Classical.byContradiction (fun hn => h.rows es clock hb e0 hm0 g hg' hn), fun e1 => ?_⟩
      have := (hoi.1.lt g hg').1
      omega
  have hfix : ∃ es clock, W.heap[b]? = some (.map es clock) ∧ ∀ W' : World, W'.heap[b]? = some (.map es clock) → (Instr.lookup t (.map (some b)) (.int .i64 x) false).run P W' = .ok v W' := by
    obtain ⟨es, clock, hb, F, _⟩ := hown
    obtain ⟨v2, h2⟩ := lookup_fixed (b := b) (clock := clock) hk ht hz (fun y hy => F.keys y hy) x hx
    have := h2 W hb
    rw [hrun] at this
    obtain rfl : v = v2 := by simpa using this
    exact ⟨es, clock, hb, h2⟩
  refine ⟨v, hfix, hoi, hzl, hvO, fun W1 v' zs' hg hoi' hl' hloc => ?_⟩
  obtain ⟨W2, hrun2, hown2, hg2⟩ := hback W1 v' zs' hg hoi' hl' hloc
  refine ⟨W2, hrun2, ⟨⟨_, hown2, fun y hy => ?_⟩, .inl h.own, ?_⟩, hg2⟩
  · show _ = if y = x then zs' else G y
    by_cases ex : y = x
    · subst ex
      rw [if_pos rfl, atKey_put_same (groups_isMap hown) (isKeyLit_int y), items_row hoi']
    · rw [if_neg ex, atKey_put_other (by intro h; injection h with _ h; exact ex h), hG y hy]
  · obtain ⟨es, clock, hb, F, hs, _, hbb, _⟩ := hown
    have hblt : b < W.heap.size := (Array.getElem?_eq_some_iff.1 hb).1
    have hb1 : W1.heap[b]? = some (.map es clock) := (hg.block b hblt (fun e1 => (hvO b e1.symm).2 rfl)).trans hb
    obtain ⟨es', clock', hb2, hwho⟩ := stored_who (int_keyed hk) ht hb1 F (Nat.lt_of_le_of_lt hs hn) hkey hrun2
    intro es2 clock2 hb2' y hy g hyg hno
    obtain ⟨rfl, rfl⟩ : es' = es2 ∧ clock' = clock2 := by rw [hb2] at hb2'; simpa using hb2'
    rcases hwho y hy with ⟨hy0, _⟩ | ⟨_, hval⟩
    · exact h.rows es clock hb y hy0 g hyg (fun ho => hno (.inl ho))
    · rw [hval] at hyg
      rcases hloc with h1 | ⟨g', h1, h2⟩
      · exact hno (.inl (hvO g (by rw [← h1]; exact hyg)).1)
      · rw [h1] at hyg
        injection hyg with hyg
        exact hno (.inr (by omega))
end Go.Proofs.Ytondngpmhlemkaa.Gp

-- WRITTEN BY hprint.py (a patched scratch copy of print.py, see NOTES.md): out of the translation and of contracts proved by hand.
namespace Go.Proofs.Ytondngpmhlemkaa.Pp
open Go.RowKit Go.Proofs.YtondngpmhlemkaaW.PrintWords Go.Proofs.YtondngpmhlemkaaW.PrintLast Go.Proofs.YtondngpmhlemkaaW.PrintMore
attribute [local go_sem] min2_int min_two
set_option linter.unusedVariables false
set_option linter.unusedSimpArgs false
def errW : Option Int → Value
  | none => .nilIface
  | some c => .iface 0 (.int .i64 c)
theorem errW_none : errW none = .nilIface := rfl
theorem errW_some (c : Int) : errW (some c) = .iface 0 (.int .i64 c) := rfl
-- the values' own types
end Go.Proofs.Ytondngpmhlemkaa.Pp

-- WRITTEN BY hprint.py (a patched scratch copy of print.py, see NOTES.md): out of the translation and of contracts proved by hand.
namespace Go.Proofs.Ytondngpmhlemkaa.Pp
open Go.RowKit Go.Proofs.YtondngpmhlemkaaW.PrintWords Go.Proofs.YtondngpmhlemkaaW.PrintLast Go.Proofs.YtondngpmhlemkaaW.PrintMore
attribute [local go_sem] min2_int min_two
set_option linter.unusedVariables false
set_option linter.unusedSimpArgs false
/-! ### cmp_Or_int: function 39 -/
def cmp_Or_int.l0 : Nat → Int → List Int → Int → Int → Option (Int)
  | 0, _, _, _, _ => none
  | k + 1, x3, x6, x7, x8 => if x8 < x7 then (if 0 ≤ x8 then (if x8 < (x6.length : Int) then (if (rd x6 x8) = x3 then (cmp_Or_int.l0 k x3 x6 x7 (wrap64 (x8 + 1))) else (some (rd x6 x8))) else (none)) else (none)) else (some x3)
def cmp_Or_int.f (k : Nat) (l0 : List Int) : Option (Int) := cmp_Or_int.l0 k 0 l0 (l0.length : Int) 0
set_option maxHeartbeats 8000000 in
set_option maxRecDepth 100000 in
theorem cmp_Or_int.calls (k : Nat) (A0 : Option Addr) (c0 : Nat) (l0 : List Int) (r : Int) (w : World) (hr0 : Kd.C (Kd.int .i64) w A0 l0.length l0) (hc0 : l0.length ≤ c0) (h : cmp_Or_int.f k l0 = some r) :
    Calls Try.prog 39 #[.slice A0 l0.length c0] w fun e w' => e = .returned (.int .i64 r) ∧ Drawn0 w w' := by
  have HR0 := Aside0.mk hr0
  have HC0 := Aside0.mk hc0
  clear hr0 hc0
  have H : (cmp_Or_int.l0 k 0 l0 (l0.length : Int) 0) = some r := h
  clear h
  have H' := Aside0.mk H
  clear H
  go_enter Try.func39, Try.ntmps39
  go_wp2
  go_loopg [8] k (fun kq v8 w' => ∃ (x8_1 : Int), v8 = .int .i64 x8_1 ∧ Aside0 (cmp_Or_int.l0 kq 0 l0 (l0.length : Int) x8_1 = some r) ∧ Aside0 (kq ≤ k) ∧ Drawn0 w w')
  case atStart => exact ⟨(0), (by first | rfl | (simp; done) | (simp [*]; done) | (simp [*]; exact (fun (l_ : List UInt8) => (by cases l_ <;> rfl : l_.isEmpty = !(l_ != []))) _)), H', ⟨Nat.le_refl _⟩, by repeat (first | exact Drawn0.refl _ | apply Drawn0.step)⟩
  case round =>
    clear H'
    obtain ⟨x8_1, rfl, HA, HK1, ⟨m1, rfl⟩⟩ := hrel
    cases gk with
    | zero => exact absurd HA.out (by simp [cmp_Or_int.l0])
    | succ k1 =>
      have H := HA.out
      clear HA
      simp only [cmp_Or_int.l0] at H
      by_cases c2 : x8_1 < (l0.length : Int)
      · rw [if_pos c2] at H
        have c2b0 : decide (x8_1 < (l0.length : Int)) = true := decide_eq_true c2
        clear c2
        by_cases c3 : 0 ≤ x8_1
        · rw [if_pos c3] at H
          have c3b0 : decide (0 ≤ x8_1) = true := decide_eq_true c3
          clear c3
          by_cases c4 : x8_1 < (l0.length : Int)
          · rw [if_pos c4] at H
            have c4b0 : decide (x8_1 < (l0.length : Int)) = true := decide_eq_true c4
            clear c4
            by_cases c5 : (rd l0 x8_1) = 0
            · rw [if_pos c5] at H
              have c5b0 : ((rd l0 x8_1) == 0) = true := beq_iff_eq.mpr c5
              have c5b1 : ((rd l0 x8_1) != 0) = false := bne_eq_false_iff_eq.mpr c5
              clear c5
              have H' := Aside0.mk H
              clear H
              have p101 : 0 ≤ (x8_1 : Int) := of_decide_eq_true (by first | (with_reducible assumption) | assumption)
              have q101 : x8_1 < (l0.length : Int) := of_decide_eq_true (by first | (with_reducible assumption) | assumption)
              obtain ⟨ad101, e101, hx101_0⟩ := Kd.at_int HR0.out x8_1 p101 q101
              cases e101
              replace p101 := eq_true p101
              replace q101 := eq_true q101
              go_wp2
              go_roundg k1
              case measure => have := HK1.out; omega
              case rel => exact ⟨(wrap64 (x8_1 + 1)), (by first | rfl | (simp; done) | (simp [*]; done) | (simp [*]; exact (fun (l_ : List UInt8) => (by cases l_ <;> rfl : l_.isEmpty = !(l_ != []))) _)), H', ⟨by have := HK1.out; omega⟩, by repeat (first | exact Drawn0.refl _ | apply Drawn0.step)⟩
            · rw [if_neg c5] at H
              have c5b0 : ((rd l0 x8_1) == 0) = false := beq_eq_false_iff_ne.mpr c5
              have c5b1 : ((rd l0 x8_1) != 0) = true := bne_iff_ne.mpr c5
              obtain rfl := Option.some.inj H
              have p101 : 0 ≤ (x8_1 : Int) := of_decide_eq_true (by first | (with_reducible assumption) | assumption)
              have q101 : x8_1 < (l0.length : Int) := of_decide_eq_true (by first | (with_reducible assumption) | assumption)
              obtain ⟨ad101, e101, hx101_0⟩ := Kd.at_int HR0.out x8_1 p101 q101
              cases e101
              replace p101 := eq_true p101
              replace q101 := eq_true q101
              go_wp2
              go_ret
              exact ⟨by first | rfl | (simp; done) | (simp [*]; done) | (simp [*]; exact (fun (l_ : List UInt8) => (by cases l_ <;> rfl : l_.isEmpty = !(l_ != []))) _), by repeat (first | exact Drawn0.refl _ | apply Drawn0.step)⟩
          · rw [if_neg c4] at H
            exact absurd H (by simp)
        · rw [if_neg c3] at H
          exact absurd H (by simp)
      · rw [if_neg c2] at H
        have c2b0 : decide (x8_1 < (l0.length : Int)) = false := decide_eq_false c2
        clear c2
        obtain rfl := Option.some.inj H
        go_wp2
        go_ret
        exact ⟨by first | rfl | (simp; done) | (simp [*]; done) | (simp [*]; exact (fun (l_ : List UInt8) => (by cases l_ <;> rfl : l_.isEmpty = !(l_ != []))) _), by repeat (first | exact Drawn0.refl _ | apply Drawn0.step)⟩
/-! ### cmp_isNaN_int: function 51 -/
def cmp_isNaN_int.f (a0 : Int) : Option (Bool) := some (a0 != a0)
set_option maxHeartbeats 8000000 in
set_option maxRecDepth 100000 in
theorem cmp_isNaN_int.calls (a0 : Int) (r : Bool) (w : World) (h : cmp_isNaN_int.f a0 = some r) :
    Calls Try.prog 51 #[.int .i64 a0] w fun e w' => e = .returned (.bool r) ∧ Drawn0 w w' := by
  have H : (some (a0 != a0)) = some r := h
  clear h
  obtain rfl := Option.some.inj H
  go_enter Try.func51, Try.ntmps51
  go_wp2
  go_ret
  exact ⟨by first | rfl | (simp; done) | (simp [*]; done) | (simp [*]; exact (fun (l_ : List UInt8) => (by cases l_ <;> rfl : l_.isEmpty = !(l_ != []))) _), by repeat (first | exact Drawn0.refl _ | apply Drawn0.step)⟩
/-! ### cmp_Compare_int: function 40 -/
def cmp_Compare_int.f (a0 : Int) (a1 : Int) : Option (Int) := (cmp_isNaN_int.f a0).bind fun t102 => ((cmp_isNaN_int.f a1).bind fun t103 => (if t102 = true then (if t103 = true then (some 0) else (some (-1))) else (if t103 = true then (some 1) else (if a0 < a1 then (some (-1)) else (if a0 > a1 then (some 1) else (some 0))))))
set_option maxHeartbeats 8000000 in
set_option maxRecDepth 100000 in
theorem cmp_Compare_int.calls (a0 : Int) (a1 : Int) (r : Int) (w : World) (h : cmp_Compare_int.f a0 a1 = some r) :
    Calls Try.prog 40 #[.int .i64 a0, .int .i64 a1] w fun e w' => e = .returned (.int .i64 r) ∧ Drawn0 w w' := by
  have H : ((cmp_isNaN_int.f a0).bind fun t102 => ((cmp_isNaN_int.f a1).bind fun t103 => (if t102 = true then (if t103 = true then (some 0) else (some (-1))) else (if t103 = true then (some 1) else (if a0 < a1 then (some (-1)) else (if a0 > a1 then (some 1) else (some 0))))))) = some r := h
  clear h
  replace H := Option.bind_eq_some_iff.mp H
  obtain ⟨t102, A30, H⟩ := H
  replace H : ((cmp_isNaN_int.f a1).bind fun t103 => (if t102 = true then (if t103 = true then (some 0) else (some (-1))) else (if t103 = true then (some 1) else (if a0 < a1 then (some (-1)) else (if a0 > a1 then (some 1) else (some 0)))))) = some r := H
  have A3 := Aside0.mk A30
  clear A30
  replace H := Option.bind_eq_some_iff.mp H
  obtain ⟨t103, A40, H⟩ := H
  replace H : (if t102 = true then (if t103 = true then (some 0) else (some (-1))) else (if t103 = true then (some 1) else (if a0 < a1 then (some (-1)) else (if a0 > a1 then (some 1) else (some 0))))) = some r := H
  have A4 := Aside0.mk A40
  clear A40
  by_cases c5 : t102 = true
  · subst c5
    have H1 : (if t103 = true then (some 0) else (some (-1))) = some r := by rw [if_pos rfl] at H; exact H
    clear H
    have H := H1
    clear H1
    by_cases c6 : t103 = true
    · subst c6
      have H1 : (some 0) = some r := by rw [if_pos rfl] at H; exact H
      clear H
      have H := H1
      clear H1
      obtain rfl := Option.some.inj H
      go_enter Try.func40, Try.ntmps40
      go_wp2_with (first | ((with_reducible refine gate_callee (f := 51) rfl ?_); refine goesL_ (some 10) rfl rfl Try.func51 (by kernel_rfl) rfl #[.int .i64 a1] rfl (by (try simp only [List.map_toArray, List.map_cons, List.map_nil]); first | done | rfl | (simp only [List.length_drop, List.length_take]; rfl)) ?_; (with_reducible refine (cmp_isNaN_int.calls a1 true _ A4.out).mono ?_); rintro e w' ⟨rfl, ⟨nd, rfl⟩⟩; refine ⟨_, rfl, ?_⟩) | ((with_reducible refine gate_callee (f := 51) rfl ?_); refine goesL_ (some 8) rfl rfl Try.func51 (by kernel_rfl) rfl #[.int .i64 a0] rfl (by (try simp only [List.map_toArray, List.map_cons, List.map_nil]); first | done | rfl | (simp only [List.length_drop, List.length_take]; rfl)) ?_; (with_reducible refine (cmp_isNaN_int.calls a0 true _ A3.out).mono ?_); rintro e w' ⟨rfl, ⟨nd, rfl⟩⟩; refine ⟨_, rfl, ?_⟩))
      go_ret
      exact ⟨by first | rfl | (simp; done) | (simp [*]; done) | (simp [*]; exact (fun (l_ : List UInt8) => (by cases l_ <;> rfl : l_.isEmpty = !(l_ != []))) _), by repeat (first | exact Drawn0.refl _ | apply Drawn0.step)⟩
    · replace c6 := Bool.eq_false_iff.mpr c6
      subst c6
      have H1 : (some (-1)) = some r := by rw [if_neg (show ¬ (false = true) by decide)] at H; exact H
      clear H
      have H := H1
      clear H1
      obtain rfl := Option.some.inj H
      go_enter Try.func40, Try.ntmps40
      go_wp2_with (first | ((with_reducible refine gate_callee (f := 51) rfl ?_); refine goesL_ (some 10) rfl rfl Try.func51 (by kernel_rfl) rfl #[.int .i64 a1] rfl (by (try simp only [List.map_toArray, List.map_cons, List.map_nil]); first | done | rfl | (simp only [List.length_drop, List.length_take]; rfl)) ?_; (with_reducible refine (cmp_isNaN_int.calls a1 false _ A4.out).mono ?_); rintro e w' ⟨rfl, ⟨nd, rfl⟩⟩; refine ⟨_, rfl, ?_⟩) | ((with_reducible refine gate_callee (f := 51) rfl ?_); refine goesL_ (some 8) rfl rfl Try.func51 (by kernel_rfl) rfl #[.int .i64 a0] rfl (by (try simp only [List.map_toArray, List.map_cons, List.map_nil]); first | done | rfl | (simp only [List.length_drop, List.length_take]; rfl)) ?_; (with_reducible refine (cmp_isNaN_int.calls a0 true _ A3.out).mono ?_); rintro e w' ⟨rfl, ⟨nd, rfl⟩⟩; refine ⟨_, rfl, ?_⟩))
      go_ret
      exact ⟨by first | rfl | (simp; done) | (simp [*]; done) | (simp [*]; exact (fun (l_ : List UInt8) => (by cases l_ <;> rfl : l_.isEmpty = !(l_ != []))) _), by repeat (first | exact Drawn0.refl _ | apply Drawn0.step)⟩
  · replace c5 := Bool.eq_false_iff.mpr c5
    subst c5
    have H1 : (if t103 = true then (some 1) else (if a0 < a1 then (some (-1)) else (if a0 > a1 then (some 1) else (some 0)))) = some r := by rw [if_neg (show ¬ (false = true) by decide)] at H; exact H
    clear H
    have H := H1
    clear H1
    by_cases c7 : t103 = true
    · subst c7
      have H1 : (some 1) = some r := by rw [if_pos rfl] at H; exact H
      clear H
      have H := H1
      clear H1
      obtain rfl := Option.some.inj H
      go_enter Try.func40, Try.ntmps40
      go_wp2_with (first | ((with_reducible refine gate_callee (f := 51) rfl ?_); refine goesL_ (some 10) rfl rfl Try.func51 (by kernel_rfl) rfl #[.int .i64 a1] rfl (by (try simp only [List.map_toArray, List.map_cons, List.map_nil]); first | done | rfl | (simp only [List.length_drop, List.length_take]; rfl)) ?_; (with_reducible refine (cmp_isNaN_int.calls a1 true _ A4.out).mono ?_); rintro e w' ⟨rfl, ⟨nd, rfl⟩⟩; refine ⟨_, rfl, ?_⟩) | ((with_reducible refine gate_callee (f := 51) rfl ?_); refine goesL_ (some 8) rfl rfl Try.func51 (by kernel_rfl) rfl #[.int .i64 a0] rfl (by (try simp only [List.map_toArray, List.map_cons, List.map_nil]); first | done | rfl | (simp only [List.length_drop, List.length_take]; rfl)) ?_; (with_reducible refine (cmp_isNaN_int.calls a0 false _ A3.out).mono ?_); rintro e w' ⟨rfl, ⟨nd, rfl⟩⟩; refine ⟨_, rfl, ?_⟩))
      go_ret
      exact ⟨by first | rfl | (simp; done) | (simp [*]; done) | (simp [*]; exact (fun (l_ : List UInt8) => (by cases l_ <;> rfl : l_.isEmpty = !(l_ != []))) _), by repeat (first | exact Drawn0.refl _ | apply Drawn0.step)⟩
    · replace c7 := Bool.eq_false_iff.mpr c7
      subst c7
      have H1 : (if a0 < a1 then (some (-1)) else (if a0 > a1 then (some 1) else (some 0))) = some r := by rw [if_neg (show ¬ (false = true) by decide)] at H; exact H
      clear H
      have H := H1
      clear H1
      by_cases c8 : a0 < a1
      · rw [if_pos c8] at H
        have c8b0 : decide (a0 < a1) = true := decide_eq_true c8
        clear c8
        obtain rfl := Option.some.inj H
        go_enter Try.func40, Try.ntmps40
        go_wp2_with (first | ((with_reducible refine gate_callee (f := 51) rfl ?_); refine goesL_ (some 10) rfl rfl Try.func51 (by kernel_rfl) rfl #[.int .i64 a1] rfl (by (try simp only [List.map_toArray, List.map_cons, List.map_nil]); first | done | rfl | (simp only [List.length_drop, List.length_take]; rfl)) ?_; (with_reducible refine (cmp_isNaN_int.calls a1 false _ A4.out).mono ?_); rintro e w' ⟨rfl, ⟨nd, rfl⟩⟩; refine ⟨_, rfl, ?_⟩) | ((with_reducible refine gate_callee (f := 51) rfl ?_); refine goesL_ (some 8) rfl rfl Try.func51 (by kernel_rfl) rfl #[.int .i64 a0] rfl (by (try simp only [List.map_toArray, List.map_cons, List.map_nil]); first | done | rfl | (simp only [List.length_drop, List.length_take]; rfl)) ?_; (with_reducible refine (cmp_isNaN_int.calls a0 false _ A3.out).mono ?_); rintro e w' ⟨rfl, ⟨nd, rfl⟩⟩; refine ⟨_, rfl, ?_⟩))
        go_ret
        exact ⟨by first | rfl | (simp; done) | (simp [*]; done) | (simp [*]; exact (fun (l_ : List UInt8) => (by cases l_ <;> rfl : l_.isEmpty = !(l_ != []))) _), by repeat (first | exact Drawn0.refl _ | apply Drawn0.step)⟩
      · rw [if_neg c8] at H
        have c8b0 : decide (a0 < a1) = false := decide_eq_false c8
        clear c8
        by_cases c9 : a0 > a1
        · rw [if_pos c9] at H
          have c9b0 : decide (a1 < a0) = true := decide_eq_true c9
          clear c9
          obtain rfl := Option.some.inj H
          go_enter Try.func40, Try.ntmps40
          go_wp2_with (first | ((with_reducible refine gate_callee (f := 51) rfl ?_); refine goesL_ (some 10) rfl rfl Try.func51 (by kernel_rfl) rfl #[.int .i64 a1] rfl (by (try simp only [List.map_toArray, List.map_cons, List.map_nil]); first | done | rfl | (simp only [List.length_drop, List.length_take]; rfl)) ?_; (with_reducible refine (cmp_isNaN_int.calls a1 false _ A4.out).mono ?_); rintro e w' ⟨rfl, ⟨nd, rfl⟩⟩; refine ⟨_, rfl, ?_⟩) | ((with_reducible refine gate_callee (f := 51) rfl ?_); refine goesL_ (some 8) rfl rfl Try.func51 (by kernel_rfl) rfl #[.int .i64 a0] rfl (by (try simp only [List.map_toArray, List.map_cons, List.map_nil]); first | done | rfl | (simp only [List.length_drop, List.length_take]; rfl)) ?_; (with_reducible refine (cmp_isNaN_int.calls a0 false _ A3.out).mono ?_); rintro e w' ⟨rfl, ⟨nd, rfl⟩⟩; refine ⟨_, rfl, ?_⟩))
          go_ret
          exact ⟨by first | rfl | (simp; done) | (simp [*]; done) | (simp [*]; exact (fun (l_ : List UInt8) => (by cases l_ <;> rfl : l_.isEmpty = !(l_ != []))) _), by repeat (first | exact Drawn0.refl _ | apply Drawn0.step)⟩
        · rw [if_neg c9] at H
          have c9b0 : decide (a1 < a0) = false := decide_eq_false c9
          clear c9
          obtain rfl := Option.some.inj H
          go_enter Try.func40, Try.ntmps40
          go_wp2_with (first | ((with_reducible refine gate_callee (f := 51) rfl ?_); refine goesL_ (some 10) rfl rfl Try.func51 (by kernel_rfl) rfl #[.int .i64 a1] rfl (by (try simp only [List.map_toArray, List.map_cons, List.map_nil]); first | done | rfl | (simp only [List.length_drop, List.length_take]; rfl)) ?_; (with_reducible refine (cmp_isNaN_int.calls a1 false _ A4.out).mono ?_); rintro e w' ⟨rfl, ⟨nd, rfl⟩⟩; refine ⟨_, rfl, ?_⟩) | ((with_reducible refine gate_callee (f := 51) rfl ?_); refine goesL_ (some 8) rfl rfl Try.func51 (by kernel_rfl) rfl #[.int .i64 a0] rfl (by (try simp only [List.map_toArray, List.map_cons, List.map_nil]); first | done | rfl | (simp only [List.length_drop, List.length_take]; rfl)) ?_; (with_reducible refine (cmp_isNaN_int.calls a0 false _ A3.out).mono ?_); rintro e w' ⟨rfl, ⟨nd, rfl⟩⟩; refine ⟨_, rfl, ?_⟩))
          go_ret
          exact ⟨by first | rfl | (simp; done) | (simp [*]; done) | (simp [*]; exact (fun (l_ : List UInt8) => (by cases l_ <;> rfl : l_.isEmpty = !(l_ != []))) _), by repeat (first | exact Drawn0.refl _ | apply Drawn0.step)⟩
/-! ### graph_Edges_1: function 38 -/
def graph_Edges_1.f (k : Nat) (a0_0 : Int) (a0_1 : Int) (a0_2 : Int) (a1_0 : Int) (a1_1 : Int) (a1_2 : Int) : Option (Int) := (cmp_Compare_int.f a0_0 a1_0).bind fun t106 => ((cmp_Compare_int.f a0_1 a1_1).bind fun t107 => ((cmp_Compare_int.f a0_2 a1_2).bind fun t108 => ((cmp_Or_int.f k (([t106, t107, t108] : List Int))).bind fun t112 => (some t112))))
def graph_Edges_1.T1 : Bool × List (List Nat × List Nat) := (true, [([], []), ([0], [0]), ([], []), ([2], [2]), ([1, 3], [1, 3]), ([], []), ([5], [5]), ([], []), ([7], [7]), ([6, 8, 4], [6, 8]), ([], []), ([10], [10]), ([], []), ([12], [12]), ([11, 13, 9], [11, 13]), ([4, 9, 14], [4, 9, 14]), ([15, 14], [15]), ([16, 16, 0, 1, 2, 3, 4, 5, 6, 7, 8, 9, 10, 11, 12, 13, 14, 15, 16], [16])])
def graph_Edges_1.B1 : List Nat := [0, 1, 0, 4, 15, 0, 32, 0, 128, 511, 0, 1024, 0, 4096, 16383, 32767, 65535, 131071]
theorem graph_Edges_1.tab1 : rtab .any (opsOf Try.f38 1) = graph_Edges_1.T1 := by kernel_rfl
theorem graph_Edges_1.bits1 : waitsOk graph_Edges_1.T1.2 graph_Edges_1.B1 = true := by kernel_rfl
end Go.Proofs.Ytondngpmhlemkaa.Pp

/- Events that draw nothing: what was drawn is told, too; and a world that is only longer, and has drawn more. No condition. -/
namespace Go.Proofs.YtondngpmhlemkaaW.PrintWords
open Go.RowKit
set_option linter.unusedVariables false
section
variable {P : Program} {ops : Array Oper} {rest : List Oper} {o : Oper} {a : Act} {Q : Exit → Act → World → Prop} {Kc : Act → World → Prop} {α : Type}
theorem box_eventD {W : World} (hgd : o.guard = none) {N : Tmp} (_hd : o.dst = some N) {cs : Array Value} {t : TypeId}
    (hrun : (execOp a.eval o).run P W = .ok (.value (.pointer (some ⟨W.heap.size, 0, none⟩))) (W.alloc (.cells cs t (0, 0))))
    (h : ∀ g, g = W.heap.size → ∀ w1, w1.heap[g]? = some (.cells cs t (0, 0)) → Below W.heap.size W w1 → w1.drawn = W.drawn → wpList P ops Q rest (a.put o.dst (.pointer (some ⟨g, 0, none⟩))) w1) : wpList P ops Q (o :: rest) a W :=
  Kd.event_run hgd hrun (h _ rfl _ (blk_new W _) (below_alloc (Below.refl _ _) _) rfl)
theorem Kd.R_lit_stepD (d : Kd α) {w0 W : World} (base e : Nat) (hw : Region.wanted o (yielded ops a.tmps) = true) {N : Tmp} (_hd : o.dst = some N) {xs : List α} {inner : List Value} {ok okp : Nat → Prop}
    (hrun : (execOp a.eval o).run P W = .ok (.value (.slice (some ⟨W.heap.size, 0, none⟩) xs.length xs.length)) (W.alloc (.cells inner.toArray e)))
    (hrep : Reps (d.M W base okp) d.sz xs inner) (hok : ∀ k, okp k → ok k) (hfresh : ok W.heap.size) (HB : Below base w0 W) (hbase : base ≤ W.heap.size) (hm : xs.length ≤ 9223372036854775807)
    (h : ∀ v1 w1, d.R e w1 base ok v1 xs → Below base w0 w1 → W.grownBy w1 none → (∃ b, v1.ownBlock = some b ∧ W.heap.size ≤ b) → w1.drawn = W.drawn → Kc (a.put o.dst v1) w1) : if Region.wanted o (yielded ops a.tmps) = true then Oper.wp P o a W Kc Q else Kc (a.put o.dst undef) W := by
  refine event_step hw hrun (h _ _ ⟨fun k hk => ?_, inner, ?_, ?_⟩ (HB.alloc hbase _) (World.grownBy_alloc W _ none) ⟨W.heap.size, by simp [Value.ownBlock], Nat.le_refl _⟩ rfl)
  · have : W.heap.size = k := by simpa [Value.ownBlock] using hk
    subst this
    exact hfresh
  · have h2 := World.ownsRow_lit (base := base) (e := e) (size := d.sz) W inner.toArray xs.length hbase (by simpa [maxLen] using hm) (by simpa using hrep.1)
    simpa using h2
  · refine hrep.imp_ (fun p c hp => d.M_mono (fun k hk => ⟨hok k hk.1, fun he => ?_⟩) (Kd.M_below (d.M_bound hp) (below_alloc (Below.refl _ _) _)))
    have h3 : k = W.heap.size := by simpa [Value.ownBlock] using he
    have := hk.2.2.1
    omega
theorem grow_of_below {w w' : World} (h : Below w.heap.size w w') (hd : w.drawn ≤ w'.drawn) : ∃ q os, w' = Sort.grow (w.drewN q) os := by
  refine ⟨w'.drawn - w.drawn, w'.heap.extract w.heap.size w'.heap.size, ?_⟩
  have hh : w'.heap = w.heap ++ w'.heap.extract w.heap.size w'.heap.size := by
    apply Array.ext_getElem?
    intro i
    by_cases hi : i < w.heap.size
    · rw [Array.getElem?_append_left hi, h.block i hi]
    · rw [Array.getElem?_append_right (by omega)]
      by_cases hj : i < w'.heap.size
      · rw [Array.getElem?_extract, if_pos (by omega), show w.heap.size + (i - w.heap.size) = i by omega]
      · rw [Array.getElem?_eq_none (by omega), Array.getElem?_eq_none (by simp only [Array.size_extract]; omega)]
  have h1 := h.os; have h2 := h.tape; have h3 := h.output
  cases w; cases w'
  simp only [Sort.grow, World.drewN, World.mk.injEq] at *
  exact ⟨hh, h2, by omega, h1, h3⟩
end
end Go.Proofs.YtondngpmhlemkaaW.PrintWords

/- graph.Edges$1, the comparison of edges: as the print walks it, and what was drawn. No condition. -/
namespace Go.Proofs.Ytondngpmhlemkaa.Ge
open Go.Proofs.Ytondngpmhlemkaa.Pp
open Go.RowKit Go.Proofs.YtondngpmhlemkaaW.PrintWords Go.Proofs.YtondngpmhlemkaaW.PrintLast Go.Proofs.YtondngpmhlemkaaW.PrintMore
attribute [local go_sem] min2_int min_two
set_option linter.unusedVariables false
set_option linter.unusedSimpArgs false
set_option maxHeartbeats 8000000 in
set_option maxRecDepth 100000 in
theorem edges1_calls (k : Nat) (a0_0 : Int) (a0_1 : Int) (a0_2 : Int) (a1_0 : Int) (a1_1 : Int) (a1_2 : Int) (r : Int) (w : World) (h : graph_Edges_1.f k a0_0 a0_1 a0_2 a1_0 a1_1 a1_2 = some r) :
    Calls Try.prog 38 #[.agg #[.int .i64 a0_0, .int .i64 a0_1, .int .i64 a0_2], .agg #[.int .i64 a1_0, .int .i64 a1_1, .int .i64 a1_2]] w fun e w' => e = .returned (.int .i64 r) ∧ Below w.heap.size w w' ∧ w.drawn ≤ w'.drawn := by
  have hu24 := Try.underlying24
  have HB := Aside0.mk (Below.refl w.heap.size w)
  have HD := Aside0.mk (Nat.le_refl w.drawn)
  have H : ((cmp_Compare_int.f a0_0 a1_0).bind fun t106 => ((cmp_Compare_int.f a0_1 a1_1).bind fun t107 => ((cmp_Compare_int.f a0_2 a1_2).bind fun t108 => ((cmp_Or_int.f k (([t106, t107, t108] : List Int))).bind fun t112 => (some t112))))) = some r := h
  clear h
  replace H := Option.bind_eq_some_iff.mp H
  obtain ⟨t106, A30, H⟩ := H
  replace H : ((cmp_Compare_int.f a0_1 a1_1).bind fun t107 => ((cmp_Compare_int.f a0_2 a1_2).bind fun t108 => ((cmp_Or_int.f k (([t106, t107, t108] : List Int))).bind fun t112 => (some t112)))) = some r := H
  have A3 := Aside0.mk A30
  clear A30
  replace H := Option.bind_eq_some_iff.mp H
  obtain ⟨t107, A40, H⟩ := H
  replace H : ((cmp_Compare_int.f a0_2 a1_2).bind fun t108 => ((cmp_Or_int.f k (([t106, t107, t108] : List Int))).bind fun t112 => (some t112))) = some r := H
  have A4 := Aside0.mk A40
  clear A40
  replace H := Option.bind_eq_some_iff.mp H
  obtain ⟨t108, A50, H⟩ := H
  replace H : ((cmp_Or_int.f k (([t106, t107, t108] : List Int))).bind fun t112 => (some t112)) = some r := H
  have A5 := Aside0.mk A50
  clear A50
  obtain ⟨y109, hy109⟩ : ∃ y_ : List Int, y_ = (([t106, t107, t108] : List Int)) := ⟨_, rfl⟩
  replace H : ((cmp_Or_int.f k y109).bind fun t112 => (some t112)) = some r := by first | (rw [hy109]; with_reducible exact H) | (have H2_ := (Option.bind_some _ _).symm.trans H; rw [hy109]; with_reducible exact H2_) | (have H2_ := (Option.bind_some _ _).symm.trans H; with_reducible exact H2_) | with_reducible exact H | (rw [hy109]; exact H) | exact H
  have Ny109 := Aside0.mk hy109
  clear hy109
  replace H := Option.bind_eq_some_iff.mp H
  obtain ⟨t112, A60, H⟩ := H
  replace H : (some t112) = some r := H
  have A6 := Aside0.mk A60
  clear A60
  obtain rfl := Option.some.inj H
  go_enter Try.func38, Try.ntmps38
  try go_wp2_with (first | ((with_reducible refine gate_dst (N := 2) rfl ?_); refine box_eventD ?hg (N := 2) ?hd (cs := #[.int .i64 a0_0, .int .i64 a0_1, .int .i64 a0_2]) (t := 24) ?hr ?_; (case hd => rfl); (case hg => rfl); (case hr => first | (go_simp; done) | (go_simp; rfl)); intro gb104 hg w7 hbox hb hdw; replace HD := Aside0.mk (show w.drawn ≤ w7.drawn from by rw [hdw]; have h_ := HD.out; first | exact h_ | (simp only [World.drewN, World.drew]; omega)); clear hdw; have n0_ := Aside0.mk (below_step (by repeat (first | (with_reducible first | exact HB.out | apply below_alloc | apply pw_below_drewN | apply below_drew1) | exact HB.out)) hb); have n1_ := Aside0.mk (hbox); have n2_ := Aside0.mk ((by rw [hg]; exact (below_size (by repeat (first | (with_reducible first | exact HB.out | apply below_alloc | apply pw_below_drewN | apply below_drew1) | exact HB.out))) : w.heap.size ≤ gb104)); have n3_ := Aside0.mk ((by rw [hg]; exact (below_size (by repeat (first | (with_reducible first | exact HB.out | apply below_alloc | apply pw_below_drewN | apply below_drew1) | exact HB.out))) : w.heap.size ≤ gb104)); clear HB; have HB := n0_; have BK104 := n1_; have GW104 := n2_; have GE104 := n3_; clear n0_ n1_ n2_ n3_; clear hb hbox hg) | ((with_reducible refine gate_dst (N := 3) rfl ?_); refine box_eventD ?hg (N := 3) ?hd (cs := #[.int .i64 a1_0, .int .i64 a1_1, .int .i64 a1_2]) (t := 24) ?hr ?_; (case hd => rfl); (case hg => rfl); (case hr => first | (go_simp; done) | (go_simp; rfl)); intro gb105 hg w8 hbox hb hdw; replace HD := Aside0.mk (show w.drawn ≤ w8.drawn from by rw [hdw]; have h_ := HD.out; first | exact h_ | (simp only [World.drewN, World.drew]; omega)); clear hdw; have n0_ := Aside0.mk (blk_below (g := gb104) (o := .cells #[.int .i64 a0_0, .int .i64 a0_1, .int .i64 a0_2] 24 (0, 0)) (by (with_reducible repeat (first | refine blk_drewN ?_ _ | refine blk_drew ?_ | refine blk_alloc ?_ _)); exact BK104.out) hb); have n1_ := Aside0.mk (below_step (by repeat (first | (with_reducible first | exact HB.out | apply below_alloc | apply pw_below_drewN | apply below_drew1 | refine below_set ?_ GE104.out) | exact HB.out)) hb); have n2_ := Aside0.mk (hbox); have n3_ := Aside0.mk ((by rw [hg]; exact (below_size (by repeat (first | (with_reducible first | exact HB.out | apply below_alloc | apply pw_below_drewN | apply below_drew1 | refine below_set ?_ GE104.out) | exact HB.out))) : w.heap.size ≤ gb105)); have n4_ := Aside0.mk ((by rw [hg]; exact (below_size (by repeat (first | (with_reducible first | exact HB.out | apply below_alloc | apply pw_below_drewN | apply below_drew1 | refine below_set ?_ GE104.out) | exact HB.out))) : w.heap.size ≤ gb105)); have n5_ := Aside0.mk ((by rw [hg]; exact Nat.ne_of_lt (blk_lt (g := gb104) (o := .cells #[.int .i64 a0_0, .int .i64 a0_1, .int .i64 a0_2] 24 (0, 0)) (by (with_reducible repeat (first | refine blk_drewN ?_ _ | refine blk_drew ?_ | refine blk_alloc ?_ _)); exact BK104.out)) : gb104 ≠ gb105)); have n6_ := Aside0.mk ((by rw [hg]; exact Nat.ne_of_gt (blk_lt (g := gb104) (o := .cells #[.int .i64 a0_0, .int .i64 a0_1, .int .i64 a0_2] 24 (0, 0)) (by (with_reducible repeat (first | refine blk_drewN ?_ _ | refine blk_drew ?_ | refine blk_alloc ?_ _)); exact BK104.out)) : gb105 ≠ gb104)); clear BK104; clear HB; have BK104 := n0_; have HB := n1_; have BK105 := n2_; have GW105 := n3_; have GE105 := n4_; have NB104_105 := n5_; have NB105_104 := n6_; clear n0_ n1_ n2_ n3_ n4_ n5_ n6_; clear hb hbox hg))
  have n0_ := Aside0.mk (blk_drew BK104.out)
  have n1_ := Aside0.mk (blk_drew BK105.out)
  have n2_ := Aside0.mk (below_drew1 HB.out)
  clear BK104
  clear BK105
  clear HB
  have BK104 := n0_
  have BK105 := n1_
  have HB := n2_
  clear n0_ n1_ n2_
  refine start_ (n := 18) (S := fun w' => w'.cell? ⟨gb104, 0, none⟩ = some (.int .i64 a0_0) ∧ w'.cell? ⟨gb104, 1, none⟩ = some (.int .i64 a0_1) ∧ w'.cell? ⟨gb104, 2, none⟩ = some (.int .i64 a0_2) ∧ w'.cell? ⟨gb105, 0, none⟩ = some (.int .i64 a1_0) ∧ w'.cell? ⟨gb105, 1, none⟩ = some (.int .i64 a1_1) ∧ w'.cell? ⟨gb105, 2, none⟩ = some (.int .i64 a1_2)) (ds := []) #[false, false, false, false, false, false, false, false, false, false, false, false, false, false, false, false, false, false] (by kernel_rfl) rfl rfl ⟨(blk_cell BK104.out 0).trans rfl, (blk_cell BK104.out 1).trans rfl, (blk_cell BK104.out 2).trans rfl, (blk_cell BK105.out 0).trans rfl, (blk_cell BK105.out 1).trans rfl, (blk_cell BK105.out 2).trans rfl⟩ (fun hHeld => ?_); refine with_tabW graph_Edges_1.tab1 graph_Edges_1.bits1 (fun HT_ HW_ => ?_)
  replace HD := Aside0.mk (show w.drawn ≤ w8.drew.drawn from Nat.le_succ_of_le HD.out)
  generalize w8.drew = w9 at HD BK104 BK105 HB hHeld ⊢
  refine pure_ (i := 0) (N := some 5) (v := ?_) (a' := ?_) #[true, false, false, false, false, false, false, false, false, false, false, false, false, false, false, false, false, false] rfl rfl (any_of HT_.out (by kernel_rfl)) (fun _ _ _ h => h) (Or.inl ⟨by rfl, ?_⟩) ?_ ?_
  rotate_left
  · intro w'
    go_simp
    with_reducible rfl
  rotate_left
  · simp only [Act.put, List.setIfInBounds_toArray, List.set_cons_zero, List.set_cons_succ, i64_w, i32_w]
    rfl
  refine pure_ (i := 2) (N := some 7) (v := ?_) (a' := ?_) #[true, false, true, false, false, false, false, false, false, false, false, false, false, false, false, false, false, false] rfl rfl (any_of HT_.out (by kernel_rfl)) (fun _ _ _ h => h) (Or.inl ⟨by rfl, ?_⟩) ?_ ?_
  rotate_left
  · intro w'
    go_simp
    with_reducible rfl
  rotate_left
  · simp only [Act.put, List.setIfInBounds_toArray, List.set_cons_zero, List.set_cons_succ, i64_w, i32_w]
    rfl
  refine pure_ (i := 5) (N := some 10) (v := ?_) (a' := ?_) #[true, false, true, false, false, true, false, false, false, false, false, false, false, false, false, false, false, false] rfl rfl (any_of HT_.out (by kernel_rfl)) (fun _ _ _ h => h) (Or.inl ⟨by rfl, ?_⟩) ?_ ?_
  rotate_left
  · intro w'
    go_simp
    with_reducible rfl
  rotate_left
  · simp only [Act.put, List.setIfInBounds_toArray, List.set_cons_zero, List.set_cons_succ, i64_w, i32_w]
    rfl
  refine pure_ (i := 7) (N := some 12) (v := ?_) (a' := ?_) #[true, false, true, false, false, true, false, true, false, false, false, false, false, false, false, false, false, false] rfl rfl (any_of HT_.out (by kernel_rfl)) (fun _ _ _ h => h) (Or.inl ⟨by rfl, ?_⟩) ?_ ?_
  rotate_left
  · intro w'
    go_simp
    with_reducible rfl
  rotate_left
  · simp only [Act.put, List.setIfInBounds_toArray, List.set_cons_zero, List.set_cons_succ, i64_w, i32_w]
    rfl
  refine pure_ (i := 10) (N := some 15) (v := ?_) (a' := ?_) #[true, false, true, false, false, true, false, true, false, false, true, false, false, false, false, false, false, false] rfl rfl (any_of HT_.out (by kernel_rfl)) (fun _ _ _ h => h) (Or.inl ⟨by rfl, ?_⟩) ?_ ?_
  rotate_left
  · intro w'
    go_simp
    with_reducible rfl
  rotate_left
  · simp only [Act.put, List.setIfInBounds_toArray, List.set_cons_zero, List.set_cons_succ, i64_w, i32_w]
    rfl
  refine pure_ (i := 12) (N := some 17) (v := ?_) (a' := ?_) #[true, false, true, false, false, true, false, true, false, false, true, false, true, false, false, false, false, false] rfl rfl (any_of HT_.out (by kernel_rfl)) (fun _ _ _ h => h) (Or.inl ⟨by rfl, ?_⟩) ?_ ?_
  rotate_left
  · intro w'
    go_simp
    with_reducible rfl
  rotate_left
  · simp only [Act.put, List.setIfInBounds_toArray, List.set_cons_zero, List.set_cons_succ, i64_w, i32_w]
    rfl
  refine take_ (i := 1) (N := some 6) (v := ?_) (a' := ?_) #[true, true, true, false, false, true, false, true, false, false, true, false, true, false, false, false, false, false] rfl rfl (take_ofW HT_.out HW_.out (by kernel_rfl)) (fun _ _ _ h => h) (Or.inl ⟨by rfl, ?_⟩) hHeld ?_ ?_
  rotate_left
  · rintro w' ⟨s0, s1, s2, s3, s4, s5⟩
    go_simp
    with_reducible rfl
  rotate_left
  · simp only [Act.put, List.setIfInBounds_toArray, List.set_cons_zero, List.set_cons_succ, i64_w, i32_w]
    rfl
  refine take_ (i := 3) (N := some 8) (v := ?_) (a' := ?_) #[true, true, true, true, false, true, false, true, false, false, true, false, true, false, false, false, false, false] rfl rfl (take_ofW HT_.out HW_.out (by kernel_rfl)) (fun _ _ _ h => h) (Or.inl ⟨by rfl, ?_⟩) hHeld ?_ ?_
  rotate_left
  · rintro w' ⟨s0, s1, s2, s3, s4, s5⟩
    go_simp
    with_reducible rfl
  rotate_left
  · simp only [Act.put, List.setIfInBounds_toArray, List.set_cons_zero, List.set_cons_succ, i64_w, i32_w]
    rfl
  refine take_ (i := 6) (N := some 11) (v := ?_) (a' := ?_) #[true, true, true, true, false, true, true, true, false, false, true, false, true, false, false, false, false, false] rfl rfl (take_ofW HT_.out HW_.out (by kernel_rfl)) (fun _ _ _ h => h) (Or.inl ⟨by rfl, ?_⟩) hHeld ?_ ?_
  rotate_left
  · rintro w' ⟨s0, s1, s2, s3, s4, s5⟩
    go_simp
    with_reducible rfl
  rotate_left
  · simp only [Act.put, List.setIfInBounds_toArray, List.set_cons_zero, List.set_cons_succ, i64_w, i32_w]
    rfl
  refine take_ (i := 8) (N := some 13) (v := ?_) (a' := ?_) #[true, true, true, true, false, true, true, true, true, false, true, false, true, false, false, false, false, false] rfl rfl (take_ofW HT_.out HW_.out (by kernel_rfl)) (fun _ _ _ h => h) (Or.inl ⟨by rfl, ?_⟩) hHeld ?_ ?_
  rotate_left
  · rintro w' ⟨s0, s1, s2, s3, s4, s5⟩
    go_simp
    with_reducible rfl
  rotate_left
  · simp only [Act.put, List.setIfInBounds_toArray, List.set_cons_zero, List.set_cons_succ, i64_w, i32_w]
    rfl
  refine take_ (i := 11) (N := some 16) (v := ?_) (a' := ?_) #[true, true, true, true, false, true, true, true, true, false, true, true, true, false, false, false, false, false] rfl rfl (take_ofW HT_.out HW_.out (by kernel_rfl)) (fun _ _ _ h => h) (Or.inl ⟨by rfl, ?_⟩) hHeld ?_ ?_
  rotate_left
  · rintro w' ⟨s0, s1, s2, s3, s4, s5⟩
    go_simp
    with_reducible rfl
  rotate_left
  · simp only [Act.put, List.setIfInBounds_toArray, List.set_cons_zero, List.set_cons_succ, i64_w, i32_w]
    rfl
  refine take_ (i := 13) (N := some 18) (v := ?_) (a' := ?_) #[true, true, true, true, false, true, true, true, true, false, true, true, true, true, false, false, false, false] rfl rfl (take_ofW HT_.out HW_.out (by kernel_rfl)) (fun _ _ _ h => h) (Or.inl ⟨by rfl, ?_⟩) hHeld ?_ ?_
  rotate_left
  · rintro w' ⟨s0, s1, s2, s3, s4, s5⟩
    go_simp
    with_reducible rfl
  rotate_left
  · simp only [Act.put, List.setIfInBounds_toArray, List.set_cons_zero, List.set_cons_succ, i64_w, i32_w]
    rfl
  refine one_ (i := 4) (N := some 9) #[true, true, true, true, true, true, true, true, true, false, true, true, true, true, false, false, false, false] rfl rfl (one_of HT_.out (by kernel_rfl)) (by decide) (fun K hK => ?_)
  refine goes_ Try.func40 (by kernel_rfl) rfl #[.int .i64 a0_0, .int .i64 a1_0] (by rfl) rfl rfl (by (try simp only [List.map_toArray, List.map_cons, List.map_nil]); first | done | rfl | (simp only [List.length_drop, List.length_take]; rfl)) ?_
  with_reducible refine (cmp_Compare_int.calls a0_0 a1_0 t106 _ A3.out).mono ?_
  rintro e w' ⟨rfl, ⟨nd, rfl⟩⟩
  refine ⟨_, rfl, ?_⟩
  refine hK.out _ _ ⟨(blk_cell BK104.out 0).trans rfl, (blk_cell BK104.out 1).trans rfl, (blk_cell BK104.out 2).trans rfl, (blk_cell BK105.out 0).trans rfl, (blk_cell BK105.out 1).trans rfl, (blk_cell BK105.out 2).trans rfl⟩ (fun hHeld => ?_)
  clear hK K
  refine norm_ (a' := ?_) ?_ ?_
  rotate_left
  · show Act.put _ (some 9) _ = _
    simp only [Act.put, List.setIfInBounds_toArray, List.set_cons_zero, List.set_cons_succ, i64_w, i32_w]
    rfl
  refine one_ (i := 9) (N := some 14) #[true, true, true, true, true, true, true, true, true, true, true, true, true, true, false, false, false, false] rfl rfl (one_of HT_.out (by kernel_rfl)) (by decide) (fun K hK => ?_)
  refine goes_ Try.func40 (by kernel_rfl) rfl #[.int .i64 a0_1, .int .i64 a1_1] (by rfl) rfl rfl (by (try simp only [List.map_toArray, List.map_cons, List.map_nil]); first | done | rfl | (simp only [List.length_drop, List.length_take]; rfl)) ?_
  with_reducible refine (cmp_Compare_int.calls a0_1 a1_1 t107 _ A4.out).mono ?_
  rintro e w' ⟨rfl, ⟨nd, rfl⟩⟩
  refine ⟨_, rfl, ?_⟩
  refine hK.out _ _ ⟨(blk_cell BK104.out 0).trans rfl, (blk_cell BK104.out 1).trans rfl, (blk_cell BK104.out 2).trans rfl, (blk_cell BK105.out 0).trans rfl, (blk_cell BK105.out 1).trans rfl, (blk_cell BK105.out 2).trans rfl⟩ (fun hHeld => ?_)
  clear hK K
  refine norm_ (a' := ?_) ?_ ?_
  rotate_left
  · show Act.put _ (some 14) _ = _
    simp only [Act.put, List.setIfInBounds_toArray, List.set_cons_zero, List.set_cons_succ, i64_w, i32_w]
    rfl
  refine one_ (i := 14) (N := some 19) #[true, true, true, true, true, true, true, true, true, true, true, true, true, true, true, false, false, false] rfl rfl (one_of HT_.out (by kernel_rfl)) (by decide) (fun K hK => ?_)
  refine goes_ Try.func40 (by kernel_rfl) rfl #[.int .i64 a0_2, .int .i64 a1_2] (by rfl) rfl rfl (by (try simp only [List.map_toArray, List.map_cons, List.map_nil]); first | done | rfl | (simp only [List.length_drop, List.length_take]; rfl)) ?_
  with_reducible refine (cmp_Compare_int.calls a0_2 a1_2 t108 _ A5.out).mono ?_
  rintro e w' ⟨rfl, ⟨nd, rfl⟩⟩
  refine ⟨_, rfl, ?_⟩
  refine hK.out _ _ ⟨(blk_cell BK104.out 0).trans rfl, (blk_cell BK104.out 1).trans rfl, (blk_cell BK104.out 2).trans rfl, (blk_cell BK105.out 0).trans rfl, (blk_cell BK105.out 1).trans rfl, (blk_cell BK105.out 2).trans rfl⟩ (fun hHeld => ?_)
  clear hK K
  refine norm_ (a' := ?_) ?_ ?_
  rotate_left
  · show Act.put _ (some 19) _ = _
    simp only [Act.put, List.setIfInBounds_toArray, List.set_cons_zero, List.set_cons_succ, i64_w, i32_w]
    rfl
  refine one_ (i := 15) (N := some 20) #[true, true, true, true, true, true, true, true, true, true, true, true, true, true, true, true, false, false] rfl rfl (one_of HT_.out (by kernel_rfl)) (by decide) (fun K hK => ?_)
  refine Kd.R_lit_stepD (Kd.int .i64) _ 3 ?hg (N := 20) ?hd (xs := ([t106, t107, t108] : List Int)) (inner := [.int .i64 t106, .int .i64 t107, .int .i64 t108]) (ok := fun _ => True) (okp := fun _ => True) ?hr ?hp (fun _ hk => hk) trivial (Below.refl _ _) (Nat.le_refl _) (by simp) ?_; (case hd => rfl); (case hg => rfl); (case hr => first | (go_simp; done) | (go_simp; rfl)); (case hp => exact (Reps.one (show Kd.M (Kd.int .i64) _ _ _ t106 [.int .i64 t106] from rfl) (Reps.one (show Kd.M (Kd.int .i64) _ _ _ t107 [.int .i64 t107] from rfl) (Reps.one (show Kd.M (Kd.int .i64) _ _ _ t108 [.int .i64 t108] from rfl) (Reps.none _ _)))))
  intro v110 w10 ho11 hb hg_ hnew_ hdw
  replace HD := Aside0.mk (show w.drawn ≤ w10.drawn from by rw [hdw]; have h_ := HD.out; first | exact h_ | (simp only [World.drewN, World.drew]; omega))
  clear hdw
  clear hg_ hnew_
  (first | rw [← Ny109.out] at ho11 | (simp only [Int.reduceToNat] at ho11; rw [← Ny109.out] at ho11))
  have n0_ := Aside0.mk (Kd.R_lower ho11 (below_size (by repeat (first | (with_reducible first | exact HB.out | apply below_alloc | apply pw_below_drewN | apply below_drew1 | refine below_set ?_ GE104.out | refine below_set ?_ GE105.out) | exact HB.out))))
  have n1_ := Aside0.mk (blk_below (g := gb104) (o := .cells #[.int .i64 a0_0, .int .i64 a0_1, .int .i64 a0_2] 24 (0, 0)) (by (with_reducible repeat (first | refine blk_drewN ?_ _ | refine blk_drew ?_ | refine blk_alloc ?_ _)); exact BK104.out) hb)
  have n2_ := Aside0.mk (blk_below (g := gb105) (o := .cells #[.int .i64 a1_0, .int .i64 a1_1, .int .i64 a1_2] 24 (0, 0)) (by (with_reducible repeat (first | refine blk_drewN ?_ _ | refine blk_drew ?_ | refine blk_alloc ?_ _)); exact BK105.out) hb)
  have n3_ := Aside0.mk (below_step (by repeat (first | (with_reducible first | exact HB.out | apply below_alloc | apply pw_below_drewN | apply below_drew1 | refine below_set ?_ GE104.out | refine below_set ?_ GE105.out) | exact HB.out)) hb)
  clear BK104
  clear BK105
  clear HB
  have HO111 := n0_
  have BK104 := n1_
  have BK105 := n2_
  have HB := n3_
  clear n0_ n1_ n2_ n3_
  clear hb ho11
  obtain ⟨Ao12, co12, eo12⟩ := Kd.R_slice HO111.out
  (first | subst eo12 | (injection eo12 with f1_ f2_ f3_; have f4_ := f1_.symm; have f5_ := f3_.symm; clear f1_ f2_ f3_; subst f4_; subst f5_))
  refine hK.out _ _ ⟨(blk_cell BK104.out 0).trans rfl, (blk_cell BK104.out 1).trans rfl, (blk_cell BK104.out 2).trans rfl, (blk_cell BK105.out 0).trans rfl, (blk_cell BK105.out 1).trans rfl, (blk_cell BK105.out 2).trans rfl⟩ (fun hHeld => ?_)
  clear hK K
  refine norm_ (a' := ?_) ?_ ?_
  rotate_left
  · show Act.put _ (some 20) _ = _
    simp only [Act.put, List.setIfInBounds_toArray, List.set_cons_zero, List.set_cons_succ, i64_w, i32_w]
    rfl
  refine one_ (i := 16) (N := some 21) #[true, true, true, true, true, true, true, true, true, true, true, true, true, true, true, true, true, false] rfl rfl (one_of HT_.out (by kernel_rfl)) (by decide) (fun K hK => ?_)
  refine goes_ Try.func39 (by kernel_rfl) rfl #[.slice Ao12 y109.length co12] (by rfl) rfl rfl (by (try simp only [List.map_toArray, List.map_cons, List.map_nil]); first | done | rfl | (simp only [List.length_drop, List.length_take]; rfl)) ?_
  with_reducible refine (cmp_Or_int.calls k _ _ y109 t112 _ ?side1 ?side2 A6.out).mono ?_
  (case side1 => repeat (first | exact (Kd.R_reads' HO111.out).2.2 | (with_reducible refine Kd.C_alloc ?_ _) | (with_reducible refine Kd.C_drewN ?_ _) | (with_reducible refine Kd.C_drew ?_)))
  (case side2 => exact (Kd.R_reads' HO111.out).2.1)
  rintro e w' ⟨rfl, ⟨nd, rfl⟩⟩
  refine ⟨_, rfl, ?_⟩
  refine hK.out _ _ ⟨(blk_cell BK104.out 0).trans rfl, (blk_cell BK104.out 1).trans rfl, (blk_cell BK104.out 2).trans rfl, (blk_cell BK105.out 0).trans rfl, (blk_cell BK105.out 1).trans rfl, (blk_cell BK105.out 2).trans rfl⟩ (fun hHeld => ?_)
  clear hK K
  refine norm_ (a' := ?_) ?_ ?_
  rotate_left
  · show Act.put _ (some 21) _ = _
    simp only [Act.put, List.setIfInBounds_toArray, List.set_cons_zero, List.set_cons_succ, i64_w, i32_w]
    rfl
  refine pure_ (i := 17) (N := some 4) (v := ?_) (a' := ?_) #[true, true, true, true, true, true, true, true, true, true, true, true, true, true, true, true, true, true] rfl rfl (any_of HT_.out (by kernel_rfl)) (fun _ _ _ h => h) (Or.inl ⟨by rfl, ?_⟩) ?_ ?_
  rotate_left
  · intro w'
    go_simp
    with_reducible rfl
  rotate_left
  · simp only [Act.put, List.setIfInBounds_toArray, List.set_cons_zero, List.set_cons_succ, i64_w, i32_w]
    rfl
  refine done_ (done_of HT_.out (by kernel_rfl)) ?_
  try go_wp2
  go_ret
  exact ⟨by first | rfl | (simp [errW_none, errW_some] <;> rfl) | (simp [*, errW_none, errW_some] <;> rfl) | (simp [*, errW_none, errW_some]; exact (fun (l_ : List UInt8) => (by cases l_ <;> rfl : l_.isEmpty = !(l_ != []))) _), by repeat (first | (with_reducible first | exact HB.out | apply below_alloc | apply pw_below_drewN | apply below_drew1 | refine below_set ?_ GE104.out | refine below_set ?_ GE105.out) | exact HB.out), by have h_ := HD.out; first | exact h_ | (simp only [World.drewN, World.drew]; omega)⟩
end Go.Proofs.Ytondngpmhlemkaa.Ge

/-
  DERIVED: THE SHELF's CONTRACTS AT THIS DUMP, IN PLAIN WORDS (tools/lay-plain.mjs out of 'TrySortShelf.lean', which tools/lay-shelf.mjs wrote): THE SAME DECLARATIONS UNDER THE SAME NAMES: 'import', 'namespace', 'open', 'def', 'theorem' AND NOTHING ELSE: no command of the shelf's: FOR A HAND-IN. Each laying: the table of numbers ('.._ren') and one theorem, a field a fact of the dump's own or the kernel's comparison; each contract: ONE APPLICATION.
-/
namespace Go.Proofs
open Go.Shelf
def Try.sortEdge_ren : Go.Shelf.Ren := ⟨fun | 6 => 37 | 15 => 50 | 14 => 49 | 28 => 64 | 29 => 65 | 20 => 56 | 21 => 57 | 22 => 58 | 23 => 59 | 24 => 60 | 25 => 61 | 26 => 62 | 27 => 63 | 46 => 68 | 47 => 69 | 48 => 70 | 49 => 71 | 50 => 72 | 57 => 82 | n => n, fun | 22 => 22 | 24 => 24 | 25 => 73 | 3 => 3 | 39 => 82 | 0 => 0 | 53 => 94 | 55 => 96 | 4 => 4 | 46 => 88 | 45 => 87 | 50 => 55 | 5 => 5 | 9 => 9 | 66 => 99 | 70 => 103 | 76 => 111 | 77 => 112 | n => n, fun | n => n⟩
theorem Try.sortEdge : Go.Proofs.SlLaysF0.n6 Try.prog Try.sortEdge_ren := {
  mixed := by kernel_rfl
  f6 := ⟨Try.f37.name, by decide, Try.func37.trans (congrArg some (by kernel_rfl))⟩
  f14 := ⟨Try.f49.name, by decide, Try.func49.trans (congrArg some (by kernel_rfl))⟩
  f15 := Try.func50.trans (congrArg some (by kernel_rfl))
  f20 := ⟨Try.f56.name, by decide, Try.func56.trans (congrArg some (by kernel_rfl))⟩
  f21 := ⟨Try.f57.name, by decide, Try.func57.trans (congrArg some (by kernel_rfl))⟩
  f22 := ⟨Try.f58.name, by decide, Try.func58.trans (congrArg some (by kernel_rfl))⟩
  f23 := ⟨Try.f59.name, by decide, Try.func59.trans (congrArg some (by kernel_rfl))⟩
  f24 := ⟨Try.f60.name, by decide, Try.func60.trans (congrArg some (by kernel_rfl))⟩
  f25 := ⟨Try.f61.name, by decide, Try.func61.trans (congrArg some (by kernel_rfl))⟩
  f26 := ⟨Try.f62.name, by decide, Try.func62.trans (congrArg some (by kernel_rfl))⟩
  f27 := ⟨Try.f63.name, by decide, Try.func63.trans (congrArg some (by kernel_rfl))⟩
  f28 := Try.func64.trans (congrArg some (by kernel_rfl))
  f29 := Try.func65.trans (congrArg some (by kernel_rfl))
  f46 := ⟨Try.f68.name, by decide, Try.func68.trans (congrArg some (by kernel_rfl))⟩
  f47 := Try.func69.trans (congrArg some (by kernel_rfl))
  f48 := Try.func70.trans (congrArg some (by kernel_rfl))
  f49 := ⟨Try.f71.name, by decide, Try.func71.trans (congrArg some (by kernel_rfl))⟩
  f50 := ⟨Try.f72.name, by decide, Try.func72.trans (congrArg some (by kernel_rfl))⟩
  f57 := ⟨Try.f82.name, by decide, Try.func82.trans (congrArg some (by kernel_rfl))⟩
  t0 := Try.underlying0
  a0 := Try.isAgg0
  z0 := Try.sizeOf0
  v0 := Try.zeroValue0
  t3 := Try.underlying3
  a3 := Try.isAgg3
  z3 := Try.sizeOf3
  v3 := Try.zeroValue3
  t4 := Try.underlying4
  a4 := Try.isAgg4
  z4 := Try.sizeOf4
  v4 := Try.zeroValue4
  t5 := Try.underlying5
  a5 := Try.isAgg5
  z5 := Try.sizeOf5
  v5 := Try.zeroValue5
  t9 := Try.underlying9
  a9 := Try.isAgg9
  z9 := Try.sizeOf9
  v9 := Try.zeroValue9
  t22 := Try.underlying22
  a22 := Try.isAgg22
  z22 := Try.sizeOf22
  v22 := Try.zeroValue22
  t25 := Try.underlying73
  a25 := Try.isAgg73
  z25 := Try.sizeOf73
  v25 := Try.zeroValue73
  t39 := Try.underlying82
  a39 := Try.isAgg82
  z39 := Try.sizeOf82
  v39 := Try.zeroValue82
  t45 := Try.underlying87
  a45 := Try.isAgg87
  z45 := Try.sizeOf87
  v45 := Try.zeroValue87
  t46 := Try.underlying88
  a46 := Try.isAgg88
  z46 := Try.sizeOf88
  v46 := Try.zeroValue88
  t50 := Try.underlying55
  a50 := Try.isAgg55
  z50 := Try.sizeOf55
  v50 := Try.zeroValue55
  t53 := Try.underlying94
  a53 := Try.isAgg94
  z53 := Try.sizeOf94
  v53 := Try.zeroValue94
  t55 := Try.underlying96
  a55 := Try.isAgg96
  z55 := Try.sizeOf96
  v55 := Try.zeroValue96
  t66 := Try.underlying99
  a66 := Try.isAgg99
  z66 := Try.sizeOf99
  v66 := Try.zeroValue99
  t70 := Try.underlying103
  a70 := Try.isAgg103
  z70 := Try.sizeOf103
  v70 := Try.zeroValue103
  t76 := Try.underlying111
  a76 := Try.isAgg111
  z76 := Try.sizeOf111
  v76 := Try.zeroValue111
  t77 := Try.underlying112
  a77 := Try.isAgg112
  z77 := Try.sizeOf112
  v77 := Try.zeroValue112 }
end Go.Proofs

/- slices.SortFunc of edges. No condition. -/
namespace Go.Proofs.Ytondngpmhlemkaa.Ge
open Go.RowKit Go.Shelf Go.Lib Go.Sort Go.Proofs.YtondngpmhlemkaaW.PrintWords Go.Proofs.Ytondngpmhlemkaa.Pp
set_option linter.unusedVariables false
set_option linter.unusedSimpArgs false
abbrev Ed := Go.Proofs.Ytondngpmhlemkaa.Pr.S24
instance : Inhabited Ed := ⟨Go.Proofs.Ytondngpmhlemkaa.Pr.z24⟩
def encE (x : Ed) : List Value := [.int .i64 x.f0, .int .i64 x.f1, .int .i64 x.f2]
def cm (a b : Int) : Int := if a < b then -1 else if a > b then 1 else 0
def cmpE (x y : Ed) : Int := if cm x.f0 y.f0 ≠ 0 then cm x.f0 y.f0 else if cm x.f1 y.f1 ≠ 0 then cm x.f1 y.f1 else cm x.f2 y.f2
theorem compare_f (a b : Int) : cmp_Compare_int.f a b = some (cm a b) := by
  unfold cmp_Compare_int.f cmp_isNaN_int.f cm
  simp only [bne_self_eq_false, Option.bind_some, Bool.false_eq_true, if_false]
  by_cases h1 : a < b
  · rw [if_pos h1, if_pos h1]
  · rw [if_neg h1, if_neg h1]
    by_cases h2 : a > b
    · rw [if_pos h2, if_pos h2]
    · rw [if_neg h2, if_neg h2]
theorem or_f (a b c : Int) : cmp_Or_int.f 9 [a, b, c] = some (if a ≠ 0 then a else if b ≠ 0 then b else c) := by
  have e0 : Go.Proofs.YtondngpmhlemkaaW.PrintWords.rd [a, b, c] 0 = a := rfl
  have e1 : Go.Proofs.YtondngpmhlemkaaW.PrintWords.rd [a, b, c] 1 = b := rfl
  have e2 : Go.Proofs.YtondngpmhlemkaaW.PrintWords.rd [a, b, c] 2 = c := rfl
  by_cases ha : a = 0 <;> by_cases hb : b = 0 <;> by_cases hc : c = 0 <;> simp [cmp_Or_int.f, cmp_Or_int.l0, e0, e1, e2, ha, hb, hc, wrap64] <;> simp_all
theorem edges1_f (x y : Ed) : graph_Edges_1.f 9 x.f0 x.f1 x.f2 y.f0 y.f1 y.f2 = some (cmpE x y) := by
  unfold graph_Edges_1.f cmpE
  simp only [compare_f, Option.bind_some, or_f]
theorem ltE (x y : Ed) : ltOf cmpE x y = decide (x.f0 < y.f0 ∨ x.f0 = y.f0 ∧ (x.f1 < y.f1 ∨ x.f1 = y.f1 ∧ x.f2 < y.f2)) := by
  unfold ltOf cmpE cm
  apply decide_eq_decide.2
  by_cases h1 : x.f0 < y.f0
  · simp [h1]
  · by_cases h2 : x.f0 > y.f0
    · simp [h1, h2]; omega
    · have e : x.f0 = y.f0 := by omega
      by_cases h3 : x.f1 < y.f1
      · simp [e, h3]
      · by_cases h4 : x.f1 > y.f1
        · simp [e, h3, h4]; omega
        · have e2 : x.f1 = y.f1 := by omega
          by_cases h5 : x.f2 < y.f2
          · simp [e, e2, h5]
          · by_cases h6 : x.f2 > y.f2
            · simp [e, e2, h5, h6]
            · simp [e, e2, h5, h6]
theorem swoE : SWO (ltOf cmpE) where
  irrefl x := by rw [ltE]; simp
  trans x y z h1 h2 := by rw [ltE] at *; simp only [decide_eq_true_eq] at *; omega
  ntrans x y z h1 h2 := by rw [ltE] at *; simp only [decide_eq_false_iff_not] at *; omega
theorem cmpLaysE (blk off size : Nat) (w : World) : CmpLays Try.prog 38 #[] encE 3 cmpE blk off size w :=
  fun _ _ _ _ x y => (edges1_calls 9 x.f0 x.f1 x.f2 y.f0 y.f1 y.f2 _ _ (edges1_f x y)).mono fun e w' ⟨he, hb, hd⟩ => ⟨he, grow_of_below hb hd⟩
theorem sort_calls (blk off cap : Nat) (d : Array Ed) (w : World) (hH : HoldsK encE 3 w blk off d) (hblk : blk < w.heap.size) (hsz : d.size < 4611686018427387904) :
    Calls Try.prog 37 #[.slice (some ⟨blk, off, none⟩) d.size cap, .func (.func 38) #[] #[]] w fun e w' =>
      e = .returned (.tuple #[]) ∧ ∃ d' n os, PermIn 0 d.size d d' ∧ SortedIn (ltOf cmpE) 0 d.size d' ∧ w' = sortWorldK encE 3 w blk off n d' os :=
  AnyQ.slices_SortFunc Try.sortEdge 3 Try.isAgg24 Try.sizeOf24 encE (fun _ => rfl) (fun x v hv => by simp [encE] at hv; rcases hv with rfl | rfl | rfl <;> rfl) cmpE swoE 38 #[] blk off cap d w (enters_of Try.func38 (by kernel_rfl) rfl) (cmpLaysE blk off d.size w) hH hblk hsz
end Go.Proofs.Ytondngpmhlemkaa.Ge

-- WRITTEN BY hprint.py (a patched scratch copy of print.py, see NOTES.md): out of the translation and of contracts proved by hand.
namespace Go.Proofs.Ytondngpmhlemkaa.Pr
open Go.RowKit Go.Proofs.YtondngpmhlemkaaW.PrintWords Go.Proofs.YtondngpmhlemkaaW.PrintLast Go.Proofs.YtondngpmhlemkaaW.PrintMore
attribute [local go_sem] min2_int min_two
set_option linter.unusedVariables false
set_option linter.unusedSimpArgs false
theorem eqA24 (d : Nat) (w : World) (x0 y0 : Int) (x1 y1 : Int) (x2 y2 : Int) :
    (Op.equalIn (d + 2) 24 (.agg #[.int .i64 x0, .int .i64 x1, .int .i64 x2]) (.agg #[.int .i64 y0, .int .i64 y1, .int .i64 y2])).run Try.prog w = .ok (x0 == y0 && (x1 == y1 && (x2 == y2))) w := by
  refine eqA_of Try.underlying24 (by kernel_rfl) ?_
  refine eqf_cons (by rfl) (by go_simp; rfl) (by go_simp; rfl) (by go_simp) ?_
  refine eqf_cons (by rfl) (by go_simp; rfl) (by go_simp; rfl) (by go_simp) ?_
  exact eqf_last (by rfl) (by go_simp; rfl) (by go_simp; rfl) (by go_simp)
end Go.Proofs.Ytondngpmhlemkaa.Pr

/- '==' and '!=' of edges. No condition. -/
namespace Go.Proofs.Ytondngpmhlemkaa.Ge
open Go.RowKit Go.Shelf Go.Lib Go.Sort Go.Proofs.YtondngpmhlemkaaW.PrintWords
set_option linter.unusedVariables false
set_option linter.unusedSimpArgs false
instance : DecidableEq Ed := fun x y => if h : x.f0 = y.f0 ∧ x.f1 = y.f1 ∧ x.f2 = y.f2 then isTrue (by cases x; cases y; simp_all) else isFalse (by rintro rfl; simp at h)
def aggE (x : Ed) : Value := .agg #[.int .i64 x.f0, .int .i64 x.f1, .int .i64 x.f2]
theorem guardE : GuardAt Try.prog 24 aggE := GuardAt.agg (fun x : Ed => #[.int .i64 x.f0, .int .i64 x.f1, .int .i64 x.f2]) (by kernel_rfl)
theorem eq_dec (x y : Ed) : (x.f0 == y.f0 && (x.f1 == y.f1 && (x.f2 == y.f2))) = decide (x = y) := by
  by_cases h : x = y
  · subst h; simp
  · rw [decide_eq_false h]
    cases x; cases y
    simp only [Pr.S24.mk.injEq] at h
    simp only [Bool.and_eq_false_iff, beq_eq_false_iff_ne]
    omega
theorem eqE (x y : Ed) (w : World) : Sem.run Try.prog (binOp .eql 24 (aggE x) (aggE y)) w = .ok (.bool (decide (x = y))) w := by
  unfold aggE
  rw [run_eql_struct, Pr.eqA24 9998, eq_dec]
  rfl
theorem neE (x y : Ed) (w : World) : Sem.run Try.prog (binOp .neq 24 (aggE x) (aggE y)) w = .ok (.bool (!decide (x = y))) w := by
  unfold aggE
  rw [run_neq_struct, Pr.eqA24 9998, eq_dec]
  rfl
theorem cells_of {blk off : Nat} {d : Array Ed} {w : World} (h : HoldsK encE 3 w blk off d) (i : Nat) (hi : i < d.size) :
    w.cell? ⟨blk, off + i * 3, none⟩ = some (.int .i64 (d[i]!).f0) ∧ w.cell? ⟨blk, off + i * 3 + 1, none⟩ = some (.int .i64 (d[i]!).f1) ∧ w.cell? ⟨blk, off + i * 3 + 2, none⟩ = some (.int .i64 (d[i]!).f2) ∧
    w.frozen? ⟨blk, off + i * 3, none⟩ = false ∧ w.frozen? ⟨blk, off + i * 3 + 1, none⟩ = false ∧ w.frozen? ⟨blk, off + i * 3 + 2, none⟩ = false := by
  have h0 := h.cell hi (show 0 < 3 by omega)
  have h1 := h.cell hi (show 1 < 3 by omega)
  have h2 := h.cell hi (show 2 < 3 by omega)
  exact ⟨h0.1, h1.1, h2.1, h0.2, h1.2, h2.2⟩
end Go.Proofs.Ytondngpmhlemkaa.Ge

/- slices.Compact of edges. No condition. -/
namespace Go.Proofs.Ytondngpmhlemkaa.Ge
open Go.RowKit Go.Shelf Go.Lib Go.Sort Go.Proofs.YtondngpmhlemkaaW.PrintWords
set_option linter.unusedVariables false
set_option linter.unusedSimpArgs false
def zE : Ed := ⟨0, 0, 0⟩
theorem setMany_set (d : Array Ed) (i : Nat) (hi : i < d.size) (x : Ed) : setMany (flatK encE 3 d) (i * 3) (encE x) = flatK encE 3 (d.setIfInBounds i x) := by
  refine ext_get! (by simp) fun t ht => ?_
  have ht' : t < d.size * 3 := by simpa using ht
  rw [get_setMany _ _ _ t (by simpa using ht'), get_flatK _ _ _ t ht', get_flatK _ _ _ t (by simpa using ht'), show (encE x).length = 3 from rfl]
  have hq : t / 3 < d.size := by omega
  by_cases a : t / 3 = i
  · subst a
    rw [if_pos (by omega), show t - t / 3 * 3 = t % 3 by omega]
    simp [Array.getElem!_eq_getD, Array.getD, hq]
  · rw [if_neg (by omega)]
    simp [Array.getElem!_eq_getD, Array.getD, Array.getElem_setIfInBounds, hq, Ne.symm a]
theorem store_worldE {w wr : World} {n blk off : Nat} {dk : Array Ed} {i : Nat} (hi : i < dk.size) (hwr : wr = putRowK encE 3 (Sort.ahead w n) blk off dk) (x : Ed) :
    (wr.setCells blk (off + i * 3) (encE x)).drew = putRowK encE 3 (Sort.ahead w (n + 1)) blk off (dk.setIfInBounds i x) := by
  subst hwr
  have hb : i * 3 + 3 ≤ dk.size * 3 := by omega
  unfold putRowK
  rw [setCells_putRow _ _ _ _ _ _ (by rw [show (encE x).length = 3 from rfl, size_flatK]; exact hb), setMany_set _ _ hi, ← ahead_drew]
  rfl
theorem run_clearE (w : World) (b o n c : Nat) (ty : TypeId) (hn : 0 < n) (hc : ∀ j, j < n * 3 → (w.cell? ⟨b, o + j, none⟩).isSome = true) (hf : ∀ j, j < n * 3 → w.frozen? ⟨b, o + j, none⟩ = false) :
    (Builtin.clear_ #[22] ty #[.slice (some ⟨b, o, none⟩) n c]).run Try.prog w = .ok (.tuple #[]) (w.setCells b o (List.replicate (n * 3) (.int .i64 0))) := by
  have hz : (Value.agg #[.int .i64 0, .int .i64 0, .int .i64 0]).cells = #[.int .i64 0, .int .i64 0, .int .i64 0] := rfl
  have hzc : (Builtin.zeroCells (Value.agg #[.int .i64 0, .int .i64 0, .int .i64 0]).cells n).toList = List.replicate (n * 3) (.int .i64 0) := by
    rw [hz]
    simp only [Builtin.zeroCells]
    apply List.ext_getElem
    · simp
    · intro i h1 h2
      have h3 : i % 3 = 0 ∨ i % 3 = 1 ∨ i % 3 = 2 := by omega
      rcases h3 with h3 | h3 | h3 <;> simp [h3]
  have hst := run_storeCells_cells (P := Try.prog) b o (List.replicate (n * 3) (.int .i64 0)) 0 w (by simpa using hc) (by simpa using hf) (by intro v hv'; rw [List.eq_of_mem_replicate hv']; rfl)
  simp only [Nat.add_zero] at hst
  have hv := Try.zeroValue24
  obtain ⟨m, rfl⟩ : ∃ m, n = m + 1 := ⟨n - 1, by omega⟩
  simp [Builtin.clear_, run_underlying Try.underlying22, hv, hzc, hst]
theorem clear_worldE {d dk : Array Ed} {k : Nat} (hI : CompInv d d.size k dk) (W : World) (blk off : Nat) :
    (putRowK encE 3 W blk off dk).setCells blk (off + k * 3) (List.replicate ((d.size - k) * 3) (.int .i64 0)) = putRowK encE 3 W blk off (compactUpTo d d.size ++ List.replicate (d.size - k) zE).toArray := by
  have hk := hI.lt
  have hs := hI.size
  have hl := hI.len
  unfold putRowK
  rw [setCells_putRow _ _ _ _ _ _ (by rw [List.length_replicate, size_flatK, hs]; omega)]
  congr 1
  have hsz : (compactUpTo d d.size ++ List.replicate (d.size - k) zE).toArray.size = d.size := by simp [hl]; omega
  refine ext_get! (by rw [size_setMany, size_flatK, size_flatK, hsz, hs]) fun t ht => ?_
  have ht' : t < d.size * 3 := by rw [size_setMany, size_flatK, hs] at ht; exact ht
  rw [get_setMany _ _ _ t (by rw [size_flatK, hs]; exact ht'), get_flatK _ _ _ t (by rw [hs]; exact ht'), get_flatK _ _ _ t (by rw [hsz]; exact ht'), List.length_replicate]
  by_cases a : k * 3 ≤ t
  · rw [if_pos ⟨a, by omega⟩]
    have e1 : (compactUpTo d d.size ++ List.replicate (d.size - k) zE).toArray[t / 3]! = zE := by
      simp only [Array.getElem!_eq_getD, Array.getD, hsz]
      rw [dif_pos (by omega)]
      simp [List.getElem_append, hl, show ¬ t / 3 < k by omega]
    rw [e1]
    have h3 : t % 3 = 0 ∨ t % 3 = 1 ∨ t % 3 = 2 := by omega
    have e2 : (List.replicate ((d.size - k) * 3) (Value.int .i64 0))[t - k * 3]! = .int .i64 0 := by
      rw [List.getElem!_eq_getElem?_getD, List.getElem?_replicate, if_pos (by omega)]; rfl
    rw [e2]
    rcases h3 with h3 | h3 | h3 <;> rw [h3] <;> rfl
  · rw [if_neg (by omega)]
    have h4 := hI.low (t / 3) (by omega)
    have e1 : (compactUpTo d d.size ++ List.replicate (d.size - k) zE).toArray[t / 3]! = dk[t / 3]! := by
      obtain ⟨h5, h6⟩ := List.getElem?_eq_some_iff.1 h4
      simp only [Array.getElem!_eq_getD, Array.getD, hsz]
      rw [dif_pos (by omega)]
      simp only [Array.getElem!_eq_getD, Array.getD] at h6
      simp [List.getElem_append, h5, h6]
    rw [e1]
set_option maxHeartbeats 4000000 in
set_option maxRecDepth 100000 in
theorem compact_calls (blk off cap : Nat) (d : Array Ed) (w : World) (hH : HoldsK encE 3 w blk off d) (hsz : d.size ≤ 1000000000) (hcap : d.size ≤ cap) :
    Calls Try.prog 41 #[.slice (some ⟨blk, off, none⟩) d.size cap] w fun e w' => e = .returned (.slice (some ⟨blk, off, none⟩) (compactUpTo d d.size).length cap) ∧ ∃ q, w' = putRowK encE 3 (Sort.ahead w q) blk off (compactUpTo d d.size ++ List.replicate (d.size - (compactUpTo d d.size).length) zE).toArray := by
  have mixed : Try.prog.follows .mixedOrders = true := by kernel_rfl
  have heq := eqE
  have hne := neE
  have hgd := guardE
  unfold aggE at heq hne hgd
  have same : ∀ q, (∀ j, j < d.size → keeps d j = true) → (compactUpTo d d.size).length = d.size ∧ w.drewN q = putRowK encE 3 (Sort.ahead w q) blk off (compactUpTo d d.size ++ List.replicate (d.size - (compactUpTo d d.size).length) zE).toArray := by
    intro q hall
    have e : compactUpTo d d.size = d.toList := by rw [compactUpTo_all d _ hall, range_map_get]
    rw [e]
    refine ⟨by simp, ?_⟩
    simp only [Array.length_toList, Nat.sub_self, List.replicate_zero, List.append_nil, Array.toArray_toList]
    exact (putRowK_self encE 3 (Sort.ahead w q) blk off d (holdsK_ahead encE 3 w q blk off d hH)).symm
  have HS : Aside (∀ q, (∀ j, j < d.size → keeps d j = true) → (compactUpTo d d.size).length = d.size ∧ w.drewN q = putRowK encE 3 (Sort.ahead w q) blk off (compactUpTo d d.size ++ List.replicate (d.size - (compactUpTo d d.size).length) zE).toArray) := same
  clear same
  by_cases h2 : d.size < 2
  · have HH : Aside (HoldsK encE 3 w blk off d) := hH
    clear hH
    go_enter Try.func41, Try.ntmps41
    go_wp2
    go_ret
    obtain ⟨e1, e2⟩ := HS.out 0 (fun j hj => keeps_lt_one d j (by omega))
    exact ⟨by rw [e1]; rfl, 0, e2⟩
  · go_enter Try.func41, Try.ntmps41
    go_wp2
    go_loopg [3] d.size (fun g s3 wr => ∃ k q : Nat, 1 ≤ k ∧ k ≤ d.size ∧ d.size - k ≤ g ∧ s3 = .int .i64 k ∧ wr = w.drewN q ∧ ∀ j, j < k → keeps d j = true)
    case atStart => exact ⟨1, 0, Nat.le_refl _, by omega, by omega, rfl, rfl, keeps_lt_one d⟩
    case round =>
      obtain ⟨k, q, hk1, hk, hg, rfl, rfl, hall⟩ := hrel
      by_cases hlt : k < d.size
      · obtain ⟨c0, c1, c2, f0, f1, f2⟩ := cells_of hH k hlt
        obtain ⟨b0, b1, b2, g0, g1, g2⟩ := cells_of hH (k - 1) (by omega)
        have A : Aside (∀ j, j < k → keeps d j = true) := hall
        have HH : Aside (HoldsK encE 3 w blk off d) := hH
        clear hall hH
        generalize hx : d[k]! = x at c0 c1 c2
        generalize hy : d[k - 1]! = y at b0 b1 b2
        have B : Aside (d[k]! = x ∧ d[k - 1]! = y) := ⟨hx, hy⟩
        clear hx hy
        by_cases hdup : x = y
        · subst hdup
          go_wp2_with fail
          go_region_o
          go_wp2
          clear c0 c1 c2 f0 f1 f2 b0 b1 b2 g0 g1 g2
          go_loopg [3, 5] d.size (fun g s3 s5 wr => ∃ (kk k2 q2 : Nat) (dk : Array Ed), s3 = .int .i64 kk ∧ s5 = .int .i64 k2 ∧ 1 ≤ k2 ∧ k + k2 ≤ d.size ∧ d.size - (k + k2) ≤ g ∧ wr = putRowK encE 3 (Sort.ahead w q2) blk off dk ∧ CompInv d (k + k2) kk dk)
          case atStart => exact ⟨k, 1, q + 1, d, rfl, rfl, Nat.le_refl _, by omega, by omega, (putRowK_self encE 3 (Sort.ahead w (q + 1)) blk off d (holdsK_ahead encE 3 w (q + 1) blk off d HH.out)).symm, CompInv.start A.out (keeps_neg (by omega) (by rw [B.out.1, B.out.2]))⟩
          case round =>
            obtain ⟨kk, k2, q2, dk, rfl, rfl, h1, hle, hg2, hwr, hI⟩ := hrel
            have hkk := hI.lt
            have hds := hI.size
            have hHk : HoldsK encE 3 wr blk off dk := by rw [hwr]; exact holdsK_putRowK encE 3 _ blk off d dk (holdsK_ahead encE 3 w q2 blk off d HH.out) hds
            have W2 : Aside (wr = putRowK encE 3 (Sort.ahead w q2) blk off dk) := hwr
            have I2 : Aside (CompInv d (k + k2) kk dk) := hI
            clear hwr
            by_cases hlt2 : k + k2 < d.size
            · obtain ⟨m0, m1, m2, -, -, -⟩ := cells_of hHk (k + k2) (by omega)
              obtain ⟨p0, p1, p2, -, -, -⟩ := cells_of hHk (k + k2 - 1) (by omega)
              obtain ⟨k0, k1, k2_, e0, e1, e2⟩ := cells_of hHk kk (by omega)
              rw [hI.high (k + k2) (by omega), show off + (k + k2) * 3 = off + k * 3 + k2 * 3 by omega] at m0 m1 m2
              rw [hI.high (k + k2 - 1) (by omega), show off + (k + k2 - 1) * 3 = off + k * 3 + (k2 - 1) * 3 by omega] at p0 p1 p2
              clear hHk hI
              generalize hu : d[k + k2]! = u at m0 m1 m2
              generalize hv : d[k + k2 - 1]! = v at p0 p1 p2
              generalize dk[kk]! = old at k0 k1 k2_
              have C : Aside (d[k + k2]! = u ∧ d[k + k2 - 1]! = v) := ⟨hu, hv⟩
              clear hu hv
              by_cases huv : u = v
              · subst huv
                go_wp2_with fail
                go_region_o
                go_wp2
                go_roundg (d.size - (k + (k2 + 1)))
                case measure => omega
                case rel => exact ⟨kk, k2 + 1, q2 + 1, dk, rfl, by go_num, by omega, by omega, Nat.le_refl _, by rw [W2.out]; rfl, I2.out.skip (keeps_neg (by omega) (by rw [C.out.1, C.out.2]))⟩
              · go_wp2_with fail
                go_region_o
                go_wp2
                go_roundg (d.size - (k + (k2 + 1)))
                case measure => omega
                case rel => exact ⟨kk + 1, k2 + 1, q2 + 1, dk.setIfInBounds kk u, by go_num, by go_num, by omega, by omega, Nat.le_refl _, store_worldE (by omega) W2.out u, by have := I2.out.keep hlt2 (keeps_pos (by rw [C.out.1, C.out.2]; exact huv)); rwa [C.out.1] at this⟩
            · have hend : k + k2 = d.size := by omega
              have hcl : ∀ ty, (Builtin.clear_ #[22] ty #[.slice (some ⟨blk, off + kk * 3, none⟩) (d.size - kk) (cap - kk)]).run Try.prog wr = .ok (.tuple #[]) (wr.setCells blk (off + kk * 3) (List.replicate ((d.size - kk) * 3) (.int .i64 0))) :=
                fun ty => run_clearE wr blk (off + kk * 3) _ _ ty (by omega) (fun j hj => by
                  obtain ⟨x0, x1, x2, -, -, -⟩ := cells_of hHk (kk + j / 3) (by omega)
                  have h3 : j % 3 = 0 ∨ j % 3 = 1 ∨ j % 3 = 2 := by omega
                  rcases h3 with h3 | h3 | h3
                  · rw [show off + kk * 3 + j = off + (kk + j / 3) * 3 by omega, x0]; rfl
                  · rw [show off + kk * 3 + j = off + (kk + j / 3) * 3 + 1 by omega, x1]; rfl
                  · rw [show off + kk * 3 + j = off + (kk + j / 3) * 3 + 2 by omega, x2]; rfl) (fun j hj => by
                  obtain ⟨-, -, -, x0, x1, x2⟩ := cells_of hHk (kk + j / 3) (by omega)
                  have h3 : j % 3 = 0 ∨ j % 3 = 1 ∨ j % 3 = 2 := by omega
                  rcases h3 with h3 | h3 | h3
                  · rw [show off + kk * 3 + j = off + (kk + j / 3) * 3 by omega]; exact x0
                  · rw [show off + kk * 3 + j = off + (kk + j / 3) * 3 + 1 by omega]; exact x1
                  · rw [show off + kk * 3 + j = off + (kk + j / 3) * 3 + 2 by omega]; exact x2)
              clear hHk hI
              go_wp2
              go_ret
              have hI := I2.out
              rw [hend] at hI
              refine ⟨by rw [hI.len]; rfl, q2, ?_⟩
              rw [hI.len, ← clear_worldE hI, ← W2.out]
        · go_wp2_with fail
          go_region_o
          go_wp2
          go_roundg (d.size - (k + 1))
          case measure => omega
          case rel =>
            refine ⟨k + 1, q + 1, by omega, by omega, Nat.le_refl _, by go_num, rfl, fun j hj => ?_⟩
            by_cases e : j = k
            · subst e
              exact keeps_pos (by rw [B.out.1, B.out.2]; exact hdup)
            · exact A.out j (by omega)
      · have : k = d.size := by omega
        subst this
        have HH : Aside (HoldsK encE 3 w blk off d) := hH
        clear hH
        go_wp2
        go_ret
        obtain ⟨e1, e2⟩ := HS.out q hall
        exact ⟨by rw [e1]; rfl, q, e2⟩
end Go.Proofs.Ytondngpmhlemkaa.Ge

/- A row of edges that a call owns; a list is asked whether it has a number. No condition. -/
namespace Go.Proofs.Ytondngpmhlemkaa.Ge
open Go.RowKit Go.Shelf Go.Lib Go.Sort Go.Proofs.YtondngpmhlemkaaW.PrintWords Go.Proofs.YtondngpmhlemkaaW.PrintLast Go.Proofs.YtondngpmhlemkaaW.PrintMore Go.Proofs.Ytondngpmhlemkaa.Sets Go.Proofs.Ytondngpmhlemkaa.Pr
set_option linter.unusedVariables false
set_option linter.unusedSimpArgs false
theorem add0 (g j : Nat) : (Addr.mk g 0 none).add j = ⟨g, j, none⟩ := by simp [Addr.add]; omega
def flatE (xs : List Ed) : List Value := xs.flatMap encE
theorem flatE_len : ∀ xs : List Ed, (flatE xs).length = xs.length * 3
  | [] => rfl
  | x :: xs => by
    have := flatE_len xs
    unfold flatE at this ⊢
    rw [List.flatMap_cons, List.length_append, this]
    simp [encE]
    omega
theorem flatE_app (xs ys : List Ed) : flatE (xs ++ ys) = flatE xs ++ flatE ys := List.flatMap_append
theorem flatE_get : ∀ (xs : List Ed) (i : Nat) (x : Ed) (c : Nat), xs[i]? = some x → c < 3 → (flatE xs)[i * 3 + c]? = (encE x)[c]?
  | [], i, x, c, h, hc => by simp at h
  | y :: xs, 0, x, c, h, hc => by
    obtain rfl : y = x := by simpa using h
    unfold flatE
    rw [List.flatMap_cons, Nat.zero_mul, Nat.zero_add, List.getElem?_append_left (by simpa [encE] using hc)]
  | y :: xs, i + 1, x, c, h, hc => by
    have h' : xs[i]? = some x := by simpa using h
    have := flatE_get xs i x c h' hc
    unfold flatE at this ⊢
    rw [List.flatMap_cons, List.getElem?_append_right (by simp [encE]; omega)]
    have e : (i + 1) * 3 + c - (encE y).length = i * 3 + c := by simp [encE]; omega
    rw [e, this]
def OwnE (W : World) (base : Nat) (v : Value) (xs : List Ed) : Prop := W.ownsRow base 24 3 v xs.length (flatE xs)
theorem OwnE.nil (W : World) (base : Nat) : OwnE W base (.slice none 0 0) [] := World.ownsRow_nil _ _ _ _
theorem OwnE.move {W W' : World} {base : Nat} {v : Value} {xs : List Ed} (h : OwnE W base v xs) (hm : ∀ k, v.ownBlock = some k → W'.heap[k]? = W.heap[k]?) : OwnE W' base v xs := own_move h hm
theorem OwnE.lt {W : World} {base : Nat} {v : Value} {xs : List Ed} (h : OwnE W base v xs) {k : Nat} (hk : v.ownBlock = some k) : base ≤ k ∧ k < W.heap.size := World.ownsRow.lt h k hk
theorem OwnE.below {W W' : World} {base : Nat} {v : Value} {xs : List Ed} (h : OwnE W base v xs) (hb : Below W.heap.size W W') : OwnE W' base v xs := h.move (fun k hk => hb.block k (h.lt hk).2)
theorem OwnE.type {W : World} {base : Nat} {v : Value} {xs : List Ed} (h : OwnE W base v xs) {g : Nat} (hg : v.ownBlock = some g) {cs : Array Value} {t : TypeId} (ht : W.heap[g]? = some (.cells cs t (0, 0))) : t = 24 := by
  rcases h.2 with ⟨rfl, _⟩ | ⟨g', cap, cur, rfl, _, hh, _⟩
  · cases hg
  · injection hg with hg
    subst hg
    rw [hh] at ht
    cases ht
    rfl
theorem OwnE.slice {W : World} {base : Nat} {v : Value} {xs : List Ed} (h : OwnE W base v xs) : (v = .slice none 0 0 ∧ xs = []) ∨ ∃ g c cur, v = .slice (some ⟨g, 0, none⟩) xs.length c ∧ base ≤ g ∧ W.heap[g]? = some (.cells cur 24 (0, 0)) ∧ xs.length ≤ c ∧ c ≤ 9223372036854775807 ∧ cur.size = c * 3 ∧ cur.toList.take (xs.length * 3) = flatE xs := by
  rcases h.2 with ⟨rfl, h0⟩ | ⟨g, cap, cur, rfl, hb, hh, h1, h2, h3, h4⟩
  · exact .inl ⟨rfl, List.eq_nil_of_length_eq_zero h0⟩
  · exact .inr ⟨g, cap, cur, rfl, hb, hh, h1, by simpa [maxLen] using h2, h3, by simpa [flatE_len] using h4⟩
theorem OwnE.cells {W : World} {base g n c : Nat} {xs : List Ed} (h : OwnE W base (.slice (some ⟨g, 0, none⟩) n c) xs) {i : Nat} {x : Ed} (hx : xs[i]? = some x) {q : Nat} (hq : q < 3) : W.cell? ⟨g, i * 3 + q, none⟩ = (encE x)[q]? := by
  have h1 := World.ownsRow.cells (g := g) h (by
    rcases h.2 with ⟨e, _⟩ | ⟨g', cap, cur, e, _⟩
    · cases e
    · injection e with e1 e2 e3; injection e1 with e1; injection e1 with e1; subst e1; rfl) (i * 3 + q)
  have h2 := flatE_get xs i x q hx hq
  have h3 : q < (encE x).length := by simpa [encE] using hq
  rw [List.getElem?_eq_getElem h3] at h2 ⊢
  have := h1 _ h2
  rw [add0] at this
  exact this
theorem OwnE.C {W : World} {base n c : Nat} {A : Option Addr} {xs : List Ed} (h : OwnE W base (.slice A n c) xs) : Kd.C k24 W A xs.length xs := by
  have h0 := h.slice
  refine ⟨rfl, ?_, fun hn => ?_⟩
  · rcases h0 with ⟨_, rfl⟩ | ⟨g, c', cur, _, _, _, h1, h2, _⟩
    · simp
    · omega
  · rcases h0 with ⟨_, rfl⟩ | ⟨g, c', cur, e, _, _, h1, h2, _⟩
    · simp at hn
    · injection e with e1 e2 e3
      subst e1
      refine ⟨_, rfl, fun j p hp => ⟨_, rfl, k24_mk W p, fun i u hu => ?_⟩⟩
      have hi : i < 3 := by have := (List.getElem?_eq_some_iff.1 hu).1; simpa using this
      have := h.cells hp hi
      have e := add0 g (j * 3 + i)
      rw [show k24.sz = 3 from rfl, e, this]
      exact hu
theorem infoE : (Try.prog.info? 24).map (fun i => (i.zero, i.size, i.bytes)) = some (some (.agg #[.int .i64 0, .int .i64 0, .int .i64 0]), 3, 24) := by kernel_rfl
theorem appendE_in {F : Fence} {m : Nat} {ops : Array Oper} {rest : List Oper} {o : Oper} {act : Act} {Q : Exit → Act → World → Prop} {W : World} (base : Nat) (hgd : o.guard = none) (s x : Operand)
    (ho : o.op = .call { callee := .builtin .append, args := #[s, x], argTypes := #[22, 22] })
    (v : Value) (xs : List Ed) (y : Ed) (gb : Nat) (hs : act.eval s = v) (hx : act.eval x = .slice (some ⟨gb, 0, none⟩) 1 1) (hy : W.heap[gb]? = some (.cells #[.int .i64 y.f0, .int .i64 y.f1, .int .i64 y.f2] 24 (0, 0))) (HO : OwnE W base v xs) (hbase : base ≤ W.heap.size) (hl : xs.length < 1000000000)
    (h : ∀ v1 w1, OwnE w1 base v1 (xs ++ [y]) → W.grownBy w1 v.ownBlock → (v1.ownBlock = v.ownBlock ∨ v1.ownBlock = some W.heap.size) → wpListIn F m Try.prog ops Q rest (act.put o.dst v1) w1) :
    wpListIn F m Try.prog ops Q (o :: rest) act W := by
  obtain ⟨i0, hi, hz0, hz1, hz2⟩ := info_parts infoE
  refine wpListIn_append_own_at W hgd s x 22 ho base 24 i0 _ 3 24 Try.underlying22 hi hz0 hz1 hz2 rfl (by decide) v xs.length _ hs HO ⟨gb, 0, none⟩ 1 1 (encE y) hx rfl (fun j u hj => ?_) (by simp [encE, Value.oneCell']) (by simp only [maxLen]; omega) (by omega) hbase ?_
  · have hj3 : j < 3 := by have := (List.getElem?_eq_some_iff.1 hj).1; simpa [encE] using this
    have e := add0 gb j
    rw [e]
    match j, hj3 with
    | 0, _ => simpa [World.cell?, hy, encE] using hj
    | 1, _ => simpa [World.cell?, hy, encE] using hj
    | 2, _ => simpa [World.cell?, hy, encE] using hj
  intro v1 w1 hown hg hnil hat
  refine h v1 w1 ?_ hg hat
  have e : flatE (xs ++ [y]) = flatE xs ++ encE y := by rw [flatE_app]; unfold flatE; simp
  unfold OwnE
  rw [e, List.length_append]
  exact hown
theorem OwnE.holds {W : World} {base g n c : Nat} {xs : List Ed} (h : OwnE W base (.slice (some ⟨g, 0, none⟩) n c) xs) : HoldsK encE 3 W g 0 xs.toArray := by
  intro j hj
  rw [size_flatK] at hj
  have hj' : j < xs.length * 3 := by simpa using hj
  rcases h.slice with ⟨e, _⟩ | ⟨g', c', cur, e, _, hh, h1, h2, h3, h4⟩
  · cases e
  · injection e with e1 e2 e3
    injection e1 with e1; injection e1 with e1
    subst e1
    have hx : xs[j / 3]? = some (xs[j / 3]'(by omega)) := List.getElem?_eq_getElem _
    have hc := h.cells hx (q := j % 3) (by omega)
    have ej : j / 3 * 3 + j % 3 = j := by omega
    rw [ej] at hc
    rw [get_flatK _ _ _ _ hj, Nat.zero_add]
    refine ⟨?_, ?_⟩
    · have e1 : xs.toArray[j / 3]! = xs[j / 3]'(by omega) := by simp [getElem!_pos, show j / 3 < xs.length by omega]
      have e2 : j % 3 < (encE (xs[j / 3]'(by omega))).length := by simp [encE]; omega
      rw [hc, e1, List.getElem?_eq_getElem e2, getElem!_pos (encE _) _ e2]
      rfl
    · simp [World.frozen?, hh]
theorem view_of_holds {W : World} {g cap : Nat} {d : Array Ed} {ys : List Ed} (base : Nat) (h : HoldsK encE 3 W g 0 d) (hl : ys.length ≤ d.size) (hy : ∀ i (hi : i < ys.length), d[i]! = ys[i]) (hs : ys.length ≤ 9223372036854775807) (hc : ys.length ≤ cap) (hg : base ≤ g) (hlt : g < W.heap.size) :
    Kd.V k24 24 W base (fun k => base ≤ k) (.slice (some ⟨g, 0, none⟩) ys.length cap) ys := by
  refine Kd.V_mk hc (fun W' hW => ⟨rfl, hs, fun hn => ⟨_, rfl, fun j p hp => ⟨_, rfl, k24_mk W' p, fun i u hu => ?_⟩⟩⟩)
  have hi : i < 3 := by have := (List.getElem?_eq_some_iff.1 hu).1; simpa using this
  have hj := (List.getElem?_eq_some_iff.1 hp).1
  have hb := hW g hg hlt
  have hcell := (h.cell (i := j) (c := i) (by omega) hi).1
  have e : (Addr.mk g 0 none).add (j * 3 + i) = ⟨g, 0 + j * 3 + i, none⟩ := by rw [add0, Nat.zero_add]
  rw [show k24.sz = 3 from rfl, e]
  have e2 : W'.cell? ⟨g, 0 + j * 3 + i, none⟩ = W.cell? ⟨g, 0 + j * 3 + i, none⟩ := by simp only [World.cell?, hb]
  rw [e2, hcell, hy j hj]
  have ep : ys[j] = p := (List.getElem?_eq_some_iff.1 hp).2
  rw [ep]
  have e3 : i < (encE p).length := by simpa [encE] using hi
  rw [getElem!_pos (encE p) _ e3]
  have hu' : (encE p)[i]? = some u := hu
  rw [List.getElem?_eq_getElem e3] at hu'
  exact hu'
theorem at_getD {w : World} {A : Option Addr} {xs : List Int} (h : Kd.C (Kd.int .i64) w A xs.length xs) (k : Nat) (hk : k < xs.length) : ∃ ad, A = some ad ∧ w.cell? (ad.add k) = some (.int .i64 (xs.getD k 0)) := by
  obtain ⟨ad, e, hc⟩ := Kd.at_int h (k : Int) (by omega) (by omega)
  rw [Int.toNat_natCast] at hc
  unfold Go.Proofs.YtondngpmhlemkaaW.PrintWords.rd at hc
  rw [Int.toNat_natCast] at hc
  exact ⟨ad, e, hc⟩
theorem C_plain {W : World} {A : Option Addr} {l : List Int} (h : Kd.C (Kd.int .i64) W A l.length l) (hn : 0 < l.length) : ∃ b off, A = some ⟨b, off, none⟩ ∧ ∀ j, j < l.length → W.cell? ⟨b, off + j, none⟩ = some (.int .i64 (l.getD j 0)) := by
  obtain ⟨ad, rfl, hc⟩ := at_getD h 0 hn
  have hs : ad.spot = none := by
    have h0 : ad.add 0 = ad := by simp [Addr.add]
    rw [h0] at hc
    unfold World.cell? at hc
    cases hsp : ad.spot with
    | none => rfl
    | some p => simp [hsp] at hc; split at hc <;> simp at hc
  obtain ⟨b, off, sp⟩ := ad
  obtain rfl : sp = none := hs
  refine ⟨b, off, rfl, fun j hj => ?_⟩
  obtain ⟨ad, e, hc⟩ := at_getD h j hj
  injection e with e
  subst e
  have ea : (Addr.mk b off none).add j = ⟨b, off + j, none⟩ := by simp [Addr.add]
  rw [ea] at hc
  exact hc
theorem contains_calls (A : Option Addr) (c : Nat) (l : List Int) (x : Int) (W : World) (h : Kd.C (Kd.int .i64) W A l.length l) :
    Calls Try.prog 48 #[.slice A l.length c, .int .i64 x] W fun e W' => e = .returned (.bool (l.contains x)) ∧ W' = W := by
  cases l with
  | nil => exact Try.slices_Contains_int_empty A c x W
  | cons y r =>
    obtain ⟨b, off, rfl, hc⟩ := C_plain h (by simp)
    have := Try.slices_Contains_int b off (y :: r).length c (y :: r) x W (Nat.le_refl _) h.2.1 hc
    rwa [List.take_length] at this
set_option maxHeartbeats 400000 in
theorem has_calls (A0 : Option Addr) (c0 : Nat) (l0 : List Int) (a1 : Int) (w : World) (hr0 : Kd.C (Kd.int .i64) w A0 l0.length l0) :
    Calls Try.prog 36 #[.slice A0 l0.length c0, .int .i64 a1] w fun e w' => e = .returned (.bool (l0.contains a1)) ∧ w' = w := by
  have HC := Aside0.mk (contains_calls A0 c0 l0 a1 w hr0)
  clear hr0
  generalize l0.contains a1 = r at *
  go_enter Try.func36, Try.ntmps36
  go_wp2_with (go_at_call 48; refine HC.out.mono ?_; rintro e w' ⟨rfl, rfl⟩)
  go_ret
  exact ⟨rfl, rfl⟩
end Go.Proofs.Ytondngpmhlemkaa.Ge

/- Sorting and compacting a row of edges that a call owns. No condition. -/
namespace Go.Proofs.Ytondngpmhlemkaa.Ge
open Go.RowKit Go.Shelf Go.Lib Go.Sort Go.Proofs.YtondngpmhlemkaaW.PrintWords Go.Proofs.YtondngpmhlemkaaW.PrintLast Go.Proofs.YtondngpmhlemkaaW.PrintMore Go.Proofs.Ytondngpmhlemkaa.Sets Go.Proofs.Ytondngpmhlemkaa.Pr
set_option linter.unusedVariables false
set_option linter.unusedSimpArgs false
theorem grownBy_putK {w : World} {g q : Nat} (d : Array Ed) : w.grownBy (putRowK encE 3 (Sort.ahead w q) g 0 d) (some g) := by
  refine ⟨rfl, rfl, rfl, by simp [putRowK, putRow, mapBlock, Sort.ahead], fun k hk hne => ?_⟩
  have : g ≠ k := fun e => hne (by rw [e])
  simp [putRowK, putRow, mapBlock, Sort.ahead, Array.getElem?_modify, this]
theorem grownBy_sortK {w : World} {g n : Nat} {os : Array Obj} (d : Array Ed) : w.grownBy (sortWorldK encE 3 w g 0 n d os) (some g) := by
  have h := grownBy_putK (w := w) (g := g) (q := n) d
  unfold sortWorldK
  refine ⟨h.os, h.tape, h.output, Nat.le_trans h.size (by simp), fun k hk hne => ?_⟩
  rw [heap_grow_old _ _ (Nat.lt_of_lt_of_le hk h.size)]
  exact h.block k hk hne
def RowE (W : World) (base : Nat) (v : Value) (ys : List Ed) : Prop :=
  (v = .slice none 0 0 ∧ ys = []) ∨ ∃ g c, v = .slice (some ⟨g, 0, none⟩) ys.length c ∧ base ≤ g ∧ g < W.heap.size ∧ HoldsK encE 3 W g 0 ys.toArray ∧ ys.length ≤ c
theorem sort_row {W : World} {base : Nat} {v : Value} {xs : List Ed} (h : OwnE W base v xs) (hl : xs.length ≤ 1000000000) :
    Calls Try.prog 37 #[v, .func (.func 38) #[] #[]] W fun e W' =>
      e = .returned (.tuple #[]) ∧ ∃ ys, ys.Perm xs ∧ ys.Pairwise (fun x y => ltOf cmpE y x = false) ∧ RowE W' base v ys ∧ W.grownBy W' v.ownBlock := by
  rcases h.slice with ⟨rfl, rfl⟩ | ⟨g, c, cur, rfl, hb, hh, hc, hc2, hcs, htk⟩
  · refine (AnyF.slices_SortFunc_none Try.sortEdge none 0 _ W).mono ?_
    rintro e W' ⟨rfl, rfl⟩
    exact ⟨rfl, [], List.Perm.refl _, List.Pairwise.nil, .inl ⟨rfl, rfl⟩, World.grownBy.refl _ _⟩
  · have hlt := (Array.getElem?_eq_some_iff.1 hh).1
    have hH := h.holds
    have hs : xs.toArray.size = xs.length := by simp
    have := sort_calls g 0 c xs.toArray W hH hlt (by rw [hs]; omega)
    rw [hs] at this
    refine this.mono ?_
    rintro e W' ⟨rfl, d', n, os, hp, hso, rfl⟩
    have hd : d'.size = xs.length := by rw [hp.1, hs]
    refine ⟨rfl, d'.toList, ?_, ?_, .inr ⟨g, c, by simp [hd], hb, ?_, ?_, by simp [hd]; exact hc⟩, grownBy_sortK d'⟩
    · have h2 := hp.2.2
      have e1 : d'.extract 0 xs.length = d' := by rw [← hd]; simp
      have e2 : xs.toArray.extract 0 xs.length = xs.toArray := by rw [← hs]; simp
      rw [e1, e2] at h2
      simpa using h2
    · rw [List.pairwise_iff_getElem]
      intro i j hi hj hij
      have hi' : i < d'.size := by simpa using hi
      have hj' : j < d'.size := by simpa using hj
      have := hso i j (Nat.zero_le _) hij (by omega)
      rw [getElem!_pos d' i hi', getElem!_pos d' j hj'] at this
      simpa using this
    · exact Nat.lt_of_lt_of_le hlt (size_sortWorldK_c (enc := encE) (k := 3) (w := W) (blk := g) (off := 0) n d' os)
    · simpa using holdsK_sortWorldK_c (enc := encE) (k := 3) (w := W) (blk := g) (off := 0) xs.toArray d' n os hH hlt (by rw [hd, hs])
theorem compact_none (w : World) : Calls Try.prog 41 #[.slice none 0 0] w fun e w' => e = .returned (.slice none 0 0) ∧ w' = w := by
  go_enter Try.func41, Try.ntmps41
  go_wp2
  go_ret
  exact ⟨rfl, rfl⟩
theorem compact_row {W : World} {base : Nat} {v : Value} {ys : List Ed} (h : RowE W base v ys) (hl : ys.length ≤ 1000000000) :
    Calls Try.prog 41 #[v] W fun e W' => ∃ v', e = .returned v' ∧ Kd.V k24 24 W' base (fun k => base ≤ k) v' (Lib.compact ys) ∧ W.grownBy W' v.ownBlock := by
  rcases h with ⟨rfl, rfl⟩ | ⟨g, c, rfl, hb, hlt, hH, hc⟩
  · refine (compact_none W).mono ?_
    rintro e W' ⟨rfl, rfl⟩
    exact ⟨_, rfl, Kd.V_nil _ _ _ _ _, World.grownBy.refl _ _⟩
  · have hs : ys.toArray.size = ys.length := by simp
    have := compact_calls g 0 c ys.toArray W hH (by rw [hs]; exact hl) (by rw [hs]; exact hc)
    rw [hs] at this
    refine this.mono ?_
    rintro e W' ⟨rfl, q, rfl⟩
    have hcl : (compactUpTo ys.toArray ys.length).length ≤ ys.length := Lib.compact_length_le ys
    have hH2 := holdsK_putRowK encE 3 (Sort.ahead W q) g 0 ys.toArray (compactUpTo ys.toArray ys.length ++ List.replicate (ys.length - (compactUpTo ys.toArray ys.length).length) zE).toArray (holdsK_ahead encE 3 W q g 0 _ hH) (by simp; omega)
    refine ⟨_, rfl, ?_, grownBy_putK _⟩
    have hcl2 : (compactUpTo ys.toArray ys.length).length ≤ 9223372036854775807 := by omega
    refine view_of_holds (ys := compactUpTo ys.toArray ys.length) base hH2 (by simp) (fun i hi => ?_) hcl2 (Nat.le_trans hcl hc) hb ?_
    · have hi' : i < (compactUpTo ys.toArray ys.length ++ List.replicate (ys.length - (compactUpTo ys.toArray ys.length).length) zE).toArray.size := by simp; omega
      rw [getElem!_pos (compactUpTo ys.toArray ys.length ++ List.replicate (ys.length - (compactUpTo ys.toArray ys.length).length) zE).toArray i hi']
      simp [List.getElem_append_left hi]
    · have := (grownBy_putK (w := W) (g := g) (q := q) (compactUpTo ys.toArray ys.length ++ List.replicate (ys.length - (compactUpTo ys.toArray ys.length).length) zE).toArray).size
      omega
end Go.Proofs.Ytondngpmhlemkaa.Ge

/- Sorted edges: what compacting makes of them; a rising list is known by what is in it. No condition. -/
namespace Go.Proofs.Ytondngpmhlemkaa.Ge
open Go.RowKit Go.Shelf Go.Lib Go.Sort Go.Proofs.Ytondngpmhlemkaa.Pr
set_option linter.unusedVariables false
set_option linter.unusedSimpArgs false
def LT (x y : Ed) : Prop := x.f0 < y.f0 ∨ x.f0 = y.f0 ∧ (x.f1 < y.f1 ∨ x.f1 = y.f1 ∧ x.f2 < y.f2)
theorem lt_iff (x y : Ed) : ltOf cmpE x y = true ↔ LT x y := by rw [ltE]; simp [LT]
theorem lt_iff' (x y : Ed) : ltOf cmpE x y = false ↔ ¬ LT x y := by rw [ltE]; simp only [LT, decide_eq_false_iff_not]
theorem LT.irrefl (x : Ed) : ¬ LT x x := by unfold LT; omega
theorem LT.trans {x y z : Ed} (h : LT x y) (k : LT y z) : LT x z := by unfold LT at *; omega
theorem LT.anti {x y : Ed} (h : ¬ LT x y) (k : ¬ LT y x) : x = y := by
  obtain ⟨a, b, c⟩ := x
  obtain ⟨d, e, f⟩ := y
  unfold LT at h k
  simp only at h k
  have h1 : a = d := by omega
  have h2 : b = e := by omega
  have h3 : c = f := by omega
  rw [h1, h2, h3]
theorem le_trans {x y z : Ed} (h : ¬ LT y x) (k : ¬ LT z y) : ¬ LT z x := by unfold LT at *; omega
theorem lt_of {x y : Ed} (h : ¬ LT y x) (k : x ≠ y) : LT x y := Classical.byContradiction (fun n => k (LT.anti n h))
theorem lt_of_le {x y z : Ed} (h : ¬ LT y x) (k : LT y z) : LT x z := by unfold LT at *; omega
theorem getBangE (zs : List Ed) (m : Nat) (h : m < zs.length) : zs.toArray[m]! = zs[m] := by
  rw [getElem!_pos zs.toArray m (by simpa using h)]
  simp
theorem compactUpTo_sortedE (zs : List Ed) (hs : zs.Pairwise (fun x y => ¬ LT y x)) : ∀ m, m ≤ zs.length →
    (compactUpTo zs.toArray m).Pairwise LT ∧ (∀ x, x ∈ compactUpTo zs.toArray m ↔ x ∈ zs.take m) ∧ ∀ x ∈ compactUpTo zs.toArray m, ∀ (h : 0 < m) (h2 : m - 1 < zs.length), ¬ LT zs[m - 1] x
  | 0, _ => by
    have h0 : compactUpTo zs.toArray 0 = [] := by
      cases hc : compactUpTo zs.toArray 0 with
      | nil => rfl
      | cons a l => simp [compactUpTo] at hc
    rw [h0]
    simp
  | m + 1, hm => by
    obtain ⟨h1, h2, h3⟩ := compactUpTo_sortedE zs hs m (by omega)
    have hlt : m < zs.length := by omega
    rw [compactUpTo_succ, getBangE zs m hlt]
    have htk : zs.take (m + 1) = zs.take m ++ [zs[m]] := by rw [List.take_succ_eq_append_getElem hlt]
    have hle : ∀ x ∈ compactUpTo zs.toArray m, ¬ LT zs[m] x := by
      intro x hx
      have hx' := (h2 x).1 hx
      obtain ⟨i, hi, rfl⟩ := List.mem_iff_getElem.1 hx'
      rw [List.length_take] at hi
      rw [List.getElem_take]
      exact (List.pairwise_iff_getElem.1 hs) i m (by omega) hlt (by omega)
    by_cases hk : keeps zs.toArray m = true
    · rw [if_pos hk]
      have hstrict : ∀ x ∈ compactUpTo zs.toArray m, LT x zs[m] := by
        intro x hx
        rcases Nat.eq_zero_or_pos m with h0 | h0
        · subst h0
          have := (h2 x).1 hx
          simp at this
        · have ha := h3 x hx h0 (by omega)
          have hne : zs[m] ≠ zs[m - 1] := by
            intro e
            have := keeps_neg (d := zs.toArray) h0 (by rw [getBangE zs m hlt, getBangE zs (m - 1) (by omega)]; exact e)
            rw [this] at hk
            cases hk
          have hb := (List.pairwise_iff_getElem.1 hs) (m - 1) m (by omega) hlt (by omega)
          exact lt_of_le ha (lt_of hb (fun e => hne e.symm))
      refine ⟨?_, ?_, ?_⟩
      · rw [List.pairwise_append]
        exact ⟨h1, by simp, fun a ha b hb => by simp at hb; subst hb; exact hstrict a ha⟩
      · intro x
        rw [htk, List.mem_append, List.mem_append, h2]
      · intro x hx _ _
        simp only [Nat.add_sub_cancel]
        rw [List.mem_append] at hx
        rcases hx with hx | hx
        · exact hle x hx
        · simp at hx; rw [hx]; exact LT.irrefl _
    · rw [if_neg hk, List.append_nil]
      refine ⟨h1, fun x => ?_, fun x hx _ _ => ?_⟩
      · rw [htk, List.mem_append, h2]
        refine ⟨.inl, fun h => h.elim id (fun h => ?_)⟩
        simp at h
        have hm0 : m ≠ 0 := fun h0 => hk (by rw [h0]; simp [keeps])
        have he : zs[m] = zs[m - 1] := Classical.byContradiction (fun hne => hk (by
          unfold keeps
          rw [getBangE zs m hlt, getBangE zs (m - 1) (by omega)]
          exact decide_eq_true (.inr hne)))
        rw [h, he]
        exact List.mem_take_iff_getElem.2 ⟨m - 1, by omega, rfl⟩
      · simp only [Nat.add_sub_cancel]
        exact hle x hx
theorem compact_sortedE (zs : List Ed) (hs : zs.Pairwise (fun x y => ¬ LT y x)) : (Lib.compact zs).Pairwise LT ∧ ∀ x, x ∈ Lib.compact zs ↔ x ∈ zs := by
  obtain ⟨h1, h2, _⟩ := compactUpTo_sortedE zs hs zs.length (Nat.le_refl _)
  refine ⟨h1, fun x => ?_⟩
  have := h2 x
  rw [List.take_length] at this
  exact this
theorem rise_unique : ∀ {xs ys : List Ed}, xs.Pairwise LT → ys.Pairwise LT → (∀ x, x ∈ xs ↔ x ∈ ys) → xs = ys
  | [], [], _, _, _ => rfl
  | [], y :: ys, _, _, h => absurd ((h y).2 (by simp)) (by simp)
  | x :: xs, [], _, _, h => absurd ((h x).1 (by simp)) (by simp)
  | x :: xs, y :: ys, hx, hy, h => by
    have hx' := List.pairwise_cons.1 hx
    have hy' := List.pairwise_cons.1 hy
    have e : x = y := by
      rcases List.mem_cons.1 ((h x).1 (by simp)) with h1 | h1
      · exact h1
      · rcases List.mem_cons.1 ((h y).2 (by simp)) with h2 | h2
        · exact h2.symm
        · exact absurd (LT.trans (hy'.1 x h1) (hx'.1 y h2)) (LT.irrefl _)
    subst e
    congr 1
    refine rise_unique hx'.2 hy'.2 (fun z => ⟨fun hz => ?_, fun hz => ?_⟩)
    · rcases List.mem_cons.1 ((h z).1 (List.mem_cons_of_mem _ hz)) with h1 | h1
      · subst h1; exact absurd (hx'.1 z hz) (LT.irrefl _)
      · exact h1
    · rcases List.mem_cons.1 ((h z).2 (List.mem_cons_of_mem _ hz)) with h1 | h1
      · subst h1; exact absurd (hy'.1 z hz) (LT.irrefl _)
      · exact h1
def edgeSet (xs : List Ed) : List Ed := Lib.compact (xs.mergeSort (fun x y => !ltOf cmpE y x))
theorem edgeSet_of {xs ys : List Ed} (hp : ys.Perm xs) (hs : ys.Pairwise (fun x y => ltOf cmpE y x = false)) : Lib.compact ys = edgeSet xs := by
  have h1 := compact_sortedE ys (hs.imp (fun h => (lt_iff' _ _).1 h))
  have hms : (xs.mergeSort (fun x y => !ltOf cmpE y x)).Pairwise (fun x y => (!ltOf cmpE y x) = true) := List.pairwise_mergeSort (fun a b c h k => by
      simp only [Bool.not_eq_true', lt_iff'] at *
      exact le_trans h k) (fun a b => by
      simp only [Bool.or_eq_true, Bool.not_eq_true', lt_iff']
      by_cases h : LT b a
      · exact .inr (fun k => LT.irrefl _ (LT.trans h k))
      · exact .inl h) xs
  have h2 := compact_sortedE (xs.mergeSort (fun x y => !ltOf cmpE y x)) (hms.imp (fun h => by simpa only [Bool.not_eq_true', lt_iff'] using h))
  refine rise_unique h1.1 h2.1 (fun x => ?_)
  unfold edgeSet
  rw [h1.2, h2.2, hp.mem_iff, List.mem_mergeSort]
theorem edgeSet_rises (xs : List Ed) : (edgeSet xs).Pairwise LT ∧ ∀ x, x ∈ edgeSet xs ↔ x ∈ xs := by
  have hms : (xs.mergeSort (fun x y => !ltOf cmpE y x)).Pairwise (fun x y => (!ltOf cmpE y x) = true) := List.pairwise_mergeSort (fun a b c h k => by
      simp only [Bool.not_eq_true', lt_iff'] at *
      exact le_trans h k) (fun a b => by
      simp only [Bool.or_eq_true, Bool.not_eq_true', lt_iff']
      by_cases h : LT b a
      · exact .inr (fun k => LT.irrefl _ (LT.trans h k))
      · exact .inl h) xs
  have h2 := compact_sortedE (xs.mergeSort (fun x y => !ltOf cmpE y x)) (hms.imp (fun h => by simpa only [Bool.not_eq_true', lt_iff'] using h))
  refine ⟨h2.1, fun x => ?_⟩
  unfold edgeSet
  rw [h2.2, List.mem_mergeSort]
end Go.Proofs.Ytondngpmhlemkaa.Ge

/- A region that draws its order, inside a round of a range over a function: what is shown of it outside of any round serves there, if it defers nothing. No condition. -/
namespace Go.Proofs.Ytondngpmhlemkaa.Iter
open Go.RowKit Go.Proofs.YtondngpmhlemkaaW.PrintLast
set_option linter.unusedVariables false
section
variable {P : Program} {ops : Array Oper} {Q : Exit → Act → World → Prop} {md : Region.Mode} {l : Nat}
def noDefer (ops : Array Oper) : Bool := ops.toList.all fun o => match o.op with
  | .defer _ => false
  | _ => true
theorem noDefer_spec (h : noDefer ops = true) (j : Nat) (o : Oper) (ho : ops[j]? = some o) (c : Call) : o.op ≠ .defer c := by
  intro e
  have hm : o ∈ ops.toList := Array.mem_toList_iff.2 (Array.mem_of_getElem? ho)
  have := List.all_eq_true.1 h o hm
  rw [e] at this
  cases this
theorem rowsIn_round {row : String} {args : Array Value} {w : World} {R : Value → World → Prop} (h : Rows P row args w R) : RowsIn (Fence.wide.inRound l) 0 P row args w R :=
  fun c cs _ => let ⟨v, w', r, s⟩ := h c cs; ⟨v, w', r, stepsIn_wide.2 s⟩
theorem wpOp_round (hd : noDefer ops = true) (hQ : ¬ LetsOut Q) {i : Nat} {K : Act → World → Prop} {a : Act} {w : World} (h : wpOp P ops Q i K a w) : wpOpIn (Fence.wide.inRound l) 0 P ops Q i K a w := by
  unfold wpOp at h
  unfold wpOpIn
  cases ho : ops[i]? with
  | none => simpa [ho] using h
  | some o =>
    simp only [ho] at h ⊢
    split at h
    · rename_i hw
      rw [if_pos hw]
      rcases h with h | ⟨_, h⟩
      · unfold Oper.wp at h
        unfold Oper.wpIn
        refine ⟨fun _ _ => trivial, ?_⟩
        rw [show (Fence.wide.inRound l).round = some l from rfl, Oper.semAt_some l _ _ (fun c => noDefer_spec hd i o ho c)]
        generalize (execOp a.eval o).run P w = r at h ⊢
        cases r with
        | ok x w' =>
          cases x <;> simp only [Oper.upon, Oper.uponIn] at h ⊢
          case value => exact h
          case skip => exact h
          case defer => exact h
          case enter => exact ⟨fun hx => (by cases hx), CallsIn.inRound l (callsIn_wide.2 h)⟩
          case row => exact ⟨fun hx => (by cases hx), rowsIn_round h⟩
        | halt x w' => cases x <;> simp only [Oper.upon, Oper.uponIn] at h ⊢ <;> exact h
      · exact absurd h hQ
    · rename_i hw
      rw [if_neg hw]
      exact ⟨fun _ _ => trivial, h⟩
theorem wpAny_round (hd : noDefer ops = true) (hQ : ¬ LetsOut Q) : ∀ (fuel : Nat) (listed : Array Bool) (a : Act) (w : World), wpAny P md ops Q fuel listed a w → wpAnyIn (Fence.wide.inRound l) 0 P md ops Q fuel listed a w
  | 0, _, _, _, h => h
  | fuel + 1, _, _, _, h => ⟨h.1, fun i hi => wpOp_round hd hQ (wpOp_mono (fun a' w' h' => wpAny_round hd hQ fuel _ a' w' h') (h.2 i hi))⟩
theorem startIn_ {S : World → Prop} {ds : List Nat} {id n : Nat} {a : Act} {w : World} (li : Array Bool) (hm : P.follows .mixedOrders = true) (hn : ops.size = n) (hl : Array.replicate n false = li) (hd : noDefer ops = true) (hQ : ¬ LetsOut Q) (hS : S w.drew)
    (h : S w.drew → wpAnyLast P .any ops Q S ds n li a w.drew) : (Code.region id ops true).wpIn (Fence.wide.inRound l) 0 P Q a w := by
  subst hn
  subst hl
  exact wpIn_region_any hm (wpAny_round hd hQ _ _ _ _ (wpAny_of_last _ _ _ _ (h hS)))
end
end Go.Proofs.Ytondngpmhlemkaa.Iter

