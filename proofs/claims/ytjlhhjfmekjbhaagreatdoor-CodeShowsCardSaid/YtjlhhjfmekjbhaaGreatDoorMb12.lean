/- Lemmas for the claims of this seat (own texts, packed; what the claims do not use is left out). No condition. -/
import Derived.Shelf.Abstract
import Derived.Shelf.RegionOpen
import Derived.WalkKit
import Derived.OwnWalkIn
import Derived.TacticsInMore
import Derived.LoopNIn
import Derived.LoopIn
import Derived.Sort.LoopGhostIn
import Derived.Sort.OwnSortedInts
import Derived.Lib.OwnBridge
import Derived.Lib.SlicesCompact
import Derived.Lib.RowBridge
import Derived.Maps.OwnIn
import Derived.WalkMore
import Derived.Lib.Builder
import Derived.Lib.AppendStr
import Derived.Lib.UnsafeStr
import Derived.Lib.Case
import Derived.Maps.AppendAt
import Derived.Laws.Externs
import Derived.Laws.IdiomCopy
import Derived.Laws.BitsLemmas
import Derived.Tactics
import Derived.Tactics2
import Derived.Test.YtjlhhjfmekjbhaaGreatDoorProg
import Derived.Below
import Derived.Deep.Draws
import Derived.Deep.AppendLies
import Derived.OwnWalk
import Derived.Laws.BytesArg
import Derived.Laws.MakeOwn
import Derived.Laws.OwnMore
import Derived.Deep.OwnRows
import Derived.Lib.ConvBytes
import Derived.Laws.Slices
import Derived.KernelRfl
import Derived.RowKit3
import Derived.Deep.LoopGhost
import Derived.Deep.QuietTactic
import Derived.BigQuiet
import Derived.WideLaws
import Derived.Deep.DeepCutAuto
import Derived.Deep.CutBlock
import Derived.Deep.RegionHeld3
import Derived.Laws.Rows
import Derived.ArgAppend
import Derived.OrdersHeld
import Derived.RowKit
import Derived.OrdersIn
import Derived.RangeFuncCalls
import Derived.Shelf.Strings.BuilderK
import Derived.Test.YtjlhhjfmekjbhaaGreatDoorMb0
import Derived.Test.YtjlhhjfmekjbhaaGreatDoorMb1
import Derived.Test.YtjlhhjfmekjbhaaGreatDoorMb11
/- code.all's iterator: it gives the instructions of all procs, as they lie in memory. No condition. -/
namespace Go.Proofs.YtjlhhjfmekjbhaaGreatDoor.Cf
open Go.RowKit Go.Proofs.YtjlhhjfmekjbhaaGreatDoorW.PrintWords Go.Proofs.YtjlhhjfmekjbhaaGreatDoorW.PrintLast Go.Proofs.YtjlhhjfmekjbhaaGreatDoorW.PrintMore Go.Proofs.YtjlhhjfmekjbhaaGreatDoor.Iter Go.Proofs.YtjlhhjfmekjbhaaGreatDoor.Pq Go.Proofs.YtjlhhjfmekjbhaaGreatDoor.Cd
set_option linter.unusedVariables false
set_option linter.unusedSimpArgs false
attribute [local go_sem] Oper.semAt_some
abbrev E : Type := S31 × Option Addr × Nat
def ze : E := (z31, none, 0)
def encX (e : E) : Array Value := #[insV e.1 e.2.1 e.2.2]
structure InsFact (W : World) (ad : Addr) (e : E) : Prop where
  h0 : W.cell? ad = some (.int .i64 e.1.f0)
  h1 : W.cell? ⟨ad.block, ad.off + 1, none⟩ = some (.int .i64 e.1.f1)
  h2 : W.cell? ⟨ad.block, ad.off + 2, none⟩ = some (.int .i64 e.1.f2)
  h3 : W.cell? ⟨ad.block, ad.off + 3, none⟩ = some (.int .i64 e.1.f3)
  h4 : W.cell? ⟨ad.block, ad.off + 4, none⟩ = some (.int .i64 e.1.f4)
  h5 : W.cell? ⟨ad.block, ad.off + 5, none⟩ = some (.string e.1.f5)
  h6 : W.cell? ⟨ad.block, ad.off + 6, none⟩ = some (.int .i64 e.1.f6)
  h7 : W.cell? ⟨ad.block, ad.off + 7, none⟩ = some (.slice e.2.1 e.1.f7.length e.2.2)
structure PD where
  regs : Int
  at_ : Option Addr
  cap : Nat
  xs : List E
def zp : PD := ⟨0, none, 0, []⟩
structure ProcFact (W : World) (ad : Addr) (p : PD) : Prop where
  h0 : W.cell? ad = some (.int .i64 p.regs)
  h1 : W.cell? ⟨ad.block, ad.off + 1, none⟩ = some (.slice p.at_ p.xs.length p.cap)
  len : p.xs.length ≤ 140737488355328
  ins : ∀ k, k < p.xs.length → ∃ a1, p.at_ = some a1 ∧ InsFact W (a1.add (k * 8)) (p.xs.getD k ze)
structure AllFact (W : World) (A : Option Addr) (X : List PD) : Prop where
  len : X.length ≤ 140737488355328
  at_ : ∀ j, j < X.length → ∃ ad, A = some ad ∧ ProcFact W (ad.add (j * 2)) (X.getD j zp)
def ListFact (W : World) (e : E) : Prop := Kd.C (Kd.int .i64) W e.2.1 e.1.f7.length e.1.f7 ∧ e.1.f7.length ≤ e.2.2
theorem InsFact.chg {W W' : World} {ad : Addr} {e : E} (h : InsFact W ad e) (hc : ∀ a v, W.cell? a = some v → W'.cell? a = some v) : InsFact W' ad e :=
  ⟨hc _ _ h.h0, hc _ _ h.h1, hc _ _ h.h2, hc _ _ h.h3, hc _ _ h.h4, hc _ _ h.h5, hc _ _ h.h6, hc _ _ h.h7⟩
theorem ins_list {w : World} {A : Option Addr} {l : List S31} (h : Kd.C k31 w A l.length l) :
    ∃ xs : List E, xs.map (·.1) = l ∧ (∀ k, k < xs.length → ∃ a1, A = some a1 ∧ InsFact w (a1.add (k * 8)) (xs.getD k ze)) ∧ ∀ e ∈ xs, ListFact w e := by
  have hk : ∀ k : Fin l.length, ∃ e : E, e.1 = l.getD k z31 ∧ (∃ a1, A = some a1 ∧ InsFact w (a1.add ((k : Nat) * 8)) e) ∧ ListFact w e := by
    intro k
    obtain ⟨ad, A7, c7, rfl, hc0, hc1, hc2, hc3, hc4, hc5, hc6, hc7, hcl, hcr⟩ := at_T31 h ((k : Nat) : Int) (by omega) (by have := k.2; omega)
    rw [Int.toNat_natCast] at hc0 hc1 hc2 hc3 hc4 hc5 hc6 hc7
    refine ⟨(rd_T31 l ((k : Nat) : Int), A7, c7), by show rd_T31 l _ = _; unfold rd_T31; rw [Int.toNat_natCast], ⟨ad, rfl, hc0, hc1, hc2, hc3, hc4, hc5, hc6, hc7⟩, hcr, hcl⟩
  refine ⟨List.ofFn (fun k => (hk k).choose), ?_, ?_, ?_⟩
  · apply List.ext_getElem
    · simp
    · intro i h1 h2
      simp only [List.getElem_map, List.getElem_ofFn]
      rw [(hk ⟨i, h2⟩).choose_spec.1]
      simp [List.getD, h2]
  · intro k hk1
    have hk2 : k < l.length := by simpa using hk1
    have e : (List.ofFn (fun k => (hk k).choose)).getD k ze = (hk ⟨k, hk2⟩).choose := by
      rw [List.getD_eq_getElem?_getD, List.getElem?_eq_getElem hk1, List.getElem_ofFn]
      rfl
    rw [e]
    exact (hk ⟨k, hk2⟩).choose_spec.2.1
  · intro e he
    obtain ⟨k, rfl⟩ := List.mem_ofFn.1 he
    exact (hk k).choose_spec.2.2
theorem proc_list {w : World} {A : Option Addr} {l : List S28} (h : Kd.C k28 w A l.length l) (hl : l.length ≤ 140737488355328) (hp : ∀ p ∈ l, p.f1.length ≤ 140737488355328) :
    ∃ X : List PD, X.map (fun p => (p.regs, p.xs.map (·.1))) = l.map (fun p => (p.f0, p.f1)) ∧ AllFact w A X ∧ ∀ p ∈ X, (∀ e ∈ p.xs, ListFact w e) ∧ p.xs.length ≤ p.cap := by
  have hk : ∀ k : Fin l.length, ∃ p : PD, (p.regs, p.xs.map (·.1)) = ((l.getD k z28).f0, (l.getD k z28).f1) ∧ (∃ a1, A = some a1 ∧ ProcFact w (a1.add ((k : Nat) * 2)) p) ∧ (∀ e ∈ p.xs, ListFact w e) ∧ p.xs.length ≤ p.cap := by
    intro k
    have hG : rd_T28 l ((k : Nat) : Int) = l.getD k z28 := by unfold rd_T28; rw [Int.toNat_natCast]
    have hM : l.getD k z28 ∈ l := by rw [List.getD_eq_getElem?_getD, List.getElem?_eq_getElem k.2]; exact List.getElem_mem k.2
    obtain ⟨ad, A1, c1, rfl, hx0, hx1, hl1, hi1⟩ := at_T28 h ((k : Nat) : Int) (by omega) (by have := k.2; omega)
    rw [Int.toNat_natCast] at hx0 hx1
    rw [hG] at hx0 hx1 hl1 hi1
    obtain ⟨xs, hm, hf, hL⟩ := ins_list hi1
    have hlen : xs.length = (l.getD k z28).f1.length := by rw [← hm, List.length_map]
    refine ⟨⟨(l.getD k z28).f0, A1, c1, xs⟩, by rw [hm], ⟨ad, rfl, hx0, by rw [hlen]; exact hx1, ?_, hf⟩, hL, ?_⟩
    · show xs.length ≤ _
      rw [hlen]; exact hp _ hM
    · show xs.length ≤ c1
      rw [hlen]; exact hl1
  refine ⟨List.ofFn (fun k => (hk k).choose), ?_, ⟨by simpa using hl, ?_⟩, ?_⟩
  · apply List.ext_getElem
    · simp
    · intro i h1 h2
      have h2' : i < l.length := by simpa using h2
      simp only [List.getElem_map, List.getElem_ofFn]
      rw [(hk ⟨i, h2'⟩).choose_spec.1]
      simp [List.getD, h2']
  · intro k hk1
    have hk2 : k < l.length := by simpa using hk1
    have e : (List.ofFn (fun k => (hk k).choose)).getD k zp = (hk ⟨k, hk2⟩).choose := by
      rw [List.getD_eq_getElem?_getD, List.getElem?_eq_getElem hk1, List.getElem_ofFn]
      rfl
    rw [e]
    exact (hk ⟨k, hk2⟩).choose_spec.2.1
  · intro p hp'
    obtain ⟨k, rfl⟩ := List.mem_ofFn.1 hp'
    exact (hk k).choose_spec.2.2
def flat (X : List PD) : List E := X.flatMap (·.xs)
theorem flat_take (X : List PD) (j : Nat) (h : j < X.length) : flat (X.take (j + 1)) = flat (X.take j) ++ (X.getD j zp).xs := by
  unfold flat
  rw [List.take_add_one, List.getElem?_eq_getElem h, List.flatMap_append]
  simp [List.getD, h]
theorem flat_at (X : List PD) (j k : Nat) (h : j < X.length) (hk : k < (X.getD j zp).xs.length) : (flat X)[(flat (X.take j)).length + k]? = some ((X.getD j zp).xs.getD k ze) := by
  have e : flat X = flat (X.take j) ++ ((X.getD j zp).xs ++ flat (X.drop (j + 1))) := by
    have h1 : X = X.take (j + 1) ++ X.drop (j + 1) := (List.take_append_drop _ _).symm
    conv => lhs; rw [h1]
    unfold flat
    rw [List.flatMap_append]
    have := flat_take X j h
    unfold flat at this
    rw [this, List.append_assoc]
  rw [e, List.getElem?_append_right (by omega), Nat.add_sub_cancel_left, List.getElem?_append_left hk, List.getElem?_eq_getElem hk]
  generalize X.getD j zp = p at *
  rw [List.getD_eq_getElem?_getD, List.getElem?_eq_getElem hk]
  rfl
structure AllRel (B0 : Nat) (Oi : Nat → Prop) (w : World) (J : Nat → (Nat → Prop) → World → Prop) (n : Nat) (W : World) : Prop where
  reach : Chg (fun i => B0 ≤ i ∧ ¬ Oi i) w W
  own : ∃ O1, J n O1 W ∧ ∀ i, O1 i → B0 ≤ i ∧ ¬ Oi i ∧ i < W.heap.size
theorem AllRel.alloc {B0 : Nat} {Oi : Nat → Prop} {w W : World} {J : Nat → (Nat → Prop) → World → Prop} {n : Nat} (h : AllRel B0 Oi w J n W) (hJ : ∀ k, Abide B0 (J k)) (o : Obj) : AllRel B0 Oi w J n (W.alloc o) := by
  obtain ⟨O1, h1, h2⟩ := h.own
  refine ⟨h.reach.alloc o, O1, hJ _ _ _ _ (fun _ => False) h1 ((Chg.refl _ _).alloc o) (fun i h => h.elim), fun i hi => ⟨(h2 i hi).1, (h2 i hi).2.1, ?_⟩⟩
  have := (h2 i hi).2.2
  simp; omega
theorem AllRel.step {B0 : Nat} {Oi : Nat → Prop} {w W W' : World} {J : Nat → (Nat → Prop) → World → Prop} {m : Nat} {O1 O2 : Nat → Prop} (h : Chg (fun i => B0 ≤ i ∧ ¬ Oi i) w W) (hOi : ∀ i, Oi i → i < W.heap.size) (hB : B0 ≤ W.heap.size)
    (h2 : ∀ i, O1 i → B0 ≤ i ∧ ¬ Oi i ∧ i < W.heap.size) (hg : Grow O1 W O2 W') (hj : J m O2 W') (hc : Chg O1 W W') : AllRel B0 Oi w J m W' := by
  refine ⟨h.then_ (hc.mono (fun i _ hi => ⟨(h2 i hi).1, (h2 i hi).2.1⟩)), O2, hj, fun i hi => ?_⟩
  rcases (hg i hi).1 with h' | h'
  · exact ⟨(h2 i h').1, (h2 i h').2.1, (hg i hi).2⟩
  · exact ⟨by omega, fun ho => by have := hOi i ho; omega, (hg i hi).2⟩
set_option maxHeartbeats 8000000 in
set_option maxRecDepth 100000 in
theorem all1_iter (B0 : Nat) (Oi : Nat → Prop) (w : World) (Bl : Nat) (A : Option Addr) (ca : Nat) (X : List PD) (hbox : w.cell? ⟨Bl, 0, none⟩ = some (.slice A X.length ca)) (hBl : Oi Bl) (hOi : ∀ i, Oi i → i < w.heap.size) (hB0 : B0 ≤ w.heap.size)
    (hA : ∀ W, Chg (fun i => B0 ≤ i ∧ ¬ Oi i) w W → AllFact W A X) :
    IterOK Tryz.prog 81 #[.pointer (some ⟨Bl, 0, none⟩)] encX (flat X) B0 Oi w := by
  intro y J Jx O W hcW hO hJ hJx hY h0
  have hreach : Chg (fun i => B0 ≤ i ∧ ¬ Oi i) w W := hcW.mono (fun i _ hi => ⟨(hO i hi.1).2.1, (hO i hi.1).1⟩)
  have HREL := Aside0.mk (show AllRel B0 Oi w J (flat (X.take 0)).length W from ⟨hreach, O, h0, fun i hi => ⟨(hO i hi).2.1, (hO i hi).1, (hO i hi).2.2⟩⟩)
  have hboxl := hreach.cell hbox (fun h => h.2 hBl)
  have HLEN := Aside0.mk (hA W hreach).len
  have HY := Aside0.mk hY
  have HJ := Aside0.mk hJ
  have HA := Aside0.mk hA
  have HOI := Aside0.mk hOi
  have HB0 := Aside0.mk hB0
  clear hY hJ hJx h0 hA hcW hO hbox hreach hOi hB0
  refine (callsIn_wide (n := 0)).1 ?_
  refine callsIn_of_wp Tryz.func81 rfl trivial ?_ rfl
  simp only [Tryz.ntmps81, List.size_toArray, List.length_cons, List.length_nil, Nat.reduceAdd, Nat.reduceSub, Array.replicate_succ, Array.replicate_zero, List.push_toArray, List.append_toArray, List.nil_append, List.cons_append]
  gi_wp2
  gi_loopg [9] X.length (fun kq v9 w' => ∃ j : Nat, v9 = .int .i64 j ∧ j + kq = X.length ∧ AllRel B0 Oi w J (flat (X.take j)).length w')
  case atStart => exact ⟨0, rfl, by omega, HREL.out⟩
  case round =>
    clear HREL hboxl
    obtain ⟨j, rfl, hj, hrel⟩ := hrel
    by_cases hlt : j < X.length
    · obtain ⟨ad, rfl, hp⟩ := (HA.out wr hrel.reach).at_ j hlt
      have hp0 := hp.h0
      have hp1 := hp.h1
      have HPL := Aside0.mk hp.len
      have HFT := Aside0.mk (flat_take X j hlt)
      have HFA := Aside0.mk (fun k hk => flat_at X j k hlt hk)
      have HIN := Aside0.mk (fun W hW k hk => by
        obtain ⟨ad', e', hp'⟩ := (HA.out W hW).at_ j hlt
        exact hp'.ins k hk)
      have HR0 := Aside0.mk (hrel.alloc HJ.out (.cells #[.int .i64 (X.getD j zp).regs, .slice (X.getD j zp).at_ (X.getD j zp).xs.length (X.getD j zp).cap] 28))
      have hw : wrap64 ((j : Int) + 1) = ((j + 1 : Nat) : Int) := by have := HLEN.out; unfold wrap64; omega
      clear hp hrel
      obtain ⟨gq, hgq⟩ : ∃ g, g = gk := ⟨_, rfl⟩
      generalize X.getD j zp = p at *
      obtain ⟨p0, pA, pc, xs⟩ := p
      dsimp only at *
      gi_wp2
      gi_loopg [16] xs.length (fun kq v16 w' => ∃ k : Nat, v16 = .int .i64 k ∧ k + kq = xs.length ∧ AllRel B0 Oi w J ((flat (X.take j)).length + k) w')
      case atStart => exact ⟨0, rfl, by omega, HR0.out⟩
      case round =>
        clear HR0 hp0 hp1
        obtain ⟨k, rfl, hk, hrel⟩ := hrel
        by_cases hlt2 : k < xs.length
        · obtain ⟨a1, rfl, hi⟩ := HIN.out wr hrel.reach k hlt2
          have HE := Aside0.mk (HFA.out k hlt2)
          have hw2 : wrap64 ((k : Int) + 1) = ((k + 1 : Nat) : Int) := by have := HPL.out; unfold wrap64; omega
          have i0 := hi.h0
          have i1 := hi.h1
          have i2 := hi.h2
          have i3 := hi.h3
          have i4 := hi.h4
          have i5 := hi.h5
          have i6 := hi.h6
          have i7 := hi.h7
          clear hi
          generalize xs.getD k ze = e at *
          obtain ⟨O1, hj1, hd⟩ := (hrel.alloc HJ.out (.cells #[.int .i64 e.1.f0, .int .i64 e.1.f1, .int .i64 e.1.f2, .int .i64 e.1.f3, .int .i64 e.1.f4, .string e.1.f5, .int .i64 e.1.f6, .slice e.2.1 e.1.f7.length e.2.2] 31)).own
          have HRC := Aside0.mk (hrel.reach.alloc (.cells #[.int .i64 e.1.f0, .int .i64 e.1.f1, .int .i64 e.1.f2, .int .i64 e.1.f3, .int .i64 e.1.f4, .string e.1.f5, .int .i64 e.1.f6, .slice e.2.1 e.1.f7.length e.2.2] 31))
          have HD := Aside0.mk hd
          have hyl := HY.out _ e O1 _ HE.out hj1 (fun i hi => (HD.out i hi).2.2)
          obtain ⟨fn, tmps, asg, bdy, hy, hR⟩ := hyl
          dsimp only [encX, insV] at hy
          have HR2 := Aside0.mk hR
          clear hR hrel hj1 hd
          gi_wp2
          refine ⟨rfl, HR2.out.mono ?_⟩
          rintro e' W' (⟨rfl, ⟨O2, hO2, hJ2⟩, hc⟩ | ⟨rfl, ⟨O2, hO2, hx⟩, hc⟩)
          · have HG := Aside0.mk (show AllRel B0 Oi w J ((flat (X.take j)).length + (k + 1)) W' from AllRel.step HRC.out (fun i hi => Nat.lt_of_lt_of_le (HOI.out i hi) HRC.out.size) (Nat.le_trans HB0.out HRC.out.size) HD.out hO2 hJ2 hc)
            clear hO2 hJ2 hc hy i0 i1 i2 i3 i4 i5 i6 i7
            gi_wp2
            gi_roundg (gk - 1)
            case measure => omega
            case rel => exact ⟨k + 1, by go_num, by omega, HG.out⟩
          · gi_wp2
            refine bodyPost_ret (results_none rfl _ _ _) rfl ?_
            exact ⟨⟨_, rfl⟩, .inr ⟨_, O2, (List.getElem?_eq_some_iff.1 HE.out).1, hx⟩⟩
        · obtain rfl : k = xs.length := by omega
          have HF := Aside0.mk hrel
          clear hrel
          gi_wp2
          gi_roundg (gq - 1)
          case measure => omega
          case rel => exact ⟨j + 1, by go_num, by omega, by rw [HFT.out, List.length_append]; exact HF.out⟩
    · obtain rfl : j = X.length := by omega
      have HF := Aside0.mk hrel
      clear hrel
      gi_wp2
      go_end0
      obtain ⟨O1, hj, _⟩ := HF.out.own
      rw [List.take_length] at hj
      exact ⟨⟨_, rfl⟩, .inl ⟨O1, hj⟩⟩
end Go.Proofs.YtjlhhjfmekjbhaaGreatDoor.Cf

/- Rows of whole numbers of a call's own: sorted, each once, longer by one; small facts on worlds. No condition. -/
namespace Go.Proofs.YtjlhhjfmekjbhaaGreatDoor.Ext
open Go.RowKit Go.Proofs.YtjlhhjfmekjbhaaGreatDoorW.PrintWords Go.Proofs.YtjlhhjfmekjbhaaGreatDoorW.PrintLast Go.Proofs.YtjlhhjfmekjbhaaGreatDoorW.PrintMore Go.Proofs.YtjlhhjfmekjbhaaGreatDoor.Sets Go.Proofs.YtjlhhjfmekjbhaaGreatDoor.Iter
set_option linter.unusedVariables false
set_option linter.unusedSimpArgs false
attribute [local go_sem] Oper.semAt_some
abbrev OwnI (W : World) (base : Nat) (v : Value) (xs : List Int) : Prop := Kd.R (Kd.int .i64) 3 W base (fun _ => True) v xs
theorem infoI : (Tryz.prog.info? 3).map (fun i => (i.zero, i.size, i.bytes)) = some (some (.int .i64 0), 1, 8) := by kernel_rfl
theorem own_slice3 {w : World} {base : Nat} {v : Value} {xs : List Int} (h : OwnI w base v xs) : ∃ A c, v = .slice A xs.length c ∧ xs.length ≤ c ∧ c ≤ 9223372036854775807 := by
  have ho := Kd.own_of_R h
  rcases ho.2 with ⟨rfl, h0⟩ | ⟨g, cap, cur, rfl, _, _, h1, h2, _⟩
  · exact ⟨none, 0, by rw [h0], by omega, by omega⟩
  · exact ⟨_, cap, rfl, h1, h2⟩
theorem own_base_lt {w : World} {base : Nat} {v : Value} {xs : List Int} (h : OwnI w base v xs) (k : Nat) (hk : v.ownBlock = some k) : base ≤ k := own_base (Kd.own_of_R h) k hk
theorem append1_in {F : Fence} {m : Nat} {ops : Array Oper} {rest : List Oper} {o : Oper} {act : Act} {Q : Exit → Act → World → Prop} {W : World} (base : Nat) (hgd : o.guard = none) (s x : Operand)
    (ho : o.op = .call { callee := .builtin .append, args := #[s, x], argTypes := #[29, 29] })
    (v : Value) (xs : List Int) (y : Int) (gb : Nat) (hs : act.eval s = v) (hx : act.eval x = .slice (some ⟨gb, 0, none⟩) 1 1) (hy : W.cell? ⟨gb, 0, none⟩ = some (.int .i64 y)) (HO : OwnI W base v xs) (hbase : base ≤ W.heap.size) (hl : xs.length < 17592186044416)
    (h : ∀ v1 w1, OwnI w1 base v1 (xs ++ [y]) → W.grownBy w1 v.ownBlock → (v1.ownBlock = v.ownBlock ∨ v1.ownBlock = some W.heap.size) → (∃ g n c, v1 = .slice (some ⟨g, 0, none⟩) n c) → wpListIn F m Tryz.prog ops Q rest (act.put o.dst v1) w1) :
    wpListIn F m Tryz.prog ops Q (o :: rest) act W := by
  obtain ⟨i0, hi, hz0, hz1, hz2⟩ := info_parts infoI
  refine wpListIn_append_own_at W hgd s x 29 ho base 3 i0 (.int .i64 0) 1 8 Tryz.underlying29 hi hz0 hz1 hz2 rfl (by decide) v xs.length _ hs (Kd.own_of_R HO) ⟨gb, 0, none⟩ 1 1 [.int .i64 y] hx rfl (fun j u hj => ?_) (by simp [Value.oneCell']) (by simp only [maxLen]; omega) (by omega) hbase ?_
  · match j, hj with
    | 0, hj => obtain rfl : Value.int .i64 y = u := by simpa using hj
               simpa [Addr.add] using hy
    | j + 1, hj => simp at hj
  intro v1 w1 hown hg hnil hat
  have hown' : w1.ownsRow base 3 1 v1 (xs ++ [y]).length (encs (Value.int .i64) (xs ++ [y])) := by simpa [encs] using hown
  refine h v1 w1 (Kd.R_of_own hown' (fun _ _ => trivial)) hg hat ?_
  rcases hown'.2 with ⟨_, h0⟩ | ⟨g, cap, cur, e, _⟩
  · simp at h0
  · exact ⟨g, _, cap, e⟩
theorem own_chg {W W' : World} {base : Nat} {v : Value} {xs : List Int} {T : Nat → Prop} (h : OwnI W base v xs) (hc : Chg T W W') (hn : ∀ k, v.ownBlock = some k → ¬ T k) : OwnI W' base v xs :=
  Kd.R_of_own (own_move (Kd.own_of_R h) (fun k hk => hc.block k (own_lt (Kd.own_of_R h) k hk) (hn k hk))) (fun _ _ => trivial)
theorem frozen_chg {W W' : World} {T : Nat → Prop} (hc : Chg T W W') {a : Addr} (hlt : a.block < W.heap.size) (hn : ¬ T a.block) : W'.frozen? a = W.frozen? a := by
  have := hc.block a.block hlt hn
  simp only [World.frozen?, this]
theorem alloc_at (w : World) (o : Obj) (k : Nat) : (w.alloc o).heap[k]? = if k = w.heap.size then some o else w.heap[k]? := by
  show (w.heap.push o)[k]? = _
  rw [Array.getElem?_push]
theorem cell_of_blk {W : World} {g : Nat} {v : Value} {t : TypeId} (h : W.heap[g]? = some (.cells #[v] t (0, 0))) : W.cell? ⟨g, 0, none⟩ = some v ∧ W.frozen? ⟨g, 0, none⟩ = false := by
  constructor <;> simp [World.cell?, World.frozen?, h]
end Go.Proofs.YtjlhhjfmekjbhaaGreatDoor.Ext

/- slices.AppendSeq of nil, Collect, Sorted over an iterator of whole numbers. No condition. -/
namespace Go.Proofs.YtjlhhjfmekjbhaaGreatDoor.Ext
open Go.RowKit Go.Proofs.YtjlhhjfmekjbhaaGreatDoorW.PrintWords Go.Proofs.YtjlhhjfmekjbhaaGreatDoorW.PrintLast Go.Proofs.YtjlhhjfmekjbhaaGreatDoorW.PrintMore Go.Proofs.YtjlhhjfmekjbhaaGreatDoor.Sets Go.Proofs.YtjlhhjfmekjbhaaGreatDoor.Iter
set_option linter.unusedVariables false
set_option linter.unusedSimpArgs false
attribute [local go_sem] Oper.semAt_some
structure BoxRow (W : World) (base b : Nat) (xs : List Int) (O : Nat → Prop) : Prop where
  out : ∃ v, W.cell? ⟨b, 0, none⟩ = some v ∧ OwnI W base v xs ∧ ∀ i, v.ownBlock = some i → O i ∧ i ≠ b
  free : W.frozen? ⟨b, 0, none⟩ = false
  lt : b < W.heap.size
  own : O b
theorem BoxRow.chg {A B : World} {base b : Nat} {xs : List Int} {O T : Nat → Prop} (h : BoxRow A base b xs O) (hc : Chg T A B) (hT : ∀ i, T i → ¬ O i) : BoxRow B base b xs O := by
  obtain ⟨v, h1, h2, h3⟩ := h.out
  refine ⟨⟨v, hc.cell h1 (fun ht => hT _ ht h.own), own_chg h2 hc (fun i hi ht => hT i ht (h3 i hi).1), h3⟩, ?_, Nat.lt_of_lt_of_le h.lt hc.size, h.own⟩
  rw [frozen_chg hc h.lt (fun ht => hT _ ht h.own)]
  exact h.free
theorem BoxRow.less {A : World} {base b : Nat} {xs : List Int} {O O' : Nat → Prop} (h : BoxRow A base b xs O) (hO : ∀ i, O i → O' i) : BoxRow A base b xs O' := by
  obtain ⟨v, h1, h2, h3⟩ := h.out
  exact ⟨⟨v, h1, h2, fun i hi => ⟨hO i (h3 i hi).1, (h3 i hi).2⟩⟩, h.free, h.lt, hO _ h.own⟩
theorem BoxRow.fresh (W : World) (base : Nat) (t : TypeId) (O : Nat → Prop) (hO : O W.heap.size) : BoxRow (W.alloc (.cells #[.slice none 0 0] t)) base W.heap.size [] O := by
  have hn := heap_alloc_new W (.cells #[.slice none 0 0] t)
  exact ⟨⟨_, (cell_of_blk hn).1, Kd.R_nil _ _ _ _ _, fun i hi => by simp [Value.ownBlock] at hi⟩, (cell_of_blk hn).2, by simp, hO⟩
theorem BoxRow.step {W w1 : World} {base b : Nat} {xs : List Int} {O : Nat → Prop} (h : BoxRow W base b xs O) {v : Value} (hv : W.cell? ⟨b, 0, none⟩ = some v) (hv3 : ∀ i, v.ownBlock = some i → O i ∧ i ≠ b) (o : Obj) (hg : (W.alloc o).grownBy w1 v.ownBlock) :
    w1.cell? ⟨b, 0, none⟩ = some v ∧ w1.frozen? ⟨b, 0, none⟩ = false := by
  have h0 : Chg (fun i => v.ownBlock = some i) W w1 := ((Chg.refl _ W).alloc o).grown hg (fun k hk => .inl hk)
  refine ⟨h0.cell hv (fun h => (hv3 _ h).2 rfl), ?_⟩
  rw [frozen_chg h0 h.lt (fun h => (hv3 _ h).2 rfl)]
  exact h.free
theorem BoxRow.stored {W w1 : World} {base b : Nat} {xs ys : List Int} {O : Nat → Prop} (h : BoxRow W base b xs O) {v v1 : Value} (hv : W.cell? ⟨b, 0, none⟩ = some v) (hv3 : ∀ i, v.ownBlock = some i → O i ∧ i ≠ b) (o : Obj) (hg : (W.alloc o).grownBy w1 v.ownBlock)
    (hO : OwnI w1 base v1 ys) (hat : v1.ownBlock = v.ownBlock ∨ v1.ownBlock = some (W.alloc o).heap.size) (hOb : ∀ i, O i → i < W.heap.size) :
    Chg O W (w1.setCell ⟨b, 0, none⟩ v1) ∧ ∃ O2 : Nat → Prop, Grow O W O2 (w1.setCell ⟨b, 0, none⟩ v1) ∧ (∀ i, O i → O2 i) ∧ BoxRow (w1.setCell ⟨b, 0, none⟩ v1) base b ys O2 := by
  have h0 : Chg (fun i => v.ownBlock = some i) W w1 := ((Chg.refl _ W).alloc o).grown hg (fun k hk => .inl hk)
  obtain ⟨hcell, hfr⟩ := h.step hv hv3 o hg
  have hlt := h.lt
  have hv1 : ∀ i, v1.ownBlock = some i → (O i ∨ W.heap.size ≤ i) ∧ i ≠ b := by
    intro i hi
    rcases hat with e | e
    · rw [e] at hi
      exact ⟨.inl (hv3 i hi).1, (hv3 i hi).2⟩
    · rw [e] at hi
      injection hi with hi
      have : (W.alloc o).heap.size = W.heap.size + 1 := by simp
      exact ⟨.inr (by omega), by omega⟩
  have h1 : Chg (fun i => i = b) w1 (w1.setCell ⟨b, 0, none⟩ v1) := (Chg.refl (fun i => i = b) w1).setCell (p := ⟨b, 0, none⟩) (.inl rfl) v1
  have hc2 : Chg O W (w1.setCell ⟨b, 0, none⟩ v1) := (h0.mono (fun i _ hi => (hv3 i hi).1)).trans h1 (fun i e => by subst e; exact .inl h.own)
  have hl1 := own_lt (Kd.own_of_R hO)
  have hsz : (w1.setCell ⟨b, 0, none⟩ v1).heap.size = w1.heap.size := by simp [World.setCell]
  have hs2 := hc2.size
  exact ⟨hc2, fun i => (O i ∨ W.heap.size ≤ i) ∧ i < (w1.setCell ⟨b, 0, none⟩ v1).heap.size, fun i h => h, fun i h => ⟨.inl h, Nat.lt_of_lt_of_le (hOb i h) hs2⟩, ⟨v1, World.cell?_setCell_same' _ _ _ (by rw [hcell]; rfl), own_chg hO h1 (fun i hi e => (hv1 i hi).2 e), fun i hi => ⟨⟨(hv1 i hi).1, by rw [hsz]; exact hl1 i hi⟩, (hv1 i hi).2⟩⟩, by rw [World.frozen?_setCell]; exact hfr, Nat.lt_of_lt_of_le h.lt hc2.size, ⟨.inl h.own, Nat.lt_of_lt_of_le h.lt hc2.size⟩⟩
end Go.Proofs.YtjlhhjfmekjbhaaGreatDoor.Ext

/- An iterator that goes through another one and hands on what it is given: what is so between two rounds. No condition. -/
namespace Go.Proofs.YtjlhhjfmekjbhaaGreatDoor.Iter
open Go.RowKit
set_option linter.unusedVariables false
variable {B0 : Nat} {J Jx : Nat → (Nat → Prop) → World → Prop} {cs : List (Nat × Value)} {n N : Nat} {O1 : Nat → Prop} {W W' : World}
theorem grow_alloc {O : Nat → Prop} (hO : ∀ i, O i → i < W.heap.size) (o : Obj) : Grow O W (fun i => O i ∨ i = W.heap.size) (W.alloc o) := fun i hi => by
  rw [World.size_alloc]
  rcases hi with hi | rfl
  · have := hO i hi
    exact ⟨.inl hi, by omega⟩
  · exact ⟨.inr (Nat.le_refl _), by omega⟩
end Go.Proofs.YtjlhhjfmekjbhaaGreatDoor.Iter

/- code.all and code.Marks: the marks of a code's instructions. No condition. -/
namespace Go.Proofs.YtjlhhjfmekjbhaaGreatDoor.Cf
open Go.RowKit Go.Proofs.YtjlhhjfmekjbhaaGreatDoorW.PrintWords Go.Proofs.YtjlhhjfmekjbhaaGreatDoorW.PrintLast Go.Proofs.YtjlhhjfmekjbhaaGreatDoorW.PrintMore Go.Proofs.YtjlhhjfmekjbhaaGreatDoor.Iter Go.Proofs.YtjlhhjfmekjbhaaGreatDoor.Pq Go.Proofs.YtjlhhjfmekjbhaaGreatDoor.Cd Go.Proofs.YtjlhhjfmekjbhaaGreatDoor.Ext
set_option linter.unusedVariables false
set_option linter.unusedSimpArgs false
attribute [local go_sem] Oper.semAt_some
theorem all_calls (va : Value) (w : World) (h1 : va.oneCell' = true) :
    Calls Tryz.prog 30 #[va] w fun e w' => e = .returned (.func (.func 81) #[] #[.pointer (some ⟨w.heap.size, 0, none⟩)]) ∧ w' = w.alloc (.cells #[va] 22) := by
  go_enter Tryz.func30, Tryz.ntmps30
  go_wp2
  go_ret
  exact ⟨rfl, rfl⟩
theorem wpIn_scope_wide {P : Program} {c : Code} {Q : Exit → Act → World → Prop} {a : Act} {w : World} (h : c.wpIn Fence.wide 0 P (Exit.noGoto Q) a w) : (Code.scope c).wpIn Fence.wide 0 P Q a w :=
  wpIn_wide.2 (wp_scope_straight (wpIn_wide.1 h))
theorem AllFact.chg {W W' : World} {A : Option Addr} {X : List PD} (h : AllFact W A X) (hc : ∀ a v, W.cell? a = some v → W'.cell? a = some v) : AllFact W' A X :=
  ⟨h.len, fun j hj => by
    obtain ⟨ad, e, hp⟩ := h.at_ j hj
    exact ⟨ad, e, hc _ _ hp.h0, hc _ _ hp.h1, hp.len, fun k hk => by
      obtain ⟨a1, e1, hi⟩ := hp.ins k hk
      exact ⟨a1, e1, hi.chg hc⟩⟩⟩
def markOf (x : S31) : Option Int := if x.f0 = 6 ∨ x.f0 = 12 ∨ x.f0 = 13 then some x.f6 else none
def marksX (l : List S31) : List Int := l.filterMap markOf
def marksL (l : List S28) : List Int := marksX (l.flatMap (·.f1))
def marksE (xs : List E) : List Int := xs.filterMap fun e => markOf e.1
theorem marksE_flat {X : List PD} {l : List S28} (h : X.map (fun p => (p.regs, p.xs.map (·.1))) = l.map (fun p => (p.f0, p.f1))) : marksE (flat X) = marksL l ∧ (flat X).map (·.1) = l.flatMap (·.f1) := by
  have e : (flat X).map (·.1) = l.flatMap (·.f1) := by
    have h2 := congrArg (fun z => z.flatMap (fun q : Int × List S31 => q.2)) h
    simpa [flat, List.flatMap_map, List.map_flatMap] using h2
  refine ⟨?_, e⟩
  unfold marksE marksL marksX
  rw [← e, List.filterMap_map]
  rfl
theorem marksE_take (xs : List E) (k : Nat) (x : E) (h : xs[k]? = some x) : marksE (xs.take (k + 1)) = marksE (xs.take k) ++ (markOf x.1).toList := by
  unfold marksE
  rw [List.take_add_one, h, List.filterMap_append]
  cases hm : markOf x.1 <;> simp [hm]
structure MkI (w : World) (xs : List E) (k : Nat) (O : Nat → Prop) (W : World) : Prop where
  bel : Below w.heap.size w W
  row : BoxRow W w.heap.size w.heap.size (marksE (xs.take k)) O
theorem MkI.abide (w : World) (xs : List E) (k : Nat) : Abide w.heap.size (MkI w xs k) := by
  intro O A B T h hc hT
  exact ⟨h.bel.trans (hc.below (Nat.le_of_lt h.row.lt) (fun i hi => (hT i hi).1)), h.row.chg hc (fun i hi => (hT i hi).2)⟩
theorem MkI.alloc {w : World} {xs : List E} {k : Nat} {O : Nat → Prop} {W : World} (h : MkI w xs k O W) (o : Obj) : MkI w xs k (fun i => O i ∨ i = W.heap.size) (W.alloc o) :=
  ⟨h.bel.alloc (Nat.le_of_lt h.row.lt) o, (h.row.chg ((Chg.refl (fun _ => False) W).alloc o) (fun i hi => hi.elim)).less (fun i hi => .inl hi)⟩
def OwnL (w : World) (xs : List Int) (e : Ending) (w' : World) : Prop := ∃ v : Value, e = .returned v ∧ OwnI w' w.heap.size v xs ∧ Below w.heap.size w w'
set_option maxHeartbeats 8000000 in
set_option maxRecDepth 100000 in
theorem marks_calls (A0 : Option Addr) (c0 : Nat) (l0 : List S28) (w : World) (hr0 : Kd.C k28 w A0 l0.length l0) (hl : l0.length ≤ 140737488355328) (hp : ∀ p ∈ l0, p.f1.length ≤ 140737488355328) (hs : (l0.flatMap (·.f1)).length ≤ 17592186044415) :
    Calls Tryz.prog 17 #[.slice A0 l0.length c0] w (OwnL w (marksL l0)) := by
  obtain ⟨X, hX, hall, _⟩ := proc_list hr0 hl hp
  have hXl : X.length = l0.length := by have := congrArg List.length hX; simpa using this
  obtain ⟨hm, hf⟩ := marksE_flat hX
  have hfl : (flat X).length ≤ 17592186044415 := by have := congrArg List.length hf; rw [List.length_map] at this; omega
  rw [← hm, ← hXl]
  clear hr0 hl hp hs hX hm hf hXl
  refine (callsIn_wide (n := 0)).1 ?_
  refine callsIn_of_wp_marks Tryz.func17 rfl trivial ?_ rfl
  simp only [Tryz.ntmps17, List.size_toArray, List.length_cons, List.length_nil, Nat.reduceAdd, Nat.reduceSub, Array.replicate_succ, Array.replicate_zero, List.push_toArray, List.append_toArray, List.nil_append, List.cons_append]
  have hdep : Fence.wide.depth = none := rfl
  have hfns : ∀ f, Fence.wide.fn f := fun _ => trivial
  gi_wp2
  refine wpIn_scope_wide ?_
  gi_wp2
  refine wpIn_label ?_
  gi_wp2_with (gi_at_call 30; refine (callsIn_wide.2 (all_calls _ _ rfl)).mono ?_; rintro e w' ⟨rfl, rfl⟩)
  obtain ⟨W2, hW2⟩ : ∃ W2, (w.alloc (.cells #[.slice none 0 0] 29)).alloc (.cells #[.slice A0 X.length c0] 22) = W2 := ⟨_, rfl⟩
  have hb2 : Below w.heap.size w W2 := by rw [← hW2]; exact ((Below.refl _ w).alloc (Nat.le_refl _) _).alloc (by simp) _
  have hs2 : W2.heap.size = w.heap.size + 2 := by rw [← hW2]; simp
  have hbox : W2.cell? ⟨w.heap.size + 1, 0, none⟩ = some (.slice A0 X.length c0) := by
    rw [← hW2]
    exact (cell_of_blk (t := 22) (by simp only [alloc_at, World.size_alloc]; simp (disch := omega) [if_pos, if_neg])).1
  have hI0 : MkI w (flat X) 0 (fun i => i = w.heap.size) W2 := by
    refine ⟨hb2, ?_⟩
    rw [← hW2]
    exact (BoxRow.fresh w w.heap.size 29 (fun i => i = w.heap.size) rfl).chg ((Chg.refl (fun _ => False) _).alloc _) (fun i hi => hi.elim)
  have hA : ∀ W, Chg (fun i => w.heap.size ≤ i ∧ ¬ (i = w.heap.size + 1)) W2 W → AllFact W A0 X := fun W hc => hall.chg fun a v hv => by
    have hlt := World.block_lt_of_cell? w _ hv
    exact hc.cell ((hb2.cell hlt).trans hv) (fun h => by have := h.1; omega)
  have hit := all1_iter w.heap.size (fun i => i = w.heap.size + 1) W2 (w.heap.size + 1) A0 c0 X hbox rfl (fun i hi => by omega) (by omega) hA
  rw [hW2]
  clear hW2 hA hbox
  refine wp_rangeFunc_go (gf := 81) (lb := #[.pointer (some ⟨w.heap.size + 1, 0, none⟩)]) rfl (enters_of Tryz.func81 (by kernel_rfl) rfl) hit (fun _ => rfl) (fun i => i = w.heap.size) (by omega) (fun i hi => by subst hi; exact ⟨by omega, by omega, by omega⟩) (fun i hi => by omega) (Chg.refl _ _)
    (MkI w (flat X)) (fun _ _ _ _ => False) (fun k => MkI.abide w (flat X) k) (fun _ _ _ _ _ _ h _ _ => h) hI0 ?round ?done ?stop
  case stop => exact fun D k c O1 W _ _ _ h _ => h.elim
  case round =>
    intro l0 k x O1 W K hx hi hb hK
    obtain ⟨⟨x0, x1, x2, x3, x4, x5, x6, x7⟩, A7, c7⟩ := x
    dsimp only [encX, insV]
    gi_wp2
    refine hK _ _ _ ((Chg.refl _ _).alloc _) (grow_alloc hb _) (hi.alloc _) ?_
    have hn4 := heap_alloc_new W (.cells #[.int .i64 x0, .int .i64 x1, .int .i64 x2, .int .i64 x3, .int .i64 x4, .string x5, .int .i64 x6, .slice A7 x7.length c7] 31)
    have HX := Aside0.mk hx
    clear hi hK hb hx
    intro l T Wb hc hT hOb hll hnl hrec hi
    have hn5 := hc.blk hn4 (fun ht => (hT _ ht).2 (.inr rfl))
    have hf0 : Wb.cell? ⟨W.heap.size, 0, none⟩ = some (.int .i64 x0) := by simp [World.cell?, hn5]
    have hf6 : Wb.cell? ⟨W.heap.size, 6, none⟩ = some (.int .i64 x6) := by simp [World.cell?, hn5]
    clear hn4 hn5 hrec hT hc hnl
    have hle : (marksE ((flat X).take k)).length < 17592186044416 := by
      have h1 : (marksE ((flat X).take k)).length ≤ ((flat X).take k).length := List.length_filterMap_le _ _
      rw [List.length_take] at h1
      omega
    have hbs : w.heap.size < Wb.heap.size := hi.row.lt
    have HTK := Aside0.mk (marksE_take (flat X) k _ HX.out)
    by_cases hop : x0 = 6 ∨ x0 = 12 ∨ x0 = 13
    · have hmk : markOf ⟨x0, x1, x2, x3, x4, x5, x6, x7⟩ = some x6 := by unfold markOf; rw [if_pos hop]
      have HTK := Aside0.mk (show marksE ((flat X).take (k + 1)) = marksE ((flat X).take k) ++ [x6] by rw [HTK.out]; dsimp only; rw [hmk]; rfl)
      obtain ⟨v, hv1, hv2, hv3⟩ := hi.row.out
      have hfr := hi.row.free
      have HI := Aside0.mk hi
      have hsl := own_slice3 hv2
      obtain ⟨A, c, hve, _, _⟩ := hsl
      subst hve
      have HO2 := Aside0.mk (show OwnI (Wb.alloc (.cells #[.int .i64 x6] 3)) w.heap.size (.slice A (marksE ((flat X).take k)).length c) _ from Kd.R_below hv2 ((Below.refl _ Wb).alloc (Nat.le_refl _) _))
      clear hi hv2 hmk
      generalize marksE ((flat X).take k) = ys at *
      rcases hop with rfl | rfl | rfl
      all_goals
        gi_wp2_with (gi_at_builtin; go_loud (refine append1_in w.heap.size rfl _ _ rfl (.slice A ys.length c) ys x6 Wb.heap.size rfl rfl (by simp) HO2.out (by simp; omega) hle ?_; rintro v1 w1 hO1 hg1 hat1 ⟨g1, n1, c1', rfl⟩; obtain ⟨hcell1, hfr1⟩ := HI.out.row.step hv1 hv3 _ hg1; have HST := Aside0.mk (HI.out.row.stored hv1 hv3 _ hg1 hO1 hat1 hOb); have HVB := Aside0.mk (show Chg (fun i => (O1 i ∨ i = W.heap.size) ∧ w.heap.size ≤ i) Wb w1 from ((Chg.refl _ Wb).alloc _).grown hg1 (fun i hi => .inl ⟨(hv3 i hi).1, own_base_lt HO2.out i hi⟩)); clear hO1 hat1 hg1))
        obtain ⟨hst1, O2, hO2, hOO, hrow⟩ := HST.out
        refine ⟨hst1, O2, hO2, HI.out.bel.trans ((HVB.out.setCell (p := ⟨w.heap.size, 0, none⟩) (.inl ⟨HI.out.row.own, Nat.le_refl _⟩) _).below (Nat.le_of_lt hbs) (fun i hi => hi.2)), ?_⟩
        rw [HTK.out]
        exact hrow
    · have hmk : markOf ⟨x0, x1, x2, x3, x4, x5, x6, x7⟩ = none := by unfold markOf; rw [if_neg hop]
      have h6 : (x0 == 6) = false := by simp; omega
      have h12 : (x0 == 12) = false := by simp; omega
      have h13 : (x0 == 13) = false := by simp; omega
      have HTK := Aside0.mk (show marksE ((flat X).take (k + 1)) = marksE ((flat X).take k) by rw [HTK.out]; dsimp only; rw [hmk]; simp)
      have HI := Aside0.mk hi
      have HOP := Aside0.mk hop
      clear hi hmk hop
      gi_wp2
      exact ⟨Chg.refl _ _, _, Grow.same hOb (Nat.le_refl _), HI.out.bel, by rw [HTK.out]; exact HI.out.row⟩
  case done =>
    intro D O1 W hD hnD hi hK
    obtain ⟨v, hv1, hv2, hv3⟩ := hi.row.out
    have HI := Aside0.mk hi
    rw [List.take_of_length_le (Nat.le_refl _)] at hv2
    have HV2 := Aside0.mk hv2
    have hsl := own_slice3 hv2
    obtain ⟨A, c, hve, _, _⟩ := hsl
    subst hve
    clear hi hv2
    gi_wp2
    refine ⟨by simp, .inl ⟨_, _, rfl, run_takeDeferred hK, ?_⟩⟩
    refine ⟨.slice A (marksE (flat X)).length c, by simp [results, Tryz.results17, go_sem], _, rfl, ?_, ?_⟩
    · exact own_chg HV2.out (Chg.put1 W D _) (fun i h e => by subst e; exact hnD (hv3 _ h).1)
    · exact HI.out.bel.trans ((Chg.put1 W D _).below (Nat.le_of_lt HI.out.row.lt) (fun i e => by subst e; omega))
end Go.Proofs.YtjlhhjfmekjbhaaGreatDoor.Cf

/- A strings.Builder of a call's own, and which blocks it owns: copyCheck, WriteString, WriteByte. No condition. -/
namespace Go.Proofs.YtjlhhjfmekjbhaaGreatDoor.Bld
open Go.RowKit Go.Proofs.YtjlhhjfmekjbhaaGreatDoorW.PrintWords Go.Proofs.YtjlhhjfmekjbhaaGreatDoorW.PrintLast Go.Proofs.YtjlhhjfmekjbhaaGreatDoorW.PrintMore Go.Proofs.YtjlhhjfmekjbhaaGreatDoor.Iter
set_option linter.unusedVariables false
set_option linter.unusedSimpArgs false
theorem info_bld : (Tryz.prog.info? 55).map (·.size) = some 2 := by kernel_rfl
theorem lies_bld : liesAt Tryz.prog Tryz.prog.depth 55 (2 / Tryz.prog.cellsOf 55) 0 55 1 = true := by kernel_rfl
theorem info_byte : (Tryz.prog.info? 5).map (fun i => (i.zero, i.size, i.bytes)) = some (some (.int .u8 0), 1, 1) := by kernel_rfl
set_option maxHeartbeats 1000000 in
set_option maxRecDepth 100000 in
theorem check_used (b : Nat) (w : World) (h0 : w.cell? ⟨b, 0, none⟩ = some (.pointer (some ⟨b, 0, none⟩))) :
    Calls Tryz.prog 78 #[.pointer (some ⟨b, 0, none⟩)] w fun e w' => e = .returned (.tuple #[]) ∧ w' = w := by
  obtain ⟨j, hj, _⟩ := Option.map_eq_some_iff.1 info_bld
  go_enter Tryz.func78, Tryz.ntmps78
  go_wp2
  rw [Lib.run_neq_ptr_same w _ Tryz.underlying52 hj]
  go_wp2
  go_end0
  exact ⟨rfl, rfl⟩
set_option maxHeartbeats 1000000 in
set_option maxRecDepth 100000 in
theorem check_fresh (b : Nat) (w : World) (h0 : w.cell? ⟨b, 0, none⟩ = some (.pointer none)) (hsh : w.shape? b = some (55, 2)) (hfz : w.frozen? ⟨b, 0, none⟩ = false) :
    Calls Tryz.prog 78 #[.pointer (some ⟨b, 0, none⟩)] w fun e w' => e = .returned (.tuple #[]) ∧ w' = w.setCell ⟨b, 0, none⟩ (.pointer (some ⟨b, 0, none⟩)) := by
  obtain ⟨j, hj, hjs⟩ := Option.map_eq_some_iff.1 info_bld
  go_enter Tryz.func78, Tryz.ntmps78
  go_wp2
  rw [Lib.run_to_unsafe w ⟨b, 0, none⟩ Tryz.underlying52 Tryz.underlying107 hj (by rw [hjs]; decide) hsh (Nat.zero_lt_succ 1)]
  simp only [Result.andThen]
  rw [Oper.upon_value]
  go_wp2
  rw [run_callFunc_extern Tryz.func91 (by kernel_rfl) (by kernel_rfl) (by kernel_rfl) (e := Extern.AbiNoEscape.same) (by kernel_rfl)]
  rw [Lib.run_noEscape]
  simp only [Result.andThen]
  rw [Oper.upon_value]
  go_wp2
  rw [Lib.run_from_unsafe w ⟨b, 0, none⟩ Tryz.underlying107 Tryz.underlying52 hj hsh lies_bld]
  simp only [Result.andThen]
  rw [Oper.upon_value]
  go_wp2
  try rw [Lib.run_neq_ptr_same _ _ Tryz.underlying52 hj]
  try go_wp2
  go_end0
  exact ⟨rfl, rfl⟩
structure BOwn (W : World) (base b : Nat) (l : List UInt8) (O : Nat → Prop) : Prop where
  at_ : ∃ p v, (p = .pointer none ∨ p = .pointer (some ⟨b, 0, none⟩)) ∧ W.heap[b]? = some (.cells #[p, v] 55 (0, 0)) ∧ W.ownsRow base 5 1 v l.length (Lib.byteCells l) ∧ v.ownBlock ≠ some b ∧ ∀ i, v.ownBlock = some i → O i
  own : O b
  base : base ≤ b
theorem BOwn.is {W : World} {base b : Nat} {l : List UInt8} {O : Nat → Prop} (h : BOwn W base b l O) : Lib.IsBuilder 55 5 base b (Lib.byteCells l) W := by
  obtain ⟨p, v, hp, hb, hv, hne, _⟩ := h.at_
  have hv' : W.ownsRow base 5 1 v (Lib.byteCells l).length (Lib.byteCells l) := by rw [Lib.byteCells_length]; exact hv
  rcases hp with rfl | rfl
  · exact .inl ⟨h.base, v, hb, hv', hne⟩
  · exact .inr ⟨h.base, v, hb, hv', hne⟩
theorem BOwn.chg {A B : World} {base b : Nat} {l : List UInt8} {O T : Nat → Prop} (h : BOwn A base b l O) (hc : Chg T A B) (hT : ∀ i, T i → ¬ O i) : BOwn B base b l O := by
  obtain ⟨p, v, hp, hb, hv, hne, ho⟩ := h.at_
  exact ⟨⟨p, v, hp, hc.blk hb (fun ht => hT _ ht h.own), own_move hv (fun k hk => hc.block k (own_lt hv k hk) (fun ht => hT k ht (ho k hk))), hne, ho⟩, h.own, h.base⟩
theorem BOwn.fresh (W : World) (base : Nat) (hb : base ≤ W.heap.size) (O : Nat → Prop) (hO : O W.heap.size) : BOwn (W.alloc (.cells #[.pointer none, .slice none 0 0] 55)) base W.heap.size [] O :=
  ⟨⟨_, _, .inl rfl, heap_alloc_new W _, World.ownsRow_nil _ _ _ _, by simp [Value.ownBlock], fun i hi => by simp [Value.ownBlock] at hi⟩, hO, hb⟩
theorem append_str_at (w : World) (base : Nat) (ty : TypeId) (v : Value) (n : Nat) (xs : List Value) (hown : w.ownsRow base 5 1 v n xs) (s : ByteArray) (hlen : n + s.size ≤ 140737488355328) (hbase : base ≤ w.heap.size) :
    ∃ v' w', (Builtin.append_ #[53, 9] ty #[v, .string s]).run Tryz.prog w = .ok v' w' ∧ w'.ownsRow base 5 1 v' (n + s.size) (xs ++ Lib.strCells s) ∧ w.grownBy w' v.ownBlock ∧ (v'.ownBlock = v.ownBlock ∨ ∀ k, v'.ownBlock = some k → w.heap.size ≤ k) := by
  obtain ⟨i0, hi, hz0, hz1, hz2⟩ := info_parts info_byte
  obtain ⟨v', w', hr, ho, hg, hn⟩ := Lib.run_append_own_string (P := Tryz.prog) w base 53 9 ty 5 i0 Tryz.underlying53 Tryz.underlying9 hi hz0 hz1 hz2 v n xs hown s (by unfold maxLen; omega) hlen hbase
  refine ⟨v', w', hr, ho, hg, ?_⟩
  have hxl : xs.length = n := by simpa using hown.1
  rcases hown.2 with ⟨rfl, rfl⟩ | ⟨g, cap, cur, rfl, hbg, hgb, hnc, hcm, hcs, htake⟩
  · obtain rfl := List.eq_nil_of_length_eq_zero hxl
    obtain ⟨v2, w2, hr2, ho2, _, _⟩ := Lib.run_append_own_string (P := Tryz.prog) w w.heap.size 53 9 ty 5 i0 Tryz.underlying53 Tryz.underlying9 hi hz0 hz1 hz2 (.slice none 0 0) 0 [] (World.ownsRow_nil _ _ _ _) s (by unfold maxLen; omega) hlen (Nat.le_refl _)
    rw [hr] at hr2
    injection hr2 with e1 e2
    subst e1
    exact .inr fun k hk => own_base ho2 k hk
  · by_cases hroom : n + s.size ≤ cap
    · have hcs' : cur.size = cap := by simpa using hcs
      have hr2 := Lib.run_append_room_string (P := Tryz.prog) w 53 9 ty 5 i0 Tryz.underlying53 Tryz.underlying9 hi hz1 g n cap cur hgb s hroom (by omega)
      rw [hr] at hr2
      injection hr2 with e1 e2
      subst e1
      exact .inl rfl
    · have holds : ∀ j u, xs[j]? = some u → w.cell? ((⟨g, 0, none⟩ : Addr).add j) = some u := hown.cells (g := g) rfl
      have hr2 := Lib.run_append_grow_string (P := Tryz.prog) w 53 9 ty 5 i0 (.int .u8 0) Tryz.underlying53 Tryz.underlying9 hi hz0 ⟨g, 0, none⟩ n cap xs (by rw [hz1]; simpa using hxl) holds s (by omega) (by omega) (by rw [hz2]; exact growslice_fits (by omega) (by omega))
      rw [hr] at hr2
      injection hr2 with e1 e2
      subst e1
      exact .inr fun k hk => by simp [Value.ownBlock] at hk; omega
theorem wpList_append_str {ops : Array Oper} {rest : List Oper} {o : Oper} {a : Act} {Q : Exit → Act → World → Prop} {w : World} (hgd : o.guard = none) (sl x : Operand)
    (ho : o.op = .call { callee := .builtin .append, args := #[sl, x], argTypes := #[53, 9] })
    (base : Nat) (v : Value) (n : Nat) (xs : List Value) (hs : a.eval sl = v) (hown : w.ownsRow base 5 1 v n xs) (s : ByteArray) (hx : a.eval x = .string s) (hlen : n + s.size ≤ 140737488355328) (hbase : base ≤ w.heap.size)
    (h : ∀ v' w', w'.ownsRow base 5 1 v' (n + s.size) (xs ++ Lib.strCells s) → w.grownBy w' v.ownBlock → (v'.ownBlock = v.ownBlock ∨ ∀ k, v'.ownBlock = some k → w.heap.size ≤ k) → wpList Tryz.prog ops Q rest (a.put o.dst v') w') : wpList Tryz.prog ops Q (o :: rest) a w := by
  refine wpList_plain hgd fun K hK => ?_
  obtain ⟨v', w', hr, h2, h3, h4⟩ := append_str_at w base o.type v n xs hown s hlen hbase
  unfold Oper.wp execOp
  simp only [ho, resolve, invoke, builtin, Sem.run_bind, Sem.run_pure, Result.andThen_ok, List.map_toArray, List.map_cons, List.map_nil, hs, hx, hr]
  exact hK _ _ (h v' w' h2 h3 h4)
def Checked (W : World) (base b : Nat) (l : List UInt8) (O : Nat → Prop) (W1 : World) : Prop :=
  Chg (fun i => i = b) W W1 ∧ W.heap.size ≤ W1.heap.size ∧ ∃ v, W1.heap[b]? = some (.cells #[.pointer (some ⟨b, 0, none⟩), v] 55 (0, 0)) ∧ W1.ownsRow base 5 1 v l.length (Lib.byteCells l) ∧ v.ownBlock ≠ some b ∧ ∀ i, v.ownBlock = some i → O i
theorem check_own (base b : Nat) (l : List UInt8) (O : Nat → Prop) (W : World) (h : BOwn W base b l O) :
    Calls Tryz.prog 78 #[.pointer (some ⟨b, 0, none⟩)] W fun e W1 => e = .returned (.tuple #[]) ∧ Checked W base b l O W1 := by
  obtain ⟨p, v, hp, hb, hv, hne, ho⟩ := h.at_
  rcases hp with rfl | rfl
  · refine (check_fresh b W (by rw [Lib.cell_of_heap hb]; rfl) (by simp [World.shape?, hb]) (Lib.frozen_of_heap hb 0)).mono ?_
    rintro e w' ⟨rfl, rfl⟩
    have hc : Chg (fun i => i = b) W (W.setCell ⟨b, 0, none⟩ (.pointer (some ⟨b, 0, none⟩))) := (Chg.refl (fun i => i = b) W).setCell (p := ⟨b, 0, none⟩) (.inl rfl) _
    refine ⟨rfl, hc, hc.size, v, by simp [World.setCell, Array.getElem?_modify, hb], own_move hv (fun k hk => hc.block k (own_lt hv k hk) (fun e => hne (by rw [hk, e]))), hne, ho⟩
  · refine (check_used b W (by rw [Lib.cell_of_heap hb]; rfl)).mono ?_
    rintro e w' ⟨rfl, rfl⟩
    exact ⟨rfl, Chg.refl _ _, Nat.le_refl _, v, hb, hv, hne, ho⟩
def BPost (base b : Nat) (l : List UInt8) (O : Nat → Prop) (W W' : World) : Prop := Chg O W W' ∧ ∃ O2 : Nat → Prop, Grow O W O2 W' ∧ (∀ i, O i → O2 i) ∧ BOwn W' base b l O2
theorem BPost.mk' {base b : Nat} {l l2 : List UInt8} {O : Nat → Prop} {W W1 W2 : World} {v v' : Value} (hO : ∀ i, O i → i < W.heap.size) (hb : O b) (hbb : base ≤ b) (h1 : Chg (fun i => i = b) W W1) (hs1 : W.heap.size ≤ W1.heap.size) (hne : v.ownBlock ≠ some b) (ho : ∀ i, v.ownBlock = some i → O i)
    (hg : Chg (fun i => v.ownBlock = some i) W1 W2) (hat : v'.ownBlock = v.ownBlock ∨ ∀ k, v'.ownBlock = some k → W1.heap.size ≤ k) (hb2 : W2.heap[b]? = some (.cells #[.pointer (some ⟨b, 0, none⟩), v] 55 (0, 0))) (hr : W2.ownsRow base 5 1 v' l2.length (Lib.byteCells l2)) :
    BPost base b l2 O W (W2.setCell ⟨b, 1, none⟩ v') := by
  have hlt := hO b hb
  have h2 : Chg (fun i => i = b) W2 (W2.setCell ⟨b, 1, none⟩ v') := (Chg.refl (fun i => i = b) W2).setCell (p := ⟨b, 1, none⟩) (.inl rfl) _
  have hsz : (W2.setCell ⟨b, 1, none⟩ v').heap.size = W2.heap.size := by simp [World.setCell]
  have hs2 := hg.size
  have hC : Chg O W (W2.setCell ⟨b, 1, none⟩ v') := ((h1.mono (fun i _ e => by subst e; exact hb)).trans hg (fun i hi => .inl (ho i hi))).trans h2 (fun i e => by subst e; exact .inl hb)
  have hvne : v'.ownBlock ≠ some b := by
    rcases hat with e | e
    · rw [e]; exact hne
    · intro hk
      have := e b hk
      omega
  refine ⟨hC, fun i => (O i ∨ W.heap.size ≤ i) ∧ i < (W2.setCell ⟨b, 1, none⟩ v').heap.size, fun i hi => hi, fun i hi => ⟨.inl hi, Nat.lt_of_lt_of_le (hO i hi) hC.size⟩, ?_⟩
  refine ⟨⟨_, v', .inr rfl, by simp [World.setCell, Array.getElem?_modify, hb2], own_move hr (fun k hk => h2.block k (own_lt hr k hk) (fun e => hvne (by rw [hk, e]))), hvne, fun i hi => ⟨?_, by rw [hsz]; exact own_lt hr i hi⟩⟩, ⟨.inl hb, Nat.lt_of_lt_of_le hlt hC.size⟩, hbb⟩
  rcases hat with e | e
  · rw [e] at hi
    exact .inl (ho i hi)
  · exact .inr (Nat.le_trans hs1 (e i hi))
set_option maxHeartbeats 2000000 in
set_option maxRecDepth 100000 in
theorem write_string (base b : Nat) (l : List UInt8) (O : Nat → Prop) (s : ByteArray) (W : World) (h : BOwn W base b l O) (hO : ∀ i, O i → i < W.heap.size) (hlen : l.length + s.size ≤ 140737488355328) (hbase : base ≤ W.heap.size) :
    Calls Tryz.prog 27 #[.pointer (some ⟨b, 0, none⟩), .string s] W fun e W' => e = .returned (.tuple #[.int .i64 s.size, .nilIface]) ∧ BPost base b (l ++ s.data.toList) O W W' := by
  have hown := h.own
  have hbb := h.base
  have HC := Aside0.mk (check_own base b l O W h)
  have HO := Aside0.mk hO
  clear h hO
  go_enter Tryz.func27, Tryz.ntmps27
  go_wp2_with (go_at_call 78; refine HC.out.mono ?_)
  rintro e w1 ⟨rfl, hc1, hs1, v, hbk, hv, hne, hvo⟩
  have c1 : w1.cell? ⟨b, 1, none⟩ = some v := by rw [Lib.cell_of_heap hbk]; rfl
  go_wp2_with (at_builtin; refine wpList_append_str rfl _ _ rfl base v _ _ rfl hv s rfl hlen ?c5 ?_)
  case c5 => omega
  intro v' w2 hown' hgrow hat
  have hlt : b < w1.heap.size := (Array.getElem?_eq_some_iff.1 hbk).1
  have hb2 : w2.heap[b]? = some (.cells #[.pointer (some ⟨b, 0, none⟩), v] 55 (0, 0)) := by
    rw [hgrow.block b hlt (fun e => hne e.symm)]
    exact hbk
  have d1 : w2.cell? ⟨b, 1, none⟩ = some v := by rw [Lib.cell_of_heap hb2]; rfl
  have f1 : w2.frozen? ⟨b, 1, none⟩ = false := Lib.frozen_of_heap hb2 1
  have hl2 : (l ++ s.data.toList).length = l.length + s.size := by rw [List.length_append]; rfl
  have HP := Aside0.mk (BPost.mk' (l := l) (l2 := l ++ s.data.toList) HO.out hown hbb hc1 (by omega) hne hvo (Chg.of_grown hgrow) hat hb2 (by rw [hl2, Lib.byteCells_append, ← Lib.strCells_eq]; exact hown'))
  obtain ⟨ao, n', cap, rfl⟩ : ∃ ao n' cap, v' = .slice ao n' cap := by
    rcases hown'.2 with ⟨hv, _⟩ | ⟨g, cap, cur, hv, _⟩
    · exact ⟨_, _, _, hv⟩
    · exact ⟨_, _, _, hv⟩
  clear hc1 hs1 hbk hv hne hvo c1 hown' hgrow hat hb2 hl2 HC HO hlen
  go_wp2
  go_ret2
  exact ⟨rfl, HP.out⟩
set_option maxHeartbeats 2000000 in
set_option maxRecDepth 100000 in
theorem write_byte (base b : Nat) (l : List UInt8) (O : Nat → Prop) (c : UInt8) (W : World) (h : BOwn W base b l O) (hO : ∀ i, O i → i < W.heap.size) (hlen : l.length + 1 ≤ 140737488355328) (hbase : base ≤ W.heap.size) :
    Calls Tryz.prog 83 #[.pointer (some ⟨b, 0, none⟩), .int .u8 (c.toNat : Int)] W fun e W' => e = .returned .nilIface ∧ BPost base b (l ++ [c]) O W W' := by
  obtain ⟨i0, hi, hz0, hz1, hz2⟩ := info_parts info_byte
  have hown := h.own
  have hbb := h.base
  have HC := Aside0.mk (check_own base b l O W h)
  have HO := Aside0.mk hO
  clear h hO
  go_enter Tryz.func83, Tryz.ntmps83
  go_wp2_with (go_at_call 78; refine HC.out.mono ?_)
  rintro e w1 ⟨rfl, hc1, hs1, v, hbk, hv, hne, hvo⟩
  have c1 : w1.cell? ⟨b, 1, none⟩ = some v := by rw [Lib.cell_of_heap hbk]; rfl
  go_wp2_with (at_builtin; go_loud (refine wpList_append_own_at _ rfl _ _ 53 rfl base 5 i0 (.int .u8 0) 1 1 Tryz.underlying53 hi hz0 hz1 hz2 rfl (by decide) _ _ _ rfl (hv.alloc _) ⟨w1.heap.size, 0, none⟩ 1 1 [.int .u8 (c.toNat : Int)] rfl rfl ?c1 ?c2 ?c3 ?c4 ?c5 ?_))
  case c1 =>
    intro j u hj
    match j, hj with
    | 0, hj => simp at hj; subst hj; simp [Addr.add]
  case c2 => intro u hu; simp at hu; subst hu; rfl
  case c3 => unfold maxLen; omega
  case c4 => omega
  case c5 => simp; omega
  intro v' w2 hown' hgrow _ hat
  have hlt : b < w1.heap.size := (Array.getElem?_eq_some_iff.1 hbk).1
  have hb2 : w2.heap[b]? = some (.cells #[.pointer (some ⟨b, 0, none⟩), v] 55 (0, 0)) := by
    rw [hgrow.block b (by simp; omega) (fun e => hne e.symm), Lib.alloc_old w1 _ b hlt]
    exact hbk
  have d1 : w2.cell? ⟨b, 1, none⟩ = some v := by rw [Lib.cell_of_heap hb2]; rfl
  have f1 : w2.frozen? ⟨b, 1, none⟩ = false := Lib.frozen_of_heap hb2 1
  have hl2 : (l ++ [c]).length = l.length + 1 := by simp
  have hg2 : Chg (fun i => v.ownBlock = some i) w1 w2 := ((Chg.refl _ w1).alloc _).grown hgrow (fun k hk => .inl hk)
  have HP := Aside0.mk (BPost.mk' (l := l) (l2 := l ++ [c]) HO.out hown hbb hc1 (by omega) hne hvo hg2 (hat.imp id (fun e k hk => by rw [e] at hk; injection hk with hk; first | omega | (simp at hk; omega))) hb2 (by rw [hl2, Lib.byteCells_append]; exact hown'))
  obtain ⟨g, cap, rfl⟩ : ∃ g cap, v' = .slice (some ⟨g, 0, none⟩) (l.length + 1) cap := by
    rcases hown'.2 with ⟨_, h0⟩ | ⟨g, cap, cur, hv, _⟩
    · omega
    · exact ⟨g, cap, hv⟩
  clear hc1 hs1 hbk hv hne hvo c1 hown' hgrow hat hb2 hl2 HC HO hlen hg2
  go_wp2
  go_ret
  exact ⟨rfl, HP.out⟩
end Go.Proofs.YtjlhhjfmekjbhaaGreatDoor.Bld

/- jlex.Quote: a text as a token. No condition. -/
namespace Go.Proofs.YtjlhhjfmekjbhaaGreatDoor.Bld
open Go.RowKit Go.Proofs.YtjlhhjfmekjbhaaGreatDoorW.PrintWords Go.Proofs.YtjlhhjfmekjbhaaGreatDoorW.PrintLast Go.Proofs.YtjlhhjfmekjbhaaGreatDoorW.PrintMore Go.Proofs.YtjlhhjfmekjbhaaGreatDoor.Iter
set_option linter.unusedVariables false
set_option linter.unusedSimpArgs false
def BB (w : World) (b : Nat) (l : List UInt8) (W : World) : Prop := ∃ O : Nat → Prop, BOwn W w.heap.size b l O ∧ (∀ i, O i → w.heap.size ≤ i ∧ i < W.heap.size) ∧ Below w.heap.size w W
theorem BB.step {w W W' : World} {b : Nat} {l : List UInt8} (h : BB w b l W) (hb : Below W.heap.size W W') : BB w b l W' := by
  obtain ⟨O, h1, h2, h3⟩ := h
  exact ⟨O, h1.chg (Chg.of_below hb (fun _ => False)) (fun i hi => hi.elim), fun i hi => ⟨(h2 i hi).1, Nat.lt_of_lt_of_le (h2 i hi).2 hb.size⟩, below_step h3 hb⟩
theorem BB.fresh (w : World) : BB w w.heap.size [] (w.alloc (.cells #[.pointer none, .slice none 0 0] 55)) :=
  ⟨fun i => i = w.heap.size, BOwn.fresh w _ (Nat.le_refl _) _ rfl, fun i hi => by subst hi; exact ⟨Nat.le_refl _, by simp⟩, (Below.refl _ w).alloc (Nat.le_refl _) _⟩
theorem BB.of_post {w W W' : World} {b : Nat} {l2 : List UInt8} {O : Nat → Prop} (h2 : ∀ i, O i → w.heap.size ≤ i ∧ i < W.heap.size) (h3 : Below w.heap.size w W) (hp : BPost w.heap.size b l2 O W W') : BB w b l2 W' := by
  obtain ⟨hc, O2, hg, _, hb⟩ := hp
  refine ⟨O2, hb, fun i hi => ⟨?_, (hg i hi).2⟩, h3.trans (hc.below h3.size (fun k hk => (h2 k hk).1))⟩
  rcases (hg i hi).1 with h | h
  · exact (h2 i h).1
  · have := h3.size; omega
theorem BB.string {w W : World} {b : Nat} {l : List UInt8} (h : BB w b l W) (s : ByteArray) (hlen : l.length + s.size ≤ 140737488355328) :
    Calls Tryz.prog 27 #[.pointer (some ⟨b, 0, none⟩), .string s] W fun e W' => e = .returned (.tuple #[.int .i64 s.size, .nilIface]) ∧ BB w b (l ++ s.data.toList) W' := by
  obtain ⟨O, h1, h2, h3⟩ := h
  refine (write_string _ b l O s W h1 (fun i hi => (h2 i hi).2) hlen h3.size).mono ?_
  rintro e W' ⟨rfl, hp⟩
  exact ⟨rfl, BB.of_post h2 h3 hp⟩
theorem BB.byte {w W : World} {b : Nat} {l : List UInt8} (h : BB w b l W) (n : Int) (c : UInt8) (hn : n = c.toNat) (hlen : l.length + 1 ≤ 140737488355328) :
    Calls Tryz.prog 83 #[.pointer (some ⟨b, 0, none⟩), .int .u8 n] W fun e W' => e = .returned .nilIface ∧ BB w b (l ++ [c]) W' := by
  subst hn
  obtain ⟨O, h1, h2, h3⟩ := h
  refine (write_byte _ b l O c W h1 (fun i hi => (h2 i hi).2) hlen h3.size).mono ?_
  rintro e W' ⟨rfl, hp⟩
  exact ⟨rfl, BB.of_post h2 h3 hp⟩
theorem BB.all {w W : World} {b : Nat} {l : List UInt8} (h : BB w b l W) :
    Calls Tryz.prog 34 #[.pointer (some ⟨b, 0, none⟩)] W fun e W' => e = .returned (.string ⟨l.toArray⟩) ∧ Below w.heap.size w W' := by
  obtain ⟨O, h1, h2, h3⟩ := h
  refine (Tryz.Builder_String_any w.heap.size b l W h1.is h3.size).mono ?_
  rintro e W' ⟨rfl, hb⟩
  exact ⟨rfl, h3.trans hb⟩
def hexB (n : Nat) : UInt8 := if n < 10 then (48 + n).toUInt8 else (87 + n).toUInt8
def qB (c : UInt8) : List UInt8 := if c = 10 then [92, 110] else if c = 9 then [92, 116] else if c = 34 ∨ c = 92 then [92, c] else if 32 ≤ c ∧ c ≤ 126 then [c] else [92, 120, hexB (c.toNat / 16), hexB (c.toNat % 16)]
def quoteL (l : List UInt8) : List UInt8 := 34 :: l.flatMap qB ++ [34]
theorem qB_len (c : UInt8) : (qB c).length ≤ 4 := by
  unfold qB
  repeat' split
  all_goals simp
theorem qL_len (l : List UInt8) : (l.flatMap qB).length ≤ 4 * l.length := by
  induction l with
  | nil => simp
  | cons c l ih =>
    rw [List.flatMap_cons, List.length_append, List.length_cons]
    have := qB_len c
    omega
theorem q_take (l : List UInt8) (k : Nat) (h : k < l.length) : (l.take (k + 1)).flatMap qB = (l.take k).flatMap qB ++ qB l[k] := by
  rw [List.take_succ_eq_append_getElem h, List.flatMap_append]
  simp
def quoT15 : Bool × List (List Nat × List Nat) := (true, [([], []), ([0], [0]), ([1], [1]), ([2], [2]), ([3], [3]), ([], []), ([5], [5]), ([6], [6]), ([7], [7]), ([4, 8], [4, 8]), ([9], [9])])
def quoB15 : List Nat := [0, 1, 3, 7, 15, 0, 32, 96, 224, 511, 1023]
theorem quotab15 : rtab .any (opsOf Tryz.f33 15) = quoT15 := by kernel_rfl
theorem quobits15 : waitsOk quoT15.2 quoB15 = true := by kernel_rfl
theorem q_shr {ρ : Operand → Value} (hk : ∀ v, ρ (.const v) = v) {c : Nat} {o : Oper} (h : c < 256) (w : World) (ho : o.op = Op.binOp BinOp.shr 5 (Operand.tmp 40) (Operand.const (Value.int IntKind.u64 4)) 99) (hr : ρ (.tmp 40) = .int .u8 c) : (execOp ρ o).run Tryz.prog w = .ok (.value (.int .u8 ((c / 16 : Nat) : Int))) w := by
  unfold execOp
  simp [go_sem, hk, ho, hr]
theorem q_and {ρ : Operand → Value} (hk : ∀ v, ρ (.const v) = v) {c : Nat} {o : Oper} (h : c < 256) (w : World) (ho : o.op = Op.binOp BinOp.and 5 (Operand.tmp 45) (Operand.const (Value.int IntKind.u8 15)) 5) (hr : ρ (.tmp 45) = .int .u8 c) : (execOp ρ o).run Tryz.prog w = .ok (.value (.int .u8 ((c % 16 : Nat) : Int))) w := by
  have e := u8_and15 (x := (c : Int)) (by omega) (by omega)
  unfold execOp
  simp [go_sem, hk, ho, hr, e]
theorem q_idx {ρ : Operand → Value} (hk : ∀ v, ρ (.const v) = v) {c : Nat} {o : Oper} {x : Tmp} (h : c < 16) (w : World) (ho : o.op = Op.index 9 (Operand.const (Value.string { data := #[48, 49, 50, 51, 52, 53, 54, 55, 56, 57, 97, 98, 99, 100, 101, 102] })) (Operand.tmp x)) (hr : ρ (.tmp x) = .int .u8 c) : (execOp ρ o).run Tryz.prog w = .ok (.value (.int .u8 ((hexB c).toNat : Int))) w := by
  have hc : c = 0 ∨ c = 1 ∨ c = 2 ∨ c = 3 ∨ c = 4 ∨ c = 5 ∨ c = 6 ∨ c = 7 ∨ c = 8 ∨ c = 9 ∨ c = 10 ∨ c = 11 ∨ c = 12 ∨ c = 13 ∨ c = 14 ∨ c = 15 := by omega
  unfold execOp
  rcases hc with rfl | rfl | rfl | rfl | rfl | rfl | rfl | rfl | rfl | rfl | rfl | rfl | rfl | rfl | rfl | rfl <;> (simp [go_sem, hk, ho, hr]; rfl)
theorem enc_hexF : ∀ c : Fin 16, Utf8.encode ((hexB c.val).toNat : Int) = ⟨#[hexB c.val]⟩ := by decide +kernel
theorem enc_hex (c : Nat) (h : c < 16) : Utf8.encode ((hexB c).toNat : Int) = ⟨#[hexB c]⟩ := enc_hexF ⟨c, h⟩
theorem q_sz1 (x : UInt8) : (⟨#[92, 120]⟩ : ByteArray).size + (⟨#[x]⟩ : ByteArray).size ≤ 9223372036854775807 := by
  show 2 + 1 ≤ 9223372036854775807
  omega
theorem q_sz2 (x y : UInt8) : ((⟨#[92, 120]⟩ : ByteArray) ++ (⟨#[x]⟩ : ByteArray)).size + (⟨#[y]⟩ : ByteArray).size ≤ 9223372036854775807 := by
  rw [ByteArray.size_append]
  show 2 + 1 + 1 ≤ 9223372036854775807
  omega
theorem q_conv {ρ : Operand → Value} (hk : ∀ v, ρ (.const v) = v) {c : Nat} {o : Oper} {x : Tmp} (h : c < 16) (w : World) (ho : o.op = Op.convert 5 9 (Operand.tmp x)) (hr : ρ (.tmp x) = .int .u8 ((hexB c).toNat : Int)) : (execOp ρ o).run Tryz.prog w = .ok (.value (.string ⟨#[hexB c]⟩)) w := by
  have e := enc_hex c h
  unfold execOp
  simp [go_sem, ho, hr, e]
theorem q_add {ρ : Operand → Value} (hk : ∀ v, ρ (.const v) = v) {x y : ByteArray} {o : Oper} {p q : Operand} (h : x.size + y.size ≤ 9223372036854775807) (w : World) (ho : o.op = Op.binOp BinOp.add 9 p q 9) (hx : ρ p = .string x) (hy : ρ q = .string y) : (execOp ρ o).run Tryz.prog w = .ok (.value (.string (x ++ y))) w := by
  have h' : ¬ (9223372036854775807 < x.size + y.size) := by omega
  unfold execOp
  simp [go_sem, hk, ho, hx, hy, h', h]
set_option maxHeartbeats 4000000 in
set_option maxRecDepth 100000 in
theorem quote_calls (s : ByteArray) (w : World) (hs : s.size ≤ 17592186044416) :
    Calls Tryz.prog 33 #[.string s] w fun e w' => e = .returned (.string ⟨(quoteL s.data.toList).toArray⟩) ∧ Below w.heap.size w w' := by
  have hl : s.data.toList.length = s.size := rfl
  go_enter Tryz.func33, Tryz.ntmps33
  go_wp2_with (go_at_call 83; refine ((BB.fresh w).byte 34 34 rfl (by simp)).mono ?_; rintro e w1 ⟨rfl, hb1⟩; have H1 := Aside0.mk hb1; clear hb1)
  go_wp2
  go_loopw [9] (fun v9 wr => ∃ k : Nat, k ≤ s.size ∧ v9 = .int .i64 k ∧ BB w w.heap.size (34 :: (s.data.toList.take k).flatMap qB) wr) (fun v9 _ => s.size - (intOf v9).toNat)
  case atStart => exact ⟨0, Nat.zero_le _, rfl, H1.out⟩
  case round =>
    obtain ⟨k, hk, rfl, hbb⟩ := hrel
    clear H1
    have HB := Aside0.mk hbb
    clear hbb
    by_cases hlt : k < s.size
    · have HQ := Aside0.mk (q_take s.data.toList k (by omega))
      have HL := Aside0.mk (show (34 :: (s.data.toList.take k).flatMap qB).length ≤ 4 * k + 1 by
        have := qL_len (s.data.toList.take k)
        rw [List.length_take, Nat.min_eq_left (by omega)] at this
        rw [List.length_cons]; omega)
      have HQ2 : ∀ t, qB (s[k]'hlt) = t → 34 :: (s.data.toList.take (k + 1)).flatMap qB = (34 :: (s.data.toList.take k).flatMap qB) ++ t := fun t ht => by
        rw [HQ.out, ← ht]
        rfl
      have HQ3 := Aside0.mk HQ2
      clear HQ2 HQ
      have hbyte : (s[k]'hlt).toNat < 256 := (s[k]'hlt).toNat_lt
      have hw : wrap64 ((k : Int) + 1) = ((k + 1 : Nat) : Int) := by unfold wrap64; omega
      have HLT := Aside0.mk hl
      clear hl
      by_cases h10 : (s[k]'hlt) = 10
      · have HT := Aside0.mk (HQ3.out [92, 110] (by unfold qB; rw [if_pos h10]))
        have e10 : (((s[k]'hlt).toNat : Int) == 10) = true := by rw [h10]; rfl
        clear h10 HQ3 hbyte
        go_wp2_with (go_at_call 27; refine (HB.out.string ⟨#[92, 110]⟩ (by have := HL.out; show _ + 2 ≤ _; omega)).mono ?_; rintro e w2 ⟨rfl, hb2⟩; have H2 := Aside0.mk hb2; clear hb2 HB)
        go_wp2
        go_roundw
        case rel => exact ⟨k + 1, by omega, by go_num, by rw [HT.out]; exact H2.out⟩
        case measure => simp [intOf]; omega
      have n10 : (((s[k]'hlt).toNat : Int) == 10) = false := by
        rw [beq_eq_false_iff_ne]; intro e; exact h10 (UInt8.toNat_inj.1 (by show _ = 10; omega))
      by_cases h9 : (s[k]'hlt) = 9
      · have HT := Aside0.mk (HQ3.out [92, 116] (by unfold qB; rw [if_neg h10, if_pos h9]))
        have e9 : (((s[k]'hlt).toNat : Int) == 9) = true := by rw [h9]; rfl
        clear h10 h9 HQ3 hbyte
        go_wp2_with (go_at_call 27; refine (HB.out.string ⟨#[92, 116]⟩ (by have := HL.out; show _ + 2 ≤ _; omega)).mono ?_; rintro e w2 ⟨rfl, hb2⟩; have H2 := Aside0.mk hb2; clear hb2 HB)
        go_wp2
        go_roundw
        case rel => exact ⟨k + 1, by omega, by go_num, by rw [HT.out]; exact H2.out⟩
        case measure => simp [intOf]; omega
      have n9 : (((s[k]'hlt).toNat : Int) == 9) = false := by
        rw [beq_eq_false_iff_ne]; intro e; exact h9 (UInt8.toNat_inj.1 (by show _ = 9; omega))
      by_cases hq : (s[k]'hlt) = 34 ∨ (s[k]'hlt) = 92
      · have HT := Aside0.mk (HQ3.out [92, s[k]'hlt] (by unfold qB; rw [if_neg h10, if_neg h9, if_pos hq]))
        clear HQ3 hbyte h10 h9
        by_cases h34 : (s[k]'hlt) = 34
        case' pos => have e34 : (((s[k]'hlt).toNat : Int) == 34) = true := by rw [h34]; rfl
        case' neg =>
          have e34 : (((s[k]'hlt).toNat : Int) == 34) = false := by
            rw [beq_eq_false_iff_ne]; intro e; exact h34 (UInt8.toNat_inj.1 (by show _ = 34; omega))
          have e92 : (((s[k]'hlt).toNat : Int) == 92) = true := by rw [hq.resolve_left h34]; rfl
        all_goals
          clear h34 hq
          go_wp2_with (go_at_call 83; refine (HB.out.byte 92 92 rfl (by have := HL.out; omega)).mono ?_; rintro e w2 ⟨rfl, hb2⟩; have H2 := Aside0.mk hb2; clear hb2 HB)
          go_wp2_with (go_at_call 83; refine (H2.out.byte _ (s[k]'hlt) rfl (by have := HL.out; rw [List.length_append, List.length_singleton]; omega)).mono ?_; rintro e w3 ⟨rfl, hb3⟩; have H3 := Aside0.mk hb3; clear hb3 H2)
          go_wp2
          go_roundw
          case rel => exact ⟨k + 1, by omega, by go_num, by rw [HT.out]; have := H3.out; rw [List.append_assoc] at this; exact this⟩
          case measure => simp [intOf]; omega
      have n34 : (((s[k]'hlt).toNat : Int) == 34) = false := by
        rw [beq_eq_false_iff_ne]; intro e; exact hq (.inl (UInt8.toNat_inj.1 (by show _ = 34; omega)))
      have n92 : (((s[k]'hlt).toNat : Int) == 92) = false := by
        rw [beq_eq_false_iff_ne]; intro e; exact hq (.inr (UInt8.toNat_inj.1 (by show _ = 92; omega)))
      by_cases hp : 32 ≤ (s[k]'hlt) ∧ (s[k]'hlt) ≤ 126
      · have HT := Aside0.mk (HQ3.out [s[k]'hlt] (by unfold qB; rw [if_neg h10, if_neg h9, if_neg hq, if_pos hp]))
        have p1 : 32 ≤ (s[k]'hlt).toNat := UInt8.le_iff_toNat_le.1 hp.1
        have p2 : (s[k]'hlt).toNat ≤ 126 := UInt8.le_iff_toNat_le.1 hp.2
        clear HQ3 hbyte h10 h9 hq hp
        go_wp2_with (go_at_call 83; refine (HB.out.byte _ (s[k]'hlt) rfl (by have := HL.out; omega)).mono ?_; rintro e w2 ⟨rfl, hb2⟩; have H2 := Aside0.mk hb2; clear hb2 HB)
        go_wp2
        go_roundw
        case rel => exact ⟨k + 1, by omega, by go_num, by rw [HT.out]; exact H2.out⟩
        case measure => simp [intOf]; omega
      have HT := Aside0.mk (HQ3.out [92, 120, hexB ((s[k]'hlt).toNat / 16), hexB ((s[k]'hlt).toNat % 16)] (by unfold qB; rw [if_neg h10, if_neg h9, if_neg hq, if_neg hp]))
      have p1 : ¬ (32 ≤ (s[k]'hlt).toNat ∧ (s[k]'hlt).toNat ≤ 126) := fun h => hp ⟨UInt8.le_iff_toNat_le.2 h.1, UInt8.le_iff_toNat_le.2 h.2⟩
      clear HQ3 h10 h9 hq hp
      by_cases hlo : (s[k]'hlt).toNat < 32
      case' pos => have q1 : (32 ≤ ((s[k]'hlt).toNat : Int)) = False := by simp; omega
      case' neg =>
        have q1 : (32 ≤ ((s[k]'hlt).toNat : Int)) = True := by simp; omega
        have q2 : (((s[k]'hlt).toNat : Int) ≤ 126) = False := by simp; omega
      all_goals
        go_wp2
        refine start_ (n := 11) (S := fun W' => True) (ds := []) #[false, false, false, false, false, false, false, false, false, false, false] (by kernel_rfl) rfl rfl trivial (fun hHeld => ?_)
        refine with_tabW quotab15 quobits15 (fun HT_ HW_ => ?_)
        refine pure_ (i := 0) (N := some 40) (v := ?_) (a' := ?_) #[true, false, false, false, false, false, false, false, false, false, false] rfl rfl (any_of HT_.out (by kernel_rfl)) (fun _ _ _ h => h) (Or.inl ⟨by rfl, ?_⟩) ?_ ?_
        rotate_left
        · intro w'
          first | (go_simp; with_reducible rfl)
        rotate_left
        · simp only [Act.put, List.setIfInBounds_toArray, List.set_cons_zero, List.set_cons_succ, i64_w, i32_w]
          rfl
        refine pure_ (i := 1) (N := some 41) (v := ?_) (a' := ?_) #[true, true, false, false, false, false, false, false, false, false, false] rfl rfl (any_of HT_.out (by kernel_rfl)) (fun _ _ _ h => h) (Or.inl ⟨by rfl, ?_⟩) ?_ ?_
        rotate_left
        · intro w'
          (refine q_shr (c := (s[k]'hlt).toNat) ?_ ?_ w' ?_ ?_; exact (fun _ => rfl); (first | exact hbyte | omega); rfl; rfl)
        rotate_left
        · simp only [Act.put, List.setIfInBounds_toArray, List.set_cons_zero, List.set_cons_succ, i64_w, i32_w]
          rfl
        refine pure_ (i := 2) (N := some 42) (v := ?_) (a' := ?_) #[true, true, true, false, false, false, false, false, false, false, false] rfl rfl (any_of HT_.out (by kernel_rfl)) (fun _ _ _ h => h) (Or.inl ⟨by rfl, ?_⟩) ?_ ?_
        rotate_left
        · intro w'
          (refine q_idx (x := 41) (c := (s[k]'hlt).toNat / 16) ?_ ?_ w' ?_ ?_; exact (fun _ => rfl); (first | exact hbyte | omega); rfl; rfl)
        rotate_left
        · simp only [Act.put, List.setIfInBounds_toArray, List.set_cons_zero, List.set_cons_succ, i64_w, i32_w]
          rfl
        refine pure_ (i := 3) (N := some 43) (v := ?_) (a' := ?_) #[true, true, true, true, false, false, false, false, false, false, false] rfl rfl (any_of HT_.out (by kernel_rfl)) (fun _ _ _ h => h) (Or.inl ⟨by rfl, ?_⟩) ?_ ?_
        rotate_left
        · intro w'
          (refine q_conv (x := 42) (c := (s[k]'hlt).toNat / 16) ?_ ?_ w' ?_ ?_; exact (fun _ => rfl); (first | exact hbyte | omega); rfl; rfl)
        rotate_left
        · simp only [Act.put, List.setIfInBounds_toArray, List.set_cons_zero, List.set_cons_succ, i64_w, i32_w]
          rfl
        refine pure_ (i := 4) (N := some 44) (v := ?_) (a' := ?_) #[true, true, true, true, true, false, false, false, false, false, false] rfl rfl (any_of HT_.out (by kernel_rfl)) (fun _ _ _ h => h) (Or.inl ⟨by rfl, ?_⟩) ?_ ?_
        rotate_left
        · intro w'
          (refine q_add (p := .const (.string ⟨#[92, 120]⟩)) (q := .tmp 43) (x := (⟨#[92, 120]⟩ : ByteArray)) (y := (⟨#[hexB ((s[k]'hlt).toNat / 16)]⟩ : ByteArray)) ?_ ?_ w' ?_ ?_ ?_; exact (fun _ => rfl); (first | exact q_sz1 _ | exact q_sz2 _ _); rfl; rfl; rfl)
        rotate_left
        · simp only [Act.put, List.setIfInBounds_toArray, List.set_cons_zero, List.set_cons_succ, i64_w, i32_w]
          rfl
        refine pure_ (i := 5) (N := some 45) (v := ?_) (a' := ?_) #[true, true, true, true, true, true, false, false, false, false, false] rfl rfl (any_of HT_.out (by kernel_rfl)) (fun _ _ _ h => h) (Or.inl ⟨by rfl, ?_⟩) ?_ ?_
        rotate_left
        · intro w'
          first | (go_simp; with_reducible rfl)
        rotate_left
        · simp only [Act.put, List.setIfInBounds_toArray, List.set_cons_zero, List.set_cons_succ, i64_w, i32_w]
          rfl
        refine pure_ (i := 6) (N := some 46) (v := ?_) (a' := ?_) #[true, true, true, true, true, true, true, false, false, false, false] rfl rfl (any_of HT_.out (by kernel_rfl)) (fun _ _ _ h => h) (Or.inl ⟨by rfl, ?_⟩) ?_ ?_
        rotate_left
        · intro w'
          (refine q_and (c := (s[k]'hlt).toNat) ?_ ?_ w' ?_ ?_; exact (fun _ => rfl); (first | exact hbyte | omega); rfl; rfl)
        rotate_left
        · simp only [Act.put, List.setIfInBounds_toArray, List.set_cons_zero, List.set_cons_succ, i64_w, i32_w]
          rfl
        refine pure_ (i := 7) (N := some 47) (v := ?_) (a' := ?_) #[true, true, true, true, true, true, true, true, false, false, false] rfl rfl (any_of HT_.out (by kernel_rfl)) (fun _ _ _ h => h) (Or.inl ⟨by rfl, ?_⟩) ?_ ?_
        rotate_left
        · intro w'
          (refine q_idx (x := 46) (c := (s[k]'hlt).toNat % 16) ?_ ?_ w' ?_ ?_; exact (fun _ => rfl); (first | exact hbyte | omega); rfl; rfl)
        rotate_left
        · simp only [Act.put, List.setIfInBounds_toArray, List.set_cons_zero, List.set_cons_succ, i64_w, i32_w]
          rfl
        refine pure_ (i := 8) (N := some 48) (v := ?_) (a' := ?_) #[true, true, true, true, true, true, true, true, true, false, false] rfl rfl (any_of HT_.out (by kernel_rfl)) (fun _ _ _ h => h) (Or.inl ⟨by rfl, ?_⟩) ?_ ?_
        rotate_left
        · intro w'
          (refine q_conv (x := 47) (c := (s[k]'hlt).toNat % 16) ?_ ?_ w' ?_ ?_; exact (fun _ => rfl); (first | exact hbyte | omega); rfl; rfl)
        rotate_left
        · simp only [Act.put, List.setIfInBounds_toArray, List.set_cons_zero, List.set_cons_succ, i64_w, i32_w]
          rfl
        refine pure_ (i := 9) (N := some 49) (v := ?_) (a' := ?_) #[true, true, true, true, true, true, true, true, true, true, false] rfl rfl (any_of HT_.out (by kernel_rfl)) (fun _ _ _ h => h) (Or.inl ⟨by rfl, ?_⟩) ?_ ?_
        rotate_left
        · intro w'
          (refine q_add (p := .tmp 44) (q := .tmp 48) (x := (⟨#[92, 120]⟩ : ByteArray) ++ (⟨#[hexB ((s[k]'hlt).toNat / 16)]⟩ : ByteArray)) (y := (⟨#[hexB ((s[k]'hlt).toNat % 16)]⟩ : ByteArray)) ?_ ?_ w' ?_ ?_ ?_; exact (fun _ => rfl); (first | exact q_sz1 _ | exact q_sz2 _ _); rfl; rfl; rfl)
        rotate_left
        · simp only [Act.put, List.setIfInBounds_toArray, List.set_cons_zero, List.set_cons_succ, i64_w, i32_w]
          rfl
        refine one_ (i := 10) (N := some 50) #[true, true, true, true, true, true, true, true, true, true, true] rfl rfl (one_of HT_.out (by kernel_rfl)) (by decide) (fun K hK => ?_)
        refine goes_ Tryz.func27 (by kernel_rfl) rfl #[.pointer (some ⟨w.heap.size, 0, none⟩), .string (((⟨#[92, 120]⟩ : ByteArray) ++ ⟨#[hexB ((s[k]'hlt).toNat / 16)]⟩) ++ ⟨#[hexB ((s[k]'hlt).toNat % 16)]⟩)] (by rfl) rfl rfl (by (try simp only [List.map_toArray, List.map_cons, List.map_nil]); first | done | rfl) ?_
        refine ((HB.out.step (below_drew (Below.refl _ _))).string _ (by have := HL.out; show _ + 4 ≤ _; omega)).mono ?_
        rintro e w2 ⟨rfl, hb2⟩
        refine ⟨_, rfl, ?_⟩
        have H2 := Aside0.mk hb2
        clear hb2
        refine hK.out _ _ trivial (fun hHeld => ?_)
        clear hK K
        refine norm_ (a' := ?_) ?_ ?_
        rotate_left
        · show Act.put _ (some 50) _ = _
          simp only [Act.put, List.setIfInBounds_toArray, List.set_cons_zero, List.set_cons_succ, i64_w, i32_w]
          rfl
        refine done_ (done_of HT_.out (by kernel_rfl)) ?_
        go_wp2
        go_roundw
        case rel => exact ⟨k + 1, by omega, by go_num, by rw [HT.out]; have := H2.out; simp only [ByteArray.data_append, Array.toList_append, List.append_assoc] at this; exact this⟩
        case measure => simp [intOf]; omega
    · obtain rfl : k = s.size := by omega
      have HE := Aside0.mk (show s.data.toList.take s.size = s.data.toList from List.take_of_length_le (Nat.le_refl _))
      have hll := qL_len s.data.toList
      rw [hl] at hll
      have HLL := Aside0.mk hll
      clear hll hl
      rw [HE.out] at HB
      go_wp2_with (go_at_call 83; refine (HB.out.byte 34 34 rfl (by have := HLL.out; rw [List.length_cons]; omega)).mono ?_; rintro e w2 ⟨rfl, hb2⟩; have H2 := Aside0.mk hb2; clear hb2)
      go_wp2_with (go_at_call 34; refine H2.out.all.mono ?_; rintro e w3 ⟨rfl, hb3⟩; have H3 := Aside0.mk hb3; clear hb3)
      go_ret
      exact ⟨rfl, H3.out⟩
end Go.Proofs.YtjlhhjfmekjbhaaGreatDoor.Bld

-- WRITTEN BY hprint.py (a patched scratch copy of print.py, see NOTES.md): out of the translation and of contracts proved by hand.
namespace Go.Proofs.YtjlhhjfmekjbhaaGreatDoor.Ps
open Go.RowKit Go.Proofs.YtjlhhjfmekjbhaaGreatDoorW.PrintWords Go.Proofs.YtjlhhjfmekjbhaaGreatDoorW.PrintLast Go.Proofs.YtjlhhjfmekjbhaaGreatDoorW.PrintMore
set_option linter.unusedVariables false
set_option linter.unusedSimpArgs false
def errW : Option Int → Value
  | none => .nilIface
  | some c => .iface 0 (.int .i64 c)
theorem errW_none : errW none = .nilIface := rfl
theorem errW_some (c : Int) : errW (some c) = .iface 0 (.int .i64 c) := rfl
theorem info9 : (Tryz.prog.info? 9).map (fun i => (i.zero, i.size, i.bytes)) = some (some (.string ⟨#[]⟩), 1, 16) := by kernel_rfl
-- the values' own types
end Go.Proofs.YtjlhhjfmekjbhaaGreatDoor.Ps

/- strconv.Itoa and strings.Join as contracts that hprint takes. No condition. -/
namespace Go.Proofs.YtjlhhjfmekjbhaaGreatDoor.Vd
open Go.RowKit Go.Proofs.YtjlhhjfmekjbhaaGreatDoorW.PrintWords Go.Proofs.YtjlhhjfmekjbhaaGreatDoorW.PrintLast Go.Proofs.YtjlhhjfmekjbhaaGreatDoorW.PrintMore
set_option linter.unusedVariables false
set_option linter.unusedSimpArgs false
abbrev Laid (w : World) : Prop := Va.Laid w
theorem Laid.below {w w' : World} (h : Laid w) (hb : Below w.heap.size w w') : Laid w' := Va.Laid.below h hb
def strconv_Itoa.f (n : Int) : Option ByteArray := if -9223372036854775808 ≤ n ∧ n ≤ 9223372036854775807 then some ⟨(Lib.itoa n).toArray⟩ else none
theorem strconv_Itoa.calls (a0 : Int) (r : ByteArray) (w : World) (hL : Laid w) (h : strconv_Itoa.f a0 = some r) :
    Calls Tryz.prog 29 #[.int .i64 a0] w fun e w' => e = .returned (.string r) ∧ Below w.heap.size w w' := by
  unfold strconv_Itoa.f at h
  by_cases hc : -9223372036854775808 ≤ a0 ∧ a0 ≤ 9223372036854775807
  · rw [if_pos hc] at h
    obtain rfl := Option.some.inj h
    refine (Tryz.strconv_Itoa a0 hc.1 hc.2 w hL.pow).mono ?_
    rintro e w' ⟨rfl, k, os, rfl⟩
    exact ⟨rfl, Lib.below_grow _ _ (Nat.le_refl _) _ _⟩
  · rw [if_neg hc] at h
    cases h
def lineS (xs : List ByteArray) : ByteArray := ⟨(Lib.join (xs.map (·.data.toList)) [32]).toArray⟩ ++ ⟨#[10]⟩
set_option maxHeartbeats 2000000 in
set_option maxRecDepth 100000 in
theorem line_calls (bk o c : Nat) (xs : List ByteArray) (w : World) (hcells : ∀ (j : Nat) x, xs[j]? = some x → w.cell? ⟨bk, o + j, none⟩ = some (.string x)) (hbk : bk < w.heap.size) (hN : xs.length ≤ 140737488355328) (hcap : xs.length ≤ c)
    (hlen : (Lib.join (xs.map (·.data.toList)) [32]).length ≤ 140737488355328) :
    Calls Tryz.prog 28 #[.slice (some ⟨bk, o, none⟩) xs.length c] w fun e w' => e = .returned (.string (lineS xs)) ∧ Below w.heap.size w w' := by
  have hj : ∀ W, Below w.heap.size w W → Calls Tryz.prog 79 #[.slice (some ⟨bk, o, none⟩) xs.length c, .string ⟨#[32]⟩] W fun e W' => e = .returned (.string ⟨(Lib.join (xs.map (·.data.toList)) [32]).toArray⟩) ∧ Below W.heap.size W W' :=
    fun W hb => Tryz.strings_Join bk o c xs ⟨#[32]⟩ W (fun j x hj => (hb.cell (World.block_lt_of_cell? w _ (hcells j x hj))).trans (hcells j x hj)) (Nat.lt_of_lt_of_le hbk hb.size) hN hcap hlen
  have hz : (⟨(Lib.join (xs.map (·.data.toList)) [32]).toArray⟩ : ByteArray).size ≤ 140737488355328 := hlen
  clear hcells hbk hN hcap hlen
  unfold lineS
  generalize (⟨(Lib.join (xs.map (·.data.toList)) [32]).toArray⟩ : ByteArray) = t at *
  have HJ := Aside0.mk hj
  clear hj
  have hz1 : decide (t.size + 1 ≤ 9223372036854775807) = true := decide_eq_true (by omega)
  have hz2 : (9223372036854775807 < t.size + 1) = False := eq_false (by omega)
  have hz3 : decide (9223372036854775807 < t.size + 1) = false := decide_eq_false (by omega)
  clear hz
  go_enter Tryz.func28, Tryz.ntmps28
  go_wp2_with (go_at_call 79; refine (HJ.out _ (by repeat (first | exact Below.refl _ _ | apply below_drew1))).mono ?_; rintro e w1 ⟨rfl, hb⟩; have HB1 := Aside0.mk (below_step (by repeat (first | exact Below.refl _ _ | apply below_drew1)) hb); clear hb)
  go_ret
  exact ⟨by simp [*], HB1.out⟩
end Go.Proofs.YtjlhhjfmekjbhaaGreatDoor.Vd

namespace Go.Proofs.YtjlhhjfmekjbhaaGreatDoor.Ps
open Go.RowKit Go.Proofs.YtjlhhjfmekjbhaaGreatDoor.Vd Go.Proofs.YtjlhhjfmekjbhaaGreatDoorW.PrintWords Go.Proofs.YtjlhhjfmekjbhaaGreatDoorW.PrintLast Go.Proofs.YtjlhhjfmekjbhaaGreatDoorW.PrintMore
set_option linter.unusedVariables false
set_option linter.unusedSimpArgs false
/-! ### code_digits: function 31 -/
def code_digits.l0 : Nat → List ByteArray → List Int → Int → Int → Option (List ByteArray)
  | 0, _, _, _, _ => none
  | k + 1, x3, x6, x7, x8 => if x8 < x7 then (if 0 ≤ x8 then (if x8 < (x6.length : Int) then ((strconv_Itoa.f (rd x6 x8)).bind fun t102 => (if x3.length < 8796093022208 then (code_digits.l0 k (x3 ++ [t102]) x6 x7 (wrap64 (x8 + 1))) else (none))) else (none)) else (none)) else (some x3)
def code_digits.f (k : Nat) (l0 : List Int) : Option (List ByteArray) := code_digits.l0 k ([] : List ByteArray) l0 (l0.length : Int) 0
set_option maxHeartbeats 8000000 in
set_option maxRecDepth 100000 in
theorem code_digits.calls (k : Nat) (A0 : Option Addr) (c0 : Nat) (l0 : List Int) (r : List ByteArray) (w : World) (hL : Laid w) (hr0 : Kd.C (Kd.int .i64) w A0 l0.length l0) (hc0 : l0.length ≤ c0) (h : code_digits.f k l0 = some r) :
    Calls Tryz.prog 31 #[.slice A0 l0.length c0] w fun e w' => ∃ v0_ : Value, e = .returned (v0_) ∧ Kd.R Kd.string 9 w' w.heap.size (fun _ => True) v0_ r ∧ Below w.heap.size w w' := by
  have HL := Aside0.mk hL
  clear hL
  have HR0 := Aside0.mk hr0
  have HC0 := Aside0.mk hc0
  clear hr0 hc0
  have HB := Aside0.mk (Below.refl w.heap.size w)
  have H : (code_digits.l0 k ([] : List ByteArray) l0 (l0.length : Int) 0) = some r := h
  clear h
  have H' := Aside0.mk H
  clear H
  go_enter Tryz.func31, Tryz.ntmps31
  go_wp2
  go_loopg [3, 8] k (fun kq v3 v8 w' => ∃ (x3_1 : List ByteArray) (x8_1 : Int), v8 = .int .i64 x8_1 ∧ Aside0 (code_digits.l0 kq x3_1 l0 (l0.length : Int) x8_1 = some r) ∧ Aside0 (kq ≤ k) ∧ Aside0 (Kd.R Kd.string 9 w' w.heap.size (fun _ => True) v3 x3_1) ∧ Aside0 (Below w.heap.size w w'))
  case atStart => exact ⟨(([] : List ByteArray)), (0), zR, H', ⟨Nat.le_refl _⟩, ⟨by first | exact Kd.R_nil _ _ _ _ _ | exact Kd.N_nil _ _ _ _ _ | exact Kd.V_nil _ _ _ _ _ | exact Kd.Q_nil _ _ _ _ _ | exact Kd.S_nil _ _ _ _ _⟩, ⟨zB⟩⟩
  case round =>
    clear H'
    obtain ⟨x3_1, x8_1, rfl, HA, HK1, HO_3, HB⟩ := hrel
    cases gk with
    | zero => exact absurd HA.out (by simp [code_digits.l0])
    | succ k1 =>
      have H := HA.out
      clear HA
      simp only [code_digits.l0] at H
      by_cases c2 : x8_1 < (l0.length : Int)
      · rw [if_pos c2] at H
        have c2b0 : decide (x8_1 < (l0.length : Int)) = true := decide_eq_true c2
        clear c2
        by_cases c3 : 0 ≤ x8_1
        · rw [if_pos c3] at H
          have c3b0 : decide (0 ≤ x8_1) = true := decide_eq_true c3
          clear c3
          by_cases c4 : x8_1 < (l0.length : Int)
          · rw [if_pos c4] at H
            have c4b0 : decide (x8_1 < (l0.length : Int)) = true := decide_eq_true c4
            clear c4
            obtain ⟨t102, A5, H⟩ := zO H
            by_cases c6 : x3_1.length < 8796093022208
            · rw [if_pos c6] at H
              have LMc6 := Aside0.mk c6
              clear c6
              obtain ⟨y103, hy103⟩ : ∃ y_ : List ByteArray, y_ = (x3_1 ++ [t102]) := ⟨_, rfl⟩
              replace H : (code_digits.l0 k1 y103 l0 (l0.length : Int) (wrap64 (x8_1 + 1))) = some r := by first | (rw [hy103]; with_reducible exact H) | (have H2_ := (Option.bind_some _ _).symm.trans H; rw [hy103]; with_reducible exact H2_) | (have H2_ := (Option.bind_some _ _).symm.trans H; with_reducible exact H2_) | with_reducible exact H | (rw [hy103]; exact H) | exact H
              have Ny103 := Aside0.mk hy103
              clear hy103
              have H' := Aside0.mk H
              clear H
              have p101 : 0 ≤ (x8_1 : Int) := of_decide_eq_true zA
              have q101 : x8_1 < (l0.length : Int) := of_decide_eq_true zA
              obtain ⟨ad101, e101, hx101_0⟩ := Kd.at_int HR0.out x8_1 p101 q101
              cases e101
              replace hx101_0 := (HB.out.cell (World.block_lt_of_cell? w _ hx101_0)).trans hx101_0
              replace p101 := eq_true p101
              replace q101 := eq_true q101
              go_wp2_with (first | ((with_reducible refine gate_callee (f := 29) rfl ?_); refine goesL_ (some 14) rfl rfl Tryz.func29 (by kernel_rfl) rfl #[.int .i64 (rd l0 x8_1)] rfl zP ?_; (with_reducible refine (strconv_Itoa.calls (hL := ?sideL) (rd l0 x8_1) t102 _ A5.out).mono ?_); (case sideL => exact Laid.below HL.out zB); rintro e w7 ⟨rfl, hb⟩; refine ⟨_, rfl, ?_⟩; replace HO_3 := Aside0.mk (Kd.R_below (by (with_reducible repeat (first | apply Kd.R_alloc | apply Kd.R_drewN | apply Kd.R_drew)); exact HO_3.out) hb); replace HB := Aside0.mk (below_step zB hb); (try clear hb)) | ((with_reducible refine gate_builtin (b := .append) (xs := #[.tmp 12, .tmp 15]) rfl ?_); at_builtin; refine Kd.R_append Kd.string (w0 := w) w.heap.size rfl (.tmp 12) (.tmp 15) 65 9 (.string ⟨#[]⟩) 16 rfl Tryz.underlying65 info9 rfl (by decide) (by omega) u3 x3_1 t102 [.string t102] (fun _ => True) (fun _ => False) rfl rfl ?aP (fun _ hk => hk.elim) ?aF ?aO ?aB ?aS ?aL ?_; (case aP => exact rfl); (case aB => exact zB); (case aF => exact (fun _ _ => trivial)); (case aO => exact (by (with_reducible repeat (first | apply Kd.R_alloc | apply Kd.R_drewN | apply Kd.R_drew)); exact HO_3.out)); (case aS => exact (below_size zB)); (case aL => have := LMc6.out; omega); intro v104 w8 ho hb hg hat; rw [← Ny103.out] at ho; have n0_ := Aside0.mk (hb); have n1_ := Aside0.mk (ho); clear HB; clear HO_3; have HB := n0_; have HO105 := n1_; clear n0_ n1_; clear ho hb hg hat))
              go_roundg k1
              case measure => have := HK1.out; omega
              case rel => exact ⟨(y103), (wrap64 (x8_1 + 1)), zR, H', ⟨by have := HK1.out; omega⟩, ⟨by (with_reducible repeat (first | apply Kd.R_alloc | apply Kd.R_drewN | apply Kd.R_drew)); exact HO105.out⟩, ⟨zB⟩⟩
            · rw [if_neg c6] at H
              exact absurd H (by simp)
          · rw [if_neg c4] at H
            exact absurd H (by simp)
        · rw [if_neg c3] at H
          exact absurd H (by simp)
      · rw [if_neg c2] at H
        have c2b0 : decide (x8_1 < (l0.length : Int)) = false := decide_eq_false c2
        clear c2
        obtain rfl := Option.some.inj H
        go_wp2
        go_ret
        exact ⟨_, zE, by (with_reducible repeat (first | apply Kd.R_alloc | apply Kd.R_drewN | apply Kd.R_drew)); exact HO_3.out, zB⟩
end Go.Proofs.YtjlhhjfmekjbhaaGreatDoor.Ps

/- A region that draws its order, inside a round of a range over a function: what is shown of it outside of any round serves there, if it defers nothing. No condition. -/
namespace Go.Proofs.YtjlhhjfmekjbhaaGreatDoor.Iter
open Go.RowKit Go.Proofs.YtjlhhjfmekjbhaaGreatDoorW.PrintLast
set_option linter.unusedVariables false
section
variable {P : Program} {ops : Array Oper} {Q : Exit → Act → World → Prop} {md : Region.Mode} {l : Nat}
def noDefer (ops : Array Oper) : Bool := ops.toList.all fun o => match o.op with
  | .defer _ => false
  | _ => true
theorem noDefer_spec (h : noDefer ops = true) (j : Nat) (o : Oper) (ho : ops[j]? = some o) (c : Call) : o.op ≠ .defer c := by
  intro e
  have hm : o ∈ ops.toList := Array.mem_toList_iff.2 (Array.mem_of_getElem? ho)
  have := List.all_eq_true.1 h o hm
  rw [e] at this
  cases this
theorem rowsIn_round {row : String} {args : Array Value} {w : World} {R : Value → World → Prop} (h : Rows P row args w R) : RowsIn (Fence.wide.inRound l) 0 P row args w R :=
  fun c cs _ => let ⟨v, w', r, s⟩ := h c cs; ⟨v, w', r, stepsIn_wide.2 s⟩
theorem wpOp_round (hd : noDefer ops = true) (hQ : ¬ LetsOut Q) {i : Nat} {K : Act → World → Prop} {a : Act} {w : World} (h : wpOp P ops Q i K a w) : wpOpIn (Fence.wide.inRound l) 0 P ops Q i K a w := by
  unfold wpOp at h
  unfold wpOpIn
  cases ho : ops[i]? with
  | none => simpa [ho] using h
  | some o =>
    simp only [ho] at h ⊢
    split at h
    · rename_i hw
      rw [if_pos hw]
      rcases h with h | ⟨_, h⟩
      · unfold Oper.wp at h
        unfold Oper.wpIn
        refine ⟨fun _ _ => trivial, ?_⟩
        rw [show (Fence.wide.inRound l).round = some l from rfl, Oper.semAt_some l _ _ (fun c => noDefer_spec hd i o ho c)]
        generalize (execOp a.eval o).run P w = r at h ⊢
        cases r with
        | ok x w' =>
          cases x <;> simp only [Oper.upon, Oper.uponIn] at h ⊢
          case value => exact h
          case skip => exact h
          case defer => exact h
          case enter => exact ⟨fun hx => (by cases hx), CallsIn.inRound l (callsIn_wide.2 h)⟩
          case row => exact ⟨fun hx => (by cases hx), rowsIn_round h⟩
        | halt x w' => cases x <;> simp only [Oper.upon, Oper.uponIn] at h ⊢ <;> exact h
      · exact absurd h hQ
    · rename_i hw
      rw [if_neg hw]
      exact ⟨fun _ _ => trivial, h⟩
theorem wpAny_round (hd : noDefer ops = true) (hQ : ¬ LetsOut Q) : ∀ (fuel : Nat) (listed : Array Bool) (a : Act) (w : World), wpAny P md ops Q fuel listed a w → wpAnyIn (Fence.wide.inRound l) 0 P md ops Q fuel listed a w
  | 0, _, _, _, h => h
  | fuel + 1, _, _, _, h => ⟨h.1, fun i hi => wpOp_round hd hQ (wpOp_mono (fun a' w' h' => wpAny_round hd hQ fuel _ a' w' h') (h.2 i hi))⟩
theorem startIn_ {S : World → Prop} {ds : List Nat} {id n : Nat} {a : Act} {w : World} (li : Array Bool) (hm : P.follows .mixedOrders = true) (hn : ops.size = n) (hl : Array.replicate n false = li) (hd : noDefer ops = true) (hQ : ¬ LetsOut Q) (hS : S w.drew)
    (h : S w.drew → wpAnyLast P .any ops Q S ds n li a w.drew) : (Code.region id ops true).wpIn (Fence.wide.inRound l) 0 P Q a w := by
  subst hn
  subst hl
  exact wpIn_region_any hm (wpAny_round hd hQ _ _ _ _ (wpAny_of_last _ _ _ _ (h hS)))
end
end Go.Proofs.YtjlhhjfmekjbhaaGreatDoor.Iter

/- code.Show: its closed form; a builder beside marks. No condition. -/
namespace Go.Proofs.YtjlhhjfmekjbhaaGreatDoor.Sh
open Go.RowKit Go.Proofs.YtjlhhjfmekjbhaaGreatDoorW.PrintWords Go.Proofs.YtjlhhjfmekjbhaaGreatDoorW.PrintLast Go.Proofs.YtjlhhjfmekjbhaaGreatDoorW.PrintMore Go.Proofs.YtjlhhjfmekjbhaaGreatDoor.Iter Go.Proofs.YtjlhhjfmekjbhaaGreatDoor.Pq Go.Proofs.YtjlhhjfmekjbhaaGreatDoor.Cd Go.Proofs.YtjlhhjfmekjbhaaGreatDoor.Cf Go.Proofs.YtjlhhjfmekjbhaaGreatDoor.Bld Go.Proofs.YtjlhhjfmekjbhaaGreatDoor.Ext
set_option linter.unusedVariables false
set_option linter.unusedSimpArgs false
abbrev B64 (n : Int) : Prop := -9223372036854775808 ≤ n ∧ n ≤ 9223372036854775807
def itB (n : Int) : ByteArray := ⟨(Lib.itoa n).toArray⟩
def quB (s : ByteArray) : ByteArray := ⟨(quoteL s.data.toList).toArray⟩
def lineL (xs : List ByteArray) : List UInt8 := Lib.join (xs.map (·.data.toList)) [32] ++ [10]
theorem lineS_list (xs : List ByteArray) : (Vd.lineS xs).data.toList = lineL xs := by
  unfold Vd.lineS lineL
  rw [ByteArray.data_append, Array.toList_append]
theorem lineS_size (xs : List ByteArray) : (Vd.lineS xs).size = (lineL xs).length := by rw [← lineS_list]; rfl
def insW (x : S31) : List ByteArray := [x.f0, x.f1, x.f2, x.f3, x.f4].map itB ++ [itB x.f6] ++ x.f7.map itB ++ [quB x.f5]
def showI (x : S31) : List UInt8 := lineL (insW x)
def headP (n : Int) : List UInt8 := lineL [⟨#[112, 114, 111, 99]⟩, itB n]
def showP (p : S28) : List UInt8 := headP p.f0 ++ p.f1.flatMap showI
def showL (l : List S28) : List UInt8 := l.flatMap showP
structure SmX (x : S31) : Prop where
  h0 : B64 x.f0
  h1 : B64 x.f1
  h2 : B64 x.f2
  h3 : B64 x.f3
  h4 : B64 x.f4
  h6 : B64 x.f6
  h7 : ∀ n ∈ x.f7, B64 n
  l7 : x.f7.length ≤ 1000000
  l5 : x.f5.size ≤ 1000000
structure SmL (l : List S28) : Prop where
  tot : (showL l).length ≤ 17592186044416
  proc : ∀ p ∈ l, B64 p.f0 ∧ ∀ x ∈ p.f1, SmX x
theorem part_len (l : List S28) (j : Nat) (h : j < l.length) (p : S28) (hp : l[j]? = some p) (k : Nat) : (showL (l.take j) ++ headP p.f0 ++ (p.f1.take k).flatMap showI).length ≤ (showL l).length := by
  have e : l = l.take j ++ p :: l.drop (j + 1) := by
    have h1 : l = l.take (j + 1) ++ l.drop (j + 1) := (List.take_append_drop _ _).symm
    rw [List.take_add_one, hp] at h1
    simpa using h1
  have e2 : p.f1 = p.f1.take k ++ p.f1.drop k := (List.take_append_drop _ _).symm
  have e3 : showL l = showL (l.take j) ++ (showP p ++ showL (l.drop (j + 1))) := by
    conv => lhs; rw [e]
    unfold showL
    rw [List.flatMap_append, List.flatMap_cons]
  have e4 : (p.f1.flatMap showI).length = ((p.f1.take k).flatMap showI).length + ((p.f1.drop k).flatMap showI).length := by
    conv => lhs; rw [e2]
    rw [List.flatMap_append, List.length_append]
  rw [e3]
  unfold showP
  simp only [List.length_append]
  omega
theorem showL_take (l : List S28) (j : Nat) (p : S28) (hp : l[j]? = some p) : showL (l.take (j + 1)) = showL (l.take j) ++ headP p.f0 ++ p.f1.flatMap showI := by
  unfold showL
  rw [List.take_add_one, hp, List.flatMap_append]
  simp [showP]
theorem digits_loop (l : List Int) (hl : l.length ≤ 1000000) (h : ∀ n ∈ l, B64 n) : ∀ d i : Nat, i + d = l.length → ∀ acc : List ByteArray, acc.length = i → Ps.code_digits.l0 (d + 1) acc l (l.length : Int) (i : Int) = some (acc ++ (l.drop i).map itB) := by
  intro d
  induction d with
  | zero =>
    intro i hi acc ha
    rw [Ps.code_digits.l0, if_neg (by omega), List.drop_eq_nil_of_le (by omega)]
    simp
  | succ d ih =>
    intro i hi acc ha
    have hw : wrap64 ((i : Int) + 1) = ((i + 1 : Nat) : Int) := by unfold wrap64; omega
    have hm : l.getD i 0 ∈ l := by rw [List.getD_eq_getElem?_getD, List.getElem?_eq_getElem (by omega)]; exact List.getElem_mem _
    have hr : rd l (i : Int) = l.getD i 0 := by unfold rd; rw [Int.toNat_natCast]
    rw [Ps.code_digits.l0, if_pos (by omega), if_pos (by omega), if_pos (by omega), hr]
    unfold Vd.strconv_Itoa.f
    rw [if_pos (h _ hm), Option.bind_some, if_pos (by omega), hw, ih (i + 1) (by omega) _ (by simp [ha])]
    congr 1
    have e : l.drop i = l.getD i 0 :: l.drop (i + 1) := by
      rw [List.drop_eq_getElem_cons (by omega), List.getD_eq_getElem?_getD, List.getElem?_eq_getElem (by omega)]
      rfl
    rw [e]
    simp [itB]
theorem digits_tells (l : List Int) (hl : l.length ≤ 1000000) (h : ∀ n ∈ l, B64 n) : Ps.code_digits.f (l.length + 1) l = some (l.map itB) := by
  unfold Ps.code_digits.f
  have := digits_loop l hl h l.length 0 (by omega) [] rfl
  simpa using this
abbrev OwnS (W : World) (base : Nat) (v : Value) (xs : List ByteArray) : Prop := W.ownsRow base 9 1 v xs.length (encs Value.string xs)
theorem infoS : (Tryz.prog.info? 9).map (fun i => (i.zero, i.size, i.bytes)) = some (some (.string ByteArray.empty), 1, 16) := by kernel_rfl
theorem appendS_in {F : Fence} {m : Nat} {ops : Array Oper} {rest : List Oper} {o : Oper} {act : Act} {Q : Exit → Act → World → Prop} {W : World} (w0 : World) (hgd : o.guard = none) (s x : Operand)
    (ho : o.op = .call { callee := .builtin .append, args := #[s, x], argTypes := #[65, 65] })
    (v : Value) (xs ys : List ByteArray) (A : Option Addr) (n c : Nat) (hs : act.eval s = v) (hx : act.eval x = .slice A n c) (HO : OwnS W w0.heap.size v xs) (HY : Kd.C Kd.string W A n ys) (HB : Below w0.heap.size w0 W) (hl : xs.length + n < 8796093022208)
    (h : ∀ v1 w1, OwnS w1 w0.heap.size v1 (xs ++ ys) → Below w0.heap.size w0 w1 → (∃ A1 n1 c1, v1 = .slice A1 n1 c1) → wpListIn F m Tryz.prog ops Q rest (act.put o.dst v1) w1) :
    wpListIn F m Tryz.prog ops Q (o :: rest) act W := by
  obtain ⟨i0, hi, hz0, hz1, hz2⟩ := info_parts infoS
  have hyl : ys.length = n := HY.1
  have fin : ∀ ad, (∀ j u, (encs Value.string ys)[j]? = some u → W.cell? (ad.add j) = some u) → act.eval x = .slice (some ad) n c → wpListIn F m Tryz.prog ops Q (o :: rest) act W := by
    intro ad hn hx2
    refine wpListIn_append_own_at W hgd s x 65 ho w0.heap.size 9 i0 (.string ByteArray.empty) 1 16 Tryz.underlying65 hi hz0 hz1 hz2 rfl (by decide) v xs.length _ hs HO ad n c (encs Value.string ys) hx2 (by simp [encs, hyl]) hn (fun u hu => by
      simp only [encs, List.mem_map] at hu
      obtain ⟨y, _, rfl⟩ := hu
      rfl) (by simp only [maxLen]; omega) (by omega) HB.size ?_
    intro v1 w1 hown hg hnil hat
    have hown' : OwnS w1 w0.heap.size v1 (xs ++ ys) := by
      show w1.ownsRow _ _ _ _ _ _
      rw [List.length_append, hyl]
      simpa [encs] using hown
    refine h v1 w1 hown' (HB.grown hg HB.size (fun k hk => own_base HO k hk)) ?_
    rcases hown'.2 with ⟨e, _⟩ | ⟨g, cap, cur, e, _⟩
    · exact ⟨_, _, _, e⟩
    · exact ⟨_, _, _, e⟩
  rcases Nat.eq_zero_or_pos n with h0 | h0
  · subst h0
    obtain rfl := List.eq_nil_of_length_eq_zero hyl
    rcases A with _ | ad
    · have hr : (Builtin.append_ #[65, 65] o.type #[v, .slice none 0 c]).run Tryz.prog W = .ok v W := by
        rcases HO.2 with ⟨rfl, hn⟩ | ⟨g, cap, cur, rfl, _, _, hnc, _⟩
        · simp [Builtin.append_, run_underlying Tryz.underlying65, sizeOf, typeInfo, hi, Builtin.lenOf, Builtin.firstCells]
        · simp [Builtin.append_, run_underlying Tryz.underlying65, sizeOf, typeInfo, hi, Builtin.lenOf, Builtin.firstCells, hnc, storeCells]
      have hv : ∃ A1 n1 c1, v = .slice A1 n1 c1 := by
        rcases HO.2 with ⟨e, _⟩ | ⟨g, cap, cur, e, _⟩
        · exact ⟨_, _, _, e⟩
        · exact ⟨_, _, _, e⟩
      refine wpListIn_plain hgd fun K hK => ?_
      unfold Oper.wpIn
      refine ⟨?_, ?_⟩
      · simp [Oper.about, ho, resolve, Target.leads, Sem.run_pure]
      · rw [Oper.semAt_plain F _ _ (by rw [ho]; intro c hc'; cases hc')]
        simp [execOp, ho, resolve, invoke, builtin, hs, hx, hr, Result.andThen]
        exact hK _ _ (h v W (by rw [List.append_nil]; exact HO) HB hv)
    · exact fin ad (fun j u hu => by simp [encs] at hu) hx
  · obtain ⟨ad, rfl, hc⟩ := HY.2.2 h0
    refine fin ad (fun j u hu => ?_) hx
    simp only [encs, List.getElem?_map, Option.map_eq_some_iff] at hu
    obtain ⟨y, hy, rfl⟩ := hu
    obtain ⟨cs, hcs, hk, hcell⟩ := hc j y hy
    have hcs2 : cs = [Value.string y] := hk
    subst hcs2
    have := hcell 0 (.string y) rfl
    rw [show Kd.string.sz = 1 from rfl] at this
    simpa using this
end Go.Proofs.YtjlhhjfmekjbhaaGreatDoor.Sh

/- code.Show: what is so between two rounds of its loops. No condition. -/
namespace Go.Proofs.YtjlhhjfmekjbhaaGreatDoor.Sh
open Go.RowKit Go.Proofs.YtjlhhjfmekjbhaaGreatDoorW.PrintWords Go.Proofs.YtjlhhjfmekjbhaaGreatDoorW.PrintLast Go.Proofs.YtjlhhjfmekjbhaaGreatDoorW.PrintMore Go.Proofs.YtjlhhjfmekjbhaaGreatDoor.Iter Go.Proofs.YtjlhhjfmekjbhaaGreatDoor.Pq Go.Proofs.YtjlhhjfmekjbhaaGreatDoor.Cd Go.Proofs.YtjlhhjfmekjbhaaGreatDoor.Cf Go.Proofs.YtjlhhjfmekjbhaaGreatDoor.Bld Go.Proofs.YtjlhhjfmekjbhaaGreatDoor.Ext
set_option linter.unusedVariables false
set_option linter.unusedSimpArgs false
def mark (D : Nat) : Deferred := { target := .collected D, args := #[] }
def BD (w : World) (b : Nat) (l : List UInt8) (Ds : List Nat) (W : World) : Prop :=
  ∃ O : Nat → Prop, BOwn W w.heap.size b l O ∧ (∀ i, O i → w.heap.size ≤ i ∧ i < W.heap.size) ∧ Below w.heap.size w W ∧ Ds.Nodup ∧ ∀ D ∈ Ds, w.heap.size ≤ D ∧ W.heap[D]? = some (.deferred (some [])) ∧ ¬ O D
variable {w W W' : World} {b : Nat} {l : List UInt8} {Ds : List Nat}
theorem BD.below (h : BD w b l Ds W) : Below w.heap.size w W := by
  obtain ⟨O, h1, h2, h3, _⟩ := h
  exact h3
theorem BD.string2 (h : BD w b l Ds W) (s : ByteArray) (hlen : l.length + s.size ≤ 140737488355328) {W3 : World} (hb3 : Below W.heap.size W W3) :
    Calls Tryz.prog 27 #[.pointer (some ⟨b, 0, none⟩), .string s] W3 fun e W' => e = .returned (.tuple #[.int .i64 s.size, .nilIface]) ∧ BD w b (l ++ s.data.toList) Ds W' ∧ W3.heap.size ≤ W'.heap.size ∧ ∀ k, W.heap.size ≤ k → k < W3.heap.size → W'.heap[k]? = W3.heap[k]? := by
  obtain ⟨O, h1, h2, h3, h4, h5⟩ := h
  have g1 : BOwn W3 w.heap.size b l O := h1.chg (Chg.of_below hb3 (fun _ => False)) (fun i hi => hi.elim)
  have hs := hb3.size
  have g3 : Below w.heap.size w W3 := below_step h3 hb3
  refine (write_string _ b l O s W3 g1 (fun i hi => Nat.lt_of_lt_of_le (h2 i hi).2 hs) hlen g3.size).mono ?_
  rintro e W' ⟨rfl, hc, O2, hg, _, hb⟩
  refine ⟨rfl, ⟨O2, hb, fun i hi => ⟨?_, (hg i hi).2⟩, g3.trans (hc.below g3.size (fun k hk => (h2 k hk).1)), h4, fun D hD => ⟨(h5 D hD).1, ?_, fun ho => ?_⟩⟩, hc.size, fun k hk1 hk2 => hc.block k hk2 (fun ho => by have := (h2 k ho).2; omega)⟩
  · rcases (hg i hi).1 with h | h
    · exact (h2 i h).1
    · have := g3.size; omega
  · have hDl := (Array.getElem?_eq_some_iff.1 (h5 D hD).2.1).1
    refine hc.blk ?_ (h5 D hD).2.2
    rw [hb3.block D hDl]
    exact (h5 D hD).2.1
  · have hDl := (Array.getElem?_eq_some_iff.1 (h5 D hD).2.1).1
    rcases (hg D ho).1 with h | h
    · exact (h5 D hD).2.2 h
    · omega
theorem BD.all (h : BD w b l Ds W) :
    Calls Tryz.prog 34 #[.pointer (some ⟨b, 0, none⟩)] W fun e W' => e = .returned (.string ⟨l.toArray⟩) ∧ Below w.heap.size w W' ∧ Ds.Nodup ∧ ∀ D ∈ Ds, w.heap.size ≤ D ∧ W'.heap[D]? = some (.deferred (some [])) := by
  obtain ⟨O, h1, h2, h3, h4, h5⟩ := h
  refine (Any.Builder_String_any_k Tryz.lays169 Tryz.Builder_Extra_169 w.heap.size b l W (Lib.IsBuilderF.of h1.is) h3.size).mono ?_
  rintro e W' ⟨rfl, _, hb, hk⟩
  exact ⟨rfl, h3.trans hb, h4, fun D hD => ⟨(h5 D hD).1, hk D _ (h5 D hD).2.1 (fun e => by injection e with e; subst e; exact (h5 _ hD).2.2 h1.own) (fun c fz e => by cases e)⟩⟩
structure ShI (w : World) (b : Nat) (Ds : List Nat) (pre : List UInt8) (xs : List E) (k : Nat) (O : Nat → Prop) (W : World) : Prop where
  bel : Below w.heap.size w W
  bld : ∃ O' : Nat → Prop, BOwn W w.heap.size b (pre ++ (xs.take k).flatMap (fun e => showI e.1)) O' ∧ (∀ i, O' i → O i ∧ w.heap.size ≤ i ∧ i < W.heap.size) ∧ Ds.Nodup ∧ ∀ D ∈ Ds, O D ∧ w.heap.size ≤ D ∧ W.heap[D]? = some (.deferred (some [])) ∧ ¬ O' D
theorem ShI.abide (w : World) (b : Nat) (Ds : List Nat) (pre : List UInt8) (xs : List E) (k : Nat) : Abide w.heap.size (ShI w b Ds pre xs k) := by
  intro O A B T h hc hT
  obtain ⟨O', h1, h2, h3, h4⟩ := h.bld
  exact ⟨h.bel.trans (hc.below h.bel.size (fun i hi => (hT i hi).1)), O', h1.chg hc (fun i hi ho => (hT i hi).2 (h2 i ho).1), fun i hi => ⟨(h2 i hi).1, (h2 i hi).2.1, Nat.lt_of_lt_of_le (h2 i hi).2.2 hc.size⟩, h3, fun D hD => ⟨(h4 D hD).1, (h4 D hD).2.1, hc.blk (h4 D hD).2.2.1 (fun ht => (hT D ht).2 (h4 D hD).1), (h4 D hD).2.2.2⟩⟩
theorem ShI.more {w W : World} {b : Nat} {Ds : List Nat} {pre : List UInt8} {xs : List E} {k : Nat} {O O2 : Nat → Prop} (h : ShI w b Ds pre xs k O W) (hO : ∀ i, O i → O2 i) : ShI w b Ds pre xs k O2 W := by
  obtain ⟨O', h1, h2, h3, h4⟩ := h.bld
  exact ⟨h.bel, O', h1, fun i hi => ⟨hO i (h2 i hi).1, (h2 i hi).2⟩, h3, fun D hD => ⟨hO D (h4 D hD).1, (h4 D hD).2⟩⟩
theorem ShI.alloc {w W : World} {b : Nat} {Ds : List Nat} {pre : List UInt8} {xs : List E} {k : Nat} {O : Nat → Prop} (h : ShI w b Ds pre xs k O W) (o : Obj) : ShI w b Ds pre xs k (fun i => O i ∨ i = W.heap.size) (W.alloc o) :=
  (ShI.abide w b Ds pre xs k O W _ (fun _ => False) h ((Chg.refl _ W).alloc o) (fun i hi => hi.elim)).more (fun i hi => .inl hi)
theorem ShI.start {w W : World} {b : Nat} {Ds : List Nat} {l : List UInt8} (xs : List E) (h : BD w b l Ds W) : ∃ O : Nat → Prop, ShI w b Ds l xs 0 O W ∧ ∀ i, O i → w.heap.size ≤ i ∧ i < W.heap.size := by
  obtain ⟨O, h1, h2, h3, h4, h5⟩ := h
  refine ⟨fun i => O i ∨ i ∈ Ds, ⟨h3, O, by simpa using h1, fun i hi => ⟨.inl hi, h2 i hi⟩, h4, fun D hD => ⟨.inr hD, h5 D hD⟩⟩, fun i hi => ?_⟩
  rcases hi with hi | hi
  · exact h2 i hi
  · exact ⟨(h5 i hi).1, (Array.getElem?_eq_some_iff.1 (h5 i hi).2.1).1⟩
theorem ShI.fin {w W : World} {b D : Nat} {Ds : List Nat} {pre : List UInt8} {xs : List E} {O : Nat → Prop} (h : ShI w b Ds pre xs xs.length O W) (hD : w.heap.size ≤ D) (hn : ¬ O D) (hK : W.heap[D]? = some (.deferred (some []))) : BD w b (pre ++ xs.flatMap (fun e => showI e.1)) (D :: Ds) W := by
  obtain ⟨O', h1, h2, h3, h4⟩ := h.bld
  rw [List.take_length] at h1
  refine ⟨O', h1, fun i hi => (h2 i hi).2, h.bel, List.nodup_cons.2 ⟨fun hm => hn (h4 D hm).1, h3⟩, fun D' hD' => ?_⟩
  rcases List.mem_cons.1 hD' with rfl | hm
  · exact ⟨hD, hK, fun ho => hn (h2 _ ho).1⟩
  · exact (h4 D' hm).2
theorem ShI.write {w Wb W6 : World} {b : Nat} {Ds : List Nat} {pre : List UInt8} {xs : List E} {k : Nat} {O1 : Nat → Prop} (h : ShI w b Ds pre xs k O1 Wb) (hOb : ∀ i, O1 i → i < Wb.heap.size) (x : E) (hx : xs[k]? = some x) (s : ByteArray) (hs : s.data.toList = showI x.1) (hlen : (pre ++ (xs.take (k + 1)).flatMap (fun e => showI e.1)).length ≤ 140737488355328) (hb : Below Wb.heap.size Wb W6) :
    Calls Tryz.prog 27 #[.pointer (some ⟨b, 0, none⟩), .string s] W6 fun e W7 => e = .returned (.tuple #[.int .i64 s.size, .nilIface]) ∧ (Chg O1 Wb W7 ∧ ∃ O2 : Nat → Prop, Grow O1 Wb O2 W7 ∧ ShI w b Ds pre xs (k + 1) O2 W7) := by
  obtain ⟨O', h1, h2, h3, h4⟩ := h.bld
  have hc0 : Chg O1 Wb W6 := Chg.of_below hb O1
  have h1' : BOwn W6 w.heap.size b (pre ++ (xs.take k).flatMap (fun e => showI e.1)) O' := h1.chg (Chg.of_below hb (fun _ => False)) (fun i hi => hi.elim)
  have et : (pre ++ (xs.take k).flatMap (fun e => showI e.1)) ++ s.data.toList = pre ++ (xs.take (k + 1)).flatMap (fun e => showI e.1) := by
    rw [List.take_add_one, hx, List.flatMap_append, hs]
    simp
  have hl2 : (pre ++ (xs.take k).flatMap (fun e => showI e.1)).length + s.size ≤ 140737488355328 := by
    rw [← et, List.length_append] at hlen
    exact hlen
  refine (write_string _ b _ O' s W6 h1' (fun i hi => Nat.lt_of_lt_of_le (h2 i hi).2.2 hb.size) hl2 (Nat.le_trans h.bel.size hb.size)).mono ?_
  rintro e W7 ⟨rfl, hc, O2, hg, hOO, hbo⟩
  rw [et] at hbo
  have hcc : Chg O1 Wb W7 := hc0.then_ (hc.mono (fun i _ hi => (h2 i hi).1))
  have hs6 := hb.size
  refine ⟨rfl, hcc, fun i => O1 i ∨ O2 i, fun i hi => ?_, ?_, O2, hbo, fun i hi => ⟨.inr hi, ?_⟩, h3, fun D hD => ⟨.inl (h4 D hD).1, (h4 D hD).2.1, ?_, fun ho => ?_⟩⟩
  · rcases hi with hi | hi
    · exact ⟨.inl hi, Nat.lt_of_lt_of_le (hOb i hi) hcc.size⟩
    · rcases hg i hi with ⟨h | h, hlt⟩
      · exact ⟨.inl (h2 i h).1, hlt⟩
      · exact ⟨.inr (by omega), hlt⟩
  · exact (h.bel.trans (hb.mono h.bel.size)).trans (hc.below (Nat.le_trans h.bel.size hb.size) (fun i hi => (h2 i hi).2.1))
  · rcases hg i hi with ⟨h' | h', hlt⟩
    · exact ⟨(h2 i h').2.1, hlt⟩
    · have := h.bel.size
      exact ⟨by omega, hlt⟩
  · have hDl := (Array.getElem?_eq_some_iff.1 (h4 D hD).2.2.1).1
    refine hc.blk ?_ (h4 D hD).2.2.2
    rw [hb.block D hDl]
    exact (h4 D hD).2.2.1
  · have hDl := (Array.getElem?_eq_some_iff.1 (h4 D hD).2.2.1).1
    rcases hg D ho with ⟨h' | h', hlt⟩
    · exact (h4 D hD).2.2.2 h'
    · omega
theorem one_C {W : World} {g : Nat} {q : ByteArray} (h : W.cell? ⟨g, 0, none⟩ = some (.string q)) : Kd.C Kd.string W (some ⟨g, 0, none⟩) 1 [q] := by
  refine ⟨rfl, by omega, fun _ => ⟨_, rfl, fun j p hj => ?_⟩⟩
  match j, hj with
  | 0, hj =>
    obtain rfl : q = p := by simpa using hj
    refine ⟨[.string q], rfl, rfl, fun i u hu => ?_⟩
    match i, hu with
    | 0, hu =>
      obtain rfl : Value.string q = u := by simpa using hu
      simpa [Addr.add] using h
    | i + 1, hu => simp at hu
  | j + 1, hj => simp at hj
theorem leaves_marks {F : Fence} {n : Nat} {P : Program} {fn : Func} {tmps : Array Value} {R : Ending → World → Prop} : ∀ (Ds : List Nat) (W : World), Ds.Nodup → (∀ D ∈ Ds, W.heap[D]? = some (.deferred (some []))) →
    (∀ W', Chg (fun i => i ∈ Ds) W W' → LeavesIn F n P fn tmps R [] .returning W') → LeavesInM F n P fn tmps R (Ds.map mark) .returning W
  | [], W, _, _, h => h W (Chg.refl _ _)
  | D :: Ds, W, hn, hD, h => by
    have hnd := List.nodup_cons.1 hn
    refine ⟨by simp, .inl ⟨D, _, rfl, run_takeDeferred (hD D (List.mem_cons_self ..)), ?_⟩⟩
    refine leaves_marks Ds _ hnd.2 (fun D' hD' => ?_) (fun W' hc => h W' ?_)
    · refine (Chg.put1 W D _).blk (hD D' (List.mem_cons_of_mem _ hD')) (fun e => hnd.1 (e ▸ hD'))
    · exact ((Chg.put1 W D _).mono (fun i _ e => by subst e; exact List.mem_cons_self ..)).trans hc (fun i hi => .inl (List.mem_cons_of_mem _ hi))
end Go.Proofs.YtjlhhjfmekjbhaaGreatDoor.Sh

