/- graph.told, its iterator; graph.set. No condition. -/
import Derived.Test.YtondngpmhlemkaaColl
import Derived.Test.YtondngpmhlemkaaPr0
namespace Go.Proofs.Ytondngpmhlemkaa.Ext
open Go.RowKit Go.Proofs.YtondngpmhlemkaaW.PrintWords Go.Proofs.YtondngpmhlemkaaW.PrintLast Go.Proofs.YtondngpmhlemkaaW.PrintMore Go.Proofs.Ytondngpmhlemkaa.Sets Go.Proofs.Ytondngpmhlemkaa.Iter Go.Proofs.Ytondngpmhlemkaa.Pr
set_option linter.unusedVariables false
set_option linter.unusedSimpArgs false
attribute [local go_sem] Oper.semAt_some

theorem fm_take {α β : Type} (g : α → Option β) {l : List α} {j : Nat} {x : α} (hx : l[j]? = some x) : (l.take (j + 1)).filterMap g = (l.take j).filterMap g ++ (g x).toList := by
  rw [List.take_add_one, hx, List.filterMap_append]
  cases h : g x <;> simp [h]
theorem fm_at {α β : Type} (g : α → Option β) {l : List α} {j : Nat} {x : α} {y : β} (hx : l[j]? = some x) (hg : g x = some y) : (l.filterMap g)[((l.take j).filterMap g).length]? = some y := by
  have h1 : l.filterMap g = (l.take (j + 1)).filterMap g ++ (l.drop (j + 1)).filterMap g := by rw [← List.filterMap_append, List.take_append_drop]
  rw [h1, fm_take g hx, hg]
  simp

def encF (f : S49) : Array Value := #[.agg #[.int .i64 f.f0, .int .i64 f.f1, .string f.f2, .int .i64 f.f3]]
def ofKind (kind : Int) (f : S49) : Option S49 := if f.f0 = kind then some f else none
def toldL (l : List S49) (kind : Int) : List S49 := l.filterMap (ofKind kind)

/-- The iterator's own two variables. -/
structure ToldSt (w00 : World) (Bl Bk : Nat) (A : Option Addr) (ca : Nat) (l : List S49) (kind : Int) (W : World) : Prop where
  below : Below w00.heap.size w00 W
  boxl : W.cell? ⟨Bl, 0, none⟩ = some (.slice A l.length ca)
  boxk : W.cell? ⟨Bk, 0, none⟩ = some (.int .i64 kind)
theorem ToldSt.chg {w00 : World} {Bl Bk : Nat} {A : Option Addr} {ca : Nat} {l : List S49} {kind : Int} {W W' : World} {T : Nat → Prop} (h : ToldSt w00 Bl Bk A ca l kind W) (hc : Chg T W W') (hT : ∀ i, T i → w00.heap.size ≤ i ∧ i ≠ Bl ∧ i ≠ Bk) : ToldSt w00 Bl Bk A ca l kind W' :=
  ⟨h.below.trans (hc.below h.below.size (fun k hk => (hT k hk).1)), hc.cell h.boxl (fun ht => (hT _ ht).2.1 rfl), hc.cell h.boxk (fun ht => (hT _ ht).2.2 rfl)⟩
structure ToldRel (w00 : World) (Bl Bk : Nat) (A : Option Addr) (ca : Nat) (l : List S49) (kind : Int) (J : Nat → (Nat → Prop) → World → Prop) (k : Nat) (W : World) : Prop where
  st : ToldSt w00 Bl Bk A ca l kind W
  own : ∃ O1, J (toldL (l.take k) kind).length O1 W ∧ ∀ i, O1 i → w00.heap.size ≤ i ∧ i ≠ Bl ∧ i ≠ Bk ∧ i < W.heap.size

theorem rdT_at (l : List S49) (k : Nat) (hk : k < l.length) : l[k]? = some (rd_T49 l (k : Int)) := by
  unfold rd_T49
  rw [Int.toNat_natCast, List.getD_eq_getElem?_getD, List.getElem?_eq_getElem hk]
  rfl

set_option maxHeartbeats 2000000 in
theorem told1_iter (w00 w : World) (Bl Bk : Nat) (A : Option Addr) (ca : Nat) (l : List S49) (kind : Int) (hr : Kd.C k49 w00 A l.length l) (hB : w00.heap.size ≤ Bl ∧ w00.heap.size ≤ Bk) (hs : ToldSt w00 Bl Bk A ca l kind w) :
    IterOK Try.prog 47 #[.pointer (some ⟨Bl, 0, none⟩), .pointer (some ⟨Bk, 0, none⟩)] encF (toldL l kind) w00.heap.size (fun i => i = Bl ∨ i = Bk) w := by
  intro y J Jx O W hcW hO hJ hJx hY h0
  have hs0 : ToldSt w00 Bl Bk A ca l kind W := hs.chg hcW (fun i hi => ⟨(hO i hi.1).2.1, fun e => (hO i hi.1).1 (.inl e), fun e => (hO i hi.1).1 (.inr e)⟩)
  have HREL := Aside0.mk (show ToldRel w00 Bl Bk A ca l kind J 0 W from ⟨hs0, O, h0, fun i hi => ⟨(hO i hi).2.1, fun e => (hO i hi).1 (.inl e), fun e => (hO i hi).1 (.inr e), (hO i hi).2.2⟩⟩)
  have HY := Aside0.mk hY
  have HJ := Aside0.mk hJ
  have HR := Aside0.mk hr
  have hm : l.length ≤ 9223372036854775807 := hr.2.1
  have hboxl := hs0.boxl
  clear hY hJ hJx h0 hs0 hr hs hcW hO
  refine (callsIn_wide (n := 0)).1 ?_
  refine callsIn_of_wp Try.func47 rfl trivial ?_ rfl
  simp only [Try.ntmps47, List.size_toArray, List.length_cons, List.length_nil, Nat.reduceAdd, Nat.reduceSub, Array.replicate_succ, Array.replicate_zero, List.push_toArray, List.append_toArray, List.nil_append, List.cons_append]
  gi_wp2
  gi_loopg [5, 8] l.length (fun kq v5 v8 w' => ∃ k : Nat, v8 = .int .i64 k ∧ k + kq = l.length ∧ ToldRel w00 Bl Bk A ca l kind J k w')
  case atStart => exact ⟨0, rfl, by omega, HREL.out⟩
  case round =>
    clear HREL hboxl
    obtain ⟨k, rfl, hk, hrel⟩ := hrel
    by_cases hlt : k < l.length
    · obtain ⟨ad, rfl, hc0, hc1, hc2, hc3⟩ := at_T49 (Kd.C_below HR.out hrel.st.below) (k : Int) (by omega) (by omega)
      rw [Int.toNat_natCast] at hc0 hc1 hc2 hc3
      have HX := Aside0.mk (rdT_at l k hlt)
      obtain ⟨O1, hj, hd⟩ := hrel.own
      have hboxk := hrel.st.boxk
      have HL := Aside0.mk hrel
      have HD := Aside0.mk hd
      clear hrel hd
      generalize rd_T49 l (k : Int) = x at *
      have hja := HJ.out _ _ _ (wr.alloc (.cells #[.int .i64 x.f0, .int .i64 x.f1, .string x.f2, .int .i64 x.f3] 49)) (fun _ => False) hj ((Chg.refl _ _).alloc _) (fun i h => h.elim)
      have hsa := HL.out.st.chg ((Chg.refl (fun _ => False) wr).alloc (.cells #[.int .i64 x.f0, .int .i64 x.f1, .string x.f2, .int .i64 x.f3] 49)) (fun i h => h.elim)
      have hbk2 := hsa.boxk
      by_cases he : x.f0 = kind
      · have hox : ofKind kind x = some x := by unfold ofKind; rw [if_pos he]
        have hyl := HY.out _ x O1 _ (fm_at (ofKind kind) HX.out hox) hja (fun i hi => by have := (HD.out i hi).2.2.2; simp; omega)
        have HSA := Aside0.mk hsa
        have HF := Aside0.mk (show toldL (l.take (k + 1)) kind = toldL (l.take k) kind ++ [x] by unfold toldL; rw [fm_take _ HX.out, hox]; rfl)
        have HKL := Aside0.mk (List.getElem?_eq_some_iff.1 (fm_at (ofKind kind) HX.out hox)).1
        obtain ⟨fn, tmps, asg, bdy, hy, hR⟩ := hyl
        dsimp only [encF] at hy
        have HR2 := Aside0.mk hR
        clear hR hj hja hsa hox
        subst he
        gi_wp2
        refine ⟨rfl, HR2.out.mono ?_⟩
        rintro e W' (⟨rfl, ⟨O2, hO2, hJ2⟩, hc⟩ | ⟨rfl, ⟨O2, hO2, hx⟩, hc⟩)
        · have HG := Aside0.mk (show ToldRel w00 Bl Bk (some ad) ca l x.f0 J (k + 1) W' from ⟨HSA.out.chg hc (fun i hi => ⟨(HD.out i hi).1, (HD.out i hi).2.1, (HD.out i hi).2.2.1⟩), O2, by rw [HF.out, List.length_append]; exact hJ2, fun i hi => (hO2 i hi).1.elim (fun h => ⟨(HD.out i h).1, (HD.out i h).2.1, (HD.out i h).2.2.1, (hO2 i hi).2⟩) (fun h => by
            have h0 := (hO2 i hi).2
            have h1 := HL.out.st.below.size
            have h2 := World.block_lt_of_cell? wr _ HL.out.st.boxl
            have h3 := World.block_lt_of_cell? wr _ HL.out.st.boxk
            simp at h h2 h3
            omega)⟩)
          clear hO2 hJ2 hc hy hc0 hc1 hc2 hc3 hboxk hbk2
          gi_wp2
          gi_roundg (gk - 1)
          case measure => omega
          case rel => exact ⟨k + 1, by go_num, by omega, HG.out⟩
        · gi_wp2
          refine bodyPost_ret (results_none rfl _ _ _) rfl ?_
          exact ⟨⟨_, rfl⟩, .inr ⟨_, O2, HKL.out, hx⟩⟩
      · have hox : ofKind kind x = none := by unfold ofKind; rw [if_neg he]
        have HG := Aside0.mk (show ToldRel w00 Bl Bk (some ad) ca l kind J (k + 1) (wr.alloc (.cells #[.int .i64 x.f0, .int .i64 x.f1, .string x.f2, .int .i64 x.f3] 49)) from ⟨hsa, O1, by
          have : toldL (l.take (k + 1)) kind = toldL (l.take k) kind := by unfold toldL; rw [fm_take _ HX.out, hox]; simp
          rw [this]; exact hja, fun i hi => ⟨(HD.out i hi).1, (HD.out i hi).2.1, (HD.out i hi).2.2.1, by have := (HD.out i hi).2.2.2; simp; omega⟩⟩)
        have hne : (x.f0 == kind) = false := by simpa using he
        clear hj hja hsa hox
        gi_wp2
        refine ⟨(fun f h => (by cases h)), ?_⟩
        gi_wp2
        gi_roundg (gk - 1)
        case measure => omega
        case rel => exact ⟨k + 1, by go_num, by omega, HG.out⟩
    · obtain rfl : k = l.length := by omega
      have HF := Aside0.mk hrel
      clear hrel
      gi_wp2
      go_end0
      obtain ⟨O1, hj, _⟩ := HF.out.own
      rw [List.take_length] at hj
      exact ⟨⟨_, rfl⟩, .inl ⟨O1, hj⟩⟩

theorem told_calls (va : Value) (kind : Int) (w : World) (h1 : va.oneCell' = true) :
    Calls Try.prog 34 #[va, .int .i64 kind] w fun e w' => e = .returned (.func (.func 47) #[] #[.pointer (some ⟨w.heap.size, 0, none⟩), .pointer (some ⟨w.heap.size + 1, 0, none⟩)]) ∧ w' = (w.alloc (.cells #[va] 35)).alloc (.cells #[.int .i64 kind] 3) := by
  go_enter Try.func34, Try.ntmps34
  go_wp2
  go_ret
  exact ⟨rfl, rfl⟩

/-! ### graph.set -/
theorem compact_cut (A : Option Addr) (c : Nat) (xs : List Int) (base : Nat) (w : World) (h : OwnI w base (.slice A xs.length c) xs) (hl : xs.length < 4611686018427387904) :
    Calls Try.prog 45 #[.slice A xs.length xs.length] w fun e w' => ∃ v', e = .returned v' ∧ Kd.V (Kd.int .i64) 3 w' base (fun k => base ≤ k) v' (Lib.compact xs) ∧ w.grownBy w' (Value.slice A xs.length c).ownBlock := by
  have ho := Kd.own_of_R h
  rcases ho.2 with ⟨hv, h0⟩ | ⟨g, cap, cur, hv, hb, hg, h1, h2, h3, h4⟩
  · obtain rfl : xs = [] := List.eq_nil_of_length_eq_zero h0
    injection hv with e1 e2 e3
    subst e1 e3
    refine (Try.slices_Compact_int_empty none 0 w).mono ?_
    rintro e w' ⟨rfl, rfl⟩
    exact ⟨_, rfl, Kd.V_nil _ _ _ _ _, World.grownBy.refl _ _⟩
  · injection hv with e1 e2 e3
    subst e1 e3
    have hH : Sort.Holds (Value.int .i64) w g 0 xs.toArray := holds_of_blockI hg (by rw [Nat.mul_one] at h4; exact h4)
    refine (Try.slices_Compact_int g 0 xs.length xs w hH (by omega) (Nat.le_refl _)).mono ?_
    rintro e w' ⟨rfl, q, rfl⟩
    have hcl : (Lib.compact xs).length ≤ xs.length := Lib.compact_length_le xs
    have hr := Lib.ownsRow_putRow (enc := Value.int .i64) (q := q) (k := (Lib.compact xs).length) (ys := Lib.compact xs ++ List.replicate (xs.length - (Lib.compact xs).length) 0) ho (by simp; omega) hcl
    refine ⟨_, rfl, ?_, ?_⟩
    · have hr' := hr
      simp only [List.take_left'] at hr'
      have hR : Kd.R (Kd.int .i64) 3 _ base (fun k => base ≤ k) (.slice (some ⟨g, 0, none⟩) (Lib.compact xs).length c) (Lib.compact xs) := Kd.R_of_own hr' (fun k hk => by
        have : g = k := by simpa [Value.ownBlock] using hk
        omega)
      exact ⟨_, _, rfl, hcl, Kd.R_F hR⟩
    · have := grownBy_sortedI (w := w) (g := g) (n := q) (os := #[]) (Lib.compact xs ++ List.replicate (xs.length - (Lib.compact xs).length) 0).toArray
      rw [Sort.grow_empty] at this
      exact this

def SetPost (B0 : Nat) (w : World) (xs : List Int) (e : Ending) (w' : World) : Prop := ∃ v : Value, e = .returned v ∧ Kd.V (Kd.int .i64) 3 w' w.heap.size (fun k => w.heap.size ≤ k) v (sset xs) ∧ Below B0 w w'

set_option maxHeartbeats 1000000 in
theorem set_calls {gf : Nat} {lb : Array Value} {xs : List Int} {B0 : Nat} {Oi : Nat → Prop} {w0 w : World} (eg : ∀ args w, (callFunc gf args).run Try.prog w = .ok (.enter gf args) w) (hit : IterOK Try.prog gf lb encI xs B0 Oi w0)
    (hw : Below w0.heap.size w0 w) (hB0 : B0 ≤ w.heap.size) (hOi : ∀ i, Oi i → i < w.heap.size) (hl : xs.length ≤ 17592186044416) :
    Calls Try.prog 29 #[.func (.func gf) #[] lb] w (SetPost B0 w xs) := by
  have HA := Aside0.mk (sorted_calls eg hit hw hB0 hOi hl)
  have hlen : (xs.mergeSort fun x y => decide (x ≤ y)).length = xs.length := List.length_mergeSort _
  have HS := Aside0.mk (show sset xs = Lib.compact (xs.mergeSort fun x y => decide (x ≤ y)) from rfl)
  clear eg hit hw hOi
  have hl2 : (xs.mergeSort fun x y => decide (x ≤ y)).length ≤ 17592186044416 := by omega
  clear hlen hl
  generalize (xs.mergeSort fun x y => decide (x ≤ y)) = ys at *
  go_enter Try.func29, Try.ntmps29
  go_wp2_with fail
  refine HA.out.mono ?_
  rintro e w1 ⟨v, rfl, hO, hB⟩
  have HO := Aside0.mk hO
  have HB := Aside0.mk hB
  obtain ⟨A, c, rfl, hlc, hc⟩ := own_slice3 hO
  clear HA hO hB
  go_wp2_with fail
  refine (compact_cut A c ys w.heap.size w1 HO.out (by omega)).mono ?_
  rintro e w2 ⟨v, rfl, hV, hG⟩
  have HV := Aside0.mk hV
  have HB2 := Aside0.mk (HB.out.grown hG (Nat.le_trans hB0 HB.out.size) (fun k hk => Nat.le_trans hB0 (own_base_lt HO.out k hk)))
  clear hV hG HO HB
  go_wp2_with fail
  go_ret
  exact ⟨_, rfl, by rw [HS.out]; exact HV.out, HB2.out⟩
end Go.Proofs.Ytondngpmhlemkaa.Ext
