/- Lemmas for the claims of this seat (own texts, packed; what the claims do not use is left out). No condition. -/
import Derived.Test.YtjlhhjfmekjbhaaGreatDoorProg
import Derived.Below
import Derived.Deep.Draws
import Derived.Deep.AppendLies
import Derived.Maps.AppendAt
import Derived.OwnWalk
import Derived.Laws.BytesArg
import Derived.Laws.MakeOwn
import Derived.Laws.OwnMore
import Derived.Deep.OwnRows
import Derived.Tactics
import Derived.Lib.ConvBytes
import Derived.Laws.Slices
import Derived.WalkKit
import Derived.KernelRfl
import Derived.RowKit3
import Derived.Deep.LoopGhost
import Derived.Deep.QuietTactic
import Derived.BigQuiet
import Derived.WideLaws
import Derived.Deep.DeepCutAuto
import Derived.Deep.CutBlock
import Derived.Deep.RegionHeld3
import Derived.Laws.Rows
import Derived.Lib.AppendStr
import Derived.ArgAppend
import Derived.Laws.IdiomCopy
import Derived.OrdersHeld
import Derived.Laws.BitsLemmas
import Derived.RowKit
import Derived.Test.YtjlhhjfmekjbhaaGreatDoorRows
import Derived.Lib.LaidTab
import Derived.Stop.LaidErr
import Derived.LaidSub
import Derived.LaidMore
import Derived.MakeChecks
import Derived.ProofKit
import Derived.OpenShut
import Derived.ShutString
import Derived.ChangeOld
import Derived.SizedLaws
import Derived.Handed
import Derived.Test.YtjlhhjfmekjbhaaGreatDoorMg0
import Derived.Test.YtjlhhjfmekjbhaaGreatDoorMg1
import Derived.Test.YtjlhhjfmekjbhaaGreatDoorMg5
import Derived.Test.YtjlhhjfmekjbhaaGreatDoorMg6
/- code.Show: a code's text. No condition. -/
namespace Go.Proofs.YtjlhhjfmekjbhaaGreatDoor.Sh
open Go.RowKit Go.Proofs.YtjlhhjfmekjbhaaGreatDoorW.PrintWords Go.Proofs.YtjlhhjfmekjbhaaGreatDoorW.PrintLast Go.Proofs.YtjlhhjfmekjbhaaGreatDoorW.PrintMore Go.Proofs.YtjlhhjfmekjbhaaGreatDoor.Iter Go.Proofs.YtjlhhjfmekjbhaaGreatDoor.Pq Go.Proofs.YtjlhhjfmekjbhaaGreatDoor.Cd Go.Proofs.YtjlhhjfmekjbhaaGreatDoor.Cf Go.Proofs.YtjlhhjfmekjbhaaGreatDoor.Bld Go.Proofs.YtjlhhjfmekjbhaaGreatDoor.Ext
set_option linter.unusedVariables false
set_option linter.unusedSimpArgs false
attribute [local go_sem] Oper.semAt_some
set_option maxHeartbeats 8000000 in
set_option maxRecDepth 100000 in
theorem show_bad (A0 : Option Addr) (c0 : Nat) (l0 : List S28) (w : World) (hL : Va.Laid w) (hr0 : Kd.C k28 w A0 l0.length l0) (hc0 : l0.length ≤ c0) (hw : WfL l0) (hc : codeS l0 = false) :
    Calls Tryz.prog 14 #[.slice A0 l0.length c0] w fun e w' => e = .returned (.tuple #[.string ⟨#[]⟩, .int .i64 90]) ∧ Below w.heap.size w w' := by
  have hR := right_calls A0 c0 l0 w hL hr0 hc0 hw
  rw [hc] at hR
  have HR := Aside0.mk hR
  clear hR hL hr0 hc0 hw hc
  go_enter Tryz.func14, Tryz.ntmps14
  go_wp2_with (go_at_call 12; refine HR.out.mono ?_; rintro e w1 ⟨rfl, hb⟩; have HB := Aside0.mk hb; clear hb)
  go_ret2
  exact ⟨rfl, HB.out⟩
theorem own_slice {W : World} {base : Nat} {v : Value} {xs : List ByteArray} (h : OwnS W base v xs) : ∃ A1 n1 c1, v = .slice A1 n1 c1 := by
  rcases h.2 with ⟨e, _⟩ | ⟨g, cap, cur, e, _⟩
  · exact ⟨_, _, _, e⟩
  · exact ⟨_, _, _, e⟩
theorem own_below {W W' : World} {base : Nat} {v : Value} {xs : List ByteArray} (h : OwnS W base v xs) (hb : Below W.heap.size W W') : OwnS W' base v xs := own_move h (fun k hk => hb.block k (own_lt h k hk))
theorem own_cells {W : World} {base : Nat} {v : Value} {xs : List ByteArray} (h : OwnS W base v xs) (hn : 0 < xs.length) : ∃ g c, v = .slice (some ⟨g, 0, none⟩) xs.length c ∧ g < W.heap.size ∧ xs.length ≤ c ∧ ∀ (j : Nat) x, xs[j]? = some x → W.cell? ⟨g, 0 + j, none⟩ = some (.string x) := by
  have hc := fun g => h.cells (g := g)
  rcases h.2 with ⟨e, h0⟩ | ⟨g, cap, cur, e, _, hg, hn1, _⟩
  · omega
  · subst e
    refine ⟨g, cap, rfl, (Array.getElem?_eq_some_iff.1 hg).1, hn1, fun j x hx => ?_⟩
    have := hc g rfl j (.string x) (by simp [encs, hx])
    rw [Nat.zero_add]
    simp only [Addr.add] at this
    split at this
    · rename_i h0
      subst h0
      exact this
    · simpa using this
theorem text_len {l0 : List S28} {k : Nat} {p0 : Int} {pl : List S31} {xs F : List E} (h : ∀ q, (showL (l0.take k) ++ headP p0 ++ (pl.take q).flatMap showI).length ≤ (showL l0).length) (ht : (showL l0).length ≤ 17592186044416) (hx : xs.map (·.1) = pl) (hF : F = xs) (kk : Nat) (x : E) (hk : F[kk]? = some x) :
    ((showL (l0.take k) ++ headP p0) ++ (F.take (kk + 1)).flatMap (fun e => showI e.1)).length ≤ 140737488355328 ∧ (Lib.join ((insW x.1).map (·.data.toList)) [32]).length ≤ 140737488355328 := by
  subst hF
  have e : (F.take (kk + 1)).flatMap (fun e => showI e.1) = (pl.take (kk + 1)).flatMap showI := by
    rw [← hx, ← List.map_take, List.flatMap_map]
  have e2 : (F.take (kk + 1)).flatMap (fun e => showI e.1) = (F.take kk).flatMap (fun e => showI e.1) ++ showI x.1 := by
    rw [List.take_add_one, hk, List.flatMap_append]
    simp
  have h1 := h (kk + 1)
  rw [← e] at h1
  refine ⟨by omega, ?_⟩
  rw [e2] at h1
  unfold showI lineL at h1
  simp only [List.length_append] at h1
  omega
theorem two_cells {W : World} {g : Nat} {x y : ByteArray} {t : TypeId} (h : W.heap[g]? = some (.cells #[.string x, .string y] t (0, 0))) : ∀ (j : Nat) z, [x, y][j]? = some z → W.cell? ⟨g, 0 + j, none⟩ = some (.string z) := by
  intro j z hj
  rw [Nat.zero_add]
  match j, hj with
  | 0, hj =>
    obtain rfl : x = z := by simpa using hj
    simp [World.cell?, h]
  | 1, hj =>
    obtain rfl : y = z := by simpa using hj
    simp [World.cell?, h]
  | j + 2, hj => simp at hj
def shwT10 : Bool × List (List Nat × List Nat) := (true, [([], []), ([0], [0]), ([], []), ([2], [2]), ([], []), ([4], [4]), ([], []), ([6], [6]), ([], []), ([8], [8]), ([1, 3, 5, 7, 9], [1, 3, 5, 7, 9]), ([10], [10]), ([], []), ([12], [12]), ([13, 11], [13]), ([14], [14]), ([11, 15, 14], [11, 15]), ([16, 16, 0, 1, 2, 3, 4, 5, 6, 7, 8, 9, 10, 11, 12, 13, 14, 15, 16], [16])])
def shwB10 : List Nat := [0, 1, 0, 4, 0, 16, 0, 64, 0, 256, 1023, 2047, 0, 4096, 16383, 32767, 65535, 131071]
theorem shwtab10 : rtab .any (opsOf Tryz.f14 10) = shwT10 := by kernel_rfl
theorem shwbits10 : waitsOk shwT10.2 shwB10 = true := by kernel_rfl
set_option maxHeartbeats 40000000 in
set_option maxRecDepth 100000 in
theorem show_good (A0 : Option Addr) (c0 : Nat) (l0 : List S28) (w : World) (hL : Va.Laid w) (hr0 : Kd.C k28 w A0 l0.length l0) (hc0 : l0.length ≤ c0) (hw : WfL l0) (hc : codeS l0 = true) (hs : SmL l0) :
    Calls Tryz.prog 14 #[.slice A0 l0.length c0] w fun e w' => e = .returned (.tuple #[.string ⟨(showL l0).toArray⟩, .int .i64 0]) ∧ Below w.heap.size w w' := by
  have hR := right_calls A0 c0 l0 w hL hr0 hc0 hw
  rw [hc] at hR
  have HR := Aside0.mk hR
  have HL := Aside0.mk hL
  have HA := Aside0.mk hr0
  have HW := Aside0.mk hw
  have HS := Aside0.mk hs
  have hln := hw.len
  clear hR hL hr0 hc0 hw hc hs
  refine (callsIn_wide (n := 0)).1 ?_
  refine callsIn_of_wp_marks Tryz.func14 rfl trivial ?_ rfl
  simp only [Tryz.ntmps14, List.size_toArray, List.length_cons, List.length_nil, Nat.reduceAdd, Nat.reduceSub, Array.replicate_succ, Array.replicate_zero, List.push_toArray, List.append_toArray, List.nil_append, List.cons_append]
  have hdep : Fence.wide.depth = none := rfl
  have hfns : ∀ f, Fence.wide.fn f := fun _ => trivial
  gi_wp2_with (gi_at_call 12; refine (callsIn_wide.2 HR.out).mono ?_; rintro e w1 ⟨rfl, hb⟩; have HB := Aside0.mk hb; clear hb)
  have HBD := Aside0.mk (show BD w w1.heap.size [] [] (w1.alloc (.cells #[.pointer none, .slice none 0 0] 55)) from
    ⟨fun i => i = w1.heap.size, BOwn.fresh w1 _ HB.out.size _ rfl, fun i hi => by subst hi; exact ⟨HB.out.size, by simp⟩, HB.out.alloc HB.out.size _, List.nodup_nil, fun D hD => by simp at hD⟩)
  clear HR
  refine wpIn_loop (fun a w' => ∃ (k : Nat) (Ds : List Nat) (u6 u7 u8 u15 u16 u17 u18 u19 u20 u21 u22 u23 u24 u25 u26 u27 u28 u29 u30 u31 u32 u33 u34 u35 u36 u37 u38 u39 u40 u41 u42 u43 u44 u45 u46 u47 u48 u49 u50 u51 u52 u53 u54 u55 u56 u57 u58 : Value), a = { tmps := #[.slice A0 l0.length c0, undef, .string ⟨#[]⟩, .int .i64 0, .pointer (some ⟨w1.heap.size, 0, none⟩), undef, u6, u7, u8, .slice A0 l0.length c0, .bool true, .bool false, .slice A0 l0.length c0, .int .i64 (l0.length : Int), .int .i64 ((k : Nat) : Int), u15, u16, u17, u18, u19, u20, u21, u22, u23, u24, u25, u26, u27, u28, u29, u30, u31, u32, u33, u34, u35, u36, u37, u38, u39, u40, u41, u42, u43, u44, u45, u46, u47, u48, u49, u50, u51, u52, u53, u54, u55, u56, u57, u58, undef], defers := Ds.map mark } ∧ k ≤ l0.length ∧ BD w w1.heap.size (showL (l0.take k)) Ds w') (fun a w' => l0.length - (intOf (a.tmps.getD 14 undef)).toNat) ?h0 ?round
  case h0 => exact ⟨0, [], _, _, _, _, _, _, _, _, _, _, _, _, _, _, _, _, _, _, _, _, _, _, _, _, _, _, _, _, _, _, _, _, _, _, _, _, _, _, _, _, _, _, _, _, _, _, _, rfl, Nat.zero_le _, HBD.out⟩
  case round =>
    clear HBD
    intro a wr hI
    obtain ⟨k, Ds, hI⟩ := hI
    obtain ⟨u6, hI⟩ := hI
    obtain ⟨u7, hI⟩ := hI
    obtain ⟨u8, hI⟩ := hI
    obtain ⟨u15, hI⟩ := hI
    obtain ⟨u16, hI⟩ := hI
    obtain ⟨u17, hI⟩ := hI
    obtain ⟨u18, hI⟩ := hI
    obtain ⟨u19, hI⟩ := hI
    obtain ⟨u20, hI⟩ := hI
    obtain ⟨u21, hI⟩ := hI
    obtain ⟨u22, hI⟩ := hI
    obtain ⟨u23, hI⟩ := hI
    obtain ⟨u24, hI⟩ := hI
    obtain ⟨u25, hI⟩ := hI
    obtain ⟨u26, hI⟩ := hI
    obtain ⟨u27, hI⟩ := hI
    obtain ⟨u28, hI⟩ := hI
    obtain ⟨u29, hI⟩ := hI
    obtain ⟨u30, hI⟩ := hI
    obtain ⟨u31, hI⟩ := hI
    obtain ⟨u32, hI⟩ := hI
    obtain ⟨u33, hI⟩ := hI
    obtain ⟨u34, hI⟩ := hI
    obtain ⟨u35, hI⟩ := hI
    obtain ⟨u36, hI⟩ := hI
    obtain ⟨u37, hI⟩ := hI
    obtain ⟨u38, hI⟩ := hI
    obtain ⟨u39, hI⟩ := hI
    obtain ⟨u40, hI⟩ := hI
    obtain ⟨u41, hI⟩ := hI
    obtain ⟨u42, hI⟩ := hI
    obtain ⟨u43, hI⟩ := hI
    obtain ⟨u44, hI⟩ := hI
    obtain ⟨u45, hI⟩ := hI
    obtain ⟨u46, hI⟩ := hI
    obtain ⟨u47, hI⟩ := hI
    obtain ⟨u48, hI⟩ := hI
    obtain ⟨u49, hI⟩ := hI
    obtain ⟨u50, hI⟩ := hI
    obtain ⟨u51, hI⟩ := hI
    obtain ⟨u52, hI⟩ := hI
    obtain ⟨u53, hI⟩ := hI
    obtain ⟨u54, hI⟩ := hI
    obtain ⟨u55, hI⟩ := hI
    obtain ⟨u56, hI⟩ := hI
    obtain ⟨u57, hI⟩ := hI
    obtain ⟨u58, hI⟩ := hI
    obtain ⟨rfl, hk, hbd⟩ := hI
    have HBD := Aside0.mk hbd
    clear hbd
    by_cases hlt : k < l0.length
    · obtain ⟨ad, A1, c1, rfl, hx0, hx1, hl1, hi1⟩ := at_T28 HA.out (k : Int) (by omega) (by omega)
      rw [Int.toNat_natCast] at hx0 hx1
      have hX : l0[k]? = some (rd_T28 l0 (k : Int)) := by
        unfold rd_T28
        rw [Int.toNat_natCast, List.getD_eq_getElem?_getD, List.getElem?_eq_getElem hlt]
        rfl
      have HPL := Aside0.mk (part_len l0 k hlt _ hX)
      have HST := Aside0.mk (showL_take l0 k _ hX)
      have hm := List.mem_of_getElem? hX
      have hPr := HS.out.proc _ hm
      have hPl := (HW.out.proc _ hm).1
      clear hm hX
      generalize rd_T28 l0 (k : Int) = p at *
      obtain ⟨p0, pl⟩ := p
      dsimp only at *
      obtain ⟨xs, hxs, hXI, hXL⟩ := ins_list hi1
      have hxl : xs.length = pl.length := by rw [← hxs, List.length_map]
      have hbel := HBD.out.below
      have hy0 := (hbel.cell (World.block_lt_of_cell? w _ hx0)).trans hx0
      have hy1 := (hbel.cell (World.block_lt_of_cell? w _ hx1)).trans hx1
      have HTOT := Aside0.mk HS.out.tot
      have hpre := HPL.out 0
      have HXI := Aside0.mk hXI
      have HXL := Aside0.mk hXL
      have HP0 := Aside0.mk hPr.1
      have HPX := Aside0.mk hPr.2
      have HXS := Aside0.mk hxs
      have HPLN := Aside0.mk hPl
      have HXLN := Aside0.mk hxl
      have hw1 : wrap64 ((k : Int) + 1) = ((k + 1 : Nat) : Int) := by unfold wrap64; omega
      have hbs : w.heap.size ≤ wr.heap.size := hbel.size
      have HBEL := Aside0.mk hbel
      have HIT := Aside0.mk (show Vd.strconv_Itoa.f p0 = some (itB p0) by unfold Vd.strconv_Itoa.f; rw [if_pos hPr.1]; rfl)
      have HHD := Aside0.mk (show (lineL [⟨#[112, 114, 111, 99]⟩, itB p0]).length + (showL (l0.take k)).length ≤ 17592186044416 by
        have h1 := HTOT.out
        unfold headP at hpre
        simp only [List.length_append] at hpre
        omega)
      clear hx0 hx1 hi1 hXI hXL hPr hPl hxs hxl hbel hpre hl1
      have HW1 := Aside0.mk (Below.alloc (Below.refl wr.heap.size wr) (Nat.le_refl _) (.cells #[.int .i64 p0, .slice A1 pl.length c1] 28))
      have hpb := heap_alloc_new wr (.cells #[.int .i64 p0, .slice A1 pl.length c1] 28)
      have HPB := Aside0.mk hpb
      clear hpb
      gi_wp2_with (first
        | (gi_at_call 29; refine (callsIn_wide.2 (Vd.strconv_Itoa.calls p0 (itB p0) _ (HL.out.below (HBEL.out.alloc hbs _)) HIT.out)).mono ?_; rintro e w2 ⟨rfl, hb2⟩; have HB2 := Aside0.mk (below_step HW1.out hb2); have HPB2 := Aside0.mk ((hb2.block wr.heap.size (by simp)).trans HPB.out); clear hb2)
        | (gi_at_call 28; refine (callsIn_wide.2 (Vd.line_calls w2.heap.size 0 2 [⟨#[112, 114, 111, 99]⟩, itB p0] _ (two_cells (heap_alloc_new w2 _)) (by simp) (by simp) (by simp) (by have := HHD.out; unfold lineL at this; rw [List.length_append] at this; omega))).mono ?_; rintro e w3 ⟨rfl, hb3⟩; have HB3 := Aside0.mk (below_step (HB2.out.alloc HB2.out.size _) hb3); have HPB3 := Aside0.mk ((hb3.block wr.heap.size (by have := (Array.getElem?_eq_some_iff.1 HPB2.out).1; simp; omega)).trans ((Lib.alloc_old w2 _ wr.heap.size (Array.getElem?_eq_some_iff.1 HPB2.out).1).trans HPB2.out)); clear hb3)
        | (gi_at_call 27; refine (callsIn_wide.2 (HBD.out.string2 (Vd.lineS [⟨#[112, 114, 111, 99]⟩, itB p0]) (by rw [lineS_size]; have := HHD.out; omega) HB3.out)).mono ?_; rintro e w4 ⟨rfl, hbd4, hs4, hk4⟩; have HPB4 := Aside0.mk ((hk4 wr.heap.size (Nat.le_refl _) (Array.getElem?_eq_some_iff.1 HPB3.out).1).trans HPB3.out); rw [lineS_list] at hbd4; have HBD4 := Aside0.mk hbd4; have c40 : w4.cell? ⟨wr.heap.size, 0, none⟩ = some (.int .i64 p0) := (Lib.cell_of_heap HPB4.out 0); have c41 : w4.cell? ⟨wr.heap.size, 1, none⟩ = some (.slice A1 pl.length c1) := (Lib.cell_of_heap HPB4.out 1); clear hbd4 hs4 hk4)
        | (gi_at_call 30; refine (callsIn_wide.2 (all_calls _ _ rfl)).mono ?_; rintro e w' ⟨rfl, rfl⟩))
      have HXI2 := Aside0.mk (fun W (hb : Below w.heap.size w W) => (show ∀ kk, kk < xs.length → ∃ a1, A1 = some a1 ∧ InsFact W (a1.add (kk * 8)) (xs.getD kk ze) from fun kk hkk => by
        obtain ⟨a1, e1, hi⟩ := HXI.out kk hkk
        exact ⟨a1, e1, hi.chg (fun a v h => (hb.cell (World.block_lt_of_cell? w _ h)).trans h)⟩))
      clear HXI hy0 hy1 c40 c41 HPB4 HPB3 HPB2 HPB
      have HFL := Aside0.mk (show flat [(⟨p0, A1, c1, xs⟩ : PD)] = xs from by simp [flat])
      obtain ⟨O, hsh, hO⟩ := ShI.start (flat [(⟨p0, A1, c1, xs⟩ : PD)]) HBD4.out
      have hb4 : Below w.heap.size w w4 := HBD4.out.below
      have hs4 : w.heap.size ≤ w4.heap.size := hb4.size
      obtain ⟨W6, hW6⟩ : ∃ W6, (w4.alloc (.cells #[.int .i64 p0, .slice A1 pl.length c1] 28)).alloc (.cells #[.slice (some ⟨w4.heap.size, 0, none⟩) 1 1] 22) = W6 := ⟨_, rfl⟩
      have hs6 : W6.heap.size = w4.heap.size + 2 := by rw [← hW6]; simp
      have hc6 : Chg (fun _ => False) w4 W6 := by rw [← hW6]; exact ((Chg.refl _ w4).alloc _).alloc _
      have hp6 : W6.heap[w4.heap.size]? = some (.cells #[.int .i64 p0, .slice A1 pl.length c1] 28 (0, 0)) := by
        rw [← hW6]
        simp only [alloc_at, World.size_alloc]; simp (disch := omega) [if_pos, if_neg]
      have hq6 : W6.heap[w4.heap.size + 1]? = some (.cells #[.slice (some ⟨w4.heap.size, 0, none⟩) 1 1] 22 (0, 0)) := by
        rw [← hW6]
        simp only [alloc_at, World.size_alloc]; simp (disch := omega) [if_pos, if_neg]
      have hI0 := ShI.abide _ _ _ _ _ _ O w4 W6 _ hsh hc6 (fun i hi => hi.elim)
      have hb6 : Below w.heap.size w W6 := hb4.trans (hc6.below hs4 (fun i hi => hi.elim))
      have hA : ∀ W, Chg (fun i => w.heap.size ≤ i ∧ ¬ (i = w4.heap.size ∨ i = w4.heap.size + 1)) W6 W → AllFact W (some ⟨w4.heap.size, 0, none⟩) [(⟨p0, A1, c1, xs⟩ : PD)] := fun W hc => by
        have hbW : Below w.heap.size w W := hb6.trans (hc.below (by omega) (fun i hi => hi.1))
        have hpW := hc.blk hp6 (fun h => h.2 (.inl rfl))
        refine ⟨by simp, fun j hj => ⟨_, rfl, ?_⟩⟩
        obtain rfl : j = 0 := by simp at hj; omega
        refine ⟨Lib.cell_of_heap hpW 0, ?_, ?_, HXI2.out W hbW⟩
        · have := Lib.cell_of_heap hpW 1
          show W.cell? ⟨w4.heap.size, 0 + 0 * 2 + 1, none⟩ = some (.slice A1 xs.length c1)
          rw [HXLN.out]
          exact this
        · show xs.length ≤ _
          rw [HXLN.out]; exact HPLN.out
      have hit := all1_iter w.heap.size (fun i => i = w4.heap.size ∨ i = w4.heap.size + 1) W6 (w4.heap.size + 1) (some ⟨w4.heap.size, 0, none⟩) 1 [(⟨p0, A1, c1, xs⟩ : PD)] (Lib.cell_of_heap hq6 0) (.inr rfl) (fun i hi => by rcases hi with rfl | rfl <;> omega) (by omega) hA
      rw [hW6]
      clear hW6 hA hp6 hq6 hsh hc6 hb4
      refine wp_rangeFunc_go (gf := 81) (lb := #[.pointer (some ⟨w4.heap.size + 1, 0, none⟩)]) rfl (enters_of Tryz.func81 (by kernel_rfl) rfl) hit (fun _ => rfl) O (by omega) (fun i hi => by have := hO i hi; exact ⟨this.1, by omega, by omega⟩) (fun i hi => by rcases hi with rfl | rfl <;> omega) (Chg.refl _ _)
        (ShI w w1.heap.size Ds _ (flat [(⟨p0, A1, c1, xs⟩ : PD)])) (fun _ _ _ _ => False) (fun k => ShI.abide _ _ _ _ _ k) (fun _ _ _ _ _ _ h _ _ => h) hI0 ?round2 ?done2 ?stop2
      case stop2 => exact fun D k c O1 W _ _ _ h _ => h.elim
      case round2 =>
        intro l0' kk x O1 W K hx hi hb hK
        obtain ⟨⟨x0, x1, x2, x3, x4, x5, x6, x7⟩, A7, c7⟩ := x
        dsimp only [encX, insV]
        gi_wp2
        refine hK _ _ _ ((Chg.refl _ _).alloc _) (grow_alloc hb _) (hi.alloc _) ?_
        have hn4 := heap_alloc_new W (.cells #[.int .i64 x0, .int .i64 x1, .int .i64 x2, .int .i64 x3, .int .i64 x4, .string x5, .int .i64 x6, .slice A7 x7.length c7] 31)
        have HX := Aside0.mk hx
        clear hi hK hb hx
        intro l T Wb hc hT hOb hll hnl hrec hi
        have hn5 := hc.blk hn4 (fun ht => (hT _ ht).2 (.inr rfl))
        have hbwb : Below w.heap.size w Wb := hi.bel
        have HWB := Aside0.mk hbwb
        have hwbs : w.heap.size ≤ Wb.heap.size := hbwb.size
        have HXF := Aside0.mk (show xs[kk]? = some (⟨x0, x1, x2, x3, x4, x5, x6, x7⟩, A7, c7) by rw [← HFL.out]; exact HX.out)
        have hmx := List.mem_of_getElem? HXF.out
        have hlf := HXL.out _ hmx
        have hsx := HPX.out ⟨x0, x1, x2, x3, x4, x5, x6, x7⟩ (by rw [← HXS.out]; exact List.mem_map_of_mem hmx)
        have HLF := Aside0.mk (show ∀ W', Below w.heap.size w W' → Kd.C (Kd.int .i64) W' A7 x7.length x7 from fun W' hb' => Kd.C_below hlf.1 hb')
        have hlf2 : x7.length ≤ c7 := hlf.2
        have HSX := Aside0.mk hsx
        have HD5 := Aside0.mk (digits_tells [x0, x1, x2, x3, x4] (by simp) (by
          intro n hn
          simp only [List.mem_cons, List.mem_nil_iff, or_false] at hn
          rcases hn with rfl | rfl | rfl | rfl | rfl
          · exact hsx.h0
          · exact hsx.h1
          · exact hsx.h2
          · exact hsx.h3
          · exact hsx.h4))
        have HD7 := Aside0.mk (digits_tells x7 hsx.l7 hsx.h7)
        have HF6 := Aside0.mk (show Va.strconv_FormatInt.f x6 10 = some (itB x6) by unfold Va.strconv_FormatInt.f; rw [if_pos ⟨rfl, hsx.h6⟩]; rfl)
        have HL5 := Aside0.mk hsx.l5
        have hl7 : x7.length ≤ 1000000 := hsx.l7
        have HI := Aside0.mk hi
        have HN5 := Aside0.mk hn5
        clear hmx hlf hsx hi hn5 hn4 hrec hT hc
        have HSC := Aside0.mk (show ∀ W', Below Wb.heap.size Wb.drew W' → W'.heap[W.heap.size]? = some (.cells #[.int .i64 x0, .int .i64 x1, .int .i64 x2, .int .i64 x3, .int .i64 x4, .string x5, .int .i64 x6, .slice A7 x7.length c7] 31 (0, 0)) from fun W' hb' =>
          (hb'.block _ (Array.getElem?_eq_some_iff.1 HN5.out).1).trans HN5.out)
        have HSS := Aside0.mk (show ∀ W', Below Wb.heap.size Wb.drew W' → (W'.cell? ⟨W.heap.size, 0, none⟩ = some (.int .i64 x0) ∧ W'.cell? ⟨W.heap.size, 1, none⟩ = some (.int .i64 x1) ∧ W'.cell? ⟨W.heap.size, 2, none⟩ = some (.int .i64 x2) ∧ W'.cell? ⟨W.heap.size, 3, none⟩ = some (.int .i64 x3) ∧ W'.cell? ⟨W.heap.size, 4, none⟩ = some (.int .i64 x4) ∧ W'.cell? ⟨W.heap.size, 6, none⟩ = some (.int .i64 x6)) from fun W' hb' => ⟨Lib.cell_of_heap (HSC.out W' hb') 0, Lib.cell_of_heap (HSC.out W' hb') 1, Lib.cell_of_heap (HSC.out W' hb') 2, Lib.cell_of_heap (HSC.out W' hb') 3, Lib.cell_of_heap (HSC.out W' hb') 4, Lib.cell_of_heap (HSC.out W' hb') 6⟩)
        have HBW := Aside0.mk (show Below w.heap.size w Wb.drew from below_drew HWB.out)
        have HBD2 := Aside0.mk (show Below Wb.heap.size Wb Wb.drew from below_drew (Below.refl _ _))
        have hsz0 : Wb.drew.heap.size = Wb.heap.size := rfl
        gi_wp2_with fail
        refine startIn_ (n := 18) (S := fun W' => W'.cell? ⟨W.heap.size, 0, none⟩ = some (.int .i64 x0) ∧ W'.cell? ⟨W.heap.size, 1, none⟩ = some (.int .i64 x1) ∧ W'.cell? ⟨W.heap.size, 2, none⟩ = some (.int .i64 x2) ∧ W'.cell? ⟨W.heap.size, 3, none⟩ = some (.int .i64 x3) ∧ W'.cell? ⟨W.heap.size, 4, none⟩ = some (.int .i64 x4) ∧ W'.cell? ⟨W.heap.size, 6, none⟩ = some (.int .i64 x6)) (ds := []) #[false, false, false, false, false, false, false, false, false, false, false, false, false, false, false, false, false, false] (by kernel_rfl) rfl rfl (by kernel_rfl) (fun ⟨a_, w_, h_⟩ => h_) (HSS.out _ (Below.refl _ _)) (fun hHeld => ?_)
        refine with_tabW shwtab10 shwbits10 (fun HT_ HW_ => ?_)
        refine pure_ (i := 0) (N := some 28) (v := ?_) (a' := ?_) #[true, false, false, false, false, false, false, false, false, false, false, false, false, false, false, false, false, false] rfl rfl (any_of HT_.out (by kernel_rfl)) (fun _ _ _ h => h) (Or.inl ⟨by rfl, ?_⟩) ?_ ?_
        rotate_left
        · intro w'
          first | (go_simp; with_reducible rfl)
        rotate_left
        · simp only [Act.put, List.setIfInBounds_toArray, List.set_cons_zero, List.set_cons_succ, i64_w, i32_w]
          rfl
        refine take_ (i := 1) (N := some 29) (v := ?_) (a' := ?_) #[true, true, false, false, false, false, false, false, false, false, false, false, false, false, false, false, false, false] rfl rfl (take_ofW HT_.out HW_.out (by kernel_rfl)) (fun _ _ _ h => h) (Or.inl ⟨by rfl, ?_⟩) hHeld ?_ ?_
        rotate_left
        · rintro w' ⟨s0, s1, s2, s3, s4, s5⟩
          first | (go_simp; with_reducible rfl)
        rotate_left
        · simp only [Act.put, List.setIfInBounds_toArray, List.set_cons_zero, List.set_cons_succ, i64_w, i32_w]
          rfl
        refine pure_ (i := 2) (N := some 30) (v := ?_) (a' := ?_) #[true, true, true, false, false, false, false, false, false, false, false, false, false, false, false, false, false, false] rfl rfl (any_of HT_.out (by kernel_rfl)) (fun _ _ _ h => h) (Or.inl ⟨by rfl, ?_⟩) ?_ ?_
        rotate_left
        · intro w'
          first | (go_simp; with_reducible rfl)
        rotate_left
        · simp only [Act.put, List.setIfInBounds_toArray, List.set_cons_zero, List.set_cons_succ, i64_w, i32_w]
          rfl
        refine take_ (i := 3) (N := some 31) (v := ?_) (a' := ?_) #[true, true, true, true, false, false, false, false, false, false, false, false, false, false, false, false, false, false] rfl rfl (take_ofW HT_.out HW_.out (by kernel_rfl)) (fun _ _ _ h => h) (Or.inl ⟨by rfl, ?_⟩) hHeld ?_ ?_
        rotate_left
        · rintro w' ⟨s0, s1, s2, s3, s4, s5⟩
          first | (go_simp; with_reducible rfl)
        rotate_left
        · simp only [Act.put, List.setIfInBounds_toArray, List.set_cons_zero, List.set_cons_succ, i64_w, i32_w]
          rfl
        refine pure_ (i := 4) (N := some 32) (v := ?_) (a' := ?_) #[true, true, true, true, true, false, false, false, false, false, false, false, false, false, false, false, false, false] rfl rfl (any_of HT_.out (by kernel_rfl)) (fun _ _ _ h => h) (Or.inl ⟨by rfl, ?_⟩) ?_ ?_
        rotate_left
        · intro w'
          first | (go_simp; with_reducible rfl)
        rotate_left
        · simp only [Act.put, List.setIfInBounds_toArray, List.set_cons_zero, List.set_cons_succ, i64_w, i32_w]
          rfl
        refine take_ (i := 5) (N := some 33) (v := ?_) (a' := ?_) #[true, true, true, true, true, true, false, false, false, false, false, false, false, false, false, false, false, false] rfl rfl (take_ofW HT_.out HW_.out (by kernel_rfl)) (fun _ _ _ h => h) (Or.inl ⟨by rfl, ?_⟩) hHeld ?_ ?_
        rotate_left
        · rintro w' ⟨s0, s1, s2, s3, s4, s5⟩
          first | (go_simp; with_reducible rfl)
        rotate_left
        · simp only [Act.put, List.setIfInBounds_toArray, List.set_cons_zero, List.set_cons_succ, i64_w, i32_w]
          rfl
        refine pure_ (i := 6) (N := some 34) (v := ?_) (a' := ?_) #[true, true, true, true, true, true, true, false, false, false, false, false, false, false, false, false, false, false] rfl rfl (any_of HT_.out (by kernel_rfl)) (fun _ _ _ h => h) (Or.inl ⟨by rfl, ?_⟩) ?_ ?_
        rotate_left
        · intro w'
          first | (go_simp; with_reducible rfl)
        rotate_left
        · simp only [Act.put, List.setIfInBounds_toArray, List.set_cons_zero, List.set_cons_succ, i64_w, i32_w]
          rfl
        refine take_ (i := 7) (N := some 35) (v := ?_) (a' := ?_) #[true, true, true, true, true, true, true, true, false, false, false, false, false, false, false, false, false, false] rfl rfl (take_ofW HT_.out HW_.out (by kernel_rfl)) (fun _ _ _ h => h) (Or.inl ⟨by rfl, ?_⟩) hHeld ?_ ?_
        rotate_left
        · rintro w' ⟨s0, s1, s2, s3, s4, s5⟩
          first | (go_simp; with_reducible rfl)
        rotate_left
        · simp only [Act.put, List.setIfInBounds_toArray, List.set_cons_zero, List.set_cons_succ, i64_w, i32_w]
          rfl
        refine pure_ (i := 8) (N := some 36) (v := ?_) (a' := ?_) #[true, true, true, true, true, true, true, true, true, false, false, false, false, false, false, false, false, false] rfl rfl (any_of HT_.out (by kernel_rfl)) (fun _ _ _ h => h) (Or.inl ⟨by rfl, ?_⟩) ?_ ?_
        rotate_left
        · intro w'
          first | (go_simp; with_reducible rfl)
        rotate_left
        · simp only [Act.put, List.setIfInBounds_toArray, List.set_cons_zero, List.set_cons_succ, i64_w, i32_w]
          rfl
        refine take_ (i := 9) (N := some 37) (v := ?_) (a' := ?_) #[true, true, true, true, true, true, true, true, true, true, false, false, false, false, false, false, false, false] rfl rfl (take_ofW HT_.out HW_.out (by kernel_rfl)) (fun _ _ _ h => h) (Or.inl ⟨by rfl, ?_⟩) hHeld ?_ ?_
        rotate_left
        · rintro w' ⟨s0, s1, s2, s3, s4, s5⟩
          first | (go_simp; with_reducible rfl)
        rotate_left
        · simp only [Act.put, List.setIfInBounds_toArray, List.set_cons_zero, List.set_cons_succ, i64_w, i32_w]
          rfl
        refine pure_ (i := 12) (N := some 40) (v := ?_) (a' := ?_) #[true, true, true, true, true, true, true, true, true, true, false, false, true, false, false, false, false, false] rfl rfl (any_of HT_.out (by kernel_rfl)) (fun _ _ _ h => h) (Or.inl ⟨by rfl, ?_⟩) ?_ ?_
        rotate_left
        · intro w'
          first | (go_simp; with_reducible rfl)
        rotate_left
        · simp only [Act.put, List.setIfInBounds_toArray, List.set_cons_zero, List.set_cons_succ, i64_w, i32_w]
          rfl
        refine take_ (i := 13) (N := some 41) (v := ?_) (a' := ?_) #[true, true, true, true, true, true, true, true, true, true, false, false, true, true, false, false, false, false] rfl rfl (take_ofW HT_.out HW_.out (by kernel_rfl)) (fun _ _ _ h => h) (Or.inl ⟨by rfl, ?_⟩) hHeld ?_ ?_
        rotate_left
        · rintro w' ⟨s0, s1, s2, s3, s4, s5⟩
          first | (go_simp; with_reducible rfl)
        rotate_left
        · simp only [Act.put, List.setIfInBounds_toArray, List.set_cons_zero, List.set_cons_succ, i64_w, i32_w]
          rfl
        refine one_ (i := 10) (N := some 38) #[true, true, true, true, true, true, true, true, true, true, true, false, true, true, false, false, false, false] rfl rfl (one_of HT_.out (by kernel_rfl)) (by decide) (fun K hK => ?_)
        refine Kd.R_lit_step (Kd.int .i64) _ 3 (by rfl) (N := 38) rfl (xs := ([x0, x1, x2, x3, x4] : List Int)) (inner := [.int .i64 x0, .int .i64 x1, .int .i64 x2, .int .i64 x3, .int .i64 x4]) (ok := fun _ => True) (okp := fun _ => True) ?hr ?hp (fun _ hk => hk) trivial (Below.refl _ _) (Nat.le_refl _) (by simp) ?_
        case hr => first | (go_simp; done) | (go_simp; rfl)
        case hp => exact Kd.reps_scalar ([x0, x1, x2, x3, x4] : List Int)
        intro vm W3 ho hb hg_ hnew_
        clear hg_ hnew_
        obtain ⟨Am, cm, hvm⟩ := Kd.R_slice ho
        subst hvm
        have HM := Aside0.mk (Kd.R_reads' ho).2
        have HB3 := Aside0.mk hb
        clear ho hb
        refine hK.out _ _ (HSS.out _ HB3.out) (fun hHeld => ?_)
        clear hK K
        refine norm_ (a' := ?_) ?_ ?_
        rotate_left
        · show Act.put _ (some 38) _ = _
          simp only [Act.put, List.setIfInBounds_toArray, List.set_cons_zero, List.set_cons_succ, i64_w, i32_w]
          rfl
        refine one_ (i := 11) (N := some 39) #[true, true, true, true, true, true, true, true, true, true, true, true, true, true, false, false, false, false] rfl rfl (one_of HT_.out (by kernel_rfl)) (by decide) (fun K hK => ?_)
        refine goes_ Tryz.func31 (by kernel_rfl) rfl #[.slice Am (5 : Nat) cm] (by rfl) rfl rfl (by (try simp only [List.map_toArray, List.map_cons, List.map_nil]); first | done | rfl) ?_
        refine (Ps.code_digits.calls _ Am cm [x0, x1, x2, x3, x4] ([x0, x1, x2, x3, x4].map itB) _ (HL.out.below (HBW.out.trans (HB3.out.mono (by simpa using hwbs)))) HM.out.2 HM.out.1 HD5.out).mono ?_
        rintro e W4 ⟨v39, rfl, hr4, hb⟩
        refine ⟨_, rfl, ?_⟩
        have HR4 := Aside0.mk (Kd.R_lower hr4 HB3.out.size)
        have HB4 := Aside0.mk (below_step HB3.out hb)
        clear hr4 hb HB3
        refine hK.out _ _ (HSS.out _ HB4.out) (fun hHeld => ?_)
        clear hK K
        refine norm_ (a' := ?_) ?_ ?_
        rotate_left
        · show Act.put _ (some 39) _ = _
          simp only [Act.put, List.setIfInBounds_toArray, List.set_cons_zero, List.set_cons_succ, i64_w, i32_w]
          rfl
        refine one_ (i := 14) (N := some 42) #[true, true, true, true, true, true, true, true, true, true, true, true, true, true, true, false, false, false] rfl rfl (one_of HT_.out (by kernel_rfl)) (by decide) (fun K hK => ?_)
        refine goes_ Tryz.func32 (by kernel_rfl) rfl #[.int .i64 x6, .int .i64 10] (by rfl) rfl rfl (by (try simp only [List.map_toArray, List.map_cons, List.map_nil]); first | done | rfl) ?_
        refine (Va.strconv_FormatInt.calls x6 10 (itB x6) _ (HL.out.below (HBW.out.trans (HB4.out.mono (by simpa using hwbs)))) HF6.out).mono ?_
        rintro e W5 ⟨rfl, hb⟩
        refine ⟨_, rfl, ?_⟩
        have HR5 := Aside0.mk (Kd.R_below HR4.out hb)
        have HB5 := Aside0.mk (below_step HB4.out hb)
        clear hb HB4 HR4
        refine hK.out _ _ (HSS.out _ HB5.out) (fun hHeld => ?_)
        clear hK K
        refine norm_ (a' := ?_) ?_ ?_
        rotate_left
        · show Act.put _ (some 42) _ = _
          simp only [Act.put, List.setIfInBounds_toArray, List.set_cons_zero, List.set_cons_succ, i64_w, i32_w]
          rfl
        refine one_ (i := 15) (N := some 43) #[true, true, true, true, true, true, true, true, true, true, true, true, true, true, true, true, false, false] rfl rfl (one_of HT_.out (by kernel_rfl)) (by decide) (fun K hK => ?_)
        refine Kd.R_lit_step Kd.string _ 9 (by rfl) (N := 43) rfl (xs := ([itB x6] : List ByteArray)) (inner := [.string (itB x6)]) (ok := fun _ => True) (okp := fun _ => True) ?hr ?hp (fun _ hk => hk) trivial (Below.refl _ _) (Nat.le_refl _) (by simp) ?_
        case hr => first | (go_simp; done) | (go_simp; rfl)
        case hp => exact Reps.snoc (Reps.none _ _) rfl rfl
        intro vq W7 ho hb hg_ hnew_
        clear hg_ hnew_
        obtain ⟨Aq, cq, hvq⟩ := Kd.R_slice ho
        subst hvq
        have HQ := Aside0.mk (Kd.R_reads' ho).2.2
        have HR7 := Aside0.mk (Kd.R_below HR5.out hb)
        have HB7 := Aside0.mk (below_step HB5.out hb)
        clear ho hb HB5 HR5
        refine hK.out _ _ (HSS.out _ HB7.out) (fun hHeld => ?_)
        clear hK K
        refine norm_ (a' := ?_) ?_ ?_
        rotate_left
        · show Act.put _ (some 43) _ = _
          simp only [Act.put, List.setIfInBounds_toArray, List.set_cons_zero, List.set_cons_succ, i64_w, i32_w]
          rfl
        refine one_ (i := 16) (N := some 44) #[true, true, true, true, true, true, true, true, true, true, true, true, true, true, true, true, true, false] rfl rfl (one_of HT_.out (by kernel_rfl)) (by decide) (fun K hK => ?_)
        refine Kd.R_append_rows_step Kd.string (w0 := Wb.drew) Wb.drew.heap.size (by rfl) (.tmp 39) (.tmp 43) 65 9 (.string ByteArray.empty) 16 rfl Tryz.underlying65 infoS rfl (by decide) (by omega) v39 ([x0, x1, x2, x3, x4].map itB) [itB x6] _ _ _ (fun _ => True) (fun _ => False) rfl rfl HR7.out HQ.out (fun _ _ h => h) (fun _ h => h.elim) (fun _ _ => trivial) HB7.out HB7.out.size (by simp) ?_
        intro v44 W8 ho hb hg hat
        have HR8 := Aside0.mk (Kd.own_of_R ho)
        have HB8 := Aside0.mk hb
        clear ho hb hg hat HB7 HR7
        refine hK.out _ _ (HSS.out _ HB8.out) (fun hHeld => ?_)
        clear hK K
        refine norm_ (a' := ?_) ?_ ?_
        rotate_left
        · show Act.put _ (some 44) _ = _
          simp only [Act.put, List.setIfInBounds_toArray, List.set_cons_zero, List.set_cons_succ, i64_w, i32_w]
          rfl
        refine pure_ (i := 17) (N := some 8) (v := ?_) (a' := ?_) #[true, true, true, true, true, true, true, true, true, true, true, true, true, true, true, true, true, true] rfl rfl (any_of HT_.out (by kernel_rfl)) (fun _ _ _ h => h) (Or.inl ⟨by rfl, ?_⟩) ?_ ?_
        rotate_left
        · intro w'
          first | (go_simp; with_reducible rfl)
        rotate_left
        · simp only [Act.put, List.setIfInBounds_toArray, List.set_cons_zero, List.set_cons_succ, i64_w, i32_w]
          rfl
        refine done_ (done_of HT_.out (by kernel_rfl)) ?_
        obtain ⟨A8, n8, c8, hv8⟩ : ∃ A1 n1 c1, v44 = .slice A1 n1 c1 := own_slice HR8.out
        subst hv8
        have HLEN := Aside0.mk (text_len HPL.out HTOT.out HXS.out HFL.out kk _ HX.out)
        have c87 : W8.cell? ⟨W.heap.size, 7, none⟩ = some (.slice A7 x7.length c7) := Lib.cell_of_heap (HSC.out _ HB8.out) 7
        have HCB := Aside0.mk (show ∀ W', Below Wb.drew.heap.size Wb.drew W' → Below w.heap.size w W' from fun W' hb' => HBW.out.trans (hb'.mono (by simpa using hwbs)))
        clear HSS HD5 HF6 hHeld
        obtain ⟨zs, hzs⟩ : ∃ zs, zs = insW ⟨x0, x1, x2, x3, x4, x5, x6, x7⟩ := ⟨_, rfl⟩
        have HZJ := Aside0.mk (show (Lib.join (zs.map (·.data.toList)) [32]).length ≤ 140737488355328 by rw [hzs]; exact HLEN.out.2)
        have HZL := Aside0.mk (show zs.length ≤ 140737488355328 by rw [hzs]; simp [insW]; omega)
        have HZS := Aside0.mk (show (Vd.lineS zs).data.toList = showI ⟨x0, x1, x2, x3, x4, x5, x6, x7⟩ by rw [lineS_list, hzs]; rfl)
        have HZ := Aside0.mk hzs
        clear hzs
        gi_wp2_with (first
          | (gi_at_call 31; refine (CallsIn.inRound l (callsIn_wide.2 (Ps.code_digits.calls _ A7 c7 x7 (x7.map itB) _ (HL.out.below (HCB.out _ HB8.out)) (HLF.out _ (HCB.out _ HB8.out)) hlf2 HD7.out))).mono ?_; rintro e W9 ⟨v48, rfl, hr9, hb⟩; obtain ⟨A9, c9, hv9⟩ := Kd.R_slice hr9; subst hv9; have HQ9 := Aside0.mk (show Kd.C Kd.string W9 A9 x7.length (x7.map itB) from by have h_ := (Kd.R_reads' hr9).2.2; rw [List.length_map] at h_; exact h_); have HO9 := Aside0.mk (own_below HR8.out hb); have HB9 := Aside0.mk (below_step HB8.out hb); clear hr9 hb HB8 HR8 HD7)
          | (gi_at_builtin; refine appendS_in Wb.drew rfl _ _ rfl (.slice A8 n8 c8) _ (x7.map itB) A9 x7.length _ rfl rfl HO9.out HQ9.out HB9.out (by simp; omega) ?_; intro v1 W10 ho hb ⟨A10, n10, c10, hv10⟩; subst hv10; have HO10 := Aside0.mk ho; have HB10 := Aside0.mk hb; have c105 : W10.cell? ⟨W.heap.size, 5, none⟩ = some (.string x5) := Lib.cell_of_heap (HSC.out _ hb) 5; clear ho hb HQ9 HO9 HB9)
          | (gi_at_call 33; refine (CallsIn.inRound l (callsIn_wide.2 (quote_calls x5 _ (by have := HL5.out; omega)))).mono ?_; rintro e W11 ⟨rfl, hb⟩; have HO11 := Aside0.mk (own_below HO10.out hb); have HB11 := Aside0.mk (below_step HB10.out hb); clear hb HO10 HB10)
          | (gi_at_builtin; refine appendS_in Wb.drew rfl _ _ rfl (.slice A10 n10 c10) _ [quB x5] (some ⟨W11.heap.size, 0, none⟩) 1 _ rfl rfl (own_below HO11.out (below_alloc (Below.refl _ _) _)) (one_C (Lib.cell_of_heap (heap_alloc_new W11 _) 0)) (HB11.out.alloc HB11.out.size _) (by simp; omega) ?_; intro v1 W12 ho hb _; have ho2 : OwnS W12 Wb.drew.heap.size v1 zs := (by rw [HZ.out]; exact ho); obtain ⟨g12, c12, hv12, hg12, hl12, hc12⟩ := own_cells ho2 (by rw [HZ.out]; simp [insW]); subst hv12; have HC12 := Aside0.mk hc12; have HB12 := Aside0.mk hb; clear ho ho2 hb hc12 HO11 HB11)
          | (gi_at_call 28; refine (CallsIn.inRound l (callsIn_wide.2 (Vd.line_calls g12 0 c12 zs _ HC12.out hg12 HZL.out hl12 HZJ.out))).mono ?_; rintro e W13 ⟨rfl, hb⟩; have HB13 := Aside0.mk (below_step HB12.out hb); clear hb HB12 HC12)
          | (gi_at_call 27; refine (CallsIn.inRound l (callsIn_wide.2 (HI.out.write hOb _ HX.out (Vd.lineS zs) HZS.out HLEN.out.1 (HBD2.out.trans (HB13.out.mono (by simp)))))).mono ?_; rintro e W14 ⟨rfl, hfin⟩; have HFIN := Aside0.mk hfin; clear hfin))
        exact HFIN.out
      case done2 =>
        intro D O1 W hD hnD hi hK
        have hfin := hi.fin (D := D) (by omega) hnD hK
        rw [HFL.out] at hfin
        have HNX := Aside0.mk (show BD w w1.heap.size (showL (l0.take (k + 1))) (D :: Ds) W from by
          have e : pl.flatMap showI = xs.flatMap (fun e => showI e.1) := by rw [← HXS.out, List.flatMap_map]
          rw [HST.out, e]
          exact hfin)
        clear hi hK hfin hnD hI0 hit
        gi_wp2
        exact ⟨⟨k + 1, D :: Ds, _, _, _, _, _, _, _, _, _, _, _, _, _, _, _, _, _, _, _, _, _, _, _, _, _, _, _, _, _, _, _, _, _, _, _, _, _, _, _, _, _, _, _, _, _, _, _, rfl, by omega, HNX.out⟩, by simp [intOf]; omega⟩
    · obtain rfl : k = l0.length := by omega
      rw [List.take_length] at HBD
      gi_wp2_with (gi_at_call 34; refine (callsIn_wide.2 HBD.out.all).mono ?_; rintro e W' ⟨rfl, hb, hnd, hds⟩; have HB2 := Aside0.mk hb; have HND := Aside0.mk hnd; have HDS := Aside0.mk hds; clear hb hnd hds HBD)
      refine leaves_marks Ds _ HND.out (fun D hD => (HDS.out D hD).2) (fun W'' hc => ?_)
      exact ⟨.tuple #[.string ⟨(showL l0).toArray⟩, .int .i64 0], by simp [results, Tryz.results14, go_sem], rfl, HB2.out.trans (hc.below HB2.out.size (fun i hi => (HDS.out i hi).1))⟩
end Go.Proofs.YtjlhhjfmekjbhaaGreatDoor.Sh

/- The reference's Quote, Show, Marks, Same and the law's Small, in closed form. No condition. -/
namespace Go.Proofs.YtjlhhjfmekjbhaaGreatDoor.Vf
open Go.RowKit Go.Proofs.YtjlhhjfmekjbhaaGreatDoorW.PrintWords Go.Proofs.YtjlhhjfmekjbhaaGreatDoorW.PrintLast Go.Proofs.YtjlhhjfmekjbhaaGreatDoorW.PrintMore Go.Proofs.YtjlhhjfmekjbhaaGreatDoor.Va Go.Proofs.YtjlhhjfmekjbhaaGreatDoor.Pq Go.Proofs.YtjlhhjfmekjbhaaGreatDoor.Cd Go.Proofs.YtjlhhjfmekjbhaaGreatDoor.Cf Go.Proofs.YtjlhhjfmekjbhaaGreatDoor.Bld Go.Proofs.YtjlhhjfmekjbhaaGreatDoor.Sh Go.Proofs.YtjlhhjfmekjbhaaGreatDoor.Ev
set_option linter.unusedVariables false
set_option linter.unusedSimpArgs false
def mkB (l : List UInt8) : ByteArray := ⟨l.toArray⟩
end Go.Proofs.YtjlhhjfmekjbhaaGreatDoor.Vf

/- The reference's Show, Marks, Same and the law's Small, in closed form. No condition. -/
namespace Go.Proofs.YtjlhhjfmekjbhaaGreatDoor.Vf
open Go.RowKit Go.Proofs.YtjlhhjfmekjbhaaGreatDoorW.PrintWords Go.Proofs.YtjlhhjfmekjbhaaGreatDoorW.PrintLast Go.Proofs.YtjlhhjfmekjbhaaGreatDoorW.PrintMore Go.Proofs.YtjlhhjfmekjbhaaGreatDoor.Va Go.Proofs.YtjlhhjfmekjbhaaGreatDoor.Pq Go.Proofs.YtjlhhjfmekjbhaaGreatDoor.Cd Go.Proofs.YtjlhhjfmekjbhaaGreatDoor.Cf Go.Proofs.YtjlhhjfmekjbhaaGreatDoor.Bld Go.Proofs.YtjlhhjfmekjbhaaGreatDoor.Sh Go.Proofs.YtjlhhjfmekjbhaaGreatDoor.Ev
set_option linter.unusedVariables false
set_option linter.unusedSimpArgs false
def showR (l : List P) : ByteArray × Int := if codeS l = true then (mkB (showL l), 0) else (⟨#[]⟩, 90)
end Go.Proofs.YtjlhhjfmekjbhaaGreatDoor.Vf

/- The reference's Same and the law's Small, in closed form. No condition. -/
namespace Go.Proofs.YtjlhhjfmekjbhaaGreatDoor.Vf
open Go.RowKit Go.Proofs.YtjlhhjfmekjbhaaGreatDoorW.PrintWords Go.Proofs.YtjlhhjfmekjbhaaGreatDoorW.PrintLast Go.Proofs.YtjlhhjfmekjbhaaGreatDoorW.PrintMore Go.Proofs.YtjlhhjfmekjbhaaGreatDoor.Va Go.Proofs.YtjlhhjfmekjbhaaGreatDoor.Pq Go.Proofs.YtjlhhjfmekjbhaaGreatDoor.Cd Go.Proofs.YtjlhhjfmekjbhaaGreatDoor.Cf Go.Proofs.YtjlhhjfmekjbhaaGreatDoor.Bld Go.Proofs.YtjlhhjfmekjbhaaGreatDoor.Sh Go.Proofs.YtjlhhjfmekjbhaaGreatDoor.Ev
set_option linter.unusedVariables false
set_option linter.unusedSimpArgs false
/-! ### Small -/
def smallX (x : X) : Bool := !decide ((x.f7.length : Int) > 20) && !decide ((x.f5.size : Int) > 100)
def smallP (p : P) : Bool := !decide ((p.f1.length : Int) > 60) && p.f1.all smallX
def smallI (l : List P) : Int := if decide ((l.length : Int) > 15) = true then 0 else if l.all smallP = true then 1 else 0
end Go.Proofs.YtjlhhjfmekjbhaaGreatDoor.Vf

/- code.Right and code.Same as contracts that hprint takes. No condition. -/
namespace Go.Proofs.YtjlhhjfmekjbhaaGreatDoor.Ve
open Go.RowKit Go.Proofs.YtjlhhjfmekjbhaaGreatDoorW.PrintWords Go.Proofs.YtjlhhjfmekjbhaaGreatDoorW.PrintLast Go.Proofs.YtjlhhjfmekjbhaaGreatDoorW.PrintMore Go.Proofs.YtjlhhjfmekjbhaaGreatDoor.Cd Go.Proofs.YtjlhhjfmekjbhaaGreatDoor.Pq
set_option linter.unusedVariables false
set_option linter.unusedSimpArgs false
abbrev Laid (w : World) : Prop := Va.Laid w
def wfX (x : S31) : Bool := (Lit.int .i64 x.f0).wf && (decide (x.f5.size ≤ maxLen) && decide (x.f7.length ≤ 140737488355328))
def wfL (l : List S28) : Bool := decide (l.length ≤ 140737488355328) && l.all fun p => decide (p.f1.length ≤ 140737488355328) && p.f1.all wfX
theorem wfX_ok {x : S31} (h : wfX x = true) : WfX x := by
  simp only [wfX, Bool.and_eq_true, decide_eq_true_eq] at h
  exact ⟨h.1, h.2.1, h.2.2⟩
theorem wfL_ok {l : List S28} (h : wfL l = true) : WfL l := by
  simp only [wfL, Bool.and_eq_true, decide_eq_true_eq, List.all_eq_true] at h
  exact ⟨h.1, fun p hp => ⟨(h.2 p hp).1, fun x hx => wfX_ok ((h.2 p hp).2 x hx)⟩⟩
def code_Right.f (l : List S28) : Option Bool := if wfL l = true then some (codeS l) else none
theorem code_Right.calls (A0 : Option Addr) (c0 : Nat) (l0 : List S28) (r : Bool) (w : World) (hL : Laid w) (hr0 : Kd.C k28 w A0 l0.length l0) (hc0 : l0.length ≤ c0) (h : code_Right.f l0 = some r) :
    Calls Tryz.prog 12 #[.slice A0 l0.length c0] w fun e w' => e = .returned (.bool r) ∧ Below w.heap.size w w' := by
  unfold code_Right.f at h
  by_cases hw : wfL l0 = true
  case neg => rw [if_neg hw] at h; cases h
  rw [if_pos hw] at h
  obtain rfl := Option.some.inj h
  exact right_calls A0 c0 l0 w hL hr0 hc0 (wfL_ok hw)
def code_Same.f (a b : List S28) : Option Bool := if wfL a = true ∧ wfL b = true then some (sameS a b) else none
end Go.Proofs.YtjlhhjfmekjbhaaGreatDoor.Ve

/- What the laws of code call, as contracts that hprint takes. No condition. -/
namespace Go.Proofs.YtjlhhjfmekjbhaaGreatDoor.Vg
open Go.RowKit Go.Proofs.YtjlhhjfmekjbhaaGreatDoorW.PrintWords Go.Proofs.YtjlhhjfmekjbhaaGreatDoorW.PrintLast Go.Proofs.YtjlhhjfmekjbhaaGreatDoorW.PrintMore Go.Proofs.YtjlhhjfmekjbhaaGreatDoor.Cd Go.Proofs.YtjlhhjfmekjbhaaGreatDoor.Cf Go.Proofs.YtjlhhjfmekjbhaaGreatDoor.Sh Go.Proofs.YtjlhhjfmekjbhaaGreatDoor.Vf
open Go.Proofs.YtjlhhjfmekjbhaaGreatDoor.Pq (S31 S28 k31 k28)
set_option linter.unusedVariables false
set_option linter.unusedSimpArgs false
abbrev Laid (w : World) : Prop := Va.Laid w
theorem Laid.below {w w' : World} (h : Laid w) (hb : Below w.heap.size w w') : Laid w' := Va.Laid.below h hb
def i64b (n : Int) : Bool := decide (-9223372036854775808 ≤ n) && decide (n ≤ 9223372036854775807)
theorem i64b_ok {n : Int} (h : i64b n = true) : B64 n := by
  simp only [i64b, Bool.and_eq_true, decide_eq_true_eq] at h
  exact h
def okX (x : X) : Bool := i64b x.f0 && (i64b x.f1 && (i64b x.f2 && (i64b x.f3 && (i64b x.f4 && (i64b x.f6 && (x.f7.all i64b && (decide (x.f7.length ≤ 100) && decide (x.f5.size ≤ 1000000))))))))
def okP (p : P) : Bool := i64b p.f0 && (decide (p.f1.length ≤ 100) && p.f1.all okX)
def okB (l : List P) : Bool := decide (l.length ≤ 100) && (l.all okP && decide ((showL l).length ≤ 17592186044416))
structure OkX (x : X) : Prop where
  sm : SmX x
  l7 : x.f7.length ≤ 100
  l5 : x.f5.size ≤ 1000000
theorem okX_ok {x : X} (h : okX x = true) : OkX x := by
  simp only [okX, Bool.and_eq_true, decide_eq_true_eq, List.all_eq_true] at h
  obtain ⟨h0, h1, h2, h3, h4, h6, h7, hl, hs⟩ := h
  exact ⟨⟨i64b_ok h0, i64b_ok h1, i64b_ok h2, i64b_ok h3, i64b_ok h4, i64b_ok h6, fun n hn => i64b_ok (h7 n hn), by omega, hs⟩, hl, hs⟩
theorem okP_ok {p : P} (h : okP p = true) : B64 p.f0 ∧ p.f1.length ≤ 100 ∧ ∀ x ∈ p.f1, OkX x := by
  simp only [okP, Bool.and_eq_true, decide_eq_true_eq, List.all_eq_true] at h
  exact ⟨i64b_ok h.1, h.2.1, fun x hx => okX_ok (h.2.2 x hx)⟩
theorem okB_all {l : List P} (h : okB l = true) : l.length ≤ 100 ∧ (∀ p ∈ l, B64 p.f0 ∧ p.f1.length ≤ 100 ∧ ∀ x ∈ p.f1, OkX x) ∧ (showL l).length ≤ 17592186044416 := by
  simp only [okB, Bool.and_eq_true, decide_eq_true_eq, List.all_eq_true] at h
  exact ⟨h.1, fun p hp => okP_ok (h.2.1 p hp), h.2.2⟩
theorem wf_of (n : Int) (h : B64 n) : (Lit.int .i64 n).wf = true := by
  have e : IntKind.i64.min = -9223372036854775808 := rfl
  simp [Lit.wf, IntKind.wrap_i64]
  rw [e]
  exact h
theorem ok_wf {l : List P} (h : okB l = true) : WfL l := by
  obtain ⟨h1, h2, h3⟩ := okB_all h
  exact ⟨by omega, fun p hp => ⟨by have := (h2 p hp).2.1; omega, fun x hx => ⟨wf_of _ ((h2 p hp).2.2 x hx).sm.h0, by have := ((h2 p hp).2.2 x hx).l5; simp only [maxLen]; omega, by have := ((h2 p hp).2.2 x hx).l7; omega⟩⟩⟩
theorem ok_sm {l : List P} (h : okB l = true) : SmL l := by
  obtain ⟨h1, h2, h3⟩ := okB_all h
  exact ⟨h3, fun p hp => ⟨(h2 p hp).1, fun x hx => ((h2 p hp).2.2 x hx).sm⟩⟩
def code_Right.f (l : List S28) : Option Bool := Ve.code_Right.f l
theorem code_Right.calls (A0 : Option Addr) (c0 : Nat) (l0 : List S28) (r : Bool) (w : World) (hL : Laid w) (hr0 : Kd.C k28 w A0 l0.length l0) (hc0 : l0.length ≤ c0) (h : code_Right.f l0 = some r) :
    Calls Tryz.prog 12 #[.slice A0 l0.length c0] w fun e w' => e = .returned (.bool r) ∧ Below w.heap.size w w' := Ve.code_Right.calls A0 c0 l0 r w hL hr0 hc0 h
def code_Same.f (a b : List S28) : Option Bool := if okB a = true ∧ okB b = true then some (sameS a b) else none
def code_Show.f (l : List S28) : Option (ByteArray × Int) := if okB l = true then some (showR l) else none
theorem code_Show.calls (A0 : Option Addr) (c0 : Nat) (l0 : List S28) (r1 : ByteArray) (r2 : Int) (w : World) (hL : Laid w) (hr0 : Kd.C k28 w A0 l0.length l0) (hc0 : l0.length ≤ c0) (h : code_Show.f l0 = some (r1, r2)) :
    Calls Tryz.prog 14 #[.slice A0 l0.length c0] w fun e w' => e = .returned (.tuple #[.string r1, .int .i64 r2]) ∧ Below w.heap.size w w' := by
  unfold code_Show.f at h
  by_cases hw : okB l0 = true
  case neg => rw [if_neg hw] at h; cases h
  rw [if_pos hw] at h
  have h := Option.some.inj h
  unfold showR at h
  cases hc : codeS l0 with
  | true =>
    rw [hc, if_pos rfl] at h
    obtain ⟨rfl, rfl⟩ := Prod.mk.inj h
    exact show_good A0 c0 l0 w hL hr0 hc0 (ok_wf hw) hc (ok_sm hw)
  | false =>
    rw [hc, if_neg (by decide)] at h
    obtain ⟨rfl, rfl⟩ := Prod.mk.inj h
    exact show_bad A0 c0 l0 w hL hr0 hc0 (ok_wf hw) hc
def code_Marks.f (l : List S28) : Option (List Int) := if okB l = true then some (marksL l) else none
def q9_Right.f (l : List S28) : Option Bool := if okB l = true then some (codeS l) else none
def q9_Show.f (l : List S28) : Option (ByteArray × Int) := if okB l = true then some (showR l) else none
def q9_Same.f (a b : List S28) : Option Bool := if okB a = true ∧ okB b = true then some (sameS a b) else none
def q9_Marks.f (l : List S28) : Option (List Int) := if okB l = true then some (marksL l) else none
def v9_Small.f (l : List S28) : Option Int := some (smallI l)
def q1_Same.f (a b : List Int) : Option Bool := if a.length ≤ 17592186044416 then some (a == b) else none
end Go.Proofs.YtjlhhjfmekjbhaaGreatDoor.Vg

-- WRITTEN BY hprint.py (a patched scratch copy of print.py, see NOTES.md): out of the translation and of contracts proved by hand.
namespace Go.Proofs.YtjlhhjfmekjbhaaGreatDoor.Pv
open Go.Proofs.YtjlhhjfmekjbhaaGreatDoor.Pq (errW errW_none errW_some S31 z31 k31 k31_open k31_mk rd_T31 at_T31 S28 z28 k28 k28_open k28_mk rd_T28 at_T28)
open Go.RowKit Go.Proofs.YtjlhhjfmekjbhaaGreatDoorW.PrintWords Go.Proofs.YtjlhhjfmekjbhaaGreatDoorW.PrintLast Go.Proofs.YtjlhhjfmekjbhaaGreatDoorW.PrintMore
set_option linter.unusedVariables false
set_option linter.unusedSimpArgs false
theorem info31 : (Tryz.prog.info? 31).map (fun i => (i.zero, i.size, i.bytes)) = some (some (.agg #[(.int .i64 0), (.int .i64 0), (.int .i64 0), (.int .i64 0), (.int .i64 0), (.string ⟨#[]⟩), (.int .i64 0), (.slice none 0 0)]), 8, 88) := by kernel_rfl
theorem k31_mkF (W : World) (ok : Nat → Prop) (x : S31) {A7 : Option Addr} {c7 : Nat} (l7 : x.f7.length ≤ c7) (g7 : Kd.F (Kd.int .i64) W ok A7 x.f7.length x.f7) : Kd.FK k31 W ok x [.int .i64 x.f0, .int .i64 x.f1, .int .i64 x.f2, .int .i64 x.f3, .int .i64 x.f4, .string x.f5, .int .i64 x.f6, .slice A7 x.f7.length c7] := fun W2 hW => k31_mk W2 x l7 (g7 W2 hW)
theorem k28_mkF (W : World) (ok : Nat → Prop) (x : S28) {A1 : Option Addr} {c1 : Nat} (l1 : x.f1.length ≤ c1) (g1 : Kd.F k31 W ok A1 x.f1.length x.f1) : Kd.FK k28 W ok x [.int .i64 x.f0, .slice A1 x.f1.length c1] := fun W2 hW => k28_mk W2 x l1 (g1 W2 hW)
end Go.Proofs.YtjlhhjfmekjbhaaGreatDoor.Pv

namespace Go.Proofs.YtjlhhjfmekjbhaaGreatDoor.Pv
open Go.Proofs.YtjlhhjfmekjbhaaGreatDoor.Pq (errW errW_none errW_some S31 z31 k31 k31_open k31_mk rd_T31 at_T31 S28 z28 k28 k28_open k28_mk rd_T28 at_T28)
open Go.RowKit Go.Proofs.YtjlhhjfmekjbhaaGreatDoor.Vg Go.Proofs.YtjlhhjfmekjbhaaGreatDoorW.PrintWords Go.Proofs.YtjlhhjfmekjbhaaGreatDoorW.PrintLast Go.Proofs.YtjlhhjfmekjbhaaGreatDoorW.PrintMore
set_option linter.unusedVariables false
set_option linter.unusedSimpArgs false
/-! ### v9_shown: function 10 -/
def v9_shown.f  : Option (Bool) := (code_Show.f (([(⟨0, (([(⟨20, 0, (-1), 0, 0, (⟨#[]⟩ : ByteArray), 0, ([] : List Int)⟩ : S31)] : List (S31)))⟩ : S28)] : List (S28)))).bind fun bt107 => ((code_Show.f ([] : List (S28))).bind fun bt109 => (if bt107.2 = 0 then (if bt107.1.toList = ([112, 114, 111, 99, 32, 48, 10, 50, 48, 32, 48, 32, 45, 49, 32, 48, 32, 48, 32, 48, 32, 34, 34, 10] : List UInt8) then (some (bt109.2 == 90)) else (none)) else (none)))
set_option maxHeartbeats 8000000 in
set_option maxRecDepth 100000 in
theorem v9_shown.calls  (r : Bool) (w : World) (hL : Laid w) (h : v9_shown.f  = some r) :
  Calls Tryz.prog 10 #[] w fun e w' => e = .returned (.bool r) ∧ Below w.heap.size w w' := by
 have HL := Aside0.mk hL
 clear hL
 have hu31 := Tryz.underlying31
 have hu28 := Tryz.underlying28
 have HB := Aside0.mk (Below.refl w.heap.size w)
 have H : ((code_Show.f (([(⟨0, (([(⟨20, 0, (-1), 0, 0, (⟨#[]⟩ : ByteArray), 0, ([] : List Int)⟩ : S31)] : List (S31)))⟩ : S28)] : List (S28)))).bind fun bt107 => ((code_Show.f ([] : List (S28))).bind fun bt109 => (if bt107.2 = 0 then (if bt107.1.toList = ([112, 114, 111, 99, 32, 48, 10, 50, 48, 32, 48, 32, 45, 49, 32, 48, 32, 48, 32, 48, 32, 34, 34, 10] : List UInt8) then (some (bt109.2 == 90)) else (none)) else (none)))) = some r := h
 clear h
 obtain ⟨y101, hy101⟩ : ∃ y_ : List (S31), y_ = (([(⟨20, 0, (-1), 0, 0, (⟨#[]⟩ : ByteArray), 0, ([] : List Int)⟩ : S31)] : List (S31))) := ⟨_, rfl⟩
 replace H : ((code_Show.f (([(⟨0, y101⟩ : S28)] : List (S28)))).bind fun bt107 => ((code_Show.f ([] : List (S28))).bind fun bt109 => (if bt107.2 = 0 then (if bt107.1.toList = ([112, 114, 111, 99, 32, 48, 10, 50, 48, 32, 48, 32, 45, 49, 32, 48, 32, 48, 32, 48, 32, 34, 34, 10] : List UInt8) then (some (bt109.2 == 90)) else (none)) else (none)))) = some r := by first | (rw [hy101]; with_reducible exact H) | (have H2_ := (Option.bind_some _ _).symm.trans H; rw [hy101]; with_reducible exact H2_) | (have H2_ := (Option.bind_some _ _).symm.trans H; with_reducible exact H2_) | with_reducible exact H | (rw [hy101]; exact H) | exact H
 have Ny101 := Aside0.mk hy101
 clear hy101
 obtain ⟨y104, hy104⟩ : ∃ y_ : List (S28), y_ = (([(⟨0, y101⟩ : S28)] : List (S28))) := ⟨_, rfl⟩
 replace H : ((code_Show.f y104).bind fun bt107 => ((code_Show.f ([] : List (S28))).bind fun bt109 => (if bt107.2 = 0 then (if bt107.1.toList = ([112, 114, 111, 99, 32, 48, 10, 50, 48, 32, 48, 32, 45, 49, 32, 48, 32, 48, 32, 48, 32, 34, 34, 10] : List UInt8) then (some (bt109.2 == 90)) else (none)) else (none)))) = some r := by first | (rw [hy104]; with_reducible exact H) | (have H2_ := (Option.bind_some _ _).symm.trans H; rw [hy104]; with_reducible exact H2_) | (have H2_ := (Option.bind_some _ _).symm.trans H; with_reducible exact H2_) | with_reducible exact H | (rw [hy104]; exact H) | exact H
 have Ny104 := Aside0.mk hy104
 clear hy104
 replace H := Option.bind_eq_some_iff.mp H
 obtain ⟨⟨t107, t108⟩, A10, H⟩ := H
 replace H : ((code_Show.f ([] : List (S28))).bind fun bt109 => (if t108 = 0 then (if t107.toList = ([112, 114, 111, 99, 32, 48, 10, 50, 48, 32, 48, 32, 45, 49, 32, 48, 32, 48, 32, 48, 32, 34, 34, 10] : List UInt8) then (some (bt109.2 == 90)) else (none)) else (none))) = some r := H
 have A1 := Aside0.mk A10
 clear A10
 replace H := Option.bind_eq_some_iff.mp H
 obtain ⟨⟨t109, t110⟩, A20, H⟩ := H
 replace H : (if t108 = 0 then (if t107.toList = ([112, 114, 111, 99, 32, 48, 10, 50, 48, 32, 48, 32, 45, 49, 32, 48, 32, 48, 32, 48, 32, 34, 34, 10] : List UInt8) then (some (t110 == 90)) else (none)) else (none)) = some r := H
 have A2 := Aside0.mk A20
 clear A20
 by_cases c3 : t108 = 0
 ·rw [if_pos c3] at H
  have c3b0 : (t108 == 0) = true := beq_iff_eq.mpr c3
  have c3b1 : (t108 != 0) = false := bne_eq_false_iff_eq.mpr c3
  clear c3
  by_cases c4 : t107.toList = ([112, 114, 111, 99, 32, 48, 10, 50, 48, 32, 48, 32, 45, 49, 32, 48, 32, 48, 32, 48, 32, 34, 34, 10] : List UInt8)
  ·rw [if_pos c4] at H
   have c4b0 : (t107.toList == ([112, 114, 111, 99, 32, 48, 10, 50, 48, 32, 48, 32, 45, 49, 32, 48, 32, 48, 32, 48, 32, 34, 34, 10] : List UInt8)) = true := beq_iff_eq.mpr c4
   have c4b1 : (t107.toList != ([112, 114, 111, 99, 32, 48, 10, 50, 48, 32, 48, 32, 45, 49, 32, 48, 32, 48, 32, 48, 32, 34, 34, 10] : List UInt8)) = false := bne_eq_false_iff_eq.mpr c4
   clear c4
   obtain rfl := Option.some.inj H
   go_enter Tryz.func10, Tryz.ntmps10
   go_wp2_with (first | ((with_reducible refine gate_callee (f := 14) rfl ?_); refine goesL_ (some 14) rfl rfl Tryz.func14 (by kernel_rfl) rfl #[.slice none 0 0] rfl zP ?_; (refine (code_Show.calls (hL := ?sideL) _ _ ([] : List (S28)) t109 t110 _ ?side1 ?side2 A2.out).mono ?_); (case sideL => exact Laid.below HL.out zB); (case side1 => exact Kd.C_nil _ _); (case side2 => exact Nat.le_refl _); rintro e w12 ⟨rfl, hb⟩; refine ⟨_, rfl, ?_⟩; replace HO106 := Aside0.mk (Kd.N_below (by (with_reducible repeat (first | apply Kd.N_alloc | apply Kd.N_drewN | apply Kd.N_drew)); exact HO106.out) hb); replace HB := Aside0.mk (below_step zB hb); (try clear hb)) | ((with_reducible refine gate_callee (f := 14) rfl ?_); refine goesL_ (some 10) rfl rfl Tryz.func14 (by kernel_rfl) rfl #[.slice Ao10 y104.length co10] rfl zP ?_; (with_reducible refine (code_Show.calls (hL := ?sideL) _ _ y104 t107 t108 _ ?side1 ?side2 A1.out).mono ?_); (case sideL => exact Laid.below HL.out zB); (case side1 => repeat (first | exact (Kd.N_reads' HO106.out).2.2 | (with_reducible refine Kd.C_alloc ?_ _) | (with_reducible refine Kd.C_drewN ?_ _) | (with_reducible refine Kd.C_drew ?_))); (case side2 => exact (Kd.N_reads' HO106.out).2.1); rintro e w11 ⟨rfl, hb⟩; refine ⟨_, rfl, ?_⟩; replace HO106 := Aside0.mk (Kd.N_below (by (with_reducible repeat (first | apply Kd.N_alloc | apply Kd.N_drewN | apply Kd.N_drew)); exact HO106.out) hb); replace HB := Aside0.mk (below_step zB hb); (try clear hb)) | ((with_reducible refine gate_dst (N := 9) rfl ?_); refine Kd.N_lit k28 _ 28 ?hg (N' := 9) ?hd (xs := ([(⟨0, y101⟩ : S28)] : List (S28))) (inner := [.int .i64 0, .slice Ao7 y101.length co7]) (ok := (fun _ => True)) (okp := (fun _ => True)) ?hr ?hp (fun _ hk => hk) ((show ∀ k_, w5.heap.size ≤ k_ → (fun _ => True) k_ from fun k_ hk => trivial) _ (Nat.le_refl _)) (Below.refl _ _) (Nat.le_refl _) (by simp) ?_; (case hd => rfl); (case hg => rfl); (case hr => first | (go_simp; done) | (go_simp; rfl)); (case hp => exact (Reps.c2 (show Kd.FK k28 _ _ (⟨0, y101⟩ : S28) [.int .i64 0, .slice Ao7 y101.length co7] from (k28_mkF _ _ (⟨0, y101⟩ : S28) (Kd.N_reads' (Kd.N_mono (ok' := (fun _ => True)) (HO103.out) (fun k_ hk => trivial))).2.1 (Kd.N_F (Kd.N_mono (ok' := (fun _ => True)) (HO103.out) (fun k_ hk => trivial))))) (Reps.none _ _))); intro v105 w8 ho9 hb hg_ hnew_; clear hg_ hnew_; (first | rw [← Ny104.out] at ho9 | (simp only [Int.reduceToNat] at ho9; rw [← Ny104.out] at ho9)); have n0_ := Aside0.mk (Kd.N_lower ho9 (below_size zB)); have n1_ := Aside0.mk (below_step zB hb); clear HB; clear HO103; have HO106 := n0_; have HB := n1_; clear n0_ n1_; clear hb ho9; obtain ⟨Ao10, co10, eo10⟩ := Kd.N_slice HO106.out; subst eo10) | ((with_reducible refine gate_dst (N := 7) rfl ?_); refine Kd.N_lit k31 _ 31 ?hg (N' := 7) ?hd (xs := ([(⟨20, 0, (-1), 0, 0, (⟨#[]⟩ : ByteArray), 0, ([] : List Int)⟩ : S31)] : List (S31))) (inner := [.int .i64 20, .int .i64 0, .int .i64 (-1), .int .i64 0, .int .i64 0, .string (⟨#[]⟩ : ByteArray), .int .i64 0, .slice none 0 0]) (ok := (fun _ => True)) (okp := (fun _ => True)) ?hr ?hp (fun _ hk => hk) ((show ∀ k_, w.heap.size ≤ k_ → (fun _ => True) k_ from fun k_ hk => trivial) _ (Nat.le_refl _)) (Below.refl _ _) (Nat.le_refl _) (by simp) ?_; (case hd => rfl); (case hg => rfl); (case hr => first | (go_simp; done) | (go_simp; rfl)); (case hp => exact (Reps.c8 (show Kd.FK k31 _ _ (⟨20, 0, (-1), 0, 0, (⟨#[]⟩ : ByteArray), 0, ([] : List Int)⟩ : S31) [.int .i64 20, .int .i64 0, .int .i64 (-1), .int .i64 0, .int .i64 0, .string (⟨#[]⟩ : ByteArray), .int .i64 0, .slice none 0 0] from (k31_mkF _ _ (⟨20, 0, (-1), 0, 0, (⟨#[]⟩ : ByteArray), 0, ([] : List Int)⟩ : S31) (Nat.le_refl _) (Kd.F_nil _ _ _))) (Reps.none _ _))); intro v102 w5 ho6 hb hg_ hnew_; clear hg_ hnew_; (first | rw [← Ny101.out] at ho6 | (simp only [Int.reduceToNat] at ho6; rw [← Ny101.out] at ho6)); have HO103 := Aside0.mk (Kd.N_lower ho6 (below_size zB)); replace HB := Aside0.mk (below_step zB hb); clear hb ho6; obtain ⟨Ao7, co7, eo7⟩ := Kd.N_slice HO103.out; subst eo7))
   go_ret
   exact ⟨zE, zB⟩
  ·rw [if_neg c4] at H
   exact absurd H (by simp)
 ·rw [if_neg c3] at H
  exact absurd H (by simp)
end Go.Proofs.YtjlhhjfmekjbhaaGreatDoor.Pv

/- Small codes: what the laws' calls tell. No condition. -/
namespace Go.Proofs.YtjlhhjfmekjbhaaGreatDoor.Pure
open Go.RowKit Go.Proofs.YtjlhhjfmekjbhaaGreatDoorW.PrintWords Go.Proofs.YtjlhhjfmekjbhaaGreatDoorW.PrintLast Go.Proofs.YtjlhhjfmekjbhaaGreatDoor.Cd Go.Proofs.YtjlhhjfmekjbhaaGreatDoor.Cf Go.Proofs.YtjlhhjfmekjbhaaGreatDoor.Bld Go.Proofs.YtjlhhjfmekjbhaaGreatDoor.Sh Go.Proofs.YtjlhhjfmekjbhaaGreatDoor.Vf Go.Proofs.YtjlhhjfmekjbhaaGreatDoor.Vg Go.Proofs.YtjlhhjfmekjbhaaGreatDoor.Pv
open Go.Proofs.YtjlhhjfmekjbhaaGreatDoor.Pq (S31 S28 k31 k28 z31 z28 rd_T28)
set_option linter.unusedVariables false
set_option linter.unusedSimpArgs false
theorem shown_ok1 : okB [⟨0, [⟨20, 0, -1, 0, 0, ⟨#[]⟩, 0, []⟩]⟩] = true := by decide +kernel
theorem shown_1 : showR [⟨0, [⟨20, 0, -1, 0, 0, ⟨#[]⟩, 0, []⟩]⟩] = (mkB [112, 114, 111, 99, 32, 48, 10, 50, 48, 32, 48, 32, 45, 49, 32, 48, 32, 48, 32, 48, 32, 34, 34, 10], 0) := by decide +kernel
theorem shown_2 : showR [] = (⟨#[]⟩, 90) := by decide +kernel
theorem shown_tells : v9_shown.f = some true := by
  unfold v9_shown.f code_Show.f
  rw [if_pos shown_ok1, if_pos (show okB [] = true by decide +kernel), shown_1, shown_2, Option.bind_some, Option.bind_some, if_pos rfl, if_pos (by rw [ByteArray.toList_eq]; rfl)]
  rfl
end Go.Proofs.YtjlhhjfmekjbhaaGreatDoor.Pure

/- Right codes grow: with more registers, with more functions. No condition. -/
namespace Go.Proofs.YtjlhhjfmekjbhaaGreatDoor.Pure
open Go.RowKit Go.Proofs.YtjlhhjfmekjbhaaGreatDoorW.PrintWords Go.Proofs.YtjlhhjfmekjbhaaGreatDoorW.PrintLast Go.Proofs.YtjlhhjfmekjbhaaGreatDoor.Cd Go.Proofs.YtjlhhjfmekjbhaaGreatDoor.Cf Go.Proofs.YtjlhhjfmekjbhaaGreatDoor.Bld Go.Proofs.YtjlhhjfmekjbhaaGreatDoor.Sh Go.Proofs.YtjlhhjfmekjbhaaGreatDoor.Vf Go.Proofs.YtjlhhjfmekjbhaaGreatDoor.Vg Go.Proofs.YtjlhhjfmekjbhaaGreatDoor.Pv
open Go.Proofs.YtjlhhjfmekjbhaaGreatDoor.Pq (S31 S28 k31 k28 z31 z28 rd_T28)
set_option linter.unusedVariables false
set_option linter.unusedSimpArgs false
theorem procS_iff (p : P) (u : Int) : procS p u = true ↔ ¬ p.f0 < 0 ∧ ¬ p.f0 > 60000 ∧ ¬ (p.f1.length : Int) = 0 ∧ ¬ (p.f1.length : Int) > 60000 ∧ (p.f1.getD (p.f1.length - 1) z31).f0 = 20 ∧ (p.f1.any fun x => !fitsS x p.f0 p.f1 u) = false := by
  simp only [procS, Bool.and_eq_true, Bool.not_eq_true', decide_eq_false_iff_not, beq_eq_false_iff_ne, ne_eq, beq_iff_eq]
end Go.Proofs.YtjlhhjfmekjbhaaGreatDoor.Pure

/- What a row's listed variables give the walks. No condition. -/
namespace Go.Proofs.YtjlhhjfmekjbhaaGreatDoor.Vl
open Go.ChangeShapes Go.WideShapes Go.ChangeAt Go.RowKit Go.Shelf
set_option linter.unusedVariables false
set_option linter.unusedSimpArgs false
def five : List (String × DataW Unit) := [("math/bits.deBruijn32tab", Rows.laid_math_bits_deBruijn32tab), ("math/bits.deBruijn64tab", Rows.laid_math_bits_deBruijn64tab), ("internal/strconv.uint64pow10", Rows.laid_internal_strconv_uint64pow10), ("strconv.ErrRange", Rows.laid_strconv_ErrRange), ("strconv.ErrSyntax", Rows.laid_strconv_ErrSyntax)]
theorem gPow : Tryz.prog.globalNamed "internal/strconv.uint64pow10" = some 0 := by kernel_rfl
theorem gSyn : Tryz.prog.globalNamed "strconv.ErrSyntax" = some 4 := by kernel_rfl
theorem gRng : Tryz.prog.globalNamed "strconv.ErrRange" = some 5 := by kernel_rfl
theorem tPow : (Tryz.prog.globals[0]?).map (·.type) = some 122 := by kernel_rfl
theorem tSyn : (Tryz.prog.globals[4]?).map (·.type) = some 57 := by kernel_rfl
theorem tRng : (Tryz.prog.globals[5]?).map (·.type) = some 57 := by kernel_rfl
theorem starE : "*" ++ "errors.errorString" = "*errors.errorString" := by decide
theorem rowE (u : TypeId) (h : Tryz.prog.typeName? 3 u = some "*errors.errorString") : u = 147 :=
  typeName_ptr_named (nm := "errors.errorString") (by rw [starE]; kernel_rfl) (by kernel_rfl) (by decide) u (by rw [starE]; exact h)
theorem cellsE : Tryz.prog.cellsOf 149 = 1 := by kernel_rfl
theorem cellsS : Tryz.prog.cellsOf 9 = 1 := by kernel_rfl
theorem only (x : String × DataW Unit) (n : String) (h : five.filter (fun y => y.1 == n) = [x]) {W : World} (hL : laidMet Tryz.prog five W) : laidMet Tryz.prog [x] W := by
  have := hL.filter (fun y => y.1 == n)
  rw [h] at this
  exact this
theorem laid_of {W : World} (h : laidMetH Tryz.prog five W) : Va.Laid W := by
  rw [MakeChecks.laidMetH_plain _ _ _ (by kernel_rfl)] at h
  have h1 := only ("internal/strconv.uint64pow10", Rows.laid_internal_strconv_uint64pow10) "internal/strconv.uint64pow10" (by kernel_rfl) h
  have h2 := only ("strconv.ErrSyntax", Rows.laid_strconv_ErrSyntax) "strconv.ErrSyntax" (by kernel_rfl) h
  have h3 := only ("strconv.ErrRange", Rows.laid_strconv_ErrRange) "strconv.ErrRange" (by kernel_rfl) h
  obtain ⟨a0, s0, hv0, -, -, -⟩ := laid_sentinel h2 gSyn tSyn Tryz.underlying57 rowE Tryz.underlying147 Tryz.underlying149 rfl rfl Tryz.underlying9 cellsE cellsS
  obtain ⟨a1, s1, hv1, -, -, -⟩ := laid_sentinel h3 gRng tRng Tryz.underlying57 rowE Tryz.underlying147 Tryz.underlying149 rfl rfl Tryz.underlying9 cellsE cellsS
  exact ⟨Lib.tabIs_of_head gPow tPow Tryz.underlying122 Tryz.underlying111 (by kernel_rfl) (by kernel_rfl) h1, ⟨_, _, hv0⟩, ⟨_, _, hv1⟩⟩
theorem own : ownKnob Tryz.prog.godebug = none := by kernel_rfl
theorem door_met (os : Os) (args : Array Value) : laidMetH Tryz.prog five ((World.doorLaid Tryz.prog 400 os).forCall (fun _ _ => 0) ⟨#[], args, []⟩).memory :=
  laidMetH_of_parts3 (fuel := 8) (laidMet_of_run' 8 (by kernel_rfl) (by kernel_rfl)) (by kernel_rfl) (by kernel_rfl)
end Go.Proofs.YtjlhhjfmekjbhaaGreatDoor.Vl

