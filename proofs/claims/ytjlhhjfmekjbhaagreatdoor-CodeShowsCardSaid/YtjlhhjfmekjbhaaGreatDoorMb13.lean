/- Lemmas for the claims of this seat (own texts, packed; what the claims do not use is left out). No condition. -/
import Derived.Test.YtjlhhjfmekjbhaaGreatDoorProg
import Derived.Below
import Derived.Deep.Draws
import Derived.Deep.AppendLies
import Derived.Maps.AppendAt
import Derived.OwnWalk
import Derived.Laws.BytesArg
import Derived.Laws.MakeOwn
import Derived.Laws.OwnMore
import Derived.Deep.OwnRows
import Derived.Tactics
import Derived.Lib.ConvBytes
import Derived.Laws.Slices
import Derived.WalkKit
import Derived.KernelRfl
import Derived.RowKit3
import Derived.Deep.LoopGhost
import Derived.Deep.QuietTactic
import Derived.BigQuiet
import Derived.WideLaws
import Derived.Deep.DeepCutAuto
import Derived.Deep.CutBlock
import Derived.Deep.RegionHeld3
import Derived.Laws.Rows
import Derived.Lib.AppendStr
import Derived.ArgAppend
import Derived.Laws.IdiomCopy
import Derived.OrdersHeld
import Derived.Laws.BitsLemmas
import Derived.RowKit
import Derived.Deep.Slices
import Derived.ChangeSlices
import Derived.DataReads
import Derived.Test.YtjlhhjfmekjbhaaGreatDoorRows
import Derived.Lib.LaidTab
import Derived.Stop.LaidErr
import Derived.LaidSub
import Derived.LaidMore
import Derived.MakeChecks
import Derived.ProofKit
import Derived.OpenShut
import Derived.ShutString
import Derived.ChangeOld
import Derived.SizedLaws
import Derived.Handed
import Derived.Test.YtjlhhjfmekjbhaaGreatDoorMb0
import Derived.Test.YtjlhhjfmekjbhaaGreatDoorMb1
import Derived.Test.YtjlhhjfmekjbhaaGreatDoorMb2
import Derived.Test.YtjlhhjfmekjbhaaGreatDoorMb11
import Derived.Test.YtjlhhjfmekjbhaaGreatDoorMb12
/- code.Show: a code's text. No condition. -/
namespace Go.Proofs.YtjlhhjfmekjbhaaGreatDoor.Sh
open Go.RowKit Go.Proofs.YtjlhhjfmekjbhaaGreatDoorW.PrintWords Go.Proofs.YtjlhhjfmekjbhaaGreatDoorW.PrintLast Go.Proofs.YtjlhhjfmekjbhaaGreatDoorW.PrintMore Go.Proofs.YtjlhhjfmekjbhaaGreatDoor.Iter Go.Proofs.YtjlhhjfmekjbhaaGreatDoor.Pq Go.Proofs.YtjlhhjfmekjbhaaGreatDoor.Cd Go.Proofs.YtjlhhjfmekjbhaaGreatDoor.Cf Go.Proofs.YtjlhhjfmekjbhaaGreatDoor.Bld Go.Proofs.YtjlhhjfmekjbhaaGreatDoor.Ext
set_option linter.unusedVariables false
set_option linter.unusedSimpArgs false
attribute [local go_sem] Oper.semAt_some
set_option maxHeartbeats 8000000 in
set_option maxRecDepth 100000 in
theorem show_bad (A0 : Option Addr) (c0 : Nat) (l0 : List S28) (w : World) (hL : Va.Laid w) (hr0 : Kd.C k28 w A0 l0.length l0) (hc0 : l0.length ≤ c0) (hw : WfL l0) (hc : codeS l0 = false) :
    Calls Tryz.prog 14 #[.slice A0 l0.length c0] w fun e w' => e = .returned (.tuple #[.string ⟨#[]⟩, .int .i64 90]) ∧ Below w.heap.size w w' := by
  have hR := right_calls A0 c0 l0 w hL hr0 hc0 hw
  rw [hc] at hR
  have HR := Aside0.mk hR
  clear hR hL hr0 hc0 hw hc
  go_enter Tryz.func14, Tryz.ntmps14
  go_wp2_with (go_at_call 12; refine HR.out.mono ?_; rintro e w1 ⟨rfl, hb⟩; have HB := Aside0.mk hb; clear hb)
  go_ret2
  exact ⟨rfl, HB.out⟩
theorem own_slice {W : World} {base : Nat} {v : Value} {xs : List ByteArray} (h : OwnS W base v xs) : ∃ A1 n1 c1, v = .slice A1 n1 c1 := by
  rcases h.2 with ⟨e, _⟩ | ⟨g, cap, cur, e, _⟩
  · exact ⟨_, _, _, e⟩
  · exact ⟨_, _, _, e⟩
theorem own_below {W W' : World} {base : Nat} {v : Value} {xs : List ByteArray} (h : OwnS W base v xs) (hb : Below W.heap.size W W') : OwnS W' base v xs := own_move h (fun k hk => hb.block k (own_lt h k hk))
theorem own_cells {W : World} {base : Nat} {v : Value} {xs : List ByteArray} (h : OwnS W base v xs) (hn : 0 < xs.length) : ∃ g c, v = .slice (some ⟨g, 0, none⟩) xs.length c ∧ g < W.heap.size ∧ xs.length ≤ c ∧ ∀ (j : Nat) x, xs[j]? = some x → W.cell? ⟨g, 0 + j, none⟩ = some (.string x) := by
  have hc := fun g => h.cells (g := g)
  rcases h.2 with ⟨e, h0⟩ | ⟨g, cap, cur, e, _, hg, hn1, _⟩
  · omega
  · subst e
    refine ⟨g, cap, rfl, (Array.getElem?_eq_some_iff.1 hg).1, hn1, fun j x hx => ?_⟩
    have := hc g rfl j (.string x) (by simp [encs, hx])
    rw [Nat.zero_add]
    simp only [Addr.add] at this
    split at this
    · rename_i h0
      subst h0
      exact this
    · simpa using this
theorem text_len {l0 : List S28} {k : Nat} {p0 : Int} {pl : List S31} {xs F : List E} (h : ∀ q, (showL (l0.take k) ++ headP p0 ++ (pl.take q).flatMap showI).length ≤ (showL l0).length) (ht : (showL l0).length ≤ 17592186044416) (hx : xs.map (·.1) = pl) (hF : F = xs) (kk : Nat) (x : E) (hk : F[kk]? = some x) :
    ((showL (l0.take k) ++ headP p0) ++ (F.take (kk + 1)).flatMap (fun e => showI e.1)).length ≤ 140737488355328 ∧ (Lib.join ((insW x.1).map (·.data.toList)) [32]).length ≤ 140737488355328 := by
  subst hF
  have e : (F.take (kk + 1)).flatMap (fun e => showI e.1) = (pl.take (kk + 1)).flatMap showI := by
    rw [← hx, ← List.map_take, List.flatMap_map]
  have e2 : (F.take (kk + 1)).flatMap (fun e => showI e.1) = (F.take kk).flatMap (fun e => showI e.1) ++ showI x.1 := by
    rw [List.take_add_one, hk, List.flatMap_append]
    simp
  have h1 := h (kk + 1)
  rw [← e] at h1
  refine ⟨by omega, ?_⟩
  rw [e2] at h1
  unfold showI lineL at h1
  simp only [List.length_append] at h1
  omega
theorem two_cells {W : World} {g : Nat} {x y : ByteArray} {t : TypeId} (h : W.heap[g]? = some (.cells #[.string x, .string y] t (0, 0))) : ∀ (j : Nat) z, [x, y][j]? = some z → W.cell? ⟨g, 0 + j, none⟩ = some (.string z) := by
  intro j z hj
  rw [Nat.zero_add]
  match j, hj with
  | 0, hj =>
    obtain rfl : x = z := by simpa using hj
    simp [World.cell?, h]
  | 1, hj =>
    obtain rfl : y = z := by simpa using hj
    simp [World.cell?, h]
  | j + 2, hj => simp at hj
def shwT10 : Bool × List (List Nat × List Nat) := (true, [([], []), ([0], [0]), ([], []), ([2], [2]), ([], []), ([4], [4]), ([], []), ([6], [6]), ([], []), ([8], [8]), ([1, 3, 5, 7, 9], [1, 3, 5, 7, 9]), ([10], [10]), ([], []), ([12], [12]), ([13, 11], [13]), ([14], [14]), ([11, 15, 14], [11, 15]), ([16, 16, 0, 1, 2, 3, 4, 5, 6, 7, 8, 9, 10, 11, 12, 13, 14, 15, 16], [16])])
def shwB10 : List Nat := [0, 1, 0, 4, 0, 16, 0, 64, 0, 256, 1023, 2047, 0, 4096, 16383, 32767, 65535, 131071]
theorem shwtab10 : rtab .any (opsOf Tryz.f14 10) = shwT10 := by kernel_rfl
theorem shwbits10 : waitsOk shwT10.2 shwB10 = true := by kernel_rfl
set_option maxHeartbeats 40000000 in
set_option maxRecDepth 100000 in
theorem show_good (A0 : Option Addr) (c0 : Nat) (l0 : List S28) (w : World) (hL : Va.Laid w) (hr0 : Kd.C k28 w A0 l0.length l0) (hc0 : l0.length ≤ c0) (hw : WfL l0) (hc : codeS l0 = true) (hs : SmL l0) :
    Calls Tryz.prog 14 #[.slice A0 l0.length c0] w fun e w' => e = .returned (.tuple #[.string ⟨(showL l0).toArray⟩, .int .i64 0]) ∧ Below w.heap.size w w' := by
  have hR := right_calls A0 c0 l0 w hL hr0 hc0 hw
  rw [hc] at hR
  have HR := Aside0.mk hR
  have HL := Aside0.mk hL
  have HA := Aside0.mk hr0
  have HW := Aside0.mk hw
  have HS := Aside0.mk hs
  have hln := hw.len
  clear hR hL hr0 hc0 hw hc hs
  refine (callsIn_wide (n := 0)).1 ?_
  refine callsIn_of_wp_marks Tryz.func14 rfl trivial ?_ rfl
  simp only [Tryz.ntmps14, List.size_toArray, List.length_cons, List.length_nil, Nat.reduceAdd, Nat.reduceSub, Array.replicate_succ, Array.replicate_zero, List.push_toArray, List.append_toArray, List.nil_append, List.cons_append]
  have hdep : Fence.wide.depth = none := rfl
  have hfns : ∀ f, Fence.wide.fn f := fun _ => trivial
  gi_wp2_with (gi_at_call 12; refine (callsIn_wide.2 HR.out).mono ?_; rintro e w1 ⟨rfl, hb⟩; have HB := Aside0.mk hb; clear hb)
  have HBD := Aside0.mk (show BD w w1.heap.size [] [] (w1.alloc (.cells #[.pointer none, .slice none 0 0] 55)) from
    ⟨fun i => i = w1.heap.size, BOwn.fresh w1 _ HB.out.size _ rfl, fun i hi => by subst hi; exact ⟨HB.out.size, by simp⟩, HB.out.alloc HB.out.size _, List.nodup_nil, fun D hD => by simp at hD⟩)
  clear HR
  refine wpIn_loop (fun a w' => ∃ (k : Nat) (Ds : List Nat) (u6 u7 u8 u15 u16 u17 u18 u19 u20 u21 u22 u23 u24 u25 u26 u27 u28 u29 u30 u31 u32 u33 u34 u35 u36 u37 u38 u39 u40 u41 u42 u43 u44 u45 u46 u47 u48 u49 u50 u51 u52 u53 u54 u55 u56 u57 u58 : Value), a = { tmps := #[.slice A0 l0.length c0, undef, .string ⟨#[]⟩, .int .i64 0, .pointer (some ⟨w1.heap.size, 0, none⟩), undef, u6, u7, u8, .slice A0 l0.length c0, .bool true, .bool false, .slice A0 l0.length c0, .int .i64 (l0.length : Int), .int .i64 ((k : Nat) : Int), u15, u16, u17, u18, u19, u20, u21, u22, u23, u24, u25, u26, u27, u28, u29, u30, u31, u32, u33, u34, u35, u36, u37, u38, u39, u40, u41, u42, u43, u44, u45, u46, u47, u48, u49, u50, u51, u52, u53, u54, u55, u56, u57, u58, undef], defers := Ds.map mark } ∧ k ≤ l0.length ∧ BD w w1.heap.size (showL (l0.take k)) Ds w') (fun a w' => l0.length - (intOf (a.tmps.getD 14 undef)).toNat) ?h0 ?round
  case h0 => exact ⟨0, [], _, _, _, _, _, _, _, _, _, _, _, _, _, _, _, _, _, _, _, _, _, _, _, _, _, _, _, _, _, _, _, _, _, _, _, _, _, _, _, _, _, _, _, _, _, _, _, rfl, Nat.zero_le _, HBD.out⟩
  case round =>
    clear HBD
    intro a wr hI
    obtain ⟨k, Ds, hI⟩ := hI
    obtain ⟨u6, hI⟩ := hI
    obtain ⟨u7, hI⟩ := hI
    obtain ⟨u8, hI⟩ := hI
    obtain ⟨u15, hI⟩ := hI
    obtain ⟨u16, hI⟩ := hI
    obtain ⟨u17, hI⟩ := hI
    obtain ⟨u18, hI⟩ := hI
    obtain ⟨u19, hI⟩ := hI
    obtain ⟨u20, hI⟩ := hI
    obtain ⟨u21, hI⟩ := hI
    obtain ⟨u22, hI⟩ := hI
    obtain ⟨u23, hI⟩ := hI
    obtain ⟨u24, hI⟩ := hI
    obtain ⟨u25, hI⟩ := hI
    obtain ⟨u26, hI⟩ := hI
    obtain ⟨u27, hI⟩ := hI
    obtain ⟨u28, hI⟩ := hI
    obtain ⟨u29, hI⟩ := hI
    obtain ⟨u30, hI⟩ := hI
    obtain ⟨u31, hI⟩ := hI
    obtain ⟨u32, hI⟩ := hI
    obtain ⟨u33, hI⟩ := hI
    obtain ⟨u34, hI⟩ := hI
    obtain ⟨u35, hI⟩ := hI
    obtain ⟨u36, hI⟩ := hI
    obtain ⟨u37, hI⟩ := hI
    obtain ⟨u38, hI⟩ := hI
    obtain ⟨u39, hI⟩ := hI
    obtain ⟨u40, hI⟩ := hI
    obtain ⟨u41, hI⟩ := hI
    obtain ⟨u42, hI⟩ := hI
    obtain ⟨u43, hI⟩ := hI
    obtain ⟨u44, hI⟩ := hI
    obtain ⟨u45, hI⟩ := hI
    obtain ⟨u46, hI⟩ := hI
    obtain ⟨u47, hI⟩ := hI
    obtain ⟨u48, hI⟩ := hI
    obtain ⟨u49, hI⟩ := hI
    obtain ⟨u50, hI⟩ := hI
    obtain ⟨u51, hI⟩ := hI
    obtain ⟨u52, hI⟩ := hI
    obtain ⟨u53, hI⟩ := hI
    obtain ⟨u54, hI⟩ := hI
    obtain ⟨u55, hI⟩ := hI
    obtain ⟨u56, hI⟩ := hI
    obtain ⟨u57, hI⟩ := hI
    obtain ⟨u58, hI⟩ := hI
    obtain ⟨rfl, hk, hbd⟩ := hI
    have HBD := Aside0.mk hbd
    clear hbd
    by_cases hlt : k < l0.length
    · obtain ⟨ad, A1, c1, rfl, hx0, hx1, hl1, hi1⟩ := at_T28 HA.out (k : Int) (by omega) (by omega)
      rw [Int.toNat_natCast] at hx0 hx1
      have hX : l0[k]? = some (rd_T28 l0 (k : Int)) := by
        unfold rd_T28
        rw [Int.toNat_natCast, List.getD_eq_getElem?_getD, List.getElem?_eq_getElem hlt]
        rfl
      have HPL := Aside0.mk (part_len l0 k hlt _ hX)
      have HST := Aside0.mk (showL_take l0 k _ hX)
      have hm := List.mem_of_getElem? hX
      have hPr := HS.out.proc _ hm
      have hPl := (HW.out.proc _ hm).1
      clear hm hX
      generalize rd_T28 l0 (k : Int) = p at *
      obtain ⟨p0, pl⟩ := p
      dsimp only at *
      obtain ⟨xs, hxs, hXI, hXL⟩ := ins_list hi1
      have hxl : xs.length = pl.length := by rw [← hxs, List.length_map]
      have hbel := HBD.out.below
      have hy0 := (hbel.cell (World.block_lt_of_cell? w _ hx0)).trans hx0
      have hy1 := (hbel.cell (World.block_lt_of_cell? w _ hx1)).trans hx1
      have HTOT := Aside0.mk HS.out.tot
      have hpre := HPL.out 0
      have HXI := Aside0.mk hXI
      have HXL := Aside0.mk hXL
      have HP0 := Aside0.mk hPr.1
      have HPX := Aside0.mk hPr.2
      have HXS := Aside0.mk hxs
      have HPLN := Aside0.mk hPl
      have HXLN := Aside0.mk hxl
      have hw1 : wrap64 ((k : Int) + 1) = ((k + 1 : Nat) : Int) := by unfold wrap64; omega
      have hbs : w.heap.size ≤ wr.heap.size := hbel.size
      have HBEL := Aside0.mk hbel
      have HIT := Aside0.mk (show Vd.strconv_Itoa.f p0 = some (itB p0) by unfold Vd.strconv_Itoa.f; rw [if_pos hPr.1]; rfl)
      have HHD := Aside0.mk (show (lineL [⟨#[112, 114, 111, 99]⟩, itB p0]).length + (showL (l0.take k)).length ≤ 17592186044416 by
        have h1 := HTOT.out
        unfold headP at hpre
        simp only [List.length_append] at hpre
        omega)
      clear hx0 hx1 hi1 hXI hXL hPr hPl hxs hxl hbel hpre hl1
      have HW1 := Aside0.mk (Below.alloc (Below.refl wr.heap.size wr) (Nat.le_refl _) (.cells #[.int .i64 p0, .slice A1 pl.length c1] 28))
      have hpb := heap_alloc_new wr (.cells #[.int .i64 p0, .slice A1 pl.length c1] 28)
      have HPB := Aside0.mk hpb
      clear hpb
      gi_wp2_with (first
        | (gi_at_call 29; refine (callsIn_wide.2 (Vd.strconv_Itoa.calls p0 (itB p0) _ (HL.out.below (HBEL.out.alloc hbs _)) HIT.out)).mono ?_; rintro e w2 ⟨rfl, hb2⟩; have HB2 := Aside0.mk (below_step HW1.out hb2); have HPB2 := Aside0.mk ((hb2.block wr.heap.size (by simp)).trans HPB.out); clear hb2)
        | (gi_at_call 28; refine (callsIn_wide.2 (Vd.line_calls w2.heap.size 0 2 [⟨#[112, 114, 111, 99]⟩, itB p0] _ (two_cells (heap_alloc_new w2 _)) (by simp) (by simp) (by simp) (by have := HHD.out; unfold lineL at this; rw [List.length_append] at this; omega))).mono ?_; rintro e w3 ⟨rfl, hb3⟩; have HB3 := Aside0.mk (below_step (HB2.out.alloc HB2.out.size _) hb3); have HPB3 := Aside0.mk ((hb3.block wr.heap.size (by have := (Array.getElem?_eq_some_iff.1 HPB2.out).1; simp; omega)).trans ((Lib.alloc_old w2 _ wr.heap.size (Array.getElem?_eq_some_iff.1 HPB2.out).1).trans HPB2.out)); clear hb3)
        | (gi_at_call 27; refine (callsIn_wide.2 (HBD.out.string2 (Vd.lineS [⟨#[112, 114, 111, 99]⟩, itB p0]) (by rw [lineS_size]; have := HHD.out; omega) HB3.out)).mono ?_; rintro e w4 ⟨rfl, hbd4, hs4, hk4⟩; have HPB4 := Aside0.mk ((hk4 wr.heap.size (Nat.le_refl _) (Array.getElem?_eq_some_iff.1 HPB3.out).1).trans HPB3.out); rw [lineS_list] at hbd4; have HBD4 := Aside0.mk hbd4; have c40 : w4.cell? ⟨wr.heap.size, 0, none⟩ = some (.int .i64 p0) := (Lib.cell_of_heap HPB4.out 0); have c41 : w4.cell? ⟨wr.heap.size, 1, none⟩ = some (.slice A1 pl.length c1) := (Lib.cell_of_heap HPB4.out 1); clear hbd4 hs4 hk4)
        | (gi_at_call 30; refine (callsIn_wide.2 (all_calls _ _ rfl)).mono ?_; rintro e w' ⟨rfl, rfl⟩))
      have HXI2 := Aside0.mk (fun W (hb : Below w.heap.size w W) => (show ∀ kk, kk < xs.length → ∃ a1, A1 = some a1 ∧ InsFact W (a1.add (kk * 8)) (xs.getD kk ze) from fun kk hkk => by
        obtain ⟨a1, e1, hi⟩ := HXI.out kk hkk
        exact ⟨a1, e1, hi.chg (fun a v h => (hb.cell (World.block_lt_of_cell? w _ h)).trans h)⟩))
      clear HXI hy0 hy1 c40 c41 HPB4 HPB3 HPB2 HPB
      have HFL := Aside0.mk (show flat [(⟨p0, A1, c1, xs⟩ : PD)] = xs from by simp [flat])
      obtain ⟨O, hsh, hO⟩ := ShI.start (flat [(⟨p0, A1, c1, xs⟩ : PD)]) HBD4.out
      have hb4 : Below w.heap.size w w4 := HBD4.out.below
      have hs4 : w.heap.size ≤ w4.heap.size := hb4.size
      obtain ⟨W6, hW6⟩ : ∃ W6, (w4.alloc (.cells #[.int .i64 p0, .slice A1 pl.length c1] 28)).alloc (.cells #[.slice (some ⟨w4.heap.size, 0, none⟩) 1 1] 22) = W6 := ⟨_, rfl⟩
      have hs6 : W6.heap.size = w4.heap.size + 2 := by rw [← hW6]; simp
      have hc6 : Chg (fun _ => False) w4 W6 := by rw [← hW6]; exact ((Chg.refl _ w4).alloc _).alloc _
      have hp6 : W6.heap[w4.heap.size]? = some (.cells #[.int .i64 p0, .slice A1 pl.length c1] 28 (0, 0)) := by
        rw [← hW6]
        simp only [alloc_at, World.size_alloc]; simp (disch := omega) [if_pos, if_neg]
      have hq6 : W6.heap[w4.heap.size + 1]? = some (.cells #[.slice (some ⟨w4.heap.size, 0, none⟩) 1 1] 22 (0, 0)) := by
        rw [← hW6]
        simp only [alloc_at, World.size_alloc]; simp (disch := omega) [if_pos, if_neg]
      have hI0 := ShI.abide _ _ _ _ _ _ O w4 W6 _ hsh hc6 (fun i hi => hi.elim)
      have hb6 : Below w.heap.size w W6 := hb4.trans (hc6.below hs4 (fun i hi => hi.elim))
      have hA : ∀ W, Chg (fun i => w.heap.size ≤ i ∧ ¬ (i = w4.heap.size ∨ i = w4.heap.size + 1)) W6 W → AllFact W (some ⟨w4.heap.size, 0, none⟩) [(⟨p0, A1, c1, xs⟩ : PD)] := fun W hc => by
        have hbW : Below w.heap.size w W := hb6.trans (hc.below (by omega) (fun i hi => hi.1))
        have hpW := hc.blk hp6 (fun h => h.2 (.inl rfl))
        refine ⟨by simp, fun j hj => ⟨_, rfl, ?_⟩⟩
        obtain rfl : j = 0 := by simp at hj; omega
        refine ⟨Lib.cell_of_heap hpW 0, ?_, ?_, HXI2.out W hbW⟩
        · have := Lib.cell_of_heap hpW 1
          show W.cell? ⟨w4.heap.size, 0 + 0 * 2 + 1, none⟩ = some (.slice A1 xs.length c1)
          rw [HXLN.out]
          exact this
        · show xs.length ≤ _
          rw [HXLN.out]; exact HPLN.out
      have hit := all1_iter w.heap.size (fun i => i = w4.heap.size ∨ i = w4.heap.size + 1) W6 (w4.heap.size + 1) (some ⟨w4.heap.size, 0, none⟩) 1 [(⟨p0, A1, c1, xs⟩ : PD)] (Lib.cell_of_heap hq6 0) (.inr rfl) (fun i hi => by rcases hi with rfl | rfl <;> omega) (by omega) hA
      rw [hW6]
      clear hW6 hA hp6 hq6 hsh hc6 hb4
      refine wp_rangeFunc_go (gf := 81) (lb := #[.pointer (some ⟨w4.heap.size + 1, 0, none⟩)]) rfl (enters_of Tryz.func81 (by kernel_rfl) rfl) hit (fun _ => rfl) O (by omega) (fun i hi => by have := hO i hi; exact ⟨this.1, by omega, by omega⟩) (fun i hi => by rcases hi with rfl | rfl <;> omega) (Chg.refl _ _)
        (ShI w w1.heap.size Ds _ (flat [(⟨p0, A1, c1, xs⟩ : PD)])) (fun _ _ _ _ => False) (fun k => ShI.abide _ _ _ _ _ k) (fun _ _ _ _ _ _ h _ _ => h) hI0 ?round2 ?done2 ?stop2
      case stop2 => exact fun D k c O1 W _ _ _ h _ => h.elim
      case round2 =>
        intro l0' kk x O1 W K hx hi hb hK
        obtain ⟨⟨x0, x1, x2, x3, x4, x5, x6, x7⟩, A7, c7⟩ := x
        dsimp only [encX, insV]
        gi_wp2
        refine hK _ _ _ ((Chg.refl _ _).alloc _) (grow_alloc hb _) (hi.alloc _) ?_
        have hn4 := heap_alloc_new W (.cells #[.int .i64 x0, .int .i64 x1, .int .i64 x2, .int .i64 x3, .int .i64 x4, .string x5, .int .i64 x6, .slice A7 x7.length c7] 31)
        have HX := Aside0.mk hx
        clear hi hK hb hx
        intro l T Wb hc hT hOb hll hnl hrec hi
        have hn5 := hc.blk hn4 (fun ht => (hT _ ht).2 (.inr rfl))
        have hbwb : Below w.heap.size w Wb := hi.bel
        have HWB := Aside0.mk hbwb
        have hwbs : w.heap.size ≤ Wb.heap.size := hbwb.size
        have HXF := Aside0.mk (show xs[kk]? = some (⟨x0, x1, x2, x3, x4, x5, x6, x7⟩, A7, c7) by rw [← HFL.out]; exact HX.out)
        have hmx := List.mem_of_getElem? HXF.out
        have hlf := HXL.out _ hmx
        have hsx := HPX.out ⟨x0, x1, x2, x3, x4, x5, x6, x7⟩ (by rw [← HXS.out]; exact List.mem_map_of_mem hmx)
        have HLF := Aside0.mk (show ∀ W', Below w.heap.size w W' → Kd.C (Kd.int .i64) W' A7 x7.length x7 from fun W' hb' => Kd.C_below hlf.1 hb')
        have hlf2 : x7.length ≤ c7 := hlf.2
        have HSX := Aside0.mk hsx
        have HD5 := Aside0.mk (digits_tells [x0, x1, x2, x3, x4] (by simp) (by
          intro n hn
          simp only [List.mem_cons, List.mem_nil_iff, or_false] at hn
          rcases hn with rfl | rfl | rfl | rfl | rfl
          · exact hsx.h0
          · exact hsx.h1
          · exact hsx.h2
          · exact hsx.h3
          · exact hsx.h4))
        have HD7 := Aside0.mk (digits_tells x7 hsx.l7 hsx.h7)
        have HF6 := Aside0.mk (show Va.strconv_FormatInt.f x6 10 = some (itB x6) by unfold Va.strconv_FormatInt.f; rw [if_pos ⟨rfl, hsx.h6⟩]; rfl)
        have HL5 := Aside0.mk hsx.l5
        have hl7 : x7.length ≤ 1000000 := hsx.l7
        have HI := Aside0.mk hi
        have HN5 := Aside0.mk hn5
        clear hmx hlf hsx hi hn5 hn4 hrec hT hc
        have HSC := Aside0.mk (show ∀ W', Below Wb.heap.size Wb.drew W' → W'.heap[W.heap.size]? = some (.cells #[.int .i64 x0, .int .i64 x1, .int .i64 x2, .int .i64 x3, .int .i64 x4, .string x5, .int .i64 x6, .slice A7 x7.length c7] 31 (0, 0)) from fun W' hb' =>
          (hb'.block _ (Array.getElem?_eq_some_iff.1 HN5.out).1).trans HN5.out)
        have HSS := Aside0.mk (show ∀ W', Below Wb.heap.size Wb.drew W' → (W'.cell? ⟨W.heap.size, 0, none⟩ = some (.int .i64 x0) ∧ W'.cell? ⟨W.heap.size, 1, none⟩ = some (.int .i64 x1) ∧ W'.cell? ⟨W.heap.size, 2, none⟩ = some (.int .i64 x2) ∧ W'.cell? ⟨W.heap.size, 3, none⟩ = some (.int .i64 x3) ∧ W'.cell? ⟨W.heap.size, 4, none⟩ = some (.int .i64 x4) ∧ W'.cell? ⟨W.heap.size, 6, none⟩ = some (.int .i64 x6)) from fun W' hb' => ⟨Lib.cell_of_heap (HSC.out W' hb') 0, Lib.cell_of_heap (HSC.out W' hb') 1, Lib.cell_of_heap (HSC.out W' hb') 2, Lib.cell_of_heap (HSC.out W' hb') 3, Lib.cell_of_heap (HSC.out W' hb') 4, Lib.cell_of_heap (HSC.out W' hb') 6⟩)
        have HBW := Aside0.mk (show Below w.heap.size w Wb.drew from below_drew HWB.out)
        have HBD2 := Aside0.mk (show Below Wb.heap.size Wb Wb.drew from below_drew (Below.refl _ _))
        have hsz0 : Wb.drew.heap.size = Wb.heap.size := rfl
        gi_wp2_with fail
        refine startIn_ (n := 18) (S := fun W' => W'.cell? ⟨W.heap.size, 0, none⟩ = some (.int .i64 x0) ∧ W'.cell? ⟨W.heap.size, 1, none⟩ = some (.int .i64 x1) ∧ W'.cell? ⟨W.heap.size, 2, none⟩ = some (.int .i64 x2) ∧ W'.cell? ⟨W.heap.size, 3, none⟩ = some (.int .i64 x3) ∧ W'.cell? ⟨W.heap.size, 4, none⟩ = some (.int .i64 x4) ∧ W'.cell? ⟨W.heap.size, 6, none⟩ = some (.int .i64 x6)) (ds := []) #[false, false, false, false, false, false, false, false, false, false, false, false, false, false, false, false, false, false] (by kernel_rfl) rfl rfl (by kernel_rfl) (fun ⟨a_, w_, h_⟩ => h_) (HSS.out _ (Below.refl _ _)) (fun hHeld => ?_)
        refine with_tabW shwtab10 shwbits10 (fun HT_ HW_ => ?_)
        refine pure_ (i := 0) (N := some 28) (v := ?_) (a' := ?_) #[true, false, false, false, false, false, false, false, false, false, false, false, false, false, false, false, false, false] rfl rfl (any_of HT_.out (by kernel_rfl)) (fun _ _ _ h => h) (Or.inl ⟨by rfl, ?_⟩) ?_ ?_
        rotate_left
        · intro w'
          first | (go_simp; with_reducible rfl)
        rotate_left
        · simp only [Act.put, List.setIfInBounds_toArray, List.set_cons_zero, List.set_cons_succ, i64_w, i32_w]
          rfl
        refine take_ (i := 1) (N := some 29) (v := ?_) (a' := ?_) #[true, true, false, false, false, false, false, false, false, false, false, false, false, false, false, false, false, false] rfl rfl (take_ofW HT_.out HW_.out (by kernel_rfl)) (fun _ _ _ h => h) (Or.inl ⟨by rfl, ?_⟩) hHeld ?_ ?_
        rotate_left
        · rintro w' ⟨s0, s1, s2, s3, s4, s5⟩
          first | (go_simp; with_reducible rfl)
        rotate_left
        · simp only [Act.put, List.setIfInBounds_toArray, List.set_cons_zero, List.set_cons_succ, i64_w, i32_w]
          rfl
        refine pure_ (i := 2) (N := some 30) (v := ?_) (a' := ?_) #[true, true, true, false, false, false, false, false, false, false, false, false, false, false, false, false, false, false] rfl rfl (any_of HT_.out (by kernel_rfl)) (fun _ _ _ h => h) (Or.inl ⟨by rfl, ?_⟩) ?_ ?_
        rotate_left
        · intro w'
          first | (go_simp; with_reducible rfl)
        rotate_left
        · simp only [Act.put, List.setIfInBounds_toArray, List.set_cons_zero, List.set_cons_succ, i64_w, i32_w]
          rfl
        refine take_ (i := 3) (N := some 31) (v := ?_) (a' := ?_) #[true, true, true, true, false, false, false, false, false, false, false, false, false, false, false, false, false, false] rfl rfl (take_ofW HT_.out HW_.out (by kernel_rfl)) (fun _ _ _ h => h) (Or.inl ⟨by rfl, ?_⟩) hHeld ?_ ?_
        rotate_left
        · rintro w' ⟨s0, s1, s2, s3, s4, s5⟩
          first | (go_simp; with_reducible rfl)
        rotate_left
        · simp only [Act.put, List.setIfInBounds_toArray, List.set_cons_zero, List.set_cons_succ, i64_w, i32_w]
          rfl
        refine pure_ (i := 4) (N := some 32) (v := ?_) (a' := ?_) #[true, true, true, true, true, false, false, false, false, false, false, false, false, false, false, false, false, false] rfl rfl (any_of HT_.out (by kernel_rfl)) (fun _ _ _ h => h) (Or.inl ⟨by rfl, ?_⟩) ?_ ?_
        rotate_left
        · intro w'
          first | (go_simp; with_reducible rfl)
        rotate_left
        · simp only [Act.put, List.setIfInBounds_toArray, List.set_cons_zero, List.set_cons_succ, i64_w, i32_w]
          rfl
        refine take_ (i := 5) (N := some 33) (v := ?_) (a' := ?_) #[true, true, true, true, true, true, false, false, false, false, false, false, false, false, false, false, false, false] rfl rfl (take_ofW HT_.out HW_.out (by kernel_rfl)) (fun _ _ _ h => h) (Or.inl ⟨by rfl, ?_⟩) hHeld ?_ ?_
        rotate_left
        · rintro w' ⟨s0, s1, s2, s3, s4, s5⟩
          first | (go_simp; with_reducible rfl)
        rotate_left
        · simp only [Act.put, List.setIfInBounds_toArray, List.set_cons_zero, List.set_cons_succ, i64_w, i32_w]
          rfl
        refine pure_ (i := 6) (N := some 34) (v := ?_) (a' := ?_) #[true, true, true, true, true, true, true, false, false, false, false, false, false, false, false, false, false, false] rfl rfl (any_of HT_.out (by kernel_rfl)) (fun _ _ _ h => h) (Or.inl ⟨by rfl, ?_⟩) ?_ ?_
        rotate_left
        · intro w'
          first | (go_simp; with_reducible rfl)
        rotate_left
        · simp only [Act.put, List.setIfInBounds_toArray, List.set_cons_zero, List.set_cons_succ, i64_w, i32_w]
          rfl
        refine take_ (i := 7) (N := some 35) (v := ?_) (a' := ?_) #[true, true, true, true, true, true, true, true, false, false, false, false, false, false, false, false, false, false] rfl rfl (take_ofW HT_.out HW_.out (by kernel_rfl)) (fun _ _ _ h => h) (Or.inl ⟨by rfl, ?_⟩) hHeld ?_ ?_
        rotate_left
        · rintro w' ⟨s0, s1, s2, s3, s4, s5⟩
          first | (go_simp; with_reducible rfl)
        rotate_left
        · simp only [Act.put, List.setIfInBounds_toArray, List.set_cons_zero, List.set_cons_succ, i64_w, i32_w]
          rfl
        refine pure_ (i := 8) (N := some 36) (v := ?_) (a' := ?_) #[true, true, true, true, true, true, true, true, true, false, false, false, false, false, false, false, false, false] rfl rfl (any_of HT_.out (by kernel_rfl)) (fun _ _ _ h => h) (Or.inl ⟨by rfl, ?_⟩) ?_ ?_
        rotate_left
        · intro w'
          first | (go_simp; with_reducible rfl)
        rotate_left
        · simp only [Act.put, List.setIfInBounds_toArray, List.set_cons_zero, List.set_cons_succ, i64_w, i32_w]
          rfl
        refine take_ (i := 9) (N := some 37) (v := ?_) (a' := ?_) #[true, true, true, true, true, true, true, true, true, true, false, false, false, false, false, false, false, false] rfl rfl (take_ofW HT_.out HW_.out (by kernel_rfl)) (fun _ _ _ h => h) (Or.inl ⟨by rfl, ?_⟩) hHeld ?_ ?_
        rotate_left
        · rintro w' ⟨s0, s1, s2, s3, s4, s5⟩
          first | (go_simp; with_reducible rfl)
        rotate_left
        · simp only [Act.put, List.setIfInBounds_toArray, List.set_cons_zero, List.set_cons_succ, i64_w, i32_w]
          rfl
        refine pure_ (i := 12) (N := some 40) (v := ?_) (a' := ?_) #[true, true, true, true, true, true, true, true, true, true, false, false, true, false, false, false, false, false] rfl rfl (any_of HT_.out (by kernel_rfl)) (fun _ _ _ h => h) (Or.inl ⟨by rfl, ?_⟩) ?_ ?_
        rotate_left
        · intro w'
          first | (go_simp; with_reducible rfl)
        rotate_left
        · simp only [Act.put, List.setIfInBounds_toArray, List.set_cons_zero, List.set_cons_succ, i64_w, i32_w]
          rfl
        refine take_ (i := 13) (N := some 41) (v := ?_) (a' := ?_) #[true, true, true, true, true, true, true, true, true, true, false, false, true, true, false, false, false, false] rfl rfl (take_ofW HT_.out HW_.out (by kernel_rfl)) (fun _ _ _ h => h) (Or.inl ⟨by rfl, ?_⟩) hHeld ?_ ?_
        rotate_left
        · rintro w' ⟨s0, s1, s2, s3, s4, s5⟩
          first | (go_simp; with_reducible rfl)
        rotate_left
        · simp only [Act.put, List.setIfInBounds_toArray, List.set_cons_zero, List.set_cons_succ, i64_w, i32_w]
          rfl
        refine one_ (i := 10) (N := some 38) #[true, true, true, true, true, true, true, true, true, true, true, false, true, true, false, false, false, false] rfl rfl (one_of HT_.out (by kernel_rfl)) (by decide) (fun K hK => ?_)
        refine Kd.R_lit_step (Kd.int .i64) _ 3 (by rfl) (N := 38) rfl (xs := ([x0, x1, x2, x3, x4] : List Int)) (inner := [.int .i64 x0, .int .i64 x1, .int .i64 x2, .int .i64 x3, .int .i64 x4]) (ok := fun _ => True) (okp := fun _ => True) ?hr ?hp (fun _ hk => hk) trivial (Below.refl _ _) (Nat.le_refl _) (by simp) ?_
        case hr => first | (go_simp; done) | (go_simp; rfl)
        case hp => exact Kd.reps_scalar ([x0, x1, x2, x3, x4] : List Int)
        intro vm W3 ho hb hg_ hnew_
        clear hg_ hnew_
        obtain ⟨Am, cm, hvm⟩ := Kd.R_slice ho
        subst hvm
        have HM := Aside0.mk (Kd.R_reads' ho).2
        have HB3 := Aside0.mk hb
        clear ho hb
        refine hK.out _ _ (HSS.out _ HB3.out) (fun hHeld => ?_)
        clear hK K
        refine norm_ (a' := ?_) ?_ ?_
        rotate_left
        · show Act.put _ (some 38) _ = _
          simp only [Act.put, List.setIfInBounds_toArray, List.set_cons_zero, List.set_cons_succ, i64_w, i32_w]
          rfl
        refine one_ (i := 11) (N := some 39) #[true, true, true, true, true, true, true, true, true, true, true, true, true, true, false, false, false, false] rfl rfl (one_of HT_.out (by kernel_rfl)) (by decide) (fun K hK => ?_)
        refine goes_ Tryz.func31 (by kernel_rfl) rfl #[.slice Am (5 : Nat) cm] (by rfl) rfl rfl (by (try simp only [List.map_toArray, List.map_cons, List.map_nil]); first | done | rfl) ?_
        refine (Ps.code_digits.calls _ Am cm [x0, x1, x2, x3, x4] ([x0, x1, x2, x3, x4].map itB) _ (HL.out.below (HBW.out.trans (HB3.out.mono (by simpa using hwbs)))) HM.out.2 HM.out.1 HD5.out).mono ?_
        rintro e W4 ⟨v39, rfl, hr4, hb⟩
        refine ⟨_, rfl, ?_⟩
        have HR4 := Aside0.mk (Kd.R_lower hr4 HB3.out.size)
        have HB4 := Aside0.mk (below_step HB3.out hb)
        clear hr4 hb HB3
        refine hK.out _ _ (HSS.out _ HB4.out) (fun hHeld => ?_)
        clear hK K
        refine norm_ (a' := ?_) ?_ ?_
        rotate_left
        · show Act.put _ (some 39) _ = _
          simp only [Act.put, List.setIfInBounds_toArray, List.set_cons_zero, List.set_cons_succ, i64_w, i32_w]
          rfl
        refine one_ (i := 14) (N := some 42) #[true, true, true, true, true, true, true, true, true, true, true, true, true, true, true, false, false, false] rfl rfl (one_of HT_.out (by kernel_rfl)) (by decide) (fun K hK => ?_)
        refine goes_ Tryz.func32 (by kernel_rfl) rfl #[.int .i64 x6, .int .i64 10] (by rfl) rfl rfl (by (try simp only [List.map_toArray, List.map_cons, List.map_nil]); first | done | rfl) ?_
        refine (Va.strconv_FormatInt.calls x6 10 (itB x6) _ (HL.out.below (HBW.out.trans (HB4.out.mono (by simpa using hwbs)))) HF6.out).mono ?_
        rintro e W5 ⟨rfl, hb⟩
        refine ⟨_, rfl, ?_⟩
        have HR5 := Aside0.mk (Kd.R_below HR4.out hb)
        have HB5 := Aside0.mk (below_step HB4.out hb)
        clear hb HB4 HR4
        refine hK.out _ _ (HSS.out _ HB5.out) (fun hHeld => ?_)
        clear hK K
        refine norm_ (a' := ?_) ?_ ?_
        rotate_left
        · show Act.put _ (some 42) _ = _
          simp only [Act.put, List.setIfInBounds_toArray, List.set_cons_zero, List.set_cons_succ, i64_w, i32_w]
          rfl
        refine one_ (i := 15) (N := some 43) #[true, true, true, true, true, true, true, true, true, true, true, true, true, true, true, true, false, false] rfl rfl (one_of HT_.out (by kernel_rfl)) (by decide) (fun K hK => ?_)
        refine Kd.R_lit_step Kd.string _ 9 (by rfl) (N := 43) rfl (xs := ([itB x6] : List ByteArray)) (inner := [.string (itB x6)]) (ok := fun _ => True) (okp := fun _ => True) ?hr ?hp (fun _ hk => hk) trivial (Below.refl _ _) (Nat.le_refl _) (by simp) ?_
        case hr => first | (go_simp; done) | (go_simp; rfl)
        case hp => exact Reps.snoc (Reps.none _ _) rfl rfl
        intro vq W7 ho hb hg_ hnew_
        clear hg_ hnew_
        obtain ⟨Aq, cq, hvq⟩ := Kd.R_slice ho
        subst hvq
        have HQ := Aside0.mk (Kd.R_reads' ho).2.2
        have HR7 := Aside0.mk (Kd.R_below HR5.out hb)
        have HB7 := Aside0.mk (below_step HB5.out hb)
        clear ho hb HB5 HR5
        refine hK.out _ _ (HSS.out _ HB7.out) (fun hHeld => ?_)
        clear hK K
        refine norm_ (a' := ?_) ?_ ?_
        rotate_left
        · show Act.put _ (some 43) _ = _
          simp only [Act.put, List.setIfInBounds_toArray, List.set_cons_zero, List.set_cons_succ, i64_w, i32_w]
          rfl
        refine one_ (i := 16) (N := some 44) #[true, true, true, true, true, true, true, true, true, true, true, true, true, true, true, true, true, false] rfl rfl (one_of HT_.out (by kernel_rfl)) (by decide) (fun K hK => ?_)
        refine Kd.R_append_rows_step Kd.string (w0 := Wb.drew) Wb.drew.heap.size (by rfl) (.tmp 39) (.tmp 43) 65 9 (.string ByteArray.empty) 16 rfl Tryz.underlying65 infoS rfl (by decide) (by omega) v39 ([x0, x1, x2, x3, x4].map itB) [itB x6] _ _ _ (fun _ => True) (fun _ => False) rfl rfl HR7.out HQ.out (fun _ _ h => h) (fun _ h => h.elim) (fun _ _ => trivial) HB7.out HB7.out.size (by simp) ?_
        intro v44 W8 ho hb hg hat
        have HR8 := Aside0.mk (Kd.own_of_R ho)
        have HB8 := Aside0.mk hb
        clear ho hb hg hat HB7 HR7
        refine hK.out _ _ (HSS.out _ HB8.out) (fun hHeld => ?_)
        clear hK K
        refine norm_ (a' := ?_) ?_ ?_
        rotate_left
        · show Act.put _ (some 44) _ = _
          simp only [Act.put, List.setIfInBounds_toArray, List.set_cons_zero, List.set_cons_succ, i64_w, i32_w]
          rfl
        refine pure_ (i := 17) (N := some 8) (v := ?_) (a' := ?_) #[true, true, true, true, true, true, true, true, true, true, true, true, true, true, true, true, true, true] rfl rfl (any_of HT_.out (by kernel_rfl)) (fun _ _ _ h => h) (Or.inl ⟨by rfl, ?_⟩) ?_ ?_
        rotate_left
        · intro w'
          first | (go_simp; with_reducible rfl)
        rotate_left
        · simp only [Act.put, List.setIfInBounds_toArray, List.set_cons_zero, List.set_cons_succ, i64_w, i32_w]
          rfl
        refine done_ (done_of HT_.out (by kernel_rfl)) ?_
        obtain ⟨A8, n8, c8, hv8⟩ : ∃ A1 n1 c1, v44 = .slice A1 n1 c1 := own_slice HR8.out
        subst hv8
        have HLEN := Aside0.mk (text_len HPL.out HTOT.out HXS.out HFL.out kk _ HX.out)
        have c87 : W8.cell? ⟨W.heap.size, 7, none⟩ = some (.slice A7 x7.length c7) := Lib.cell_of_heap (HSC.out _ HB8.out) 7
        have HCB := Aside0.mk (show ∀ W', Below Wb.drew.heap.size Wb.drew W' → Below w.heap.size w W' from fun W' hb' => HBW.out.trans (hb'.mono (by simpa using hwbs)))
        clear HSS HD5 HF6 hHeld
        obtain ⟨zs, hzs⟩ : ∃ zs, zs = insW ⟨x0, x1, x2, x3, x4, x5, x6, x7⟩ := ⟨_, rfl⟩
        have HZJ := Aside0.mk (show (Lib.join (zs.map (·.data.toList)) [32]).length ≤ 140737488355328 by rw [hzs]; exact HLEN.out.2)
        have HZL := Aside0.mk (show zs.length ≤ 140737488355328 by rw [hzs]; simp [insW]; omega)
        have HZS := Aside0.mk (show (Vd.lineS zs).data.toList = showI ⟨x0, x1, x2, x3, x4, x5, x6, x7⟩ by rw [lineS_list, hzs]; rfl)
        have HZ := Aside0.mk hzs
        clear hzs
        gi_wp2_with (first
          | (gi_at_call 31; refine (CallsIn.inRound l (callsIn_wide.2 (Ps.code_digits.calls _ A7 c7 x7 (x7.map itB) _ (HL.out.below (HCB.out _ HB8.out)) (HLF.out _ (HCB.out _ HB8.out)) hlf2 HD7.out))).mono ?_; rintro e W9 ⟨v48, rfl, hr9, hb⟩; obtain ⟨A9, c9, hv9⟩ := Kd.R_slice hr9; subst hv9; have HQ9 := Aside0.mk (show Kd.C Kd.string W9 A9 x7.length (x7.map itB) from by have h_ := (Kd.R_reads' hr9).2.2; rw [List.length_map] at h_; exact h_); have HO9 := Aside0.mk (own_below HR8.out hb); have HB9 := Aside0.mk (below_step HB8.out hb); clear hr9 hb HB8 HR8 HD7)
          | (gi_at_builtin; refine appendS_in Wb.drew rfl _ _ rfl (.slice A8 n8 c8) _ (x7.map itB) A9 x7.length _ rfl rfl HO9.out HQ9.out HB9.out (by simp; omega) ?_; intro v1 W10 ho hb ⟨A10, n10, c10, hv10⟩; subst hv10; have HO10 := Aside0.mk ho; have HB10 := Aside0.mk hb; have c105 : W10.cell? ⟨W.heap.size, 5, none⟩ = some (.string x5) := Lib.cell_of_heap (HSC.out _ hb) 5; clear ho hb HQ9 HO9 HB9)
          | (gi_at_call 33; refine (CallsIn.inRound l (callsIn_wide.2 (quote_calls x5 _ (by have := HL5.out; omega)))).mono ?_; rintro e W11 ⟨rfl, hb⟩; have HO11 := Aside0.mk (own_below HO10.out hb); have HB11 := Aside0.mk (below_step HB10.out hb); clear hb HO10 HB10)
          | (gi_at_builtin; refine appendS_in Wb.drew rfl _ _ rfl (.slice A10 n10 c10) _ [quB x5] (some ⟨W11.heap.size, 0, none⟩) 1 _ rfl rfl (own_below HO11.out (below_alloc (Below.refl _ _) _)) (one_C (Lib.cell_of_heap (heap_alloc_new W11 _) 0)) (HB11.out.alloc HB11.out.size _) (by simp; omega) ?_; intro v1 W12 ho hb _; have ho2 : OwnS W12 Wb.drew.heap.size v1 zs := (by rw [HZ.out]; exact ho); obtain ⟨g12, c12, hv12, hg12, hl12, hc12⟩ := own_cells ho2 (by rw [HZ.out]; simp [insW]); subst hv12; have HC12 := Aside0.mk hc12; have HB12 := Aside0.mk hb; clear ho ho2 hb hc12 HO11 HB11)
          | (gi_at_call 28; refine (CallsIn.inRound l (callsIn_wide.2 (Vd.line_calls g12 0 c12 zs _ HC12.out hg12 HZL.out hl12 HZJ.out))).mono ?_; rintro e W13 ⟨rfl, hb⟩; have HB13 := Aside0.mk (below_step HB12.out hb); clear hb HB12 HC12)
          | (gi_at_call 27; refine (CallsIn.inRound l (callsIn_wide.2 (HI.out.write hOb _ HX.out (Vd.lineS zs) HZS.out HLEN.out.1 (HBD2.out.trans (HB13.out.mono (by simp)))))).mono ?_; rintro e W14 ⟨rfl, hfin⟩; have HFIN := Aside0.mk hfin; clear hfin))
        exact HFIN.out
      case done2 =>
        intro D O1 W hD hnD hi hK
        have hfin := hi.fin (D := D) (by omega) hnD hK
        rw [HFL.out] at hfin
        have HNX := Aside0.mk (show BD w w1.heap.size (showL (l0.take (k + 1))) (D :: Ds) W from by
          have e : pl.flatMap showI = xs.flatMap (fun e => showI e.1) := by rw [← HXS.out, List.flatMap_map]
          rw [HST.out, e]
          exact hfin)
        clear hi hK hfin hnD hI0 hit
        gi_wp2
        exact ⟨⟨k + 1, D :: Ds, _, _, _, _, _, _, _, _, _, _, _, _, _, _, _, _, _, _, _, _, _, _, _, _, _, _, _, _, _, _, _, _, _, _, _, _, _, _, _, _, _, _, _, _, _, _, _, rfl, by omega, HNX.out⟩, by simp [intOf]; omega⟩
    · obtain rfl : k = l0.length := by omega
      rw [List.take_length] at HBD
      gi_wp2_with (gi_at_call 34; refine (callsIn_wide.2 HBD.out.all).mono ?_; rintro e W' ⟨rfl, hb, hnd, hds⟩; have HB2 := Aside0.mk hb; have HND := Aside0.mk hnd; have HDS := Aside0.mk hds; clear hb hnd hds HBD)
      refine leaves_marks Ds _ HND.out (fun D hD => (HDS.out D hD).2) (fun W'' hc => ?_)
      exact ⟨.tuple #[.string ⟨(showL l0).toArray⟩, .int .i64 0], by simp [results, Tryz.results14, go_sem], rfl, HB2.out.trans (hc.below HB2.out.size (fun i hi => (HDS.out i hi).1))⟩
end Go.Proofs.YtjlhhjfmekjbhaaGreatDoor.Sh

/- The reference's Quote, Show, Marks, Same and the law's Small, in closed form. No condition. -/
namespace Go.Proofs.YtjlhhjfmekjbhaaGreatDoor.Vf
open Go.RowKit Go.Proofs.YtjlhhjfmekjbhaaGreatDoorW.PrintWords Go.Proofs.YtjlhhjfmekjbhaaGreatDoorW.PrintLast Go.Proofs.YtjlhhjfmekjbhaaGreatDoorW.PrintMore Go.Proofs.YtjlhhjfmekjbhaaGreatDoor.Va Go.Proofs.YtjlhhjfmekjbhaaGreatDoor.Pq Go.Proofs.YtjlhhjfmekjbhaaGreatDoor.Cd Go.Proofs.YtjlhhjfmekjbhaaGreatDoor.Cf Go.Proofs.YtjlhhjfmekjbhaaGreatDoor.Bld Go.Proofs.YtjlhhjfmekjbhaaGreatDoor.Sh Go.Proofs.YtjlhhjfmekjbhaaGreatDoor.Ev
set_option linter.unusedVariables false
set_option linter.unusedSimpArgs false
def mkB (l : List UInt8) : ByteArray := ⟨l.toArray⟩
theorem mkB_cat (a b : List UInt8) : mkB a ++ mkB b = mkB (a ++ b) := by
  apply ByteArray.ext
  rw [ByteArray.data_append]
  simp [mkB]
theorem mkB_size (a : List UInt8) : (mkB a).size = a.length := by simp [mkB, ByteArray.size]
theorem mkB_of (s : ByteArray) : mkB s.data.toList = s := rfl
theorem ext1 (s : ByteArray) (i : Nat) (h : i < s.size) : s.extract i (i + 1) = mkB [s.data.toList.getD i 0] := by
  apply ByteArray.ext
  apply Array.ext'
  rw [Lib.extract_data, Nat.add_sub_cancel_left]
  have hl : i < s.data.toList.length := h
  rw [Ev.drop_at s.data.toList i 0 hl]
  rfl
def hexT : ByteArray := ⟨#[48, 49, 50, 51, 52, 53, 54, 55, 56, 57, 97, 98, 99, 100, 101, 102]⟩
theorem hex1F : ∀ c : Fin 16, hexT.extract c.val (c.val + 1) = mkB [hexB c.val] := by decide +kernel
theorem hex1 (c : Nat) (h : c < 16) : hexT.extract c (c + 1) = mkB [hexB c] := hex1F ⟨c, h⟩
theorem quote_loop (s : ByteArray) (hs : s.size ≤ 17592186044416) : ∀ d i : Nat, i + d = s.size → ∀ a : List UInt8, a.length ≤ 4 * i + 1 → Ev fun k => q2_Quote.l0 k s hexT (mkB a) (i : Int) = some (mkB (a ++ ((s.data.toList.drop i).flatMap qB ++ [34]))) := by
  have hl : s.data.toList.length = s.size := rfl
  intro d
  induction d with
  | zero =>
    intro i hi a ha
    refine Ev.step fun k => ?_
    rw [q2_Quote.l0, if_neg (by omega), if_pos (by rw [mkB_size]; omega), List.drop_eq_nil_of_le (by omega), show (⟨#[34]⟩ : ByteArray) = mkB [34] from rfl, mkB_cat]
    rfl
  | succ d ih =>
    intro i hi a ha
    have hw : wrap64 ((i : Int) + 1) = ((i + 1 : Nat) : Int) := by unfold wrap64; omega
    have hbt : bt s (i : Int) = ((s.data.toList.getD i 0).toNat : Int) := bt_getD s i (by omega)
    have hd := Ev.drop_at s.data.toList i 0 (by omega)
    have he := ext1 s i (by omega)
    rw [hd, List.flatMap_cons]
    have hq := qB_len (s.data.toList.getD i 0)
    generalize s.data.toList.getD i 0 = c at *
    have hc : c.toNat < 256 := c.toNat_lt
    have go : ∀ t, qB c = t → Ev fun k => q2_Quote.l0 k s hexT (mkB (a ++ t)) ((i + 1 : Nat) : Int) = some (mkB (a ++ (qB c ++ (s.data.toList.drop (i + 1)).flatMap qB ++ [34]))) := by
      intro t ht
      refine (ih (i + 1) (by omega) (a ++ t) (by rw [← ht, List.length_append]; omega)).mono fun k hk => ?_
      rw [hk, ht]
      simp
    have hsz : (mkB a).size ≤ 4 * i + 1 := by rw [mkB_size]; exact ha
    by_cases h2 : c = 34 ∨ c = 92
    · have hj : Ev fun k => q2_Quote.j1 k s hexT (mkB a) (i : Int) (c.toNat : Int) true = some (mkB (a ++ (qB c ++ (s.data.toList.drop (i + 1)).flatMap qB ++ [34]))) := by
        refine (go [92, c] (by rcases h2 with rfl | rfl <;> rfl)).succ fun k hk => ?_
        rw [q2_Quote.j1, if_pos rfl, if_pos (by omega), if_pos (by omega), hw, if_pos (by omega), if_pos (by omega), Int.toNat_natCast, Int.toNat_natCast, he, show (⟨#[92]⟩ : ByteArray) = mkB [92] from rfl, mkB_cat, if_pos (by rw [mkB_size, mkB_size]; simp; omega), mkB_cat, List.append_assoc]
        exact hk
      refine hj.succ fun k hk => ?_
      rw [q2_Quote.l0, if_pos (by omega), if_pos (by omega), hbt]
      by_cases h34 : c = 34
      · rw [if_pos (by rw [h34]; rfl), hk]
      · have h92 : c = 92 := h2.resolve_left h34
        rw [if_neg (fun e => h34 (UInt8.toNat_inj.1 (by show _ = 34; omega))), show ((c.toNat : Int) == 92) = true from by rw [h92]; rfl, hk]
    · have n34 : ¬ (c.toNat : Int) = 34 := fun e => h2 (.inl (UInt8.toNat_inj.1 (by show _ = 34; omega)))
      have n92 : ((c.toNat : Int) == 92) = false := beq_eq_false_iff_ne.mpr (fun e => h2 (.inr (UInt8.toNat_inj.1 (by show _ = 92; omega))))
      have hj : Ev fun k => q2_Quote.j1 k s hexT (mkB a) (i : Int) (c.toNat : Int) false = some (mkB (a ++ (qB c ++ (s.data.toList.drop (i + 1)).flatMap qB ++ [34]))) := by
        by_cases h10 : c = 10
        · refine (go [92, 110] (by rw [h10]; rfl)).succ fun k hk => ?_
          rw [q2_Quote.j1, if_neg (by decide), if_pos (by rw [h10]; rfl), if_pos (by omega), hw, show (⟨#[92, 110]⟩ : ByteArray) = mkB [92, 110] from rfl, mkB_cat]
          exact hk
        have n10 : ¬ (c.toNat : Int) = 10 := fun e => h10 (UInt8.toNat_inj.1 (by show _ = 10; omega))
        by_cases h9 : c = 9
        · refine (go [92, 116] (by rw [h9]; rfl)).succ fun k hk => ?_
          rw [q2_Quote.j1, if_neg (by decide), if_neg n10, if_pos (by rw [h9]; rfl), if_pos (by omega), hw, show (⟨#[92, 116]⟩ : ByteArray) = mkB [92, 116] from rfl, mkB_cat]
          exact hk
        have n9 : ¬ (c.toNat : Int) = 9 := fun e => h9 (UInt8.toNat_inj.1 (by show _ = 9; omega))
        by_cases hp : 32 ≤ c ∧ c ≤ 126
        · have p1 : 32 ≤ c.toNat := UInt8.le_iff_toNat_le.1 hp.1
          have p2 : c.toNat ≤ 126 := UInt8.le_iff_toNat_le.1 hp.2
          refine (go [c] (by unfold qB; rw [if_neg h10, if_neg h9, if_neg h2, if_pos hp])).succ fun k hk => ?_
          rw [q2_Quote.j1, if_neg (by decide), if_neg n10, if_neg n9, if_pos (by omega), if_pos (by omega), if_pos (by omega), hw, if_pos (by omega), if_pos (by omega), Int.toNat_natCast, Int.toNat_natCast, he, if_pos (by rw [mkB_size, mkB_size]; simp; omega), mkB_cat]
          exact hk
        have hp' : ¬ (32 ≤ c.toNat ∧ c.toNat ≤ 126) := fun h => hp ⟨UInt8.le_iff_toNat_le.2 h.1, UInt8.le_iff_toNat_le.2 h.2⟩
        refine (go [92, 120, hexB (c.toNat / 16), hexB (c.toNat % 16)] (by unfold qB; rw [if_neg h10, if_neg h9, if_neg h2, if_neg hp])).succ fun k hk => ?_
        have e1 : Int.tdiv (c.toNat : Int) 16 % 256 = ((c.toNat / 16 : Nat) : Int) := by rw [Int.tdiv_eq_ediv_of_nonneg (by omega)]; omega
        have e2 : Int.tmod (c.toNat : Int) 16 = ((c.toNat % 16 : Nat) : Int) := by rw [Int.tmod_eq_emod_of_nonneg (by omega)]; omega
        have e3 : (((c.toNat / 16 : Nat) : Int) + 1) % 256 = ((c.toNat / 16 + 1 : Nat) : Int) := by omega
        have e4 : (((c.toNat % 16 : Nat) : Int) + 1) % 256 = ((c.toNat % 16 + 1 : Nat) : Int) := by omega
        have hx : (hexT.size : Int) = 16 := rfl
        have hx1 := hex1 (c.toNat / 16) (by omega)
        have hx2 := hex1 (c.toNat % 16) (by omega)
        have step : ∀ X : Option ByteArray, X = q2_Quote.l0 k s hexT (mkB (a ++ [92, 120, hexB (c.toNat / 16), hexB (c.toNat % 16)])) ((i + 1 : Nat) : Int) → X = some (mkB (a ++ (qB c ++ (s.data.toList.drop (i + 1)).flatMap qB ++ [34]))) := fun X hX => hX.trans hk
        rw [q2_Quote.j1, if_neg (by decide), if_neg n10, if_neg n9, e1, e2, e3, e4]
        simp only [Int.toNat_natCast, hx1, hx2, hx, show (⟨#[92, 120]⟩ : ByteArray) = mkB [92, 120] from rfl, mkB_cat, mkB_size, hw]
        have f0 : a.length + 2 ≤ 9223372036854775807 := by omega
        have f1 : (0 : Int) ≤ ((c.toNat / 16 : Nat) : Int) := by omega
        have f2 : ((c.toNat / 16 : Nat) : Int) ≤ ((c.toNat / 16 + 1 : Nat) : Int) := by omega
        have f3 : ((c.toNat / 16 + 1 : Nat) : Int) ≤ 16 := by omega
        have f4 : (a ++ [92, 120]).length + [hexB (c.toNat / 16)].length ≤ 9223372036854775807 := by simp; omega
        have f5 : (0 : Int) ≤ ((c.toNat % 16 : Nat) : Int) := by omega
        have f6 : ((c.toNat % 16 : Nat) : Int) ≤ ((c.toNat % 16 + 1 : Nat) : Int) := by omega
        have f7 : ((c.toNat % 16 + 1 : Nat) : Int) ≤ 16 := by omega
        have f8 : (a ++ [92, 120] ++ [hexB (c.toNat / 16)]).length + [hexB (c.toNat % 16)].length ≤ 9223372036854775807 := by simp; omega
        simp only [if_pos f0, if_pos f1, if_pos f2, if_pos f3, if_pos f4, if_pos f5, if_pos f6, if_pos f7, if_pos f8]
        simp only [List.append_assoc, List.cons_append, List.nil_append] at hk ⊢
        by_cases h32 : (c.toNat : Int) ≥ 32
        · rw [if_pos h32, if_neg (by omega)]
          exact hk
        · rw [if_neg h32]
          exact hk
      refine hj.succ fun k hk => ?_
      rw [q2_Quote.l0, if_pos (by omega), if_pos (by omega), hbt, if_neg n34, n92, hk]
theorem quote_tells (s : ByteArray) (hs : s.size ≤ 17592186044416) : Ev fun k => q2_Quote.f k s = some (quB s) := by
  refine (quote_loop s hs s.size 0 (by omega) [34] (by simp)).mono fun k hk => ?_
  unfold q2_Quote.f
  rw [show (0 : Int) = ((0 : Nat) : Int) from rfl, show (⟨#[34]⟩ : ByteArray) = mkB [34] from rfl]
  exact hk
theorem num_tells (n : Int) (h : B64 n) : q9_num.f n = some (itB n) := by
  unfold q9_num.f Vb.q6_Key.f
  rw [if_pos (show Vb.FB n ⟨#[]⟩ from ⟨h, by decide⟩), Option.bind_some]
  unfold keyS
  rw [if_neg (by decide), if_neg (by decide), if_neg (by decide), if_pos rfl]
  rfl
end Go.Proofs.YtjlhhjfmekjbhaaGreatDoor.Vf

/- The reference's Show, Marks, Same and the law's Small, in closed form. No condition. -/
namespace Go.Proofs.YtjlhhjfmekjbhaaGreatDoor.Vf
open Go.RowKit Go.Proofs.YtjlhhjfmekjbhaaGreatDoorW.PrintWords Go.Proofs.YtjlhhjfmekjbhaaGreatDoorW.PrintLast Go.Proofs.YtjlhhjfmekjbhaaGreatDoorW.PrintMore Go.Proofs.YtjlhhjfmekjbhaaGreatDoor.Va Go.Proofs.YtjlhhjfmekjbhaaGreatDoor.Pq Go.Proofs.YtjlhhjfmekjbhaaGreatDoor.Cd Go.Proofs.YtjlhhjfmekjbhaaGreatDoor.Cf Go.Proofs.YtjlhhjfmekjbhaaGreatDoor.Bld Go.Proofs.YtjlhhjfmekjbhaaGreatDoor.Sh Go.Proofs.YtjlhhjfmekjbhaaGreatDoor.Ev
set_option linter.unusedVariables false
set_option linter.unusedSimpArgs false
theorem rdX (l : List X) (i : Nat) : rd_T31 l (i : Int) = l.getD i z31 := by unfold rd_T31; rw [Int.toNat_natCast]
theorem rdP (l : List P) (i : Nat) : rd_T28 l (i : Int) = l.getD i z28 := by unfold rd_T28; rw [Int.toNat_natCast]
theorem getD_mem {α : Type} (l : List α) (i : Nat) (d : α) (h : i < l.length) : l.getD i d ∈ l := by
  rw [List.getD_eq_getElem?_getD, List.getElem?_eq_getElem h]
  exact List.getElem_mem _
/-! ### Show -/
def spB (xs : List ByteArray) : List UInt8 := xs.flatMap fun s => 32 :: s.data.toList
theorem join_cons (a b : List UInt8) (r : List (List UInt8)) : Lib.join (a :: b :: r) [32] = a ++ (32 :: Lib.join (b :: r) [32]) := by
  unfold Lib.join
  simp [List.intercalate, List.intersperse]
theorem join_sp (s : ByteArray) (xs : List ByteArray) : Lib.join ((s :: xs).map (·.data.toList)) [32] = s.data.toList ++ spB xs := by
  induction xs generalizing s with
  | nil => simp [Lib.join, spB, List.intercalate]
  | cons x xs ih =>
    have h := ih x
    rw [List.map_cons, List.map_cons, join_cons]
    rw [List.map_cons] at h
    rw [h]
    simp [spB]
def tailI (l : List Int) (s : ByteArray) : List UInt8 := spB (l.map itB) ++ (32 :: quoteL s.data.toList ++ [10])
theorem showI_eq (x : X) : showI x = (itB x.f0).data.toList ++ spB [itB x.f1, itB x.f2, itB x.f3, itB x.f4, itB x.f6] ++ tailI x.f7 x.f5 := by
  unfold showI lineL insW tailI
  rw [show [x.f0, x.f1, x.f2, x.f3, x.f4].map itB ++ [itB x.f6] ++ x.f7.map itB ++ [quB x.f5] = itB x.f0 :: ([itB x.f1, itB x.f2, itB x.f3, itB x.f4, itB x.f6] ++ (x.f7.map itB ++ [quB x.f5])) by simp, join_sp]
  simp [spB, quB]
theorem headP_eq (n : Int) : headP n = [112, 114, 111, 99, 32] ++ (itB n).data.toList ++ [10] := by
  unfold headP lineL
  rw [join_sp]
  simp [spB]
theorem mkB_it (a : List UInt8) (n : Int) : mkB a ++ itB n = mkB (a ++ (itB n).data.toList) := by
  rw [← mkB_of (itB n), mkB_cat]
  rfl
theorem l2_tells (l : List P) (j i : Nat) (x : X) (hx : SmX x) (r : ByteArray × Int) : ∀ d q : Nat, q + d = x.f7.length → ∀ a : List UInt8, (a ++ tailI (x.f7.drop q) x.f5).length ≤ 17592186044416 →
    (Ev fun k => q9_Show.l1 k l (mkB (a ++ tailI (x.f7.drop q) x.f5)) (j : Int) (wrap64 ((i : Int) + 1)) = some r) → Ev fun k => q9_Show.l2 k l (mkB a) (j : Int) (i : Int) (q : Int) x.f0 x.f1 x.f2 x.f3 x.f4 x.f5 x.f6 x.f7 = some r := by
  have h7 := hx.l7
  intro d
  induction d with
  | zero =>
    intro q hq a ha hr
    rw [List.drop_eq_nil_of_le (by omega)] at ha hr
    have hal : a.length + 1 + (quB x.f5).size + 1 ≤ 17592186044416 := by
      have : (quB x.f5).size = (quoteL x.f5.data.toList).length := by simp [quB, ByteArray.size]
      simp only [tailI, spB, List.map_nil, List.flatMap_nil, List.nil_append, List.length_append, List.length_cons, List.length_nil] at ha
      omega
    refine ((quote_tells x.f5 (by have := hx.l5; omega)).and hr).succ fun k hk => ?_
    rw [q9_Show.l2, if_neg (by omega), if_pos (by rw [mkB_size]; omega), hk.1, Option.bind_some, show (⟨#[32]⟩ : ByteArray) = mkB [32] from rfl, show (⟨#[10]⟩ : ByteArray) = mkB [10] from rfl, mkB_cat, if_pos (by rw [mkB_size]; simp; omega), show quB x.f5 = mkB (quoteL x.f5.data.toList) from rfl, mkB_cat, if_pos (by
      rw [mkB_size]
      have : (quB x.f5).size = (quoteL x.f5.data.toList).length := by simp [quB, ByteArray.size]
      simp only [List.length_append, List.length_cons, List.length_nil]
      omega), mkB_cat]
    have e : a ++ [32] ++ quoteL x.f5.data.toList ++ [10] = a ++ tailI [] x.f5 := by simp [tailI, spB]
    rw [e]
    exact hk.2
  | succ d ih =>
    intro q hq a ha hr
    have hw : wrap64 ((q : Int) + 1) = ((q + 1 : Nat) : Int) := by unfold wrap64; omega
    have hd := Ev.drop_at x.f7 q 0 (by omega)
    have hm := hx.h7 _ (getD_mem x.f7 q 0 (by omega))
    have e : a ++ tailI (x.f7.drop q) x.f5 = (a ++ [32] ++ (itB (x.f7.getD q 0)).data.toList) ++ tailI (x.f7.drop (q + 1)) x.f5 := by
      rw [hd]
      simp [tailI, spB]
    rw [e] at ha hr
    have hal : a.length + 1 + (itB (x.f7.getD q 0)).size ≤ 17592186044416 := by
      have : (itB (x.f7.getD q 0)).size = (itB (x.f7.getD q 0)).data.toList.length := rfl
      simp only [List.length_append, List.length_cons, List.length_nil] at ha
      omega
    refine (ih (q + 1) (by omega) _ ha hr).succ fun k hk => ?_
    rw [q9_Show.l2, if_pos (by omega), if_pos (by rw [mkB_size]; omega), if_pos (by omega), rd_nat, num_tells _ hm, Option.bind_some, show (⟨#[32]⟩ : ByteArray) = mkB [32] from rfl, mkB_cat, if_pos (by rw [mkB_size]; simp only [List.length_append, List.length_cons, List.length_nil]; omega), mkB_it, hw]
    exact hk
theorem size_it (n : Int) : (itB n).size = (itB n).data.toList.length := rfl
theorem l1S_tells (l : List P) (j : Nat) (hj : j < l.length) (hl : l.length ≤ 1000000) (hpl : (l.getD j z28).f1.length ≤ 1000000) (hx : ∀ x ∈ (l.getD j z28).f1, SmX x) (r : ByteArray × Int) : ∀ d i : Nat, i + d = (l.getD j z28).f1.length → ∀ a : List UInt8, (a ++ ((l.getD j z28).f1.drop i).flatMap showI).length ≤ 17592186044416 →
    (Ev fun k => q9_Show.l0 k l (mkB (a ++ ((l.getD j z28).f1.drop i).flatMap showI)) (wrap64 ((j : Int) + 1)) = some r) → Ev fun k => q9_Show.l1 k l (mkB a) (j : Int) (i : Int) = some r := by
  intro d
  induction d with
  | zero =>
    intro i hi a ha hr
    rw [List.drop_eq_nil_of_le (by omega)] at hr
    refine hr.succ fun k hk => ?_
    rw [q9_Show.l1, if_pos (by omega), if_pos (by omega), rdP, if_neg (by omega)]
    simpa using hk
  | succ d ih =>
    intro i hi a ha hr
    have hw : wrap64 ((i : Int) + 1) = ((i + 1 : Nat) : Int) := by unfold wrap64; omega
    have hd := Ev.drop_at (l.getD j z28).f1 i z31 (by omega)
    have hm := hx _ (getD_mem (l.getD j z28).f1 i z31 (by omega))
    rw [hd, List.flatMap_cons, ← List.append_assoc] at ha hr
    have ih' := ih (i + 1) (by omega) _ ha hr
    have hX : rd_T31 ((l.getD j z28).f1) (i : Int) = (l.getD j z28).f1.getD i z31 := rdX _ _
    have hlt : (i : Int) < ((l.getD j z28).f1.length : Int) := by omega
    generalize (l.getD j z28).f1.getD i z31 = x at *
    rw [showI_eq] at ih' ha
    simp only [List.append_assoc] at ih' ha
    simp only [← List.append_assoc] at ih' ha
    have h2 := l2_tells l j i x hm r x.f7.length 0 (by omega) (a ++ (itB x.f0).data.toList ++ spB [itB x.f1, itB x.f2, itB x.f3, itB x.f4, itB x.f6]) (by
      rw [List.drop_zero]
      simp only [List.append_assoc] at ha ⊢
      simp only [List.length_append] at ha ⊢
      omega) (by rw [List.drop_zero, hw]; exact ih')
    have hal : a.length + (itB x.f0).size + 1 + (itB x.f1).size + 1 + (itB x.f2).size + 1 + (itB x.f3).size + 1 + (itB x.f4).size + 1 + (itB x.f6).size ≤ 17592186044416 := by
      simp only [spB, List.flatMap_cons, List.flatMap_nil, List.length_append, List.length_cons, List.length_nil, ← size_it] at ha
      omega
    refine h2.succ fun k hk => ?_
    have e : a ++ (itB x.f0).data.toList ++ spB [itB x.f1, itB x.f2, itB x.f3, itB x.f4, itB x.f6] = a ++ (itB x.f0).data.toList ++ [32] ++ (itB x.f1).data.toList ++ [32] ++ (itB x.f2).data.toList ++ [32] ++ (itB x.f3).data.toList ++ [32] ++ (itB x.f4).data.toList ++ [32] ++ (itB x.f6).data.toList := by simp [spB]
    rw [e] at hk
    rw [q9_Show.l1, if_pos (by omega), if_pos (by omega), rdP, if_pos hlt, if_pos (by omega), hX]
    simp only [num_tells _ hm.h0, num_tells _ hm.h1, num_tells _ hm.h2, num_tells _ hm.h3, num_tells _ hm.h4, num_tells _ hm.h6, Option.bind_some, show (⟨#[32]⟩ : ByteArray) = mkB [32] from rfl, mkB_cat, mkB_it, mkB_size, List.length_append, List.length_cons, List.length_nil, ← size_it]
    repeat rw [if_pos (by omega)]
    exact hk
theorem l0S_tells (l : List P) (hl : l.length ≤ 1000000) (h : ∀ p ∈ l, B64 p.f0 ∧ p.f1.length ≤ 1000000 ∧ ∀ x ∈ p.f1, SmX x) : ∀ d j : Nat, j + d = l.length → ∀ a : List UInt8, (a ++ showL (l.drop j)).length ≤ 17592186044416 →
    Ev fun k => q9_Show.l0 k l (mkB a) (j : Int) = some (mkB (a ++ showL (l.drop j)), 0) := by
  intro d
  induction d with
  | zero =>
    intro j hj a ha
    refine Ev.step fun k => ?_
    rw [q9_Show.l0, if_neg (by omega), List.drop_eq_nil_of_le (by omega)]
    simp [showL]
  | succ d ih =>
    intro j hj a ha
    have hw : wrap64 ((j : Int) + 1) = ((j + 1 : Nat) : Int) := by unfold wrap64; omega
    have hd := Ev.drop_at l j z28 (by omega)
    have hm := h _ (getD_mem l j z28 (by omega))
    have e : a ++ showL (l.drop j) = (a ++ headP (l.getD j z28).f0 ++ (l.getD j z28).f1.flatMap showI) ++ showL (l.drop (j + 1)) := by
      rw [hd]
      simp [showL, showP]
    rw [e] at ha ⊢
    have h1 := l1S_tells l j (by omega) hl hm.2.1 hm.2.2 _ (l.getD j z28).f1.length 0 (by omega) (a ++ headP (l.getD j z28).f0) (by
      rw [List.drop_zero]
      simp only [List.length_append] at ha ⊢
      omega) (by rw [List.drop_zero, hw]; exact ih (j + 1) (by omega) _ ha)
    have hal : a.length + 5 + (itB (l.getD j z28).f0).size + 1 ≤ 17592186044416 := by
      rw [headP_eq] at ha
      simp only [List.length_append, List.length_cons, List.length_nil, ← size_it] at ha
      omega
    refine h1.succ fun k hk => ?_
    rw [q9_Show.l0, if_pos (by omega), if_pos (by rw [mkB_size]; omega), if_pos (by omega), rdP, num_tells _ hm.1]
    simp only [Option.bind_some, show (⟨#[112, 114, 111, 99, 32]⟩ : ByteArray) = mkB [112, 114, 111, 99, 32] from rfl, show (⟨#[10]⟩ : ByteArray) = mkB [10] from rfl, mkB_cat, mkB_it, mkB_size, List.length_append, List.length_cons, List.length_nil, ← size_it]
    repeat rw [if_pos (by omega)]
    simp only [headP_eq, List.append_assoc] at hk ⊢
    exact hk
theorem right_ev (l : List P) (h : TinyL l) : Ev fun k => q9_Right.f k l = some (codeS l) := ⟨l.length * 104 + 121, fun k hk => by
  obtain ⟨e, rfl⟩ : ∃ e, k = l.length * 104 + 1 + (120 + e) := ⟨k - (l.length * 104 + 121), by omega⟩
  unfold q9_Right.f codeS
  have := l0R_tells l h l.length 0 (120 + e) (by omega) (by omega)
  simpa using this⟩
def showR (l : List P) : ByteArray × Int := if codeS l = true then (mkB (showL l), 0) else (⟨#[]⟩, 90)
theorem show_tells (l : List P) (h : TinyL l) (hs : SmL l) : Ev fun k => q9_Show.f k l = some (showR l) := by
  have h0 := l0S_tells l (by have := h.len; omega) (fun p hp => ⟨(hs.proc p hp).1, by have := (h.proc p hp).1; omega, (hs.proc p hp).2⟩) l.length 0 (by omega) [] (by simpa using hs.tot)
  refine ((right_ev l h).and h0).mono fun k hk => ?_
  unfold q9_Show.f showR
  rw [hk.1, Option.bind_some]
  by_cases hc : codeS l = true
  · rw [if_pos hc, if_pos hc]
    have := hk.2
    rw [List.drop_zero, List.nil_append] at this
    exact this
  · rw [if_neg hc, if_neg hc]
end Go.Proofs.YtjlhhjfmekjbhaaGreatDoor.Vf

/- The reference's Marks, Same, the law's Small, in closed form. No condition. -/
namespace Go.Proofs.YtjlhhjfmekjbhaaGreatDoor.Vf
open Go.RowKit Go.Proofs.YtjlhhjfmekjbhaaGreatDoorW.PrintWords Go.Proofs.YtjlhhjfmekjbhaaGreatDoorW.PrintLast Go.Proofs.YtjlhhjfmekjbhaaGreatDoorW.PrintMore Go.Proofs.YtjlhhjfmekjbhaaGreatDoor.Va Go.Proofs.YtjlhhjfmekjbhaaGreatDoor.Pq Go.Proofs.YtjlhhjfmekjbhaaGreatDoor.Cd Go.Proofs.YtjlhhjfmekjbhaaGreatDoor.Cf Go.Proofs.YtjlhhjfmekjbhaaGreatDoor.Bld Go.Proofs.YtjlhhjfmekjbhaaGreatDoor.Sh Go.Proofs.YtjlhhjfmekjbhaaGreatDoor.Ev
set_option linter.unusedVariables false
set_option linter.unusedSimpArgs false
/-! ### Marks -/
theorem l1M_tells (l : List P) (j : Nat) (hj : j < l.length) (hl : l.length ≤ 1000000) (hpl : (l.getD j z28).f1.length ≤ 1000000) (r : List Int) : ∀ d i : Nat, i + d = (l.getD j z28).f1.length → ∀ out : List Int, out.length + d ≤ 17592186044415 →
    (Ev fun k => q9_Marks.l0 k l (out ++ marksX ((l.getD j z28).f1.drop i)) (wrap64 ((j : Int) + 1)) = some r) → Ev fun k => q9_Marks.l1 k l out (j : Int) (i : Int) = some r := by
  intro d
  induction d with
  | zero =>
    intro i hi out ho hr
    rw [List.drop_eq_nil_of_le (by omega)] at hr
    refine hr.succ fun k hk => ?_
    rw [q9_Marks.l1, if_pos (by omega), if_pos (by omega), rdP, if_neg (by omega)]
    simpa [marksX] using hk
  | succ d ih =>
    intro i hi out ho hr
    have hw : wrap64 ((i : Int) + 1) = ((i + 1 : Nat) : Int) := by unfold wrap64; omega
    have hd := Ev.drop_at (l.getD j z28).f1 i z31 (by omega)
    have hX : rd_T31 ((l.getD j z28).f1) (i : Int) = (l.getD j z28).f1.getD i z31 := rdX _ _
    have hlt : (i : Int) < ((l.getD j z28).f1.length : Int) := by omega
    rw [hd] at hr
    generalize (l.getD j z28).f1.getD i z31 = x at *
    have hin : markOf x = some x.f6 → (Ev fun k => q9_Marks.l1 k l (out ++ [x.f6]) (j : Int) ((i + 1 : Nat) : Int) = some r) := by
      intro hm
      refine ih (i + 1) (by omega) (out ++ [x.f6]) (by rw [List.length_append, List.length_singleton]; omega) ?_
      refine hr.mono fun k hk => ?_
      unfold marksX at hk ⊢
      rw [List.filterMap_cons_some hm] at hk
      simpa using hk
    have hk0 : out.length < 17592186044416 := by omega
    by_cases c6 : x.f0 = 6
    · refine (hin (by unfold markOf; rw [if_pos (.inl c6)])).succ fun k hk => ?_
      rw [q9_Marks.l1, if_pos (by omega), if_pos (by omega), rdP, if_pos hlt, if_pos (by omega), hX, if_pos c6, if_pos hk0, hw, hk]
    by_cases c12 : x.f0 = 12
    · refine (hin (by unfold markOf; rw [if_pos (.inr (.inl c12))])).succ fun k hk => ?_
      rw [q9_Marks.l1, if_pos (by omega), if_pos (by omega), rdP, if_pos hlt, if_pos (by omega), hX, if_neg c6, if_pos c12, if_pos hk0, hw, hk]
    by_cases c13 : x.f0 = 13
    · refine (hin (by unfold markOf; rw [if_pos (.inr (.inr c13))])).succ fun k hk => ?_
      rw [q9_Marks.l1, if_pos (by omega), if_pos (by omega), rdP, if_pos hlt, if_pos (by omega), hX, if_neg c6, if_neg c12, if_pos c13, if_pos hk0, hw, hk]
    have hm : markOf x = none := by unfold markOf; rw [if_neg (by omega)]
    have hno : Ev fun k => q9_Marks.l1 k l out (j : Int) ((i + 1 : Nat) : Int) = some r := by
      refine ih (i + 1) (by omega) out (by omega) ?_
      refine hr.mono fun k hk => ?_
      unfold marksX at hk ⊢
      rw [List.filterMap_cons_none hm] at hk
      exact hk
    refine hno.succ fun k hk => ?_
    rw [q9_Marks.l1, if_pos (by omega), if_pos (by omega), rdP, if_pos hlt, if_pos (by omega), hX, if_neg c6, if_neg c12, if_neg c13, hw, hk]
theorem marks_len (l : List X) : (marksX l).length ≤ l.length := List.length_filterMap_le _ _
theorem l0M_tells (l : List P) (h : TinyL l) : ∀ d j : Nat, j + d = l.length → ∀ out : List Int, out.length ≤ 100 * j → Ev fun k => q9_Marks.l0 k l out (j : Int) = some (out ++ marksL (l.drop j)) := by
  have hll := h.len
  intro d
  induction d with
  | zero =>
    intro j hj out ho
    refine Ev.step fun k => ?_
    rw [q9_Marks.l0, if_neg (by omega), List.drop_eq_nil_of_le (by omega)]
    simp [marksL, marksX]
  | succ d ih =>
    intro j hj out ho
    have hw : wrap64 ((j : Int) + 1) = ((j + 1 : Nat) : Int) := by unfold wrap64; omega
    have hd := Ev.drop_at l j z28 (by omega)
    have hm := h.proc _ (getD_mem l j z28 (by omega))
    have hml := marks_len (l.getD j z28).f1
    have hi := ih (j + 1) (by omega) (out ++ marksX (l.getD j z28).f1) (by rw [List.length_append]; have := hm.1; omega)
    have h1 := l1M_tells l j (by omega) (by omega) (by have := hm.1; omega) _ (l.getD j z28).f1.length 0 (by omega) out (by have := hm.1; omega) (by rw [List.drop_zero, hw]; exact hi)
    refine h1.succ fun k hk => ?_
    rw [q9_Marks.l0, if_pos (by omega)]
    refine hk.trans ?_
    rw [hd]
    simp [marksL, marksX]
theorem marks_tells (l : List P) (h : TinyL l) : Ev fun k => q9_Marks.f k l = some (marksL l) := by
  refine (l0M_tells l h l.length 0 (by omega) [] (by simp)).mono fun k hk => ?_
  unfold q9_Marks.f
  simpa using hk
/-! ### Two lists of numbers -/
theorem same01_loop (a b : List Int) (h : a.length = b.length) (hl : a.length ≤ 17592186044416) : ∀ d i : Nat, i + d = a.length → Ev fun k => q1_Same.l0 k a b (i : Int) = some (a.drop i == b.drop i) := by
  intro d
  induction d with
  | zero =>
    intro i hi
    refine Ev.step fun k => ?_
    rw [q1_Same.l0, if_neg (by omega), List.drop_eq_nil_of_le (by omega), List.drop_eq_nil_of_le (by omega)]
    rfl
  | succ d ih =>
    intro i hi
    have hw : wrap64 ((i : Int) + 1) = ((i + 1 : Nat) : Int) := by unfold wrap64; omega
    have ha := Ev.drop_at a i 0 (by omega)
    have hb := Ev.drop_at b i 0 (by omega)
    refine (ih (i + 1) (by omega)).succ fun k hk => ?_
    rw [q1_Same.l0, if_pos (by omega), if_pos (by omega), if_pos (by omega), rd_nat, rd_nat, ha, hb, hw]
    by_cases e : a.getD i 0 = b.getD i 0
    · rw [if_pos e, hk, e]
      simp
    · rw [if_neg e]
      simp [e]
      intro e'
      simp at e
      exact absurd e' e
theorem same01_tells (a b : List Int) (hl : a.length ≤ 17592186044416) : Ev fun k => q1_Same.f k a b = some (a == b) := by
  by_cases h : a.length = b.length
  · refine (same01_loop a b h hl a.length 0 (by omega)).mono fun k hk => ?_
    unfold q1_Same.f
    rw [if_pos (by omega)]
    simpa using hk
  · refine Ev.all fun k => ?_
    unfold q1_Same.f
    rw [if_neg (by omega)]
    have : (a == b) = false := by
      rw [beq_eq_false_iff_ne]
      intro e
      exact h (by rw [e])
    rw [this]
end Go.Proofs.YtjlhhjfmekjbhaaGreatDoor.Vf

/- The reference's Same and the law's Small, in closed form. No condition. -/
namespace Go.Proofs.YtjlhhjfmekjbhaaGreatDoor.Vf
open Go.RowKit Go.Proofs.YtjlhhjfmekjbhaaGreatDoorW.PrintWords Go.Proofs.YtjlhhjfmekjbhaaGreatDoorW.PrintLast Go.Proofs.YtjlhhjfmekjbhaaGreatDoorW.PrintMore Go.Proofs.YtjlhhjfmekjbhaaGreatDoor.Va Go.Proofs.YtjlhhjfmekjbhaaGreatDoor.Pq Go.Proofs.YtjlhhjfmekjbhaaGreatDoor.Cd Go.Proofs.YtjlhhjfmekjbhaaGreatDoor.Cf Go.Proofs.YtjlhhjfmekjbhaaGreatDoor.Bld Go.Proofs.YtjlhhjfmekjbhaaGreatDoor.Sh Go.Proofs.YtjlhhjfmekjbhaaGreatDoor.Ev
set_option linter.unusedVariables false
set_option linter.unusedSimpArgs false
/-! ### Small -/
def smallX (x : X) : Bool := !decide ((x.f7.length : Int) > 20) && !decide ((x.f5.size : Int) > 100)
def smallP (p : P) : Bool := !decide ((p.f1.length : Int) > 60) && p.f1.all smallX
def smallI (l : List P) : Int := if decide ((l.length : Int) > 15) = true then 0 else if l.all smallP = true then 1 else 0
theorem l1Z_tells (l : List P) (j : Nat) (hj : j < l.length) (hl : l.length ≤ 1000000) (hpl : (l.getD j z28).f1.length ≤ 1000000) (r : Bool) (hr : Ev fun k => v9_Small.l0 k l (wrap64 ((j : Int) + 1)) = some (if r = true then 1 else 0)) : ∀ d i : Nat, i + d = (l.getD j z28).f1.length →
    Ev fun k => v9_Small.l1 k l (j : Int) (i : Int) = some (if (((l.getD j z28).f1.drop i).all smallX && r) = true then 1 else 0) := by
  intro d
  induction d with
  | zero =>
    intro i hi
    rw [List.drop_eq_nil_of_le (by omega)]
    refine hr.succ fun k hk => ?_
    rw [v9_Small.l1, if_pos (by omega), if_pos (by omega), rdP, if_neg (by omega), hk]
    rfl
  | succ d ih =>
    intro i hi
    have hw : wrap64 ((i : Int) + 1) = ((i + 1 : Nat) : Int) := by unfold wrap64; omega
    have hd := Ev.drop_at (l.getD j z28).f1 i z31 (by omega)
    have hX : rd_T31 ((l.getD j z28).f1) (i : Int) = (l.getD j z28).f1.getD i z31 := rdX _ _
    have hlt : (i : Int) < ((l.getD j z28).f1.length : Int) := by omega
    rw [hd]
    generalize (l.getD j z28).f1.getD i z31 = x at *
    refine (ih (i + 1) (by omega)).succ fun k hk => ?_
    rw [v9_Small.l1, if_pos (by omega), if_pos (by omega), rdP, if_pos hlt, if_pos (by omega), hX, hw, hk, List.all_cons]
    unfold smallX
    by_cases h1 : (x.f7.length : Int) > 20
    · rw [if_pos h1, decide_eq_true h1]; rfl
    · rw [if_neg h1, decide_eq_false h1]
      by_cases h2 : (x.f5.size : Int) > 100
      · rw [if_pos h2, decide_eq_true h2]; rfl
      · rw [if_neg h2, decide_eq_false h2]; rfl
theorem l0Z_tells (l : List P) (hl : l.length ≤ 15) : ∀ d j : Nat, j + d = l.length → Ev fun k => v9_Small.l0 k l (j : Int) = some (if (l.drop j).all smallP = true then 1 else 0) := by
  intro d
  induction d with
  | zero =>
    intro j hj
    refine Ev.step fun k => ?_
    rw [v9_Small.l0, if_neg (by omega), List.drop_eq_nil_of_le (by omega)]
    rfl
  | succ d ih =>
    intro j hj
    have hw : wrap64 ((j : Int) + 1) = ((j + 1 : Nat) : Int) := by unfold wrap64; omega
    have hd := Ev.drop_at l j z28 (by omega)
    by_cases h1 : ((l.getD j z28).f1.length : Int) > 60
    · refine Ev.step fun k => ?_
      rw [v9_Small.l0, if_pos (by omega), if_pos (by omega), rdP, if_pos h1, hd, List.all_cons]
      unfold smallP
      rw [decide_eq_true h1]
      rfl
    · have hi := l1Z_tells l j (by omega) (by omega) (by omega) _ (by rw [hw]; exact ih (j + 1) (by omega)) (l.getD j z28).f1.length 0 (by omega)
      refine hi.succ fun k hk => ?_
      rw [v9_Small.l0, if_pos (by omega), if_pos (by omega), rdP, if_neg h1, hd, List.all_cons]
      refine hk.trans ?_
      unfold smallP
      rw [decide_eq_false h1, List.drop_zero]
      rfl
theorem small_tells (l : List P) : Ev fun k => v9_Small.f k l = some (smallI l) := by
  by_cases h : (l.length : Int) > 15
  · refine Ev.all fun k => ?_
    unfold v9_Small.f smallI
    rw [if_pos h, decide_eq_true h, if_pos rfl]
  · refine (l0Z_tells l (by omega) l.length 0 (by omega)).mono fun k hk => ?_
    unfold v9_Small.f smallI
    rw [if_neg h, decide_eq_false h, if_neg (by decide)]
    simpa using hk
end Go.Proofs.YtjlhhjfmekjbhaaGreatDoor.Vf

/- code.Right and code.Same as contracts that hprint takes. No condition. -/
namespace Go.Proofs.YtjlhhjfmekjbhaaGreatDoor.Ve
open Go.RowKit Go.Proofs.YtjlhhjfmekjbhaaGreatDoorW.PrintWords Go.Proofs.YtjlhhjfmekjbhaaGreatDoorW.PrintLast Go.Proofs.YtjlhhjfmekjbhaaGreatDoorW.PrintMore Go.Proofs.YtjlhhjfmekjbhaaGreatDoor.Cd Go.Proofs.YtjlhhjfmekjbhaaGreatDoor.Pq
set_option linter.unusedVariables false
set_option linter.unusedSimpArgs false
def wfX (x : S31) : Bool := (Lit.int .i64 x.f0).wf && (decide (x.f5.size ≤ maxLen) && decide (x.f7.length ≤ 140737488355328))
def wfL (l : List S28) : Bool := decide (l.length ≤ 140737488355328) && l.all fun p => decide (p.f1.length ≤ 140737488355328) && p.f1.all wfX
def code_Right.f (l : List S28) : Option Bool := if wfL l = true then some (codeS l) else none
def code_Same.f (a b : List S28) : Option Bool := if wfL a = true ∧ wfL b = true then some (sameS a b) else none
end Go.Proofs.YtjlhhjfmekjbhaaGreatDoor.Ve

/- What the laws of code call, as contracts that hprint takes. No condition. -/
namespace Go.Proofs.YtjlhhjfmekjbhaaGreatDoor.Vg
open Go.RowKit Go.Proofs.YtjlhhjfmekjbhaaGreatDoorW.PrintWords Go.Proofs.YtjlhhjfmekjbhaaGreatDoorW.PrintLast Go.Proofs.YtjlhhjfmekjbhaaGreatDoorW.PrintMore Go.Proofs.YtjlhhjfmekjbhaaGreatDoor.Cd Go.Proofs.YtjlhhjfmekjbhaaGreatDoor.Cf Go.Proofs.YtjlhhjfmekjbhaaGreatDoor.Sh Go.Proofs.YtjlhhjfmekjbhaaGreatDoor.Vf
open Go.Proofs.YtjlhhjfmekjbhaaGreatDoor.Pq (S31 S28 k31 k28)
set_option linter.unusedVariables false
set_option linter.unusedSimpArgs false
abbrev Laid (w : World) : Prop := Va.Laid w
theorem Laid.below {w w' : World} (h : Laid w) (hb : Below w.heap.size w w') : Laid w' := Va.Laid.below h hb
def i64b (n : Int) : Bool := decide (-9223372036854775808 ≤ n) && decide (n ≤ 9223372036854775807)
theorem i64b_ok {n : Int} (h : i64b n = true) : B64 n := by
  simp only [i64b, Bool.and_eq_true, decide_eq_true_eq] at h
  exact h
def okX (x : X) : Bool := i64b x.f0 && (i64b x.f1 && (i64b x.f2 && (i64b x.f3 && (i64b x.f4 && (i64b x.f6 && (x.f7.all i64b && (decide (x.f7.length ≤ 100) && decide (x.f5.size ≤ 1000000))))))))
def okP (p : P) : Bool := i64b p.f0 && (decide (p.f1.length ≤ 100) && p.f1.all okX)
def okB (l : List P) : Bool := decide (l.length ≤ 100) && (l.all okP && decide ((showL l).length ≤ 17592186044416))
structure OkX (x : X) : Prop where
  sm : SmX x
  l7 : x.f7.length ≤ 100
  l5 : x.f5.size ≤ 1000000
theorem okX_ok {x : X} (h : okX x = true) : OkX x := by
  simp only [okX, Bool.and_eq_true, decide_eq_true_eq, List.all_eq_true] at h
  obtain ⟨h0, h1, h2, h3, h4, h6, h7, hl, hs⟩ := h
  exact ⟨⟨i64b_ok h0, i64b_ok h1, i64b_ok h2, i64b_ok h3, i64b_ok h4, i64b_ok h6, fun n hn => i64b_ok (h7 n hn), by omega, hs⟩, hl, hs⟩
theorem okP_ok {p : P} (h : okP p = true) : B64 p.f0 ∧ p.f1.length ≤ 100 ∧ ∀ x ∈ p.f1, OkX x := by
  simp only [okP, Bool.and_eq_true, decide_eq_true_eq, List.all_eq_true] at h
  exact ⟨i64b_ok h.1, h.2.1, fun x hx => okX_ok (h.2.2 x hx)⟩
theorem okB_all {l : List P} (h : okB l = true) : l.length ≤ 100 ∧ (∀ p ∈ l, B64 p.f0 ∧ p.f1.length ≤ 100 ∧ ∀ x ∈ p.f1, OkX x) ∧ (showL l).length ≤ 17592186044416 := by
  simp only [okB, Bool.and_eq_true, decide_eq_true_eq, List.all_eq_true] at h
  exact ⟨h.1, fun p hp => okP_ok (h.2.1 p hp), h.2.2⟩
theorem wf_of (n : Int) (h : B64 n) : (Lit.int .i64 n).wf = true := by
  have e : IntKind.i64.min = -9223372036854775808 := rfl
  simp [Lit.wf, IntKind.wrap_i64]
  rw [e]
  exact h
theorem ok_wf {l : List P} (h : okB l = true) : WfL l := by
  obtain ⟨h1, h2, h3⟩ := okB_all h
  exact ⟨by omega, fun p hp => ⟨by have := (h2 p hp).2.1; omega, fun x hx => ⟨wf_of _ ((h2 p hp).2.2 x hx).sm.h0, by have := ((h2 p hp).2.2 x hx).l5; simp only [maxLen]; omega, by have := ((h2 p hp).2.2 x hx).l7; omega⟩⟩⟩
theorem ok_tiny {l : List P} (h : okB l = true) : TinyL l := by
  obtain ⟨h1, h2, h3⟩ := okB_all h
  exact ⟨h1, fun p hp => ⟨(h2 p hp).2.1, fun x hx => ⟨((h2 p hp).2.2 x hx).sm.h6.1, ((h2 p hp).2.2 x hx).sm.h6.2, ((h2 p hp).2.2 x hx).l7⟩⟩⟩
theorem ok_sm {l : List P} (h : okB l = true) : SmL l := by
  obtain ⟨h1, h2, h3⟩ := okB_all h
  exact ⟨h3, fun p hp => ⟨(h2 p hp).1, fun x hx => ((h2 p hp).2.2 x hx).sm⟩⟩
def code_Right.f (l : List S28) : Option Bool := Ve.code_Right.f l
def code_Same.f (a b : List S28) : Option Bool := if okB a = true ∧ okB b = true then some (sameS a b) else none
def code_Show.f (l : List S28) : Option (ByteArray × Int) := if okB l = true then some (showR l) else none
theorem code_Show.calls (A0 : Option Addr) (c0 : Nat) (l0 : List S28) (r1 : ByteArray) (r2 : Int) (w : World) (hL : Laid w) (hr0 : Kd.C k28 w A0 l0.length l0) (hc0 : l0.length ≤ c0) (h : code_Show.f l0 = some (r1, r2)) :
    Calls Tryz.prog 14 #[.slice A0 l0.length c0] w fun e w' => e = .returned (.tuple #[.string r1, .int .i64 r2]) ∧ Below w.heap.size w w' := by
  unfold code_Show.f at h
  by_cases hw : okB l0 = true
  case neg => rw [if_neg hw] at h; cases h
  rw [if_pos hw] at h
  have h := Option.some.inj h
  unfold showR at h
  cases hc : codeS l0 with
  | true =>
    rw [hc, if_pos rfl] at h
    obtain ⟨rfl, rfl⟩ := Prod.mk.inj h
    exact show_good A0 c0 l0 w hL hr0 hc0 (ok_wf hw) hc (ok_sm hw)
  | false =>
    rw [hc, if_neg (by decide)] at h
    obtain ⟨rfl, rfl⟩ := Prod.mk.inj h
    exact show_bad A0 c0 l0 w hL hr0 hc0 (ok_wf hw) hc
theorem flat_len : ∀ l : List P, (∀ p ∈ l, p.f1.length ≤ 100) → (l.flatMap (·.f1)).length ≤ 100 * l.length
  | [], _ => by simp
  | p :: l, h => by
    rw [List.flatMap_cons, List.length_append, List.length_cons]
    have h1 := h p (List.mem_cons_self ..)
    have h2 := flat_len l (fun q hq => h q (List.mem_cons_of_mem _ hq))
    omega
def code_Marks.f (l : List S28) : Option (List Int) := if okB l = true then some (marksL l) else none
theorem code_Marks.calls (A0 : Option Addr) (c0 : Nat) (l0 : List S28) (r : List Int) (w : World) (hr0 : Kd.C k28 w A0 l0.length l0) (hc0 : l0.length ≤ c0) (h : code_Marks.f l0 = some r) :
    Calls Tryz.prog 17 #[.slice A0 l0.length c0] w fun e w' => ∃ v0_ : Value, e = .returned v0_ ∧ Kd.R (Kd.int .i64) 3 w' w.heap.size (fun _ => True) v0_ r ∧ Below w.heap.size w w' := by
  unfold code_Marks.f at h
  by_cases hw : okB l0 = true
  case neg => rw [if_neg hw] at h; cases h
  rw [if_pos hw] at h
  obtain rfl := Option.some.inj h
  obtain ⟨h1, h2, h3⟩ := okB_all hw
  have hf := flat_len l0 (fun p hp => (h2 p hp).2.1)
  exact marks_calls A0 c0 l0 w hr0 (by omega) (fun p hp => by have := (h2 p hp).2.1; omega) (Nat.le_trans hf (by omega))
def q9_Right.f (l : List S28) : Option Bool := if okB l = true then some (codeS l) else none
def q9_Show.f (l : List S28) : Option (ByteArray × Int) := if okB l = true then some (showR l) else none
theorem q9_Show.calls (A0 : Option Addr) (c0 : Nat) (l0 : List S28) (r1 : ByteArray) (r2 : Int) (w : World) (hr0 : Kd.C k28 w A0 l0.length l0) (hc0 : l0.length ≤ c0) (h : q9_Show.f l0 = some (r1, r2)) :
    Calls Tryz.prog 15 #[.slice A0 l0.length c0] w fun e w' => e = .returned (.tuple #[.string r1, .int .i64 r2]) ∧ Below w.heap.size w w' := by
  unfold q9_Show.f at h
  by_cases hw : okB l0 = true
  case neg => rw [if_neg hw] at h; cases h
  rw [if_pos hw] at h
  obtain ⟨k, hk⟩ := (show_tells l0 (ok_tiny hw) (ok_sm hw)).ex
  exact Pq.q9_Show.calls k A0 c0 l0 r1 r2 w hr0 hc0 (hk.trans h)
def q9_Same.f (a b : List S28) : Option Bool := if okB a = true ∧ okB b = true then some (sameS a b) else none
def q9_Marks.f (l : List S28) : Option (List Int) := if okB l = true then some (marksL l) else none
theorem q9_Marks.calls (A0 : Option Addr) (c0 : Nat) (l0 : List S28) (r : List Int) (w : World) (hr0 : Kd.C k28 w A0 l0.length l0) (hc0 : l0.length ≤ c0) (h : q9_Marks.f l0 = some r) :
    Calls Tryz.prog 18 #[.slice A0 l0.length c0] w fun e w' => ∃ v0_ : Value, e = .returned v0_ ∧ Kd.R (Kd.int .i64) 3 w' w.heap.size (fun _ => True) v0_ r ∧ Below w.heap.size w w' := by
  unfold q9_Marks.f at h
  by_cases hw : okB l0 = true
  case neg => rw [if_neg hw] at h; cases h
  rw [if_pos hw] at h
  obtain ⟨k, hk⟩ := (marks_tells l0 (ok_tiny hw)).ex
  exact Pq.q9_Marks.calls k A0 c0 l0 r w hr0 hc0 (hk.trans h)
def v9_Small.f (l : List S28) : Option Int := some (smallI l)
theorem v9_Small.calls (A0 : Option Addr) (c0 : Nat) (l0 : List S28) (r : Int) (w : World) (hr0 : Kd.C k28 w A0 l0.length l0) (hc0 : l0.length ≤ c0) (h : v9_Small.f l0 = some r) :
    Calls Tryz.prog 11 #[.slice A0 l0.length c0] w fun e w' => e = .returned (.int .i64 r) ∧ Drawn0 w w' := by
  obtain ⟨k, hk⟩ := (small_tells l0).ex
  exact Pq.v9_Small.calls k A0 c0 l0 r w hr0 hc0 (hk.trans h)
def q1_Same.f (a b : List Int) : Option Bool := if a.length ≤ 17592186044416 then some (a == b) else none
theorem q1_Same.calls (A0 : Option Addr) (c0 : Nat) (l0 : List Int) (A1 : Option Addr) (c1 : Nat) (l1 : List Int) (r : Bool) (w : World) (hr0 : Kd.C (Kd.int .i64) w A0 l0.length l0) (hc0 : l0.length ≤ c0) (hr1 : Kd.C (Kd.int .i64) w A1 l1.length l1) (hc1 : l1.length ≤ c1) (h : q1_Same.f l0 l1 = some r) :
    Calls Tryz.prog 16 #[.slice A0 l0.length c0, .slice A1 l1.length c1] w fun e w' => e = .returned (.bool r) ∧ Drawn0 w w' := by
  unfold q1_Same.f at h
  by_cases hw : l0.length ≤ 17592186044416
  case neg => rw [if_neg hw] at h; cases h
  rw [if_pos hw] at h
  obtain ⟨k, hk⟩ := (same01_tells l0 l1 hw).ex
  exact Pq.q1_Same.calls k A0 c0 l0 A1 c1 l1 r w hr0 hc0 hr1 hc1 (hk.trans h)
end Go.Proofs.YtjlhhjfmekjbhaaGreatDoor.Vg

-- WRITTEN BY hprint.py (a patched scratch copy of print.py, see NOTES.md): out of the translation and of contracts proved by hand.
namespace Go.Proofs.YtjlhhjfmekjbhaaGreatDoor.Pv
open Go.Proofs.YtjlhhjfmekjbhaaGreatDoor.Pq (errW errW_none errW_some info3 S31 z31 k31 k31_open k31_mk rd_T31 at_T31 S28 z28 k28 k28_open k28_mk rd_T28 at_T28)
open Go.RowKit Go.Proofs.YtjlhhjfmekjbhaaGreatDoorW.PrintWords Go.Proofs.YtjlhhjfmekjbhaaGreatDoorW.PrintLast Go.Proofs.YtjlhhjfmekjbhaaGreatDoorW.PrintMore
set_option linter.unusedVariables false
set_option linter.unusedSimpArgs false
theorem k31_mkF (W : World) (ok : Nat → Prop) (x : S31) {A7 : Option Addr} {c7 : Nat} (l7 : x.f7.length ≤ c7) (g7 : Kd.F (Kd.int .i64) W ok A7 x.f7.length x.f7) : Kd.FK k31 W ok x [.int .i64 x.f0, .int .i64 x.f1, .int .i64 x.f2, .int .i64 x.f3, .int .i64 x.f4, .string x.f5, .int .i64 x.f6, .slice A7 x.f7.length c7] := fun W2 hW => k31_mk W2 x l7 (g7 W2 hW)
theorem k28_mkF (W : World) (ok : Nat → Prop) (x : S28) {A1 : Option Addr} {c1 : Nat} (l1 : x.f1.length ≤ c1) (g1 : Kd.F k31 W ok A1 x.f1.length x.f1) : Kd.FK k28 W ok x [.int .i64 x.f0, .slice A1 x.f1.length c1] := fun W2 hW => k28_mk W2 x l1 (g1 W2 hW)
end Go.Proofs.YtjlhhjfmekjbhaaGreatDoor.Pv

namespace Go.Proofs.YtjlhhjfmekjbhaaGreatDoor.Pv
open Go.Proofs.YtjlhhjfmekjbhaaGreatDoor.Pq (errW errW_none errW_some info3 S31 z31 k31 k31_open k31_mk rd_T31 at_T31 S28 z28 k28 k28_open k28_mk rd_T28 at_T28)
open Go.RowKit Go.Proofs.YtjlhhjfmekjbhaaGreatDoor.Vg Go.Proofs.YtjlhhjfmekjbhaaGreatDoorW.PrintWords Go.Proofs.YtjlhhjfmekjbhaaGreatDoorW.PrintLast Go.Proofs.YtjlhhjfmekjbhaaGreatDoorW.PrintMore
set_option linter.unusedVariables false
set_option linter.unusedSimpArgs false
/-! ### v9_shown: function 10 -/
def v9_shown.f  : Option (Bool) := (code_Show.f (([(⟨0, (([(⟨20, 0, (-1), 0, 0, (⟨#[]⟩ : ByteArray), 0, ([] : List Int)⟩ : S31)] : List (S31)))⟩ : S28)] : List (S28)))).bind fun bt107 => ((code_Show.f ([] : List (S28))).bind fun bt109 => (if bt107.2 = 0 then (if bt107.1.toList = ([112, 114, 111, 99, 32, 48, 10, 50, 48, 32, 48, 32, 45, 49, 32, 48, 32, 48, 32, 48, 32, 34, 34, 10] : List UInt8) then (some (bt109.2 == 90)) else (none)) else (none)))
set_option maxHeartbeats 8000000 in
set_option maxRecDepth 100000 in
theorem v9_shown.calls  (r : Bool) (w : World) (hL : Laid w) (h : v9_shown.f  = some r) :
  Calls Tryz.prog 10 #[] w fun e w' => e = .returned (.bool r) ∧ Below w.heap.size w w' := by
 have HL := Aside0.mk hL
 clear hL
 have hu31 := Tryz.underlying31
 have hu28 := Tryz.underlying28
 have HB := Aside0.mk (Below.refl w.heap.size w)
 have H : ((code_Show.f (([(⟨0, (([(⟨20, 0, (-1), 0, 0, (⟨#[]⟩ : ByteArray), 0, ([] : List Int)⟩ : S31)] : List (S31)))⟩ : S28)] : List (S28)))).bind fun bt107 => ((code_Show.f ([] : List (S28))).bind fun bt109 => (if bt107.2 = 0 then (if bt107.1.toList = ([112, 114, 111, 99, 32, 48, 10, 50, 48, 32, 48, 32, 45, 49, 32, 48, 32, 48, 32, 48, 32, 34, 34, 10] : List UInt8) then (some (bt109.2 == 90)) else (none)) else (none)))) = some r := h
 clear h
 obtain ⟨y101, hy101⟩ : ∃ y_ : List (S31), y_ = (([(⟨20, 0, (-1), 0, 0, (⟨#[]⟩ : ByteArray), 0, ([] : List Int)⟩ : S31)] : List (S31))) := ⟨_, rfl⟩
 replace H : ((code_Show.f (([(⟨0, y101⟩ : S28)] : List (S28)))).bind fun bt107 => ((code_Show.f ([] : List (S28))).bind fun bt109 => (if bt107.2 = 0 then (if bt107.1.toList = ([112, 114, 111, 99, 32, 48, 10, 50, 48, 32, 48, 32, 45, 49, 32, 48, 32, 48, 32, 48, 32, 34, 34, 10] : List UInt8) then (some (bt109.2 == 90)) else (none)) else (none)))) = some r := by first | (rw [hy101]; with_reducible exact H) | (have H2_ := (Option.bind_some _ _).symm.trans H; rw [hy101]; with_reducible exact H2_) | (have H2_ := (Option.bind_some _ _).symm.trans H; with_reducible exact H2_) | with_reducible exact H | (rw [hy101]; exact H) | exact H
 have Ny101 := Aside0.mk hy101
 clear hy101
 obtain ⟨y104, hy104⟩ : ∃ y_ : List (S28), y_ = (([(⟨0, y101⟩ : S28)] : List (S28))) := ⟨_, rfl⟩
 replace H : ((code_Show.f y104).bind fun bt107 => ((code_Show.f ([] : List (S28))).bind fun bt109 => (if bt107.2 = 0 then (if bt107.1.toList = ([112, 114, 111, 99, 32, 48, 10, 50, 48, 32, 48, 32, 45, 49, 32, 48, 32, 48, 32, 48, 32, 34, 34, 10] : List UInt8) then (some (bt109.2 == 90)) else (none)) else (none)))) = some r := by first | (rw [hy104]; with_reducible exact H) | (have H2_ := (Option.bind_some _ _).symm.trans H; rw [hy104]; with_reducible exact H2_) | (have H2_ := (Option.bind_some _ _).symm.trans H; with_reducible exact H2_) | with_reducible exact H | (rw [hy104]; exact H) | exact H
 have Ny104 := Aside0.mk hy104
 clear hy104
 replace H := Option.bind_eq_some_iff.mp H
 obtain ⟨⟨t107, t108⟩, A10, H⟩ := H
 replace H : ((code_Show.f ([] : List (S28))).bind fun bt109 => (if t108 = 0 then (if t107.toList = ([112, 114, 111, 99, 32, 48, 10, 50, 48, 32, 48, 32, 45, 49, 32, 48, 32, 48, 32, 48, 32, 34, 34, 10] : List UInt8) then (some (bt109.2 == 90)) else (none)) else (none))) = some r := H
 have A1 := Aside0.mk A10
 clear A10
 replace H := Option.bind_eq_some_iff.mp H
 obtain ⟨⟨t109, t110⟩, A20, H⟩ := H
 replace H : (if t108 = 0 then (if t107.toList = ([112, 114, 111, 99, 32, 48, 10, 50, 48, 32, 48, 32, 45, 49, 32, 48, 32, 48, 32, 48, 32, 34, 34, 10] : List UInt8) then (some (t110 == 90)) else (none)) else (none)) = some r := H
 have A2 := Aside0.mk A20
 clear A20
 by_cases c3 : t108 = 0
 ·rw [if_pos c3] at H
  have c3b0 : (t108 == 0) = true := beq_iff_eq.mpr c3
  have c3b1 : (t108 != 0) = false := bne_eq_false_iff_eq.mpr c3
  clear c3
  by_cases c4 : t107.toList = ([112, 114, 111, 99, 32, 48, 10, 50, 48, 32, 48, 32, 45, 49, 32, 48, 32, 48, 32, 48, 32, 34, 34, 10] : List UInt8)
  ·rw [if_pos c4] at H
   have c4b0 : (t107.toList == ([112, 114, 111, 99, 32, 48, 10, 50, 48, 32, 48, 32, 45, 49, 32, 48, 32, 48, 32, 48, 32, 34, 34, 10] : List UInt8)) = true := beq_iff_eq.mpr c4
   have c4b1 : (t107.toList != ([112, 114, 111, 99, 32, 48, 10, 50, 48, 32, 48, 32, 45, 49, 32, 48, 32, 48, 32, 48, 32, 34, 34, 10] : List UInt8)) = false := bne_eq_false_iff_eq.mpr c4
   clear c4
   obtain rfl := Option.some.inj H
   go_enter Tryz.func10, Tryz.ntmps10
   go_wp2_with (first | ((with_reducible refine gate_callee (f := 14) rfl ?_); refine goesL_ (some 14) rfl rfl Tryz.func14 (by kernel_rfl) rfl #[.slice none 0 0] rfl zP ?_; (refine (code_Show.calls (hL := ?sideL) _ _ ([] : List (S28)) t109 t110 _ ?side1 ?side2 A2.out).mono ?_); (case sideL => exact Laid.below HL.out zB); (case side1 => exact Kd.C_nil _ _); (case side2 => exact Nat.le_refl _); rintro e w12 ⟨rfl, hb⟩; refine ⟨_, rfl, ?_⟩; replace HO106 := Aside0.mk (Kd.N_below (by (with_reducible repeat (first | apply Kd.N_alloc | apply Kd.N_drewN | apply Kd.N_drew)); exact HO106.out) hb); replace HB := Aside0.mk (below_step zB hb); (try clear hb)) | ((with_reducible refine gate_callee (f := 14) rfl ?_); refine goesL_ (some 10) rfl rfl Tryz.func14 (by kernel_rfl) rfl #[.slice Ao10 y104.length co10] rfl zP ?_; (with_reducible refine (code_Show.calls (hL := ?sideL) _ _ y104 t107 t108 _ ?side1 ?side2 A1.out).mono ?_); (case sideL => exact Laid.below HL.out zB); (case side1 => repeat (first | exact (Kd.N_reads' HO106.out).2.2 | (with_reducible refine Kd.C_alloc ?_ _) | (with_reducible refine Kd.C_drewN ?_ _) | (with_reducible refine Kd.C_drew ?_))); (case side2 => exact (Kd.N_reads' HO106.out).2.1); rintro e w11 ⟨rfl, hb⟩; refine ⟨_, rfl, ?_⟩; replace HO106 := Aside0.mk (Kd.N_below (by (with_reducible repeat (first | apply Kd.N_alloc | apply Kd.N_drewN | apply Kd.N_drew)); exact HO106.out) hb); replace HB := Aside0.mk (below_step zB hb); (try clear hb)) | ((with_reducible refine gate_dst (N := 9) rfl ?_); refine Kd.N_lit k28 _ 28 ?hg (N' := 9) ?hd (xs := ([(⟨0, y101⟩ : S28)] : List (S28))) (inner := [.int .i64 0, .slice Ao7 y101.length co7]) (ok := (fun _ => True)) (okp := (fun _ => True)) ?hr ?hp (fun _ hk => hk) ((show ∀ k_, w5.heap.size ≤ k_ → (fun _ => True) k_ from fun k_ hk => trivial) _ (Nat.le_refl _)) (Below.refl _ _) (Nat.le_refl _) (by simp) ?_; (case hd => rfl); (case hg => rfl); (case hr => first | (go_simp; done) | (go_simp; rfl)); (case hp => exact (Reps.c2 (show Kd.FK k28 _ _ (⟨0, y101⟩ : S28) [.int .i64 0, .slice Ao7 y101.length co7] from (k28_mkF _ _ (⟨0, y101⟩ : S28) (Kd.N_reads' (Kd.N_mono (ok' := (fun _ => True)) (HO103.out) (fun k_ hk => trivial))).2.1 (Kd.N_F (Kd.N_mono (ok' := (fun _ => True)) (HO103.out) (fun k_ hk => trivial))))) (Reps.none _ _))); intro v105 w8 ho9 hb hg_ hnew_; clear hg_ hnew_; (first | rw [← Ny104.out] at ho9 | (simp only [Int.reduceToNat] at ho9; rw [← Ny104.out] at ho9)); have n0_ := Aside0.mk (Kd.N_lower ho9 (below_size zB)); have n1_ := Aside0.mk (below_step zB hb); clear HB; clear HO103; have HO106 := n0_; have HB := n1_; clear n0_ n1_; clear hb ho9; obtain ⟨Ao10, co10, eo10⟩ := Kd.N_slice HO106.out; subst eo10) | ((with_reducible refine gate_dst (N := 7) rfl ?_); refine Kd.N_lit k31 _ 31 ?hg (N' := 7) ?hd (xs := ([(⟨20, 0, (-1), 0, 0, (⟨#[]⟩ : ByteArray), 0, ([] : List Int)⟩ : S31)] : List (S31))) (inner := [.int .i64 20, .int .i64 0, .int .i64 (-1), .int .i64 0, .int .i64 0, .string (⟨#[]⟩ : ByteArray), .int .i64 0, .slice none 0 0]) (ok := (fun _ => True)) (okp := (fun _ => True)) ?hr ?hp (fun _ hk => hk) ((show ∀ k_, w.heap.size ≤ k_ → (fun _ => True) k_ from fun k_ hk => trivial) _ (Nat.le_refl _)) (Below.refl _ _) (Nat.le_refl _) (by simp) ?_; (case hd => rfl); (case hg => rfl); (case hr => first | (go_simp; done) | (go_simp; rfl)); (case hp => exact (Reps.c8 (show Kd.FK k31 _ _ (⟨20, 0, (-1), 0, 0, (⟨#[]⟩ : ByteArray), 0, ([] : List Int)⟩ : S31) [.int .i64 20, .int .i64 0, .int .i64 (-1), .int .i64 0, .int .i64 0, .string (⟨#[]⟩ : ByteArray), .int .i64 0, .slice none 0 0] from (k31_mkF _ _ (⟨20, 0, (-1), 0, 0, (⟨#[]⟩ : ByteArray), 0, ([] : List Int)⟩ : S31) (Nat.le_refl _) (Kd.F_nil _ _ _))) (Reps.none _ _))); intro v102 w5 ho6 hb hg_ hnew_; clear hg_ hnew_; (first | rw [← Ny101.out] at ho6 | (simp only [Int.reduceToNat] at ho6; rw [← Ny101.out] at ho6)); have HO103 := Aside0.mk (Kd.N_lower ho6 (below_size zB)); replace HB := Aside0.mk (below_step zB hb); clear hb ho6; obtain ⟨Ao7, co7, eo7⟩ := Kd.N_slice HO103.out; subst eo7))
   go_ret
   exact ⟨zE, zB⟩
  ·rw [if_neg c4] at H
   exact absurd H (by simp)
 ·rw [if_neg c3] at H
  exact absurd H (by simp)
end Go.Proofs.YtjlhhjfmekjbhaaGreatDoor.Pv

/- Small codes: what the laws' calls tell. No condition. -/
namespace Go.Proofs.YtjlhhjfmekjbhaaGreatDoor.Pure
open Go.RowKit Go.Proofs.YtjlhhjfmekjbhaaGreatDoorW.PrintWords Go.Proofs.YtjlhhjfmekjbhaaGreatDoorW.PrintLast Go.Proofs.YtjlhhjfmekjbhaaGreatDoor.Cd Go.Proofs.YtjlhhjfmekjbhaaGreatDoor.Cf Go.Proofs.YtjlhhjfmekjbhaaGreatDoor.Bld Go.Proofs.YtjlhhjfmekjbhaaGreatDoor.Sh Go.Proofs.YtjlhhjfmekjbhaaGreatDoor.Vf Go.Proofs.YtjlhhjfmekjbhaaGreatDoor.Vg Go.Proofs.YtjlhhjfmekjbhaaGreatDoor.Pv
open Go.Proofs.YtjlhhjfmekjbhaaGreatDoor.Pq (S31 S28 k31 k28 z31 z28 rd_T28)
set_option linter.unusedVariables false
set_option linter.unusedSimpArgs false
theorem it_len (n : Int) (h : B64 n) : (itB n).size ≤ 20 := by
  have := (Va.itoa_len n h).2
  simpa [itB, ByteArray.size] using this
theorem sp_len (xs : List ByteArray) (m : Nat) (h : ∀ x ∈ xs, x.size ≤ m) : (spB xs).length ≤ xs.length * (m + 1) := by
  induction xs with
  | nil => simp [spB]
  | cons x xs ih =>
    have h1 := h x (List.mem_cons_self ..)
    have h2 := ih (fun y hy => h y (List.mem_cons_of_mem _ hy))
    unfold spB at h2 ⊢
    rw [List.flatMap_cons, List.length_append, List.length_cons, List.length_cons, ← show x.size = x.data.toList.length from rfl, Nat.add_mul]
    omega
theorem qu_len (s : ByteArray) : (quoteL s.data.toList).length ≤ 4 * s.size + 2 := by
  have h := qL_len s.data.toList
  have : s.data.toList.length = s.size := rfl
  unfold quoteL
  simp only [List.length_append, List.length_cons, List.length_nil]
  omega
theorem showI_len (x : X) (h : OkX x) : (showI x).length ≤ 4010000 := by
  have h0 := it_len _ h.sm.h0
  have h5 := sp_len [itB x.f1, itB x.f2, itB x.f3, itB x.f4, itB x.f6] 20 (by
    intro y hy
    simp only [List.mem_cons, List.mem_nil_iff, or_false] at hy
    rcases hy with rfl | rfl | rfl | rfl | rfl
    · exact it_len _ h.sm.h1
    · exact it_len _ h.sm.h2
    · exact it_len _ h.sm.h3
    · exact it_len _ h.sm.h4
    · exact it_len _ h.sm.h6)
  have h7 := sp_len (x.f7.map itB) 20 (by
    intro y hy
    obtain ⟨n, hn, rfl⟩ := List.mem_map.1 hy
    exact it_len _ (h.sm.h7 n hn))
  have hq := qu_len x.f5
  have hl := h.l7
  have hs := h.l5
  rw [showI_eq]
  unfold tailI
  simp only [List.length_append, List.length_cons, List.length_nil, List.length_map, ← size_it] at h5 h7 ⊢
  omega
theorem flat_bound {α β : Type} (f : α → List β) (m : Nat) : ∀ l : List α, (∀ x ∈ l, (f x).length ≤ m) → (l.flatMap f).length ≤ l.length * m
  | [], _ => by simp
  | x :: l, h => by
    rw [List.flatMap_cons, List.length_append, List.length_cons, Nat.add_mul]
    have h1 := h x (List.mem_cons_self ..)
    have h2 := flat_bound f m l (fun q hq => h q (List.mem_cons_of_mem _ hq))
    omega
structure Tin (l : List P) : Prop where
  len : l.length ≤ 100
  proc : ∀ p ∈ l, B64 p.f0 ∧ p.f1.length ≤ 100 ∧ ∀ x ∈ p.f1, OkX x
theorem showL_len (l : List P) (h : Tin l) : (showL l).length ≤ 17592186044416 := by
  have h1 := flat_bound showP 401000100 l (fun p hp => by
    obtain ⟨h0, h1, h2⟩ := h.proc p hp
    have hi := flat_bound showI 4010000 p.f1 (fun x hx => showI_len x (h2 x hx))
    have hm := Nat.mul_le_mul_right 4010000 h1
    have h3 := it_len _ h0
    unfold showP
    rw [headP_eq]
    simp only [List.length_append, List.length_cons, List.length_nil, ← size_it]
    omega)
  have hm := Nat.mul_le_mul_right 401000100 h.len
  unfold showL
  omega
theorem i64b_of {n : Int} (h : B64 n) : i64b n = true := by
  simp only [i64b, Bool.and_eq_true, decide_eq_true_eq]
  exact h
theorem ok_of (l : List P) (h : Tin l) : okB l = true := by
  simp only [okB, okP, okX, Bool.and_eq_true, decide_eq_true_eq, List.all_eq_true]
  refine ⟨h.len, fun p hp => ?_, showL_len l h⟩
  obtain ⟨h0, h1, h2⟩ := h.proc p hp
  exact ⟨i64b_of h0, h1, fun x hx => ⟨i64b_of (h2 x hx).sm.h0, i64b_of (h2 x hx).sm.h1, i64b_of (h2 x hx).sm.h2, i64b_of (h2 x hx).sm.h3, i64b_of (h2 x hx).sm.h4, i64b_of (h2 x hx).sm.h6, fun n hn => i64b_of ((h2 x hx).sm.h7 n hn), (h2 x hx).l7, (h2 x hx).l5⟩⟩
structure RowX (x : X) : Prop where
  h0 : B64 x.f0
  h1 : B64 x.f1
  h2 : B64 x.f2
  h3 : B64 x.f3
  h4 : B64 x.f4
  h6 : B64 x.f6
  h7 : ∀ n ∈ x.f7, B64 n
def RowL (l : List P) : Prop := ∀ p ∈ l, B64 p.f0 ∧ ∀ x ∈ p.f1, RowX x
structure Sml (l : List P) : Prop where
  len : l.length ≤ 15
  proc : ∀ p ∈ l, B64 p.f0 ∧ p.f1.length ≤ 60 ∧ ∀ x ∈ p.f1, SmX x ∧ x.f7.length ≤ 20 ∧ x.f5.size ≤ 100
theorem small_ok (l : List P) (hr : RowL l) (h : ¬ smallI l = 0) : Sml l := by
  unfold smallI at h
  by_cases h1 : decide ((l.length : Int) > 15) = true
  · rw [if_pos h1] at h
    exact absurd rfl h
  rw [if_neg h1] at h
  by_cases h2 : l.all smallP = true
  case neg => rw [if_neg h2] at h; exact absurd rfl h
  have h1' : l.length ≤ 15 := by simp at h1; omega
  refine ⟨h1', fun p hp => ?_⟩
  have h3 := List.all_eq_true.1 h2 p hp
  simp only [smallP, Bool.and_eq_true, Bool.not_eq_true', decide_eq_false_iff_not, List.all_eq_true] at h3
  refine ⟨(hr p hp).1, by have := h3.1; omega, fun x hx => ?_⟩
  have h4 := h3.2 x hx
  simp only [smallX, Bool.and_eq_true, Bool.not_eq_true', decide_eq_false_iff_not] at h4
  have hrx := (hr p hp).2 x hx
  have l7 : x.f7.length ≤ 20 := by have := h4.1; omega
  have l5 : x.f5.size ≤ 100 := by have := h4.2; omega
  exact ⟨⟨hrx.h0, hrx.h1, hrx.h2, hrx.h3, hrx.h4, hrx.h6, hrx.h7, by omega, by omega⟩, l7, l5⟩
theorem Sml.tin {l : List P} (h : Sml l) : Tin l :=
  ⟨by have := h.len; omega, fun p hp => ⟨(h.proc p hp).1, by have := (h.proc p hp).2.1; omega, fun x hx => ⟨((h.proc p hp).2.2 x hx).1, by have := ((h.proc p hp).2.2 x hx).2.1; omega, by have := ((h.proc p hp).2.2 x hx).2.2; omega⟩⟩⟩
theorem Sml.ok {l : List P} (h : Sml l) : okB l = true := ok_of l h.tin
theorem shown_ok1 : okB [⟨0, [⟨20, 0, -1, 0, 0, ⟨#[]⟩, 0, []⟩]⟩] = true := by decide +kernel
theorem shown_1 : showR [⟨0, [⟨20, 0, -1, 0, 0, ⟨#[]⟩, 0, []⟩]⟩] = (mkB [112, 114, 111, 99, 32, 48, 10, 50, 48, 32, 48, 32, 45, 49, 32, 48, 32, 48, 32, 48, 32, 34, 34, 10], 0) := by decide +kernel
theorem shown_2 : showR [] = (⟨#[]⟩, 90) := by decide +kernel
theorem shown_tells : v9_shown.f = some true := by
  unfold v9_shown.f code_Show.f
  rw [if_pos shown_ok1, if_pos (show okB [] = true by decide +kernel), shown_1, shown_2, Option.bind_some, Option.bind_some, if_pos rfl, if_pos (by rw [ByteArray.toList_eq]; rfl)]
  rfl
end Go.Proofs.YtjlhhjfmekjbhaaGreatDoor.Pure

/- What a row reads of an argument, as a value of a kind: over whatever program. -/
namespace Go.Proofs.YtjlhhjfmekjbhaaGreatDoor.Opens
open Go.RowKit Go.Deep Go.ChangeShapes Go.WideShapes Go.Proofs.YtjlhhjfmekjbhaaGreatDoorW.PrintWords
set_option linter.unusedVariables false
def OpensTo {α : Type} (P : Program) (t : TypeId) (K : World → α → List Value → Prop) (Wf : α → Prop) : Prop :=
  ∀ (H : Type) (enc : TypeId × Value → H) (w : World) (base : Nat) (sp : Nat → Bool) (held : Bool) (fuel : Nat) (cs : List Value) (x : DataW H × List MemPlace), DataW.trod enc P w base sp held fuel t cs = some x → ∃ a, K w a cs ∧ Wf a
variable {P : Program} {t e : TypeId}
theorem opens_int {k : IntKind} (ht : P.underlying t = some (.int k)) : OpensTo P t (Kd.int k).K (fun n => (Lit.int k n).wf = true) := by
  intro H enc w base sp held fuel cs x h
  cases fuel with
  | zero => simp [DataW.trod] at h
  | succ fuel =>
    unfold DataW.trod at h
    rw [ht] at h
    split at h <;> first | (rename_i heq; cases heq; done) | (cases h; done) | skip
    rename_i heq
    injection heq with heq
    injection heq with heq
    subst heq
    split at h
    · rename_i hk
      obtain ⟨rfl, hk⟩ := hk
      exact ⟨_, rfl, hk⟩
    · exact absurd h (by simp)
theorem opens_string (ht : P.underlying t = some .string) : OpensTo P t Kd.string.K (fun s => s.size ≤ maxLen) := by
  intro H enc w base sp held fuel cs x h
  cases fuel with
  | zero => simp [DataW.trod] at h
  | succ fuel =>
    unfold DataW.trod at h
    rw [ht] at h
    split at h <;> first | (rename_i heq; cases heq; done) | (cases h; done) | skip
    split at h
    · rename_i hk
      exact ⟨_, rfl, hk⟩
    · exact absurd h (by simp)
theorem opens_slice {α : Type} [Inhabited α] {d : Kd α} {Wf : α → Prop} (ht : P.underlying t = some (.slice e)) (hc : P.cellsOf e = d.sz) (he : OpensTo P e d.K Wf) : OpensTo P t (Kd.slice e d).K (fun l => ∀ a ∈ l, Wf a) := by
  intro H enc w base sp held fuel cs x h
  rcases open_slice ht h with ⟨rfl, _⟩ | ⟨a, len, cap, m, n, D, Pl, rfl, hb, hl, hcap, hm, _, hel⟩
  · exact ⟨[], ⟨none, 0, rfl, Nat.le_refl _, rfl, by simp, fun h => by simp at h⟩, by simp⟩
  · have hmm : len ≤ m := by rw [hm]; split <;> omega
    have hx : ∀ i, i < len → ∃ (y : α) (cs' : List Value), w.cells? base (a.add (i * d.sz)) d.sz = some cs' ∧ d.K w y cs' ∧ Wf y := by
      intro i hi
      obtain ⟨cs', h1, h2⟩ := hel i (by omega)
      rw [hc] at h1
      obtain ⟨y, h3, h4⟩ := he H enc w base sp held n cs' _ h2
      exact ⟨y, cs', h1, h3, h4⟩
    let f : Nat → α := fun i => if h : i < len then Classical.choose (hx i h) else default
    have hf : ∀ i, i < len → ∃ cs', w.cells? base (a.add (i * d.sz)) d.sz = some cs' ∧ d.K w (f i) cs' ∧ Wf (f i) := by
      intro i hi
      have : f i = Classical.choose (hx i hi) := dif_pos hi
      rw [this]
      exact Classical.choose_spec (hx i hi)
    have hlen : ((List.range len).map f).length = len := by simp
    refine ⟨(List.range len).map f, ⟨some a, cap, by rw [hlen], by rw [hlen]; exact hl, ?_⟩, ?_⟩
    · refine ⟨rfl, by rw [hlen]; simp only [maxLen] at hcap; omega, fun _ => ⟨a, rfl, fun j p hj => ?_⟩⟩
      have hj' : j < len := by
        have := (List.getElem?_eq_some_iff.1 hj).1
        omega
      have hp : p = f j := by simp [hj'] at hj; exact hj.symm
      subst hp
      obtain ⟨cs', h1, h2, _⟩ := hf j hj'
      refine ⟨cs', d.K_len h2, h2, fun i u hu => ?_⟩
      obtain ⟨_, h3, h4⟩ := World.cells?_some h1
      have hi : i < d.sz := by have := (List.getElem?_eq_some_iff.1 hu).1; have := d.K_len h2; omega
      have h5 := h4 i hi
      rw [show (a.add (j * d.sz + i)) = (a.add (j * d.sz)).add i from ?_, h5, hu]
      unfold Addr.add
      by_cases e1 : j * d.sz = 0 <;> by_cases e2 : i = 0 <;> simp [e1, e2, Nat.add_assoc]
    · intro y hy
      rw [List.mem_map] at hy
      obtain ⟨i, hi, rfl⟩ := hy
      obtain ⟨_, _, _, h⟩ := hf i (List.mem_range.1 hi)
      exact h
theorem slice_of_K {α : Type} {d : Kd α} {w : World} {l : List α} {v : Value} {A : Option Addr} {n c : Nat} (hv : v = .slice A n c) (h : (Kd.slice e d).K w l v.cells.toList) : n = l.length ∧ l.length ≤ c ∧ d.C w A l.length l := by
  subst hv
  obtain ⟨A', c', h1, h2, h3⟩ := h
  simp [Value.cells] at h1
  obtain ⟨rfl, rfl, rfl⟩ := h1
  exact ⟨rfl, h2, h3⟩
/-! ### structs -/
def OpensFs {β : Type} (P : Program) (fs : List Field) (o sz : Nat) (K : World → β → List Value → Prop) (Wf : β → Prop) : Prop :=
  ∀ (H : Type) (enc : TypeId × Value → H) (w : World) (base : Nat) (sp : Nat → Bool) (held : Bool) (fuel : Nat) (cs : List Value) (xs : List (DataW H × List MemPlace)), cs.length = o + sz →
    (fs.mapM fun f => DataW.trod enc P w base sp held fuel f.type ((cs.drop f.offset).take (P.cellsOf f.type))) = some xs → ∃ b, K w b (cs.drop o) ∧ Wf b
theorem opensFs_last {β : Type} {K : World → β → List Value → Prop} {Wf : β → Prop} {f : Field} {o sz : Nat} (ho : f.offset = o) (hc : P.cellsOf f.type = sz) (h : OpensTo P f.type K Wf) : OpensFs P [f] o sz K Wf := by
  intro H enc w base sp held fuel cs xs hl hx
  rw [List.mapM_cons] at hx
  cases hq : DataW.trod enc P w base sp held fuel f.type ((cs.drop f.offset).take (P.cellsOf f.type)) with
  | none => rw [hq] at hx; cases hx
  | some y =>
    obtain ⟨b, h1, h2⟩ := h H enc w base sp held fuel _ _ hq
    rw [ho, hc, List.take_of_length_le (by rw [List.length_drop]; omega)] at h1
    exact ⟨b, h1, h2⟩
theorem opensFs_cons {α β : Type} {da : Kd α} {db : Kd β} {Wa : α → Prop} {Wb : β → Prop} {f : Field} {fs : List Field} {o sz : Nat} (ho : f.offset = o) (hc : P.cellsOf f.type = da.sz) (h : OpensTo P f.type da.K Wa) (hs : OpensFs P fs (o + da.sz) sz db.K Wb) :
    OpensFs P (f :: fs) o (da.sz + sz) (Kd.pair da db).K (fun x => Wa x.1 ∧ Wb x.2) := by
  intro H enc w base sp held fuel cs xs hl hx
  rw [List.mapM_cons] at hx
  cases hq : DataW.trod enc P w base sp held fuel f.type ((cs.drop f.offset).take (P.cellsOf f.type)) with
  | none => rw [hq] at hx; cases hx
  | some y =>
    rw [hq] at hx
    cases hr : (fs.mapM fun f => DataW.trod enc P w base sp held fuel f.type ((cs.drop f.offset).take (P.cellsOf f.type))) with
    | none => rw [hr] at hx; cases hx
    | some ys =>
      obtain ⟨a, h1, h2⟩ := h H enc w base sp held fuel _ _ hq
      obtain ⟨b, h3, h4⟩ := hs H enc w base sp held fuel cs ys (by omega) hr
      rw [ho, hc] at h1
      refine ⟨(a, b), ⟨_, _, ?_, h1, h3⟩, h2, h4⟩
      rw [← List.drop_drop, List.take_append_drop]
theorem opens_struct {α : Type} {d : Kd α} {Wf : α → Prop} {fs : Array Field} (ht : P.underlying t = some (.struct fs)) (hc : P.cellsOf t = d.sz) (h : OpensFs P fs.toList 0 d.sz d.K Wf) : OpensTo P t d.K Wf := by
  intro H enc w base sp held fuel cs x hx
  cases fuel with
  | zero => simp [DataW.trod] at hx
  | succ fuel =>
    unfold DataW.trod at hx
    rw [ht] at hx
    dsimp only at hx
    split at hx
    · rename_i hl
      rw [Option.map_eq_some_iff] at hx
      obtain ⟨xs, hxs, _⟩ := hx
      have := h H enc w base sp held fuel _ _ (by rw [hl, hc, Nat.zero_add]) hxs
      simpa using this
    · cases hx
theorem opens_iso {α β : Type} {d : Kd α} (f : β → α) (g : α → β) (hfg : ∀ x, f (g x) = x) {Wf : α → Prop} (h : OpensTo P t d.K Wf) : OpensTo P t (Kd.iso d f).K (fun x => Wf (f x)) := by
  intro H enc w base sp held fuel cs x hx
  obtain ⟨a, h1, h2⟩ := h H enc w base sp held fuel cs x hx
  refine ⟨g a, ?_, ?_⟩
  · show d.K w (f (g a)) cs
    rw [hfg]; exact h1
  · show Wf (f (g a))
    rw [hfg]; exact h2
end Go.Proofs.YtjlhhjfmekjbhaaGreatDoor.Opens

/- What a row tells of a code's numbers. No condition. -/
namespace Go.Proofs.YtjlhhjfmekjbhaaGreatDoor
open Go.RowKit Go.Proofs.YtjlhhjfmekjbhaaGreatDoorW.PrintWords Go.Proofs.YtjlhhjfmekjbhaaGreatDoor.Vf
set_option linter.unusedVariables false
theorem rowL_of {l : List P} (h : ∀ a ∈ l, (Lit.int .i64 a.f0).wf = true ∧ ∀ x ∈ a.f1, (Lit.int .i64 x.f0).wf = true ∧ (Lit.int .i64 x.f1).wf = true ∧ (Lit.int .i64 x.f2).wf = true ∧ (Lit.int .i64 x.f3).wf = true ∧ (Lit.int .i64 x.f4).wf = true ∧ x.f5.size ≤ maxLen ∧ (Lit.int .i64 x.f6).wf = true ∧ ∀ n ∈ x.f7, (Lit.int .i64 n).wf = true) : Pure.RowL l := fun p hp =>
  ⟨Va.i64_of_wf (h p hp).1, fun x hx => by
    obtain ⟨h0, h1, h2, h3, h4, _, h6, h7⟩ := (h p hp).2 x hx
    exact ⟨Va.i64_of_wf h0, Va.i64_of_wf h1, Va.i64_of_wf h2, Va.i64_of_wf h3, Va.i64_of_wf h4, Va.i64_of_wf h6, fun n hn => Va.i64_of_wf (h7 n hn)⟩⟩
end Go.Proofs.YtjlhhjfmekjbhaaGreatDoor

/- What a row's listed variables give the walks. No condition. -/
namespace Go.Proofs.YtjlhhjfmekjbhaaGreatDoor.Vl
open Go.ChangeShapes Go.WideShapes Go.ChangeAt Go.RowKit Go.Shelf
set_option linter.unusedVariables false
set_option linter.unusedSimpArgs false
def five : List (String × DataW Unit) := [("math/bits.deBruijn32tab", Rows.laid_math_bits_deBruijn32tab), ("math/bits.deBruijn64tab", Rows.laid_math_bits_deBruijn64tab), ("internal/strconv.uint64pow10", Rows.laid_internal_strconv_uint64pow10), ("strconv.ErrRange", Rows.laid_strconv_ErrRange), ("strconv.ErrSyntax", Rows.laid_strconv_ErrSyntax)]
theorem gPow : Tryz.prog.globalNamed "internal/strconv.uint64pow10" = some 0 := by kernel_rfl
theorem gSyn : Tryz.prog.globalNamed "strconv.ErrSyntax" = some 4 := by kernel_rfl
theorem gRng : Tryz.prog.globalNamed "strconv.ErrRange" = some 5 := by kernel_rfl
theorem tPow : (Tryz.prog.globals[0]?).map (·.type) = some 122 := by kernel_rfl
theorem tSyn : (Tryz.prog.globals[4]?).map (·.type) = some 57 := by kernel_rfl
theorem tRng : (Tryz.prog.globals[5]?).map (·.type) = some 57 := by kernel_rfl
theorem starE : "*" ++ "errors.errorString" = "*errors.errorString" := by decide
theorem rowE (u : TypeId) (h : Tryz.prog.typeName? 3 u = some "*errors.errorString") : u = 147 :=
  typeName_ptr_named (nm := "errors.errorString") (by rw [starE]; kernel_rfl) (by kernel_rfl) (by decide) u (by rw [starE]; exact h)
theorem cellsE : Tryz.prog.cellsOf 149 = 1 := by kernel_rfl
theorem cellsS : Tryz.prog.cellsOf 9 = 1 := by kernel_rfl
theorem only (x : String × DataW Unit) (n : String) (h : five.filter (fun y => y.1 == n) = [x]) {W : World} (hL : laidMet Tryz.prog five W) : laidMet Tryz.prog [x] W := by
  have := hL.filter (fun y => y.1 == n)
  rw [h] at this
  exact this
theorem laid_of {W : World} (h : laidMetH Tryz.prog five W) : Va.Laid W := by
  rw [MakeChecks.laidMetH_plain _ _ _ (by kernel_rfl)] at h
  have h1 := only ("internal/strconv.uint64pow10", Rows.laid_internal_strconv_uint64pow10) "internal/strconv.uint64pow10" (by kernel_rfl) h
  have h2 := only ("strconv.ErrSyntax", Rows.laid_strconv_ErrSyntax) "strconv.ErrSyntax" (by kernel_rfl) h
  have h3 := only ("strconv.ErrRange", Rows.laid_strconv_ErrRange) "strconv.ErrRange" (by kernel_rfl) h
  obtain ⟨a0, s0, hv0, -, -, -⟩ := laid_sentinel h2 gSyn tSyn Tryz.underlying57 rowE Tryz.underlying147 Tryz.underlying149 rfl rfl Tryz.underlying9 cellsE cellsS
  obtain ⟨a1, s1, hv1, -, -, -⟩ := laid_sentinel h3 gRng tRng Tryz.underlying57 rowE Tryz.underlying147 Tryz.underlying149 rfl rfl Tryz.underlying9 cellsE cellsS
  exact ⟨Lib.tabIs_of_head gPow tPow Tryz.underlying122 Tryz.underlying111 (by kernel_rfl) (by kernel_rfl) h1, ⟨_, _, hv0⟩, ⟨_, _, hv1⟩⟩
theorem own : ownKnob Tryz.prog.godebug = none := by kernel_rfl
theorem laidOut : laidOutB Tryz.prog = true := by kernel_rfl
theorem door_met (os : Os) (args : Array Value) : laidMetH Tryz.prog five ((World.doorLaid Tryz.prog 400 os).forCall (fun _ _ => 0) ⟨#[], args, []⟩).memory :=
  laidMetH_of_parts3 (fuel := 8) (laidMet_of_run' 8 (by kernel_rfl) (by kernel_rfl)) (by kernel_rfl) (by kernel_rfl)
end Go.Proofs.YtjlhhjfmekjbhaaGreatDoor.Vl

