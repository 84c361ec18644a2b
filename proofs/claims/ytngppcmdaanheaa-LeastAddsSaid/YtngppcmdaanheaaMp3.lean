/- Lemmas for the claims of this seat (own texts, packed; what the claims do not use is left out). No condition. -/
import Derived.Test.YtngppcmdaanheaaMp0
import Derived.Test.YtngppcmdaanheaaMp1
import Derived.Test.YtngppcmdaanheaaMp2
namespace Go.Proofs.Ytngppcmdaanheaa.Ls
open Go.RowKit Go.Maps Go.Proofs.Ytngppcmdaanheaa.Iter Go.Proofs.Ytngppcmdaanheaa.ISet Go.Proofs.Ytngppcmdaanheaa.Pr Go.Proofs.Ytngppcmdaanheaa.Ext Go.Proofs.YtngppcmdaanheaaW.PrintWords Go.Proofs.YtngppcmdaanheaaW.PrintLast Go.Proofs.YtngppcmdaanheaaW.PrintMore
set_option linter.unusedVariables false
set_option linter.unusedSimpArgs false
attribute [local go_sem] Oper.semAt_some
def buT14 : Bool × List (List Nat × List Nat) := (true, [([], []), ([], []), ([1], [1]), ([], []), ([], []), ([4], [4]), ([3, 5], [3, 5]), ([], []), ([], []), ([8], [8]), ([], []), ([10], [10]), ([2, 6, 7, 9, 11], [2, 6, 7, 9, 11]), ([], []), ([0, 12, 13, 6], [0, 12, 13])])
def buB14 : List Nat := [0, 0, 2, 0, 0, 16, 56, 0, 0, 256, 0, 1024, 4094, 0, 16383]
theorem butab14 : rtab .any (opsOf Try.f36 14) = buT14 := by kernel_rfl
theorem bubits14 : waitsOk buT14.2 buB14 = true := by kernel_rfl
def apL (r : Ro) (t ea m : Int) : List Fa := rg (bsL r.l 9 t).length (fun i => callL r ⟨m, bsL r.l 9 (t + 1), [], ea, t + 2, t + 3⟩ (rd (bsL r.l 9 t) (i : Int)))
def spreadL (r : Ro) (t ea : Int) : List Fa := rg (bsL r.l 9 (t + 1)).length (fun i => askL 9 ea noS (loadsL r.l (fun _ => true) (rd (bsL r.l 9 (t + 1)) (i : Int))) ++ [])
def builtL (r : Ro) (f : Fa) : List Fa :=
 if f.f0 = 5 ∧ f.f3 = 2 then apL r (r.s0 - 9) (r.s0 - 9 + 1) f.f1
 else if f.f0 = 5 ∧ f.f3 = 3 then spreadL r (r.s0 - 9 + 4) (r.s0 - 9 + 8) ++ apL r (r.s0 - 9 + 4) (r.s0 - 9 + 8) f.f1
 else []
def FaAt (W : World) (b : Nat) (f0 f1 : Int) (f2 : ByteArray) (f3 : Int) : Prop :=
 W.cell? ⟨b, 0, none⟩ = some (.int .i64 f0) ∧ W.cell? ⟨b, 1, none⟩ = some (.int .i64 f1) ∧ W.cell? ⟨b, 2, none⟩ = some (.string f2) ∧ W.cell? ⟨b, 3, none⟩ = some (.int .i64 f3)
set_option maxHeartbeats 16000000 in
set_option maxRecDepth 100000 in
theorem builtins_calls {r : Ro} {w0 W1 W : World} {n : Nat} {S : Fa → Bool} {L R : List Fa} (h : RoAt r w0 W1) (hst : StA r n S L W1 W) (f : Fa) (hg : Good n (L ++ (builtL r f ++ R)))
  (hsort : r.l.Pairwise LF) (hlen : r.l.length ≤ 900000) (hfl : 1 ≤ r.fs.length ∧ r.fs.length ≤ 1000000) (hs0 : 0 ≤ r.s0 ∧ r.s0 ≤ 1000000000) (hwl : ∀ f ∈ r.l, wfI f.f3) :
  Calls Try.prog 36 #[.pointer (some ⟨r.Br, 0, none⟩), aggF f] W fun e W' => e = .returned (.tuple #[]) ∧ StA r n S (L ++ builtL r f) W1 W' ∧ Good n ((L ++ builtL r f) ++ R) := by
 obtain ⟨f0, f1, f2, f3⟩ := f
 unfold aggF
 obtain ⟨Wb, hWb⟩ : ∃ Wb, Wb = W.alloc (.cells #[.int .i64 f0, .int .i64 f1, .string f2, .int .i64 f3] 41) := ⟨_, rfl⟩
 have hbb : Below W.heap.size W Wb := by rw [hWb]; exact below_alloc (Below.refl _ W) _
 have hstb := (hst.quiet hbb).here
 have hroB : RoAt r w0 Wb := (h.asked hst.ch).quiet hbb
 have hnb : Wb.heap[W.heap.size]? = some (.cells #[.int .i64 f0, .int .i64 f1, .string f2, .int .i64 f3] 41 (0, 0)) := by rw [hWb]; exact heap_alloc_new _ _
 have hMb : FSet Wb r.Mb (n + L.length) (addS S L) := hstb.set
 have HFC := zm (show ∀ W', Chg (fun i => i = r.Mb) Wb W' → FaAt W' W.heap.size f0 f1 f2 f3 from fun W' hc => by
  have hc' : ∀ j v, (#[.int .i64 f0, .int .i64 f1, .string f2, .int .i64 f3] : Array Value)[j]? = some v → W'.cell? ⟨W.heap.size, j, none⟩ = some v := fun j v hv => cell_map hMb hc (by simp [World.cell?, hnb, hv])
  exact ⟨hc' 0 _ rfl, hc' 1 _ rfl, hc' 2 _ rfl, hc' 3 _ rfl⟩)
 have HRC := zm (show ∀ W', Chg (fun i => i = r.Mb) Wb W' → W'.cell? ⟨r.Br, 0, none⟩ = some (.int .i64 r.s0) from fun W' hc => (hroB.asked hc).cell 0)
 have HRO := zm hroB
 have HST := zm hstb
 have HS := zm hsort
 have HWL := zm hwl
 have HCH := zm (show Chg (fun i => i = r.Mb) W1 Wb from hst.ch.then_below hbb)
 have HG := zm hg
 clear h hst hg hsort hstb hroB hMb hnb hbb hwl
 go_enter Try.func36, Try.ntmps36
 obtain ⟨f0_, f1_, f2_, f3_⟩ := HFC.out Wb HST.out.ch
 have d0 := HRC.out Wb HST.out.ch
 rw [hWb] at f0_ f1_ f2_ f3_ d0
 have HWB := zm hWb
 clear hWb
 by_cases h5 : f0 = 5
 ·subst h5
  by_cases h2 : f3 = 2
  ·subst h2
   obtain ⟨t, ht⟩ : ∃ t, t = r.s0 - 9 := ⟨_, rfl⟩
   obtain ⟨ea, hea⟩ : ∃ ea, ea = r.s0 - 9 + 1 := ⟨_, rfl⟩
   have HEQ := zm (show builtL r ⟨5, f1, f2, 2⟩ = apL r t ea f1 by simp [builtL, ht, hea])
   have HGK := zm (show Good n (L ++ (apL r t ea f1 ++ R)) by rw [← HEQ.out]; exact HG.out)
   have hw1 : wrap64 (r.s0 - 9) = t := by unfold wrap64; omega
   have hw2 : wrap64 (t + 1) = t + 1 := by unfold wrap64; omega
   have hw3 : wrap64 (t + 2) = t + 2 := by unfold wrap64; omega
   have hw4 : wrap64 (t + 3) = t + 3 := by unfold wrap64; omega
   have HT := zm ht
   have HEA := zm hea
   clear ht hea
   go_wp2_with fail
   rw [← HWB.out, ← HEA.out, ← HT.out]
   clear f0_ f1_ f2_ f3_ d0 hw1 HWB
   refine (st_in HRO.out HST.out (t) HS.out hlen).mono ?_
   rintro e Wi ⟨Ai, ci, rfl, hC_, hst_⟩
   have HCI := zm hst_.ch
   have HBI := zm (show ∀ W', Chg (fun i => i = r.Mb) Wi W' → Kd.C (Kd.int .i64) W' Ai (bsL r.l 9 (t)).length (bsL r.l 9 (t)) from fun W' hc => intC_map hst_.set hc hC_)
   have HROI := zm (HRO.out.asked hst_.ch)
   obtain ⟨EF, hEF⟩ : ∃ EF : Nat → List Fa, EF = fun i : Nat => callL r ⟨f1, bsL r.l 9 (t + 1), [], ea, t + 2, t + 3⟩ (rd (bsL r.l 9 t) (i : Int)) := ⟨_, rfl⟩
   obtain ⟨Lc, hLc⟩ : ∃ Lc, Lc = L := ⟨_, rfl⟩
   have HST4 := zm (show StA r n S Lc Wi Wi by rw [hLc]; exact hst_.here)
   have HG4 := zm (show Good n (Lc ++ (rg (bsL r.l 9 (t)).length EF ++ R)) by rw [hLc, hEF]; exact HGK.out)
   have HLC := zm hLc
   have HF := zm hEF
   have hbl : (bsL r.l 9 (t)).length ≤ 900000 := Nat.le_trans (bsL_le _ _ _) hlen
   clear hLc hEF HST HGK hst_ hC_
   go_wp2
   go_loopg [9, 58] (bsL r.l 9 (t)).length (fun jq v9 v58 W_ => ∃ j : Nat, v58 = .int .i64 j ∧ j + jq = (bsL r.l 9 (t)).length ∧ StA r n S (Lc ++ rg j EF) Wi W_)
   case atStart => exact ⟨0, rfl, by omega, by rw [rg_zero, List.append_nil]; exact HST4.out⟩
   case round =>
    clear HST4
    obtain ⟨j, rfl, hj, hst⟩ := hrel
    have HST := zm hst
    clear hst
    by_cases hla : j < (bsL r.l 9 (t)).length
    ·have HGK := zm (HG4.out.loop hla)
     have HPK := zm (congrFun HF.out j)
     have HRJ := zm (rg_succ j EF)
     have hwc := wf_bs HWL.out 9 (t) (rd_mem (bsL r.l 9 (t)) j hla)
     obtain ⟨ad3, rfl, hp3⟩ := Kd.at_int (HBI.out _ HST.out.ch) (j : Int) (by omega) (by omega)
     rw [Int.toNat_natCast] at hp3
     generalize rd (bsL r.l 9 (t)) (j : Int) = av at *
     generalize EF j = PJ at *
     rw [HPK.out] at HGK
     go_wp2
     obtain ⟨Wd, hWd⟩ : ∃ Wd, wr.drew = Wd := ⟨_, rfl⟩
     have HST := zm (HST.out.quiet (W' := Wd) (by rw [← hWd]; exact below_drew (Below.refl _ _)))
     refine start_ (n := 15) (S := fun W' => Chg (fun i => i = r.Mb) Wi W') (ds := []) #[false, false, false, false, false, false, false, false, false, false, false, false, false, false, false] (by kernel_rfl) rfl rfl (by rw [hWd]; exact HST.out.ch) (fun hHeld => ?_)
     rw [hWd] at hHeld ⊢
     refine with_tabW butab14 bubits14 (fun HT_ HW_ => ?_)
     refine zp 0 62 (ha := by simp only [zs, hw2, hw3, hw4]; rfl) (h := ?_)
     refine zp 1 63 (ha := by simp only [zs, hw2, hw3, hw4]; rfl) (h := ?_)
     refine zt 2 64 (hy := by
       intro w' hw'
       obtain ⟨f0_, f1_, f2_, f3_⟩ := HFC.out w' (HCI.out.then_ hw')
       first | (go_simp; with_reducible rfl)) (ha := by simp only [zs, hw2, hw3, hw4]; rfl) (h := ?_)
     refine zp 3 65 (ha := by simp only [zs, hw2, hw3, hw4]; rfl) (h := ?_)
     refine zp 4 66 (ha := by simp only [zs, hw2, hw3, hw4]; rfl) (h := ?_)
     refine zp 5 67 (ha := by simp only [zs, hw2, hw3, hw4]; rfl) (h := ?_)
     refine zp 7 69 (ha := by simp only [zs, hw2, hw3, hw4]; rfl) (h := ?_)
     refine zp 8 70 (ha := by simp only [zs, hw2, hw3, hw4]; rfl) (h := ?_)
     refine zp 9 71 (ha := by simp only [zs, hw2, hw3, hw4]; rfl) (h := ?_)
     refine zp 10 72 (ha := by simp only [zs, hw2, hw3, hw4]; rfl) (h := ?_)
     refine zp 11 73 (ha := by simp only [zs, hw2, hw3, hw4]; rfl) (h := ?_)
     refine zp 13 75 (ha := by simp only [zs, hw2, hw3, hw4]; rfl) (h := ?_)
     refine zo 6 68 (h := fun K hK => ?_)
     refine zg Try.func52 #[.pointer (some ⟨r.Br, 0, none⟩), .int .i64 (t + 1)] (h := ?_)
     refine (st_in HROI.out HST.out (t + 1) HS.out hlen).mono ?_
     rintro e W8 ⟨A8, c8, rfl, hC_, hst_⟩
     refine ⟨_, rfl, ?_⟩
     have HST := zm hst_
     have HC8 := zm hC_
     clear hst_ hC_
     refine hK.out _ _ HST.out.ch (fun hHeld => ?_)
     clear hK K
     refine zn (ha := by simp only [zs, hw2, hw3, hw4]; rfl) (h := ?_)
     refine zp 12 74 (ha := by simp only [zs, hw2, hw3, hw4]; rfl) (h := ?_)
     refine zo 14 76 (h := fun K hK => ?_)
     refine zg Try.func55 #[.pointer (some ⟨r.Br, 0, none⟩), .agg (clCells ⟨f1, bsL r.l 9 (t + 1), [], ea, t + 2, t + 3⟩ A8 c8 none 0), .int .i64 av] (h := ?_)
     refine (called_calls HROI.out HST.out ⟨f1, bsL r.l 9 (t + 1), [], ea, t + 2, t + 3⟩ av HGK.out HC8.out (Kd.C_nil _ _) HS.out hlen hfl.2 hs0).mono ?_
     rintro e W9 ⟨rfl, hst_, hg_⟩
     refine ⟨_, rfl, ?_⟩
     have HST := zm hst_
     clear hst_ hg_
     refine hK.out _ _ HST.out.ch (fun hHeld => ?_)
     clear hK K
     refine zn (ha := by simp only [zs, hw2, hw3, hw4]; rfl) (h := ?_)
     refine done_ (done_of HT_.out (by kernel_rfl)) ?_
     clear hHeld
     go_wp2
     go_roundg (gk - 1)
     case measure => omega
     case rel => exact ⟨j + 1, by go_num, by omega, by rw [HRJ.out, HPK.out, ← List.append_assoc]; exact HST.out⟩
    ·obtain rfl : j = (bsL r.l 9 t).length := by omega
     have HGK := zm (HG4.out.next)
     clear HG4
     go_wp2
     go_end0
     have e : L ++ builtL r ⟨5, f1, f2, 2⟩ = Lc ++ rg (bsL r.l 9 t).length EF := by
      rw [HEQ.out, HLC.out, HF.out]
      first | rfl | (simp only [apL, List.append_assoc]; done)
     rw [e]
     exact ⟨rfl, (HST.out.rebase HCI.out).rebase HCH.out, HGK.out⟩
  ·by_cases h3 : f3 = 3
   ·subst h3
    obtain ⟨t, ht⟩ : ∃ t, t = r.s0 - 9 + 4 := ⟨_, rfl⟩
    obtain ⟨ea, hea⟩ : ∃ ea, ea = r.s0 - 9 + 8 := ⟨_, rfl⟩
    have HEQ := zm (show builtL r ⟨5, f1, f2, 3⟩ = spreadL r t ea ++ apL r t ea f1 by simp [builtL, ht, hea])
    have HGK := zm (show Good n (L ++ (spreadL r t ea ++ (apL r t ea f1 ++ R))) by
     have h9 := HG.out
     rw [HEQ.out] at h9
     simpa only [List.append_assoc] using h9)
    obtain ⟨t0, ht0⟩ : ∃ t0, t0 = r.s0 - 9 := ⟨_, rfl⟩
    have hw1 : wrap64 (r.s0 - 9) = t0 := by unfold wrap64; omega
    have hw0 : wrap64 (t0 + 1) = t0 + 1 := by unfold wrap64; omega
    have hw5 : wrap64 (t0 + 4) = t := by unfold wrap64; omega
    have hw6 : wrap64 (t0 + 8) = ea := by unfold wrap64; omega
    have hw2 : wrap64 (t + 1) = t + 1 := by unfold wrap64; omega
    have hw3 : wrap64 (t + 2) = t + 2 := by unfold wrap64; omega
    have hw4 : wrap64 (t + 3) = t + 3 := by unfold wrap64; omega
    have HT := zm ht
    have HEA := zm hea
    clear ht hea ht0
    go_wp2_with fail
    rw [← HWB.out, ← HEA.out, ← HT.out]
    clear f0_ f1_ f2_ f3_ d0 hw1 hw0 hw5 hw6 HWB
    refine (st_in HRO.out HST.out (t + 1) HS.out hlen).mono ?_
    rintro e Wi ⟨Ai, ci, rfl, hC_, hst_⟩
    have HCI := zm hst_.ch
    have HBI := zm (show ∀ W', Chg (fun i => i = r.Mb) Wi W' → Kd.C (Kd.int .i64) W' Ai (bsL r.l 9 (t + 1)).length (bsL r.l 9 (t + 1)) from fun W' hc => intC_map hst_.set hc hC_)
    have HROI := zm (HRO.out.asked hst_.ch)
    obtain ⟨EF, hEF⟩ : ∃ EF : Nat → List Fa, EF = fun i : Nat => askL 9 ea noS (loadsL r.l (fun _ => true) (rd (bsL r.l 9 (t + 1)) (i : Int))) ++ [] := ⟨_, rfl⟩
    obtain ⟨Lc, hLc⟩ : ∃ Lc, Lc = L := ⟨_, rfl⟩
    have HST4 := zm (show StA r n S Lc Wi Wi by rw [hLc]; exact hst_.here)
    have HG4 := zm (show Good n (Lc ++ (rg (bsL r.l 9 (t + 1)).length EF ++ (rg (bsL r.l 9 t).length (fun i => callL r ⟨f1, bsL r.l 9 (t + 1), [], ea, t + 2, t + 3⟩ (rd (bsL r.l 9 t) (i : Int))) ++ R))) by rw [hLc, hEF]; exact HGK.out)
    have HLC := zm hLc
    have HF := zm hEF
    have hbl : (bsL r.l 9 (t + 1)).length ≤ 900000 := Nat.le_trans (bsL_le _ _ _) hlen
    clear hLc hEF HST HGK hst_ hC_
    go_wp2
    go_loopg [7, 43] (bsL r.l 9 (t + 1)).length (fun jq v7 v43 W_ => ∃ j : Nat, v43 = .int .i64 j ∧ j + jq = (bsL r.l 9 (t + 1)).length ∧ StA r n S (Lc ++ rg j EF) Wi W_)
    case atStart => exact ⟨0, rfl, by omega, by rw [rg_zero, List.append_nil]; exact HST4.out⟩
    case round =>
     clear HST4
     obtain ⟨j, rfl, hj, hst⟩ := hrel
     have HST := zm hst
     clear hst
     by_cases hla : j < (bsL r.l 9 (t + 1)).length
     ·have HGK := zm (HG4.out.loop hla)
      have HPK := zm (congrFun HF.out j)
      have HRJ := zm (rg_succ j EF)
      have hwc := wf_bs HWL.out 9 (t + 1) (rd_mem (bsL r.l 9 (t + 1)) j hla)
      obtain ⟨ad3, rfl, hp3⟩ := Kd.at_int (HBI.out _ HST.out.ch) (j : Int) (by omega) (by omega)
      rw [Int.toNat_natCast] at hp3
      generalize rd (bsL r.l 9 (t + 1)) (j : Int) = av at *
      generalize EF j = PJ at *
      rw [HPK.out] at HGK
      rw [List.append_nil] at HGK
      go_wp2_with fail
      refine (loads_calls (HROI.out.asked HST.out.ch) av 54 #[] (fun _ => true) (enters_of Try.func54 (by kernel_rfl) rfl) (fun W' _ s' => isAny_calls s' W') HS.out hlen hwc HWL.out).mono ?_
      rintro e W5 ⟨v8, ys8, rfl, hO8, hp8, hb8⟩
      obtain ⟨A8, c8, rfl, hlc8, hcc8⟩ := own_slice3 hO8
      have HC8 := zm (Kd.R_reads' hO8).2.2
      have HP8 := zm hp8
      have HST := zm (HST.out.quiet hb8)
      clear hO8 hp8 hb8 hlc8 hcc8
      go_wp2_with fail
      refine (st_asks_perm HROI.out HST.out HP8.out HGK.out rfl HC8.out).mono ?_
      rintro e W6 ⟨rfl, hst_, hg_⟩
      have HST := zm hst_
      clear hst_ hg_
      go_wp2
      go_roundg (gk - 1)
      case measure => omega
      case rel => exact ⟨j + 1, by go_num, by omega, by rw [HRJ.out, HPK.out, List.append_nil, ← List.append_assoc]; exact HST.out⟩
     ·obtain rfl : j = (bsL r.l 9 (t + 1)).length := by omega
      have HGK := zm (HG4.out.next)
      have HST := zm (HST.out.rebase HCI.out)
      have HL1 := zm (show Lc ++ rg (bsL r.l 9 (t + 1)).length EF = L ++ spreadL r t ea by rw [HLC.out, HF.out]; rfl)
      rw [HL1.out] at HST HGK
      clear HG4 HF HLC HBI HROI HCI HL1 hbl
      go_wp2_with fail
      refine (st_in HRO.out HST.out (t) HS.out hlen).mono ?_
      rintro e Wi ⟨Ai, ci, rfl, hC_, hst_⟩
      have HCI := zm hst_.ch
      have HBI := zm (show ∀ W', Chg (fun i => i = r.Mb) Wi W' → Kd.C (Kd.int .i64) W' Ai (bsL r.l 9 (t)).length (bsL r.l 9 (t)) from fun W' hc => intC_map hst_.set hc hC_)
      have HROI := zm (HRO.out.asked hst_.ch)
      obtain ⟨EF, hEF⟩ : ∃ EF : Nat → List Fa, EF = fun i : Nat => callL r ⟨f1, bsL r.l 9 (t + 1), [], ea, t + 2, t + 3⟩ (rd (bsL r.l 9 t) (i : Int)) := ⟨_, rfl⟩
      obtain ⟨Lc, hLc⟩ : ∃ Lc, Lc = L ++ spreadL r t ea := ⟨_, rfl⟩
      have HST4 := zm (show StA r n S Lc Wi Wi by rw [hLc]; exact hst_.here)
      have HG4 := zm (show Good n (Lc ++ (rg (bsL r.l 9 (t)).length EF ++ R)) by rw [hLc, hEF]; exact HGK.out)
      have HLC := zm hLc
      have HF := zm hEF
      have hbl : (bsL r.l 9 (t)).length ≤ 900000 := Nat.le_trans (bsL_le _ _ _) hlen
      clear hLc hEF HST HGK hst_ hC_
      go_wp2
      go_loopg [9, 58] (bsL r.l 9 (t)).length (fun jq v9 v58 W_ => ∃ j : Nat, v58 = .int .i64 j ∧ j + jq = (bsL r.l 9 (t)).length ∧ StA r n S (Lc ++ rg j EF) Wi W_)
      case atStart => exact ⟨0, rfl, by omega, by rw [rg_zero, List.append_nil]; exact HST4.out⟩
      case round =>
       clear HST4
       obtain ⟨j, rfl, hj, hst⟩ := hrel
       have HST := zm hst
       clear hst
       by_cases hla : j < (bsL r.l 9 (t)).length
       ·have HGK := zm (HG4.out.loop hla)
        have HPK := zm (congrFun HF.out j)
        have HRJ := zm (rg_succ j EF)
        have hwc := wf_bs HWL.out 9 (t) (rd_mem (bsL r.l 9 (t)) j hla)
        obtain ⟨ad3, rfl, hp3⟩ := Kd.at_int (HBI.out _ HST.out.ch) (j : Int) (by omega) (by omega)
        rw [Int.toNat_natCast] at hp3
        generalize rd (bsL r.l 9 (t)) (j : Int) = av at *
        generalize EF j = PJ at *
        rw [HPK.out] at HGK
        go_wp2
        obtain ⟨Wd, hWd⟩ : ∃ Wd, wr.drew = Wd := ⟨_, rfl⟩
        have HST := zm (HST.out.quiet (W' := Wd) (by rw [← hWd]; exact below_drew (Below.refl _ _)))
        refine start_ (n := 15) (S := fun W' => Chg (fun i => i = r.Mb) Wi W') (ds := []) #[false, false, false, false, false, false, false, false, false, false, false, false, false, false, false] (by kernel_rfl) rfl rfl (by rw [hWd]; exact HST.out.ch) (fun hHeld => ?_)
        rw [hWd] at hHeld ⊢
        refine with_tabW butab14 bubits14 (fun HT_ HW_ => ?_)
        refine zp 0 62 (ha := by simp only [zs, hw2, hw3, hw4]; rfl) (h := ?_)
        refine zp 1 63 (ha := by simp only [zs, hw2, hw3, hw4]; rfl) (h := ?_)
        refine zt 2 64 (hy := by
          intro w' hw'
          obtain ⟨f0_, f1_, f2_, f3_⟩ := HFC.out w' (HCI.out.then_ hw')
          first | (go_simp; with_reducible rfl)) (ha := by simp only [zs, hw2, hw3, hw4]; rfl) (h := ?_)
        refine zp 3 65 (ha := by simp only [zs, hw2, hw3, hw4]; rfl) (h := ?_)
        refine zp 4 66 (ha := by simp only [zs, hw2, hw3, hw4]; rfl) (h := ?_)
        refine zp 5 67 (ha := by simp only [zs, hw2, hw3, hw4]; rfl) (h := ?_)
        refine zp 7 69 (ha := by simp only [zs, hw2, hw3, hw4]; rfl) (h := ?_)
        refine zp 8 70 (ha := by simp only [zs, hw2, hw3, hw4]; rfl) (h := ?_)
        refine zp 9 71 (ha := by simp only [zs, hw2, hw3, hw4]; rfl) (h := ?_)
        refine zp 10 72 (ha := by simp only [zs, hw2, hw3, hw4]; rfl) (h := ?_)
        refine zp 11 73 (ha := by simp only [zs, hw2, hw3, hw4]; rfl) (h := ?_)
        refine zp 13 75 (ha := by simp only [zs, hw2, hw3, hw4]; rfl) (h := ?_)
        refine zo 6 68 (h := fun K hK => ?_)
        refine zg Try.func52 #[.pointer (some ⟨r.Br, 0, none⟩), .int .i64 (t + 1)] (h := ?_)
        refine (st_in HROI.out HST.out (t + 1) HS.out hlen).mono ?_
        rintro e W8 ⟨A8, c8, rfl, hC_, hst_⟩
        refine ⟨_, rfl, ?_⟩
        have HST := zm hst_
        have HC8 := zm hC_
        clear hst_ hC_
        refine hK.out _ _ HST.out.ch (fun hHeld => ?_)
        clear hK K
        refine zn (ha := by simp only [zs, hw2, hw3, hw4]; rfl) (h := ?_)
        refine zp 12 74 (ha := by simp only [zs, hw2, hw3, hw4]; rfl) (h := ?_)
        refine zo 14 76 (h := fun K hK => ?_)
        refine zg Try.func55 #[.pointer (some ⟨r.Br, 0, none⟩), .agg (clCells ⟨f1, bsL r.l 9 (t + 1), [], ea, t + 2, t + 3⟩ A8 c8 none 0), .int .i64 av] (h := ?_)
        refine (called_calls HROI.out HST.out ⟨f1, bsL r.l 9 (t + 1), [], ea, t + 2, t + 3⟩ av HGK.out HC8.out (Kd.C_nil _ _) HS.out hlen hfl.2 hs0).mono ?_
        rintro e W9 ⟨rfl, hst_, hg_⟩
        refine ⟨_, rfl, ?_⟩
        have HST := zm hst_
        clear hst_ hg_
        refine hK.out _ _ HST.out.ch (fun hHeld => ?_)
        clear hK K
        refine zn (ha := by simp only [zs, hw2, hw3, hw4]; rfl) (h := ?_)
        refine done_ (done_of HT_.out (by kernel_rfl)) ?_
        clear hHeld
        go_wp2
        go_roundg (gk - 1)
        case measure => omega
        case rel => exact ⟨j + 1, by go_num, by omega, by rw [HRJ.out, HPK.out, ← List.append_assoc]; exact HST.out⟩
       ·obtain rfl : j = (bsL r.l 9 t).length := by omega
        have HGK := zm (HG4.out.next)
        clear HG4
        go_wp2
        go_end0
        have e : L ++ builtL r ⟨5, f1, f2, 3⟩ = Lc ++ rg (bsL r.l 9 t).length EF := by
         rw [HEQ.out, HLC.out, HF.out]
         first | rfl | (simp only [apL, List.append_assoc]; done)
        rw [e]
        exact ⟨rfl, (HST.out.rebase HCI.out).rebase HCH.out, HGK.out⟩
   ·have hk2 : (f3 == 2) = false := by simp [h2]
    have hk3 : (f3 == 3) = false := by simp [h3]
    have hn2 : (f3 != 2) = true := by rw [bne, hk2]; rfl
    have hn3 : (f3 != 3) = true := by rw [bne, hk3]; rfl
    have HEQ := zm (show builtL r ⟨5, f1, f2, f3⟩ = [] by simp [builtL, h2, h3])
    clear h2 h3
    go_wp2
    refine bodyPost_ret (results_none (by rfl) _ _ _) rfl ?_
    rw [HEQ.out, List.append_nil]
    refine ⟨rfl, ?_, ?_⟩
    ·rw [← HWB.out]
     exact HST.out.rebase HCH.out
    ·have h9 := HG.out
     rw [HEQ.out, List.nil_append] at h9
     exact h9
 ·have hk5 : (f0 == 5) = false := by simp [h5]
  have hn5 : (f0 != 5) = true := by rw [bne, hk5]; rfl
  have HEQ := zm (show builtL r ⟨f0, f1, f2, f3⟩ = [] by simp [builtL, h5])
  clear h5
  go_wp2
  refine bodyPost_ret (results_none (by rfl) _ _ _) rfl ?_
  rw [HEQ.out, List.append_nil]
  refine ⟨rfl, ?_, ?_⟩
  ·rw [← HWB.out]
   exact HST.out.rebase HCH.out
  ·have h9 := HG.out
   rw [HEQ.out, List.nil_append] at h9
   exact h9
end Go.Proofs.Ytngppcmdaanheaa.Ls
namespace Go.Proofs.Ytngppcmdaanheaa.Ls
open Go.RowKit Go.Maps Go.Proofs.Ytngppcmdaanheaa.Iter Go.Proofs.Ytngppcmdaanheaa.ISet Go.Proofs.Ytngppcmdaanheaa.Pr Go.Proofs.Ytngppcmdaanheaa.Ext Go.Proofs.YtngppcmdaanheaaW.PrintWords Go.Proofs.YtngppcmdaanheaaW.PrintLast Go.Proofs.YtngppcmdaanheaaW.PrintMore
set_option linter.unusedVariables false
set_option linter.unusedSimpArgs false
attribute [local go_sem] Oper.semAt_some
def roT5 : Bool × List (List Nat × List Nat) := (true, [([], []), ([0], [0]), ([1], [1]), ([2], [2]), ([], []), ([3, 4, 0, 1, 2, 3, 4], [3, 4])])
def roB5 : List Nat := [0, 1, 3, 7, 0, 31]
theorem rotab5 : rtab .any (opsOf Try.f21 5) = roT5 := by kernel_rfl
theorem robits5 : waitsOk roT5.2 roB5 = true := by kernel_rfl
def callS : ByteArray := ⟨#[99, 97, 108, 108]⟩
def applyS : ByteArray := ⟨#[97, 112, 112, 108, 121]⟩
def oldL (r : Ro) (i : Nat) : List Fa := [rd_T41 r.l (i : Int)] ++ builtL r (rd_T41 r.l (i : Int))
def newL (r : Ro) (i : Nat) : List Fa := if 0 < (bsL r.l 6 (rd_T46 r.rs (i : Int)).f1).length then ruleL r (rd_T46 r.rs (i : Int)) else []
def roundL (r : Ro) : List Fa :=
 rg r.l.length (oldL r) ++ (askL 6 0 noS [0] ++ (askL 3 1 callS [2] ++ (askL 3 1 applyS [3] ++ (askL 4 1 noS [0] ++ (askL 4 2 noS [1] ++ (askL 4 3 noS [1] ++ rg r.rs.length (newL r)))))))
theorem st_put {r : Ro} {W1 W : World} {n : Nat} {S : Fa → Bool} {L R : List Fa} (hst : StA r n S L W1 W) {f : Fa} (hg : Good n (L ++ ([f] ++ R))) :
  ∃ W', (Instr.mapUpdate 61 (.map (some r.Mb)) (aggF f) (.bool true)).run Try.prog W = .ok () W' ∧ StA r n S (L ++ [f]) W1 W' ∧ Good n ((L ++ [f]) ++ R) := by
 have h1 := hg.head
 have h2 := h1.2
 rw [List.length_append, List.length_singleton] at h2
 obtain ⟨W2, hput, hst2, hch2⟩ := hst.set.put (by simp only [maxLen]; omega) f (h1.1 f (by simp))
 refine ⟨W2, hput, ⟨?_, hst.ch.then_ hch2⟩, hg.next⟩
 rw [List.length_append, List.length_singleton, ← Nat.add_assoc]
 refine hst2.same (fun g _ => ?_)
 unfold addS
 simp only [List.mem_append, List.mem_singleton, Bool.decide_or]
 cases decide (g = f) <;> simp
theorem RowF.lower {W : World} {b b' : Nat} {v : Value} {ys : List Fa} (h : RowF W b v ys) (hb : b' ≤ b) : RowF W b' v ys := by
 rcases h with h | ⟨g, c, h1, h2, h3⟩
 ·exact .inl h
 ·exact .inr ⟨g, c, h1, Nat.le_trans hb h2, h3⟩
def SyAt (W : World) (b : Nat) (A : Option Addr) (n c : Nat) : Prop := W.cell? ⟨b, 2, none⟩ = some (.slice A n c)
set_option maxHeartbeats 16000000 in
set_option maxRecDepth 100000 in
theorem round_calls {r : Ro} {w : World} (hBr : r.Br = w.heap.size + 2) (hMb : r.Mb = w.heap.size + 1) (hf : Kd.C k44 w r.A1 r.fs.length r.fs) (hr : Kd.C k46 w r.A2 r.rs.length r.rs) (hl : Kd.C k41 w r.A3 r.l.length r.l)
  (hg : Good 0 (roundL r)) (hsort : r.l.Pairwise LF) (hlen : r.l.length ≤ 900000) (hfl : 1 ≤ r.fs.length ∧ r.fs.length ≤ 1000000) (hfc : r.fs.length ≤ r.c1) (hs0 : 0 ≤ r.s0 ∧ r.s0 ≤ 1000000000)
  (hN : ∀ x ∈ r.rs, x.f0 = 2 → 0 ≤ x.f5 ∧ x.f5 < r.fs.length ∧ 0 ≤ markOf r x ∧ markOf r x ≤ 1000000) :
  Calls Try.prog 21 #[.agg #[.int .i64 r.s0, .slice r.A1 r.fs.length r.c1, .slice r.A2 r.rs.length r.c2], .slice r.A3 r.l.length r.c3] w fun e w' => ∃ v, e = .returned v ∧ RowF w' w.heap.size v (factSet (roundL r)) ∧ Below w.heap.size w w' := by
 have hmk : ∀ W : World, (Instr.makeMap 61 none).run Try.prog W = .ok (.map (some W.heap.size)) (W.alloc (.map #[] 0)) := fun _ => rfl
 obtain ⟨Wb, hWb⟩ : ∃ Wb, Wb = ((w.alloc (.cells #[.int .i64 r.s0, .slice r.A1 r.fs.length r.c1, .slice r.A2 r.rs.length r.c2] 25)).alloc (.map #[] 0)).alloc (.cells r.cells 66) := ⟨_, rfl⟩
 have hbb : Below w.heap.size w Wb := by rw [hWb]; exact below_alloc (below_alloc (below_alloc (Below.refl _ w) _) _) _
 have hn2 : Wb.heap[w.heap.size + 2]? = some (.cells r.cells 66 (0, 0)) := by rw [hWb]; simp only [alloc_at, World.size_alloc]; simp (disch := omega) [if_pos, if_neg]
 have hn0 : Wb.heap[w.heap.size]? = some (.cells #[.int .i64 r.s0, .slice r.A1 r.fs.length r.c1, .slice r.A2 r.rs.length r.c2] 25 (0, 0)) := by rw [hWb]; simp only [alloc_at, World.size_alloc]; simp (disch := omega) [if_pos, if_neg]
 have hro : RoAt r w Wb := ⟨hbb, by rw [hBr]; exact hn2, by omega, by omega, by omega, hf, hr, hl⟩
 have hM0 : FSet Wb r.Mb 0 (fun _ => false) := by
  have h1 := FSet.made (w.alloc (.cells #[.int .i64 r.s0, .slice r.A1 r.fs.length r.c1, .slice r.A2 r.rs.length r.c2] 25))
  have h2 := h1.chg ((Chg.refl (fun _ => False) _).alloc (.cells r.cells 66)) (fun e => e)
  rw [hMb, hWb]
  simpa using h2
 have hst0 : StA r 0 (fun _ => false) [] Wb Wb := StA.start hM0
 obtain ⟨A2v, hA2v⟩ : ∃ A, r.A2 = A := ⟨_, rfl⟩
 obtain ⟨A3v, hA3v⟩ : ∃ A, r.A3 = A := ⟨_, rfl⟩
 have HA2V := zm hA2v
 have HA3V := zm hA3v
 have HSY := zm (show ∀ W', Chg (fun i => i = r.Mb) Wb W' → SyAt W' w.heap.size A2v r.rs.length r.c2 from fun W' hc => by rw [← hA2v]; exact cell_map hM0 hc (by simp [World.cell?, hn0]))
 have HRO := zm hro
 have HST0 := zm hst0
 have HM0 := zm hM0
 have HS := zm hsort
 have HG := zm (show Good 0 ([] ++ (rg r.l.length (oldL r) ++ (askL 6 0 noS [0] ++ (askL 3 1 callS [2] ++ (askL 3 1 applyS [3] ++ (askL 4 1 noS [0] ++ (askL 4 2 noS [1] ++ (askL 4 3 noS [1] ++ (rg r.rs.length (newL r) ++ []))))))))) by
  rw [List.nil_append, List.append_nil]; exact hg)
 have hwl : ∀ f ∈ r.l, wfI f.f3 := fun f hf => by
  obtain ⟨i, hi, rfl⟩ := List.getElem_of_mem hf
  have h1 := hg.1 r.l[i] (by
   unfold roundL
   refine List.mem_append_left _ (mem_rg.2 ⟨i, hi, ?_⟩)
   unfold oldL rd_T41
   rw [Int.toNat_natCast, List.getD_eq_getElem?_getD, List.getElem?_eq_getElem hi]
   exact List.mem_append_left _ (List.mem_singleton.2 rfl))
  exact h1.2.2.2
 have HWL := zm hwl
 have HN := zm hN
 have HBR := zm hBr
 have hlm : r.l.length ≤ 9223372036854775807 := hl.2.1
 have hrm : r.rs.length ≤ 9223372036854775807 := hr.2.1
 clear hf hr hl hg hsort hst0 hro hM0 hn0 hn2 hbb hwl hN
 rw [hA2v, hA3v]
 clear hA2v hA3v
 go_enter Try.func21, Try.ntmps21
 have HWB := zm hWb
 clear hWb
 go_wp2
 have hWr : ((w.alloc (.cells #[.int .i64 r.s0, .slice r.A1 r.fs.length r.c1, .slice A2v r.rs.length r.c2] 25)).alloc (.map #[] 0)).alloc (.cells #[.int .i64 r.s0, .slice r.A1 r.fs.length r.c1, .slice A2v r.rs.length r.c2, .slice A3v r.l.length r.c3, .map (some (w.heap.size + 1))] 66) = Wb := by
  rw [HWB.out, Ro.cells, hMb, HA2V.out, HA3V.out]
 rw [hWr]
 clear hWr HWB hmk
 rw [show w.heap.size + 1 + 1 = r.Br by omega]
 clear hBr hMb
 go_loopg [17] r.l.length (fun kq v17 W_ => ∃ k : Nat, v17 = .int .i64 k ∧ k + kq = r.l.length ∧ StA r 0 (fun _ => false) (rg k (oldL r)) Wb W_)
 case atStart => exact ⟨0, rfl, by omega, HST0.out⟩
 case round =>
  clear HST0
  obtain ⟨k, rfl, hk, hst⟩ := hrel
  have HST := zm hst
  by_cases hlt : k < r.l.length
  ·obtain ⟨ad, hA3, hd0, hd1, hd2, hd3⟩ := at_T41 (Kd.C_below HRO.out.hl (HRO.out.asked hst.ch).bel) (k : Int) (by omega) (by omega)
   rw [Int.toNat_natCast] at hd0 hd1 hd2 hd3
   have HGK := zm (HG.out.loop hlt)
   have HRG := zm (rg_succ k (oldL r))
   have HFK := zm (show oldL r k = [rd_T41 r.l (k : Int)] ++ builtL r (rd_T41 r.l (k : Int)) from rfl)
   generalize rd_T41 r.l (k : Int) = f at *
   rw [HFK.out, List.append_assoc, List.nil_append] at HGK
   obtain ⟨f0, f1, f2, f3⟩ := f
   dsimp only at hd0 hd1 hd2 hd3
   obtain ⟨Wf, hWf⟩ : ∃ Wf, Wf = wr.alloc (.cells #[.int .i64 f0, .int .i64 f1, .string f2, .int .i64 f3] 41) := ⟨_, rfl⟩
   have hbf : Below wr.heap.size wr Wf := by rw [hWf]; exact below_alloc (Below.refl _ wr) _
   have HCHF := zm (show Chg (fun i => i = r.Mb) Wb Wf from hst.ch.then_below hbf)
   have hstf := (hst.quiet hbf).here
   have hnf : Wf.heap[wr.heap.size]? = some (.cells #[.int .i64 f0, .int .i64 f1, .string f2, .int .i64 f3] 41 (0, 0)) := by rw [hWf]; exact heap_alloc_new _ _
   have HFC := zm (show ∀ W', Chg (fun i => i = r.Mb) Wf W' → FaAt W' wr.heap.size f0 f1 f2 f3 from fun W' hc => by
    have hc' : ∀ j v, (#[.int .i64 f0, .int .i64 f1, .string f2, .int .i64 f3] : Array Value)[j]? = some v → W'.cell? ⟨wr.heap.size, j, none⟩ = some v := fun j v hv => cell_map hstf.set hc (by simp [World.cell?, hnf, hv])
    exact ⟨hc' 0 _ rfl, hc' 1 _ rfl, hc' 2 _ rfl, hc' 3 _ rfl⟩)
   have HROF := zm (HRO.out.asked HCHF.out)
   have HD4 := zm (show ∀ W', Chg (fun i => i = r.Mb) Wf W' → W'.cell? ⟨r.Br, 4, none⟩ = some (.map (some r.Mb)) from fun W' hc => (HROF.out.asked hc).cell 4)
   have HST := zm hstf
   have HWF := zm hWf
   obtain rfl : A3v = some ad := HA3V.out.symm.trans hA3
   clear hWf hst hstf hnf hbf hA3
   go_wp2
   rw [← HWF.out]
   clear hd0 hd1 hd2 hd3
   obtain ⟨Wd, hWd⟩ : ∃ Wd, Wf.drew = Wd := ⟨_, rfl⟩
   have HST := zm (HST.out.quiet (W' := Wd) (by rw [← hWd]; exact below_drew (Below.refl _ _)))
   refine start_ (n := 6) (S := fun W' => Chg (fun i => i = r.Mb) Wf W') (ds := [5]) #[false, false, false, false, false, false] (by kernel_rfl) rfl rfl (by rw [hWd]; exact HST.out.ch) (fun hHeld => ?_)
   rw [hWd] at hHeld ⊢
   refine with_tabW rotab5 robits5 (fun HT_ HW_ => ?_)
   refine zp 0 21 (h := ?_)
   refine zp 1 22 (h := ?_)
   refine zp 2 23 (h := ?_)
   refine zt 3 24 (hy := by
     intro w' hw'
     have d4 := HD4.out w' hw'
     first | (go_simp; with_reducible rfl)) (h := ?_)
   refine zt 4 25 (hy := by
     intro w' hw'
     obtain ⟨y0, y1, y2, y3⟩ := HFC.out w' hw'
     first | (go_simp; with_reducible rfl)) (h := ?_)
   refine last_ (i := 5) (N := none) #[true, true, true, true, true, true] rfl rfl (one_of HT_.out (by kernel_rfl)) (by decide) (fun K hK => ?_)
   obtain ⟨W2, hput, hst2, hg2⟩ := st_put HST.out HGK.out
   dsimp only [aggF] at hput
   refine skip_step (w1 := W2) (by rfl) (by first | (go_simp; done) | (go_simp; rfl)) ?_
   have HST := zm hst2
   have HGK := zm hg2
   clear hst2 hg2 hput
   refine hK.out _ _ ?_
   clear hK K
   refine norm_ (a' := ?_) ?_ ?_
   rotate_left
   ·show Act.put _ (none) _ = _
    simp only [Act.put, List.setIfInBounds_toArray, List.set_cons_zero, List.set_cons_succ, i64_w, i32_w]
    rfl
   refine done_ (done_of HT_.out (by kernel_rfl)) ?_
   obtain ⟨y0, y1, y2, y3⟩ := HFC.out W2 HST.out.ch
   go_wp2_with fail
   clear y0 y1 y2 y3
   refine (builtins_calls HROF.out HST.out ⟨f0, f1, f2, f3⟩ HGK.out HS.out hlen hfl hs0 HWL.out).mono ?_
   rintro e W3 ⟨rfl, hst_, hg_⟩
   have HST := zm hst_
   clear hst_ hg_
   go_wp2
   go_roundg (gk - 1)
   case measure => omega
   case rel => exact ⟨k + 1, by go_num, by omega, by rw [HRG.out, HFK.out, ← List.append_assoc]; exact HST.out.rebase HCHF.out⟩
  ·obtain rfl : k = r.l.length := by omega
   have HGK := zm HG.out.next
   clear hst HG
   rw [List.nil_append] at HGK
   go_wp2_with fail
   refine (st_ask1 HRO.out HST.out HGK.out rfl).mono ?_
   rintro e W2 ⟨rfl, hst_, hg_⟩
   have HST := zm hst_
   have HGK := zm hg_
   clear hst_ hg_
   go_wp2_with fail
   refine (st_ask1 HRO.out HST.out HGK.out rfl).mono ?_
   rintro e W3 ⟨rfl, hst_, hg_⟩
   have HST := zm hst_
   have HGK := zm hg_
   clear hst_ hg_
   go_wp2_with fail
   refine (st_ask1 HRO.out HST.out HGK.out rfl).mono ?_
   rintro e W4 ⟨rfl, hst_, hg_⟩
   have HST := zm hst_
   have HGK := zm hg_
   clear hst_ hg_
   go_wp2_with fail
   refine (st_ask1 HRO.out HST.out HGK.out rfl).mono ?_
   rintro e W5 ⟨rfl, hst_, hg_⟩
   have HST := zm hst_
   have HGK := zm hg_
   clear hst_ hg_
   go_wp2_with fail
   refine (st_ask1 HRO.out HST.out HGK.out rfl).mono ?_
   rintro e W6 ⟨rfl, hst_, hg_⟩
   have HST := zm hst_
   have HGK := zm hg_
   clear hst_ hg_
   go_wp2_with fail
   refine (st_ask1 HRO.out HST.out HGK.out rfl).mono ?_
   rintro e W7 ⟨rfl, hst_, hg_⟩
   have HST := zm hst_
   have HGK := zm hg_
   clear hst_ hg_
   obtain ⟨Lc, hLc⟩ : ∃ Lc, Lc = rg r.l.length (oldL r) ++ askL 6 0 noS [0] ++ askL 3 1 callS [2] ++ askL 3 1 applyS [3] ++ askL 4 1 noS [0] ++ askL 4 2 noS [1] ++ askL 4 3 noS [1] := ⟨_, rfl⟩
   have HST4 := zm (show StA r 0 (fun _ => false) Lc Wb W7 by rw [hLc]; exact HST.out)
   have HG4 := zm (show Good 0 (Lc ++ (rg r.rs.length (newL r) ++ [])) by rw [hLc]; exact HGK.out)
   have HLC := zm hLc
   have s2 := HSY.out W7 HST.out.ch
   unfold SyAt at s2
   clear hLc HST HGK
   go_wp2
   clear s2
   go_loopg [51] r.rs.length (fun kq v51 W_ => ∃ k : Nat, v51 = .int .i64 k ∧ k + kq = r.rs.length ∧ StA r 0 (fun _ => false) (Lc ++ rg k (newL r)) Wb W_)
   case atStart => exact ⟨0, rfl, by omega, by rw [rg_zero, List.append_nil]; exact HST4.out⟩
   case round =>
    clear HST4
    obtain ⟨k, rfl, hk, hst⟩ := hrel
    have HST := zm hst
    by_cases hlt : k < r.rs.length
    ·obtain ⟨ad, A8, c8, hA2, hd0, hd1, hd2, hd3, hd4, hd5, hd6, hd7, hd8, hcl, hcr⟩ := at_T46 (Kd.C_below HRO.out.hr (HRO.out.asked hst.ch).bel) (k : Int) (by omega) (by omega)
     rw [Int.toNat_natCast] at hd0 hd1 hd2 hd3 hd4 hd5 hd6 hd7 hd8
     have HGK := zm (HG4.out.loop hlt)
     have HRG := zm (rg_succ k (newL r))
     have HFK := zm (show newL r k = if 0 < (bsL r.l 6 (rd_T46 r.rs (k : Int)).f1).length then ruleL r (rd_T46 r.rs (k : Int)) else [] from rfl)
     have HNK := zm (HN.out (rd_T46 r.rs (k : Int)) (by
      unfold rd_T46
      rw [Int.toNat_natCast, List.getD_eq_getElem?_getD, List.getElem?_eq_getElem hlt]
      exact List.getElem_mem hlt))
     generalize rd_T46 r.rs (k : Int) = x at *
     obtain ⟨x0, x1, x2, x3, x4, x5, x6, x7, x8⟩ := x
     dsimp only at hd0 hd1 hd2 hd3 hd4 hd5 hd6 hd7 hd8 hcl hcr
     obtain ⟨Wf, hWf⟩ : ∃ Wf, Wf = wr.alloc (.cells (ruCells ⟨x0, x1, x2, x3, x4, x5, x6, x7, x8⟩ A8 c8) 46) := ⟨_, rfl⟩
     have hbf : Below wr.heap.size wr Wf := by rw [hWf]; exact below_alloc (Below.refl _ wr) _
     have HCHF := zm (show Chg (fun i => i = r.Mb) Wb Wf from hst.ch.then_below hbf)
     have hstf := (hst.quiet hbf).here
     have hnf : Wf.heap[wr.heap.size]? = some (.cells (ruCells ⟨x0, x1, x2, x3, x4, x5, x6, x7, x8⟩ A8 c8) 46 (0, 0)) := by rw [hWf]; exact heap_alloc_new _ _
     have HXC := zm (show ∀ W', Chg (fun i => i = r.Mb) Wf W' → RuAt W' wr.heap.size x0 x1 x2 x3 x4 x5 x6 x7 x8.length A8 c8 from fun W' hc => by
      have hc' : ∀ j v, (ruCells ⟨x0, x1, x2, x3, x4, x5, x6, x7, x8⟩ A8 c8)[j]? = some v → W'.cell? ⟨wr.heap.size, j, none⟩ = some v := fun j v hv => cell_map hstf.set hc (by simp [World.cell?, hnf, hv])
      exact ⟨hc' 0 _ rfl, hc' 1 _ rfl, hc' 2 _ rfl, hc' 3 _ rfl, hc' 4 _ rfl, hc' 5 _ rfl, hc' 6 _ rfl, hc' 7 _ rfl, hc' 8 _ rfl⟩)
     have HROF := zm (HRO.out.asked HCHF.out)
     have HAR := zm (show ∀ W', Chg (fun i => i = r.Mb) Wf W' → Kd.C (Kd.int .i64) W' A8 x8.length x8 from fun W' hc => intC_map hstf.set hc (Kd.C_below hcr hbf))
     have HST := zm hstf
     have HWF := zm hWf
     obtain rfl : A2v = some ad := HA2V.out.symm.trans hA2
     obtain ⟨y0, y1, y2, y3, y4, y5, y6, y7, y8⟩ := HXC.out Wf HST.out.ch
     unfold ruCells at hWf
     rw [hWf] at y0 y1 y2 y3 y4 y5 y6 y7 y8
     clear hWf hst hstf hnf hbf hA2 hcr hcl
     go_wp2_with fail
     have hWr : wr.alloc (.cells #[.int .i64 x0, .int .i64 x1, .int .i64 x2, .int .i64 x3, .int .i64 x4, .int .i64 x5, .int .i64 x6, .string x7, .slice A8 x8.length c8] 46) = Wf := HWF.out.symm
     rw [hWr]
     clear y0 y1 y2 y3 y4 y5 y6 y7 y8 hWr hd0 hd1 hd2 hd3 hd4 hd5 hd6 hd7 hd8
     refine (st_bs HROF.out HST.out 6 x1 HS.out hlen).mono ?_
     rintro e W5 ⟨A5, c5, rfl, hC_, hst_⟩
     have HST := zm hst_
     clear hst_ hC_
     by_cases hin : 0 < (bsL r.l 6 x1).length
     ·have HF1 := zm (HFK.out.trans (if_pos hin))
      rw [HF1.out] at HGK
      obtain ⟨y0, y1, y2, y3, y4, y5, y6, y7, y8⟩ := HXC.out W5 HST.out.ch
      have hin' : decide (((bsL r.l 6 x1).length : Int) > 0) = true := decide_eq_true (by omega)
      go_wp2_with fail
      clear y0 y1 y2 y3 y4 y5 y6 y7 y8
      refine (rule_calls HROF.out HST.out ⟨x0, x1, x2, x3, x4, x5, x6, x7, x8⟩ HGK.out (HAR.out _ HST.out.ch) HS.out hlen hfl hfc hs0 HWL.out HNK.out).mono ?_
      rintro e W6 ⟨rfl, hst_, hg_⟩
      have HST := zm hst_
      clear hst_ hg_
      go_wp2
      go_roundg (gk - 1)
      case measure => omega
      case rel => exact ⟨k + 1, by go_num, by omega, by rw [HRG.out, HF1.out, ← List.append_assoc]; exact HST.out.rebase HCHF.out⟩
     ·have HF1 := zm (HFK.out.trans (if_neg hin))
      have hin' : decide (((bsL r.l 6 x1).length : Int) > 0) = false := decide_eq_false (by omega)
      go_wp2
      go_roundg (gk - 1)
      case measure => omega
      case rel => exact ⟨k + 1, by go_num, by omega, by rw [HRG.out, HF1.out, List.append_nil]; exact HST.out.rebase HCHF.out⟩
    ·obtain rfl : k = r.rs.length := by omega
     have HGK := zm (show Good 0 (Lc ++ rg r.rs.length (newL r)) by have h9 := HG4.out.next; rwa [List.append_nil] at h9)
     clear hst HG4
     have d4 : wr.cell? ⟨r.Br, 4, none⟩ = some (.map (some r.Mb)) := (HRO.out.asked HST.out.ch).cell 4
     have HRE := zm (show Lc ++ rg r.rs.length (newL r) = roundL r by rw [HLC.out, roundL]; simp only [List.append_assoc])
     rw [HRE.out] at HST HGK
     clear HLC
     go_wp2_with fail
     refine (keys_calls _ _).mono ?_
     rintro e W8 ⟨rfl, hw8⟩
     have hb8 : Below wr.heap.size wr W8 := by rw [hw8]; exact below_alloc (Below.refl _ _) _
     have hk8 : W8.cell? ⟨wr.heap.size, 0, none⟩ = some (.map (some r.Mb)) := by rw [hw8]; exact (cell_of_blk (heap_alloc_new _ _)).1
     have hst8 := HST.out.quiet hb8
     have hbw : Below w.heap.size w W8 := (HRO.out.asked hst8.ch).bel
     have hit := keys1_iter W8 w.heap.size wr.heap.size r.Mb _ _ hbw.size hk8 hst8.set
     have HBW := zm hbw
     have hlt8 : wr.heap.size < W8.heap.size := by rw [hw8]; simp
     have hltm := hst8.set.lt
     have HSO := zm (sortedF_calls (enters_of Try.func60 (by kernel_rfl) rfl) hit (Below.refl _ W8) hbw.size (fun i hi => by rcases hi with rfl | rfl <;> omega)
      (fun p x hx => Nat.lt_of_lt_of_le hx.2.2.2 (by have := HGK.out.2; simpa using this))
      (fun xs hx => Nat.le_trans (hx.1.length_le_of_subset (l₂ := roundL r) (fun f hf => by
       have h1 := (hx.2.2 f (hx.2.1 f hf)).1 hf
       simpa [addS] using h1)) (by have := HGK.out.2; simpa using this)))
     have HGK := zm HGK.out.1
     clear hit hk8 hst8 hbw hltm hb8 hw8 d4
     go_wp2_with fail
     refine HSO.out.mono ?_
     rintro e W9 ⟨v, xs, ys, rfl, hS, hp, hso, hrow, hb⟩
     have HE := zm (factSet_of_nodup (zs := roundL r) hS.1 hp hso (fun f => ⟨fun hf => by
      have h1 := (hS.2.2 f (hS.2.1 f hf)).1 hf
      simpa [addS] using h1, fun hf => (hS.2.2 f (HGK.out f hf)).2 (by simp [addS, hf])⟩))
     have HROW := zm hrow
     have HB := zm hb
     clear hS hp hso hrow hb HSO
     go_wp2
     go_ret
     rw [← HE.out]
     exact ⟨v, rfl, HROW.out.lower HBW.out.size, HBW.out.trans HB.out⟩
end Go.Proofs.Ytngppcmdaanheaa.Ls
namespace Go.Proofs.Ytngppcmdaanheaa.Pr
open Go.RowKit Go.Proofs.YtngppcmdaanheaaW.PrintWords Go.Proofs.YtngppcmdaanheaaW.PrintLast Go.Proofs.YtngppcmdaanheaaW.PrintMore
attribute [local go_sem] max2_int min2_int max_two min_two
set_option linter.unusedVariables false
set_option linter.unusedSimpArgs false
theorem eqA41 (d : Nat) (w : World) (x0 y0 : Int) (x1 y1 : Int) (x2 y2 : ByteArray) (x3 y3 : Int) :
  (Op.equalIn (d + 2) 41 (.agg #[.int .i64 x0, .int .i64 x1, .string x2, .int .i64 x3]) (.agg #[.int .i64 y0, .int .i64 y1, .string y2, .int .i64 y3])).run Try.prog w = .ok (x0 == y0 && (x1 == y1 && (x2.toList == y2.toList && (x3 == y3)))) w := by
 refine eqA_of Try.underlying41 (by kernel_rfl) ?_
 refine eqf_cons (by rfl) (by go_simp; rfl) (by go_simp; rfl) (by go_simp) ?_
 refine eqf_cons (by rfl) (by go_simp; rfl) (by go_simp; rfl) (by go_simp) ?_
 refine eqf_cons (by rfl) (by go_simp; rfl) (by go_simp; rfl) (by go_simp) ?_
 exact eqf_last (by rfl) (by go_simp; rfl) (by go_simp; rfl) (by go_simp)
end Go.Proofs.Ytngppcmdaanheaa.Pr
namespace Go.Proofs.Ytngppcmdaanheaa.Ls
open Go.RowKit Go.Maps Go.Proofs.Ytngppcmdaanheaa.Iter Go.Proofs.Ytngppcmdaanheaa.ISet Go.Proofs.Ytngppcmdaanheaa.Pr Go.Proofs.Ytngppcmdaanheaa.Ext Go.Proofs.YtngppcmdaanheaaW.PrintWords Go.Proofs.YtngppcmdaanheaaW.PrintLast Go.Proofs.YtngppcmdaanheaaW.PrintMore
set_option linter.unusedVariables false
set_option linter.unusedSimpArgs false
theorem cell_of_blk4 {W : World} {g : Nat} {t : TypeId} {a b c : Value} (h : W.heap[g]? = some (.cells #[a, b, c] t (0, 0))) : W.cell? ⟨g, 0, none⟩ = some a := by
 simp [World.cell?, h]
def isNo (s0 : Int) (n : Int) : Bool := decide (n < 0) || decide (n ≥ s0)
def setsB (s0 : Int) (l : List Int) : Bool := !(l.any (isNo s0))
theorem areSets1_calls (s0 n : Int) (b : Nat) (w : World) (h : w.cell? ⟨b, 0, none⟩ = some (.int .i64 s0)) :
  Calls Try.prog 65 #[.int .i64 n, .pointer (some ⟨b, 0, none⟩)] w fun e w' => e = .returned (.bool (isNo s0 n)) ∧ Below w.heap.size w w' := by
 by_cases hn : n < 0
 ·have hd : decide (n < 0) = true := decide_eq_true hn
  have he : isNo s0 n = true := by unfold isNo; rw [hd]; rfl
  rw [he]
  go_enter Try.func65, Try.ntmps65
  go_wp2
  go_ret
  exact ⟨rfl, Below.refl _ _⟩
 ·have hd : decide (n < 0) = false := decide_eq_false hn
  have he : isNo s0 n = decide (n ≥ s0) := by unfold isNo; rw [hd]; rfl
  rw [he]
  go_enter Try.func65, Try.ntmps65
  go_wp2
  go_ret
  exact ⟨rfl, Below.refl _ _⟩
def v_areSets.f (a0_0 : Int) (l0_1 : List S44) (l0_2 : List S46) (l1 : List Int) : Option Bool := if l1.length ≤ 140737488355328 then some (setsB a0_0 l1) else none
theorem v_areSets.calls (a0_0 : Int) (A0_1 : Option Addr) (c0_1 : Nat) (l0_1 : List S44) (A0_2 : Option Addr) (c0_2 : Nat) (l0_2 : List S46) (A1 : Option Addr) (c1 : Nat) (l1 : List Int) (r : Bool) (w : World)
  (hr0_1 : Kd.C k44 w A0_1 l0_1.length l0_1) (hc0_1 : l0_1.length ≤ c0_1) (hr0_2 : Kd.C k46 w A0_2 l0_2.length l0_2) (hc0_2 : l0_2.length ≤ c0_2) (hr1 : Kd.C (Kd.int .i64) w A1 l1.length l1) (hc1 : l1.length ≤ c1) (h : v_areSets.f a0_0 l0_1 l0_2 l1 = some r) :
  Calls Try.prog 46 #[.agg #[.int .i64 a0_0, .slice A0_1 l0_1.length c0_1, .slice A0_2 l0_2.length c0_2], .slice A1 l1.length c1] w fun e w' => e = .returned (.bool r) ∧ Below w.heap.size w w' := by
 unfold v_areSets.f at h
 by_cases hl : l1.length ≤ 140737488355328
 ·rw [if_pos hl] at h
  obtain rfl : setsB a0_0 l1 = r := by injection h
  have hb : Below w.heap.size w (w.alloc (.cells #[.int .i64 a0_0, .slice A0_1 l0_1.length c0_1, .slice A0_2 l0_2.length c0_2] 25)) := below_alloc (Below.refl _ w) _
  have hc : (w.alloc (.cells #[.int .i64 a0_0, .slice A0_1 l0_1.length c0_1, .slice A0_2 l0_2.length c0_2] 25)).cell? ⟨w.heap.size, 0, none⟩ = some (.int .i64 a0_0) := cell_of_blk4 (heap_alloc_new _ _)
  have HI := zm (containsI (.func (.func 65) #[] #[.pointer (some ⟨w.heap.size, 0, none⟩)]) (isNo a0_0) A1 c1 l1 _
   ⟨_, _, rfl, (enters_of Try.func65 (by kernel_rfl) rfl), fun W' hb' n => areSets1_calls a0_0 n _ W' ((hb'.cell (by simp)).trans hc)⟩ (Kd.C_below hr1 hb) hc1 hl)
  have HB := zm hb
  clear hb hc hr0_1 hr0_2 hr1
  go_enter Try.func46, Try.ntmps46
  go_wp2_with (go_at_call 64; refine HI.out.mono ?_; rintro e w1 ⟨rfl, hb1⟩; have HB1 := zm (below_step HB.out hb1); clear hb1)
  go_ret
  exact ⟨rfl, HB1.out⟩
 ·rw [if_neg hl] at h
  cases h
end Go.Proofs.Ytngppcmdaanheaa.Ls
namespace Go.Proofs.Ytngppcmdaanheaa.Pr
open Go.RowKit Go.Proofs.Ytngppcmdaanheaa.Ls Go.Proofs.Ytngppcmdaanheaa.Va Go.Proofs.YtngppcmdaanheaaW.PrintWords Go.Proofs.YtngppcmdaanheaaW.PrintLast Go.Proofs.YtngppcmdaanheaaW.PrintMore
attribute [local go_sem] max2_int min2_int max_two min_two
set_option linter.unusedVariables false
set_option linter.unusedSimpArgs false
/-! ### v_fits: function 49 -/
mutual
def v_fits.j0 : Nat → Bool → Int → Int → Int → Int → Int → Int → Int → ByteArray → List Int → Int → List (S44) → List (S46) → Option (Bool)
 | 0, _, _, _, _, _, _, _, _, _, _, _, _, _ => none
 | k + 1, x24, x380000, x380001, x380002, x380003, x380004, x380005, x380006, x380007, x380008, x381000, x381001, x381002 => if x24 = true then (some false) else (if x380006 ≥ 4 then (v_fits.j1 k (decide (x380006 ≤ 1000000)) x380000 x380001 x380002 x380003 x380004 x380005 x380006 x380007 x380008 x381000 x381001 x381002) else (v_fits.j1 k false x380000 x380001 x380002 x380003 x380004 x380005 x380006 x380007 x380008 x381000 x381001 x381002))
def v_fits.j1 : Nat → Bool → Int → Int → Int → Int → Int → Int → Int → ByteArray → List Int → Int → List (S44) → List (S46) → Option (Bool)
 | 0, _, _, _, _, _, _, _, _, _, _, _, _, _ => none
 | k + 1, x5, x380000, x380001, x380002, x380003, x380004, x380005, x380006, x380007, x380008, x381000, x381001, x381002 => if x380000 = 1 then (some x5) else (if x380000 = 2 then (if x380005 > 0 then (some (decide (x380005 < (x381001.length : Int)))) else (some false)) else (if x380000 = 8 then (if x380004 = (-1) then (v_fits.j3 k x5 false x380000 x380001 x380002 x380003 x380004 x380005 x380006 x380007 x380008 x381000 x381001 x381002) else ((v_areSets.f x381000 x381001 x381002 (([x380004] : List Int))).bind fun t392 => (v_fits.j3 k x5 (!t392) x380000 x380001 x380002 x380003 x380004 x380005 x380006 x380007 x380008 x381000 x381001 x381002))) else (if x380000 = 9 then (v_fits.j4 k x5 x380000 x380001 x380002 x380003 x380004 x380005 x380006 x380007 x380008 x381000 x381001 x381002) else (if x380000 = 3 then (v_fits.j2 k (x380000 == 3) x380000 x380001 x380002 x380003 x380004 x380005 x380006 x380007 x380008 x381000 x381001 x381002) else (if x380000 = 4 then (v_fits.j2 k (x380000 == 4) x380000 x380001 x380002 x380003 x380004 x380005 x380006 x380007 x380008 x381000 x381001 x381002) else (if x380000 = 5 then (v_fits.j2 k (x380000 == 5) x380000 x380001 x380002 x380003 x380004 x380005 x380006 x380007 x380008 x381000 x381001 x381002) else (if x380000 = 6 then (v_fits.j2 k (x380000 == 6) x380000 x380001 x380002 x380003 x380004 x380005 x380006 x380007 x380008 x381000 x381001 x381002) else (v_fits.j2 k (x380000 == 7) x380000 x380001 x380002 x380003 x380004 x380005 x380006 x380007 x380008 x381000 x381001 x381002))))))))
def v_fits.j4 : Nat → Bool → Int → Int → Int → Int → Int → Int → Int → ByteArray → List Int → Int → List (S44) → List (S46) → Option (Bool)
 | 0, _, _, _, _, _, _, _, _, _, _, _, _, _ => none
 | k + 1, x5, x380000, x380001, x380002, x380003, x380004, x380005, x380006, x380007, x380008, x381000, x381001, x381002 => if x5 = true then ((v_areSets.f x381000 x381001 x381002 (([x380003, x380005] : List Int))).bind fun t396 => (if t396 = true then ((v_areSets.f x381000 x381001 x381002 x380008).bind fun t397 => (if t397 = true then (some (decide ((x380008.length : Int) ≤ 200))) else (some false))) else (some false))) else (some false)
def v_fits.j3 : Nat → Bool → Bool → Int → Int → Int → Int → Int → Int → Int → ByteArray → List Int → Int → List (S44) → List (S46) → Option (Bool)
 | 0, _, _, _, _, _, _, _, _, _, _, _, _, _, _ => none
 | k + 1, x5, x71, x380000, x380001, x380002, x380003, x380004, x380005, x380006, x380007, x380008, x381000, x381001, x381002 => if x71 = true then (some false) else (v_fits.j4 k x5 x380000 x380001 x380002 x380003 x380004 x380005 x380006 x380007 x380008 x381000 x381001 x381002)
def v_fits.j2 : Nat → Bool → Int → Int → Int → Int → Int → Int → Int → ByteArray → List Int → Int → List (S44) → List (S46) → Option (Bool)
 | 0, _, _, _, _, _, _, _, _, _, _, _, _, _ => none
 | k + 1, x43, x380000, x380001, x380002, x380003, x380004, x380005, x380006, x380007, x380008, x381000, x381001, x381002 => if x43 = true then ((v_areSets.f x381000 x381001 x381002 (([x380003] : List Int))).bind fun t388 => (some t388)) else (some false)
end
def v_fits.f (k : Nat) (a0_0 : Int) (a0_1 : Int) (a0_2 : Int) (a0_3 : Int) (a0_4 : Int) (a0_5 : Int) (a0_6 : Int) (a0_7 : ByteArray) (l0_8 : List Int) (a1_0 : Int) (l1_1 : List (S44)) (l1_2 : List (S46)) : Option (Bool) := if a0_1 < 0 then (v_fits.j0 k true a0_0 a0_1 a0_2 a0_3 a0_4 a0_5 a0_6 a0_7 l0_8 a1_0 l1_1 l1_2) else (if a0_1 ≥ (l1_1.length : Int) then (v_fits.j0 k true a0_0 a0_1 a0_2 a0_3 a0_4 a0_5 a0_6 a0_7 l0_8 a1_0 l1_1 l1_2) else ((v_areSets.f a1_0 l1_1 l1_2 (([a0_2] : List Int))).bind fun t384 => (v_fits.j0 k (!t384) a0_0 a0_1 a0_2 a0_3 a0_4 a0_5 a0_6 a0_7 l0_8 a1_0 l1_1 l1_2)))
set_option maxHeartbeats 8000000 in
set_option maxRecDepth 100000 in
theorem v_fits.calls (k : Nat) (a0_0 : Int) (a0_1 : Int) (a0_2 : Int) (a0_3 : Int) (a0_4 : Int) (a0_5 : Int) (a0_6 : Int) (a0_7 : ByteArray) (A0_8 : Option Addr) (c0_8 : Nat) (l0_8 : List Int) (a1_0 : Int) (A1_1 : Option Addr) (c1_1 : Nat) (l1_1 : List (S44)) (A1_2 : Option Addr) (c1_2 : Nat) (l1_2 : List (S46)) (r : Bool) (w : World) (hr0_8 : Kd.C (Kd.int .i64) w A0_8 l0_8.length l0_8) (hc0_8 : l0_8.length ≤ c0_8) (hr1_1 : Kd.C k44 w A1_1 l1_1.length l1_1) (hc1_1 : l1_1.length ≤ c1_1) (hr1_2 : Kd.C k46 w A1_2 l1_2.length l1_2) (hc1_2 : l1_2.length ≤ c1_2) (h : v_fits.f k a0_0 a0_1 a0_2 a0_3 a0_4 a0_5 a0_6 a0_7 l0_8 a1_0 l1_1 l1_2 = some r) :
  Calls Try.prog 49 #[.agg #[.int .i64 a0_0, .int .i64 a0_1, .int .i64 a0_2, .int .i64 a0_3, .int .i64 a0_4, .int .i64 a0_5, .int .i64 a0_6, .string a0_7, .slice A0_8 l0_8.length c0_8], .agg #[.int .i64 a1_0, .slice A1_1 l1_1.length c1_1, .slice A1_2 l1_2.length c1_2]] w fun e w' => e = .returned (.bool r) ∧ Below w.heap.size w w' := by
 have hu46 := Try.underlying46
 have hu25 := Try.underlying25
 have HR0_8 := zm hr0_8
 have HC0_8 := zm hc0_8
 clear hr0_8 hc0_8
 have HR1_1 := zm hr1_1
 have HC1_1 := zm hc1_1
 clear hr1_1 hc1_1
 have HR1_2 := zm hr1_2
 have HC1_2 := zm hc1_2
 clear hr1_2 hc1_2
 have HB := zm (Below.refl w.heap.size w)
 have H : (if a0_1 < 0 then (v_fits.j0 k true a0_0 a0_1 a0_2 a0_3 a0_4 a0_5 a0_6 a0_7 l0_8 a1_0 l1_1 l1_2) else (if a0_1 ≥ (l1_1.length : Int) then (v_fits.j0 k true a0_0 a0_1 a0_2 a0_3 a0_4 a0_5 a0_6 a0_7 l0_8 a1_0 l1_1 l1_2) else ((v_areSets.f a1_0 l1_1 l1_2 (([a0_2] : List Int))).bind fun t384 => (v_fits.j0 k (!t384) a0_0 a0_1 a0_2 a0_3 a0_4 a0_5 a0_6 a0_7 l0_8 a1_0 l1_1 l1_2)))) = some r := h
 clear h
 have HC3 := zm H
 clear H
 go_enter Try.func49, Try.ntmps49
 go_upto_region 1 with (first | ((with_reducible refine gate_dst (N := 2) rfl ?_); (try (refine gate_guard (by rfl) ?_; dsimp only)); refine zX (N := 2) (cs := #[.int .i64 a0_0, .int .i64 a0_1, .int .i64 a0_2, .int .i64 a0_3, .int .i64 a0_4, .int .i64 a0_5, .int .i64 a0_6, .string a0_7, .slice A0_8 l0_8.length c0_8]) (t := 46) (h := ?_); intro gb379 hg w4 hbox hb; have BK379 := zm hbox; have GW379 := zm ((zS : w.heap.size ≤ gb379)); have GE379 := zm ((zS : w.heap.size ≤ gb379)); replace HB := zm (below_step zB hb); clear hb hbox hg) | ((with_reducible refine gate_dst (N := 3) rfl ?_); (try (refine gate_guard (by rfl) ?_; dsimp only)); refine zX (N := 3) (cs := #[.int .i64 a1_0, .slice A1_1 l1_1.length c1_1, .slice A1_2 l1_2.length c1_2]) (t := 25) (h := ?_); intro gb380 hg w5 hbox hb; have BK380 := zm hbox; have GW380 := zm ((zT : w.heap.size ≤ gb380)); have GE380 := zm ((zT : w.heap.size ≤ gb380)); have NB379_380 := zm ((zL : gb379 ≠ gb380)); have NB380_379 := zm ((zM : gb380 ≠ gb379)); replace BK379 := zm (blk_below (g := gb379) zK hb); replace HB := zm (below_step zG hb); clear hb hbox hg))
 (try simp only [Act.put, List.setIfInBounds_toArray, List.set_cons_zero, List.set_cons_succ])
 go_cut [24] (fun v24 wc => ∃ (kq : Nat) (x24_2 : Bool), v24 = .bool x24_2 ∧ Aside0 (v_fits.j0 kq x24_2 a0_0 a0_1 a0_2 a0_3 a0_4 a0_5 a0_6 a0_7 l0_8 a1_0 l1_1 l1_2 = some r) ∧ Aside0 (kq ≤ k) ∧ Aside0 (wc.heap[gb379]? = some (.cells #[.int .i64 a0_0, .int .i64 a0_1, .int .i64 a0_2, .int .i64 a0_3, .int .i64 a0_4, .int .i64 a0_5, .int .i64 a0_6, .string a0_7, (.slice A0_8 l0_8.length c0_8)] 46 (0, 0))) ∧ Aside0 (wc.heap[gb380]? = some (.cells #[.int .i64 a1_0, (.slice A1_1 l1_1.length c1_1), (.slice A1_2 l1_2.length c1_2)] 25 (0, 0))) ∧ Aside0 (Below w.heap.size w wc))
 case first =>
  have H := HC3.out
  clear HC3
  by_cases c6 : a0_1 < 0
  ·rw [if_pos c6] at H
   have c6b0 : decide (a0_1 < 0) = true := decide_eq_true c6
   clear c6
   (first | rw [c6b0] | (simp only [i64_w, i32_w]; rw [c6b0]) | skip)
   have H' := zm H
   clear H
   have hnb7 := NB379_380.out
   have hnc7 := NB380_379.out
   obtain ⟨hcz8_0, hcz8_1, hcz8_2, hcz8_3, hcz8_4, hcz8_5, hcz8_6, hcz8_7, hcz8_8, hfz8_0, hfz8_1, hfz8_2, hfz8_3, hfz8_4, hfz8_5, hfz8_6, hfz8_7, hfz8_8⟩ := zd9 BK379.out (.int .i64 a0_0) (.int .i64 a0_1) (.int .i64 a0_2) (.int .i64 a0_3) (.int .i64 a0_4) (.int .i64 a0_5) (.int .i64 a0_6) (.string a0_7) (.slice A0_8 l0_8.length c0_8)
   go_wp2
   go_meet
   case rel => exact ⟨_, (true), zR, H', ⟨by first | omega | exact Nat.le_refl _⟩, ⟨zK⟩, ⟨zK⟩, ⟨zG⟩⟩
  ·rw [if_neg c6] at H
   have c6b0 : decide (a0_1 < 0) = false := decide_eq_false c6
   clear c6
   (first | rw [c6b0] | (simp only [i64_w, i32_w]; rw [c6b0]) | skip)
   by_cases c9 : a0_1 ≥ (l1_1.length : Int)
   ·rw [if_pos c9] at H
    have c9b0 : decide ((l1_1.length : Int) ≤ a0_1) = true := decide_eq_true c9
    clear c9
    have H' := zm H
    clear H
    have hnb10 := NB379_380.out
    have hnc10 := NB380_379.out
    obtain ⟨hcz11_0, hcz11_1, hcz11_2, hcz11_3, hcz11_4, hcz11_5, hcz11_6, hcz11_7, hcz11_8, hfz11_0, hfz11_1, hfz11_2, hfz11_3, hfz11_4, hfz11_5, hfz11_6, hfz11_7, hfz11_8⟩ := zd9 BK379.out (.int .i64 a0_0) (.int .i64 a0_1) (.int .i64 a0_2) (.int .i64 a0_3) (.int .i64 a0_4) (.int .i64 a0_5) (.int .i64 a0_6) (.string a0_7) (.slice A0_8 l0_8.length c0_8)
    obtain ⟨hcz12_0, hcz12_1, hcz12_2, hfz12_0, hfz12_1, hfz12_2⟩ := zd3 BK380.out (.int .i64 a1_0) (.slice A1_1 l1_1.length c1_1) (.slice A1_2 l1_2.length c1_2)
    go_wp2
    go_meet
    case rel => exact ⟨_, (true), zR, H', ⟨by first | omega | exact Nat.le_refl _⟩, ⟨zK⟩, ⟨zK⟩, ⟨zG⟩⟩
   ·rw [if_neg c9] at H
    have c9b0 : decide ((l1_1.length : Int) ≤ a0_1) = false := decide_eq_false c9
    clear c9
    obtain ⟨y381, hy381⟩ : ∃ y_ : List Int, y_ = (([a0_2] : List Int)) := ⟨_, rfl⟩
    replace H : ((v_areSets.f a1_0 l1_1 l1_2 y381).bind fun t384 => (v_fits.j0 k (!t384) a0_0 a0_1 a0_2 a0_3 a0_4 a0_5 a0_6 a0_7 l0_8 a1_0 l1_1 l1_2)) = some r := by first | (rw [hy381]; with_reducible exact H) | (have H2_ := (Option.bind_some _ _).symm.trans H; rw [hy381]; with_reducible exact H2_) | (have H2_ := (Option.bind_some _ _).symm.trans H; with_reducible exact H2_) | with_reducible exact H | (rw [hy381]; exact H) | exact H
    have Ny381 := zm hy381
    clear hy381
    obtain ⟨t384, A13, H⟩ := zO H
    have H' := zm H
    clear H
    have hnb14 := NB379_380.out
    have hnc14 := NB380_379.out
    obtain ⟨hcz15_0, hcz15_1, hcz15_2, hcz15_3, hcz15_4, hcz15_5, hcz15_6, hcz15_7, hcz15_8, hfz15_0, hfz15_1, hfz15_2, hfz15_3, hfz15_4, hfz15_5, hfz15_6, hfz15_7, hfz15_8⟩ := zd9 BK379.out (.int .i64 a0_0) (.int .i64 a0_1) (.int .i64 a0_2) (.int .i64 a0_3) (.int .i64 a0_4) (.int .i64 a0_5) (.int .i64 a0_6) (.string a0_7) (.slice A0_8 l0_8.length c0_8)
    obtain ⟨hcz16_0, hcz16_1, hcz16_2, hfz16_0, hfz16_1, hfz16_2⟩ := zd3 BK380.out (.int .i64 a1_0) (.slice A1_1 l1_1.length c1_1) (.slice A1_2 l1_2.length c1_2)
    go_wp2_with (first | ((with_reducible refine gate_dst (N := 21) rfl ?_); (try (refine gate_guard (by rfl) ?_; dsimp only)); refine Kd.R_lit (Kd.int .i64) _ 3 ?hg (N := 21) ?hd (xs := ([a0_2] : List Int)) (inner := [.int .i64 a0_2]) (ok := fun _ => True) (okp := fun _ => True) ?hr ?hp (fun _ hk => hk) trivial (Below.refl _ _) (Nat.le_refl _) (by simp) ?_; (case hd => rfl); (case hg => rfl); (case hr => first | (go_simp; done) | (go_simp; rfl)); (case hp => exact (Reps.one (show Kd.M (Kd.int .i64) _ _ _ a0_2 [.int .i64 a0_2] from rfl) (Reps.none _ _))); intro v382 w17 ho18 hb hg_ hnew_; clear hg_ hnew_; (first | rw [← Ny381.out] at ho18 | (simp only [Int.reduceToNat] at ho18; rw [← Ny381.out] at ho18)); have HO383 := zm (Kd.R_lower ho18 (below_size zG)); replace BK379 := zm (blk_below (g := gb379) zK hb); replace BK380 := zm (blk_below (g := gb380) zK hb); replace HB := zm (below_step zG hb); clear hb ho18; obtain ⟨Ao19, co19, eo19⟩ := Kd.R_slice HO383.out; subst eo19) | (go_at_call 46; (with_reducible refine (v_areSets.calls a1_0 _ _ l1_1 _ _ l1_2 _ _ y381 t384 _ ?side1 ?side2 ?side3 ?side4 ?side5 ?side6 A13.out).mono ?_); (case side1 => exact zC (Kd.C_below HR1_1.out HB.out)); (case side2 => exact HC1_1.out); (case side3 => exact zC (Kd.C_below HR1_2.out HB.out)); (case side4 => exact HC1_2.out); (case side5 => exact zC ((Kd.R_reads' HO383.out).2.2)); (case side6 => exact (Kd.R_reads' HO383.out).2.1); rintro e w20 ⟨rfl, hb⟩; replace HO383 := zm (Kd.R_below (by (with_reducible repeat (first | apply Kd.R_alloc | apply Kd.R_drewN | apply Kd.R_drew)); exact HO383.out) hb); replace BK379 := zm (blk_below (g := gb379) zK hb); replace BK380 := zm (blk_below (g := gb380) zK hb); replace HB := zm (below_step zG hb); (try clear hb)))
    go_meet
    case rel => exact ⟨_, (!t384), zR, H', ⟨by first | omega | exact Nat.le_refl _⟩, ⟨zK⟩, ⟨zK⟩, ⟨zG⟩⟩
 case rest =>
  clear HC3
  obtain ⟨kq, x24_2, rfl, HA, HJ2, BK379, BK380, HB⟩ := hcut
  cases kq with
  | zero => exact absurd HA.out (by simp [v_fits.j0])
  | succ kj2 =>
   have H := HA.out
   clear HA
   simp only [v_fits.j0] at H
   by_cases c21 : x24_2 = true
   ·subst c21
    rw [if_pos rfl] at H
    obtain rfl := Option.some.inj H
    go_wp2
    go_ret
    exact ⟨zE, zG⟩
   ·replace c21 := Bool.eq_false_iff.mpr c21
    subst c21
    rw [if_neg (show ¬ (false = true) by decide)] at H
    have HC22 := zm H
    clear H
    go_upto_region 3 with (fail)
    go_cut [5] (fun v5 wc => ∃ (kq : Nat) (x5_21 : Bool), v5 = .bool x5_21 ∧ Aside0 (v_fits.j1 kq x5_21 a0_0 a0_1 a0_2 a0_3 a0_4 a0_5 a0_6 a0_7 l0_8 a1_0 l1_1 l1_2 = some r) ∧ Aside0 (kq ≤ kj2) ∧ Aside0 (wc.heap[gb379]? = some (.cells #[.int .i64 a0_0, .int .i64 a0_1, .int .i64 a0_2, .int .i64 a0_3, .int .i64 a0_4, .int .i64 a0_5, .int .i64 a0_6, .string a0_7, (.slice A0_8 l0_8.length c0_8)] 46 (0, 0))) ∧ Aside0 (wc.heap[gb380]? = some (.cells #[.int .i64 a1_0, (.slice A1_1 l1_1.length c1_1), (.slice A1_2 l1_2.length c1_2)] 25 (0, 0))) ∧ Aside0 (Below w.heap.size w wc))
    case first =>
     have H := HC22.out
     clear HC22
     by_cases c23 : a0_6 ≥ 4
     ·rw [if_pos c23] at H
      have c23b0 : decide (4 ≤ a0_6) = true := decide_eq_true c23
      clear c23
      (first | rw [c23b0] | (simp only [i64_w, i32_w]; rw [c23b0]) | skip)
      have H' := zm H
      clear H
      have hnb24 := NB379_380.out
      have hnc24 := NB380_379.out
      obtain ⟨hcz25_0, hcz25_1, hcz25_2, hcz25_3, hcz25_4, hcz25_5, hcz25_6, hcz25_7, hcz25_8, hfz25_0, hfz25_1, hfz25_2, hfz25_3, hfz25_4, hfz25_5, hfz25_6, hfz25_7, hfz25_8⟩ := zd9 BK379.out (.int .i64 a0_0) (.int .i64 a0_1) (.int .i64 a0_2) (.int .i64 a0_3) (.int .i64 a0_4) (.int .i64 a0_5) (.int .i64 a0_6) (.string a0_7) (.slice A0_8 l0_8.length c0_8)
      go_wp2
      go_meet
      case rel => exact ⟨_, (decide (a0_6 ≤ 1000000)), zR, H', ⟨by have := HJ2.out; first | omega | exact Nat.le_refl _⟩, ⟨zK⟩, ⟨zK⟩, ⟨zG⟩⟩
     ·rw [if_neg c23] at H
      have c23b0 : decide (4 ≤ a0_6) = false := decide_eq_false c23
      clear c23
      (first | rw [c23b0] | (simp only [i64_w, i32_w]; rw [c23b0]) | skip)
      have H' := zm H
      clear H
      have hnb26 := NB379_380.out
      have hnc26 := NB380_379.out
      obtain ⟨hcz27_0, hcz27_1, hcz27_2, hcz27_3, hcz27_4, hcz27_5, hcz27_6, hcz27_7, hcz27_8, hfz27_0, hfz27_1, hfz27_2, hfz27_3, hfz27_4, hfz27_5, hfz27_6, hfz27_7, hfz27_8⟩ := zd9 BK379.out (.int .i64 a0_0) (.int .i64 a0_1) (.int .i64 a0_2) (.int .i64 a0_3) (.int .i64 a0_4) (.int .i64 a0_5) (.int .i64 a0_6) (.string a0_7) (.slice A0_8 l0_8.length c0_8)
      go_wp2
      go_meet
      case rel => exact ⟨_, (false), zR, H', ⟨by have := HJ2.out; first | omega | exact Nat.le_refl _⟩, ⟨zK⟩, ⟨zK⟩, ⟨zG⟩⟩
    case rest =>
     clear HC22
     obtain ⟨kq, x5_21, rfl, HA, HJ21, BK379, BK380, HB⟩ := hcut
     cases kq with
     | zero => exact absurd HA.out (by simp [v_fits.j1])
     | succ kj21 =>
      have H := HA.out
      clear HA
      simp only [v_fits.j1] at H
      have HC28 := zm H
      clear H
      have hnb29 := NB379_380.out
      have hnc29 := NB380_379.out
      obtain ⟨hcz30_0, hcz30_1, hcz30_2, hcz30_3, hcz30_4, hcz30_5, hcz30_6, hcz30_7, hcz30_8, hfz30_0, hfz30_1, hfz30_2, hfz30_3, hfz30_4, hfz30_5, hfz30_6, hfz30_7, hfz30_8⟩ := zd9 BK379.out (.int .i64 a0_0) (.int .i64 a0_1) (.int .i64 a0_2) (.int .i64 a0_3) (.int .i64 a0_4) (.int .i64 a0_5) (.int .i64 a0_6) (.string a0_7) (.slice A0_8 l0_8.length c0_8)
      go_upto_block 4 with (fail)
      go_cut [] (fun wc => ∃ (kq : Nat), Aside0 (v_fits.j4 kq x5_21 a0_0 a0_1 a0_2 a0_3 a0_4 a0_5 a0_6 a0_7 l0_8 a1_0 l1_1 l1_2 = some r) ∧ Aside0 (kq ≤ kj21) ∧ Aside0 (wc.heap[gb379]? = some (.cells #[.int .i64 a0_0, .int .i64 a0_1, .int .i64 a0_2, .int .i64 a0_3, .int .i64 a0_4, .int .i64 a0_5, .int .i64 a0_6, .string a0_7, (.slice A0_8 l0_8.length c0_8)] 46 (0, 0))) ∧ Aside0 (wc.heap[gb380]? = some (.cells #[.int .i64 a1_0, (.slice A1_1 l1_1.length c1_1), (.slice A1_2 l1_2.length c1_2)] 25 (0, 0))) ∧ Aside0 (Below w.heap.size w wc))
      case first =>
       have H := HC28.out
       clear HC28
       by_cases c31 : a0_0 = 1
       ·rw [if_pos c31] at H
        have c31b0 : (a0_0 == 1) = true := beq_iff_eq.mpr c31
        have c31b1 : (a0_0 != 1) = false := bne_eq_false_iff_eq.mpr c31
        clear c31
        (first | rw [c31b0] | (simp only [i64_w, i32_w]; rw [c31b0]) | skip)
        obtain rfl := Option.some.inj H
        go_wp2
        go_ret
        exact ⟨zE, zG⟩
       ·rw [if_neg c31] at H
        have c31b0 : (a0_0 == 1) = false := beq_eq_false_iff_ne.mpr c31
        have c31b1 : (a0_0 != 1) = true := bne_iff_ne.mpr c31
        (first | rw [c31b0] | (simp only [i64_w, i32_w]; rw [c31b0]) | skip)
        by_cases c32 : a0_0 = 2
        ·rw [if_pos c32] at H
         have c32b0 : (a0_0 == 2) = true := beq_iff_eq.mpr c32
         have c32b1 : (a0_0 != 2) = false := bne_eq_false_iff_eq.mpr c32
         clear c32
         by_cases c33 : a0_5 > 0
         ·rw [if_pos c33] at H
          have c33b0 : decide (0 < a0_5) = true := decide_eq_true c33
          clear c33
          obtain rfl := Option.some.inj H
          have hnb34 := NB379_380.out
          have hnc34 := NB380_379.out
          obtain ⟨hcz35_0, hcz35_1, hcz35_2, hcz35_3, hcz35_4, hcz35_5, hcz35_6, hcz35_7, hcz35_8, hfz35_0, hfz35_1, hfz35_2, hfz35_3, hfz35_4, hfz35_5, hfz35_6, hfz35_7, hfz35_8⟩ := zd9 BK379.out (.int .i64 a0_0) (.int .i64 a0_1) (.int .i64 a0_2) (.int .i64 a0_3) (.int .i64 a0_4) (.int .i64 a0_5) (.int .i64 a0_6) (.string a0_7) (.slice A0_8 l0_8.length c0_8)
          obtain ⟨hcz36_0, hcz36_1, hcz36_2, hfz36_0, hfz36_1, hfz36_2⟩ := zd3 BK380.out (.int .i64 a1_0) (.slice A1_1 l1_1.length c1_1) (.slice A1_2 l1_2.length c1_2)
          go_wp2
          go_ret
          exact ⟨zE, zG⟩
         ·rw [if_neg c33] at H
          have c33b0 : decide (0 < a0_5) = false := decide_eq_false c33
          clear c33
          obtain rfl := Option.some.inj H
          have hnb37 := NB379_380.out
          have hnc37 := NB380_379.out
          obtain ⟨hcz38_0, hcz38_1, hcz38_2, hcz38_3, hcz38_4, hcz38_5, hcz38_6, hcz38_7, hcz38_8, hfz38_0, hfz38_1, hfz38_2, hfz38_3, hfz38_4, hfz38_5, hfz38_6, hfz38_7, hfz38_8⟩ := zd9 BK379.out (.int .i64 a0_0) (.int .i64 a0_1) (.int .i64 a0_2) (.int .i64 a0_3) (.int .i64 a0_4) (.int .i64 a0_5) (.int .i64 a0_6) (.string a0_7) (.slice A0_8 l0_8.length c0_8)
          go_wp2
          go_ret
          exact ⟨zE, zG⟩
        ·rw [if_neg c32] at H
         have c32b0 : (a0_0 == 2) = false := beq_eq_false_iff_ne.mpr c32
         have c32b1 : (a0_0 != 2) = true := bne_iff_ne.mpr c32
         by_cases c39 : a0_0 = 8
         ·rw [if_pos c39] at H
          have c39b0 : (a0_0 == 8) = true := beq_iff_eq.mpr c39
          have c39b1 : (a0_0 != 8) = false := bne_eq_false_iff_eq.mpr c39
          clear c39
          have HC40 := zm H
          clear H
          go_upto_region 16 with (fail)
          go_cut [71] (fun v71 wc => ∃ (kq : Nat) (x71_39 : Bool), v71 = .bool x71_39 ∧ Aside0 (v_fits.j3 kq x5_21 x71_39 a0_0 a0_1 a0_2 a0_3 a0_4 a0_5 a0_6 a0_7 l0_8 a1_0 l1_1 l1_2 = some r) ∧ Aside0 (kq ≤ kj21) ∧ Aside0 (wc.heap[gb379]? = some (.cells #[.int .i64 a0_0, .int .i64 a0_1, .int .i64 a0_2, .int .i64 a0_3, .int .i64 a0_4, .int .i64 a0_5, .int .i64 a0_6, .string a0_7, (.slice A0_8 l0_8.length c0_8)] 46 (0, 0))) ∧ Aside0 (wc.heap[gb380]? = some (.cells #[.int .i64 a1_0, (.slice A1_1 l1_1.length c1_1), (.slice A1_2 l1_2.length c1_2)] 25 (0, 0))) ∧ Aside0 (Below w.heap.size w wc))
          case first =>
           have H := HC40.out
           clear HC40
           by_cases c41 : a0_4 = (-1)
           ·rw [if_pos c41] at H
            have c41b0 : (a0_4 == (-1)) = true := beq_iff_eq.mpr c41
            have c41b1 : (a0_4 != (-1)) = false := bne_eq_false_iff_eq.mpr c41
            clear c41
            (first | rw [c41b0] | (simp only [i64_w, i32_w]; rw [c41b0]) | skip)
            have H' := zm H
            clear H
            have hnb42 := NB379_380.out
            have hnc42 := NB380_379.out
            obtain ⟨hcz43_0, hcz43_1, hcz43_2, hcz43_3, hcz43_4, hcz43_5, hcz43_6, hcz43_7, hcz43_8, hfz43_0, hfz43_1, hfz43_2, hfz43_3, hfz43_4, hfz43_5, hfz43_6, hfz43_7, hfz43_8⟩ := zd9 BK379.out (.int .i64 a0_0) (.int .i64 a0_1) (.int .i64 a0_2) (.int .i64 a0_3) (.int .i64 a0_4) (.int .i64 a0_5) (.int .i64 a0_6) (.string a0_7) (.slice A0_8 l0_8.length c0_8)
            go_wp2
            go_meet
            case rel => exact ⟨_, (false), zR, H', ⟨by have := HJ2.out; have := HJ21.out; first | omega | exact Nat.le_refl _⟩, ⟨zK⟩, ⟨zK⟩, ⟨zG⟩⟩
           ·rw [if_neg c41] at H
            have c41b0 : (a0_4 == (-1)) = false := beq_eq_false_iff_ne.mpr c41
            have c41b1 : (a0_4 != (-1)) = true := bne_iff_ne.mpr c41
            (first | rw [c41b0] | (simp only [i64_w, i32_w]; rw [c41b0]) | skip)
            obtain ⟨y389, hy389⟩ : ∃ y_ : List Int, y_ = (([a0_4] : List Int)) := ⟨_, rfl⟩
            replace H : ((v_areSets.f a1_0 l1_1 l1_2 y389).bind fun t392 => (v_fits.j3 kj21 x5_21 (!t392) a0_0 a0_1 a0_2 a0_3 a0_4 a0_5 a0_6 a0_7 l0_8 a1_0 l1_1 l1_2)) = some r := by first | (rw [hy389]; with_reducible exact H) | (have H2_ := (Option.bind_some _ _).symm.trans H; rw [hy389]; with_reducible exact H2_) | (have H2_ := (Option.bind_some _ _).symm.trans H; with_reducible exact H2_) | with_reducible exact H | (rw [hy389]; exact H) | exact H
            have Ny389 := zm hy389
            clear hy389
            obtain ⟨t392, A44, H⟩ := zO H
            have H' := zm H
            clear H
            have hnb45 := NB379_380.out
            have hnc45 := NB380_379.out
            obtain ⟨hcz46_0, hcz46_1, hcz46_2, hcz46_3, hcz46_4, hcz46_5, hcz46_6, hcz46_7, hcz46_8, hfz46_0, hfz46_1, hfz46_2, hfz46_3, hfz46_4, hfz46_5, hfz46_6, hfz46_7, hfz46_8⟩ := zd9 BK379.out (.int .i64 a0_0) (.int .i64 a0_1) (.int .i64 a0_2) (.int .i64 a0_3) (.int .i64 a0_4) (.int .i64 a0_5) (.int .i64 a0_6) (.string a0_7) (.slice A0_8 l0_8.length c0_8)
            obtain ⟨hcz47_0, hcz47_1, hcz47_2, hfz47_0, hfz47_1, hfz47_2⟩ := zd3 BK380.out (.int .i64 a1_0) (.slice A1_1 l1_1.length c1_1) (.slice A1_2 l1_2.length c1_2)
            go_wp2_with (first | ((with_reducible refine gate_dst (N := 68) rfl ?_); (try (refine gate_guard (by rfl) ?_; dsimp only)); refine Kd.R_lit (Kd.int .i64) _ 3 ?hg (N := 68) ?hd (xs := ([a0_4] : List Int)) (inner := [.int .i64 a0_4]) (ok := fun _ => True) (okp := fun _ => True) ?hr ?hp (fun _ hk => hk) trivial (Below.refl _ _) (Nat.le_refl _) (by simp) ?_; (case hd => rfl); (case hg => rfl); (case hr => first | (go_simp; done) | (go_simp; rfl)); (case hp => exact (Reps.one (show Kd.M (Kd.int .i64) _ _ _ a0_4 [.int .i64 a0_4] from rfl) (Reps.none _ _))); intro v390 w48 ho49 hb hg_ hnew_; clear hg_ hnew_; (first | rw [← Ny389.out] at ho49 | (simp only [Int.reduceToNat] at ho49; rw [← Ny389.out] at ho49)); have HO391 := zm (Kd.R_lower ho49 (below_size zG)); replace BK379 := zm (blk_below (g := gb379) zK hb); replace BK380 := zm (blk_below (g := gb380) zK hb); replace HB := zm (below_step zG hb); clear hb ho49; obtain ⟨Ao50, co50, eo50⟩ := Kd.R_slice HO391.out; subst eo50) | (go_at_call 46; (with_reducible refine (v_areSets.calls a1_0 _ _ l1_1 _ _ l1_2 _ _ y389 t392 _ ?side1 ?side2 ?side3 ?side4 ?side5 ?side6 A44.out).mono ?_); (case side1 => exact zC (Kd.C_below HR1_1.out HB.out)); (case side2 => exact HC1_1.out); (case side3 => exact zC (Kd.C_below HR1_2.out HB.out)); (case side4 => exact HC1_2.out); (case side5 => exact zC ((Kd.R_reads' HO391.out).2.2)); (case side6 => exact (Kd.R_reads' HO391.out).2.1); rintro e w51 ⟨rfl, hb⟩; replace HO391 := zm (Kd.R_below (by (with_reducible repeat (first | apply Kd.R_alloc | apply Kd.R_drewN | apply Kd.R_drew)); exact HO391.out) hb); replace BK379 := zm (blk_below (g := gb379) zK hb); replace BK380 := zm (blk_below (g := gb380) zK hb); replace HB := zm (below_step zG hb); (try clear hb)))
            go_meet
            case rel => exact ⟨_, (!t392), zR, H', ⟨by have := HJ2.out; have := HJ21.out; first | omega | exact Nat.le_refl _⟩, ⟨zK⟩, ⟨zK⟩, ⟨zG⟩⟩
          case rest =>
           clear HC40
           clear c31 c31b0 c31b1 c32 c32b0 c32b1 c39b0 c39b1 hcz30_0 hcz30_1 hcz30_2 hcz30_3 hcz30_4 hcz30_5 hcz30_6 hcz30_7 hcz30_8 hfz30_0 hfz30_1 hfz30_2 hfz30_3 hfz30_4 hfz30_5 hfz30_6 hfz30_7 hfz30_8
           obtain ⟨kq, x71_39, rfl, HA, HJ39, BK379, BK380, HB⟩ := hcut
           cases kq with
           | zero => exact absurd HA.out (by simp [v_fits.j3])
           | succ kj39 =>
            have H := HA.out
            clear HA
            simp only [v_fits.j3] at H
            by_cases c52 : x71_39 = true
            ·subst c52
             rw [if_pos rfl] at H
             obtain rfl := Option.some.inj H
             go_wp2
             go_ret
             exact ⟨zE, zG⟩
            ·replace c52 := Bool.eq_false_iff.mpr c52
             subst c52
             rw [if_neg (show ¬ (false = true) by decide)] at H
             have H' := zm H
             clear H
             go_wp2
             go_meet
             case rel => exact ⟨_, H', ⟨by have := HJ2.out; have := HJ21.out; have := HJ39.out; first | omega | exact Nat.le_refl _⟩, ⟨zK⟩, ⟨zK⟩, ⟨zG⟩⟩
         ·rw [if_neg c39] at H
          have c39b0 : (a0_0 == 8) = false := beq_eq_false_iff_ne.mpr c39
          have c39b1 : (a0_0 != 8) = true := bne_iff_ne.mpr c39
          by_cases c53 : a0_0 = 9
          ·rw [if_pos c53] at H
           have c53b0 : (a0_0 == 9) = true := beq_iff_eq.mpr c53
           have c53b1 : (a0_0 != 9) = false := bne_eq_false_iff_eq.mpr c53
           clear c53
           have H' := zm H
           clear H
           go_wp2
           go_meet
           case rel => exact ⟨_, H', ⟨by have := HJ2.out; have := HJ21.out; first | omega | exact Nat.le_refl _⟩, ⟨zK⟩, ⟨zK⟩, ⟨zG⟩⟩
          ·rw [if_neg c53] at H
           have c53b0 : (a0_0 == 9) = false := beq_eq_false_iff_ne.mpr c53
           have c53b1 : (a0_0 != 9) = true := bne_iff_ne.mpr c53
           have HC54 := zm H
           clear H
           go_upto_if 43 with (fail)
           go_cut [43] (fun v43 wc => ∃ (kq : Nat) (x43_53 : Bool), v43 = .bool x43_53 ∧ Aside0 (v_fits.j2 kq x43_53 a0_0 a0_1 a0_2 a0_3 a0_4 a0_5 a0_6 a0_7 l0_8 a1_0 l1_1 l1_2 = some r) ∧ Aside0 (kq ≤ kj21) ∧ Aside0 (wc.heap[gb379]? = some (.cells #[.int .i64 a0_0, .int .i64 a0_1, .int .i64 a0_2, .int .i64 a0_3, .int .i64 a0_4, .int .i64 a0_5, .int .i64 a0_6, .string a0_7, (.slice A0_8 l0_8.length c0_8)] 46 (0, 0))) ∧ Aside0 (wc.heap[gb380]? = some (.cells #[.int .i64 a1_0, (.slice A1_1 l1_1.length c1_1), (.slice A1_2 l1_2.length c1_2)] 25 (0, 0))) ∧ Aside0 (Below w.heap.size w wc))
           case first =>
            have H := HC54.out
            clear HC54
            by_cases c55 : a0_0 = 3
            ·rw [if_pos c55] at H
             have c55b0 : (a0_0 == 3) = true := beq_iff_eq.mpr c55
             have c55b1 : (a0_0 != 3) = false := bne_eq_false_iff_eq.mpr c55
             clear c55
             (first | rw [c55b0] | (simp only [i64_w, i32_w]; rw [c55b0]) | skip)
             have H' := zm H
             clear H
             go_wp2
             go_meet
             case rel => exact ⟨_, ((a0_0 == 3)), zR, H', ⟨by have := HJ2.out; have := HJ21.out; first | omega | exact Nat.le_refl _⟩, ⟨zK⟩, ⟨zK⟩, ⟨zG⟩⟩
            ·rw [if_neg c55] at H
             have c55b0 : (a0_0 == 3) = false := beq_eq_false_iff_ne.mpr c55
             have c55b1 : (a0_0 != 3) = true := bne_iff_ne.mpr c55
             (first | rw [c55b0] | (simp only [i64_w, i32_w]; rw [c55b0]) | skip)
             by_cases c56 : a0_0 = 4
             ·rw [if_pos c56] at H
              have c56b0 : (a0_0 == 4) = true := beq_iff_eq.mpr c56
              have c56b1 : (a0_0 != 4) = false := bne_eq_false_iff_eq.mpr c56
              clear c56
              have H' := zm H
              clear H
              go_wp2
              go_meet
              case rel => exact ⟨_, ((a0_0 == 4)), zR, H', ⟨by have := HJ2.out; have := HJ21.out; first | omega | exact Nat.le_refl _⟩, ⟨zK⟩, ⟨zK⟩, ⟨zG⟩⟩
             ·rw [if_neg c56] at H
              have c56b0 : (a0_0 == 4) = false := beq_eq_false_iff_ne.mpr c56
              have c56b1 : (a0_0 != 4) = true := bne_iff_ne.mpr c56
              by_cases c57 : a0_0 = 5
              ·rw [if_pos c57] at H
               have c57b0 : (a0_0 == 5) = true := beq_iff_eq.mpr c57
               have c57b1 : (a0_0 != 5) = false := bne_eq_false_iff_eq.mpr c57
               clear c57
               have H' := zm H
               clear H
               go_wp2
               go_meet
               case rel => exact ⟨_, ((a0_0 == 5)), zR, H', ⟨by have := HJ2.out; have := HJ21.out; first | omega | exact Nat.le_refl _⟩, ⟨zK⟩, ⟨zK⟩, ⟨zG⟩⟩
              ·rw [if_neg c57] at H
               have c57b0 : (a0_0 == 5) = false := beq_eq_false_iff_ne.mpr c57
               have c57b1 : (a0_0 != 5) = true := bne_iff_ne.mpr c57
               by_cases c58 : a0_0 = 6
               ·rw [if_pos c58] at H
                have c58b0 : (a0_0 == 6) = true := beq_iff_eq.mpr c58
                have c58b1 : (a0_0 != 6) = false := bne_eq_false_iff_eq.mpr c58
                clear c58
                have H' := zm H
                clear H
                go_wp2
                go_meet
                case rel => exact ⟨_, ((a0_0 == 6)), zR, H', ⟨by have := HJ2.out; have := HJ21.out; first | omega | exact Nat.le_refl _⟩, ⟨zK⟩, ⟨zK⟩, ⟨zG⟩⟩
               ·rw [if_neg c58] at H
                have c58b0 : (a0_0 == 6) = false := beq_eq_false_iff_ne.mpr c58
                have c58b1 : (a0_0 != 6) = true := bne_iff_ne.mpr c58
                have H' := zm H
                clear H
                go_wp2
                go_meet
                case rel => exact ⟨_, ((a0_0 == 7)), zR, H', ⟨by have := HJ2.out; have := HJ21.out; first | omega | exact Nat.le_refl _⟩, ⟨zK⟩, ⟨zK⟩, ⟨zG⟩⟩
           case rest =>
            clear HC54
            clear c31 c31b0 c31b1 c32 c32b0 c32b1 c39 c39b0 c39b1 c53 c53b0 c53b1 hcz30_0 hcz30_1 hcz30_2 hcz30_3 hcz30_4 hcz30_5 hcz30_6 hcz30_7 hcz30_8 hfz30_0 hfz30_1 hfz30_2 hfz30_3 hfz30_4 hfz30_5 hfz30_6 hfz30_7 hfz30_8
            obtain ⟨kq, x43_53, rfl, HA, HJ53, BK379, BK380, HB⟩ := hcut
            cases kq with
            | zero => exact absurd HA.out (by simp [v_fits.j2])
            | succ kj53 =>
             have H := HA.out
             clear HA
             simp only [v_fits.j2] at H
             by_cases c59 : x43_53 = true
             ·subst c59
              rw [if_pos rfl] at H
              obtain ⟨y385, hy385⟩ : ∃ y_ : List Int, y_ = (([a0_3] : List Int)) := ⟨_, rfl⟩
              replace H : ((v_areSets.f a1_0 l1_1 l1_2 y385).bind fun t388 => (some t388)) = some r := by first | (rw [hy385]; with_reducible exact H) | (have H2_ := (Option.bind_some _ _).symm.trans H; rw [hy385]; with_reducible exact H2_) | (have H2_ := (Option.bind_some _ _).symm.trans H; with_reducible exact H2_) | with_reducible exact H | (rw [hy385]; exact H) | exact H
              have Ny385 := zm hy385
              clear hy385
              obtain ⟨t388, A60, H⟩ := zO H
              obtain rfl := Option.some.inj H
              have hnb61 := NB380_379.out
              have hnc61 := NB379_380.out
              obtain ⟨hcz62_0, hcz62_1, hcz62_2, hfz62_0, hfz62_1, hfz62_2⟩ := zd3 BK380.out (.int .i64 a1_0) (.slice A1_1 l1_1.length c1_1) (.slice A1_2 l1_2.length c1_2)
              obtain ⟨hcz63_0, hcz63_1, hcz63_2, hcz63_3, hcz63_4, hcz63_5, hcz63_6, hcz63_7, hcz63_8, hfz63_0, hfz63_1, hfz63_2, hfz63_3, hfz63_4, hfz63_5, hfz63_6, hfz63_7, hfz63_8⟩ := zd9 BK379.out (.int .i64 a0_0) (.int .i64 a0_1) (.int .i64 a0_2) (.int .i64 a0_3) (.int .i64 a0_4) (.int .i64 a0_5) (.int .i64 a0_6) (.string a0_7) (.slice A0_8 l0_8.length c0_8)
              go_wp2_with (first | ((with_reducible refine gate_dst (N := 97) rfl ?_); (try (refine gate_guard (by rfl) ?_; dsimp only)); refine Kd.R_lit (Kd.int .i64) _ 3 ?hg (N := 97) ?hd (xs := ([a0_3] : List Int)) (inner := [.int .i64 a0_3]) (ok := fun _ => True) (okp := fun _ => True) ?hr ?hp (fun _ hk => hk) trivial (Below.refl _ _) (Nat.le_refl _) (by simp) ?_; (case hd => rfl); (case hg => rfl); (case hr => first | (go_simp; done) | (go_simp; rfl)); (case hp => exact (Reps.one (show Kd.M (Kd.int .i64) _ _ _ a0_3 [.int .i64 a0_3] from rfl) (Reps.none _ _))); intro v386 w64 ho65 hb hg_ hnew_; clear hg_ hnew_; (first | rw [← Ny385.out] at ho65 | (simp only [Int.reduceToNat] at ho65; rw [← Ny385.out] at ho65)); have HO387 := zm (Kd.R_lower ho65 (below_size zG)); replace BK379 := zm (blk_below (g := gb379) zK hb); replace BK380 := zm (blk_below (g := gb380) zK hb); replace HB := zm (below_step zG hb); clear hb ho65; obtain ⟨Ao66, co66, eo66⟩ := Kd.R_slice HO387.out; subst eo66) | ((with_reducible refine gate_callee (f := 46) rfl ?_); refine goesL_ (some 98) rfl rfl Try.func46 (by kernel_rfl) rfl #[.agg #[.int .i64 a1_0, .slice A1_1 l1_1.length c1_1, .slice A1_2 l1_2.length c1_2], .slice Ao66 y385.length co66] rfl zP ?_; (with_reducible refine (v_areSets.calls a1_0 _ _ l1_1 _ _ l1_2 _ _ y385 t388 _ ?side1 ?side2 ?side3 ?side4 ?side5 ?side6 A60.out).mono ?_); (case side1 => exact zC (Kd.C_below HR1_1.out HB.out)); (case side2 => exact HC1_1.out); (case side3 => exact zC (Kd.C_below HR1_2.out HB.out)); (case side4 => exact HC1_2.out); (case side5 => exact zC ((Kd.R_reads' HO387.out).2.2)); (case side6 => exact (Kd.R_reads' HO387.out).2.1); rintro e w67 ⟨rfl, hb⟩; refine ⟨_, rfl, ?_⟩; replace HO387 := zm (Kd.R_below (by (with_reducible repeat (first | apply Kd.R_alloc | apply Kd.R_drewN | apply Kd.R_drew)); exact HO387.out) hb); replace BK379 := zm (blk_below (g := gb379) zK hb); replace BK380 := zm (blk_below (g := gb380) zK hb); replace HB := zm (below_step zG hb); (try clear hb)))
              go_ret
              exact ⟨zE, zG⟩
             ·replace c59 := Bool.eq_false_iff.mpr c59
              subst c59
              rw [if_neg (show ¬ (false = true) by decide)] at H
              obtain rfl := Option.some.inj H
              go_wp2
              go_ret
              exact ⟨zE, zG⟩
      case rest =>
       clear HC28
       clear hcz30_0 hcz30_1 hcz30_2 hcz30_3 hcz30_4 hcz30_5 hcz30_6 hcz30_7 hcz30_8 hfz30_0 hfz30_1 hfz30_2 hfz30_3 hfz30_4 hfz30_5 hfz30_6 hfz30_7 hfz30_8
       obtain ⟨kq, HA, HJ27, BK379, BK380, HB⟩ := hcut
       cases kq with
       | zero => exact absurd HA.out (by simp [v_fits.j4])
       | succ kj27 =>
        have H := HA.out
        clear HA
        simp only [v_fits.j4] at H
        by_cases c68 : x5_21 = true
        ·subst c68
         rw [if_pos rfl] at H
         obtain ⟨y393, hy393⟩ : ∃ y_ : List Int, y_ = (([a0_3, a0_5] : List Int)) := ⟨_, rfl⟩
         replace H : ((v_areSets.f a1_0 l1_1 l1_2 y393).bind fun t396 => (if t396 = true then ((v_areSets.f a1_0 l1_1 l1_2 l0_8).bind fun t397 => (if t397 = true then (some (decide ((l0_8.length : Int) ≤ 200))) else (some false))) else (some false))) = some r := by first | (rw [hy393]; with_reducible exact H) | (have H2_ := (Option.bind_some _ _).symm.trans H; rw [hy393]; with_reducible exact H2_) | (have H2_ := (Option.bind_some _ _).symm.trans H; with_reducible exact H2_) | with_reducible exact H | (rw [hy393]; exact H) | exact H
         have Ny393 := zm hy393
         clear hy393
         obtain ⟨t396, A69, H⟩ := zO H
         by_cases c70 : t396 = true
         ·subst c70
          rw [if_pos rfl] at H
          obtain ⟨t397, A71, H⟩ := zO H
          by_cases c72 : t397 = true
          ·subst c72
           rw [if_pos rfl] at H
           obtain rfl := Option.some.inj H
           have hnb73 := NB380_379.out
           have hnc73 := NB379_380.out
           obtain ⟨hcz74_0, hcz74_1, hcz74_2, hfz74_0, hfz74_1, hfz74_2⟩ := zd3 BK380.out (.int .i64 a1_0) (.slice A1_1 l1_1.length c1_1) (.slice A1_2 l1_2.length c1_2)
           obtain ⟨hcz75_0, hcz75_1, hcz75_2, hcz75_3, hcz75_4, hcz75_5, hcz75_6, hcz75_7, hcz75_8, hfz75_0, hfz75_1, hfz75_2, hfz75_3, hfz75_4, hfz75_5, hfz75_6, hfz75_7, hfz75_8⟩ := zd9 BK379.out (.int .i64 a0_0) (.int .i64 a0_1) (.int .i64 a0_2) (.int .i64 a0_3) (.int .i64 a0_4) (.int .i64 a0_5) (.int .i64 a0_6) (.string a0_7) (.slice A0_8 l0_8.length c0_8)
           go_wp2_with (first | (go_at_call 46; (with_reducible refine (v_areSets.calls a1_0 _ _ l1_1 _ _ l1_2 _ _ l0_8 true _ ?side1 ?side2 ?side3 ?side4 ?side5 ?side6 A71.out).mono ?_); (case side1 => exact zC (Kd.C_below HR1_1.out HB.out)); (case side2 => exact HC1_1.out); (case side3 => exact zC (Kd.C_below HR1_2.out HB.out)); (case side4 => exact HC1_2.out); (case side5 => exact zC (Kd.C_below HR0_8.out HB.out)); (case side6 => exact HC0_8.out); rintro e w82 ⟨rfl, hb⟩; replace HO395 := zm (Kd.R_below (by (with_reducible repeat (first | apply Kd.R_alloc | apply Kd.R_drewN | apply Kd.R_drew)); exact HO395.out) hb); replace BK379 := zm (blk_below (g := gb379) zK hb); replace BK380 := zm (blk_below (g := gb380) zK hb); replace HB := zm (below_step zG hb); (try clear hb); obtain ⟨hcz83_0, hcz83_1, hcz83_2, hcz83_3, hcz83_4, hcz83_5, hcz83_6, hcz83_7, hcz83_8, hfz83_0, hfz83_1, hfz83_2, hfz83_3, hfz83_4, hfz83_5, hfz83_6, hfz83_7, hfz83_8⟩ := zd9 BK379.out (.int .i64 a0_0) (.int .i64 a0_1) (.int .i64 a0_2) (.int .i64 a0_3) (.int .i64 a0_4) (.int .i64 a0_5) (.int .i64 a0_6) (.string a0_7) (.slice A0_8 l0_8.length c0_8)) | (go_at_call 46; (with_reducible refine (v_areSets.calls a1_0 _ _ l1_1 _ _ l1_2 _ _ y393 true _ ?side1 ?side2 ?side3 ?side4 ?side5 ?side6 A69.out).mono ?_); (case side1 => exact zC (Kd.C_below HR1_1.out HB.out)); (case side2 => exact HC1_1.out); (case side3 => exact zC (Kd.C_below HR1_2.out HB.out)); (case side4 => exact HC1_2.out); (case side5 => exact zC ((Kd.R_reads' HO395.out).2.2)); (case side6 => exact (Kd.R_reads' HO395.out).2.1); rintro e w79 ⟨rfl, hb⟩; replace HO395 := zm (Kd.R_below (by (with_reducible repeat (first | apply Kd.R_alloc | apply Kd.R_drewN | apply Kd.R_drew)); exact HO395.out) hb); replace BK379 := zm (blk_below (g := gb379) zK hb); replace BK380 := zm (blk_below (g := gb380) zK hb); replace HB := zm (below_step zG hb); (try clear hb); obtain ⟨hcz80_0, hcz80_1, hcz80_2, hfz80_0, hfz80_1, hfz80_2⟩ := zd3 BK380.out (.int .i64 a1_0) (.slice A1_1 l1_1.length c1_1) (.slice A1_2 l1_2.length c1_2); obtain ⟨hcz81_0, hcz81_1, hcz81_2, hcz81_3, hcz81_4, hcz81_5, hcz81_6, hcz81_7, hcz81_8, hfz81_0, hfz81_1, hfz81_2, hfz81_3, hfz81_4, hfz81_5, hfz81_6, hfz81_7, hfz81_8⟩ := zd9 BK379.out (.int .i64 a0_0) (.int .i64 a0_1) (.int .i64 a0_2) (.int .i64 a0_3) (.int .i64 a0_4) (.int .i64 a0_5) (.int .i64 a0_6) (.string a0_7) (.slice A0_8 l0_8.length c0_8)) | ((with_reducible refine gate_dst (N := 79) rfl ?_); (try (refine gate_guard (by rfl) ?_; dsimp only)); refine Kd.R_lit (Kd.int .i64) _ 3 ?hg (N := 79) ?hd (xs := ([a0_3, a0_5] : List Int)) (inner := [.int .i64 a0_3, .int .i64 a0_5]) (ok := fun _ => True) (okp := fun _ => True) ?hr ?hp (fun _ hk => hk) trivial (Below.refl _ _) (Nat.le_refl _) (by simp) ?_; (case hd => rfl); (case hg => rfl); (case hr => first | (go_simp; done) | (go_simp; rfl)); (case hp => exact (Reps.one (show Kd.M (Kd.int .i64) _ _ _ a0_3 [.int .i64 a0_3] from rfl) (Reps.one (show Kd.M (Kd.int .i64) _ _ _ a0_5 [.int .i64 a0_5] from rfl) (Reps.none _ _)))); intro v394 w76 ho77 hb hg_ hnew_; clear hg_ hnew_; (first | rw [← Ny393.out] at ho77 | (simp only [Int.reduceToNat] at ho77; rw [← Ny393.out] at ho77)); have HO395 := zm (Kd.R_lower ho77 (below_size zG)); replace BK379 := zm (blk_below (g := gb379) zK hb); replace BK380 := zm (blk_below (g := gb380) zK hb); replace HB := zm (below_step zG hb); clear hb ho77; obtain ⟨Ao78, co78, eo78⟩ := Kd.R_slice HO395.out; subst eo78))
           go_ret
           exact ⟨zE, zG⟩
          ·replace c72 := Bool.eq_false_iff.mpr c72
           subst c72
           rw [if_neg (show ¬ (false = true) by decide)] at H
           obtain rfl := Option.some.inj H
           have hnb84 := NB380_379.out
           have hnc84 := NB379_380.out
           obtain ⟨hcz85_0, hcz85_1, hcz85_2, hfz85_0, hfz85_1, hfz85_2⟩ := zd3 BK380.out (.int .i64 a1_0) (.slice A1_1 l1_1.length c1_1) (.slice A1_2 l1_2.length c1_2)
           obtain ⟨hcz86_0, hcz86_1, hcz86_2, hcz86_3, hcz86_4, hcz86_5, hcz86_6, hcz86_7, hcz86_8, hfz86_0, hfz86_1, hfz86_2, hfz86_3, hfz86_4, hfz86_5, hfz86_6, hfz86_7, hfz86_8⟩ := zd9 BK379.out (.int .i64 a0_0) (.int .i64 a0_1) (.int .i64 a0_2) (.int .i64 a0_3) (.int .i64 a0_4) (.int .i64 a0_5) (.int .i64 a0_6) (.string a0_7) (.slice A0_8 l0_8.length c0_8)
           go_wp2_with (first | (go_at_call 46; (with_reducible refine (v_areSets.calls a1_0 _ _ l1_1 _ _ l1_2 _ _ l0_8 false _ ?side1 ?side2 ?side3 ?side4 ?side5 ?side6 A71.out).mono ?_); (case side1 => exact zC (Kd.C_below HR1_1.out HB.out)); (case side2 => exact HC1_1.out); (case side3 => exact zC (Kd.C_below HR1_2.out HB.out)); (case side4 => exact HC1_2.out); (case side5 => exact zC (Kd.C_below HR0_8.out HB.out)); (case side6 => exact HC0_8.out); rintro e w93 ⟨rfl, hb⟩; replace HO395 := zm (Kd.R_below (by (with_reducible repeat (first | apply Kd.R_alloc | apply Kd.R_drewN | apply Kd.R_drew)); exact HO395.out) hb); replace BK379 := zm (blk_below (g := gb379) zK hb); replace BK380 := zm (blk_below (g := gb380) zK hb); replace HB := zm (below_step zG hb); (try clear hb)) | (go_at_call 46; (with_reducible refine (v_areSets.calls a1_0 _ _ l1_1 _ _ l1_2 _ _ y393 true _ ?side1 ?side2 ?side3 ?side4 ?side5 ?side6 A69.out).mono ?_); (case side1 => exact zC (Kd.C_below HR1_1.out HB.out)); (case side2 => exact HC1_1.out); (case side3 => exact zC (Kd.C_below HR1_2.out HB.out)); (case side4 => exact HC1_2.out); (case side5 => exact zC ((Kd.R_reads' HO395.out).2.2)); (case side6 => exact (Kd.R_reads' HO395.out).2.1); rintro e w90 ⟨rfl, hb⟩; replace HO395 := zm (Kd.R_below (by (with_reducible repeat (first | apply Kd.R_alloc | apply Kd.R_drewN | apply Kd.R_drew)); exact HO395.out) hb); replace BK379 := zm (blk_below (g := gb379) zK hb); replace BK380 := zm (blk_below (g := gb380) zK hb); replace HB := zm (below_step zG hb); (try clear hb); obtain ⟨hcz91_0, hcz91_1, hcz91_2, hfz91_0, hfz91_1, hfz91_2⟩ := zd3 BK380.out (.int .i64 a1_0) (.slice A1_1 l1_1.length c1_1) (.slice A1_2 l1_2.length c1_2); obtain ⟨hcz92_0, hcz92_1, hcz92_2, hcz92_3, hcz92_4, hcz92_5, hcz92_6, hcz92_7, hcz92_8, hfz92_0, hfz92_1, hfz92_2, hfz92_3, hfz92_4, hfz92_5, hfz92_6, hfz92_7, hfz92_8⟩ := zd9 BK379.out (.int .i64 a0_0) (.int .i64 a0_1) (.int .i64 a0_2) (.int .i64 a0_3) (.int .i64 a0_4) (.int .i64 a0_5) (.int .i64 a0_6) (.string a0_7) (.slice A0_8 l0_8.length c0_8)) | ((with_reducible refine gate_dst (N := 79) rfl ?_); (try (refine gate_guard (by rfl) ?_; dsimp only)); refine Kd.R_lit (Kd.int .i64) _ 3 ?hg (N := 79) ?hd (xs := ([a0_3, a0_5] : List Int)) (inner := [.int .i64 a0_3, .int .i64 a0_5]) (ok := fun _ => True) (okp := fun _ => True) ?hr ?hp (fun _ hk => hk) trivial (Below.refl _ _) (Nat.le_refl _) (by simp) ?_; (case hd => rfl); (case hg => rfl); (case hr => first | (go_simp; done) | (go_simp; rfl)); (case hp => exact (Reps.one (show Kd.M (Kd.int .i64) _ _ _ a0_3 [.int .i64 a0_3] from rfl) (Reps.one (show Kd.M (Kd.int .i64) _ _ _ a0_5 [.int .i64 a0_5] from rfl) (Reps.none _ _)))); intro v394 w87 ho88 hb hg_ hnew_; clear hg_ hnew_; (first | rw [← Ny393.out] at ho88 | (simp only [Int.reduceToNat] at ho88; rw [← Ny393.out] at ho88)); have HO395 := zm (Kd.R_lower ho88 (below_size zG)); replace BK379 := zm (blk_below (g := gb379) zK hb); replace BK380 := zm (blk_below (g := gb380) zK hb); replace HB := zm (below_step zG hb); clear hb ho88; obtain ⟨Ao89, co89, eo89⟩ := Kd.R_slice HO395.out; subst eo89))
           go_ret
           exact ⟨zE, zG⟩
         ·replace c70 := Bool.eq_false_iff.mpr c70
          subst c70
          rw [if_neg (show ¬ (false = true) by decide)] at H
          obtain rfl := Option.some.inj H
          have hnb94 := NB380_379.out
          have hnc94 := NB379_380.out
          obtain ⟨hcz95_0, hcz95_1, hcz95_2, hfz95_0, hfz95_1, hfz95_2⟩ := zd3 BK380.out (.int .i64 a1_0) (.slice A1_1 l1_1.length c1_1) (.slice A1_2 l1_2.length c1_2)
          obtain ⟨hcz96_0, hcz96_1, hcz96_2, hcz96_3, hcz96_4, hcz96_5, hcz96_6, hcz96_7, hcz96_8, hfz96_0, hfz96_1, hfz96_2, hfz96_3, hfz96_4, hfz96_5, hfz96_6, hfz96_7, hfz96_8⟩ := zd9 BK379.out (.int .i64 a0_0) (.int .i64 a0_1) (.int .i64 a0_2) (.int .i64 a0_3) (.int .i64 a0_4) (.int .i64 a0_5) (.int .i64 a0_6) (.string a0_7) (.slice A0_8 l0_8.length c0_8)
          go_wp2_with (first | ((with_reducible refine gate_dst (N := 79) rfl ?_); (try (refine gate_guard (by rfl) ?_; dsimp only)); refine Kd.R_lit (Kd.int .i64) _ 3 ?hg (N := 79) ?hd (xs := ([a0_3, a0_5] : List Int)) (inner := [.int .i64 a0_3, .int .i64 a0_5]) (ok := fun _ => True) (okp := fun _ => True) ?hr ?hp (fun _ hk => hk) trivial (Below.refl _ _) (Nat.le_refl _) (by simp) ?_; (case hd => rfl); (case hg => rfl); (case hr => first | (go_simp; done) | (go_simp; rfl)); (case hp => exact (Reps.one (show Kd.M (Kd.int .i64) _ _ _ a0_3 [.int .i64 a0_3] from rfl) (Reps.one (show Kd.M (Kd.int .i64) _ _ _ a0_5 [.int .i64 a0_5] from rfl) (Reps.none _ _)))); intro v394 w97 ho98 hb hg_ hnew_; clear hg_ hnew_; (first | rw [← Ny393.out] at ho98 | (simp only [Int.reduceToNat] at ho98; rw [← Ny393.out] at ho98)); have HO395 := zm (Kd.R_lower ho98 (below_size zG)); replace BK379 := zm (blk_below (g := gb379) zK hb); replace BK380 := zm (blk_below (g := gb380) zK hb); replace HB := zm (below_step zG hb); clear hb ho98; obtain ⟨Ao99, co99, eo99⟩ := Kd.R_slice HO395.out; subst eo99) | (go_at_call 46; (with_reducible refine (v_areSets.calls a1_0 _ _ l1_1 _ _ l1_2 _ _ y393 false _ ?side1 ?side2 ?side3 ?side4 ?side5 ?side6 A69.out).mono ?_); (case side1 => exact zC (Kd.C_below HR1_1.out HB.out)); (case side2 => exact HC1_1.out); (case side3 => exact zC (Kd.C_below HR1_2.out HB.out)); (case side4 => exact HC1_2.out); (case side5 => exact zC ((Kd.R_reads' HO395.out).2.2)); (case side6 => exact (Kd.R_reads' HO395.out).2.1); rintro e w100 ⟨rfl, hb⟩; replace HO395 := zm (Kd.R_below (by (with_reducible repeat (first | apply Kd.R_alloc | apply Kd.R_drewN | apply Kd.R_drew)); exact HO395.out) hb); replace BK379 := zm (blk_below (g := gb379) zK hb); replace BK380 := zm (blk_below (g := gb380) zK hb); replace HB := zm (below_step zG hb); (try clear hb)))
          go_ret
          exact ⟨zE, zG⟩
        ·replace c68 := Bool.eq_false_iff.mpr c68
         subst c68
         rw [if_neg (show ¬ (false = true) by decide)] at H
         obtain rfl := Option.some.inj H
         go_wp2
         go_ret
         exact ⟨zE, zG⟩
end Go.Proofs.Ytngppcmdaanheaa.Pr
namespace Go.Proofs.Ytngppcmdaanheaa.Ls
open Go.RowKit Go.Maps Go.Proofs.Ytngppcmdaanheaa.Iter Go.Proofs.Ytngppcmdaanheaa.ISet Go.Proofs.Ytngppcmdaanheaa.Pr Go.Proofs.Ytngppcmdaanheaa.Ext Go.Proofs.YtngppcmdaanheaaW.PrintWords Go.Proofs.YtngppcmdaanheaaW.PrintLast Go.Proofs.YtngppcmdaanheaaW.PrintMore
set_option linter.unusedVariables false
set_option linter.unusedSimpArgs false
def isM (m : Int) : Bool := if m ≥ 4 then decide (m ≤ 1000000) else false
def callB (s0 : Int) (x : S46) : Bool := isM x.f6 && (setsB s0 [x.f3, x.f5] && (setsB s0 x.f8 && decide ((x.f8.length : Int) ≤ 200)))
def kindB (s0 : Int) (nf : Nat) (x : S46) : Bool :=
 if x.f0 = 1 then isM x.f6 else if x.f0 = 2 then (if x.f5 > 0 then decide (x.f5 < (nf : Int)) else false)
 else if x.f0 = 8 then (if x.f4 = -1 then callB s0 x else if setsB s0 [x.f4] = true then callB s0 x else false)
 else if x.f0 = 9 then callB s0 x else if 3 ≤ x.f0 ∧ x.f0 ≤ 7 then setsB s0 [x.f3] else false
def fitsB (s0 : Int) (nf : Nat) (x : S46) : Bool :=
 if x.f1 < 0 then false else if x.f1 ≥ (nf : Int) then false else if setsB s0 [x.f2] = true then kindB s0 nf x else false
theorem areSets_f (s0 : Int) (fs : List S44) (rs : List S46) (l : List Int) (h : l.length ≤ 140737488355328) : v_areSets.f s0 fs rs l = some (setsB s0 l) := by
 unfold v_areSets.f
 rw [if_pos h]
theorem fits_j4 (s0 : Int) (fs : List S44) (rs : List S46) (x : S46) (hx : x.f8.length ≤ 140737488355328) (k : Nat) :
  v_fits.j4 (k + 1) (isM x.f6) x.f0 x.f1 x.f2 x.f3 x.f4 x.f5 x.f6 x.f7 x.f8 s0 fs rs = some (callB s0 x) := by
 rw [v_fits.j4, areSets_f s0 fs rs [x.f3, x.f5] (by simp), areSets_f s0 fs rs x.f8 hx]
 simp only [Option.bind_some]
 unfold callB
 cases isM x.f6
 ·rfl
 ·cases setsB s0 [x.f3, x.f5]
  ·rfl
  ·cases setsB s0 x.f8 <;> rfl
theorem fits_j2 (s0 : Int) (fs : List S44) (rs : List S46) (x : S46) (k : Nat) (b : Bool) :
  v_fits.j2 (k + 1) b x.f0 x.f1 x.f2 x.f3 x.f4 x.f5 x.f6 x.f7 x.f8 s0 fs rs = some (if b = true then setsB s0 [x.f3] else false) := by
 rw [v_fits.j2, areSets_f s0 fs rs [x.f3] (by simp)]
 simp only [Option.bind_some]
 cases b <;> rfl
theorem fits_j1 (s0 : Int) (fs : List S44) (rs : List S46) (x : S46) (hx : x.f8.length ≤ 140737488355328) (k : Nat) :
  v_fits.j1 (k + 3) (isM x.f6) x.f0 x.f1 x.f2 x.f3 x.f4 x.f5 x.f6 x.f7 x.f8 s0 fs rs = some (kindB s0 fs.length x) := by
 rw [v_fits.j1]
 unfold kindB
 by_cases h1 : x.f0 = 1
 ·rw [if_pos h1, if_pos h1]
 rw [if_neg h1, if_neg h1]
 by_cases h2 : x.f0 = 2
 ·rw [if_pos h2, if_pos h2]
  split <;> rfl
 rw [if_neg h2, if_neg h2]
 by_cases h8 : x.f0 = 8
 ·rw [if_pos h8, if_pos h8]
  by_cases hz : x.f4 = -1
  ·rw [if_pos hz, if_pos hz, v_fits.j3, if_neg (by decide)]
   exact fits_j4 s0 fs rs x hx k
  ·rw [if_neg hz, if_neg hz, areSets_f s0 fs rs [x.f4] (by simp)]
   simp only [Option.bind_some]
   cases hs : setsB s0 [x.f4]
   ·rw [v_fits.j3, if_pos (show (!false) = true from rfl), if_neg (by decide)]
   ·rw [v_fits.j3, if_neg (by decide), if_pos rfl]
    exact fits_j4 s0 fs rs x hx k
 rw [if_neg h8, if_neg h8]
 by_cases h9 : x.f0 = 9
 ·rw [if_pos h9, if_pos h9]
  exact fits_j4 s0 fs rs x hx (k + 1)
 rw [if_neg h9, if_neg h9]
 by_cases h3 : x.f0 = 3
 ·rw [if_pos h3, fits_j2, if_pos (by simp [h3]), if_pos (by omega)]
 rw [if_neg h3]
 by_cases h4 : x.f0 = 4
 ·rw [if_pos h4, fits_j2, if_pos (by simp [h4]), if_pos (by omega)]
 rw [if_neg h4]
 by_cases h5 : x.f0 = 5
 ·rw [if_pos h5, fits_j2, if_pos (by simp [h5]), if_pos (by omega)]
 rw [if_neg h5]
 by_cases h6 : x.f0 = 6
 ·rw [if_pos h6, fits_j2, if_pos (by simp [h6]), if_pos (by omega)]
 rw [if_neg h6, fits_j2]
 by_cases h7 : x.f0 = 7
 ·rw [if_pos (by simp [h7]), if_pos (by omega)]
 ·rw [if_neg (by simpa using h7), if_neg (by omega)]
theorem fits_tells (s0 : Int) (fs : List S44) (rs : List S46) (x : S46) (hx : x.f8.length ≤ 140737488355328) :
  v_fits.f 4 x.f0 x.f1 x.f2 x.f3 x.f4 x.f5 x.f6 x.f7 x.f8 s0 fs rs = some (fitsB s0 fs.length x) := by
 unfold v_fits.f fitsB
 by_cases h1 : x.f1 < 0
 ·rw [if_pos h1, if_pos h1, v_fits.j0, if_pos rfl]
 rw [if_neg h1, if_neg h1]
 by_cases h2 : x.f1 ≥ (fs.length : Int)
 ·rw [if_pos h2, if_pos h2, v_fits.j0, if_pos rfl]
 rw [if_neg h2, if_neg h2, areSets_f s0 fs rs [x.f2] (by simp)]
 simp only [Option.bind_some]
 cases hs : setsB s0 [x.f2]
 ·rw [v_fits.j0, if_pos (show (!false) = true from rfl), if_neg (by decide)]
 ·rw [v_fits.j0, if_neg (by decide), if_pos rfl, ← fits_j1 s0 fs rs x hx 0]
  unfold isM
  split <;> rfl
/-! ### Right -/
def funB (s0 : Int) (i : Nat) (f : S44) : Bool :=
 decide ((f.f1.length : Int) ≤ 200) && (setsB s0 f.f1 && (setsB s0 [f.f2, f.f3, f.f4] && (decide (i = 0) || (decide (4 ≤ f.f0) && decide (f.f0 < 1000000)))))
def funsB (s0 : Int) (fs : List S44) : Bool := (List.range fs.length).all (fun i => funB s0 i (rd_T44 fs (i : Int)))
def rightB (s0 : Int) (fs : List S44) (rs : List S46) : Bool :=
 decide (9 ≤ s0 ∧ s0 ≤ 100000 ∧ 0 < fs.length) && (funsB s0 fs && !(rs.any (fun x => !fitsB s0 fs.length x)))
theorem right1_calls (s0 : Int) (fs : List S44) (rs : List S46) {A1 A2 : Option Addr} {c1 c2 : Nat} (b : Nat) (x : S46) (A : Option Addr) (c : Nat) (w : World)
  (hf : Kd.C k44 w A1 fs.length fs) (hfc : fs.length ≤ c1) (hr : Kd.C k46 w A2 rs.length rs) (hrc : rs.length ≤ c2) (hx : Kd.C (Kd.int .i64) w A x.f8.length x.f8) (hxc : x.f8.length ≤ c) (hxl : x.f8.length ≤ 140737488355328)
  (h : w.heap[b]? = some (.cells #[.int .i64 s0, .slice A1 fs.length c1, .slice A2 rs.length c2] 25 (0, 0))) :
  Calls Try.prog 48 #[.agg #[.int .i64 x.f0, .int .i64 x.f1, .int .i64 x.f2, .int .i64 x.f3, .int .i64 x.f4, .int .i64 x.f5, .int .i64 x.f6, .string x.f7, .slice A x.f8.length c], .pointer (some ⟨b, 0, none⟩)] w fun e w' => e = .returned (.bool (!fitsB s0 fs.length x)) ∧ Below w.heap.size w w' := by
 obtain ⟨x0, x1, x2, x3, x4, x5, x6, x7, x8⟩ := x
 obtain ⟨Wb, hWb⟩ : ∃ Wb, Wb = w.alloc (.cells #[.int .i64 x0, .int .i64 x1, .int .i64 x2, .int .i64 x3, .int .i64 x4, .int .i64 x5, .int .i64 x6, .string x7, .slice A x8.length c] 46) := ⟨_, rfl⟩
 have hb : Below w.heap.size w Wb := by rw [hWb]; exact below_alloc (Below.refl _ w) _
 have hlt : b < w.heap.size := (Array.getElem?_eq_some_iff.1 h).1
 have hbk : Wb.heap[b]? = some (.cells #[.int .i64 s0, .slice A1 fs.length c1, .slice A2 rs.length c2] 25 (0, 0)) := (hb.block _ hlt).trans h
 have d0 : Wb.cell? ⟨b, 0, none⟩ = some (.int .i64 s0) := by simp [World.cell?, hbk]
 have d1 : Wb.cell? ⟨b, 1, none⟩ = some (.slice A1 fs.length c1) := by simp [World.cell?, hbk]
 have d2 : Wb.cell? ⟨b, 2, none⟩ = some (.slice A2 rs.length c2) := by simp [World.cell?, hbk]
 have HI := zm (v_fits.calls 4 x0 x1 x2 x3 x4 x5 x6 x7 A c x8 s0 A1 c1 fs A2 c2 rs _ Wb (Kd.C_below hx hb) hxc (Kd.C_below hf hb) hfc (Kd.C_below hr hb) hrc (fits_tells s0 fs rs ⟨x0, x1, x2, x3, x4, x5, x6, x7, x8⟩ hxl))
 have HB := zm hb
 rw [hWb] at d0 d1 d2
 have HWB := zm hWb
 clear hb hlt hbk hx hf hr h hWb
 go_enter Try.func48, Try.ntmps48
 go_wp2_with fail
 rw [← HWB.out]
 refine HI.out.mono ?_
 rintro e w1 ⟨rfl, hb1⟩
 have HB1 := zm (below_step HB.out hb1)
 clear d0 d1 d2 hb1 HI
 go_wp2
 go_ret
 exact ⟨rfl, HB1.out⟩
end Go.Proofs.Ytngppcmdaanheaa.Ls
namespace Go.Proofs.Ytngppcmdaanheaa.Ls
open Go.RowKit Go.Maps Go.Proofs.Ytngppcmdaanheaa.Iter Go.Proofs.Ytngppcmdaanheaa.ISet Go.Proofs.Ytngppcmdaanheaa.Pr Go.Proofs.Ytngppcmdaanheaa.Ext Go.Proofs.YtngppcmdaanheaaW.PrintWords Go.Proofs.YtngppcmdaanheaaW.PrintLast Go.Proofs.YtngppcmdaanheaaW.PrintMore
set_option linter.unusedVariables false
set_option linter.unusedSimpArgs false
def FunCells (W : World) (b : Nat) (f0 : Int) (A : Option Addr) (n c : Nat) (f2 f3 f4 : Int) : Prop :=
  W.cell? ⟨b, 0, none⟩ = some (.int .i64 f0) ∧ W.cell? ⟨b, 1, none⟩ = some (.slice A n c) ∧ W.cell? ⟨b, 2, none⟩ = some (.int .i64 f2) ∧ W.cell? ⟨b, 3, none⟩ = some (.int .i64 f3) ∧ W.cell? ⟨b, 4, none⟩ = some (.int .i64 f4)
theorem C_three {W : World} {g : Nat} {x y z : Int} (h : W.heap[g]? = some (.cells #[.int .i64 x, .int .i64 y, .int .i64 z] 3 (0, 0))) : Kd.C (Kd.int .i64) W (some ⟨g, 0, none⟩) [x, y, z].length [x, y, z] := by
  have c0 : W.cell? ⟨g, 0, none⟩ = some (.int .i64 x) := by simp [World.cell?, h]
  have c1 : W.cell? ⟨g, 1, none⟩ = some (.int .i64 y) := by simp [World.cell?, h]
  have c2 : W.cell? ⟨g, 2, none⟩ = some (.int .i64 z) := by simp [World.cell?, h]
  refine ⟨rfl, by simp, fun _ => ⟨⟨g, 0, none⟩, rfl, fun j p hp => ?_⟩⟩
  match j, hp with
  | 0, hp =>
    obtain rfl : x = p := by simpa using hp
    exact ⟨[.int .i64 x], rfl, rfl, fun i u hu => by
      match i, hu with
      | 0, hu => obtain rfl : Value.int .i64 x = u := by simpa using hu
                 simpa [Addr.add] using c0
      | i + 1, hu => simp at hu⟩
  | 1, hp =>
    obtain rfl : y = p := by simpa using hp
    exact ⟨[.int .i64 y], rfl, rfl, fun i u hu => by
      match i, hu with
      | 0, hu => obtain rfl : Value.int .i64 y = u := by simpa using hu
                 exact c1
      | i + 1, hu => simp at hu⟩
  | 2, hp =>
    obtain rfl : z = p := by simpa using hp
    exact ⟨[.int .i64 z], rfl, rfl, fun i u hu => by
      match i, hu with
      | 0, hu => obtain rfl : Value.int .i64 z = u := by simpa using hu
                 exact c2
      | i + 1, hu => simp at hu⟩
  | j + 3, hp => simp at hp
theorem funsB_false {s0 : Int} {fs : List S44} {k : Nat} (hk : k < fs.length) (h : funB s0 k (rd_T44 fs (k : Int)) = false) : funsB s0 fs = false := by
  unfold funsB
  rw [List.all_eq_false]
  exact ⟨k, List.mem_range.2 hk, by simp [h]⟩
theorem funsB_true {s0 : Int} {fs : List S44} (h : ∀ k, k < fs.length → funB s0 k (rd_T44 fs (k : Int)) = true) : funsB s0 fs = true := by
  unfold funsB
  rw [List.all_eq_true]
  intro k hk
  exact h k (List.mem_range.1 hk)
theorem rightB_no {s0 : Int} {fs : List S44} {rs : List S46} (h : ¬ (9 ≤ s0 ∧ s0 ≤ 100000 ∧ 0 < fs.length)) : rightB s0 fs rs = false := by
  unfold rightB
  rw [decide_eq_false h]
  rfl
theorem rightB_funs {s0 : Int} {fs : List S44} {rs : List S46} (h : funsB s0 fs = false) : rightB s0 fs rs = false := by
  unfold rightB
  rw [h]
  simp
set_option maxHeartbeats 8000000 in
set_option maxRecDepth 100000 in
theorem right_calls {s0 : Int} {fs : List S44} {rs : List S46} {A1 A2 : Option Addr} {c1 c2 : Nat} (w : World)
    (hf : Kd.C k44 w A1 fs.length fs) (hfc : fs.length ≤ c1) (hr : Kd.C k46 w A2 rs.length rs) (hrc : rs.length ≤ c2) (hfl : ∀ f ∈ fs, f.f1.length ≤ 1000000) (hrl : ∀ x ∈ rs, x.f8.length ≤ 1000000) (hrn : rs.length ≤ 1000000) :
    Calls Try.prog 32 #[.agg #[.int .i64 s0, .slice A1 fs.length c1, .slice A2 rs.length c2]] w fun e w' => e = .returned (.bool (rightB s0 fs rs)) ∧ Below w.heap.size w w' := by
  obtain ⟨Wb, hWb⟩ : ∃ Wb, Wb = w.alloc (.cells #[.int .i64 s0, .slice A1 fs.length c1, .slice A2 rs.length c2] 25) := ⟨_, rfl⟩
  have hb : Below w.heap.size w Wb := by rw [hWb]; exact below_alloc (Below.refl _ w) _
  have hbk : Wb.heap[w.heap.size]? = some (.cells #[.int .i64 s0, .slice A1 fs.length c1, .slice A2 rs.length c2] 25 (0, 0)) := by rw [hWb]; exact heap_alloc_new _ _
  have hbl : w.heap.size < Wb.heap.size := by rw [hWb]; simp
  have HSY := zm (show ∀ W', Below Wb.heap.size Wb W' → W'.heap[w.heap.size]? = some (.cells #[.int .i64 s0, .slice A1 fs.length c1, .slice A2 rs.length c2] 25 (0, 0)) from fun W' h => (h.block _ hbl).trans hbk)
  have HSC := zm (show ∀ W', Below Wb.heap.size Wb W' → W'.cell? ⟨w.heap.size, 0, none⟩ = some (.int .i64 s0) ∧ W'.cell? ⟨w.heap.size, 1, none⟩ = some (.slice A1 fs.length c1) ∧ W'.cell? ⟨w.heap.size, 2, none⟩ = some (.slice A2 rs.length c2) from fun W' h => by
    have h1 := (h.block _ hbl).trans hbk
    simp [World.cell?, h1])
  have HF := zm (show ∀ W', Below Wb.heap.size Wb W' → Kd.C k44 W' A1 fs.length fs from fun W' h => Kd.C_below hf (below_step hb h))
  have HR := zm (show ∀ W', Below Wb.heap.size Wb W' → Kd.C k46 W' A2 rs.length rs from fun W' h => Kd.C_below hr (below_step hb h))
  have hfm : fs.length ≤ 9223372036854775807 := hf.2.1
  have HFL := zm hfl
  have HRL := zm hrl
  have HBB := zm hb
  obtain ⟨d0, d1, d2⟩ := HSC.out Wb (Below.refl _ _)
  rw [hWb] at d0 d1 d2
  have HWB := zm hWb
  clear hf hr hb hbk hbl hfl hrl hWb
  by_cases hA : s0 < 9
  · have HN := zm (rightB_no (rs := rs) (fun h : 9 ≤ s0 ∧ s0 ≤ 100000 ∧ 0 < fs.length => absurd h.1 (by omega)))
    have g1 : decide (s0 < 9) = true := decide_eq_true hA
    go_enter Try.func32, Try.ntmps32
    go_wp2
    go_ret
    rw [HN.out]
    exact ⟨rfl, below_alloc (Below.refl _ w) _⟩
  have g1 : decide (s0 < 9) = false := decide_eq_false hA
  by_cases hB : s0 > 100000
  · have HN := zm (rightB_no (rs := rs) (fun h : 9 ≤ s0 ∧ s0 ≤ 100000 ∧ 0 < fs.length => absurd h.2.1 (by omega)))
    have g2 : decide (s0 > 100000) = true := decide_eq_true hB
    go_enter Try.func32, Try.ntmps32
    go_wp2
    go_ret
    rw [HN.out]
    exact ⟨rfl, below_alloc (Below.refl _ w) _⟩
  have g2 : decide (s0 > 100000) = false := decide_eq_false hB
  by_cases hC : fs.length = 0
  · have HN := zm (rightB_no (rs := rs) (fun h : 9 ≤ s0 ∧ s0 ≤ 100000 ∧ 0 < fs.length => absurd h.2.2 (by omega)))
    have g3 : ((fs.length : Int) == 0) = true := by simp [hC]
    go_enter Try.func32, Try.ntmps32
    go_wp2
    go_ret
    rw [HN.out]
    exact ⟨rfl, below_alloc (Below.refl _ w) _⟩
  have g3 : ((fs.length : Int) == 0) = false := by simp; intro h; rw [h] at hC; exact hC rfl
  have hok : 9 ≤ s0 ∧ s0 ≤ 100000 ∧ 0 < fs.length := ⟨by omega, by omega, by omega⟩
  have HOK := zm hok
  clear hA hB hC hok
  go_enter Try.func32, Try.ntmps32
  go_wp2
  rw [← HWB.out]
  clear d0 d1 d2 g1 g2 g3
  go_loopg [22] fs.length (fun kq v22 W_ => ∃ k : Nat, v22 = .int .i64 k ∧ k + kq = fs.length ∧ (∀ i, i < k → funB s0 i (rd_T44 fs (i : Int)) = true) ∧ Below Wb.heap.size Wb W_)
  case atStart => exact ⟨0, rfl, by omega, fun i h => absurd h (Nat.not_lt_zero _), Below.refl _ _⟩
  case round =>
    obtain ⟨k, rfl, hk, hall, hb⟩ := hrel
    have HALL := zm hall
    have HB := zm hb
    clear hall hb
    by_cases hlt : k < fs.length
    · obtain ⟨ad, A1_, c1_, rfl, hd0, hd1, hd2, hd3, hd4, hpl, hpc⟩ := at_T44 (HF.out _ HB.out) (k : Int) (by omega) (by omega)
      rw [Int.toNat_natCast] at hd0 hd1 hd2 hd3 hd4
      have HFU := zm (show funB s0 k (rd_T44 fs (k : Int)) = funB s0 k (rd_T44 fs (k : Int)) from rfl)
      have HNO := zm (fun h => rightB_funs (rs := rs) (funsB_false (s0 := s0) hlt h))
      have HST := zm (show funB s0 k (rd_T44 fs (k : Int)) = true → ∀ i, i < k + 1 → funB s0 i (rd_T44 fs (i : Int)) = true from fun h i hi => by
        rcases Nat.lt_or_eq_of_le (Nat.le_of_lt_succ hi) with h1 | h1
        · exact HALL.out i h1
        · rw [h1]; exact h)
      have hm : (rd_T44 fs (k : Int)).f1.length ≤ 1000000 := HFL.out _ (by
        unfold rd_T44
        rw [Int.toNat_natCast, List.getD_eq_getElem?_getD, List.getElem?_eq_getElem hlt]
        exact List.getElem_mem hlt)
      clear HFU
      generalize rd_T44 fs (k : Int) = f at *
      obtain ⟨f0, f1, f2, f3, f4⟩ := f
      dsimp only at hd0 hd1 hd2 hd3 hd4 hpl hpc hm
      obtain ⟨Wf, hWf⟩ : ∃ Wf, Wf = wr.alloc (.cells #[.int .i64 f0, .slice A1_ f1.length c1_, .int .i64 f2, .int .i64 f3, .int .i64 f4] 44) := ⟨_, rfl⟩
      have hbf : Below wr.heap.size wr Wf := by rw [hWf]; exact below_alloc (Below.refl _ wr) _
      have hnf : Wf.heap[wr.heap.size]? = some (.cells #[.int .i64 f0, .slice A1_ f1.length c1_, .int .i64 f2, .int .i64 f3, .int .i64 f4] 44 (0, 0)) := by rw [hWf]; exact heap_alloc_new _ _
      have hfl : wr.heap.size < Wf.heap.size := by rw [hWf]; simp
      have HFC := zm (show ∀ W', Below Wf.heap.size Wf W' → FunCells W' wr.heap.size f0 A1_ f1.length c1_ f2 f3 f4 from fun W' h => by
        have h1 := (h.block _ hfl).trans hnf
        simp [FunCells, World.cell?, h1])
      have HBF := zm (below_step HB.out hbf)
      have HPC := zm (Kd.C_below hpc hbf)
      have HPL := zm hpl
      have HWF := zm hWf
      obtain ⟨y0, y1, y2, y3, y4⟩ := HFC.out Wf (Below.refl _ _)
      obtain ⟨d0, d1, d2⟩ := HSC.out Wf HBF.out
      rw [hWf] at y0 y1 y2 y3 y4 d0 d1 d2
      clear hWf hbf hnf hfl hpl hpc
      by_cases h1 : (f1.length : Int) > 200
      · have g1 : decide ((f1.length : Int) > 200) = true := decide_eq_true h1
        have HN := zm (HNO.out (by unfold funB; rw [decide_eq_false (by dsimp only; omega)]; rfl))
        go_wp2
        go_ret
        rw [HN.out]
        exact ⟨rfl, by rw [← HWF.out]; exact below_step HBB.out HBF.out⟩
      have g1 : decide ((f1.length : Int) > 200) = false := decide_eq_false h1
      have l1 : decide ((f1.length : Int) ≤ 200) = true := decide_eq_true (by omega)
      have HI := zm (v_areSets.calls s0 (some ad) c1 fs A2 c2 rs A1_ c1_ f1 _ Wf (HF.out _ HBF.out) hfc (HR.out _ HBF.out) hrc HPC.out HPL.out (areSets_f s0 fs rs f1 (by omega)))
      go_wp2_with fail
      rw [← HWF.out]
      clear y0 y1 y2 y3 y4 d0 d1 d2 hd0 hd1 hd2 hd3 hd4
      refine HI.out.mono ?_
      rintro e W2 ⟨rfl, hb2⟩
      have HB2 := zm (below_step (Below.refl _ Wf) hb2)
      have HB2' := zm (below_step HBF.out hb2)
      clear hb2 HI
      cases hs1 : setsB s0 f1
      · have HN := zm (HNO.out (by unfold funB; dsimp only; rw [l1, hs1]; rfl))
        go_wp2
        go_ret
        rw [HN.out]
        exact ⟨rfl, below_step HBB.out HB2'.out⟩
      have hC3 := C_three (W := W2.alloc (.cells #[.int .i64 f2, .int .i64 f3, .int .i64 f4] 3)) (heap_alloc_new _ _)
      have HBA := zm (below_alloc HB2'.out (.cells #[.int .i64 f2, .int .i64 f3, .int .i64 f4] 3))
      have HI := zm (v_areSets.calls s0 (some ad) c1 fs A2 c2 rs (some ⟨W2.heap.size, 0, none⟩) 3 [f2, f3, f4] _ _ (HF.out _ HBA.out) hfc (HR.out _ HBA.out) hrc hC3 (by simp) (areSets_f s0 fs rs [f2, f3, f4] (by simp)))
      clear hC3
      obtain ⟨y0, y1, y2, y3, y4⟩ := HFC.out W2 HB2.out
      obtain ⟨d0, d1, d2⟩ := HSC.out W2 HB2'.out
      go_wp2_with fail
      clear y0 y1 y2 y3 y4 d0 d1 d2
      refine HI.out.mono ?_
      rintro e W3 ⟨rfl, hb3⟩
      have HB3 := zm (below_step (below_alloc HB2.out _) hb3)
      have HB3' := zm (below_step HBA.out hb3)
      clear hb3 HI
      cases hs2 : setsB s0 [f2, f3, f4]
      · have HN := zm (HNO.out (by unfold funB; dsimp only; rw [l1, hs1, hs2]; rfl))
        go_wp2
        go_ret
        rw [HN.out]
        exact ⟨rfl, below_step HBB.out HB3'.out⟩
      obtain ⟨y0, y1, y2, y3, y4⟩ := HFC.out W3 HB3.out
      by_cases hk0 : k = 0
      · have g4 : decide ((k : Int) > 0) = false := decide_eq_false (by omega)
        have HY := zm (HST.out (by unfold funB; dsimp only; rw [l1, hs1, hs2, decide_eq_true hk0]; rfl))
        go_wp2
        go_roundg (gk - 1)
        case measure => omega
        case rel => exact ⟨k + 1, by go_num, by omega, HY.out, HB3'.out⟩
      have g4 : decide ((k : Int) > 0) = true := decide_eq_true (by omega)
      by_cases hm4 : f0 < 4
      · have g5 : decide (f0 < 4) = true := decide_eq_true hm4
        have HN := zm (HNO.out (by unfold funB; dsimp only; rw [l1, hs1, hs2, decide_eq_false hk0, decide_eq_false (show ¬ 4 ≤ f0 by omega)]; rfl))
        go_wp2
        go_ret
        rw [HN.out]
        exact ⟨rfl, below_step HBB.out HB3'.out⟩
      have g5 : decide (f0 < 4) = false := decide_eq_false hm4
      by_cases hm5 : f0 ≥ 1000000
      · have g6 : decide (f0 ≥ 1000000) = true := decide_eq_true hm5
        have HN := zm (HNO.out (by unfold funB; dsimp only; rw [l1, hs1, hs2, decide_eq_false hk0, decide_eq_true (show 4 ≤ f0 by omega), decide_eq_false (show ¬ f0 < 1000000 by omega)]; rfl))
        go_wp2
        go_ret
        rw [HN.out]
        exact ⟨rfl, below_step HBB.out HB3'.out⟩
      have g6 : decide (f0 ≥ 1000000) = false := decide_eq_false hm5
      have HY := zm (HST.out (by unfold funB; dsimp only; rw [l1, hs1, hs2, decide_eq_false hk0, decide_eq_true (show 4 ≤ f0 by omega), decide_eq_true (show f0 < 1000000 by omega)]; rfl))
      go_wp2
      go_roundg (gk - 1)
      case measure => omega
      case rel => exact ⟨k + 1, by go_num, by omega, HY.out, HB3'.out⟩
    · obtain rfl : k = fs.length := by omega
      have HFB := zm (funsB_true HALL.out)
      obtain ⟨d0, d1, d2⟩ := HSC.out wr HB.out
      have HI := zm (containsU (.func (.func 48) #[] #[.pointer (some ⟨w.heap.size, 0, none⟩)]) (fun x => !fitsB s0 fs.length x) A2 c2 rs wr
        ⟨_, _, rfl, (enters_of Try.func48 (by kernel_rfl) rfl), fun W' hb' x A c hx hA hc => right1_calls s0 fs rs _ x A c W' (HF.out _ (below_step HB.out hb')) hfc (HR.out _ (below_step HB.out hb')) hrc hA hc (Nat.le_trans (HRL.out x hx) (by decide)) (HSY.out _ (below_step HB.out hb'))⟩
        (HR.out _ HB.out) hrc (by omega))
      go_wp2_with fail
      clear d0 d1 d2
      refine HI.out.mono ?_
      rintro e W2 ⟨rfl, hb2⟩
      have HB2 := zm (below_step HB.out hb2)
      clear hb2 HI
      have HRT := zm (show rightB s0 fs rs = !(rs.any (fun x => !fitsB s0 fs.length x)) by unfold rightB; rw [decide_eq_true HOK.out, HFB.out]; rfl)
      generalize rs.any (fun x => !fitsB s0 fs.length x) = q at *
      go_wp2
      go_ret
      rw [HRT.out]
      exact ⟨rfl, below_step HBB.out HB2.out⟩
end Go.Proofs.Ytngppcmdaanheaa.Ls
/- least.Within. No condition. -/
namespace Go.Proofs.Ytngppcmdaanheaa.Ls
open Go.RowKit Go.Maps Go.Proofs.Ytngppcmdaanheaa.Iter Go.Proofs.Ytngppcmdaanheaa.ISet Go.Proofs.Ytngppcmdaanheaa.Pr Go.Proofs.Ytngppcmdaanheaa.Ext Go.Proofs.YtngppcmdaanheaaW.PrintWords Go.Proofs.YtngppcmdaanheaaW.PrintLast Go.Proofs.YtngppcmdaanheaaW.PrintMore
set_option linter.unusedVariables false
set_option linter.unusedSimpArgs false
def withinB (a b : List Fa) : Bool := !(a.any (fun f => !decide (f ∈ b)))
theorem within1_calls (b : List Fa) {g m n : Nat} (f : Fa) (hf : wfF f) (w : World) (hg : w.cell? ⟨g, 0, none⟩ = some (.map (some m))) (hm : FSet w m n (fun f => decide (f ∈ b))) :
    Calls Try.prog 35 #[.agg #[.int .i64 f.f0, .int .i64 f.f1, .string f.f2, .int .i64 f.f3], .pointer (some ⟨g, 0, none⟩)] w fun e w' => e = .returned (.bool (!decide (f ∈ b))) ∧ Below w.heap.size w w' := by
  obtain ⟨f0, f1, f2, f3⟩ := f
  obtain ⟨Wb, hWb⟩ : ∃ Wb, Wb = w.alloc (.cells #[.int .i64 f0, .int .i64 f1, .string f2, .int .i64 f3] 41) := ⟨_, rfl⟩
  have hb : Below w.heap.size w Wb := by rw [hWb]; exact below_alloc (Below.refl _ w) _
  have hg1 : Wb.cell? ⟨g, 0, none⟩ = some (.map (some m)) := by
    rw [hb.cell (by have := World.block_lt_of_cell? w _ hg; simpa using this)]
    exact hg
  have hlook := (hm.chg (Chg.of_below hb (fun _ => False)) (fun e => e)).look ⟨f0, f1, f2, f3⟩ hf
  dsimp only [aggF] at hlook
  rw [hWb] at hg1 hlook
  have HB := Aside0.mk hb
  have HWB := Aside0.mk hWb
  clear hm hg hb hWb
  go_enter Try.func35, Try.ntmps35
  go_wp2
  go_ret
  exact ⟨rfl, by rw [← HWB.out]; exact HB.out⟩
set_option maxHeartbeats 4000000 in
set_option maxRecDepth 100000 in
theorem within_calls {A1 A2 : Option Addr} {c1 c2 : Nat} {a b : List Fa} (w : World) (ha : Kd.C k41 w A1 a.length a) (hac : a.length ≤ c1) (hb : Kd.C k41 w A2 b.length b) (hbc : b.length ≤ c2)
    (hwa : ∀ f ∈ a, wfF f) (hwb : ∀ f ∈ b, wfF f) (hal : a.length ≤ 1000000000000) (hbl : b.length ≤ 1000000000000) :
    Calls Try.prog 18 #[.slice A1 a.length c1, .slice A2 b.length c2] w fun e w' => e = .returned (.bool (withinB a b)) ∧ Below w.heap.size w w' := by
  have hmk : ∀ W : World, (Instr.makeMap 61 none).run Try.prog W = .ok (.map (some W.heap.size)) (W.alloc (.map #[] 0)) := fun _ => rfl
  obtain ⟨m, hm⟩ : ∃ m, m = w.heap.size := ⟨_, rfl⟩
  have HM := Aside0.mk hm
  obtain ⟨Wb, hWb⟩ : ∃ Wb, Wb = (w.alloc (.map #[] 0)).alloc (.cells #[.map (some w.heap.size)] 61) := ⟨_, rfl⟩
  have hbb : Below w.heap.size w Wb := by rw [hWb]; exact below_alloc (below_alloc (Below.refl _ w) _) _
  have hM0 : FSet Wb m 0 (fun _ => false) := by
    have h1 := FSet.made w
    have h2 := h1.chg ((Chg.refl (fun _ => False) _).alloc (.cells #[.map (some w.heap.size)] 61)) (fun e => e)
    rw [hm, hWb]
    exact h2
  have hn1 : Wb.heap[w.heap.size + 1]? = some (.cells #[.map (some w.heap.size)] 61 (0, 0)) := by rw [hWb]; simp only [alloc_at, World.size_alloc]; simp (disch := omega) [if_pos, if_neg]
  have hc1 : Wb.cell? ⟨w.heap.size + 1, 0, none⟩ = some (.map (some m)) := by rw [hm]; exact (cell_of_blk hn1).1
  have HBX := Aside0.mk (show ∀ W', Chg (fun i => i = m) Wb W' → W'.cell? ⟨w.heap.size + 1, 0, none⟩ = some (.map (some m)) from fun W' hc => cell_map hM0 hc hc1)
  have HCB := Aside0.mk (show ∀ W', Chg (fun i => i = m) Wb W' → Below w.heap.size w W' from fun W' hc => hbb.trans (hc.below hbb.size (fun i hi => by subst hi; rw [hm]; exact Nat.le_refl _)))
  have HB2 := Aside0.mk (show ∀ W', Below w.heap.size w W' → Kd.C k41 W' A2 b.length b from fun W' h => Kd.C_below hb h)
  have HA := Aside0.mk (show ∀ W', Below w.heap.size w W' → Kd.C k41 W' A1 a.length a from fun W' h => Kd.C_below ha h)
  have HM0 := Aside0.mk hM0
  have HWA := Aside0.mk hwa
  have HWBF := Aside0.mk hwb
  have hb9 : b.length ≤ 9223372036854775807 := hb.2.1
  have HWB := Aside0.mk hWb
  clear ha hb hwa hwb hbb hM0 hn1 hc1 hWb hm
  go_enter Try.func18, Try.ntmps18
  go_wp2
  rw [← HWB.out]
  clear hmk
  go_loopg [11] b.length (fun kq v11 W_ => ∃ k : Nat, v11 = .int .i64 k ∧ k + kq = b.length ∧ FSet W_ m k (fun f => decide (f ∈ b.take k)) ∧ Chg (fun i => i = m) Wb W_)
  case atStart => exact ⟨0, rfl, by omega, HM0.out.same (fun f _ => by simp), Chg.refl _ _⟩
  case round =>
    obtain ⟨k, rfl, hk, hst, hch⟩ := hrel
    have HST := Aside0.mk hst
    have HCH := Aside0.mk hch
    clear hst hch
    by_cases hlt : k < b.length
    · obtain ⟨ad, rfl, hd0, hd1, hd2, hd3⟩ := at_T41 (HB2.out _ (HCB.out _ HCH.out)) (k : Int) (by omega) (by omega)
      rw [Int.toNat_natCast] at hd0 hd1 hd2 hd3
      have hx' : rd_T41 b (k : Int) = b[k] := by unfold rd_T41; rw [Int.toNat_natCast, List.getD_eq_getElem?_getD, List.getElem?_eq_getElem hlt]; rfl
      have HTK := Aside0.mk (show b.take (k + 1) = b.take k ++ [rd_T41 b (k : Int)] by rw [hx', List.take_succ_eq_append_getElem hlt])
      have hwx : wfF (rd_T41 b (k : Int)) := HWBF.out _ (by rw [hx']; exact List.getElem_mem _)
      clear hx'
      generalize rd_T41 b (k : Int) = f at *
      obtain ⟨f0, f1, f2, f3⟩ := f
      dsimp only at hd0 hd1 hd2 hd3
      obtain ⟨Wf, hWf⟩ : ∃ Wf, Wf = wr.alloc (.cells #[.int .i64 f0, .int .i64 f1, .string f2, .int .i64 f3] 41) := ⟨_, rfl⟩
      have hbf : Below wr.heap.size wr Wf := by rw [hWf]; exact below_alloc (Below.refl _ wr) _
      have hstf := HST.out.chg (Chg.of_below hbf (fun _ => False)) (fun e => e)
      have hchf := HCH.out.then_below hbf
      have hbx := HBX.out Wf hchf
      have hnf : Wf.heap[wr.heap.size]? = some (.cells #[.int .i64 f0, .int .i64 f1, .string f2, .int .i64 f3] 41 (0, 0)) := by rw [hWf]; exact heap_alloc_new _ _
      obtain ⟨W2, hput, hst2, hch2⟩ := hstf.put (by simp only [maxLen]; omega) ⟨f0, f1, f2, f3⟩ hwx
      have HG := Aside0.mk (show FSet W2 m (k + 1) (fun g => decide (g ∈ b.take (k + 1))) ∧ Chg (fun i => i = m) Wb W2 from ⟨hst2.same (fun g _ => by
        rw [HTK.out]
        simp only [List.mem_append, List.mem_singleton, Bool.decide_or]
        cases decide (g = ⟨f0, f1, f2, f3⟩) <;> simp), hchf.then_ hch2⟩)
      dsimp only [aggF] at hput
      rw [hWf] at hput hbx
      clear hst2 hch2 hwx hstf hchf hnf hbf hWf
      go_wp2
      go_roundg (gk - 1)
      case measure => omega
      case rel => exact ⟨k + 1, by go_num, by omega, HG.out.1, HG.out.2⟩
    · obtain rfl : k = b.length := by omega
      have hst := HST.out
      rw [List.take_length] at hst
      have HC := Aside0.mk (containsK (.func (.func 35) #[] #[.pointer (some ⟨w.heap.size + 1, 0, none⟩)]) (fun f => !decide (f ∈ b)) A1 c1 a wr
        ⟨_, _, rfl, (enters_of Try.func35 (by kernel_rfl) rfl), fun W' hb' f hf => within1_calls b f (HWA.out f hf) W' (HBX.out _ (HCH.out.then_below hb')) (hst.chg (Chg.of_below hb' (fun _ => False)) (fun e => e))⟩
        (HA.out _ (HCB.out _ HCH.out)) hac (by omega))
      clear hst
      go_wp2_with fail
      refine HC.out.mono ?_
      rintro e W2 ⟨rfl, hb2⟩
      have HBE := Aside0.mk (below_step (HCB.out _ HCH.out) hb2)
      clear hb2 HC
      have HE := Aside0.mk (show withinB a b = !(a.any (fun f => !decide (f ∈ b))) from rfl)
      generalize a.any (fun f => !decide (f ∈ b)) = q at *
      go_wp2
      go_ret
      rw [HE.out]
      exact ⟨rfl, HBE.out⟩
end Go.Proofs.Ytngppcmdaanheaa.Ls
namespace Go.Proofs.Ytngppcmdaanheaa.Ls
open Go.RowKit Go.Maps Go.Proofs.Ytngppcmdaanheaa.Iter Go.Proofs.Ytngppcmdaanheaa.ISet Go.Proofs.Ytngppcmdaanheaa.Pr Go.Proofs.Ytngppcmdaanheaa.Ext Go.Proofs.YtngppcmdaanheaaW.PrintWords Go.Proofs.YtngppcmdaanheaaW.PrintLast Go.Proofs.YtngppcmdaanheaaW.PrintMore
set_option linter.unusedVariables false
set_option linter.unusedSimpArgs false
def roC (s0 : Int) (fs : List S44) (rs : List S46) (l : List Fa) : Ro := ⟨0, s0, none, 0, fs, none, 0, rs, none, 0, l, 0⟩
def SmallS (s0 : Int) (fs : List S44) (rs : List S46) : Prop := (∀ f ∈ fs, f.f1.length ≤ 1000000) ∧ (∀ x ∈ rs, x.f8.length ≤ 1000000) ∧ rs.length ≤ 1000000
structure RoundOk (r : Ro) : Prop where
 good : Good 0 (roundL r)
 srt : r.l.Pairwise LF
 len : r.l.length ≤ 900000
 fun1 : 1 ≤ r.fs.length ∧ r.fs.length ≤ 1000000
 sets : 0 ≤ r.s0 ∧ r.s0 ≤ 1000000000
 mark : ∀ x ∈ r.rs, x.f0 = 2 → 0 ≤ x.f5 ∧ x.f5 < r.fs.length ∧ 0 ≤ markOf r x ∧ markOf r x ≤ 1000000
theorem roundL_roC (r : Ro) : roundL r = roundL (roC r.s0 r.fs r.rs r.l) := rfl
theorem RoundOk.of {r : Ro} (h : RoundOk (roC r.s0 r.fs r.rs r.l)) : RoundOk r := ⟨by rw [roundL_roC]; exact h.good, h.srt, h.len, h.fun1, h.sets, h.mark⟩
instance decWf (f : Fa) : Decidable (wfF f) := by unfold wfF; infer_instance
instance decLF (x y : Fa) : Decidable (LF x y) := by unfold LF SL; infer_instance
instance decSmall (s0 : Int) (fs : List S44) (rs : List S46) : Decidable (SmallS s0 fs rs) := by unfold SmallS; infer_instance
instance decGood (n : Nat) (L : List Fa) : Decidable (Ls.Good n L) := by unfold Ls.Good; infer_instance
def RoundP (r : Ro) : Prop := Good 0 (roundL r) ∧ r.l.Pairwise LF ∧ r.l.length ≤ 900000 ∧ (1 ≤ r.fs.length ∧ r.fs.length ≤ 1000000) ∧ (0 ≤ r.s0 ∧ r.s0 ≤ 1000000000) ∧ ∀ x ∈ r.rs, x.f0 = 2 → 0 ≤ x.f5 ∧ x.f5 < r.fs.length ∧ 0 ≤ markOf r x ∧ markOf r x ≤ 1000000
instance decRoundP (r : Ro) : Decidable (RoundP r) := by unfold RoundP; infer_instance
instance decRound (r : Ro) : Decidable (RoundOk r) := decidable_of_iff (RoundP r) ⟨fun ⟨a, b, c, d, e, f⟩ => ⟨a, b, c, d, e, f⟩, fun ⟨a, b, c, d, e, f⟩ => ⟨a, b, c, d, e, f⟩⟩
section
def v_Right.f (a0_0 : Int) (l0_1 : List S44) (l0_2 : List S46) : Option Bool := if SmallS a0_0 l0_1 l0_2 then some (rightB a0_0 l0_1 l0_2) else none
def e_Within.f (l0 l1 : List Fa) : Option Bool := if (∀ f ∈ l0, wfF f) ∧ (∀ f ∈ l1, wfF f) ∧ l0.length ≤ 1000000000000 ∧ l1.length ≤ 1000000000000 then some (withinB l0 l1) else none
def e_round.f (a0_0 : Int) (l0_1 : List S44) (l0_2 : List S46) (l1 : List Fa) : Option (List Fa) := if RoundOk (roC a0_0 l0_1 l0_2 l1) then some (factSet (roundL (roC a0_0 l0_1 l0_2 l1))) else none
theorem v_Right.calls (a0_0 : Int) (A0_1 : Option Addr) (c0_1 : Nat) (l0_1 : List S44) (A0_2 : Option Addr) (c0_2 : Nat) (l0_2 : List S46) (r : Bool) (w : World)
  (hr0_1 : Kd.C k44 w A0_1 l0_1.length l0_1) (hc0_1 : l0_1.length ≤ c0_1) (hr0_2 : Kd.C k46 w A0_2 l0_2.length l0_2) (hc0_2 : l0_2.length ≤ c0_2) (h : v_Right.f a0_0 l0_1 l0_2 = some r) :
  Calls Try.prog 32 #[.agg #[.int .i64 a0_0, .slice A0_1 l0_1.length c0_1, .slice A0_2 l0_2.length c0_2]] w fun e w' => e = .returned (.bool r) ∧ Below w.heap.size w w' := by
 unfold v_Right.f at h
 by_cases hs : SmallS a0_0 l0_1 l0_2
 ·rw [if_pos hs] at h
  obtain rfl : rightB a0_0 l0_1 l0_2 = r := by injection h
  exact right_calls w hr0_1 hc0_1 hr0_2 hc0_2 hs.1 hs.2.1 hs.2.2
 ·rw [if_neg hs] at h
  cases h
theorem e_Within.calls (A0 : Option Addr) (c0 : Nat) (l0 : List Fa) (A1 : Option Addr) (c1 : Nat) (l1 : List Fa) (r : Bool) (w : World) (hr0 : Kd.C k41 w A0 l0.length l0) (hc0 : l0.length ≤ c0) (hr1 : Kd.C k41 w A1 l1.length l1) (hc1 : l1.length ≤ c1) (h : e_Within.f l0 l1 = some r) :
  Calls Try.prog 18 #[.slice A0 l0.length c0, .slice A1 l1.length c1] w fun e w' => e = .returned (.bool r) ∧ Below w.heap.size w w' := by
 unfold e_Within.f at h
 by_cases hs : (∀ f ∈ l0, wfF f) ∧ (∀ f ∈ l1, wfF f) ∧ l0.length ≤ 1000000000000 ∧ l1.length ≤ 1000000000000
 ·rw [if_pos hs] at h
  obtain rfl : withinB l0 l1 = r := by injection h
  exact within_calls w hr0 hc0 hr1 hc1 hs.1 hs.2.1 hs.2.2.1 hs.2.2.2
 ·rw [if_neg hs] at h
  cases h
theorem e_round.calls (a0_0 : Int) (A0_1 : Option Addr) (c0_1 : Nat) (l0_1 : List S44) (A0_2 : Option Addr) (c0_2 : Nat) (l0_2 : List S46) (A1 : Option Addr) (c1 : Nat) (l1 : List Fa) (r : List Fa) (w : World)
  (hr0_1 : Kd.C k44 w A0_1 l0_1.length l0_1) (hc0_1 : l0_1.length ≤ c0_1) (hr0_2 : Kd.C k46 w A0_2 l0_2.length l0_2) (hc0_2 : l0_2.length ≤ c0_2) (hr1 : Kd.C k41 w A1 l1.length l1) (hc1 : l1.length ≤ c1) (h : e_round.f a0_0 l0_1 l0_2 l1 = some r) :
  Calls Try.prog 21 #[.agg #[.int .i64 a0_0, .slice A0_1 l0_1.length c0_1, .slice A0_2 l0_2.length c0_2], .slice A1 l1.length c1] w fun e w' => ∃ v0_ : Value, e = .returned v0_ ∧ Kd.V k41 41 w' w.heap.size (fun k_ => w.heap.size ≤ k_) v0_ r ∧ Below w.heap.size w w' := by
 unfold e_round.f at h
 by_cases hs : RoundOk (roC a0_0 l0_1 l0_2 l1)
 ·rw [if_pos hs] at h
  obtain rfl : factSet (roundL (roC a0_0 l0_1 l0_2 l1)) = r := by injection h
  have hk : RoundOk (⟨w.heap.size + 2, a0_0, A0_1, c0_1, l0_1, A0_2, c0_2, l0_2, A1, c1, l1, w.heap.size + 1⟩ : Ro) := RoundOk.of hs
  refine (round_calls (r := ⟨w.heap.size + 2, a0_0, A0_1, c0_1, l0_1, A0_2, c0_2, l0_2, A1, c1, l1, w.heap.size + 1⟩) rfl rfl hr0_1 hr0_2 hr1 hk.good hk.srt hk.len hk.fun1 hc0_1 hk.sets hk.mark).mono ?_
  rintro e w' ⟨v, rfl, hv, hb⟩
  refine ⟨v, rfl, hv.view ?_, hb⟩
  have h1 := factSet_rises (roundL (roC a0_0 l0_1 l0_2 l1))
  have hn : (factSet (roundL (roC a0_0 l0_1 l0_2 l1))).Nodup := h1.1.imp (fun {a b} hab e => by subst e; exact LF.irrefl _ hab)
  have h2 := hn.length_le_of_subset (fun x hx => (h1.2 x).1 hx)
  have h3 := hs.good.2
  rw [Nat.zero_add] at h3
  exact Nat.le_trans h2 h3
 ·rw [if_neg hs] at h
  cases h
end
end Go.Proofs.Ytngppcmdaanheaa.Ls
namespace Go.Proofs.Ytngppcmdaanheaa.Pr
open Go.RowKit Go.Proofs.YtngppcmdaanheaaW.PrintWords Go.Proofs.YtngppcmdaanheaaW.PrintLast Go.Proofs.YtngppcmdaanheaaW.PrintMore
attribute [local go_sem] max2_int min2_int max_two min_two
set_option linter.unusedVariables false
set_option linter.unusedSimpArgs false
/-! ### cmp_Or_int: function 61 -/
def cmp_Or_int.l0 : Nat → Int → List Int → Int → Int → Option (Int)
 | 0, _, _, _, _ => none
 | k + 1, x3, x6, x7, x8 => if x8 < x7 then (if 0 ≤ x8 then (if x8 < (x6.length : Int) then (if (rd x6 x8) = x3 then (cmp_Or_int.l0 k x3 x6 x7 (wrap64 (x8 + 1))) else (some (rd x6 x8))) else (none)) else (none)) else (some x3)
def cmp_Or_int.f (k : Nat) (l0 : List Int) : Option (Int) := cmp_Or_int.l0 k 0 l0 (l0.length : Int) 0
theorem cmp_Or_int.mono_l : ∀ k, (∀ y0 y1 y2 y3, LeO (cmp_Or_int.l0 k y0 y1 y2 y3) (cmp_Or_int.l0 (k + 1) y0 y1 y2 y3))
 | 0 => fun _ _ _ _ r h => by simp [cmp_Or_int.l0] at h
 | k + 1 => by
  have ih0 := cmp_Or_int.mono_l k
  ·intro y0 y1 y2 y3
   unfold cmp_Or_int.l0
   repeat' first
   | (with_reducible exact ih0 _ _ _ _)
   | (with_reducible exact LeO.refl _)
   | (with_reducible exact LeO.none _)
   | (with_reducible refine LeO.ite ?_ ?_)
   | (with_reducible refine LeO.bind ?_ (fun _ => ?_))
   | exact ih0 _ _ _ _
   | exact LeO.none _
   | refine LeO.ite ?_ ?_
   | refine LeO.bind ?_ (fun _ => ?_)
theorem cmp_Or_int.mono : ∀ a0 k, LeO (cmp_Or_int.f k a0) (cmp_Or_int.f (k + 1) a0) := by
 intro a0 k
 have ih0 := cmp_Or_int.mono_l k
 unfold cmp_Or_int.f
 repeat' first
   | (with_reducible exact ih0 _ _ _ _)
   | (with_reducible exact LeO.refl _)
   | (with_reducible exact LeO.none _)
   | (with_reducible refine LeO.ite ?_ ?_)
   | (with_reducible refine LeO.bind ?_ (fun _ => ?_))
   | exact ih0 _ _ _ _
   | exact LeO.none _
   | refine LeO.ite ?_ ?_
   | refine LeO.bind ?_ (fun _ => ?_)
set_option maxHeartbeats 8000000 in
set_option maxRecDepth 100000 in
theorem cmp_Or_int.calls (k : Nat) (A0 : Option Addr) (c0 : Nat) (l0 : List Int) (r : Int) (w : World) (hr0 : Kd.C (Kd.int .i64) w A0 l0.length l0) (hc0 : l0.length ≤ c0) (h : cmp_Or_int.f k l0 = some r) :
  Calls Try.prog 61 #[.slice A0 l0.length c0] w fun e w' => e = .returned (.int .i64 r) ∧ Drawn0 w w' := by
 have HR0 := zm hr0
 have HC0 := zm hc0
 clear hr0 hc0
 have H : (cmp_Or_int.l0 k 0 l0 (l0.length : Int) 0) = some r := h
 clear h
 have H' := zm H
 clear H
 go_enter Try.func61, Try.ntmps61
 go_wp2
 go_loopg [8] k (fun kq v8 w' => ∃ (x8_1 : Int), v8 = .int .i64 x8_1 ∧ Aside0 (cmp_Or_int.l0 kq 0 l0 (l0.length : Int) x8_1 = some r) ∧ Aside0 (kq ≤ k) ∧ Drawn0 w w')
 case atStart => exact ⟨(0), zR, H', ⟨Nat.le_refl _⟩, by repeat (first | exact Drawn0.refl _ | apply Drawn0.step)⟩
 case round =>
  clear H'
  obtain ⟨x8_1, rfl, HA, HK1, ⟨m1, rfl⟩⟩ := hrel
  cases gk with
  | zero => exact absurd HA.out (by simp [cmp_Or_int.l0])
  | succ k1 =>
   have H := HA.out
   clear HA
   simp only [cmp_Or_int.l0] at H
   by_cases c2 : x8_1 < (l0.length : Int)
   ·rw [if_pos c2] at H
    have c2b0 : decide (x8_1 < (l0.length : Int)) = true := decide_eq_true c2
    clear c2
    by_cases c3 : 0 ≤ x8_1
    ·rw [if_pos c3] at H
     have c3b0 : decide (0 ≤ x8_1) = true := decide_eq_true c3
     clear c3
     by_cases c4 : x8_1 < (l0.length : Int)
     ·rw [if_pos c4] at H
      have c4b0 : decide (x8_1 < (l0.length : Int)) = true := decide_eq_true c4
      clear c4
      by_cases c5 : (rd l0 x8_1) = 0
      ·rw [if_pos c5] at H
       have c5b0 : ((rd l0 x8_1) == 0) = true := beq_iff_eq.mpr c5
       have c5b1 : ((rd l0 x8_1) != 0) = false := bne_eq_false_iff_eq.mpr c5
       clear c5
       have H' := zm H
       clear H
       have p101 : 0 ≤ (x8_1 : Int) := of_decide_eq_true zA
       have q101 : x8_1 < (l0.length : Int) := of_decide_eq_true zA
       obtain ⟨ad101, e101, hx101_0⟩ := Kd.at_int HR0.out x8_1 p101 q101
       cases e101
       replace p101 := eq_true p101
       replace q101 := eq_true q101
       go_wp2
       go_roundg k1
       case measure => have := HK1.out; omega
       case rel => exact ⟨(wrap64 (x8_1 + 1)), zR, H', ⟨by have := HK1.out; omega⟩, by repeat (first | exact Drawn0.refl _ | apply Drawn0.step)⟩
      ·rw [if_neg c5] at H
       have c5b0 : ((rd l0 x8_1) == 0) = false := beq_eq_false_iff_ne.mpr c5
       have c5b1 : ((rd l0 x8_1) != 0) = true := bne_iff_ne.mpr c5
       obtain rfl := Option.some.inj H
       have p101 : 0 ≤ (x8_1 : Int) := of_decide_eq_true zA
       have q101 : x8_1 < (l0.length : Int) := of_decide_eq_true zA
       obtain ⟨ad101, e101, hx101_0⟩ := Kd.at_int HR0.out x8_1 p101 q101
       cases e101
       replace p101 := eq_true p101
       replace q101 := eq_true q101
       go_wp2
       go_ret
       exact ⟨zR, by repeat (first | exact Drawn0.refl _ | apply Drawn0.step)⟩
     ·rw [if_neg c4] at H
      exact absurd H (by simp)
    ·rw [if_neg c3] at H
     exact absurd H (by simp)
   ·rw [if_neg c2] at H
    have c2b0 : decide (x8_1 < (l0.length : Int)) = false := decide_eq_false c2
    clear c2
    obtain rfl := Option.some.inj H
    go_wp2
    go_ret
    exact ⟨zR, by repeat (first | exact Drawn0.refl _ | apply Drawn0.step)⟩
end Go.Proofs.Ytngppcmdaanheaa.Pr
namespace Go.Proofs.Ytngppcmdaanheaa.Pr
open Go.RowKit Go.Proofs.YtngppcmdaanheaaW.PrintWords Go.Proofs.YtngppcmdaanheaaW.PrintLast Go.Proofs.YtngppcmdaanheaaW.PrintMore
attribute [local go_sem] max2_int min2_int max_two min_two
set_option linter.unusedVariables false
set_option linter.unusedSimpArgs false
/-! ### cmp_isNaN_int: function 79 -/
def cmp_isNaN_int.f (a0 : Int) : Option (Bool) := some (a0 != a0)
set_option maxHeartbeats 8000000 in
set_option maxRecDepth 100000 in
theorem cmp_isNaN_int.calls (a0 : Int) (r : Bool) (w : World) (h : cmp_isNaN_int.f a0 = some r) :
  Calls Try.prog 79 #[.int .i64 a0] w fun e w' => e = .returned (.bool r) ∧ Drawn0 w w' := by
 have H : (some (a0 != a0)) = some r := h
 clear h
 obtain rfl := Option.some.inj H
 go_enter Try.func79, Try.ntmps79
 go_wp2
 go_ret
 exact ⟨zR, by repeat (first | exact Drawn0.refl _ | apply Drawn0.step)⟩
end Go.Proofs.Ytngppcmdaanheaa.Pr
namespace Go.Proofs.Ytngppcmdaanheaa.Pr
open Go.RowKit Go.Proofs.YtngppcmdaanheaaW.PrintWords Go.Proofs.YtngppcmdaanheaaW.PrintLast Go.Proofs.YtngppcmdaanheaaW.PrintMore
attribute [local go_sem] max2_int min2_int max_two min_two
set_option linter.unusedVariables false
set_option linter.unusedSimpArgs false
/-! ### cmp_Compare_int: function 62 -/
def cmp_Compare_int.f (a0 : Int) (a1 : Int) : Option (Int) := (cmp_isNaN_int.f a0).bind fun t102 => ((cmp_isNaN_int.f a1).bind fun t103 => (if t102 = true then (if t103 = true then (some 0) else (some (-1))) else (if t103 = true then (some 1) else (if a0 < a1 then (some (-1)) else (if a0 > a1 then (some 1) else (some 0))))))
set_option maxHeartbeats 8000000 in
set_option maxRecDepth 100000 in
theorem cmp_Compare_int.calls (a0 : Int) (a1 : Int) (r : Int) (w : World) (h : cmp_Compare_int.f a0 a1 = some r) :
  Calls Try.prog 62 #[.int .i64 a0, .int .i64 a1] w fun e w' => e = .returned (.int .i64 r) ∧ Drawn0 w w' := by
 have H : ((cmp_isNaN_int.f a0).bind fun t102 => ((cmp_isNaN_int.f a1).bind fun t103 => (if t102 = true then (if t103 = true then (some 0) else (some (-1))) else (if t103 = true then (some 1) else (if a0 < a1 then (some (-1)) else (if a0 > a1 then (some 1) else (some 0))))))) = some r := h
 clear h
 obtain ⟨t102, A3, H⟩ := zO H
 obtain ⟨t103, A4, H⟩ := zO H
 by_cases c5 : t102 = true
 ·subst c5
  rw [if_pos rfl] at H
  by_cases c6 : t103 = true
  ·subst c6
   rw [if_pos rfl] at H
   obtain rfl := Option.some.inj H
   go_enter Try.func62, Try.ntmps62
   go_wp2_with (first | ((with_reducible refine gate_callee (f := 79) rfl ?_); refine goesL_ (some 10) rfl rfl Try.func79 (by kernel_rfl) rfl #[.int .i64 a1] rfl zP ?_; (with_reducible refine (cmp_isNaN_int.calls a1 true _ A4.out).mono ?_); rintro e w' ⟨rfl, ⟨nd, rfl⟩⟩; refine ⟨_, rfl, ?_⟩) | ((with_reducible refine gate_callee (f := 79) rfl ?_); refine goesL_ (some 8) rfl rfl Try.func79 (by kernel_rfl) rfl #[.int .i64 a0] rfl zP ?_; (with_reducible refine (cmp_isNaN_int.calls a0 true _ A3.out).mono ?_); rintro e w' ⟨rfl, ⟨nd, rfl⟩⟩; refine ⟨_, rfl, ?_⟩))
   go_ret
   exact ⟨zR, by repeat (first | exact Drawn0.refl _ | apply Drawn0.step)⟩
  ·replace c6 := Bool.eq_false_iff.mpr c6
   subst c6
   rw [if_neg (show ¬ (false = true) by decide)] at H
   obtain rfl := Option.some.inj H
   go_enter Try.func62, Try.ntmps62
   go_wp2_with (first | ((with_reducible refine gate_callee (f := 79) rfl ?_); refine goesL_ (some 10) rfl rfl Try.func79 (by kernel_rfl) rfl #[.int .i64 a1] rfl zP ?_; (with_reducible refine (cmp_isNaN_int.calls a1 false _ A4.out).mono ?_); rintro e w' ⟨rfl, ⟨nd, rfl⟩⟩; refine ⟨_, rfl, ?_⟩) | ((with_reducible refine gate_callee (f := 79) rfl ?_); refine goesL_ (some 8) rfl rfl Try.func79 (by kernel_rfl) rfl #[.int .i64 a0] rfl zP ?_; (with_reducible refine (cmp_isNaN_int.calls a0 true _ A3.out).mono ?_); rintro e w' ⟨rfl, ⟨nd, rfl⟩⟩; refine ⟨_, rfl, ?_⟩))
   go_ret
   exact ⟨zR, by repeat (first | exact Drawn0.refl _ | apply Drawn0.step)⟩
 ·replace c5 := Bool.eq_false_iff.mpr c5
  subst c5
  rw [if_neg (show ¬ (false = true) by decide)] at H
  by_cases c7 : t103 = true
  ·subst c7
   rw [if_pos rfl] at H
   obtain rfl := Option.some.inj H
   go_enter Try.func62, Try.ntmps62
   go_wp2_with (first | ((with_reducible refine gate_callee (f := 79) rfl ?_); refine goesL_ (some 10) rfl rfl Try.func79 (by kernel_rfl) rfl #[.int .i64 a1] rfl zP ?_; (with_reducible refine (cmp_isNaN_int.calls a1 true _ A4.out).mono ?_); rintro e w' ⟨rfl, ⟨nd, rfl⟩⟩; refine ⟨_, rfl, ?_⟩) | ((with_reducible refine gate_callee (f := 79) rfl ?_); refine goesL_ (some 8) rfl rfl Try.func79 (by kernel_rfl) rfl #[.int .i64 a0] rfl zP ?_; (with_reducible refine (cmp_isNaN_int.calls a0 false _ A3.out).mono ?_); rintro e w' ⟨rfl, ⟨nd, rfl⟩⟩; refine ⟨_, rfl, ?_⟩))
   go_ret
   exact ⟨zR, by repeat (first | exact Drawn0.refl _ | apply Drawn0.step)⟩
  ·replace c7 := Bool.eq_false_iff.mpr c7
   subst c7
   rw [if_neg (show ¬ (false = true) by decide)] at H
   by_cases c8 : a0 < a1
   ·rw [if_pos c8] at H
    have c8b0 : decide (a0 < a1) = true := decide_eq_true c8
    clear c8
    obtain rfl := Option.some.inj H
    go_enter Try.func62, Try.ntmps62
    go_wp2_with (first | ((with_reducible refine gate_callee (f := 79) rfl ?_); refine goesL_ (some 10) rfl rfl Try.func79 (by kernel_rfl) rfl #[.int .i64 a1] rfl zP ?_; (with_reducible refine (cmp_isNaN_int.calls a1 false _ A4.out).mono ?_); rintro e w' ⟨rfl, ⟨nd, rfl⟩⟩; refine ⟨_, rfl, ?_⟩) | ((with_reducible refine gate_callee (f := 79) rfl ?_); refine goesL_ (some 8) rfl rfl Try.func79 (by kernel_rfl) rfl #[.int .i64 a0] rfl zP ?_; (with_reducible refine (cmp_isNaN_int.calls a0 false _ A3.out).mono ?_); rintro e w' ⟨rfl, ⟨nd, rfl⟩⟩; refine ⟨_, rfl, ?_⟩))
    go_ret
    exact ⟨zR, by repeat (first | exact Drawn0.refl _ | apply Drawn0.step)⟩
   ·rw [if_neg c8] at H
    have c8b0 : decide (a0 < a1) = false := decide_eq_false c8
    clear c8
    by_cases c9 : a0 > a1
    ·rw [if_pos c9] at H
     have c9b0 : decide (a1 < a0) = true := decide_eq_true c9
     clear c9
     obtain rfl := Option.some.inj H
     go_enter Try.func62, Try.ntmps62
     go_wp2_with (first | ((with_reducible refine gate_callee (f := 79) rfl ?_); refine goesL_ (some 10) rfl rfl Try.func79 (by kernel_rfl) rfl #[.int .i64 a1] rfl zP ?_; (with_reducible refine (cmp_isNaN_int.calls a1 false _ A4.out).mono ?_); rintro e w' ⟨rfl, ⟨nd, rfl⟩⟩; refine ⟨_, rfl, ?_⟩) | ((with_reducible refine gate_callee (f := 79) rfl ?_); refine goesL_ (some 8) rfl rfl Try.func79 (by kernel_rfl) rfl #[.int .i64 a0] rfl zP ?_; (with_reducible refine (cmp_isNaN_int.calls a0 false _ A3.out).mono ?_); rintro e w' ⟨rfl, ⟨nd, rfl⟩⟩; refine ⟨_, rfl, ?_⟩))
     go_ret
     exact ⟨zR, by repeat (first | exact Drawn0.refl _ | apply Drawn0.step)⟩
    ·rw [if_neg c9] at H
     have c9b0 : decide (a1 < a0) = false := decide_eq_false c9
     clear c9
     obtain rfl := Option.some.inj H
     go_enter Try.func62, Try.ntmps62
     go_wp2_with (first | ((with_reducible refine gate_callee (f := 79) rfl ?_); refine goesL_ (some 10) rfl rfl Try.func79 (by kernel_rfl) rfl #[.int .i64 a1] rfl zP ?_; (with_reducible refine (cmp_isNaN_int.calls a1 false _ A4.out).mono ?_); rintro e w' ⟨rfl, ⟨nd, rfl⟩⟩; refine ⟨_, rfl, ?_⟩) | ((with_reducible refine gate_callee (f := 79) rfl ?_); refine goesL_ (some 8) rfl rfl Try.func79 (by kernel_rfl) rfl #[.int .i64 a0] rfl zP ?_; (with_reducible refine (cmp_isNaN_int.calls a0 false _ A3.out).mono ?_); rintro e w' ⟨rfl, ⟨nd, rfl⟩⟩; refine ⟨_, rfl, ?_⟩))
     go_ret
     exact ⟨zR, by repeat (first | exact Drawn0.refl _ | apply Drawn0.step)⟩
end Go.Proofs.Ytngppcmdaanheaa.Pr
namespace Go.Proofs.Ytngppcmdaanheaa.Pr
open Go.RowKit Go.Proofs.Ytngppcmdaanheaa.Ls Go.Proofs.Ytngppcmdaanheaa.Va Go.Proofs.YtngppcmdaanheaaW.PrintWords Go.Proofs.YtngppcmdaanheaaW.PrintLast Go.Proofs.YtngppcmdaanheaaW.PrintMore
attribute [local go_sem] max2_int min2_int max_two min_two
set_option linter.unusedVariables false
set_option linter.unusedSimpArgs false
/-! ### e_order: function 42 -/
def e_order.f (k : Nat) (a0_0 : Int) (a0_1 : Int) (a0_2 : ByteArray) (a0_3 : Int) (a1_0 : Int) (a1_1 : Int) (a1_2 : ByteArray) (a1_3 : Int) : Option (Int) := (cmp_Compare_int.f a0_0 a1_0).bind fun t106 => ((cmp_Compare_int.f a0_1 a1_1).bind fun t107 => ((cmp_Compare_string.f a0_2 a1_2).bind fun t108 => ((cmp_Compare_int.f a0_3 a1_3).bind fun t109 => ((cmp_Or_int.f k (([t106, t107, t108, t109] : List Int))).bind fun t113 => (some t113)))))
theorem e_order.mono : ∀ a0 a1 a2 a3 a4 a5 a6 a7 k, LeO (e_order.f k a0 a1 a2 a3 a4 a5 a6 a7) (e_order.f (k + 1) a0 a1 a2 a3 a4 a5 a6 a7) := by
 intro a0 a1 a2 a3 a4 a5 a6 a7 k
 unfold e_order.f
 repeat' first
   | (with_reducible exact cmp_Or_int.mono _ _)
   | (with_reducible exact LeO.refl _)
   | (with_reducible exact LeO.none _)
   | (with_reducible refine LeO.ite ?_ ?_)
   | (with_reducible refine LeO.bind ?_ (fun _ => ?_))
   | exact cmp_Or_int.mono _ _
   | exact LeO.none _
   | refine LeO.ite ?_ ?_
   | refine LeO.bind ?_ (fun _ => ?_)
def e_order.T1 : Bool × List (List Nat × List Nat) := (true, [([], []), ([0], [0]), ([], []), ([2], [2]), ([1, 3], [1, 3]), ([], []), ([5], [5]), ([], []), ([7], [7]), ([6, 8, 4], [6, 8]), ([], []), ([10], [10]), ([], []), ([12], [12]), ([11, 13, 9], [11, 13]), ([], []), ([15], [15]), ([], []), ([17], [17]), ([16, 18, 14], [16, 18]), ([4, 9, 14, 19], [4, 9, 14, 19]), ([20, 19], [20]), ([21, 21, 0, 1, 2, 3, 4, 5, 6, 7, 8, 9, 10, 11, 12, 13, 14, 15, 16, 17, 18, 19, 20, 21], [21])])
def e_order.B1 : List Nat := [0, 1, 0, 4, 15, 0, 32, 0, 128, 511, 0, 1024, 0, 4096, 16383, 0, 32768, 0, 131072, 524287, 1048575, 2097151, 4194303]
theorem e_order.tab1 : rtab .any (opsOf Try.f42 1) = e_order.T1 := by kernel_rfl
theorem e_order.bits1 : waitsOk e_order.T1.2 e_order.B1 = true := by kernel_rfl
set_option maxHeartbeats 8000000 in
set_option maxRecDepth 100000 in
theorem e_order.calls (k : Nat) (a0_0 : Int) (a0_1 : Int) (a0_2 : ByteArray) (a0_3 : Int) (a1_0 : Int) (a1_1 : Int) (a1_2 : ByteArray) (a1_3 : Int) (r : Int) (w : World) (h : e_order.f k a0_0 a0_1 a0_2 a0_3 a1_0 a1_1 a1_2 a1_3 = some r) :
  Calls Try.prog 42 #[.agg #[.int .i64 a0_0, .int .i64 a0_1, .string a0_2, .int .i64 a0_3], .agg #[.int .i64 a1_0, .int .i64 a1_1, .string a1_2, .int .i64 a1_3]] w fun e w' => e = .returned (.int .i64 r) ∧ Below w.heap.size w w' := by
 have hu41 := Try.underlying41
 have HB := zm (Below.refl w.heap.size w)
 have H : ((cmp_Compare_int.f a0_0 a1_0).bind fun t106 => ((cmp_Compare_int.f a0_1 a1_1).bind fun t107 => ((cmp_Compare_string.f a0_2 a1_2).bind fun t108 => ((cmp_Compare_int.f a0_3 a1_3).bind fun t109 => ((cmp_Or_int.f k (([t106, t107, t108, t109] : List Int))).bind fun t113 => (some t113)))))) = some r := h
 clear h
 obtain ⟨t106, A3, H⟩ := zO H
 obtain ⟨t107, A4, H⟩ := zO H
 obtain ⟨t108, A5, H⟩ := zO H
 obtain ⟨t109, A6, H⟩ := zO H
 obtain ⟨y110, hy110⟩ : ∃ y_ : List Int, y_ = (([t106, t107, t108, t109] : List Int)) := ⟨_, rfl⟩
 replace H : ((cmp_Or_int.f k y110).bind fun t113 => (some t113)) = some r := by first | (rw [hy110]; with_reducible exact H) | (have H2_ := (Option.bind_some _ _).symm.trans H; rw [hy110]; with_reducible exact H2_) | (have H2_ := (Option.bind_some _ _).symm.trans H; with_reducible exact H2_) | with_reducible exact H | (rw [hy110]; exact H) | exact H
 have Ny110 := zm hy110
 clear hy110
 obtain ⟨t113, A7, H⟩ := zO H
 obtain rfl := Option.some.inj H
 go_enter Try.func42, Try.ntmps42
 try go_wp2_with (first | ((with_reducible refine gate_dst (N := 2) rfl ?_); refine zX (N := 2) (cs := #[.int .i64 a0_0, .int .i64 a0_1, .string a0_2, .int .i64 a0_3]) (t := 41) (h := ?_); intro gb104 hg w8 hbox hb; have BK104 := zm hbox; have GW104 := zm ((by rw [hg]; exact (below_size zB) : w.heap.size ≤ gb104)); have GE104 := zm ((by rw [hg]; exact (below_size zB) : w.heap.size ≤ gb104)); replace HB := zm (below_step zB hb); clear hb hbox hg) | ((with_reducible refine gate_dst (N := 3) rfl ?_); refine zX (N := 3) (cs := #[.int .i64 a1_0, .int .i64 a1_1, .string a1_2, .int .i64 a1_3]) (t := 41) (h := ?_); intro gb105 hg w9 hbox hb; have BK105 := zm hbox; have GW105 := zm ((by rw [hg]; exact (below_size zG) : w.heap.size ≤ gb105)); have GE105 := zm ((by rw [hg]; exact (below_size zG) : w.heap.size ≤ gb105)); have NB104_105 := zm ((by rw [hg]; exact Nat.ne_of_lt (blk_lt (g := gb104) (o := .cells #[.int .i64 a0_0, .int .i64 a0_1, .string a0_2, .int .i64 a0_3] 41 (0, 0)) zK) : gb104 ≠ gb105)); have NB105_104 := zm ((by rw [hg]; exact Nat.ne_of_gt (blk_lt (g := gb104) (o := .cells #[.int .i64 a0_0, .int .i64 a0_1, .string a0_2, .int .i64 a0_3] 41 (0, 0)) zK) : gb105 ≠ gb104)); replace BK104 := zm (blk_below (g := gb104) (o := .cells #[.int .i64 a0_0, .int .i64 a0_1, .string a0_2, .int .i64 a0_3] 41 (0, 0)) zK hb); replace HB := zm (below_step zG hb); clear hb hbox hg))
 have n0_ := zm (blk_drew BK104.out)
 have n1_ := zm (blk_drew BK105.out)
 have n2_ := zm (below_drew1 HB.out)
 clear BK104
 clear BK105
 clear HB
 have BK104 := n0_
 have BK105 := n1_
 have HB := n2_
 clear n0_ n1_ n2_
 refine start_ (n := 23) (S := fun w' => w'.cell? ⟨gb104, 0, none⟩ = some (.int .i64 a0_0) ∧ w'.cell? ⟨gb104, 1, none⟩ = some (.int .i64 a0_1) ∧ w'.cell? ⟨gb104, 2, none⟩ = some (.string a0_2) ∧ w'.cell? ⟨gb104, 3, none⟩ = some (.int .i64 a0_3) ∧ w'.cell? ⟨gb105, 0, none⟩ = some (.int .i64 a1_0) ∧ w'.cell? ⟨gb105, 1, none⟩ = some (.int .i64 a1_1) ∧ w'.cell? ⟨gb105, 2, none⟩ = some (.string a1_2) ∧ w'.cell? ⟨gb105, 3, none⟩ = some (.int .i64 a1_3)) (ds := []) #[false, false, false, false, false, false, false, false, false, false, false, false, false, false, false, false, false, false, false, false, false, false, false] (by kernel_rfl) rfl rfl ⟨zj BK104.out 0, zj BK104.out 1, zj BK104.out 2, zj BK104.out 3, zj BK105.out 0, zj BK105.out 1, zj BK105.out 2, zj BK105.out 3⟩ (fun hHeld => ?_); refine with_tabW e_order.tab1 e_order.bits1 (fun HT_ HW_ => ?_)
 generalize w9.drew = w10 at BK104 BK105 HB hHeld ⊢
 refine zp 0 5 (hy := by
   intro w'
   go_simp
   with_reducible rfl) (h := ?_)
 refine zp 2 7 (hy := by
   intro w'
   go_simp
   with_reducible rfl) (h := ?_)
 refine zp 5 10 (hy := by
   intro w'
   go_simp
   with_reducible rfl) (h := ?_)
 refine zp 7 12 (hy := by
   intro w'
   go_simp
   with_reducible rfl) (h := ?_)
 refine zp 10 15 (hy := by
   intro w'
   go_simp
   with_reducible rfl) (h := ?_)
 refine zp 12 17 (hy := by
   intro w'
   go_simp
   with_reducible rfl) (h := ?_)
 refine zp 15 20 (hy := by
   intro w'
   go_simp
   with_reducible rfl) (h := ?_)
 refine zp 17 22 (hy := by
   intro w'
   go_simp
   with_reducible rfl) (h := ?_)
 refine zt 1 6 (hy := by
   rintro w' ⟨s0, s1, s2, s3, s4, s5, s6, s7⟩
   go_simp
   with_reducible rfl) (h := ?_)
 refine zt 3 8 (hy := by
   rintro w' ⟨s0, s1, s2, s3, s4, s5, s6, s7⟩
   go_simp
   with_reducible rfl) (h := ?_)
 refine zt 6 11 (hy := by
   rintro w' ⟨s0, s1, s2, s3, s4, s5, s6, s7⟩
   go_simp
   with_reducible rfl) (h := ?_)
 refine zt 8 13 (hy := by
   rintro w' ⟨s0, s1, s2, s3, s4, s5, s6, s7⟩
   go_simp
   with_reducible rfl) (h := ?_)
 refine zt 11 16 (hy := by
   rintro w' ⟨s0, s1, s2, s3, s4, s5, s6, s7⟩
   go_simp
   with_reducible rfl) (h := ?_)
 refine zt 13 18 (hy := by
   rintro w' ⟨s0, s1, s2, s3, s4, s5, s6, s7⟩
   go_simp
   with_reducible rfl) (h := ?_)
 refine zt 16 21 (hy := by
   rintro w' ⟨s0, s1, s2, s3, s4, s5, s6, s7⟩
   go_simp
   with_reducible rfl) (h := ?_)
 refine zt 18 23 (hy := by
   rintro w' ⟨s0, s1, s2, s3, s4, s5, s6, s7⟩
   go_simp
   with_reducible rfl) (h := ?_)
 refine zo 4 9 (h := fun K hK => ?_)
 refine goes_ Try.func62 (by kernel_rfl) rfl #[.int .i64 a0_0, .int .i64 a1_0] (by rfl) rfl rfl zP ?_
 with_reducible refine (cmp_Compare_int.calls a0_0 a1_0 t106 _ A3.out).mono ?_
 rintro e w' ⟨rfl, ⟨nd, rfl⟩⟩
 refine ⟨_, rfl, ?_⟩
 refine hK.out _ _ ⟨zj BK104.out 0, zj BK104.out 1, zj BK104.out 2, zj BK104.out 3, zj BK105.out 0, zj BK105.out 1, zj BK105.out 2, zj BK105.out 3⟩ (fun hHeld => ?_)
 clear hK K
 refine zn (h := ?_)
 refine zo 9 14 (h := fun K hK => ?_)
 refine goes_ Try.func62 (by kernel_rfl) rfl #[.int .i64 a0_1, .int .i64 a1_1] (by rfl) rfl rfl zP ?_
 with_reducible refine (cmp_Compare_int.calls a0_1 a1_1 t107 _ A4.out).mono ?_
 rintro e w' ⟨rfl, ⟨nd, rfl⟩⟩
 refine ⟨_, rfl, ?_⟩
 refine hK.out _ _ ⟨zj BK104.out 0, zj BK104.out 1, zj BK104.out 2, zj BK104.out 3, zj BK105.out 0, zj BK105.out 1, zj BK105.out 2, zj BK105.out 3⟩ (fun hHeld => ?_)
 clear hK K
 refine zn (h := ?_)
 refine zo 14 19 (h := fun K hK => ?_)
 refine goes_ Try.func63 (by kernel_rfl) rfl #[.string a0_2, .string a1_2] (by rfl) rfl rfl zP ?_
 with_reducible refine (cmp_Compare_string.calls a0_2 a1_2 t108 _ A5.out).mono ?_
 rintro e w' ⟨rfl, ⟨nd, rfl⟩⟩
 refine ⟨_, rfl, ?_⟩
 refine hK.out _ _ ⟨zj BK104.out 0, zj BK104.out 1, zj BK104.out 2, zj BK104.out 3, zj BK105.out 0, zj BK105.out 1, zj BK105.out 2, zj BK105.out 3⟩ (fun hHeld => ?_)
 clear hK K
 refine zn (h := ?_)
 refine zo 19 24 (h := fun K hK => ?_)
 refine goes_ Try.func62 (by kernel_rfl) rfl #[.int .i64 a0_3, .int .i64 a1_3] (by rfl) rfl rfl zP ?_
 with_reducible refine (cmp_Compare_int.calls a0_3 a1_3 t109 _ A6.out).mono ?_
 rintro e w' ⟨rfl, ⟨nd, rfl⟩⟩
 refine ⟨_, rfl, ?_⟩
 refine hK.out _ _ ⟨zj BK104.out 0, zj BK104.out 1, zj BK104.out 2, zj BK104.out 3, zj BK105.out 0, zj BK105.out 1, zj BK105.out 2, zj BK105.out 3⟩ (fun hHeld => ?_)
 clear hK K
 refine zn (h := ?_)
 refine zo 20 25 (h := fun K hK => ?_)
 refine Kd.R_lit_step (Kd.int .i64) _ 3 ?hg (N := 25) ?hd (xs := ([t106, t107, t108, t109] : List Int)) (inner := [.int .i64 t106, .int .i64 t107, .int .i64 t108, .int .i64 t109]) (ok := fun _ => True) (okp := fun _ => True) ?hr ?hp (fun _ hk => hk) trivial (Below.refl _ _) (Nat.le_refl _) (by simp) ?_; (case hd => rfl); (case hg => rfl); (case hr => first | (go_simp; done) | (go_simp; rfl)); (case hp => exact (Reps.one (show Kd.M (Kd.int .i64) _ _ _ t106 [.int .i64 t106] from rfl) (Reps.one (show Kd.M (Kd.int .i64) _ _ _ t107 [.int .i64 t107] from rfl) (Reps.one (show Kd.M (Kd.int .i64) _ _ _ t108 [.int .i64 t108] from rfl) (Reps.one (show Kd.M (Kd.int .i64) _ _ _ t109 [.int .i64 t109] from rfl) (Reps.none _ _))))))
 intro v111 w11 ho12 hb hg_ hnew_
 clear hg_ hnew_
 (first | rw [← Ny110.out] at ho12 | (simp only [Int.reduceToNat] at ho12; rw [← Ny110.out] at ho12))
 have n0_ := zm (Kd.R_lower ho12 (below_size zG))
 have n1_ := zm (blk_below (g := gb104) (o := .cells #[.int .i64 a0_0, .int .i64 a0_1, .string a0_2, .int .i64 a0_3] 41 (0, 0)) zK hb)
 have n2_ := zm (blk_below (g := gb105) (o := .cells #[.int .i64 a1_0, .int .i64 a1_1, .string a1_2, .int .i64 a1_3] 41 (0, 0)) zK hb)
 have n3_ := zm (below_step zG hb)
 clear BK104
 clear BK105
 clear HB
 have HO112 := n0_
 have BK104 := n1_
 have BK105 := n2_
 have HB := n3_
 clear n0_ n1_ n2_ n3_
 clear hb ho12
 obtain ⟨Ao13, co13, eo13⟩ := Kd.R_slice HO112.out
 (first | subst eo13 | (injection eo13 with f1_ f2_ f3_; have f4_ := f1_.symm; have f5_ := f3_.symm; clear f1_ f2_ f3_; subst f4_; subst f5_))
 refine hK.out _ _ ⟨zj BK104.out 0, zj BK104.out 1, zj BK104.out 2, zj BK104.out 3, zj BK105.out 0, zj BK105.out 1, zj BK105.out 2, zj BK105.out 3⟩ (fun hHeld => ?_)
 clear hK K
 refine zn (h := ?_)
 refine zo 21 26 (h := fun K hK => ?_)
 refine goes_ Try.func61 (by kernel_rfl) rfl #[.slice Ao13 y110.length co13] (by rfl) rfl rfl zP ?_
 with_reducible refine (cmp_Or_int.calls k _ _ y110 t113 _ ?side1 ?side2 A7.out).mono ?_
 (case side1 => exact zC ((Kd.R_reads' HO112.out).2.2))
 (case side2 => exact (Kd.R_reads' HO112.out).2.1)
 rintro e w' ⟨rfl, ⟨nd, rfl⟩⟩
 refine ⟨_, rfl, ?_⟩
 refine hK.out _ _ ⟨zj BK104.out 0, zj BK104.out 1, zj BK104.out 2, zj BK104.out 3, zj BK105.out 0, zj BK105.out 1, zj BK105.out 2, zj BK105.out 3⟩ (fun hHeld => ?_)
 clear hK K
 refine zn (h := ?_)
 refine zp 22 4 (hy := by
   intro w'
   go_simp
   with_reducible rfl) (h := ?_)
 refine done_ (done_of HT_.out (by kernel_rfl)) ?_
 try go_wp2
 go_ret
 exact ⟨zE, zG⟩
end Go.Proofs.Ytngppcmdaanheaa.Pr
namespace Go.Proofs.Ytngppcmdaanheaa.Pr
open Go.RowKit Go.Proofs.YtngppcmdaanheaaW.PrintWords Go.Proofs.YtngppcmdaanheaaW.PrintLast Go.Proofs.YtngppcmdaanheaaW.PrintMore
attribute [local go_sem] max2_int min2_int max_two min_two
set_option linter.unusedVariables false
set_option linter.unusedSimpArgs false
/-! ### e_fits: function 50 -/
mutual
def e_fits.j0 : Nat → Bool → Int → List (S44) → List (S46) → Int → Int → ByteArray → Int → Option (Bool)
 | 0, _, _, _, _, _, _, _, _ => none
 | k + 1, x28, x115000, x115001, x115002, x116000, x116001, x116002, x116003 => if x28 = true then (some false) else (if x116000 = 3 then (e_fits.j1 k x116000 (x116000 == 3) x115000 x115001 x115002 x116000 x116001 x116002 x116003) else (if x116000 = 4 then (e_fits.j1 k x116000 (x116000 == 4) x115000 x115001 x115002 x116000 x116001 x116002 x116003) else (if x116000 = 5 then (e_fits.j1 k x116000 (x116000 == 5) x115000 x115001 x115002 x116000 x116001 x116002 x116003) else (e_fits.j1 k x116000 (x116000 == 8) x115000 x115001 x115002 x116000 x116001 x116002 x116003))))
def e_fits.j1 : Nat → Int → Bool → Int → List (S44) → List (S46) → Int → Int → ByteArray → Int → Option (Bool)
 | 0, _, _, _, _, _, _, _, _, _ => none
 | k + 1, x30, x31, x115000, x115001, x115002, x116000, x116001, x116002, x116003 => if x31 = true then (some true) else (if x30 = 6 then (if x116001 < (x115001.length : Int) then (some (x116003 == 0)) else (some false)) else (if x30 = 9 then (some (decide (x116001 < x115000))) else (some false)))
end
def e_fits.f (k : Nat) (a0_0 : Int) (l0_1 : List (S44)) (l0_2 : List (S46)) (a1_0 : Int) (a1_1 : Int) (a1_2 : ByteArray) (a1_3 : Int) : Option (Bool) := if (mn a1_1 a1_3) < 0 then (e_fits.j0 k true a0_0 l0_1 l0_2 a1_0 a1_1 a1_2 a1_3) else (if (mx a1_1 a1_3) > 1000001 then (e_fits.j0 k true a0_0 l0_1 l0_2 a1_0 a1_1 a1_2 a1_3) else (if a1_0 = 3 then (e_fits.j0 k false a0_0 l0_1 l0_2 a1_0 a1_1 a1_2 a1_3) else (e_fits.j0 k (a1_2.toList != ([] : List UInt8)) a0_0 l0_1 l0_2 a1_0 a1_1 a1_2 a1_3)))
set_option maxHeartbeats 8000000 in
set_option maxRecDepth 100000 in
theorem e_fits.calls (k : Nat) (a0_0 : Int) (A0_1 : Option Addr) (c0_1 : Nat) (l0_1 : List (S44)) (A0_2 : Option Addr) (c0_2 : Nat) (l0_2 : List (S46)) (a1_0 : Int) (a1_1 : Int) (a1_2 : ByteArray) (a1_3 : Int) (r : Bool) (w : World) (hr0_1 : Kd.C k44 w A0_1 l0_1.length l0_1) (hc0_1 : l0_1.length ≤ c0_1) (hr0_2 : Kd.C k46 w A0_2 l0_2.length l0_2) (hc0_2 : l0_2.length ≤ c0_2) (h : e_fits.f k a0_0 l0_1 l0_2 a1_0 a1_1 a1_2 a1_3 = some r) :
  Calls Try.prog 50 #[.agg #[.int .i64 a0_0, .slice A0_1 l0_1.length c0_1, .slice A0_2 l0_2.length c0_2], .agg #[.int .i64 a1_0, .int .i64 a1_1, .string a1_2, .int .i64 a1_3]] w fun e w' => e = .returned (.bool r) ∧ Below w.heap.size w w' := by
 have hu25 := Try.underlying25
 have hu41 := Try.underlying41
 have HR0_1 := zm hr0_1
 have HC0_1 := zm hc0_1
 clear hr0_1 hc0_1
 have HR0_2 := zm hr0_2
 have HC0_2 := zm hc0_2
 clear hr0_2 hc0_2
 have HB := zm (Below.refl w.heap.size w)
 have H : (if (mn a1_1 a1_3) < 0 then (e_fits.j0 k true a0_0 l0_1 l0_2 a1_0 a1_1 a1_2 a1_3) else (if (mx a1_1 a1_3) > 1000001 then (e_fits.j0 k true a0_0 l0_1 l0_2 a1_0 a1_1 a1_2 a1_3) else (if a1_0 = 3 then (e_fits.j0 k false a0_0 l0_1 l0_2 a1_0 a1_1 a1_2 a1_3) else (e_fits.j0 k (a1_2.toList != ([] : List UInt8)) a0_0 l0_1 l0_2 a1_0 a1_1 a1_2 a1_3)))) = some r := h
 clear h
 have HC3 := zm H
 clear H
 go_enter Try.func50, Try.ntmps50
 go_upto_region 1 with (first | ((with_reducible refine gate_dst (N := 2) rfl ?_); (try (refine gate_guard (by rfl) ?_; dsimp only)); refine zX (N := 2) (cs := #[.int .i64 a0_0, .slice A0_1 l0_1.length c0_1, .slice A0_2 l0_2.length c0_2]) (t := 25) (h := ?_); intro gb114 hg w4 hbox hb; have BK114 := zm hbox; have GW114 := zm ((zS : w.heap.size ≤ gb114)); have GE114 := zm ((zS : w.heap.size ≤ gb114)); replace HB := zm (below_step zB hb); clear hb hbox hg) | ((with_reducible refine gate_dst (N := 3) rfl ?_); (try (refine gate_guard (by rfl) ?_; dsimp only)); refine zX (N := 3) (cs := #[.int .i64 a1_0, .int .i64 a1_1, .string a1_2, .int .i64 a1_3]) (t := 41) (h := ?_); intro gb115 hg w5 hbox hb; have BK115 := zm hbox; have GW115 := zm ((zT : w.heap.size ≤ gb115)); have GE115 := zm ((zT : w.heap.size ≤ gb115)); have NB114_115 := zm ((zL : gb114 ≠ gb115)); have NB115_114 := zm ((zM : gb115 ≠ gb114)); replace BK114 := zm (blk_below (g := gb114) zK hb); replace HB := zm (below_step zG hb); clear hb hbox hg))
 (try simp only [Act.put, List.setIfInBounds_toArray, List.set_cons_zero, List.set_cons_succ])
 go_cut [28] (fun v28 wc => ∃ (kq : Nat) (x28_2 : Bool), v28 = .bool x28_2 ∧ Aside0 (e_fits.j0 kq x28_2 a0_0 l0_1 l0_2 a1_0 a1_1 a1_2 a1_3 = some r) ∧ Aside0 (kq ≤ k) ∧ Aside0 (wc.heap[gb114]? = some (.cells #[.int .i64 a0_0, (.slice A0_1 l0_1.length c0_1), (.slice A0_2 l0_2.length c0_2)] 25 (0, 0))) ∧ Aside0 (wc.heap[gb115]? = some (.cells #[.int .i64 a1_0, .int .i64 a1_1, .string a1_2, .int .i64 a1_3] 41 (0, 0))) ∧ Aside0 (Below w.heap.size w wc))
 case first =>
  have H := HC3.out
  clear HC3
  obtain ⟨ji6, hji6⟩ : ∃ j_ : Int, (mn a1_1 a1_3) = j_ := ⟨_, rfl⟩
  replace H : (if (ji6) < 0 then (e_fits.j0 k true a0_0 l0_1 l0_2 a1_0 a1_1 a1_2 a1_3) else (if (mx a1_1 a1_3) > 1000001 then (e_fits.j0 k true a0_0 l0_1 l0_2 a1_0 a1_1 a1_2 a1_3) else (if a1_0 = 3 then (e_fits.j0 k false a0_0 l0_1 l0_2 a1_0 a1_1 a1_2 a1_3) else (e_fits.j0 k (a1_2.toList != ([] : List UInt8)) a0_0 l0_1 l0_2 a1_0 a1_1 a1_2 a1_3)))) = some r := by first | (rw [hji6] at H; exact H) | (simp only [hji6] at H ⊢; exact H)
  have hji6_ : (if a1_3 < a1_1 then a1_3 else a1_1) = ji6 := hji6
  by_cases c7 : (ji6) < 0
  ·rw [if_pos c7] at H
   have c7b0 : decide ((ji6) < 0) = true := decide_eq_true c7
   clear c7
   (first | rw [c7b0] | (simp only [i64_w, i32_w]; rw [c7b0]) | skip)
   have H' := zm H
   clear H
   have hnb8 := NB115_114.out
   have hnc8 := NB114_115.out
   obtain ⟨hcz9_0, hcz9_1, hcz9_2, hcz9_3, hfz9_0, hfz9_1, hfz9_2, hfz9_3⟩ := zd4 BK115.out (.int .i64 a1_0) (.int .i64 a1_1) (.string a1_2) (.int .i64 a1_3)
   go_wp2
   go_meet
   case rel => exact ⟨_, (true), zR, H', ⟨by first | omega | exact Nat.le_refl _⟩, ⟨zK⟩, ⟨zK⟩, ⟨zG⟩⟩
  ·rw [if_neg c7] at H
   have c7b0 : decide ((ji6) < 0) = false := decide_eq_false c7
   clear c7
   (first | rw [c7b0] | (simp only [i64_w, i32_w]; rw [c7b0]) | skip)
   obtain ⟨ji10, hji10⟩ : ∃ j_ : Int, (mx a1_1 a1_3) = j_ := ⟨_, rfl⟩
   replace H : (if (ji10) > 1000001 then (e_fits.j0 k true a0_0 l0_1 l0_2 a1_0 a1_1 a1_2 a1_3) else (if a1_0 = 3 then (e_fits.j0 k false a0_0 l0_1 l0_2 a1_0 a1_1 a1_2 a1_3) else (e_fits.j0 k (a1_2.toList != ([] : List UInt8)) a0_0 l0_1 l0_2 a1_0 a1_1 a1_2 a1_3))) = some r := by first | (rw [hji10] at H; exact H) | (simp only [hji10] at H ⊢; exact H)
   have hji10_ : (if a1_1 < a1_3 then a1_3 else a1_1) = ji10 := hji10
   by_cases c11 : (ji10) > 1000001
   ·rw [if_pos c11] at H
    have c11b0 : decide (1000001 < (ji10)) = true := decide_eq_true c11
    clear c11
    have H' := zm H
    clear H
    have hnb12 := NB115_114.out
    have hnc12 := NB114_115.out
    obtain ⟨hcz13_0, hcz13_1, hcz13_2, hcz13_3, hfz13_0, hfz13_1, hfz13_2, hfz13_3⟩ := zd4 BK115.out (.int .i64 a1_0) (.int .i64 a1_1) (.string a1_2) (.int .i64 a1_3)
    go_wp2
    go_meet
    case rel => exact ⟨_, (true), zR, H', ⟨by first | omega | exact Nat.le_refl _⟩, ⟨zK⟩, ⟨zK⟩, ⟨zG⟩⟩
   ·rw [if_neg c11] at H
    have c11b0 : decide (1000001 < (ji10)) = false := decide_eq_false c11
    clear c11
    by_cases c14 : a1_0 = 3
    ·rw [if_pos c14] at H
     have c14b0 : (a1_0 == 3) = true := beq_iff_eq.mpr c14
     have c14b1 : (a1_0 != 3) = false := bne_eq_false_iff_eq.mpr c14
     clear c14
     have H' := zm H
     clear H
     have hnb15 := NB115_114.out
     have hnc15 := NB114_115.out
     obtain ⟨hcz16_0, hcz16_1, hcz16_2, hcz16_3, hfz16_0, hfz16_1, hfz16_2, hfz16_3⟩ := zd4 BK115.out (.int .i64 a1_0) (.int .i64 a1_1) (.string a1_2) (.int .i64 a1_3)
     go_wp2
     go_meet
     case rel => exact ⟨_, (false), zR, H', ⟨by first | omega | exact Nat.le_refl _⟩, ⟨zK⟩, ⟨zK⟩, ⟨zG⟩⟩
    ·rw [if_neg c14] at H
     have c14b0 : (a1_0 == 3) = false := beq_eq_false_iff_ne.mpr c14
     have c14b1 : (a1_0 != 3) = true := bne_iff_ne.mpr c14
     have H' := zm H
     clear H
     have hnb17 := NB115_114.out
     have hnc17 := NB114_115.out
     obtain ⟨hcz18_0, hcz18_1, hcz18_2, hcz18_3, hfz18_0, hfz18_1, hfz18_2, hfz18_3⟩ := zd4 BK115.out (.int .i64 a1_0) (.int .i64 a1_1) (.string a1_2) (.int .i64 a1_3)
     go_wp2
     go_meet
     case rel => exact ⟨_, ((a1_2.toList != ([] : List UInt8))), zR, H', ⟨by first | omega | exact Nat.le_refl _⟩, ⟨zK⟩, ⟨zK⟩, ⟨zG⟩⟩
 case rest =>
  clear HC3
  obtain ⟨kq, x28_2, rfl, HA, HJ2, BK114, BK115, HB⟩ := hcut
  cases kq with
  | zero => exact absurd HA.out (by simp [e_fits.j0])
  | succ kj2 =>
   have H := HA.out
   clear HA
   simp only [e_fits.j0] at H
   by_cases c19 : x28_2 = true
   ·subst c19
    rw [if_pos rfl] at H
    obtain rfl := Option.some.inj H
    go_wp2
    go_ret
    exact ⟨zE, zG⟩
   ·replace c19 := Bool.eq_false_iff.mpr c19
    subst c19
    rw [if_neg (show ¬ (false = true) by decide)] at H
    have HC20 := zm H
    clear H
    have hnb21 := NB115_114.out
    have hnc21 := NB114_115.out
    obtain ⟨hcz22_0, hcz22_1, hcz22_2, hcz22_3, hfz22_0, hfz22_1, hfz22_2, hfz22_3⟩ := zd4 BK115.out (.int .i64 a1_0) (.int .i64 a1_1) (.string a1_2) (.int .i64 a1_3)
    go_upto_if 31 with (fail)
    go_cut [31] (fun v31 wc => ∃ (kq : Nat) (x31_19 : Bool), v31 = .bool x31_19 ∧ Aside0 (e_fits.j1 kq a1_0 x31_19 a0_0 l0_1 l0_2 a1_0 a1_1 a1_2 a1_3 = some r) ∧ Aside0 (kq ≤ kj2) ∧ Aside0 (wc.heap[gb114]? = some (.cells #[.int .i64 a0_0, (.slice A0_1 l0_1.length c0_1), (.slice A0_2 l0_2.length c0_2)] 25 (0, 0))) ∧ Aside0 (wc.heap[gb115]? = some (.cells #[.int .i64 a1_0, .int .i64 a1_1, .string a1_2, .int .i64 a1_3] 41 (0, 0))) ∧ Aside0 (Below w.heap.size w wc))
    case first =>
     have H := HC20.out
     clear HC20
     by_cases c23 : a1_0 = 3
     ·rw [if_pos c23] at H
      have c23b0 : (a1_0 == 3) = true := beq_iff_eq.mpr c23
      have c23b1 : (a1_0 != 3) = false := bne_eq_false_iff_eq.mpr c23
      clear c23
      (first | rw [c23b0] | (simp only [i64_w, i32_w]; rw [c23b0]) | skip)
      have H' := zm H
      clear H
      go_wp2
      go_meet
      case rel => exact ⟨_, ((a1_0 == 3)), zR, H', ⟨by have := HJ2.out; first | omega | exact Nat.le_refl _⟩, ⟨zK⟩, ⟨zK⟩, ⟨zG⟩⟩
     ·rw [if_neg c23] at H
      have c23b0 : (a1_0 == 3) = false := beq_eq_false_iff_ne.mpr c23
      have c23b1 : (a1_0 != 3) = true := bne_iff_ne.mpr c23
      (first | rw [c23b0] | (simp only [i64_w, i32_w]; rw [c23b0]) | skip)
      by_cases c24 : a1_0 = 4
      ·rw [if_pos c24] at H
       have c24b0 : (a1_0 == 4) = true := beq_iff_eq.mpr c24
       have c24b1 : (a1_0 != 4) = false := bne_eq_false_iff_eq.mpr c24
       clear c24
       have H' := zm H
       clear H
       go_wp2
       go_meet
       case rel => exact ⟨_, ((a1_0 == 4)), zR, H', ⟨by have := HJ2.out; first | omega | exact Nat.le_refl _⟩, ⟨zK⟩, ⟨zK⟩, ⟨zG⟩⟩
      ·rw [if_neg c24] at H
       have c24b0 : (a1_0 == 4) = false := beq_eq_false_iff_ne.mpr c24
       have c24b1 : (a1_0 != 4) = true := bne_iff_ne.mpr c24
       by_cases c25 : a1_0 = 5
       ·rw [if_pos c25] at H
        have c25b0 : (a1_0 == 5) = true := beq_iff_eq.mpr c25
        have c25b1 : (a1_0 != 5) = false := bne_eq_false_iff_eq.mpr c25
        clear c25
        have H' := zm H
        clear H
        go_wp2
        go_meet
        case rel => exact ⟨_, ((a1_0 == 5)), zR, H', ⟨by have := HJ2.out; first | omega | exact Nat.le_refl _⟩, ⟨zK⟩, ⟨zK⟩, ⟨zG⟩⟩
       ·rw [if_neg c25] at H
        have c25b0 : (a1_0 == 5) = false := beq_eq_false_iff_ne.mpr c25
        have c25b1 : (a1_0 != 5) = true := bne_iff_ne.mpr c25
        have H' := zm H
        clear H
        go_wp2
        go_meet
        case rel => exact ⟨_, ((a1_0 == 8)), zR, H', ⟨by have := HJ2.out; first | omega | exact Nat.le_refl _⟩, ⟨zK⟩, ⟨zK⟩, ⟨zG⟩⟩
    case rest =>
     clear HC20
     clear hcz22_0 hcz22_1 hcz22_2 hcz22_3 hfz22_0 hfz22_1 hfz22_2 hfz22_3
     obtain ⟨kq, x31_19, rfl, HA, HJ19, BK114, BK115, HB⟩ := hcut
     cases kq with
     | zero => exact absurd HA.out (by simp [e_fits.j1])
     | succ kj19 =>
      have H := HA.out
      clear HA
      simp only [e_fits.j1] at H
      by_cases c26 : x31_19 = true
      ·subst c26
       rw [if_pos rfl] at H
       obtain rfl := Option.some.inj H
       go_wp2
       go_ret
       exact ⟨zE, zG⟩
      ·replace c26 := Bool.eq_false_iff.mpr c26
       subst c26
       rw [if_neg (show ¬ (false = true) by decide)] at H
       by_cases c27 : a1_0 = 6
       ·rw [if_pos c27] at H
        have c27b0 : (a1_0 == 6) = true := beq_iff_eq.mpr c27
        have c27b1 : (a1_0 != 6) = false := bne_eq_false_iff_eq.mpr c27
        clear c27
        by_cases c28 : a1_1 < (l0_1.length : Int)
        ·rw [if_pos c28] at H
         have c28b0 : decide (a1_1 < (l0_1.length : Int)) = true := decide_eq_true c28
         clear c28
         obtain rfl := Option.some.inj H
         have hnb29 := NB115_114.out
         have hnc29 := NB114_115.out
         obtain ⟨hcz30_0, hcz30_1, hcz30_2, hcz30_3, hfz30_0, hfz30_1, hfz30_2, hfz30_3⟩ := zd4 BK115.out (.int .i64 a1_0) (.int .i64 a1_1) (.string a1_2) (.int .i64 a1_3)
         obtain ⟨hcz31_0, hcz31_1, hcz31_2, hfz31_0, hfz31_1, hfz31_2⟩ := zd3 BK114.out (.int .i64 a0_0) (.slice A0_1 l0_1.length c0_1) (.slice A0_2 l0_2.length c0_2)
         go_wp2
         go_ret
         exact ⟨zE, zG⟩
        ·rw [if_neg c28] at H
         have c28b0 : decide (a1_1 < (l0_1.length : Int)) = false := decide_eq_false c28
         clear c28
         obtain rfl := Option.some.inj H
         have hnb32 := NB115_114.out
         have hnc32 := NB114_115.out
         obtain ⟨hcz33_0, hcz33_1, hcz33_2, hcz33_3, hfz33_0, hfz33_1, hfz33_2, hfz33_3⟩ := zd4 BK115.out (.int .i64 a1_0) (.int .i64 a1_1) (.string a1_2) (.int .i64 a1_3)
         obtain ⟨hcz34_0, hcz34_1, hcz34_2, hfz34_0, hfz34_1, hfz34_2⟩ := zd3 BK114.out (.int .i64 a0_0) (.slice A0_1 l0_1.length c0_1) (.slice A0_2 l0_2.length c0_2)
         go_wp2
         go_ret
         exact ⟨zE, zG⟩
       ·rw [if_neg c27] at H
        have c27b0 : (a1_0 == 6) = false := beq_eq_false_iff_ne.mpr c27
        have c27b1 : (a1_0 != 6) = true := bne_iff_ne.mpr c27
        by_cases c35 : a1_0 = 9
        ·rw [if_pos c35] at H
         have c35b0 : (a1_0 == 9) = true := beq_iff_eq.mpr c35
         have c35b1 : (a1_0 != 9) = false := bne_eq_false_iff_eq.mpr c35
         clear c35
         obtain rfl := Option.some.inj H
         have hnb36 := NB115_114.out
         have hnc36 := NB114_115.out
         obtain ⟨hcz37_0, hcz37_1, hcz37_2, hcz37_3, hfz37_0, hfz37_1, hfz37_2, hfz37_3⟩ := zd4 BK115.out (.int .i64 a1_0) (.int .i64 a1_1) (.string a1_2) (.int .i64 a1_3)
         obtain ⟨hcz38_0, hcz38_1, hcz38_2, hfz38_0, hfz38_1, hfz38_2⟩ := zd3 BK114.out (.int .i64 a0_0) (.slice A0_1 l0_1.length c0_1) (.slice A0_2 l0_2.length c0_2)
         go_wp2
         go_ret
         exact ⟨zE, zG⟩
        ·rw [if_neg c35] at H
         have c35b0 : (a1_0 == 9) = false := beq_eq_false_iff_ne.mpr c35
         have c35b1 : (a1_0 != 9) = true := bne_iff_ne.mpr c35
         obtain rfl := Option.some.inj H
         go_wp2
         go_ret
         exact ⟨zE, zG⟩
end Go.Proofs.Ytngppcmdaanheaa.Pr
namespace Go.Proofs.Ytngppcmdaanheaa.Pr
open Go.RowKit Go.Proofs.YtngppcmdaanheaaW.PrintWords Go.Proofs.YtngppcmdaanheaaW.PrintLast Go.Proofs.YtngppcmdaanheaaW.PrintMore
attribute [local go_sem] max2_int min2_int max_two min_two
set_option linter.unusedVariables false
set_option linter.unusedSimpArgs false
/-! ### e_areRight: function 33 -/
mutual
def e_areRight.l0 : Nat → List (S41) → List (S41) → Int → Int → Int → List (S44) → List (S46) → Option (Bool)
 | 0, _, _, _, _, _, _, _ => none
 | k + 1, x1, x7, x8, x9, x117000, x117001, x117002 => if x9 < x8 then (if 0 ≤ x9 then (if x9 < (x7.length : Int) then ((e_fits.f k x117000 x117001 x117002 ((rd_T41 x7 x9).f0) ((rd_T41 x7 x9).f1) ((rd_T41 x7 x9).f2) ((rd_T41 x7 x9).f3)).bind fun t119 => (if t119 = true then (if x9 > 0 then (if 0 ≤ (wrap64 (x9 - 1)) then (if (wrap64 (x9 - 1)) < (x1.length : Int) then ((e_order.f k ((rd_T41 x1 (wrap64 (x9 - 1))).f0) ((rd_T41 x1 (wrap64 (x9 - 1))).f1) ((rd_T41 x1 (wrap64 (x9 - 1))).f2) ((rd_T41 x1 (wrap64 (x9 - 1))).f3) ((rd_T41 x7 x9).f0) ((rd_T41 x7 x9).f1) ((rd_T41 x7 x9).f2) ((rd_T41 x7 x9).f3)).bind fun t121 => (e_areRight.j1 k x1 x7 x8 x9 (decide (t121 ≥ 0)) x117000 x117001 x117002)) else (none)) else (none)) else (e_areRight.j1 k x1 x7 x8 x9 false x117000 x117001 x117002)) else (e_areRight.j1 k x1 x7 x8 x9 true x117000 x117001 x117002))) else (none)) else (none)) else (some true)
def e_areRight.j1 : Nat → List (S41) → List (S41) → Int → Int → Bool → Int → List (S44) → List (S46) → Option (Bool)
 | 0, _, _, _, _, _, _, _, _ => none
 | k + 1, x1, x7, x8, x9, x31, x117000, x117001, x117002 => if x31 = true then (some false) else (e_areRight.l0 k x1 x7 x8 (wrap64 (x9 + 1)) x117000 x117001 x117002)
end
def e_areRight.f (k : Nat) (a0_0 : Int) (l0_1 : List (S44)) (l0_2 : List (S46)) (l1 : List (S41)) : Option (Bool) := e_areRight.l0 k l1 l1 (l1.length : Int) 0 a0_0 l0_1 l0_2
def e_areRight.T4 : Bool × List (List Nat × List Nat) := (true, [([], []), ([], []), ([0, 1], [0, 1]), ([2], [2]), ([3, 2], [3]), ([4], [4]), ([5, 4], [4, 5]), ([6, 4, 4], [4, 6]), ([7], [7]), ([7], [7]), ([9, 7], [7, 9]), ([8, 10, 7], [7, 8, 10]), ([11, 7], [7, 11]), ([7], [7]), ([12, 13, 7, 7], [7, 12, 13]), ([14, 7], [7, 14]), ([7, 15, 4], [4, 7, 15]), ([4, 16], [4, 16])])
def e_areRight.B4 : List Nat := [0, 0, 3, 7, 15, 31, 63, 127, 255, 255, 767, 2047, 4095, 255, 16383, 32767, 65535, 131071]
theorem e_areRight.tab4 : rtab .any (opsOf Try.f33 4) = e_areRight.T4 := by kernel_rfl
theorem e_areRight.bits4 : waitsOk e_areRight.T4.2 e_areRight.B4 = true := by kernel_rfl
set_option maxHeartbeats 8000000 in
set_option maxRecDepth 100000 in
theorem e_areRight.calls (k : Nat) (a0_0 : Int) (A0_1 : Option Addr) (c0_1 : Nat) (l0_1 : List (S44)) (A0_2 : Option Addr) (c0_2 : Nat) (l0_2 : List (S46)) (A1 : Option Addr) (c1 : Nat) (l1 : List (S41)) (r : Bool) (w : World) (hr0_1 : Kd.C k44 w A0_1 l0_1.length l0_1) (hc0_1 : l0_1.length ≤ c0_1) (hr0_2 : Kd.C k46 w A0_2 l0_2.length l0_2) (hc0_2 : l0_2.length ≤ c0_2) (hr1 : Kd.C k41 w A1 l1.length l1) (hc1 : l1.length ≤ c1) (h : e_areRight.f k a0_0 l0_1 l0_2 l1 = some r) :
  Calls Try.prog 33 #[.agg #[.int .i64 a0_0, .slice A0_1 l0_1.length c0_1, .slice A0_2 l0_2.length c0_2], .slice A1 l1.length c1] w fun e w' => e = .returned (.bool r) ∧ Below w.heap.size w w' := by
 have hu25 := Try.underlying25
 have hu41 := Try.underlying41
 have HR0_1 := zm hr0_1
 have HC0_1 := zm hc0_1
 clear hr0_1 hc0_1
 have HR0_2 := zm hr0_2
 have HC0_2 := zm hc0_2
 clear hr0_2 hc0_2
 have HR1 := zm hr1
 have HC1 := zm hc1
 clear hr1 hc1
 have HB := zm (Below.refl w.heap.size w)
 have H : (e_areRight.l0 k l1 l1 (l1.length : Int) 0 a0_0 l0_1 l0_2) = some r := h
 clear h
 have H' := zm H
 clear H
 go_enter Try.func33, Try.ntmps33
 go_wp2_with (first | ((with_reducible refine gate_dst (N := 2) rfl ?_); refine zX (N := 2) (cs := #[.int .i64 a0_0, .slice A0_1 l0_1.length c0_1, .slice A0_2 l0_2.length c0_2]) (t := 25) (h := ?_); intro gb116 hg w3 hbox hb; have BK116 := zm hbox; have GW116 := zm ((zS : w.heap.size ≤ gb116)); have GE116 := zm ((zS : w.heap.size ≤ gb116)); replace HB := zm (below_step zB hb); clear hb hbox hg))
 go_loopg [9] k (fun kq v9 w' => ∃ (x9_1 : Int), v9 = .int .i64 x9_1 ∧ Aside0 (e_areRight.l0 kq l1 l1 (l1.length : Int) x9_1 a0_0 l0_1 l0_2 = some r) ∧ Aside0 (kq ≤ k) ∧ Aside0 (w'.heap[gb116]? = some (.cells #[.int .i64 a0_0, (.slice A0_1 l0_1.length c0_1), (.slice A0_2 l0_2.length c0_2)] 25 (0, 0))) ∧ Aside0 (Below w.heap.size w w'))
 case atStart => exact ⟨(0), zR, H', ⟨Nat.le_refl _⟩, ⟨zK⟩, ⟨zG⟩⟩
 case round =>
  clear H'
  obtain ⟨x9_1, rfl, HA, HK1, BK116, HB⟩ := hrel
  cases gk with
  | zero => exact absurd HA.out (by simp [e_areRight.l0])
  | succ k1 =>
   have H := HA.out
   clear HA
   simp only [e_areRight.l0] at H
   by_cases c4 : x9_1 < (l1.length : Int)
   ·rw [if_pos c4] at H
    have c4b0 : decide (x9_1 < (l1.length : Int)) = true := decide_eq_true c4
    clear c4
    by_cases c5 : 0 ≤ x9_1
    ·rw [if_pos c5] at H
     have c5b0 : decide (0 ≤ x9_1) = true := decide_eq_true c5
     clear c5
     by_cases c6 : x9_1 < (l1.length : Int)
     ·rw [if_pos c6] at H
      have c6b0 : decide (x9_1 < (l1.length : Int)) = true := decide_eq_true c6
      clear c6
      have HC7 := zm H
      clear H
      have p117 : 0 ≤ (x9_1 : Int) := of_decide_eq_true zA
      have q117 : x9_1 < (l1.length : Int) := of_decide_eq_true zA
      obtain ⟨ad117, e117, hx117_0, hx117_1, hx117_2, hx117_3⟩ := at_T41 HR1.out x9_1 p117 q117
      cases e117
      replace hx117_0 := zH HB.out hx117_0
      replace hx117_1 := zH HB.out hx117_1
      replace hx117_2 := zH HB.out hx117_2
      replace hx117_3 := zH HB.out hx117_3
      replace p117 := eq_true p117
      replace q117 := eq_true q117
      go_upto_region 4 with (first | ((with_reducible refine gate_dst (N := 6) rfl ?_); refine zX (N := 6) (cs := #[.int .i64 0, .int .i64 0, .string (⟨#[]⟩ : ByteArray), .int .i64 0]) (t := 41) (h := ?_); intro gb118 hg w8 hbox hb; have BK118 := zm hbox; have GW118 := zm ((zT : w.heap.size ≤ gb118)); have GE118 := zm ((zT : w.heap.size ≤ gb118)); have NB116_118 := zm ((zL : gb116 ≠ gb118)); have NB118_116 := zm ((zM : gb118 ≠ gb116)); replace BK116 := zm (blk_below (g := gb116) zK hb); replace HB := zm (below_step zG hb); clear hb hbox hg; have hnb9 := NB118_116.out; have hnc9 := NB116_118.out; obtain ⟨hcz10_0, hcz10_1, hcz10_2, hcz10_3, hfz10_0, hfz10_1, hfz10_2, hfz10_3⟩ := zd4 BK118.out (.int .i64 0) (.int .i64 0) (.string (⟨#[]⟩ : ByteArray)) (.int .i64 0)))
      (try simp only [Act.put, List.setIfInBounds_toArray, List.set_cons_zero, List.set_cons_succ])
      go_cut [31] (fun v31 wc => ∃ (kq : Nat) (x31_6 : Bool), v31 = .bool x31_6 ∧ Aside0 (e_areRight.j1 kq l1 l1 (l1.length : Int) x9_1 x31_6 a0_0 l0_1 l0_2 = some r) ∧ Aside0 (kq ≤ k1) ∧ Aside0 (wc.heap[gb116]? = some (.cells #[.int .i64 a0_0, (.slice A0_1 l0_1.length c0_1), (.slice A0_2 l0_2.length c0_2)] 25 (0, 0))) ∧ Aside0 (wc.heap[gb118]? = some (.cells #[.int .i64 ((rd_T41 l1 x9_1).f0), .int .i64 ((rd_T41 l1 x9_1).f1), .string ((rd_T41 l1 x9_1).f2), .int .i64 ((rd_T41 l1 x9_1).f3)] 41 (0, 0))) ∧ Aside0 (Below w.heap.size w wc))
      case first =>
       have H := HC7.out
       clear HC7
       obtain ⟨t119, A11, H⟩ := zO H
       by_cases c12 : t119 = true
       ·subst c12
        rw [if_pos rfl] at H
        by_cases c13 : x9_1 > 0
        ·rw [if_pos c13] at H
         have c13b0 : decide (0 < x9_1) = true := decide_eq_true c13
         clear c13
         (first | rw [c13b0] | (simp only [i64_w, i32_w]; rw [c13b0]) | skip)
         obtain ⟨ji14, hji14⟩ : ∃ j_ : Int, (wrap64 (x9_1 - 1)) = j_ := ⟨_, rfl⟩
         replace H : (if 0 ≤ (ji14) then (if (ji14) < (l1.length : Int) then ((e_order.f k1 ((rd_T41 l1 (ji14)).f0) ((rd_T41 l1 (ji14)).f1) ((rd_T41 l1 (ji14)).f2) ((rd_T41 l1 (ji14)).f3) ((rd_T41 l1 x9_1).f0) ((rd_T41 l1 x9_1).f1) ((rd_T41 l1 x9_1).f2) ((rd_T41 l1 x9_1).f3)).bind fun t121 => (e_areRight.j1 k1 l1 l1 (l1.length : Int) x9_1 (decide (t121 ≥ 0)) a0_0 l0_1 l0_2)) else (none)) else (none)) = some r := by first | (rw [hji14] at H; exact H) | (simp only [hji14] at H ⊢; exact H)
         (try rw [hji14] at A11)
         have hji14w : (IntKind.i64.wrap (x9_1 - 1)) = ji14 := (i64_w _).trans hji14
         by_cases c15 : 0 ≤ (ji14)
         ·rw [if_pos c15] at H
          have c15b0 : decide (0 ≤ (ji14)) = true := decide_eq_true c15
          clear c15
          by_cases c16 : (ji14) < (l1.length : Int)
          ·rw [if_pos c16] at H
           have c16b0 : decide ((ji14) < (l1.length : Int)) = true := decide_eq_true c16
           clear c16
           obtain ⟨t121, A17, H⟩ := zO H
           have H' := zm H
           clear H
           try go_wp2
           have n0_ : Aside0 (((((w8.setCell ⟨gb118, 0, none⟩ (.int .i64 ((rd_T41 l1 x9_1).f0))).setCell ⟨gb118, 1, none⟩ (.int .i64 ((rd_T41 l1 x9_1).f1))).setCell ⟨gb118, 2, none⟩ (.string ((rd_T41 l1 x9_1).f2))).setCell ⟨gb118, 3, none⟩ (.int .i64 ((rd_T41 l1 x9_1).f3))).heap[gb116]? = some (.cells #[.int .i64 a0_0, .slice A0_1 l0_1.length c0_1, .slice A0_2 l0_2.length c0_2] 25 (0, 0))) := ⟨by (with_reducible repeat (first | refine blk_drewN ?_ _ | refine blk_drew ?_ | refine blk_alloc ?_ _)); refine blk_far ?_ NB116_118.out _; (with_reducible repeat (first | refine blk_drewN ?_ _ | refine blk_drew ?_ | refine blk_alloc ?_ _)); refine blk_far ?_ NB116_118.out _; (with_reducible repeat (first | refine blk_drewN ?_ _ | refine blk_drew ?_ | refine blk_alloc ?_ _)); refine blk_far ?_ NB116_118.out _; (with_reducible repeat (first | refine blk_drewN ?_ _ | refine blk_drew ?_ | refine blk_alloc ?_ _)); refine blk_far ?_ NB116_118.out _; (with_reducible repeat (first | refine blk_drewN ?_ _ | refine blk_drew ?_ | refine blk_alloc ?_ _)); exact BK116.out⟩
           have n1_ : Aside0 (((((w8.setCell ⟨gb118, 0, none⟩ (.int .i64 ((rd_T41 l1 x9_1).f0))).setCell ⟨gb118, 1, none⟩ (.int .i64 ((rd_T41 l1 x9_1).f1))).setCell ⟨gb118, 2, none⟩ (.string ((rd_T41 l1 x9_1).f2))).setCell ⟨gb118, 3, none⟩ (.int .i64 ((rd_T41 l1 x9_1).f3))).heap[gb118]? = some (.cells #[.int .i64 ((rd_T41 l1 x9_1).f0), .int .i64 ((rd_T41 l1 x9_1).f1), .string ((rd_T41 l1 x9_1).f2), .int .i64 ((rd_T41 l1 x9_1).f3)] 41 (0, 0))) := ⟨by (with_reducible repeat (first | refine blk_drewN ?_ _ | refine blk_drew ?_ | refine blk_alloc ?_ _)); refine blk_put (cs := #[.int .i64 ((rd_T41 l1 x9_1).f0), .int .i64 ((rd_T41 l1 x9_1).f1), .string ((rd_T41 l1 x9_1).f2), .int .i64 0]) ?_ 3 _ rfl; (with_reducible repeat (first | refine blk_drewN ?_ _ | refine blk_drew ?_ | refine blk_alloc ?_ _)); refine blk_put (cs := #[.int .i64 ((rd_T41 l1 x9_1).f0), .int .i64 ((rd_T41 l1 x9_1).f1), .string (⟨#[]⟩ : ByteArray), .int .i64 0]) ?_ 2 _ rfl; (with_reducible repeat (first | refine blk_drewN ?_ _ | refine blk_drew ?_ | refine blk_alloc ?_ _)); refine blk_put (cs := #[.int .i64 ((rd_T41 l1 x9_1).f0), .int .i64 0, .string (⟨#[]⟩ : ByteArray), .int .i64 0]) ?_ 1 _ rfl; (with_reducible repeat (first | refine blk_drewN ?_ _ | refine blk_drew ?_ | refine blk_alloc ?_ _)); refine blk_put (cs := #[.int .i64 0, .int .i64 0, .string (⟨#[]⟩ : ByteArray), .int .i64 0]) ?_ 0 _ rfl; (with_reducible repeat (first | refine blk_drewN ?_ _ | refine blk_drew ?_ | refine blk_alloc ?_ _)); exact BK118.out⟩
           have n2_ : Aside0 (Below w.heap.size w ((((w8.setCell ⟨gb118, 0, none⟩ (.int .i64 ((rd_T41 l1 x9_1).f0))).setCell ⟨gb118, 1, none⟩ (.int .i64 ((rd_T41 l1 x9_1).f1))).setCell ⟨gb118, 2, none⟩ (.string ((rd_T41 l1 x9_1).f2))).setCell ⟨gb118, 3, none⟩ (.int .i64 ((rd_T41 l1 x9_1).f3)))) := ⟨zG⟩
           (try clear BK116)
           (try clear BK118)
           (try clear HB)
           generalize ((((w8.setCell ⟨gb118, 0, none⟩ (.int .i64 ((rd_T41 l1 x9_1).f0))).setCell ⟨gb118, 1, none⟩ (.int .i64 ((rd_T41 l1 x9_1).f1))).setCell ⟨gb118, 2, none⟩ (.string ((rd_T41 l1 x9_1).f2))).setCell ⟨gb118, 3, none⟩ (.int .i64 ((rd_T41 l1 x9_1).f3))) = w18 at n0_ n1_ n2_ ⊢
           have BK116 := n0_
           have BK118 := n1_
           have HB := n2_
           clear n0_ n1_ n2_
           have n0_ := zm (blk_drew BK116.out)
           have n1_ := zm (blk_drew BK118.out)
           have n2_ := zm (below_drew1 HB.out)
           clear BK116
           clear BK118
           clear HB
           have BK116 := n0_
           have BK118 := n1_
           have HB := n2_
           clear n0_ n1_ n2_
           have p120 : 0 ≤ ((ji14) : Int) := of_decide_eq_true zA
           have q120 : (ji14) < (l1.length : Int) := of_decide_eq_true zA
           obtain ⟨ad120, e120, hx120_0, hx120_1, hx120_2, hx120_3⟩ := at_T41 HR1.out (ji14) p120 q120
           have hw120_3 := hx120_3
           have hw120_2 := hx120_2
           have hw120_1 := hx120_1
           have hw120_0 := hx120_0
           obtain rfl : ad117 = ad120 := (by injection e120)
           replace hx120_0 := zH HB.out hx120_0
           replace hx120_1 := zH HB.out hx120_1
           replace hx120_2 := zH HB.out hx120_2
           replace hx120_3 := zH HB.out hx120_3
           replace p120 := eq_true p120
           replace q120 := eq_true q120
           refine start_ (n := 18) (S := fun w' => w'.cell? ⟨gb116, 0, none⟩ = some (.int .i64 a0_0) ∧ w'.cell? ⟨gb116, 1, none⟩ = some (.slice A0_1 l0_1.length c0_1) ∧ w'.cell? ⟨gb116, 2, none⟩ = some (.slice A0_2 l0_2.length c0_2) ∧ w'.cell? ⟨gb118, 0, none⟩ = some (.int .i64 ((rd_T41 l1 x9_1).f0)) ∧ w'.cell? ⟨gb118, 1, none⟩ = some (.int .i64 ((rd_T41 l1 x9_1).f1)) ∧ w'.cell? ⟨gb118, 2, none⟩ = some (.string ((rd_T41 l1 x9_1).f2)) ∧ w'.cell? ⟨gb118, 3, none⟩ = some (.int .i64 ((rd_T41 l1 x9_1).f3)) ∧ w'.cell? (ad117.add (((ji14)).toNat * 4)) = some (.int .i64 ((rd_T41 l1 (ji14)).f0)) ∧ w'.cell? ⟨(ad117.add (((ji14)).toNat * 4)).block, (ad117.add (((ji14)).toNat * 4)).off + 1, none⟩ = some (.int .i64 ((rd_T41 l1 (ji14)).f1)) ∧ w'.cell? ⟨(ad117.add (((ji14)).toNat * 4)).block, (ad117.add (((ji14)).toNat * 4)).off + 2, none⟩ = some (.string ((rd_T41 l1 (ji14)).f2)) ∧ w'.cell? ⟨(ad117.add (((ji14)).toNat * 4)).block, (ad117.add (((ji14)).toNat * 4)).off + 3, none⟩ = some (.int .i64 ((rd_T41 l1 (ji14)).f3))) (ds := []) #[false, false, false, false, false, false, false, false, false, false, false, false, false, false, false, false, false, false] (by kernel_rfl) rfl rfl ⟨zj BK116.out 0, zj BK116.out 1, zj BK116.out 2, zj BK118.out 0, zj BK118.out 1, zj BK118.out 2, zj BK118.out 3, (zH HB.out hw120_0), (zH HB.out hw120_1), (zH HB.out hw120_2), (zH HB.out hw120_3)⟩ (fun hHeld => ?_); refine with_tabW e_areRight.tab4 e_areRight.bits4 (fun HT_ HW_ => ?_)
           generalize w18.drew = w19 at BK116 BK118 HB hx120_0 hx120_1 hx120_2 hx120_3 hHeld ⊢
           refine zt 0 14 (hy := by
             rintro w' ⟨s0, s1, s2, s3, s4, s5, s6, s7, s8, s9, s10⟩
             go_simp
             with_reducible rfl) (h := ?_)
           refine zt 1 15 (hy := by
             rintro w' ⟨s0, s1, s2, s3, s4, s5, s6, s7, s8, s9, s10⟩
             go_simp
             with_reducible rfl) (h := ?_)
           refine zo 2 16 (h := fun K hK => ?_)
           refine goes_ Try.func50 (by kernel_rfl) rfl #[.agg #[.int .i64 a0_0, .slice A0_1 l0_1.length c0_1, .slice A0_2 l0_2.length c0_2], .agg #[.int .i64 ((rd_T41 l1 x9_1).f0), .int .i64 ((rd_T41 l1 x9_1).f1), .string ((rd_T41 l1 x9_1).f2), .int .i64 ((rd_T41 l1 x9_1).f3)]] (by rfl) rfl rfl zP ?_
           with_reducible refine (e_fits.calls k1 a0_0 _ _ l0_1 _ _ l0_2 ((rd_T41 l1 x9_1).f0) ((rd_T41 l1 x9_1).f1) ((rd_T41 l1 x9_1).f2) ((rd_T41 l1 x9_1).f3) true _ ?side1 ?side2 ?side3 ?side4 A11.out).mono ?_
           (case side1 => exact zC (Kd.C_below HR0_1.out HB.out))
           (case side2 => exact HC0_1.out)
           (case side3 => exact zC (Kd.C_below HR0_2.out HB.out))
           (case side4 => exact HC0_2.out)
           rintro e w20 ⟨rfl, hb⟩
           refine ⟨_, rfl, ?_⟩
           have n0_ := zm (blk_below (g := gb116) zK hb)
           have n1_ := zm (blk_below (g := gb118) zK hb)
           have n2_ := zm (below_step zG hb)
           clear BK116
           clear BK118
           clear HB
           have BK116 := n0_
           have BK118 := n1_
           have HB := n2_
           clear n0_ n1_ n2_
           (try clear hb)
           (try clear hb2)
           (try clear hk)
           (try clear hi)
           refine hK.out _ _ ⟨zj BK116.out 0, zj BK116.out 1, zj BK116.out 2, zj BK118.out 0, zj BK118.out 1, zj BK118.out 2, zj BK118.out 3, (zH HB.out hw120_0), (zH HB.out hw120_1), (zH HB.out hw120_2), (zH HB.out hw120_3)⟩ (fun hHeld => ?_)
           clear hK K
           refine zn (h := ?_)
           refine zp 3 17 (hy := by
             intro w'
             go_simp
             with_reducible rfl) (h := ?_)
           refine zp 4 18 (hy := by
             intro w'
             go_simp
             with_reducible rfl) (h := ?_)
           refine zp 5 19 (hy := by
             intro w'
             go_simp
             with_reducible rfl) (h := ?_)
           refine zp 6 20 (hy := by
             intro w'
             go_simp
             with_reducible rfl) (h := ?_)
           refine zp 7 21 (hy := by
             intro w'
             go_simp
             with_reducible rfl) (h := ?_)
           refine zp 8 22 (hy := by
             intro w'
             go_simp
             with_reducible rfl) (h := ?_)
           refine zp 9 23 (hy := by
             intro w'
             go_simp
             with_reducible rfl) (h := ?_)
           refine zp 10 24 (hy := by
             intro w'
             go_simp
             with_reducible rfl) (h := ?_)
           refine zp 11 25 (hy := by
             intro w'
             go_simp
             with_reducible rfl) (h := ?_)
           refine zt 12 26 (hy := by
             rintro w' ⟨s0, s1, s2, s3, s4, s5, s6, s7, s8, s9, s10⟩
             go_simp
             with_reducible rfl) (h := ?_)
           refine zt 13 27 (hy := by
             rintro w' ⟨s0, s1, s2, s3, s4, s5, s6, s7, s8, s9, s10⟩
             go_simp
             with_reducible rfl) (h := ?_)
           refine zo 14 28 (h := fun K hK => ?_)
           refine goes_ Try.func42 (by kernel_rfl) rfl #[.agg #[.int .i64 ((rd_T41 l1 (ji14)).f0), .int .i64 ((rd_T41 l1 (ji14)).f1), .string ((rd_T41 l1 (ji14)).f2), .int .i64 ((rd_T41 l1 (ji14)).f3)], .agg #[.int .i64 ((rd_T41 l1 x9_1).f0), .int .i64 ((rd_T41 l1 x9_1).f1), .string ((rd_T41 l1 x9_1).f2), .int .i64 ((rd_T41 l1 x9_1).f3)]] (by rfl) rfl rfl (by (try simp only [List.map_toArray, List.map_cons, List.map_nil]); first | done | (simp only [hji14]; rfl) | rfl | (simp only [List.length_drop, List.length_take]; rfl)) ?_
           with_reducible refine (e_order.calls k1 ((rd_T41 l1 (ji14)).f0) ((rd_T41 l1 (ji14)).f1) ((rd_T41 l1 (ji14)).f2) ((rd_T41 l1 (ji14)).f3) ((rd_T41 l1 x9_1).f0) ((rd_T41 l1 x9_1).f1) ((rd_T41 l1 x9_1).f2) ((rd_T41 l1 x9_1).f3) t121 _ A17.out).mono ?_
           rintro e w21 ⟨rfl, hb⟩
           refine ⟨_, rfl, ?_⟩
           have n0_ := zm (blk_below (g := gb116) zK hb)
           have n1_ := zm (blk_below (g := gb118) zK hb)
           have n2_ := zm (below_step zG hb)
           clear BK116
           clear BK118
           clear HB
           have BK116 := n0_
           have BK118 := n1_
           have HB := n2_
           clear n0_ n1_ n2_
           (try clear hb)
           (try clear hb2)
           (try clear hk)
           (try clear hi)
           refine hK.out _ _ ⟨zj BK116.out 0, zj BK116.out 1, zj BK116.out 2, zj BK118.out 0, zj BK118.out 1, zj BK118.out 2, zj BK118.out 3, (zH HB.out hw120_0), (zH HB.out hw120_1), (zH HB.out hw120_2), (zH HB.out hw120_3)⟩ (fun hHeld => ?_)
           clear hK K
           refine zn (h := ?_)
           refine zp 15 29 (hy := by
             intro w'
             go_simp
             with_reducible rfl) (h := ?_)
           refine zp 16 30 (hy := by
             intro w'
             go_simp
             with_reducible rfl) (h := ?_)
           refine zp 17 31 (hy := by
             intro w'
             go_simp
             with_reducible rfl) (h := ?_)
           refine done_ (done_of HT_.out (by kernel_rfl)) ?_
           try go_wp2
           go_meet
           case rel => exact ⟨_, (decide (t121 ≥ 0)), zR, H', ⟨by have := HK1.out; first | omega | exact Nat.le_refl _⟩, ⟨zK⟩, ⟨zK⟩, ⟨zG⟩⟩
          ·rw [if_neg c16] at H
           exact absurd H (by simp)
         ·rw [if_neg c15] at H
          exact absurd H (by simp)
        ·rw [if_neg c13] at H
         have c13b0 : decide (0 < x9_1) = false := decide_eq_false c13
         clear c13
         (first | rw [c13b0] | (simp only [i64_w, i32_w]; rw [c13b0]) | skip)
         have H' := zm H
         clear H
         try go_wp2
         have n0_ : Aside0 (((((w8.setCell ⟨gb118, 0, none⟩ (.int .i64 ((rd_T41 l1 x9_1).f0))).setCell ⟨gb118, 1, none⟩ (.int .i64 ((rd_T41 l1 x9_1).f1))).setCell ⟨gb118, 2, none⟩ (.string ((rd_T41 l1 x9_1).f2))).setCell ⟨gb118, 3, none⟩ (.int .i64 ((rd_T41 l1 x9_1).f3))).heap[gb116]? = some (.cells #[.int .i64 a0_0, .slice A0_1 l0_1.length c0_1, .slice A0_2 l0_2.length c0_2] 25 (0, 0))) := ⟨by (with_reducible repeat (first | refine blk_drewN ?_ _ | refine blk_drew ?_ | refine blk_alloc ?_ _)); refine blk_far ?_ NB116_118.out _; (with_reducible repeat (first | refine blk_drewN ?_ _ | refine blk_drew ?_ | refine blk_alloc ?_ _)); refine blk_far ?_ NB116_118.out _; (with_reducible repeat (first | refine blk_drewN ?_ _ | refine blk_drew ?_ | refine blk_alloc ?_ _)); refine blk_far ?_ NB116_118.out _; (with_reducible repeat (first | refine blk_drewN ?_ _ | refine blk_drew ?_ | refine blk_alloc ?_ _)); refine blk_far ?_ NB116_118.out _; (with_reducible repeat (first | refine blk_drewN ?_ _ | refine blk_drew ?_ | refine blk_alloc ?_ _)); exact BK116.out⟩
         have n1_ : Aside0 (((((w8.setCell ⟨gb118, 0, none⟩ (.int .i64 ((rd_T41 l1 x9_1).f0))).setCell ⟨gb118, 1, none⟩ (.int .i64 ((rd_T41 l1 x9_1).f1))).setCell ⟨gb118, 2, none⟩ (.string ((rd_T41 l1 x9_1).f2))).setCell ⟨gb118, 3, none⟩ (.int .i64 ((rd_T41 l1 x9_1).f3))).heap[gb118]? = some (.cells #[.int .i64 ((rd_T41 l1 x9_1).f0), .int .i64 ((rd_T41 l1 x9_1).f1), .string ((rd_T41 l1 x9_1).f2), .int .i64 ((rd_T41 l1 x9_1).f3)] 41 (0, 0))) := ⟨by (with_reducible repeat (first | refine blk_drewN ?_ _ | refine blk_drew ?_ | refine blk_alloc ?_ _)); refine blk_put (cs := #[.int .i64 ((rd_T41 l1 x9_1).f0), .int .i64 ((rd_T41 l1 x9_1).f1), .string ((rd_T41 l1 x9_1).f2), .int .i64 0]) ?_ 3 _ rfl; (with_reducible repeat (first | refine blk_drewN ?_ _ | refine blk_drew ?_ | refine blk_alloc ?_ _)); refine blk_put (cs := #[.int .i64 ((rd_T41 l1 x9_1).f0), .int .i64 ((rd_T41 l1 x9_1).f1), .string (⟨#[]⟩ : ByteArray), .int .i64 0]) ?_ 2 _ rfl; (with_reducible repeat (first | refine blk_drewN ?_ _ | refine blk_drew ?_ | refine blk_alloc ?_ _)); refine blk_put (cs := #[.int .i64 ((rd_T41 l1 x9_1).f0), .int .i64 0, .string (⟨#[]⟩ : ByteArray), .int .i64 0]) ?_ 1 _ rfl; (with_reducible repeat (first | refine blk_drewN ?_ _ | refine blk_drew ?_ | refine blk_alloc ?_ _)); refine blk_put (cs := #[.int .i64 0, .int .i64 0, .string (⟨#[]⟩ : ByteArray), .int .i64 0]) ?_ 0 _ rfl; (with_reducible repeat (first | refine blk_drewN ?_ _ | refine blk_drew ?_ | refine blk_alloc ?_ _)); exact BK118.out⟩
         have n2_ : Aside0 (Below w.heap.size w ((((w8.setCell ⟨gb118, 0, none⟩ (.int .i64 ((rd_T41 l1 x9_1).f0))).setCell ⟨gb118, 1, none⟩ (.int .i64 ((rd_T41 l1 x9_1).f1))).setCell ⟨gb118, 2, none⟩ (.string ((rd_T41 l1 x9_1).f2))).setCell ⟨gb118, 3, none⟩ (.int .i64 ((rd_T41 l1 x9_1).f3)))) := ⟨zG⟩
         (try clear BK116)
         (try clear BK118)
         (try clear HB)
         generalize ((((w8.setCell ⟨gb118, 0, none⟩ (.int .i64 ((rd_T41 l1 x9_1).f0))).setCell ⟨gb118, 1, none⟩ (.int .i64 ((rd_T41 l1 x9_1).f1))).setCell ⟨gb118, 2, none⟩ (.string ((rd_T41 l1 x9_1).f2))).setCell ⟨gb118, 3, none⟩ (.int .i64 ((rd_T41 l1 x9_1).f3))) = w22 at n0_ n1_ n2_ ⊢
         have BK116 := n0_
         have BK118 := n1_
         have HB := n2_
         clear n0_ n1_ n2_
         have n0_ := zm (blk_drew BK116.out)
         have n1_ := zm (blk_drew BK118.out)
         have n2_ := zm (below_drew1 HB.out)
         clear BK116
         clear BK118
         clear HB
         have BK116 := n0_
         have BK118 := n1_
         have HB := n2_
         clear n0_ n1_ n2_
         refine start_ (n := 18) (S := fun w' => w'.cell? ⟨gb116, 0, none⟩ = some (.int .i64 a0_0) ∧ w'.cell? ⟨gb116, 1, none⟩ = some (.slice A0_1 l0_1.length c0_1) ∧ w'.cell? ⟨gb116, 2, none⟩ = some (.slice A0_2 l0_2.length c0_2) ∧ w'.cell? ⟨gb118, 0, none⟩ = some (.int .i64 ((rd_T41 l1 x9_1).f0)) ∧ w'.cell? ⟨gb118, 1, none⟩ = some (.int .i64 ((rd_T41 l1 x9_1).f1)) ∧ w'.cell? ⟨gb118, 2, none⟩ = some (.string ((rd_T41 l1 x9_1).f2)) ∧ w'.cell? ⟨gb118, 3, none⟩ = some (.int .i64 ((rd_T41 l1 x9_1).f3))) (ds := []) #[false, false, false, false, false, false, false, false, false, false, false, false, false, false, false, false, false, false] (by kernel_rfl) rfl rfl ⟨zj BK116.out 0, zj BK116.out 1, zj BK116.out 2, zj BK118.out 0, zj BK118.out 1, zj BK118.out 2, zj BK118.out 3⟩ (fun hHeld => ?_); refine with_tabW e_areRight.tab4 e_areRight.bits4 (fun HT_ HW_ => ?_)
         generalize w22.drew = w23 at BK116 BK118 HB hHeld ⊢
         refine zt 0 14 (hy := by
           rintro w' ⟨s0, s1, s2, s3, s4, s5, s6⟩
           go_simp
           with_reducible rfl) (h := ?_)
         refine zt 1 15 (hy := by
           rintro w' ⟨s0, s1, s2, s3, s4, s5, s6⟩
           go_simp
           with_reducible rfl) (h := ?_)
         refine zo 2 16 (h := fun K hK => ?_)
         refine goes_ Try.func50 (by kernel_rfl) rfl #[.agg #[.int .i64 a0_0, .slice A0_1 l0_1.length c0_1, .slice A0_2 l0_2.length c0_2], .agg #[.int .i64 ((rd_T41 l1 x9_1).f0), .int .i64 ((rd_T41 l1 x9_1).f1), .string ((rd_T41 l1 x9_1).f2), .int .i64 ((rd_T41 l1 x9_1).f3)]] (by rfl) rfl rfl zP ?_
         with_reducible refine (e_fits.calls k1 a0_0 _ _ l0_1 _ _ l0_2 ((rd_T41 l1 x9_1).f0) ((rd_T41 l1 x9_1).f1) ((rd_T41 l1 x9_1).f2) ((rd_T41 l1 x9_1).f3) true _ ?side1 ?side2 ?side3 ?side4 A11.out).mono ?_
         (case side1 => exact zC (Kd.C_below HR0_1.out HB.out))
         (case side2 => exact HC0_1.out)
         (case side3 => exact zC (Kd.C_below HR0_2.out HB.out))
         (case side4 => exact HC0_2.out)
         rintro e w24 ⟨rfl, hb⟩
         refine ⟨_, rfl, ?_⟩
         have n0_ := zm (blk_below (g := gb116) zK hb)
         have n1_ := zm (blk_below (g := gb118) zK hb)
         have n2_ := zm (below_step zG hb)
         clear BK116
         clear BK118
         clear HB
         have BK116 := n0_
         have BK118 := n1_
         have HB := n2_
         clear n0_ n1_ n2_
         (try clear hb)
         (try clear hb2)
         (try clear hk)
         (try clear hi)
         refine hK.out _ _ ⟨zj BK116.out 0, zj BK116.out 1, zj BK116.out 2, zj BK118.out 0, zj BK118.out 1, zj BK118.out 2, zj BK118.out 3⟩ (fun hHeld => ?_)
         clear hK K
         refine zn (h := ?_)
         refine zp 3 17 (hy := by
           intro w'
           go_simp
           with_reducible rfl) (h := ?_)
         refine zp 4 18 (hy := by
           intro w'
           go_simp
           with_reducible rfl) (h := ?_)
         refine zp 5 19 (hy := by
           intro w'
           go_simp
           with_reducible rfl) (h := ?_)
         refine zp 6 20 (hy := by
           intro w'
           go_simp
           with_reducible rfl) (h := ?_)
         refine zp 7 21 (hy := by
           intro w'
           go_simp
           with_reducible rfl) (h := ?_)
         refine zu 8 22 (h := ?_)
         refine zu 9 23 (h := ?_)
         refine zu 10 24 (h := ?_)
         refine zu 11 25 (h := ?_)
         refine zu 12 26 (h := ?_)
         refine zu 13 27 (h := ?_)
         refine zu 14 28 (h := ?_)
         refine zu 15 29 (h := ?_)
         refine zp 16 30 (hy := by
           intro w'
           go_simp
           with_reducible rfl) (h := ?_)
         refine zp 17 31 (hy := by
           intro w'
           go_simp
           with_reducible rfl) (h := ?_)
         refine done_ (done_of HT_.out (by kernel_rfl)) ?_
         try go_wp2
         go_meet
         case rel => exact ⟨_, (false), zR, H', ⟨by have := HK1.out; first | omega | exact Nat.le_refl _⟩, ⟨zK⟩, ⟨zK⟩, ⟨zG⟩⟩
       ·replace c12 := Bool.eq_false_iff.mpr c12
        subst c12
        rw [if_neg (show ¬ (false = true) by decide)] at H
        have H' := zm H
        clear H
        try go_wp2
        have n0_ : Aside0 (((((w8.setCell ⟨gb118, 0, none⟩ (.int .i64 ((rd_T41 l1 x9_1).f0))).setCell ⟨gb118, 1, none⟩ (.int .i64 ((rd_T41 l1 x9_1).f1))).setCell ⟨gb118, 2, none⟩ (.string ((rd_T41 l1 x9_1).f2))).setCell ⟨gb118, 3, none⟩ (.int .i64 ((rd_T41 l1 x9_1).f3))).heap[gb116]? = some (.cells #[.int .i64 a0_0, .slice A0_1 l0_1.length c0_1, .slice A0_2 l0_2.length c0_2] 25 (0, 0))) := ⟨by (with_reducible repeat (first | refine blk_drewN ?_ _ | refine blk_drew ?_ | refine blk_alloc ?_ _)); refine blk_far ?_ NB116_118.out _; (with_reducible repeat (first | refine blk_drewN ?_ _ | refine blk_drew ?_ | refine blk_alloc ?_ _)); refine blk_far ?_ NB116_118.out _; (with_reducible repeat (first | refine blk_drewN ?_ _ | refine blk_drew ?_ | refine blk_alloc ?_ _)); refine blk_far ?_ NB116_118.out _; (with_reducible repeat (first | refine blk_drewN ?_ _ | refine blk_drew ?_ | refine blk_alloc ?_ _)); refine blk_far ?_ NB116_118.out _; (with_reducible repeat (first | refine blk_drewN ?_ _ | refine blk_drew ?_ | refine blk_alloc ?_ _)); exact BK116.out⟩
        have n1_ : Aside0 (((((w8.setCell ⟨gb118, 0, none⟩ (.int .i64 ((rd_T41 l1 x9_1).f0))).setCell ⟨gb118, 1, none⟩ (.int .i64 ((rd_T41 l1 x9_1).f1))).setCell ⟨gb118, 2, none⟩ (.string ((rd_T41 l1 x9_1).f2))).setCell ⟨gb118, 3, none⟩ (.int .i64 ((rd_T41 l1 x9_1).f3))).heap[gb118]? = some (.cells #[.int .i64 ((rd_T41 l1 x9_1).f0), .int .i64 ((rd_T41 l1 x9_1).f1), .string ((rd_T41 l1 x9_1).f2), .int .i64 ((rd_T41 l1 x9_1).f3)] 41 (0, 0))) := ⟨by (with_reducible repeat (first | refine blk_drewN ?_ _ | refine blk_drew ?_ | refine blk_alloc ?_ _)); refine blk_put (cs := #[.int .i64 ((rd_T41 l1 x9_1).f0), .int .i64 ((rd_T41 l1 x9_1).f1), .string ((rd_T41 l1 x9_1).f2), .int .i64 0]) ?_ 3 _ rfl; (with_reducible repeat (first | refine blk_drewN ?_ _ | refine blk_drew ?_ | refine blk_alloc ?_ _)); refine blk_put (cs := #[.int .i64 ((rd_T41 l1 x9_1).f0), .int .i64 ((rd_T41 l1 x9_1).f1), .string (⟨#[]⟩ : ByteArray), .int .i64 0]) ?_ 2 _ rfl; (with_reducible repeat (first | refine blk_drewN ?_ _ | refine blk_drew ?_ | refine blk_alloc ?_ _)); refine blk_put (cs := #[.int .i64 ((rd_T41 l1 x9_1).f0), .int .i64 0, .string (⟨#[]⟩ : ByteArray), .int .i64 0]) ?_ 1 _ rfl; (with_reducible repeat (first | refine blk_drewN ?_ _ | refine blk_drew ?_ | refine blk_alloc ?_ _)); refine blk_put (cs := #[.int .i64 0, .int .i64 0, .string (⟨#[]⟩ : ByteArray), .int .i64 0]) ?_ 0 _ rfl; (with_reducible repeat (first | refine blk_drewN ?_ _ | refine blk_drew ?_ | refine blk_alloc ?_ _)); exact BK118.out⟩
        have n2_ : Aside0 (Below w.heap.size w ((((w8.setCell ⟨gb118, 0, none⟩ (.int .i64 ((rd_T41 l1 x9_1).f0))).setCell ⟨gb118, 1, none⟩ (.int .i64 ((rd_T41 l1 x9_1).f1))).setCell ⟨gb118, 2, none⟩ (.string ((rd_T41 l1 x9_1).f2))).setCell ⟨gb118, 3, none⟩ (.int .i64 ((rd_T41 l1 x9_1).f3)))) := ⟨zG⟩
        (try clear BK116)
        (try clear BK118)
        (try clear HB)
        generalize ((((w8.setCell ⟨gb118, 0, none⟩ (.int .i64 ((rd_T41 l1 x9_1).f0))).setCell ⟨gb118, 1, none⟩ (.int .i64 ((rd_T41 l1 x9_1).f1))).setCell ⟨gb118, 2, none⟩ (.string ((rd_T41 l1 x9_1).f2))).setCell ⟨gb118, 3, none⟩ (.int .i64 ((rd_T41 l1 x9_1).f3))) = w25 at n0_ n1_ n2_ ⊢
        have BK116 := n0_
        have BK118 := n1_
        have HB := n2_
        clear n0_ n1_ n2_
        have n0_ := zm (blk_drew BK116.out)
        have n1_ := zm (blk_drew BK118.out)
        have n2_ := zm (below_drew1 HB.out)
        clear BK116
        clear BK118
        clear HB
        have BK116 := n0_
        have BK118 := n1_
        have HB := n2_
        clear n0_ n1_ n2_
        refine start_ (n := 18) (S := fun w' => w'.cell? ⟨gb116, 0, none⟩ = some (.int .i64 a0_0) ∧ w'.cell? ⟨gb116, 1, none⟩ = some (.slice A0_1 l0_1.length c0_1) ∧ w'.cell? ⟨gb116, 2, none⟩ = some (.slice A0_2 l0_2.length c0_2) ∧ w'.cell? ⟨gb118, 0, none⟩ = some (.int .i64 ((rd_T41 l1 x9_1).f0)) ∧ w'.cell? ⟨gb118, 1, none⟩ = some (.int .i64 ((rd_T41 l1 x9_1).f1)) ∧ w'.cell? ⟨gb118, 2, none⟩ = some (.string ((rd_T41 l1 x9_1).f2)) ∧ w'.cell? ⟨gb118, 3, none⟩ = some (.int .i64 ((rd_T41 l1 x9_1).f3))) (ds := []) #[false, false, false, false, false, false, false, false, false, false, false, false, false, false, false, false, false, false] (by kernel_rfl) rfl rfl ⟨zj BK116.out 0, zj BK116.out 1, zj BK116.out 2, zj BK118.out 0, zj BK118.out 1, zj BK118.out 2, zj BK118.out 3⟩ (fun hHeld => ?_); refine with_tabW e_areRight.tab4 e_areRight.bits4 (fun HT_ HW_ => ?_)
        generalize w25.drew = w26 at BK116 BK118 HB hHeld ⊢
        refine zt 0 14 (hy := by
          rintro w' ⟨s0, s1, s2, s3, s4, s5, s6⟩
          go_simp
          with_reducible rfl) (h := ?_)
        refine zt 1 15 (hy := by
          rintro w' ⟨s0, s1, s2, s3, s4, s5, s6⟩
          go_simp
          with_reducible rfl) (h := ?_)
        refine zo 2 16 (h := fun K hK => ?_)
        refine goes_ Try.func50 (by kernel_rfl) rfl #[.agg #[.int .i64 a0_0, .slice A0_1 l0_1.length c0_1, .slice A0_2 l0_2.length c0_2], .agg #[.int .i64 ((rd_T41 l1 x9_1).f0), .int .i64 ((rd_T41 l1 x9_1).f1), .string ((rd_T41 l1 x9_1).f2), .int .i64 ((rd_T41 l1 x9_1).f3)]] (by rfl) rfl rfl zP ?_
        with_reducible refine (e_fits.calls k1 a0_0 _ _ l0_1 _ _ l0_2 ((rd_T41 l1 x9_1).f0) ((rd_T41 l1 x9_1).f1) ((rd_T41 l1 x9_1).f2) ((rd_T41 l1 x9_1).f3) false _ ?side1 ?side2 ?side3 ?side4 A11.out).mono ?_
        (case side1 => exact zC (Kd.C_below HR0_1.out HB.out))
        (case side2 => exact HC0_1.out)
        (case side3 => exact zC (Kd.C_below HR0_2.out HB.out))
        (case side4 => exact HC0_2.out)
        rintro e w27 ⟨rfl, hb⟩
        refine ⟨_, rfl, ?_⟩
        have n0_ := zm (blk_below (g := gb116) zK hb)
        have n1_ := zm (blk_below (g := gb118) zK hb)
        have n2_ := zm (below_step zG hb)
        clear BK116
        clear BK118
        clear HB
        have BK116 := n0_
        have BK118 := n1_
        have HB := n2_
        clear n0_ n1_ n2_
        (try clear hb)
        (try clear hb2)
        (try clear hk)
        (try clear hi)
        refine hK.out _ _ ⟨zj BK116.out 0, zj BK116.out 1, zj BK116.out 2, zj BK118.out 0, zj BK118.out 1, zj BK118.out 2, zj BK118.out 3⟩ (fun hHeld => ?_)
        clear hK K
        refine zn (h := ?_)
        refine zp 3 17 (hy := by
          intro w'
          go_simp
          with_reducible rfl) (h := ?_)
        refine zp 4 18 (hy := by
          intro w'
          go_simp
          with_reducible rfl) (h := ?_)
        refine zu 5 19 (h := ?_)
        refine zu 6 20 (h := ?_)
        refine zu 7 21 (h := ?_)
        refine zu 8 22 (h := ?_)
        refine zu 9 23 (h := ?_)
        refine zu 10 24 (h := ?_)
        refine zu 11 25 (h := ?_)
        refine zu 12 26 (h := ?_)
        refine zu 13 27 (h := ?_)
        refine zu 14 28 (h := ?_)
        refine zu 15 29 (h := ?_)
        refine zu 16 30 (h := ?_)
        refine zp 17 31 (hy := by
          intro w'
          go_simp
          with_reducible rfl) (h := ?_)
        refine done_ (done_of HT_.out (by kernel_rfl)) ?_
        try go_wp2
        go_meet
        case rel => exact ⟨_, (true), zR, H', ⟨by have := HK1.out; first | omega | exact Nat.le_refl _⟩, ⟨zK⟩, ⟨zK⟩, ⟨zG⟩⟩
      case rest =>
       clear HC7
       clear hcz10_0 hcz10_1 hcz10_2 hcz10_3 hfz10_0 hfz10_1 hfz10_2 hfz10_3 hx117_1 hx117_2 hx117_3 p117 q117
       obtain ⟨kq, x31_6, rfl, HA, HJ6, BK116, BK118, HB⟩ := hcut
       cases kq with
       | zero => exact absurd HA.out (by simp [e_areRight.j1])
       | succ kj6 =>
        have H := HA.out
        clear HA
        simp only [e_areRight.j1] at H
        by_cases c28 : x31_6 = true
        ·subst c28
         rw [if_pos rfl] at H
         obtain rfl := Option.some.inj H
         go_wp2
         go_ret
         exact ⟨zE, zG⟩
        ·replace c28 := Bool.eq_false_iff.mpr c28
         subst c28
         rw [if_neg (show ¬ (false = true) by decide)] at H
         have H' := zm H
         clear H
         go_wp2
         go_roundg kj6
         case measure => have := HK1.out; have := HJ6.out; omega
         case rel => exact ⟨(wrap64 (x9_1 + 1)), zR, H', ⟨by have := HK1.out; have := HJ6.out; omega⟩, ⟨zK⟩, ⟨zG⟩⟩
     ·rw [if_neg c6] at H
      exact absurd H (by simp)
    ·rw [if_neg c5] at H
     exact absurd H (by simp)
   ·rw [if_neg c4] at H
    have c4b0 : decide (x9_1 < (l1.length : Int)) = false := decide_eq_false c4
    clear c4
    obtain rfl := Option.some.inj H
    go_wp2
    go_ret
    exact ⟨zE, zG⟩
end Go.Proofs.Ytngppcmdaanheaa.Pr
namespace Go.Proofs.Ytngppcmdaanheaa.Pr
open Go.RowKit Go.Proofs.Ytngppcmdaanheaa.Ls Go.Proofs.Ytngppcmdaanheaa.Va Go.Proofs.YtngppcmdaanheaaW.PrintWords Go.Proofs.YtngppcmdaanheaaW.PrintLast Go.Proofs.YtngppcmdaanheaaW.PrintMore
attribute [local go_sem] max2_int min2_int max_two min_two
set_option linter.unusedVariables false
set_option linter.unusedSimpArgs false
/-! ### e_check: function 20 -/
def e_check.f (k : Nat) (a0_0 : Int) (l0_1 : List (S44)) (l0_2 : List (S46)) (l1 : List (S41)) : Option (Int) := (v_Right.f a0_0 l0_1 l0_2).bind fun t123 => (if t123 = true then ((e_areRight.f k a0_0 l0_1 l0_2 l1).bind fun t124 => (if t124 = true then (some 0) else (some 140))) else (some 100))
set_option maxHeartbeats 8000000 in
set_option maxRecDepth 100000 in
theorem e_check.calls (k : Nat) (a0_0 : Int) (A0_1 : Option Addr) (c0_1 : Nat) (l0_1 : List (S44)) (A0_2 : Option Addr) (c0_2 : Nat) (l0_2 : List (S46)) (A1 : Option Addr) (c1 : Nat) (l1 : List (S41)) (r : Int) (w : World) (hr0_1 : Kd.C k44 w A0_1 l0_1.length l0_1) (hc0_1 : l0_1.length ≤ c0_1) (hr0_2 : Kd.C k46 w A0_2 l0_2.length l0_2) (hc0_2 : l0_2.length ≤ c0_2) (hr1 : Kd.C k41 w A1 l1.length l1) (hc1 : l1.length ≤ c1) (h : e_check.f k a0_0 l0_1 l0_2 l1 = some r) :
  Calls Try.prog 20 #[.agg #[.int .i64 a0_0, .slice A0_1 l0_1.length c0_1, .slice A0_2 l0_2.length c0_2], .slice A1 l1.length c1] w fun e w' => e = .returned (.int .i64 r) ∧ Below w.heap.size w w' := by
 have hu25 := Try.underlying25
 have HR0_1 := zm hr0_1
 have HC0_1 := zm hc0_1
 clear hr0_1 hc0_1
 have HR0_2 := zm hr0_2
 have HC0_2 := zm hc0_2
 clear hr0_2 hc0_2
 have HR1 := zm hr1
 have HC1 := zm hc1
 clear hr1 hc1
 have HB := zm (Below.refl w.heap.size w)
 have H : ((v_Right.f a0_0 l0_1 l0_2).bind fun t123 => (if t123 = true then ((e_areRight.f k a0_0 l0_1 l0_2 l1).bind fun t124 => (if t124 = true then (some 0) else (some 140))) else (some 100))) = some r := h
 clear h
 obtain ⟨t123, A3, H⟩ := zO H
 by_cases c4 : t123 = true
 ·subst c4
  rw [if_pos rfl] at H
  obtain ⟨t124, A5, H⟩ := zO H
  by_cases c6 : t124 = true
  ·subst c6
   rw [if_pos rfl] at H
   obtain rfl := Option.some.inj H
   go_enter Try.func20, Try.ntmps20
   go_wp2_with (first | ((with_reducible refine gate_dst (N := 2) rfl ?_); refine zX (N := 2) (cs := #[.int .i64 a0_0, .slice A0_1 l0_1.length c0_1, .slice A0_2 l0_2.length c0_2]) (t := 25) (h := ?_); intro gb122 hg w7 hbox hb; have BK122 := zm hbox; have GW122 := zm ((zS : w.heap.size ≤ gb122)); have GE122 := zm ((zS : w.heap.size ≤ gb122)); replace HB := zm (below_step zB hb); clear hb hbox hg; obtain ⟨hcz8_0, hcz8_1, hcz8_2, hfz8_0, hfz8_1, hfz8_2⟩ := zd3 BK122.out (.int .i64 a0_0) (.slice A0_1 l0_1.length c0_1) (.slice A0_2 l0_2.length c0_2)) | ((with_reducible refine gate_callee (f := 32) rfl ?_); refine goesL_ (some 7) rfl rfl Try.func32 (by kernel_rfl) rfl #[.agg #[.int .i64 a0_0, .slice A0_1 l0_1.length c0_1, .slice A0_2 l0_2.length c0_2]] rfl zP ?_; (with_reducible refine (v_Right.calls a0_0 _ _ l0_1 _ _ l0_2 true _ ?side1 ?side2 ?side3 ?side4 A3.out).mono ?_); (case side1 => exact zC (Kd.C_below HR0_1.out HB.out)); (case side2 => exact HC0_1.out); (case side3 => exact zC (Kd.C_below HR0_2.out HB.out)); (case side4 => exact HC0_2.out); rintro e w9 ⟨rfl, hb⟩; refine ⟨_, rfl, ?_⟩; replace BK122 := zm (blk_below (g := gb122) zK hb); replace HB := zm (below_step zG hb); (try clear hb); obtain ⟨hcz10_0, hcz10_1, hcz10_2, hfz10_0, hfz10_1, hfz10_2⟩ := zd3 BK122.out (.int .i64 a0_0) (.slice A0_1 l0_1.length c0_1) (.slice A0_2 l0_2.length c0_2)) | ((with_reducible refine gate_callee (f := 33) rfl ?_); refine goesL_ (some 12) rfl rfl Try.func33 (by kernel_rfl) rfl #[.agg #[.int .i64 a0_0, .slice A0_1 l0_1.length c0_1, .slice A0_2 l0_2.length c0_2], .slice A1 l1.length c1] rfl zP ?_; (with_reducible refine (e_areRight.calls k a0_0 _ _ l0_1 _ _ l0_2 _ _ l1 true _ ?side1 ?side2 ?side3 ?side4 ?side5 ?side6 A5.out).mono ?_); (case side1 => exact zC (Kd.C_below HR0_1.out HB.out)); (case side2 => exact HC0_1.out); (case side3 => exact zC (Kd.C_below HR0_2.out HB.out)); (case side4 => exact HC0_2.out); (case side5 => exact zC (Kd.C_below HR1.out HB.out)); (case side6 => exact HC1.out); rintro e w11 ⟨rfl, hb⟩; refine ⟨_, rfl, ?_⟩; replace BK122 := zm (blk_below (g := gb122) zK hb); replace HB := zm (below_step zG hb); (try clear hb)))
   go_ret
   exact ⟨zE, zG⟩
  ·replace c6 := Bool.eq_false_iff.mpr c6
   subst c6
   rw [if_neg (show ¬ (false = true) by decide)] at H
   obtain rfl := Option.some.inj H
   go_enter Try.func20, Try.ntmps20
   go_wp2_with (first | ((with_reducible refine gate_dst (N := 2) rfl ?_); refine zX (N := 2) (cs := #[.int .i64 a0_0, .slice A0_1 l0_1.length c0_1, .slice A0_2 l0_2.length c0_2]) (t := 25) (h := ?_); intro gb122 hg w12 hbox hb; have BK122 := zm hbox; have GW122 := zm ((zS : w.heap.size ≤ gb122)); have GE122 := zm ((zS : w.heap.size ≤ gb122)); replace HB := zm (below_step zB hb); clear hb hbox hg; obtain ⟨hcz13_0, hcz13_1, hcz13_2, hfz13_0, hfz13_1, hfz13_2⟩ := zd3 BK122.out (.int .i64 a0_0) (.slice A0_1 l0_1.length c0_1) (.slice A0_2 l0_2.length c0_2)) | ((with_reducible refine gate_callee (f := 32) rfl ?_); refine goesL_ (some 7) rfl rfl Try.func32 (by kernel_rfl) rfl #[.agg #[.int .i64 a0_0, .slice A0_1 l0_1.length c0_1, .slice A0_2 l0_2.length c0_2]] rfl zP ?_; (with_reducible refine (v_Right.calls a0_0 _ _ l0_1 _ _ l0_2 true _ ?side1 ?side2 ?side3 ?side4 A3.out).mono ?_); (case side1 => exact zC (Kd.C_below HR0_1.out HB.out)); (case side2 => exact HC0_1.out); (case side3 => exact zC (Kd.C_below HR0_2.out HB.out)); (case side4 => exact HC0_2.out); rintro e w14 ⟨rfl, hb⟩; refine ⟨_, rfl, ?_⟩; replace BK122 := zm (blk_below (g := gb122) zK hb); replace HB := zm (below_step zG hb); (try clear hb); obtain ⟨hcz15_0, hcz15_1, hcz15_2, hfz15_0, hfz15_1, hfz15_2⟩ := zd3 BK122.out (.int .i64 a0_0) (.slice A0_1 l0_1.length c0_1) (.slice A0_2 l0_2.length c0_2)) | ((with_reducible refine gate_callee (f := 33) rfl ?_); refine goesL_ (some 12) rfl rfl Try.func33 (by kernel_rfl) rfl #[.agg #[.int .i64 a0_0, .slice A0_1 l0_1.length c0_1, .slice A0_2 l0_2.length c0_2], .slice A1 l1.length c1] rfl zP ?_; (with_reducible refine (e_areRight.calls k a0_0 _ _ l0_1 _ _ l0_2 _ _ l1 false _ ?side1 ?side2 ?side3 ?side4 ?side5 ?side6 A5.out).mono ?_); (case side1 => exact zC (Kd.C_below HR0_1.out HB.out)); (case side2 => exact HC0_1.out); (case side3 => exact zC (Kd.C_below HR0_2.out HB.out)); (case side4 => exact HC0_2.out); (case side5 => exact zC (Kd.C_below HR1.out HB.out)); (case side6 => exact HC1.out); rintro e w16 ⟨rfl, hb⟩; refine ⟨_, rfl, ?_⟩; replace BK122 := zm (blk_below (g := gb122) zK hb); replace HB := zm (below_step zG hb); (try clear hb)))
   go_ret
   exact ⟨zE, zG⟩
 ·replace c4 := Bool.eq_false_iff.mpr c4
  subst c4
  rw [if_neg (show ¬ (false = true) by decide)] at H
  obtain rfl := Option.some.inj H
  go_enter Try.func20, Try.ntmps20
  go_wp2_with (first | ((with_reducible refine gate_dst (N := 2) rfl ?_); refine zX (N := 2) (cs := #[.int .i64 a0_0, .slice A0_1 l0_1.length c0_1, .slice A0_2 l0_2.length c0_2]) (t := 25) (h := ?_); intro gb122 hg w17 hbox hb; have BK122 := zm hbox; have GW122 := zm ((zS : w.heap.size ≤ gb122)); have GE122 := zm ((zS : w.heap.size ≤ gb122)); replace HB := zm (below_step zB hb); clear hb hbox hg; obtain ⟨hcz18_0, hcz18_1, hcz18_2, hfz18_0, hfz18_1, hfz18_2⟩ := zd3 BK122.out (.int .i64 a0_0) (.slice A0_1 l0_1.length c0_1) (.slice A0_2 l0_2.length c0_2)) | ((with_reducible refine gate_callee (f := 32) rfl ?_); refine goesL_ (some 7) rfl rfl Try.func32 (by kernel_rfl) rfl #[.agg #[.int .i64 a0_0, .slice A0_1 l0_1.length c0_1, .slice A0_2 l0_2.length c0_2]] rfl zP ?_; (with_reducible refine (v_Right.calls a0_0 _ _ l0_1 _ _ l0_2 false _ ?side1 ?side2 ?side3 ?side4 A3.out).mono ?_); (case side1 => exact zC (Kd.C_below HR0_1.out HB.out)); (case side2 => exact HC0_1.out); (case side3 => exact zC (Kd.C_below HR0_2.out HB.out)); (case side4 => exact HC0_2.out); rintro e w19 ⟨rfl, hb⟩; refine ⟨_, rfl, ?_⟩; replace BK122 := zm (blk_below (g := gb122) zK hb); replace HB := zm (below_step zG hb); (try clear hb)))
  go_ret
  exact ⟨zE, zG⟩
end Go.Proofs.Ytngppcmdaanheaa.Pr
namespace Go.Proofs.Ytngppcmdaanheaa.Pr
open Go.RowKit Go.Proofs.Ytngppcmdaanheaa.Ls Go.Proofs.Ytngppcmdaanheaa.Va Go.Proofs.YtngppcmdaanheaaW.PrintWords Go.Proofs.YtngppcmdaanheaaW.PrintLast Go.Proofs.YtngppcmdaanheaaW.PrintMore
attribute [local go_sem] max2_int min2_int max_two min_two
set_option linter.unusedVariables false
set_option linter.unusedSimpArgs false
/-! ### e_Round: function 11 -/
def e_Round.f (k : Nat) (a0_0 : Int) (l0_1 : List (S44)) (l0_2 : List (S46)) (l1 : List (S41)) : Option ((List (S41)) × Int) := (e_check.f k a0_0 l0_1 l0_2 l1).bind fun t126 => (if t126 = 0 then ((e_round.f a0_0 l0_1 l0_2 l1).bind fun t127 => (some (t127, 0))) else (some (([] : List (S41)), t126)))
set_option maxHeartbeats 8000000 in
set_option maxRecDepth 100000 in
theorem e_Round.calls (k : Nat) (a0_0 : Int) (A0_1 : Option Addr) (c0_1 : Nat) (l0_1 : List (S44)) (A0_2 : Option Addr) (c0_2 : Nat) (l0_2 : List (S46)) (A1 : Option Addr) (c1 : Nat) (l1 : List (S41)) (r1 : List (S41)) (r2 : Int) (w : World) (hr0_1 : Kd.C k44 w A0_1 l0_1.length l0_1) (hc0_1 : l0_1.length ≤ c0_1) (hr0_2 : Kd.C k46 w A0_2 l0_2.length l0_2) (hc0_2 : l0_2.length ≤ c0_2) (hr1 : Kd.C k41 w A1 l1.length l1) (hc1 : l1.length ≤ c1) (h : e_Round.f k a0_0 l0_1 l0_2 l1 = some (r1, r2)) :
  Calls Try.prog 11 #[.agg #[.int .i64 a0_0, .slice A0_1 l0_1.length c0_1, .slice A0_2 l0_2.length c0_2], .slice A1 l1.length c1] w fun e w' => ∃ v0_ : Value, e = .returned (.tuple #[v0_, .int .i64 r2]) ∧ Kd.V k41 41 w' w.heap.size (fun k_ => (w.heap.size ≤ k_)) v0_ r1 ∧ Below w.heap.size w w' := by
 have hu25 := Try.underlying25
 have HR0_1 := zm hr0_1
 have HC0_1 := zm hc0_1
 clear hr0_1 hc0_1
 have HR0_2 := zm hr0_2
 have HC0_2 := zm hc0_2
 clear hr0_2 hc0_2
 have HR1 := zm hr1
 have HC1 := zm hc1
 clear hr1 hc1
 have HB := zm (Below.refl w.heap.size w)
 have H : ((e_check.f k a0_0 l0_1 l0_2 l1).bind fun t126 => (if t126 = 0 then ((e_round.f a0_0 l0_1 l0_2 l1).bind fun t127 => (some (t127, 0))) else (some (([] : List (S41)), t126)))) = some (r1, r2) := h
 clear h
 obtain ⟨t126, A3, H⟩ := zO H
 by_cases c4 : t126 = 0
 ·rw [if_pos c4] at H
  have c4b0 : (t126 == 0) = true := beq_iff_eq.mpr c4
  have c4b1 : (t126 != 0) = false := bne_eq_false_iff_eq.mpr c4
  clear c4
  obtain ⟨t127, A5, H⟩ := zO H
  simp only [Option.some.injEq, Prod.mk.injEq] at H
  obtain ⟨rfl, rfl⟩ := H
  go_enter Try.func11, Try.ntmps11
  go_wp2_with (first | ((with_reducible refine gate_dst (N := 2) rfl ?_); refine zX (N := 2) (cs := #[.int .i64 a0_0, .slice A0_1 l0_1.length c0_1, .slice A0_2 l0_2.length c0_2]) (t := 25) (h := ?_); intro gb125 hg w6 hbox hb; have BK125 := zm hbox; have GW125 := zm ((zS : w.heap.size ≤ gb125)); have GE125 := zm ((zS : w.heap.size ≤ gb125)); replace HB := zm (below_step zB hb); clear hb hbox hg; obtain ⟨hcz7_0, hcz7_1, hcz7_2, hfz7_0, hfz7_1, hfz7_2⟩ := zd3 BK125.out (.int .i64 a0_0) (.slice A0_1 l0_1.length c0_1) (.slice A0_2 l0_2.length c0_2)) | ((with_reducible refine gate_callee (f := 20) rfl ?_); refine goesL_ (some 9) rfl rfl Try.func20 (by kernel_rfl) rfl #[.agg #[.int .i64 a0_0, .slice A0_1 l0_1.length c0_1, .slice A0_2 l0_2.length c0_2], .slice A1 l1.length c1] rfl zP ?_; (with_reducible refine (e_check.calls k a0_0 _ _ l0_1 _ _ l0_2 _ _ l1 t126 _ ?side1 ?side2 ?side3 ?side4 ?side5 ?side6 A3.out).mono ?_); (case side1 => exact zC (Kd.C_below HR0_1.out HB.out)); (case side2 => exact HC0_1.out); (case side3 => exact zC (Kd.C_below HR0_2.out HB.out)); (case side4 => exact HC0_2.out); (case side5 => exact zC (Kd.C_below HR1.out HB.out)); (case side6 => exact HC1.out); rintro e w8 ⟨rfl, hb⟩; refine ⟨_, rfl, ?_⟩; replace BK125 := zm (blk_below (g := gb125) zK hb); replace HB := zm (below_step zG hb); (try clear hb); obtain ⟨hcz9_0, hcz9_1, hcz9_2, hfz9_0, hfz9_1, hfz9_2⟩ := zd3 BK125.out (.int .i64 a0_0) (.slice A0_1 l0_1.length c0_1) (.slice A0_2 l0_2.length c0_2)) | ((with_reducible refine gate_callee (f := 21) rfl ?_); refine goesL_ (some 15) rfl rfl Try.func21 (by kernel_rfl) rfl #[.agg #[.int .i64 a0_0, .slice A0_1 l0_1.length c0_1, .slice A0_2 l0_2.length c0_2], .slice A1 l1.length c1] rfl zP ?_; (with_reducible refine (e_round.calls a0_0 _ _ l0_1 _ _ l0_2 _ _ l1 t127 _ ?side1 ?side2 ?side3 ?side4 ?side5 ?side6 A5.out).mono ?_); (case side1 => exact zC (Kd.C_below HR0_1.out HB.out)); (case side2 => exact HC0_1.out); (case side3 => exact zC (Kd.C_below HR0_2.out HB.out)); (case side4 => exact HC0_2.out); (case side5 => exact zC (Kd.C_below HR1.out HB.out)); (case side6 => exact HC1.out); rintro e w10 ⟨v128, rfl, ho0, hb⟩; refine ⟨_, rfl, ?_⟩; have HO129 := zm (Kd.V_lower (Kd.V_mono (ok' := fun k_ => (w.heap.size ≤ k_) ∧ k_ ≠ gb125) ho0 (fun k_ hk_ => ⟨(Nat.le_trans (below_size zG) hk_), (Kd.freshB (g := gb125) (o := .cells #[.int .i64 a0_0, .slice A0_1 l0_1.length c0_1, .slice A0_2 l0_2.length c0_2] 25 (0, 0)) zK k_ hk_)⟩)) (below_size zG)); replace BK125 := zm (blk_below (g := gb125) zK hb); replace HB := zm (below_step zG hb); (try clear hb); (try clear ho0)))
  go_ret2
  exact ⟨_, zE, by (with_reducible repeat (first | apply Kd.V_alloc | apply Kd.V_drewN | apply Kd.V_drew)); exact Kd.V_mono HO129.out (fun _ hk => hk.1), zG⟩
 ·rw [if_neg c4] at H
  have c4b0 : (t126 == 0) = false := beq_eq_false_iff_ne.mpr c4
  have c4b1 : (t126 != 0) = true := bne_iff_ne.mpr c4
  simp only [Option.some.injEq, Prod.mk.injEq] at H
  obtain ⟨rfl, rfl⟩ := H
  go_enter Try.func11, Try.ntmps11
  go_wp2_with (first | ((with_reducible refine gate_dst (N := 2) rfl ?_); refine zX (N := 2) (cs := #[.int .i64 a0_0, .slice A0_1 l0_1.length c0_1, .slice A0_2 l0_2.length c0_2]) (t := 25) (h := ?_); intro gb125 hg w11 hbox hb; have BK125 := zm hbox; have GW125 := zm ((zS : w.heap.size ≤ gb125)); have GE125 := zm ((zS : w.heap.size ≤ gb125)); replace HB := zm (below_step zB hb); clear hb hbox hg; obtain ⟨hcz12_0, hcz12_1, hcz12_2, hfz12_0, hfz12_1, hfz12_2⟩ := zd3 BK125.out (.int .i64 a0_0) (.slice A0_1 l0_1.length c0_1) (.slice A0_2 l0_2.length c0_2)) | ((with_reducible refine gate_callee (f := 20) rfl ?_); refine goesL_ (some 9) rfl rfl Try.func20 (by kernel_rfl) rfl #[.agg #[.int .i64 a0_0, .slice A0_1 l0_1.length c0_1, .slice A0_2 l0_2.length c0_2], .slice A1 l1.length c1] rfl zP ?_; (with_reducible refine (e_check.calls k a0_0 _ _ l0_1 _ _ l0_2 _ _ l1 t126 _ ?side1 ?side2 ?side3 ?side4 ?side5 ?side6 A3.out).mono ?_); (case side1 => exact zC (Kd.C_below HR0_1.out HB.out)); (case side2 => exact HC0_1.out); (case side3 => exact zC (Kd.C_below HR0_2.out HB.out)); (case side4 => exact HC0_2.out); (case side5 => exact zC (Kd.C_below HR1.out HB.out)); (case side6 => exact HC1.out); rintro e w13 ⟨rfl, hb⟩; refine ⟨_, rfl, ?_⟩; replace BK125 := zm (blk_below (g := gb125) zK hb); replace HB := zm (below_step zG hb); (try clear hb)))
  go_ret2
  exact ⟨_, zE, Kd.R_V (base := w.heap.size) (by first | exact Kd.R_nil _ _ _ _ _ | exact Kd.N_nil _ _ _ _ _ | exact Kd.V_nil _ _ _ _ _ | exact Kd.Q_nil _ _ _ _ _ | exact Kd.S_nil _ _ _ _ _), zG⟩
end Go.Proofs.Ytngppcmdaanheaa.Pr
namespace Go.Proofs.Ytngppcmdaanheaa.Pr
open Go.RowKit Go.Proofs.Ytngppcmdaanheaa.Ls Go.Proofs.Ytngppcmdaanheaa.Va Go.Proofs.YtngppcmdaanheaaW.PrintWords Go.Proofs.YtngppcmdaanheaaW.PrintLast Go.Proofs.YtngppcmdaanheaaW.PrintMore
attribute [local go_sem] max2_int min2_int max_two min_two
set_option linter.unusedVariables false
set_option linter.unusedSimpArgs false
/-! ### e_Closed: function 12 -/
def e_Closed.f (k : Nat) (a0_0 : Int) (l0_1 : List (S44)) (l0_2 : List (S46)) (l1 : List (S41)) : Option (Bool × Int) := (e_check.f k a0_0 l0_1 l0_2 l1).bind fun t131 => (if t131 = 0 then ((e_round.f a0_0 l0_1 l0_2 l1).bind fun t132 => (some (((t132.length : Int) == (l1.length : Int)), 0))) else (some (false, t131)))
set_option maxHeartbeats 8000000 in
set_option maxRecDepth 100000 in
theorem e_Closed.calls (k : Nat) (a0_0 : Int) (A0_1 : Option Addr) (c0_1 : Nat) (l0_1 : List (S44)) (A0_2 : Option Addr) (c0_2 : Nat) (l0_2 : List (S46)) (A1 : Option Addr) (c1 : Nat) (l1 : List (S41)) (r1 : Bool) (r2 : Int) (w : World) (hr0_1 : Kd.C k44 w A0_1 l0_1.length l0_1) (hc0_1 : l0_1.length ≤ c0_1) (hr0_2 : Kd.C k46 w A0_2 l0_2.length l0_2) (hc0_2 : l0_2.length ≤ c0_2) (hr1 : Kd.C k41 w A1 l1.length l1) (hc1 : l1.length ≤ c1) (h : e_Closed.f k a0_0 l0_1 l0_2 l1 = some (r1, r2)) :
  Calls Try.prog 12 #[.agg #[.int .i64 a0_0, .slice A0_1 l0_1.length c0_1, .slice A0_2 l0_2.length c0_2], .slice A1 l1.length c1] w fun e w' => e = .returned (.tuple #[.bool r1, .int .i64 r2]) ∧ Below w.heap.size w w' := by
 have hu25 := Try.underlying25
 have HR0_1 := zm hr0_1
 have HC0_1 := zm hc0_1
 clear hr0_1 hc0_1
 have HR0_2 := zm hr0_2
 have HC0_2 := zm hc0_2
 clear hr0_2 hc0_2
 have HR1 := zm hr1
 have HC1 := zm hc1
 clear hr1 hc1
 have HB := zm (Below.refl w.heap.size w)
 have H : ((e_check.f k a0_0 l0_1 l0_2 l1).bind fun t131 => (if t131 = 0 then ((e_round.f a0_0 l0_1 l0_2 l1).bind fun t132 => (some (((t132.length : Int) == (l1.length : Int)), 0))) else (some (false, t131)))) = some (r1, r2) := h
 clear h
 obtain ⟨t131, A3, H⟩ := zO H
 by_cases c4 : t131 = 0
 ·rw [if_pos c4] at H
  have c4b0 : (t131 == 0) = true := beq_iff_eq.mpr c4
  have c4b1 : (t131 != 0) = false := bne_eq_false_iff_eq.mpr c4
  clear c4
  obtain ⟨t132, A5, H⟩ := zO H
  simp only [Option.some.injEq, Prod.mk.injEq] at H
  obtain ⟨rfl, rfl⟩ := H
  go_enter Try.func12, Try.ntmps12
  go_wp2_with (first | ((with_reducible refine gate_dst (N := 2) rfl ?_); refine zX (N := 2) (cs := #[.int .i64 a0_0, .slice A0_1 l0_1.length c0_1, .slice A0_2 l0_2.length c0_2]) (t := 25) (h := ?_); intro gb130 hg w6 hbox hb; have BK130 := zm hbox; have GW130 := zm ((zS : w.heap.size ≤ gb130)); have GE130 := zm ((zS : w.heap.size ≤ gb130)); replace HB := zm (below_step zB hb); clear hb hbox hg; obtain ⟨hcz7_0, hcz7_1, hcz7_2, hfz7_0, hfz7_1, hfz7_2⟩ := zd3 BK130.out (.int .i64 a0_0) (.slice A0_1 l0_1.length c0_1) (.slice A0_2 l0_2.length c0_2)) | ((with_reducible refine gate_callee (f := 20) rfl ?_); refine goesL_ (some 9) rfl rfl Try.func20 (by kernel_rfl) rfl #[.agg #[.int .i64 a0_0, .slice A0_1 l0_1.length c0_1, .slice A0_2 l0_2.length c0_2], .slice A1 l1.length c1] rfl zP ?_; (with_reducible refine (e_check.calls k a0_0 _ _ l0_1 _ _ l0_2 _ _ l1 t131 _ ?side1 ?side2 ?side3 ?side4 ?side5 ?side6 A3.out).mono ?_); (case side1 => exact zC (Kd.C_below HR0_1.out HB.out)); (case side2 => exact HC0_1.out); (case side3 => exact zC (Kd.C_below HR0_2.out HB.out)); (case side4 => exact HC0_2.out); (case side5 => exact zC (Kd.C_below HR1.out HB.out)); (case side6 => exact HC1.out); rintro e w8 ⟨rfl, hb⟩; refine ⟨_, rfl, ?_⟩; replace BK130 := zm (blk_below (g := gb130) zK hb); replace HB := zm (below_step zG hb); (try clear hb); obtain ⟨hcz9_0, hcz9_1, hcz9_2, hfz9_0, hfz9_1, hfz9_2⟩ := zd3 BK130.out (.int .i64 a0_0) (.slice A0_1 l0_1.length c0_1) (.slice A0_2 l0_2.length c0_2)) | ((with_reducible refine gate_callee (f := 21) rfl ?_); refine goesL_ (some 15) rfl rfl Try.func21 (by kernel_rfl) rfl #[.agg #[.int .i64 a0_0, .slice A0_1 l0_1.length c0_1, .slice A0_2 l0_2.length c0_2], .slice A1 l1.length c1] rfl zP ?_; (with_reducible refine (e_round.calls a0_0 _ _ l0_1 _ _ l0_2 _ _ l1 t132 _ ?side1 ?side2 ?side3 ?side4 ?side5 ?side6 A5.out).mono ?_); (case side1 => exact zC (Kd.C_below HR0_1.out HB.out)); (case side2 => exact HC0_1.out); (case side3 => exact zC (Kd.C_below HR0_2.out HB.out)); (case side4 => exact HC0_2.out); (case side5 => exact zC (Kd.C_below HR1.out HB.out)); (case side6 => exact HC1.out); rintro e w10 ⟨v133, rfl, ho0, hb⟩; refine ⟨_, rfl, ?_⟩; have HO134 := zm (Kd.V_lower (Kd.V_mono (ok' := fun k_ => k_ ≠ gb130) ho0 (fun k_ hk_ => (Kd.freshB (g := gb130) (o := .cells #[.int .i64 a0_0, .slice A0_1 l0_1.length c0_1, .slice A0_2 l0_2.length c0_2] 25 (0, 0)) zK k_ hk_))) (below_size zG)); replace BK130 := zm (blk_below (g := gb130) zK hb); replace HB := zm (below_step zG hb); (try clear hb); (try clear ho0); obtain ⟨Ao11, co11, eo11⟩ := Kd.V_slice HO134.out; subst eo11))
  go_ret2
  exact ⟨zE, zG⟩
 ·rw [if_neg c4] at H
  have c4b0 : (t131 == 0) = false := beq_eq_false_iff_ne.mpr c4
  have c4b1 : (t131 != 0) = true := bne_iff_ne.mpr c4
  simp only [Option.some.injEq, Prod.mk.injEq] at H
  obtain ⟨rfl, rfl⟩ := H
  go_enter Try.func12, Try.ntmps12
  go_wp2_with (first | ((with_reducible refine gate_dst (N := 2) rfl ?_); refine zX (N := 2) (cs := #[.int .i64 a0_0, .slice A0_1 l0_1.length c0_1, .slice A0_2 l0_2.length c0_2]) (t := 25) (h := ?_); intro gb130 hg w12 hbox hb; have BK130 := zm hbox; have GW130 := zm ((zS : w.heap.size ≤ gb130)); have GE130 := zm ((zS : w.heap.size ≤ gb130)); replace HB := zm (below_step zB hb); clear hb hbox hg; obtain ⟨hcz13_0, hcz13_1, hcz13_2, hfz13_0, hfz13_1, hfz13_2⟩ := zd3 BK130.out (.int .i64 a0_0) (.slice A0_1 l0_1.length c0_1) (.slice A0_2 l0_2.length c0_2)) | ((with_reducible refine gate_callee (f := 20) rfl ?_); refine goesL_ (some 9) rfl rfl Try.func20 (by kernel_rfl) rfl #[.agg #[.int .i64 a0_0, .slice A0_1 l0_1.length c0_1, .slice A0_2 l0_2.length c0_2], .slice A1 l1.length c1] rfl zP ?_; (with_reducible refine (e_check.calls k a0_0 _ _ l0_1 _ _ l0_2 _ _ l1 t131 _ ?side1 ?side2 ?side3 ?side4 ?side5 ?side6 A3.out).mono ?_); (case side1 => exact zC (Kd.C_below HR0_1.out HB.out)); (case side2 => exact HC0_1.out); (case side3 => exact zC (Kd.C_below HR0_2.out HB.out)); (case side4 => exact HC0_2.out); (case side5 => exact zC (Kd.C_below HR1.out HB.out)); (case side6 => exact HC1.out); rintro e w14 ⟨rfl, hb⟩; refine ⟨_, rfl, ?_⟩; replace BK130 := zm (blk_below (g := gb130) zK hb); replace HB := zm (below_step zG hb); (try clear hb)))
  go_ret2
  exact ⟨zE, zG⟩
end Go.Proofs.Ytngppcmdaanheaa.Pr
