/- Lemmas for the claims of this seat (own texts, packed; what the claims do not use is left out). No condition. -/
import Derived.Test.YtngppcmdaanheaaMl0
import Derived.Test.YtngppcmdaanheaaMl1
import Derived.Test.YtngppcmdaanheaaMl2
/- least.rounder.called. No condition. -/
namespace Go.Proofs.Ytngppcmdaanheaa.Ls
open Go.RowKit Go.Maps Go.Proofs.Ytngppcmdaanheaa.Iter Go.Proofs.Ytngppcmdaanheaa.ISet Go.Proofs.Ytngppcmdaanheaa.Pr Go.Proofs.Ytngppcmdaanheaa.Ext Go.Proofs.YtngppcmdaanheaaW.PrintWords Go.Proofs.YtngppcmdaanheaaW.PrintLast Go.Proofs.YtngppcmdaanheaaW.PrintMore
set_option linter.unusedVariables false
set_option linter.unusedSimpArgs false
attribute [local go_sem] Oper.semAt_some
def cdT16 : Bool × List (List Nat × List Nat) := (true, [([], []), ([], []), ([1], [1]), ([], []), ([], []), ([4], [4]), ([3, 5], [3, 5]), ([0, 2, 6, 6], [0, 2, 6])])
def cdB16 : List Nat := [0, 0, 2, 0, 0, 16, 56, 127]
theorem cdtab16 : rtab .any (opsOf Try.f55 16) = cdT16 := by kernel_rfl
theorem cdbits16 : waitsOk cdT16.2 cdB16 = true := by kernel_rfl
def cdT17 : Bool × List (List Nat × List Nat) := (true, [([], []), ([], []), ([1], [1]), ([], []), ([], []), ([4], [4]), ([3, 5], [3, 5]), ([0, 2, 6, 6], [0, 2, 6])])
def cdB17 : List Nat := [0, 0, 2, 0, 0, 16, 56, 127]
theorem cdtab17 : rtab .any (opsOf Try.f55 17) = cdT17 := by kernel_rfl
theorem cdbits17 : waitsOk cdT17.2 cdB17 = true := by kernel_rfl
def cdT30 : Bool × List (List Nat × List Nat) := (true, [([], []), ([], []), ([1], [1]), ([], []), ([], []), ([4], [4]), ([3, 5], [3, 5]), ([0, 2, 6, 6], [0, 2, 6])])
def cdB30 : List Nat := [0, 0, 2, 0, 0, 16, 56, 127]
theorem cdtab30 : rtab .any (opsOf Try.f55 30) = cdT30 := by kernel_rfl
theorem cdbits30 : waitsOk cdT30.2 cdB30 = true := by kernel_rfl
def cdT31 : Bool × List (List Nat × List Nat) := (true, [([], []), ([], []), ([1], [1]), ([], []), ([], []), ([4], [4]), ([3, 5], [3, 5]), ([0, 2, 6, 6], [0, 2, 6])])
def cdB31 : List Nat := [0, 0, 2, 0, 0, 16, 56, 127]
theorem cdtab31 : rtab .any (opsOf Try.f55 31) = cdT31 := by kernel_rfl
theorem cdbits31 : waitsOk cdT31.2 cdB31 = true := by kernel_rfl
abbrev FunT := S44
structure Cl where
  mark : Int
  this : List Int
  args : List Int
  each : Int
  ret : Int
  out : Int
def noS : ByteArray := ⟨#[]⟩
def parAsk (l : List Fa) (x : Cl) (ps : List Int) (i : Nat) : List Fa :=
  if 0 ≤ x.each then askL 9 (rd ps i) noS (bsL l 9 x.each) ++ [] else if i < x.args.length then askL 9 (rd ps i) noS (bsL l 9 (rd x.args i)) ++ [] else []
def funAsk (l : List Fa) (x : Cl) (c : Int) (fs : List FunT) (g : Nat) : List Fa :=
  if g = 0 ∨ (rd_T44 fs g).f0 ≠ c then [] else
    askL 5 x.mark noS [c] ++ (askL 6 g noS [0] ++ (askL 9 (rd_T44 fs g).f2 noS x.this ++ (rg (rd_T44 fs g).f1.length (parAsk l x (rd_T44 fs g).f1) ++ (askL 9 x.ret noS (bsL l 9 (rd_T44 fs g).f3) ++ (askL 9 x.out noS (bsL l 9 (rd_T44 fs g).f4) ++ [])))))
def argAsk (l : List Fa) (x : Cl) (t : Int) (i : Nat) : List Fa := askL 9 (t + 1) noS (bsL l 9 (rd x.args i)) ++ []
def spareAsk (l : List Fa) (x : Cl) (c t : Int) : List Fa :=
  askL 5 x.mark noS [c] ++ (askL 9 t noS x.this ++ (rg x.args.length (argAsk l x t) ++ ((if 0 ≤ x.each then askL 9 (t + 1) noS (bsL l 9 x.each) else []) ++ (askL 9 x.ret noS (bsL l 9 (t + 2)) ++ (askL 9 x.out noS (bsL l 9 (t + 3)) ++ [])))))
def tailAsk (s0 : Int) (l : List Fa) (x : Cl) (c : Int) : List Fa := if c = 2 then spareAsk l x c (s0 - 9) else if c = 3 then spareAsk l x c (s0 - 9 + 4) else []
def callL (r : Ro) (x : Cl) (c : Int) : List Fa := rg r.fs.length (funAsk r.l x c r.fs) ++ tailAsk r.s0 r.l x c
structure ClAt (W : World) (b : Nat) (x : Cl) (At : Option Addr) (ct : Nat) (Aa : Option Addr) (ca : Nat) : Prop where
  c0 : W.cell? ⟨b, 0, none⟩ = some (.int .i64 x.mark)
  c1 : W.cell? ⟨b, 1, none⟩ = some (.slice At x.this.length ct)
  c2 : W.cell? ⟨b, 2, none⟩ = some (.slice Aa x.args.length ca)
  c3 : W.cell? ⟨b, 3, none⟩ = some (.int .i64 x.each)
  c4 : W.cell? ⟨b, 4, none⟩ = some (.int .i64 x.ret)
  c5 : W.cell? ⟨b, 5, none⟩ = some (.int .i64 x.out)
def clCells (x : Cl) (At : Option Addr) (ct : Nat) (Aa : Option Addr) (ca : Nat) : Array Value := #[.int .i64 x.mark, .slice At x.this.length ct, .slice Aa x.args.length ca, .int .i64 x.each, .int .i64 x.ret, .int .i64 x.out]
set_option maxHeartbeats 16000000 in
set_option maxRecDepth 100000 in
theorem called_calls {r : Ro} {w0 W1 W : World} {n : Nat} {S : Fa → Bool} {L R : List Fa} (h : RoAt r w0 W1) (hst : StA r n S L W1 W) (x : Cl) (c : Int) (hg : Good n (L ++ (callL r x c ++ R)))
    {At Aa : Option Addr} {ct ca : Nat} (hthis : Kd.C (Kd.int .i64) W At x.this.length x.this) (hargs : Kd.C (Kd.int .i64) W Aa x.args.length x.args) (hsort : r.l.Pairwise LF) (hlen : r.l.length ≤ 900000) (hfl : r.fs.length ≤ 1000000) (hs0 : 0 ≤ r.s0 ∧ r.s0 ≤ 1000000000) :
    Calls Try.prog 55 #[.pointer (some ⟨r.Br, 0, none⟩), .agg (clCells x At ct Aa ca), .int .i64 c] W fun e W' => e = .returned (.tuple #[]) ∧ StA r n S (L ++ callL r x c) W1 W' ∧ Good n ((L ++ callL r x c) ++ R) := by
  obtain ⟨Wb, hWb⟩ : ∃ Wb, Wb = W.alloc (.cells (clCells x At ct Aa ca) 87) := ⟨_, rfl⟩
  have hbb : Below W.heap.size W Wb := by rw [hWb]; exact (Below.refl _ W).alloc (Nat.le_refl _) _
  have hstb := (hst.quiet hbb).here
  have hroB : RoAt r w0 Wb := (h.asked hst.ch).quiet hbb
  have hnb : Wb.heap[W.heap.size]? = some (.cells (clCells x At ct Aa ca) 87 (0, 0)) := by rw [hWb]; exact heap_alloc_new _ _
  have hMb : FSet Wb r.Mb (n + L.length) (addS S L) := hstb.set
  have HCL := Aside0.mk (show ∀ W', Chg (fun i => i = r.Mb) Wb W' → ClAt W' W.heap.size x At ct Aa ca from fun W' hc => by
    have hc' : ∀ j v, (clCells x At ct Aa ca)[j]? = some v → W'.cell? ⟨W.heap.size, j, none⟩ = some v := fun j v hv => cell_map hMb hc (by simp [World.cell?, hnb, hv])
    exact ⟨hc' 0 _ rfl, hc' 1 _ rfl, hc' 2 _ rfl, hc' 3 _ rfl, hc' 4 _ rfl, hc' 5 _ rfl⟩)
  obtain ⟨A1v, hA1v⟩ : ∃ A, r.A1 = A := ⟨_, rfl⟩
  have HA1V := Aside0.mk hA1v
  have HRC := Aside0.mk (show ∀ W', Chg (fun i => i = r.Mb) Wb W' → W'.cell? ⟨r.Br, 0, none⟩ = some (.int .i64 r.s0) ∧ W'.cell? ⟨r.Br, 1, none⟩ = some (.slice A1v r.fs.length r.c1) from fun W' hc => ⟨(hroB.asked hc).cell 0, by rw [← hA1v]; exact (hroB.asked hc).cell 1⟩)
  clear hA1v
  have HTH := Aside0.mk (show ∀ W', Chg (fun i => i = r.Mb) Wb W' → Kd.C (Kd.int .i64) W' At x.this.length x.this from fun W' hc => intC_map hMb hc (Kd.C_below hthis hbb))
  have HAR := Aside0.mk (show ∀ W', Chg (fun i => i = r.Mb) Wb W' → Kd.C (Kd.int .i64) W' Aa x.args.length x.args from fun W' hc => intC_map hMb hc (Kd.C_below hargs hbb))
  have HRO := Aside0.mk hroB
  have HST := Aside0.mk hstb
  have HMB := Aside0.mk hMb
  have HS := Aside0.mk hsort
  have HCH := Aside0.mk (show Chg (fun i => i = r.Mb) W1 Wb from hst.ch.then_below hbb)
  have HG := Aside0.mk (show Good n (L ++ (rg r.fs.length (funAsk r.l x c r.fs) ++ (tailAsk r.s0 r.l x c ++ R))) by rw [callL, List.append_assoc] at hg; exact hg)
  have harg : x.args.length ≤ 9223372036854775807 := hargs.2.1
  have HGO := Aside0.mk hg
  clear h hst hg hthis hargs hsort hstb hroB hMb hnb hbb
  go_enter Try.func55, Try.ntmps55
  obtain ⟨d0, d1⟩ := HRC.out Wb HST.out.ch
  rw [hWb] at d0 d1
  have HWB := Aside0.mk hWb
  clear hWb
  go_wp2
  rw [← HWB.out]
  clear d0 d1 HWB
  go_loopg [19] r.fs.length (fun kq v19 W_ => ∃ k : Nat, v19 = .int .i64 k ∧ k + kq = r.fs.length ∧ StA r n S (L ++ rg k (funAsk r.l x c r.fs)) Wb W_)
  case atStart => exact ⟨0, rfl, by omega, by rw [rg_zero, List.append_nil]; exact HST.out⟩
  case round =>
    clear HST
    obtain ⟨k, rfl, hk, hst⟩ := hrel
    have HST := Aside0.mk hst
    by_cases hlt : k < r.fs.length
    · obtain ⟨ad, A1_, c1_, hA1, hd0, hd1, hd2, hd3, hd4, hpl, hpc⟩ := at_T44 (Kd.C_below HRO.out.hf (HRO.out.asked hst.ch).bel) (k : Int) (by omega) (by omega)
      rw [Int.toNat_natCast] at hd0 hd1 hd2 hd3 hd4
      obtain rfl : A1v = some ad := HA1V.out.symm.trans hA1
      clear hA1
      have HGK := Aside0.mk (HG.out.loop hlt)
      have HFK := Aside0.mk (show funAsk r.l x c r.fs k = if k = 0 ∨ (rd_T44 r.fs k).f0 ≠ c then [] else _ from rfl)
      have HRG := Aside0.mk (rg_succ k (funAsk r.l x c r.fs))
      generalize rd_T44 r.fs (k : Int) = f at *
      generalize funAsk r.l x c r.fs k = FK at *
      obtain ⟨f0, f1, f2, f3, f4⟩ := f
      dsimp only at hd0 hd1 hd2 hd3 hd4 hpl hpc HFK
      obtain ⟨Wf, hWf⟩ : ∃ Wf, Wf = wr.alloc (.cells #[.int .i64 f0, .slice A1_ f1.length c1_, .int .i64 f2, .int .i64 f3, .int .i64 f4] 44) := ⟨_, rfl⟩
      have hbf : Below wr.heap.size wr Wf := by rw [hWf]; exact (Below.refl _ wr).alloc (Nat.le_refl _) _
      have HCHF := Aside0.mk (show Chg (fun i => i = r.Mb) Wb Wf from hst.ch.then_below hbf)
      have hstf := (hst.quiet hbf).here
      have hnf : Wf.heap[wr.heap.size]? = some (.cells #[.int .i64 f0, .slice A1_ f1.length c1_, .int .i64 f2, .int .i64 f3, .int .i64 f4] 44 (0, 0)) := by rw [hWf]; exact heap_alloc_new _ _
      have HFC := Aside0.mk (show ∀ W', Chg (fun i => i = r.Mb) Wf W' → W'.cell? ⟨wr.heap.size, 0, none⟩ = some (.int .i64 f0) ∧ W'.cell? ⟨wr.heap.size, 1, none⟩ = some (.slice A1_ f1.length c1_) ∧ W'.cell? ⟨wr.heap.size, 2, none⟩ = some (.int .i64 f2) ∧ W'.cell? ⟨wr.heap.size, 3, none⟩ = some (.int .i64 f3) ∧ W'.cell? ⟨wr.heap.size, 4, none⟩ = some (.int .i64 f4) from fun W' hc => by
        have hc' : ∀ j v, (#[.int .i64 f0, .slice A1_ f1.length c1_, .int .i64 f2, .int .i64 f3, .int .i64 f4] : Array Value)[j]? = some v → W'.cell? ⟨wr.heap.size, j, none⟩ = some v := fun j v hv => cell_map hstf.set hc (by simp [World.cell?, hnf, hv])
        exact ⟨hc' 0 _ rfl, hc' 1 _ rfl, hc' 2 _ rfl, hc' 3 _ rfl, hc' 4 _ rfl⟩)
      have HPC := Aside0.mk (show ∀ W', Chg (fun i => i = r.Mb) Wf W' → Kd.C (Kd.int .i64) W' A1_ f1.length f1 from fun W' hc => intC_map hstf.set hc (Kd.C_below hpc hbf))
      have HROF := Aside0.mk (HRO.out.asked HCHF.out)
      have hpn : f1.length ≤ 9223372036854775807 := hpc.2.1
      have HSTF := Aside0.mk hstf
      have HWF := Aside0.mk hWf
      clear hWf hst hstf hnf hbf hpc hpl HST
      by_cases hz : k = 0
      · have HF0 := Aside0.mk (show FK = [] by rw [HFK.out, if_pos (.inl hz)])
        have hk0 : ((k : Int) == 0) = true := by simp [hz]
        clear hz
        go_wp2
        rw [← HWF.out]
        go_roundg (gk - 1)
        case measure => omega
        case rel => exact ⟨k + 1, by go_num, by omega, by rw [HRG.out, HF0.out, List.append_nil]; exact HSTF.out.rebase HCHF.out⟩
      · have hk0 : ((k : Int) == 0) = false := by simp [hz]
        by_cases hfc : f0 = c
        · have HF1 := Aside0.mk (HFK.out.trans (if_neg (fun h => h.elim hz (fun h => h hfc))))
          rw [HF1.out, List.append_nil] at HGK
          clear HFK hz
          have hfc' := hfc.symm
          clear hfc
          subst hfc'
          have hfb : (c == c) = true := by simp
          have HST := HSTF
          obtain ⟨x0, x1, x2, x3, x4, x5⟩ := HCL.out Wf HCHF.out
          rw [HWF.out] at x0
          go_wp2_with fail
          rw [← HWF.out]
          clear x0 x1 x2 x3 x4 x5 hd0 hd1 hd2 hd3 hd4
          refine (st_ask1 HROF.out HST.out HGK.out (by rw [HWF.out]; simp)).mono ?_
          rintro e W2 ⟨rfl, hst_, hg_⟩
          have HST := Aside0.mk hst_
          have HGK := Aside0.mk hg_
          clear hst_ hg_
          obtain ⟨x0, x1, x2, x3, x4, x5⟩ := HCL.out W2 (HCHF.out.then_ HST.out.ch)
          obtain ⟨y0, y1, y2, y3, y4⟩ := HFC.out W2 HST.out.ch
          go_wp2_with fail
          clear x0 x1 x2 x3 x4 x5 y0 y1 y2 y3 y4
          refine (st_ask1 HROF.out HST.out HGK.out rfl).mono ?_
          rintro e W3 ⟨rfl, hst_, hg_⟩
          have HST := Aside0.mk hst_
          have HGK := Aside0.mk hg_
          clear hst_ hg_
          obtain ⟨x0, x1, x2, x3, x4, x5⟩ := HCL.out W3 (HCHF.out.then_ HST.out.ch)
          obtain ⟨y0, y1, y2, y3, y4⟩ := HFC.out W3 HST.out.ch
          go_wp2_with fail
          clear x0 x1 x2 x3 x4 x5 y0 y1 y2 y3 y4
          refine (st_asks HROF.out HST.out HGK.out rfl (HTH.out _ (HCHF.out.then_ HST.out.ch))).mono ?_
          rintro e W4 ⟨rfl, hst_, hg_⟩
          have HST := Aside0.mk hst_
          have HGK := Aside0.mk hg_
          clear hst_ hg_
          obtain ⟨x0, x1, x2, x3, x4, x5⟩ := HCL.out W4 (HCHF.out.then_ HST.out.ch)
          obtain ⟨y0, y1, y2, y3, y4⟩ := HFC.out W4 HST.out.ch
          go_wp2_with fail
          clear x0 x1 x2 x3 x4 x5 y0 y1 y2 y3 y4
          obtain ⟨Lc, hLc⟩ : ∃ Lc, Lc = L ++ rg k (funAsk r.l x c r.fs) ++ askL 5 x.mark noS [c] ++ askL 6 (k : Int) noS [0] ++ askL 9 f2 noS x.this := ⟨_, rfl⟩
          have HST4 := Aside0.mk (show StA r n S Lc Wf W4 by rw [hLc]; exact HST.out)
          have HG4 := Aside0.mk (show Good n (Lc ++ (rg f1.length (parAsk r.l x f1) ++ (askL 9 x.ret noS (bsL r.l 9 f3) ++ (askL 9 x.out noS (bsL r.l 9 f4) ++ [])))) by rw [hLc]; exact HGK.out)
          have HLC := Aside0.mk hLc
          clear hLc HST HGK
          go_loopg [51] f1.length (fun jq v51 W_ => ∃ j : Nat, v51 = .int .i64 j ∧ j + jq = f1.length ∧ StA r n S (Lc ++ rg j (parAsk r.l x f1)) Wf W_)
          case atStart => exact ⟨0, rfl, by omega, by rw [rg_zero, List.append_nil]; exact HST4.out⟩
          case round =>
            clear HST4
            obtain ⟨j, rfl, hj, hst⟩ := hrel
            have HST := Aside0.mk hst
            clear hst
            obtain ⟨x0, x1, x2, x3, x4, x5⟩ := HCL.out _ (HCHF.out.then_ HST.out.ch)
            obtain ⟨y0, y1, y2, y3, y4⟩ := HFC.out _ HST.out.ch
            by_cases hlt2 : j < f1.length
            · obtain ⟨ad2, rfl, hp2⟩ := Kd.at_int (HPC.out _ HST.out.ch) (j : Int) (by omega) (by omega)
              rw [Int.toNat_natCast] at hp2
              have HGK := Aside0.mk (HG4.out.loop hlt2)
              have HPK := Aside0.mk (show parAsk r.l x f1 j = if 0 ≤ x.each then askL 9 (rd f1 (j : Int)) noS (bsL r.l 9 x.each) ++ [] else if j < x.args.length then askL 9 (rd f1 (j : Int)) noS (bsL r.l 9 (rd x.args (j : Int))) ++ [] else [] from rfl)
              have HRJ := Aside0.mk (rg_succ j (parAsk r.l x f1))
              generalize rd f1 (j : Int) = pv at *
              generalize parAsk r.l x f1 j = PJ at *
              by_cases hge : 0 ≤ x.each
              · have HP1 := Aside0.mk (HPK.out.trans (if_pos hge))
                rw [HP1.out, List.append_nil] at HGK
                clear HPK
                go_wp2_with fail
                clear x0 x1 x2 x3 x4 x5 y0 y1 y2 y3 y4
                refine (st_in HROF.out HST.out x.each HS.out hlen).mono ?_
                rintro e W5 ⟨A5, c5, rfl, hC_, hst_⟩
                have HST := Aside0.mk hst_
                have HC5 := Aside0.mk hC_
                clear hst_ hC_
                obtain ⟨x0, x1, x2, x3, x4, x5⟩ := HCL.out W5 (HCHF.out.then_ HST.out.ch)
                obtain ⟨y0, y1, y2, y3, y4⟩ := HFC.out W5 HST.out.ch
                go_wp2_with fail
                clear x0 x1 x2 x3 x4 x5 y0 y1 y2 y3 y4
                refine (st_asks HROF.out HST.out HGK.out rfl HC5.out).mono ?_
                rintro e W6 ⟨rfl, hst_, hg_⟩
                have HST := Aside0.mk hst_
                have HGK := Aside0.mk hg_
                clear hst_ hg_
                obtain ⟨x0, x1, x2, x3, x4, x5⟩ := HCL.out W6 (HCHF.out.then_ HST.out.ch)
                obtain ⟨y0, y1, y2, y3, y4⟩ := HFC.out W6 HST.out.ch
                go_wp2
                go_roundg (gk - 1)
                case measure => omega
                case rel => exact ⟨j + 1, by go_num, by omega, by rw [HRJ.out, HP1.out, List.append_nil, ← List.append_assoc]; exact HST.out⟩
              · by_cases hla : j < x.args.length
                · have HP1 := Aside0.mk ((HPK.out.trans (if_neg hge)).trans (if_pos hla))
                  rw [HP1.out, List.append_nil] at HGK
                  clear HPK
                  obtain ⟨ad3, rfl, hp3⟩ := Kd.at_int (HAR.out _ (HCHF.out.then_ HST.out.ch)) (j : Int) (by omega) (by omega)
                  rw [Int.toNat_natCast] at hp3
                  generalize rd x.args (j : Int) = av at *
                  go_wp2_with fail
                  clear x0 x1 x2 x3 x4 x5 y0 y1 y2 y3 y4
                  refine (st_in HROF.out HST.out av HS.out hlen).mono ?_
                  rintro e W5 ⟨A5, c5, rfl, hC_, hst_⟩
                  have HST := Aside0.mk hst_
                  have HC5 := Aside0.mk hC_
                  clear hst_ hC_
                  obtain ⟨x0, x1, x2, x3, x4, x5⟩ := HCL.out W5 (HCHF.out.then_ HST.out.ch)
                  obtain ⟨y0, y1, y2, y3, y4⟩ := HFC.out W5 HST.out.ch
                  go_wp2_with fail
                  clear x0 x1 x2 x3 x4 x5 y0 y1 y2 y3 y4
                  refine (st_asks HROF.out HST.out HGK.out rfl HC5.out).mono ?_
                  rintro e W6 ⟨rfl, hst_, hg_⟩
                  have HST := Aside0.mk hst_
                  have HGK := Aside0.mk hg_
                  clear hst_ hg_
                  obtain ⟨x0, x1, x2, x3, x4, x5⟩ := HCL.out W6 (HCHF.out.then_ HST.out.ch)
                  obtain ⟨y0, y1, y2, y3, y4⟩ := HFC.out W6 HST.out.ch
                  go_wp2
                  go_roundg (gk - 1)
                  case measure => omega
                  case rel => exact ⟨j + 1, by go_num, by omega, by rw [HRJ.out, HP1.out, List.append_nil, ← List.append_assoc]; exact HST.out⟩
                · have HP1 := Aside0.mk ((HPK.out.trans (if_neg hge)).trans (if_neg hla))
                  clear HPK
                  have hla' : x.args.length ≤ j := by omega
                  go_wp2
                  go_roundg (gk - 1)
                  case measure => omega
                  case rel => exact ⟨j + 1, by go_num, by omega, by rw [HRJ.out, HP1.out, List.append_nil]; exact HST.out⟩
            · obtain rfl : j = f1.length := by omega
              have HGK := Aside0.mk (HG4.out.next)
              clear HG4
              go_wp2
              obtain ⟨Wd, hWd⟩ : ∃ Wd, wr.drew = Wd := ⟨_, rfl⟩
              have HST := Aside0.mk (HST.out.quiet (W' := Wd) (by rw [← hWd]; exact below_drew (Below.refl _ _)))
              clear x0 x1 x2 x3 x4 x5 y0 y1 y2 y3 y4
              refine start_ (n := 8) (S := fun W' => Chg (fun i => i = r.Mb) Wf W') (ds := []) #[false, false, false, false, false, false, false, false] (by kernel_rfl) rfl rfl (by rw [hWd]; exact HST.out.ch) (fun hHeld => ?_)
              rw [hWd] at hHeld ⊢
              refine with_tabW cdtab16 cdbits16 (fun HT_ HW_ => ?_)
              refine pure_ (i := 0) (N := some 84) (v := ?_) (a' := ?_) #[true, false, false, false, false, false, false, false] rfl rfl (any_of HT_.out (by kernel_rfl)) (fun _ _ _ h => h) (Or.inl ⟨by rfl, ?_⟩) ?_ ?_
              rotate_left
              · intro w'
                first | (go_simp; with_reducible rfl)
              rotate_left
              · simp only [Act.put, List.setIfInBounds_toArray, List.set_cons_zero, List.set_cons_succ, i64_w, i32_w]
                rfl
              refine pure_ (i := 1) (N := some 85) (v := ?_) (a' := ?_) #[true, true, false, false, false, false, false, false] rfl rfl (any_of HT_.out (by kernel_rfl)) (fun _ _ _ h => h) (Or.inl ⟨by rfl, ?_⟩) ?_ ?_
              rotate_left
              · intro w'
                first | (go_simp; with_reducible rfl)
              rotate_left
              · simp only [Act.put, List.setIfInBounds_toArray, List.set_cons_zero, List.set_cons_succ, i64_w, i32_w]
                rfl
              refine take_ (i := 2) (N := some 86) (v := ?_) (a' := ?_) #[true, true, true, false, false, false, false, false] rfl rfl (take_ofW HT_.out HW_.out (by kernel_rfl)) (fun _ _ _ h => h) (Or.inl ⟨by rfl, ?_⟩) hHeld ?_ ?_
              rotate_left
              · intro w' hw'
                obtain ⟨x0, x1, x2, x3, x4, x5⟩ := HCL.out w' (HCHF.out.then_ hw')
                first | (go_simp; with_reducible rfl)
              rotate_left
              · simp only [Act.put, List.setIfInBounds_toArray, List.set_cons_zero, List.set_cons_succ, i64_w, i32_w]
                rfl
              refine pure_ (i := 3) (N := some 87) (v := ?_) (a' := ?_) #[true, true, true, true, false, false, false, false] rfl rfl (any_of HT_.out (by kernel_rfl)) (fun _ _ _ h => h) (Or.inl ⟨by rfl, ?_⟩) ?_ ?_
              rotate_left
              · intro w'
                first | (go_simp; with_reducible rfl)
              rotate_left
              · simp only [Act.put, List.setIfInBounds_toArray, List.set_cons_zero, List.set_cons_succ, i64_w, i32_w]
                rfl
              refine pure_ (i := 4) (N := some 88) (v := ?_) (a' := ?_) #[true, true, true, true, true, false, false, false] rfl rfl (any_of HT_.out (by kernel_rfl)) (fun _ _ _ h => h) (Or.inl ⟨by rfl, ?_⟩) ?_ ?_
              rotate_left
              · intro w'
                first | (go_simp; with_reducible rfl)
              rotate_left
              · simp only [Act.put, List.setIfInBounds_toArray, List.set_cons_zero, List.set_cons_succ, i64_w, i32_w]
                rfl
              refine take_ (i := 5) (N := some 89) (v := ?_) (a' := ?_) #[true, true, true, true, true, true, false, false] rfl rfl (take_ofW HT_.out HW_.out (by kernel_rfl)) (fun _ _ _ h => h) (Or.inl ⟨by rfl, ?_⟩) hHeld ?_ ?_
              rotate_left
              · intro w' hw'
                obtain ⟨y0, y1, y2, y3, y4⟩ := HFC.out w' hw'
                first | (go_simp; with_reducible rfl)
              rotate_left
              · simp only [Act.put, List.setIfInBounds_toArray, List.set_cons_zero, List.set_cons_succ, i64_w, i32_w]
                rfl
              refine one_ (i := 6) (N := some 90) #[true, true, true, true, true, true, true, false] rfl rfl (one_of HT_.out (by kernel_rfl)) (by decide) (fun K hK => ?_)
              refine goes_ Try.func52 (by kernel_rfl) rfl #[.pointer (some ⟨r.Br, 0, none⟩), .int .i64 (f3)] (by rfl) rfl rfl (by (try simp only [List.map_toArray, List.map_cons, List.map_nil]); first | done | rfl) ?_
              refine (st_in HROF.out HST.out (f3) HS.out hlen).mono ?_
              rintro e W8 ⟨A8, c8, rfl, hC_, hst_⟩
              refine ⟨_, rfl, ?_⟩
              have HST := Aside0.mk hst_
              have HC8 := Aside0.mk hC_
              clear hst_ hC_
              refine hK.out _ _ HST.out.ch (fun hHeld => ?_)
              clear hK K
              refine norm_ (a' := ?_) ?_ ?_
              rotate_left
              · show Act.put _ (some 90) _ = _
                simp only [Act.put, List.setIfInBounds_toArray, List.set_cons_zero, List.set_cons_succ, i64_w, i32_w]
                rfl
              refine one_ (i := 7) (N := some 91) #[true, true, true, true, true, true, true, true] rfl rfl (one_of HT_.out (by kernel_rfl)) (by decide) (fun K hK => ?_)
              refine goes_ Try.func37 (by kernel_rfl) rfl #[.pointer (some ⟨r.Br, 0, none⟩), .int .i64 9, .int .i64 (x.ret), .string ⟨#[]⟩, .slice A8 (bsL r.l 9 (f3)).length c8] (by rfl) rfl rfl (by (try simp only [List.map_toArray, List.map_cons, List.map_nil]); first | done | rfl) ?_
              refine (st_asks HROF.out HST.out HGK.out rfl HC8.out).mono ?_
              rintro e W9 ⟨rfl, hst_, hg_⟩
              refine ⟨_, rfl, ?_⟩
              have HST := Aside0.mk hst_
              have HGK := Aside0.mk hg_
              clear hst_ hg_
              refine hK.out _ _ HST.out.ch (fun hHeld => ?_)
              clear hK K
              refine norm_ (a' := ?_) ?_ ?_
              rotate_left
              · show Act.put _ (some 91) _ = _
                simp only [Act.put, List.setIfInBounds_toArray, List.set_cons_zero, List.set_cons_succ, i64_w, i32_w]
                rfl
              refine done_ (done_of HT_.out (by kernel_rfl)) ?_
              clear hHeld
              go_wp2
              obtain ⟨Wd, hWd⟩ : ∃ Wd, W9.drew = Wd := ⟨_, rfl⟩
              have HST := Aside0.mk (HST.out.quiet (W' := Wd) (by rw [← hWd]; exact below_drew (Below.refl _ _)))
              refine start_ (n := 8) (S := fun W' => Chg (fun i => i = r.Mb) Wf W') (ds := []) #[false, false, false, false, false, false, false, false] (by kernel_rfl) rfl rfl (by rw [hWd]; exact HST.out.ch) (fun hHeld => ?_)
              rw [hWd] at hHeld ⊢
              refine with_tabW cdtab17 cdbits17 (fun HT_ HW_ => ?_)
              refine pure_ (i := 0) (N := some 92) (v := ?_) (a' := ?_) #[true, false, false, false, false, false, false, false] rfl rfl (any_of HT_.out (by kernel_rfl)) (fun _ _ _ h => h) (Or.inl ⟨by rfl, ?_⟩) ?_ ?_
              rotate_left
              · intro w'
                first | (go_simp; with_reducible rfl)
              rotate_left
              · simp only [Act.put, List.setIfInBounds_toArray, List.set_cons_zero, List.set_cons_succ, i64_w, i32_w]
                rfl
              refine pure_ (i := 1) (N := some 93) (v := ?_) (a' := ?_) #[true, true, false, false, false, false, false, false] rfl rfl (any_of HT_.out (by kernel_rfl)) (fun _ _ _ h => h) (Or.inl ⟨by rfl, ?_⟩) ?_ ?_
              rotate_left
              · intro w'
                first | (go_simp; with_reducible rfl)
              rotate_left
              · simp only [Act.put, List.setIfInBounds_toArray, List.set_cons_zero, List.set_cons_succ, i64_w, i32_w]
                rfl
              refine take_ (i := 2) (N := some 94) (v := ?_) (a' := ?_) #[true, true, true, false, false, false, false, false] rfl rfl (take_ofW HT_.out HW_.out (by kernel_rfl)) (fun _ _ _ h => h) (Or.inl ⟨by rfl, ?_⟩) hHeld ?_ ?_
              rotate_left
              · intro w' hw'
                obtain ⟨x0, x1, x2, x3, x4, x5⟩ := HCL.out w' (HCHF.out.then_ hw')
                first | (go_simp; with_reducible rfl)
              rotate_left
              · simp only [Act.put, List.setIfInBounds_toArray, List.set_cons_zero, List.set_cons_succ, i64_w, i32_w]
                rfl
              refine pure_ (i := 3) (N := some 95) (v := ?_) (a' := ?_) #[true, true, true, true, false, false, false, false] rfl rfl (any_of HT_.out (by kernel_rfl)) (fun _ _ _ h => h) (Or.inl ⟨by rfl, ?_⟩) ?_ ?_
              rotate_left
              · intro w'
                first | (go_simp; with_reducible rfl)
              rotate_left
              · simp only [Act.put, List.setIfInBounds_toArray, List.set_cons_zero, List.set_cons_succ, i64_w, i32_w]
                rfl
              refine pure_ (i := 4) (N := some 96) (v := ?_) (a' := ?_) #[true, true, true, true, true, false, false, false] rfl rfl (any_of HT_.out (by kernel_rfl)) (fun _ _ _ h => h) (Or.inl ⟨by rfl, ?_⟩) ?_ ?_
              rotate_left
              · intro w'
                first | (go_simp; with_reducible rfl)
              rotate_left
              · simp only [Act.put, List.setIfInBounds_toArray, List.set_cons_zero, List.set_cons_succ, i64_w, i32_w]
                rfl
              refine take_ (i := 5) (N := some 97) (v := ?_) (a' := ?_) #[true, true, true, true, true, true, false, false] rfl rfl (take_ofW HT_.out HW_.out (by kernel_rfl)) (fun _ _ _ h => h) (Or.inl ⟨by rfl, ?_⟩) hHeld ?_ ?_
              rotate_left
              · intro w' hw'
                obtain ⟨y0, y1, y2, y3, y4⟩ := HFC.out w' hw'
                first | (go_simp; with_reducible rfl)
              rotate_left
              · simp only [Act.put, List.setIfInBounds_toArray, List.set_cons_zero, List.set_cons_succ, i64_w, i32_w]
                rfl
              refine one_ (i := 6) (N := some 98) #[true, true, true, true, true, true, true, false] rfl rfl (one_of HT_.out (by kernel_rfl)) (by decide) (fun K hK => ?_)
              refine goes_ Try.func52 (by kernel_rfl) rfl #[.pointer (some ⟨r.Br, 0, none⟩), .int .i64 (f4)] (by rfl) rfl rfl (by (try simp only [List.map_toArray, List.map_cons, List.map_nil]); first | done | rfl) ?_
              refine (st_in HROF.out HST.out (f4) HS.out hlen).mono ?_
              rintro e W8 ⟨A8, c8, rfl, hC_, hst_⟩
              refine ⟨_, rfl, ?_⟩
              have HST := Aside0.mk hst_
              have HC8 := Aside0.mk hC_
              clear hst_ hC_
              refine hK.out _ _ HST.out.ch (fun hHeld => ?_)
              clear hK K
              refine norm_ (a' := ?_) ?_ ?_
              rotate_left
              · show Act.put _ (some 98) _ = _
                simp only [Act.put, List.setIfInBounds_toArray, List.set_cons_zero, List.set_cons_succ, i64_w, i32_w]
                rfl
              refine one_ (i := 7) (N := some 99) #[true, true, true, true, true, true, true, true] rfl rfl (one_of HT_.out (by kernel_rfl)) (by decide) (fun K hK => ?_)
              refine goes_ Try.func37 (by kernel_rfl) rfl #[.pointer (some ⟨r.Br, 0, none⟩), .int .i64 9, .int .i64 (x.out), .string ⟨#[]⟩, .slice A8 (bsL r.l 9 (f4)).length c8] (by rfl) rfl rfl (by (try simp only [List.map_toArray, List.map_cons, List.map_nil]); first | done | rfl) ?_
              refine (st_asks HROF.out HST.out HGK.out rfl HC8.out).mono ?_
              rintro e W9 ⟨rfl, hst_, hg_⟩
              refine ⟨_, rfl, ?_⟩
              have HST := Aside0.mk hst_
              have HGK := Aside0.mk hg_
              clear hst_ hg_
              refine hK.out _ _ HST.out.ch (fun hHeld => ?_)
              clear hK K
              refine norm_ (a' := ?_) ?_ ?_
              rotate_left
              · show Act.put _ (some 99) _ = _
                simp only [Act.put, List.setIfInBounds_toArray, List.set_cons_zero, List.set_cons_succ, i64_w, i32_w]
                rfl
              refine done_ (done_of HT_.out (by kernel_rfl)) ?_
              clear hHeld
              go_wp2
              go_roundg (r.fs.length - (k + 1))
              case measure => omega
              case rel =>
                have e : L ++ rg (k + 1) (funAsk r.l x c r.fs) = Lc ++ rg f1.length (parAsk r.l x f1) ++ askL 9 x.ret noS (bsL r.l 9 f3) ++ askL 9 x.out noS (bsL r.l 9 f4) := by
                  rw [HRG.out, HF1.out, HLC.out]
                  simp only [List.append_assoc, List.append_nil]
                exact ⟨k + 1, by go_num, by omega, by rw [e]; exact HST.out.rebase HCHF.out⟩
        · have hfb : (f0 == c) = false := by simp [hfc]
          have HF0 := Aside0.mk (show FK = [] by rw [HFK.out, if_pos (.inr hfc)])
          go_wp2
          rw [← HWF.out]
          go_roundg (gk - 1)
          case measure => omega
          case rel => exact ⟨k + 1, by go_num, by omega, by rw [HRG.out, HF0.out, List.append_nil]; exact HSTF.out.rebase HCHF.out⟩
    · obtain rfl : k = r.fs.length := by omega
      have HGK := Aside0.mk (HG.out.next.head)
      clear hst
      by_cases hc : c = 2 ∨ c = 3
      · rcases hc with rfl | rfl
        · obtain ⟨t, ht⟩ : ∃ t, t = r.s0 - 9 := ⟨_, rfl⟩
          have hw1 : wrap64 (r.s0 - 9) = t := by unfold wrap64; omega
          have hw4 : wrap64 t = t := by unfold wrap64; omega
          have HTL := Aside0.mk (show tailAsk r.s0 r.l x 2 = spareAsk r.l x 2 t by simp [tailAsk, ht])
          rw [HTL.out] at HGK
          unfold spareAsk at HGK
          have HT := Aside0.mk ht
          have hw5 : wrap64 (t + 1) = t + 1 := by unfold wrap64; omega
          have hw6 : wrap64 (t + 2) = t + 2 := by unfold wrap64; omega
          have hw7 : wrap64 (t + 3) = t + 3 := by unfold wrap64; omega
          clear ht
          obtain ⟨d0, _⟩ := HRC.out _ HST.out.ch
          obtain ⟨x0, x1, x2, x3, x4, x5⟩ := HCL.out _ HST.out.ch
          go_wp2_with fail
          rw [← HT.out]
          clear x0 x1 x2 x3 x4 x5 d0 hw1 hw4
          refine (st_ask1 HRO.out HST.out HGK.out rfl).mono ?_
          rintro e W2 ⟨rfl, hst_, hg_⟩
          have HST := Aside0.mk hst_
          have HGK := Aside0.mk hg_
          clear hst_ hg_
          obtain ⟨x0, x1, x2, x3, x4, x5⟩ := HCL.out W2 HST.out.ch
          go_wp2_with fail
          clear x0 x1 x2 x3 x4 x5
          refine (st_asks HRO.out HST.out HGK.out rfl (HTH.out _ HST.out.ch)).mono ?_
          rintro e W3 ⟨rfl, hst_, hg_⟩
          have HST := Aside0.mk hst_
          have HGK := Aside0.mk hg_
          clear hst_ hg_
          obtain ⟨x0, x1, x2, x3, x4, x5⟩ := HCL.out W3 HST.out.ch
          go_wp2_with fail
          clear x0 x1 x2 x3 x4 x5
          obtain ⟨Lc, hLc⟩ : ∃ Lc, Lc = L ++ rg r.fs.length (funAsk r.l x 2 r.fs) ++ askL 5 x.mark noS [2] ++ askL 9 t noS x.this := ⟨_, rfl⟩
          have HST4 := Aside0.mk (show StA r n S Lc Wb W3 by rw [hLc]; exact HST.out)
          have HG4 := Aside0.mk (show Good n (Lc ++ (rg x.args.length (argAsk r.l x t) ++ ((if 0 ≤ x.each then askL 9 (t + 1) noS (bsL r.l 9 x.each) else []) ++ (askL 9 x.ret noS (bsL r.l 9 (t + 2)) ++ (askL 9 x.out noS (bsL r.l 9 (t + 3)) ++ []))))) by rw [hLc]; exact HGK.out)
          have HLC := Aside0.mk hLc
          clear hLc HST HGK
          go_loopg [131] x.args.length (fun jq v131 W_ => ∃ j : Nat, v131 = .int .i64 j ∧ j + jq = x.args.length ∧ StA r n S (Lc ++ rg j (argAsk r.l x t)) Wb W_)
          case atStart => exact ⟨0, rfl, by omega, by rw [rg_zero, List.append_nil]; exact HST4.out⟩
          case round =>
            clear HST4
            obtain ⟨j, rfl, hj, hst⟩ := hrel
            have HST := Aside0.mk hst
            clear hst
            obtain ⟨x0, x1, x2, x3, x4, x5⟩ := HCL.out _ HST.out.ch
            by_cases hla : j < x.args.length
            · have HGK := Aside0.mk (HG4.out.loop hla)
              have HPK := Aside0.mk (show argAsk r.l x t j = askL 9 (t + 1) noS (bsL r.l 9 (rd x.args (j : Int))) ++ [] from rfl)
              have HRJ := Aside0.mk (rg_succ j (argAsk r.l x t))
              obtain ⟨ad3, rfl, hp3⟩ := Kd.at_int (HAR.out _ HST.out.ch) (j : Int) (by omega) (by omega)
              rw [Int.toNat_natCast] at hp3
              generalize rd x.args (j : Int) = av at *
              generalize argAsk r.l x t j = PJ at *
              rw [HPK.out, List.append_nil] at HGK
              go_wp2_with fail
              clear x0 x1 x2 x3 x4 x5
              refine (st_in HRO.out HST.out av HS.out hlen).mono ?_
              rintro e W5 ⟨A5, c5, rfl, hC_, hst_⟩
              have HST := Aside0.mk hst_
              have HC5 := Aside0.mk hC_
              clear hst_ hC_
              obtain ⟨x0, x1, x2, x3, x4, x5⟩ := HCL.out W5 HST.out.ch
              go_wp2_with fail
              clear x0 x1 x2 x3 x4 x5
              refine (st_asks HRO.out HST.out HGK.out rfl HC5.out).mono ?_
              rintro e W6 ⟨rfl, hst_, hg_⟩
              have HST := Aside0.mk hst_
              have HGK := Aside0.mk hg_
              clear hst_ hg_
              obtain ⟨x0, x1, x2, x3, x4, x5⟩ := HCL.out W6 HST.out.ch
              go_wp2
              go_roundg (gk - 1)
              case measure => omega
              case rel => exact ⟨j + 1, by go_num, by omega, by rw [HRJ.out, HPK.out, List.append_nil, ← List.append_assoc]; exact HST.out⟩
            · obtain rfl : j = x.args.length := by omega
              have HGK := Aside0.mk (HG4.out.next)
              clear HG4
              by_cases hge : 0 ≤ x.each
              · rw [if_pos hge] at HGK
                go_wp2_with fail
                clear x0 x1 x2 x3 x4 x5
                refine (st_in HRO.out HST.out x.each HS.out hlen).mono ?_
                rintro e W5 ⟨A5, c5, rfl, hC_, hst_⟩
                have HST := Aside0.mk hst_
                have HC5 := Aside0.mk hC_
                clear hst_ hC_
                obtain ⟨x0, x1, x2, x3, x4, x5⟩ := HCL.out W5 HST.out.ch
                go_wp2_with fail
                clear x0 x1 x2 x3 x4 x5
                refine (st_asks HRO.out HST.out HGK.out rfl HC5.out).mono ?_
                rintro e W6 ⟨rfl, hst_, hg_⟩
                have HST := Aside0.mk hst_
                have HGK := Aside0.mk hg_
                clear hst_ hg_
                obtain ⟨x0, x1, x2, x3, x4, x5⟩ := HCL.out W6 HST.out.ch
                go_wp2
                clear x0 x1 x2 x3 x4 x5
                obtain ⟨Wd, hWd⟩ : ∃ Wd, W6.drew = Wd := ⟨_, rfl⟩
                have HST := Aside0.mk (HST.out.quiet (W' := Wd) (by rw [← hWd]; exact below_drew (Below.refl _ _)))
                refine start_ (n := 8) (S := fun W' => Chg (fun i => i = r.Mb) Wb W') (ds := []) #[false, false, false, false, false, false, false, false] (by kernel_rfl) rfl rfl (by rw [hWd]; exact HST.out.ch) (fun hHeld => ?_)
                rw [hWd] at hHeld ⊢
                refine with_tabW cdtab30 cdbits30 (fun HT_ HW_ => ?_)
                refine pure_ (i := 0) (N := some 154) (v := ?_) (a' := ?_) #[true, false, false, false, false, false, false, false] rfl rfl (any_of HT_.out (by kernel_rfl)) (fun _ _ _ h => h) (Or.inl ⟨by rfl, ?_⟩) ?_ ?_
                rotate_left
                · intro w'
                  first | (go_simp; with_reducible rfl)
                rotate_left
                · simp only [Act.put, List.setIfInBounds_toArray, List.set_cons_zero, List.set_cons_succ, i64_w, i32_w, hw6, hw7]
                  rfl
                refine pure_ (i := 1) (N := some 155) (v := ?_) (a' := ?_) #[true, true, false, false, false, false, false, false] rfl rfl (any_of HT_.out (by kernel_rfl)) (fun _ _ _ h => h) (Or.inl ⟨by rfl, ?_⟩) ?_ ?_
                rotate_left
                · intro w'
                  first | (go_simp; with_reducible rfl)
                rotate_left
                · simp only [Act.put, List.setIfInBounds_toArray, List.set_cons_zero, List.set_cons_succ, i64_w, i32_w, hw6, hw7]
                  rfl
                refine take_ (i := 2) (N := some 156) (v := ?_) (a' := ?_) #[true, true, true, false, false, false, false, false] rfl rfl (take_ofW HT_.out HW_.out (by kernel_rfl)) (fun _ _ _ h => h) (Or.inl ⟨by rfl, ?_⟩) hHeld ?_ ?_
                rotate_left
                · intro w' hw'
                  obtain ⟨x0, x1, x2, x3, x4, x5⟩ := HCL.out w' hw'
                  first | (go_simp; with_reducible rfl)
                rotate_left
                · simp only [Act.put, List.setIfInBounds_toArray, List.set_cons_zero, List.set_cons_succ, i64_w, i32_w, hw6, hw7]
                  rfl
                refine pure_ (i := 3) (N := some 157) (v := ?_) (a' := ?_) #[true, true, true, true, false, false, false, false] rfl rfl (any_of HT_.out (by kernel_rfl)) (fun _ _ _ h => h) (Or.inl ⟨by rfl, ?_⟩) ?_ ?_
                rotate_left
                · intro w'
                  first | (go_simp; with_reducible rfl)
                rotate_left
                · simp only [Act.put, List.setIfInBounds_toArray, List.set_cons_zero, List.set_cons_succ, i64_w, i32_w, hw6, hw7]
                  rfl
                refine pure_ (i := 4) (N := some 158) (v := ?_) (a' := ?_) #[true, true, true, true, true, false, false, false] rfl rfl (any_of HT_.out (by kernel_rfl)) (fun _ _ _ h => h) (Or.inl ⟨by rfl, ?_⟩) ?_ ?_
                rotate_left
                · intro w'
                  first | (go_simp; with_reducible rfl)
                rotate_left
                · simp only [Act.put, List.setIfInBounds_toArray, List.set_cons_zero, List.set_cons_succ, i64_w, i32_w, hw6, hw7]
                  rfl
                refine pure_ (i := 5) (N := some 159) (v := ?_) (a' := ?_) #[true, true, true, true, true, true, false, false] rfl rfl (any_of HT_.out (by kernel_rfl)) (fun _ _ _ h => h) (Or.inl ⟨by rfl, ?_⟩) ?_ ?_
                rotate_left
                · intro w'
                  first | (go_simp; with_reducible rfl)
                rotate_left
                · simp only [Act.put, List.setIfInBounds_toArray, List.set_cons_zero, List.set_cons_succ, i64_w, i32_w, hw6, hw7]
                  rfl
                refine one_ (i := 6) (N := some 160) #[true, true, true, true, true, true, true, false] rfl rfl (one_of HT_.out (by kernel_rfl)) (by decide) (fun K hK => ?_)
                refine goes_ Try.func52 (by kernel_rfl) rfl #[.pointer (some ⟨r.Br, 0, none⟩), .int .i64 (t + 2)] (by rfl) rfl rfl (by (try simp only [List.map_toArray, List.map_cons, List.map_nil]); first | done | rfl) ?_
                refine (st_in HRO.out HST.out (t + 2) HS.out hlen).mono ?_
                rintro e W8 ⟨A8, c8, rfl, hC_, hst_⟩
                refine ⟨_, rfl, ?_⟩
                have HST := Aside0.mk hst_
                have HC8 := Aside0.mk hC_
                clear hst_ hC_
                refine hK.out _ _ HST.out.ch (fun hHeld => ?_)
                clear hK K
                refine norm_ (a' := ?_) ?_ ?_
                rotate_left
                · show Act.put _ (some 160) _ = _
                  simp only [Act.put, List.setIfInBounds_toArray, List.set_cons_zero, List.set_cons_succ, i64_w, i32_w, hw6, hw7]
                  rfl
                refine one_ (i := 7) (N := some 161) #[true, true, true, true, true, true, true, true] rfl rfl (one_of HT_.out (by kernel_rfl)) (by decide) (fun K hK => ?_)
                refine goes_ Try.func37 (by kernel_rfl) rfl #[.pointer (some ⟨r.Br, 0, none⟩), .int .i64 9, .int .i64 (x.ret), .string ⟨#[]⟩, .slice A8 (bsL r.l 9 (t + 2)).length c8] (by rfl) rfl rfl (by (try simp only [List.map_toArray, List.map_cons, List.map_nil]); first | done | rfl) ?_
                refine (st_asks HRO.out HST.out HGK.out rfl HC8.out).mono ?_
                rintro e W9 ⟨rfl, hst_, hg_⟩
                refine ⟨_, rfl, ?_⟩
                have HST := Aside0.mk hst_
                have HGK := Aside0.mk hg_
                clear hst_ hg_
                refine hK.out _ _ HST.out.ch (fun hHeld => ?_)
                clear hK K
                refine norm_ (a' := ?_) ?_ ?_
                rotate_left
                · show Act.put _ (some 161) _ = _
                  simp only [Act.put, List.setIfInBounds_toArray, List.set_cons_zero, List.set_cons_succ, i64_w, i32_w, hw6, hw7]
                  rfl
                refine done_ (done_of HT_.out (by kernel_rfl)) ?_
                clear hHeld
                go_wp2
                obtain ⟨Wd, hWd⟩ : ∃ Wd, W9.drew = Wd := ⟨_, rfl⟩
                have HST := Aside0.mk (HST.out.quiet (W' := Wd) (by rw [← hWd]; exact below_drew (Below.refl _ _)))
                refine start_ (n := 8) (S := fun W' => Chg (fun i => i = r.Mb) Wb W') (ds := []) #[false, false, false, false, false, false, false, false] (by kernel_rfl) rfl rfl (by rw [hWd]; exact HST.out.ch) (fun hHeld => ?_)
                rw [hWd] at hHeld ⊢
                refine with_tabW cdtab31 cdbits31 (fun HT_ HW_ => ?_)
                refine pure_ (i := 0) (N := some 162) (v := ?_) (a' := ?_) #[true, false, false, false, false, false, false, false] rfl rfl (any_of HT_.out (by kernel_rfl)) (fun _ _ _ h => h) (Or.inl ⟨by rfl, ?_⟩) ?_ ?_
                rotate_left
                · intro w'
                  first | (go_simp; with_reducible rfl)
                rotate_left
                · simp only [Act.put, List.setIfInBounds_toArray, List.set_cons_zero, List.set_cons_succ, i64_w, i32_w, hw6, hw7]
                  rfl
                refine pure_ (i := 1) (N := some 163) (v := ?_) (a' := ?_) #[true, true, false, false, false, false, false, false] rfl rfl (any_of HT_.out (by kernel_rfl)) (fun _ _ _ h => h) (Or.inl ⟨by rfl, ?_⟩) ?_ ?_
                rotate_left
                · intro w'
                  first | (go_simp; with_reducible rfl)
                rotate_left
                · simp only [Act.put, List.setIfInBounds_toArray, List.set_cons_zero, List.set_cons_succ, i64_w, i32_w, hw6, hw7]
                  rfl
                refine take_ (i := 2) (N := some 164) (v := ?_) (a' := ?_) #[true, true, true, false, false, false, false, false] rfl rfl (take_ofW HT_.out HW_.out (by kernel_rfl)) (fun _ _ _ h => h) (Or.inl ⟨by rfl, ?_⟩) hHeld ?_ ?_
                rotate_left
                · intro w' hw'
                  obtain ⟨x0, x1, x2, x3, x4, x5⟩ := HCL.out w' hw'
                  first | (go_simp; with_reducible rfl)
                rotate_left
                · simp only [Act.put, List.setIfInBounds_toArray, List.set_cons_zero, List.set_cons_succ, i64_w, i32_w, hw6, hw7]
                  rfl
                refine pure_ (i := 3) (N := some 165) (v := ?_) (a' := ?_) #[true, true, true, true, false, false, false, false] rfl rfl (any_of HT_.out (by kernel_rfl)) (fun _ _ _ h => h) (Or.inl ⟨by rfl, ?_⟩) ?_ ?_
                rotate_left
                · intro w'
                  first | (go_simp; with_reducible rfl)
                rotate_left
                · simp only [Act.put, List.setIfInBounds_toArray, List.set_cons_zero, List.set_cons_succ, i64_w, i32_w, hw6, hw7]
                  rfl
                refine pure_ (i := 4) (N := some 166) (v := ?_) (a' := ?_) #[true, true, true, true, true, false, false, false] rfl rfl (any_of HT_.out (by kernel_rfl)) (fun _ _ _ h => h) (Or.inl ⟨by rfl, ?_⟩) ?_ ?_
                rotate_left
                · intro w'
                  first | (go_simp; with_reducible rfl)
                rotate_left
                · simp only [Act.put, List.setIfInBounds_toArray, List.set_cons_zero, List.set_cons_succ, i64_w, i32_w, hw6, hw7]
                  rfl
                refine pure_ (i := 5) (N := some 167) (v := ?_) (a' := ?_) #[true, true, true, true, true, true, false, false] rfl rfl (any_of HT_.out (by kernel_rfl)) (fun _ _ _ h => h) (Or.inl ⟨by rfl, ?_⟩) ?_ ?_
                rotate_left
                · intro w'
                  first | (go_simp; with_reducible rfl)
                rotate_left
                · simp only [Act.put, List.setIfInBounds_toArray, List.set_cons_zero, List.set_cons_succ, i64_w, i32_w, hw6, hw7]
                  rfl
                refine one_ (i := 6) (N := some 168) #[true, true, true, true, true, true, true, false] rfl rfl (one_of HT_.out (by kernel_rfl)) (by decide) (fun K hK => ?_)
                refine goes_ Try.func52 (by kernel_rfl) rfl #[.pointer (some ⟨r.Br, 0, none⟩), .int .i64 (t + 3)] (by rfl) rfl rfl (by (try simp only [List.map_toArray, List.map_cons, List.map_nil]); first | done | rfl) ?_
                refine (st_in HRO.out HST.out (t + 3) HS.out hlen).mono ?_
                rintro e W8 ⟨A8, c8, rfl, hC_, hst_⟩
                refine ⟨_, rfl, ?_⟩
                have HST := Aside0.mk hst_
                have HC8 := Aside0.mk hC_
                clear hst_ hC_
                refine hK.out _ _ HST.out.ch (fun hHeld => ?_)
                clear hK K
                refine norm_ (a' := ?_) ?_ ?_
                rotate_left
                · show Act.put _ (some 168) _ = _
                  simp only [Act.put, List.setIfInBounds_toArray, List.set_cons_zero, List.set_cons_succ, i64_w, i32_w, hw6, hw7]
                  rfl
                refine one_ (i := 7) (N := some 169) #[true, true, true, true, true, true, true, true] rfl rfl (one_of HT_.out (by kernel_rfl)) (by decide) (fun K hK => ?_)
                refine goes_ Try.func37 (by kernel_rfl) rfl #[.pointer (some ⟨r.Br, 0, none⟩), .int .i64 9, .int .i64 (x.out), .string ⟨#[]⟩, .slice A8 (bsL r.l 9 (t + 3)).length c8] (by rfl) rfl rfl (by (try simp only [List.map_toArray, List.map_cons, List.map_nil]); first | done | rfl) ?_
                refine (st_asks HRO.out HST.out HGK.out rfl HC8.out).mono ?_
                rintro e W9 ⟨rfl, hst_, hg_⟩
                refine ⟨_, rfl, ?_⟩
                have HST := Aside0.mk hst_
                have HGK := Aside0.mk hg_
                clear hst_ hg_
                refine hK.out _ _ HST.out.ch (fun hHeld => ?_)
                clear hK K
                refine norm_ (a' := ?_) ?_ ?_
                rotate_left
                · show Act.put _ (some 169) _ = _
                  simp only [Act.put, List.setIfInBounds_toArray, List.set_cons_zero, List.set_cons_succ, i64_w, i32_w, hw6, hw7]
                  rfl
                refine done_ (done_of HT_.out (by kernel_rfl)) ?_
                clear hHeld
                go_wp2
                go_end0
                have e : L ++ callL r x 2 = Lc ++ rg x.args.length (argAsk r.l x t) ++ askL 9 (t + 1) noS (bsL r.l 9 x.each) ++ askL 9 x.ret noS (bsL r.l 9 (t + 2)) ++ askL 9 x.out noS (bsL r.l 9 (t + 3)) := by
                  rw [callL, HTL.out, spareAsk, if_pos hge, HLC.out]
                  simp only [List.append_assoc, List.append_nil, List.nil_append]
                exact ⟨rfl, by rw [e]; exact HST.out.rebase HCH.out, HGO.out.next⟩
              · rw [if_neg hge, List.nil_append] at HGK
                go_wp2
                clear x0 x1 x2 x3 x4 x5
                obtain ⟨Wd, hWd⟩ : ∃ Wd, wr.drew = Wd := ⟨_, rfl⟩
                have HST := Aside0.mk (HST.out.quiet (W' := Wd) (by rw [← hWd]; exact below_drew (Below.refl _ _)))
                refine start_ (n := 8) (S := fun W' => Chg (fun i => i = r.Mb) Wb W') (ds := []) #[false, false, false, false, false, false, false, false] (by kernel_rfl) rfl rfl (by rw [hWd]; exact HST.out.ch) (fun hHeld => ?_)
                rw [hWd] at hHeld ⊢
                refine with_tabW cdtab30 cdbits30 (fun HT_ HW_ => ?_)
                refine pure_ (i := 0) (N := some 154) (v := ?_) (a' := ?_) #[true, false, false, false, false, false, false, false] rfl rfl (any_of HT_.out (by kernel_rfl)) (fun _ _ _ h => h) (Or.inl ⟨by rfl, ?_⟩) ?_ ?_
                rotate_left
                · intro w'
                  first | (go_simp; with_reducible rfl)
                rotate_left
                · simp only [Act.put, List.setIfInBounds_toArray, List.set_cons_zero, List.set_cons_succ, i64_w, i32_w, hw6, hw7]
                  rfl
                refine pure_ (i := 1) (N := some 155) (v := ?_) (a' := ?_) #[true, true, false, false, false, false, false, false] rfl rfl (any_of HT_.out (by kernel_rfl)) (fun _ _ _ h => h) (Or.inl ⟨by rfl, ?_⟩) ?_ ?_
                rotate_left
                · intro w'
                  first | (go_simp; with_reducible rfl)
                rotate_left
                · simp only [Act.put, List.setIfInBounds_toArray, List.set_cons_zero, List.set_cons_succ, i64_w, i32_w, hw6, hw7]
                  rfl
                refine take_ (i := 2) (N := some 156) (v := ?_) (a' := ?_) #[true, true, true, false, false, false, false, false] rfl rfl (take_ofW HT_.out HW_.out (by kernel_rfl)) (fun _ _ _ h => h) (Or.inl ⟨by rfl, ?_⟩) hHeld ?_ ?_
                rotate_left
                · intro w' hw'
                  obtain ⟨x0, x1, x2, x3, x4, x5⟩ := HCL.out w' hw'
                  first | (go_simp; with_reducible rfl)
                rotate_left
                · simp only [Act.put, List.setIfInBounds_toArray, List.set_cons_zero, List.set_cons_succ, i64_w, i32_w, hw6, hw7]
                  rfl
                refine pure_ (i := 3) (N := some 157) (v := ?_) (a' := ?_) #[true, true, true, true, false, false, false, false] rfl rfl (any_of HT_.out (by kernel_rfl)) (fun _ _ _ h => h) (Or.inl ⟨by rfl, ?_⟩) ?_ ?_
                rotate_left
                · intro w'
                  first | (go_simp; with_reducible rfl)
                rotate_left
                · simp only [Act.put, List.setIfInBounds_toArray, List.set_cons_zero, List.set_cons_succ, i64_w, i32_w, hw6, hw7]
                  rfl
                refine pure_ (i := 4) (N := some 158) (v := ?_) (a' := ?_) #[true, true, true, true, true, false, false, false] rfl rfl (any_of HT_.out (by kernel_rfl)) (fun _ _ _ h => h) (Or.inl ⟨by rfl, ?_⟩) ?_ ?_
                rotate_left
                · intro w'
                  first | (go_simp; with_reducible rfl)
                rotate_left
                · simp only [Act.put, List.setIfInBounds_toArray, List.set_cons_zero, List.set_cons_succ, i64_w, i32_w, hw6, hw7]
                  rfl
                refine pure_ (i := 5) (N := some 159) (v := ?_) (a' := ?_) #[true, true, true, true, true, true, false, false] rfl rfl (any_of HT_.out (by kernel_rfl)) (fun _ _ _ h => h) (Or.inl ⟨by rfl, ?_⟩) ?_ ?_
                rotate_left
                · intro w'
                  first | (go_simp; with_reducible rfl)
                rotate_left
                · simp only [Act.put, List.setIfInBounds_toArray, List.set_cons_zero, List.set_cons_succ, i64_w, i32_w, hw6, hw7]
                  rfl
                refine one_ (i := 6) (N := some 160) #[true, true, true, true, true, true, true, false] rfl rfl (one_of HT_.out (by kernel_rfl)) (by decide) (fun K hK => ?_)
                refine goes_ Try.func52 (by kernel_rfl) rfl #[.pointer (some ⟨r.Br, 0, none⟩), .int .i64 (t + 2)] (by rfl) rfl rfl (by (try simp only [List.map_toArray, List.map_cons, List.map_nil]); first | done | rfl) ?_
                refine (st_in HRO.out HST.out (t + 2) HS.out hlen).mono ?_
                rintro e W8 ⟨A8, c8, rfl, hC_, hst_⟩
                refine ⟨_, rfl, ?_⟩
                have HST := Aside0.mk hst_
                have HC8 := Aside0.mk hC_
                clear hst_ hC_
                refine hK.out _ _ HST.out.ch (fun hHeld => ?_)
                clear hK K
                refine norm_ (a' := ?_) ?_ ?_
                rotate_left
                · show Act.put _ (some 160) _ = _
                  simp only [Act.put, List.setIfInBounds_toArray, List.set_cons_zero, List.set_cons_succ, i64_w, i32_w, hw6, hw7]
                  rfl
                refine one_ (i := 7) (N := some 161) #[true, true, true, true, true, true, true, true] rfl rfl (one_of HT_.out (by kernel_rfl)) (by decide) (fun K hK => ?_)
                refine goes_ Try.func37 (by kernel_rfl) rfl #[.pointer (some ⟨r.Br, 0, none⟩), .int .i64 9, .int .i64 (x.ret), .string ⟨#[]⟩, .slice A8 (bsL r.l 9 (t + 2)).length c8] (by rfl) rfl rfl (by (try simp only [List.map_toArray, List.map_cons, List.map_nil]); first | done | rfl) ?_
                refine (st_asks HRO.out HST.out HGK.out rfl HC8.out).mono ?_
                rintro e W9 ⟨rfl, hst_, hg_⟩
                refine ⟨_, rfl, ?_⟩
                have HST := Aside0.mk hst_
                have HGK := Aside0.mk hg_
                clear hst_ hg_
                refine hK.out _ _ HST.out.ch (fun hHeld => ?_)
                clear hK K
                refine norm_ (a' := ?_) ?_ ?_
                rotate_left
                · show Act.put _ (some 161) _ = _
                  simp only [Act.put, List.setIfInBounds_toArray, List.set_cons_zero, List.set_cons_succ, i64_w, i32_w, hw6, hw7]
                  rfl
                refine done_ (done_of HT_.out (by kernel_rfl)) ?_
                clear hHeld
                go_wp2
                obtain ⟨Wd, hWd⟩ : ∃ Wd, W9.drew = Wd := ⟨_, rfl⟩
                have HST := Aside0.mk (HST.out.quiet (W' := Wd) (by rw [← hWd]; exact below_drew (Below.refl _ _)))
                refine start_ (n := 8) (S := fun W' => Chg (fun i => i = r.Mb) Wb W') (ds := []) #[false, false, false, false, false, false, false, false] (by kernel_rfl) rfl rfl (by rw [hWd]; exact HST.out.ch) (fun hHeld => ?_)
                rw [hWd] at hHeld ⊢
                refine with_tabW cdtab31 cdbits31 (fun HT_ HW_ => ?_)
                refine pure_ (i := 0) (N := some 162) (v := ?_) (a' := ?_) #[true, false, false, false, false, false, false, false] rfl rfl (any_of HT_.out (by kernel_rfl)) (fun _ _ _ h => h) (Or.inl ⟨by rfl, ?_⟩) ?_ ?_
                rotate_left
                · intro w'
                  first | (go_simp; with_reducible rfl)
                rotate_left
                · simp only [Act.put, List.setIfInBounds_toArray, List.set_cons_zero, List.set_cons_succ, i64_w, i32_w, hw6, hw7]
                  rfl
                refine pure_ (i := 1) (N := some 163) (v := ?_) (a' := ?_) #[true, true, false, false, false, false, false, false] rfl rfl (any_of HT_.out (by kernel_rfl)) (fun _ _ _ h => h) (Or.inl ⟨by rfl, ?_⟩) ?_ ?_
                rotate_left
                · intro w'
                  first | (go_simp; with_reducible rfl)
                rotate_left
                · simp only [Act.put, List.setIfInBounds_toArray, List.set_cons_zero, List.set_cons_succ, i64_w, i32_w, hw6, hw7]
                  rfl
                refine take_ (i := 2) (N := some 164) (v := ?_) (a' := ?_) #[true, true, true, false, false, false, false, false] rfl rfl (take_ofW HT_.out HW_.out (by kernel_rfl)) (fun _ _ _ h => h) (Or.inl ⟨by rfl, ?_⟩) hHeld ?_ ?_
                rotate_left
                · intro w' hw'
                  obtain ⟨x0, x1, x2, x3, x4, x5⟩ := HCL.out w' hw'
                  first | (go_simp; with_reducible rfl)
                rotate_left
                · simp only [Act.put, List.setIfInBounds_toArray, List.set_cons_zero, List.set_cons_succ, i64_w, i32_w, hw6, hw7]
                  rfl
                refine pure_ (i := 3) (N := some 165) (v := ?_) (a' := ?_) #[true, true, true, true, false, false, false, false] rfl rfl (any_of HT_.out (by kernel_rfl)) (fun _ _ _ h => h) (Or.inl ⟨by rfl, ?_⟩) ?_ ?_
                rotate_left
                · intro w'
                  first | (go_simp; with_reducible rfl)
                rotate_left
                · simp only [Act.put, List.setIfInBounds_toArray, List.set_cons_zero, List.set_cons_succ, i64_w, i32_w, hw6, hw7]
                  rfl
                refine pure_ (i := 4) (N := some 166) (v := ?_) (a' := ?_) #[true, true, true, true, true, false, false, false] rfl rfl (any_of HT_.out (by kernel_rfl)) (fun _ _ _ h => h) (Or.inl ⟨by rfl, ?_⟩) ?_ ?_
                rotate_left
                · intro w'
                  first | (go_simp; with_reducible rfl)
                rotate_left
                · simp only [Act.put, List.setIfInBounds_toArray, List.set_cons_zero, List.set_cons_succ, i64_w, i32_w, hw6, hw7]
                  rfl
                refine pure_ (i := 5) (N := some 167) (v := ?_) (a' := ?_) #[true, true, true, true, true, true, false, false] rfl rfl (any_of HT_.out (by kernel_rfl)) (fun _ _ _ h => h) (Or.inl ⟨by rfl, ?_⟩) ?_ ?_
                rotate_left
                · intro w'
                  first | (go_simp; with_reducible rfl)
                rotate_left
                · simp only [Act.put, List.setIfInBounds_toArray, List.set_cons_zero, List.set_cons_succ, i64_w, i32_w, hw6, hw7]
                  rfl
                refine one_ (i := 6) (N := some 168) #[true, true, true, true, true, true, true, false] rfl rfl (one_of HT_.out (by kernel_rfl)) (by decide) (fun K hK => ?_)
                refine goes_ Try.func52 (by kernel_rfl) rfl #[.pointer (some ⟨r.Br, 0, none⟩), .int .i64 (t + 3)] (by rfl) rfl rfl (by (try simp only [List.map_toArray, List.map_cons, List.map_nil]); first | done | rfl) ?_
                refine (st_in HRO.out HST.out (t + 3) HS.out hlen).mono ?_
                rintro e W8 ⟨A8, c8, rfl, hC_, hst_⟩
                refine ⟨_, rfl, ?_⟩
                have HST := Aside0.mk hst_
                have HC8 := Aside0.mk hC_
                clear hst_ hC_
                refine hK.out _ _ HST.out.ch (fun hHeld => ?_)
                clear hK K
                refine norm_ (a' := ?_) ?_ ?_
                rotate_left
                · show Act.put _ (some 168) _ = _
                  simp only [Act.put, List.setIfInBounds_toArray, List.set_cons_zero, List.set_cons_succ, i64_w, i32_w, hw6, hw7]
                  rfl
                refine one_ (i := 7) (N := some 169) #[true, true, true, true, true, true, true, true] rfl rfl (one_of HT_.out (by kernel_rfl)) (by decide) (fun K hK => ?_)
                refine goes_ Try.func37 (by kernel_rfl) rfl #[.pointer (some ⟨r.Br, 0, none⟩), .int .i64 9, .int .i64 (x.out), .string ⟨#[]⟩, .slice A8 (bsL r.l 9 (t + 3)).length c8] (by rfl) rfl rfl (by (try simp only [List.map_toArray, List.map_cons, List.map_nil]); first | done | rfl) ?_
                refine (st_asks HRO.out HST.out HGK.out rfl HC8.out).mono ?_
                rintro e W9 ⟨rfl, hst_, hg_⟩
                refine ⟨_, rfl, ?_⟩
                have HST := Aside0.mk hst_
                have HGK := Aside0.mk hg_
                clear hst_ hg_
                refine hK.out _ _ HST.out.ch (fun hHeld => ?_)
                clear hK K
                refine norm_ (a' := ?_) ?_ ?_
                rotate_left
                · show Act.put _ (some 169) _ = _
                  simp only [Act.put, List.setIfInBounds_toArray, List.set_cons_zero, List.set_cons_succ, i64_w, i32_w, hw6, hw7]
                  rfl
                refine done_ (done_of HT_.out (by kernel_rfl)) ?_
                clear hHeld
                go_wp2
                go_end0
                have e : L ++ callL r x 2 = Lc ++ rg x.args.length (argAsk r.l x t) ++ askL 9 x.ret noS (bsL r.l 9 (t + 2)) ++ askL 9 x.out noS (bsL r.l 9 (t + 3)) := by
                  rw [callL, HTL.out, spareAsk, if_neg (by omega), HLC.out]
                  simp only [List.append_assoc, List.append_nil, List.nil_append]
                exact ⟨rfl, by rw [e]; exact HST.out.rebase HCH.out, HGO.out.next⟩
        · obtain ⟨t, ht⟩ : ∃ t, t = r.s0 - 9 + 4 := ⟨_, rfl⟩
          have hw1 : wrap64 (r.s0 - 9) = t - 4 := by unfold wrap64; omega
          have hw4 : wrap64 (t - 4 + 4) = t := by unfold wrap64; omega
          have HTL := Aside0.mk (show tailAsk r.s0 r.l x 3 = spareAsk r.l x 3 t by simp [tailAsk, ht])
          rw [HTL.out] at HGK
          unfold spareAsk at HGK
          have HT := Aside0.mk ht
          have hw5 : wrap64 (t + 1) = t + 1 := by unfold wrap64; omega
          have hw6 : wrap64 (t + 2) = t + 2 := by unfold wrap64; omega
          have hw7 : wrap64 (t + 3) = t + 3 := by unfold wrap64; omega
          clear ht
          obtain ⟨d0, _⟩ := HRC.out _ HST.out.ch
          obtain ⟨x0, x1, x2, x3, x4, x5⟩ := HCL.out _ HST.out.ch
          go_wp2_with fail
          rw [← HT.out]
          clear x0 x1 x2 x3 x4 x5 d0 hw1 hw4
          refine (st_ask1 HRO.out HST.out HGK.out rfl).mono ?_
          rintro e W2 ⟨rfl, hst_, hg_⟩
          have HST := Aside0.mk hst_
          have HGK := Aside0.mk hg_
          clear hst_ hg_
          obtain ⟨x0, x1, x2, x3, x4, x5⟩ := HCL.out W2 HST.out.ch
          go_wp2_with fail
          clear x0 x1 x2 x3 x4 x5
          refine (st_asks HRO.out HST.out HGK.out rfl (HTH.out _ HST.out.ch)).mono ?_
          rintro e W3 ⟨rfl, hst_, hg_⟩
          have HST := Aside0.mk hst_
          have HGK := Aside0.mk hg_
          clear hst_ hg_
          obtain ⟨x0, x1, x2, x3, x4, x5⟩ := HCL.out W3 HST.out.ch
          go_wp2_with fail
          clear x0 x1 x2 x3 x4 x5
          obtain ⟨Lc, hLc⟩ : ∃ Lc, Lc = L ++ rg r.fs.length (funAsk r.l x 3 r.fs) ++ askL 5 x.mark noS [3] ++ askL 9 t noS x.this := ⟨_, rfl⟩
          have HST4 := Aside0.mk (show StA r n S Lc Wb W3 by rw [hLc]; exact HST.out)
          have HG4 := Aside0.mk (show Good n (Lc ++ (rg x.args.length (argAsk r.l x t) ++ ((if 0 ≤ x.each then askL 9 (t + 1) noS (bsL r.l 9 x.each) else []) ++ (askL 9 x.ret noS (bsL r.l 9 (t + 2)) ++ (askL 9 x.out noS (bsL r.l 9 (t + 3)) ++ []))))) by rw [hLc]; exact HGK.out)
          have HLC := Aside0.mk hLc
          clear hLc HST HGK
          go_loopg [131] x.args.length (fun jq v131 W_ => ∃ j : Nat, v131 = .int .i64 j ∧ j + jq = x.args.length ∧ StA r n S (Lc ++ rg j (argAsk r.l x t)) Wb W_)
          case atStart => exact ⟨0, rfl, by omega, by rw [rg_zero, List.append_nil]; exact HST4.out⟩
          case round =>
            clear HST4
            obtain ⟨j, rfl, hj, hst⟩ := hrel
            have HST := Aside0.mk hst
            clear hst
            obtain ⟨x0, x1, x2, x3, x4, x5⟩ := HCL.out _ HST.out.ch
            by_cases hla : j < x.args.length
            · have HGK := Aside0.mk (HG4.out.loop hla)
              have HPK := Aside0.mk (show argAsk r.l x t j = askL 9 (t + 1) noS (bsL r.l 9 (rd x.args (j : Int))) ++ [] from rfl)
              have HRJ := Aside0.mk (rg_succ j (argAsk r.l x t))
              obtain ⟨ad3, rfl, hp3⟩ := Kd.at_int (HAR.out _ HST.out.ch) (j : Int) (by omega) (by omega)
              rw [Int.toNat_natCast] at hp3
              generalize rd x.args (j : Int) = av at *
              generalize argAsk r.l x t j = PJ at *
              rw [HPK.out, List.append_nil] at HGK
              go_wp2_with fail
              clear x0 x1 x2 x3 x4 x5
              refine (st_in HRO.out HST.out av HS.out hlen).mono ?_
              rintro e W5 ⟨A5, c5, rfl, hC_, hst_⟩
              have HST := Aside0.mk hst_
              have HC5 := Aside0.mk hC_
              clear hst_ hC_
              obtain ⟨x0, x1, x2, x3, x4, x5⟩ := HCL.out W5 HST.out.ch
              go_wp2_with fail
              clear x0 x1 x2 x3 x4 x5
              refine (st_asks HRO.out HST.out HGK.out rfl HC5.out).mono ?_
              rintro e W6 ⟨rfl, hst_, hg_⟩
              have HST := Aside0.mk hst_
              have HGK := Aside0.mk hg_
              clear hst_ hg_
              obtain ⟨x0, x1, x2, x3, x4, x5⟩ := HCL.out W6 HST.out.ch
              go_wp2
              go_roundg (gk - 1)
              case measure => omega
              case rel => exact ⟨j + 1, by go_num, by omega, by rw [HRJ.out, HPK.out, List.append_nil, ← List.append_assoc]; exact HST.out⟩
            · obtain rfl : j = x.args.length := by omega
              have HGK := Aside0.mk (HG4.out.next)
              clear HG4
              by_cases hge : 0 ≤ x.each
              · rw [if_pos hge] at HGK
                go_wp2_with fail
                clear x0 x1 x2 x3 x4 x5
                refine (st_in HRO.out HST.out x.each HS.out hlen).mono ?_
                rintro e W5 ⟨A5, c5, rfl, hC_, hst_⟩
                have HST := Aside0.mk hst_
                have HC5 := Aside0.mk hC_
                clear hst_ hC_
                obtain ⟨x0, x1, x2, x3, x4, x5⟩ := HCL.out W5 HST.out.ch
                go_wp2_with fail
                clear x0 x1 x2 x3 x4 x5
                refine (st_asks HRO.out HST.out HGK.out rfl HC5.out).mono ?_
                rintro e W6 ⟨rfl, hst_, hg_⟩
                have HST := Aside0.mk hst_
                have HGK := Aside0.mk hg_
                clear hst_ hg_
                obtain ⟨x0, x1, x2, x3, x4, x5⟩ := HCL.out W6 HST.out.ch
                go_wp2
                clear x0 x1 x2 x3 x4 x5
                obtain ⟨Wd, hWd⟩ : ∃ Wd, W6.drew = Wd := ⟨_, rfl⟩
                have HST := Aside0.mk (HST.out.quiet (W' := Wd) (by rw [← hWd]; exact below_drew (Below.refl _ _)))
                refine start_ (n := 8) (S := fun W' => Chg (fun i => i = r.Mb) Wb W') (ds := []) #[false, false, false, false, false, false, false, false] (by kernel_rfl) rfl rfl (by rw [hWd]; exact HST.out.ch) (fun hHeld => ?_)
                rw [hWd] at hHeld ⊢
                refine with_tabW cdtab30 cdbits30 (fun HT_ HW_ => ?_)
                refine pure_ (i := 0) (N := some 154) (v := ?_) (a' := ?_) #[true, false, false, false, false, false, false, false] rfl rfl (any_of HT_.out (by kernel_rfl)) (fun _ _ _ h => h) (Or.inl ⟨by rfl, ?_⟩) ?_ ?_
                rotate_left
                · intro w'
                  first | (go_simp; with_reducible rfl)
                rotate_left
                · simp only [Act.put, List.setIfInBounds_toArray, List.set_cons_zero, List.set_cons_succ, i64_w, i32_w, hw6, hw7]
                  rfl
                refine pure_ (i := 1) (N := some 155) (v := ?_) (a' := ?_) #[true, true, false, false, false, false, false, false] rfl rfl (any_of HT_.out (by kernel_rfl)) (fun _ _ _ h => h) (Or.inl ⟨by rfl, ?_⟩) ?_ ?_
                rotate_left
                · intro w'
                  first | (go_simp; with_reducible rfl)
                rotate_left
                · simp only [Act.put, List.setIfInBounds_toArray, List.set_cons_zero, List.set_cons_succ, i64_w, i32_w, hw6, hw7]
                  rfl
                refine take_ (i := 2) (N := some 156) (v := ?_) (a' := ?_) #[true, true, true, false, false, false, false, false] rfl rfl (take_ofW HT_.out HW_.out (by kernel_rfl)) (fun _ _ _ h => h) (Or.inl ⟨by rfl, ?_⟩) hHeld ?_ ?_
                rotate_left
                · intro w' hw'
                  obtain ⟨x0, x1, x2, x3, x4, x5⟩ := HCL.out w' hw'
                  first | (go_simp; with_reducible rfl)
                rotate_left
                · simp only [Act.put, List.setIfInBounds_toArray, List.set_cons_zero, List.set_cons_succ, i64_w, i32_w, hw6, hw7]
                  rfl
                refine pure_ (i := 3) (N := some 157) (v := ?_) (a' := ?_) #[true, true, true, true, false, false, false, false] rfl rfl (any_of HT_.out (by kernel_rfl)) (fun _ _ _ h => h) (Or.inl ⟨by rfl, ?_⟩) ?_ ?_
                rotate_left
                · intro w'
                  first | (go_simp; with_reducible rfl)
                rotate_left
                · simp only [Act.put, List.setIfInBounds_toArray, List.set_cons_zero, List.set_cons_succ, i64_w, i32_w, hw6, hw7]
                  rfl
                refine pure_ (i := 4) (N := some 158) (v := ?_) (a' := ?_) #[true, true, true, true, true, false, false, false] rfl rfl (any_of HT_.out (by kernel_rfl)) (fun _ _ _ h => h) (Or.inl ⟨by rfl, ?_⟩) ?_ ?_
                rotate_left
                · intro w'
                  first | (go_simp; with_reducible rfl)
                rotate_left
                · simp only [Act.put, List.setIfInBounds_toArray, List.set_cons_zero, List.set_cons_succ, i64_w, i32_w, hw6, hw7]
                  rfl
                refine pure_ (i := 5) (N := some 159) (v := ?_) (a' := ?_) #[true, true, true, true, true, true, false, false] rfl rfl (any_of HT_.out (by kernel_rfl)) (fun _ _ _ h => h) (Or.inl ⟨by rfl, ?_⟩) ?_ ?_
                rotate_left
                · intro w'
                  first | (go_simp; with_reducible rfl)
                rotate_left
                · simp only [Act.put, List.setIfInBounds_toArray, List.set_cons_zero, List.set_cons_succ, i64_w, i32_w, hw6, hw7]
                  rfl
                refine one_ (i := 6) (N := some 160) #[true, true, true, true, true, true, true, false] rfl rfl (one_of HT_.out (by kernel_rfl)) (by decide) (fun K hK => ?_)
                refine goes_ Try.func52 (by kernel_rfl) rfl #[.pointer (some ⟨r.Br, 0, none⟩), .int .i64 (t + 2)] (by rfl) rfl rfl (by (try simp only [List.map_toArray, List.map_cons, List.map_nil]); first | done | rfl) ?_
                refine (st_in HRO.out HST.out (t + 2) HS.out hlen).mono ?_
                rintro e W8 ⟨A8, c8, rfl, hC_, hst_⟩
                refine ⟨_, rfl, ?_⟩
                have HST := Aside0.mk hst_
                have HC8 := Aside0.mk hC_
                clear hst_ hC_
                refine hK.out _ _ HST.out.ch (fun hHeld => ?_)
                clear hK K
                refine norm_ (a' := ?_) ?_ ?_
                rotate_left
                · show Act.put _ (some 160) _ = _
                  simp only [Act.put, List.setIfInBounds_toArray, List.set_cons_zero, List.set_cons_succ, i64_w, i32_w, hw6, hw7]
                  rfl
                refine one_ (i := 7) (N := some 161) #[true, true, true, true, true, true, true, true] rfl rfl (one_of HT_.out (by kernel_rfl)) (by decide) (fun K hK => ?_)
                refine goes_ Try.func37 (by kernel_rfl) rfl #[.pointer (some ⟨r.Br, 0, none⟩), .int .i64 9, .int .i64 (x.ret), .string ⟨#[]⟩, .slice A8 (bsL r.l 9 (t + 2)).length c8] (by rfl) rfl rfl (by (try simp only [List.map_toArray, List.map_cons, List.map_nil]); first | done | rfl) ?_
                refine (st_asks HRO.out HST.out HGK.out rfl HC8.out).mono ?_
                rintro e W9 ⟨rfl, hst_, hg_⟩
                refine ⟨_, rfl, ?_⟩
                have HST := Aside0.mk hst_
                have HGK := Aside0.mk hg_
                clear hst_ hg_
                refine hK.out _ _ HST.out.ch (fun hHeld => ?_)
                clear hK K
                refine norm_ (a' := ?_) ?_ ?_
                rotate_left
                · show Act.put _ (some 161) _ = _
                  simp only [Act.put, List.setIfInBounds_toArray, List.set_cons_zero, List.set_cons_succ, i64_w, i32_w, hw6, hw7]
                  rfl
                refine done_ (done_of HT_.out (by kernel_rfl)) ?_
                clear hHeld
                go_wp2
                obtain ⟨Wd, hWd⟩ : ∃ Wd, W9.drew = Wd := ⟨_, rfl⟩
                have HST := Aside0.mk (HST.out.quiet (W' := Wd) (by rw [← hWd]; exact below_drew (Below.refl _ _)))
                refine start_ (n := 8) (S := fun W' => Chg (fun i => i = r.Mb) Wb W') (ds := []) #[false, false, false, false, false, false, false, false] (by kernel_rfl) rfl rfl (by rw [hWd]; exact HST.out.ch) (fun hHeld => ?_)
                rw [hWd] at hHeld ⊢
                refine with_tabW cdtab31 cdbits31 (fun HT_ HW_ => ?_)
                refine pure_ (i := 0) (N := some 162) (v := ?_) (a' := ?_) #[true, false, false, false, false, false, false, false] rfl rfl (any_of HT_.out (by kernel_rfl)) (fun _ _ _ h => h) (Or.inl ⟨by rfl, ?_⟩) ?_ ?_
                rotate_left
                · intro w'
                  first | (go_simp; with_reducible rfl)
                rotate_left
                · simp only [Act.put, List.setIfInBounds_toArray, List.set_cons_zero, List.set_cons_succ, i64_w, i32_w, hw6, hw7]
                  rfl
                refine pure_ (i := 1) (N := some 163) (v := ?_) (a' := ?_) #[true, true, false, false, false, false, false, false] rfl rfl (any_of HT_.out (by kernel_rfl)) (fun _ _ _ h => h) (Or.inl ⟨by rfl, ?_⟩) ?_ ?_
                rotate_left
                · intro w'
                  first | (go_simp; with_reducible rfl)
                rotate_left
                · simp only [Act.put, List.setIfInBounds_toArray, List.set_cons_zero, List.set_cons_succ, i64_w, i32_w, hw6, hw7]
                  rfl
                refine take_ (i := 2) (N := some 164) (v := ?_) (a' := ?_) #[true, true, true, false, false, false, false, false] rfl rfl (take_ofW HT_.out HW_.out (by kernel_rfl)) (fun _ _ _ h => h) (Or.inl ⟨by rfl, ?_⟩) hHeld ?_ ?_
                rotate_left
                · intro w' hw'
                  obtain ⟨x0, x1, x2, x3, x4, x5⟩ := HCL.out w' hw'
                  first | (go_simp; with_reducible rfl)
                rotate_left
                · simp only [Act.put, List.setIfInBounds_toArray, List.set_cons_zero, List.set_cons_succ, i64_w, i32_w, hw6, hw7]
                  rfl
                refine pure_ (i := 3) (N := some 165) (v := ?_) (a' := ?_) #[true, true, true, true, false, false, false, false] rfl rfl (any_of HT_.out (by kernel_rfl)) (fun _ _ _ h => h) (Or.inl ⟨by rfl, ?_⟩) ?_ ?_
                rotate_left
                · intro w'
                  first | (go_simp; with_reducible rfl)
                rotate_left
                · simp only [Act.put, List.setIfInBounds_toArray, List.set_cons_zero, List.set_cons_succ, i64_w, i32_w, hw6, hw7]
                  rfl
                refine pure_ (i := 4) (N := some 166) (v := ?_) (a' := ?_) #[true, true, true, true, true, false, false, false] rfl rfl (any_of HT_.out (by kernel_rfl)) (fun _ _ _ h => h) (Or.inl ⟨by rfl, ?_⟩) ?_ ?_
                rotate_left
                · intro w'
                  first | (go_simp; with_reducible rfl)
                rotate_left
                · simp only [Act.put, List.setIfInBounds_toArray, List.set_cons_zero, List.set_cons_succ, i64_w, i32_w, hw6, hw7]
                  rfl
                refine pure_ (i := 5) (N := some 167) (v := ?_) (a' := ?_) #[true, true, true, true, true, true, false, false] rfl rfl (any_of HT_.out (by kernel_rfl)) (fun _ _ _ h => h) (Or.inl ⟨by rfl, ?_⟩) ?_ ?_
                rotate_left
                · intro w'
                  first | (go_simp; with_reducible rfl)
                rotate_left
                · simp only [Act.put, List.setIfInBounds_toArray, List.set_cons_zero, List.set_cons_succ, i64_w, i32_w, hw6, hw7]
                  rfl
                refine one_ (i := 6) (N := some 168) #[true, true, true, true, true, true, true, false] rfl rfl (one_of HT_.out (by kernel_rfl)) (by decide) (fun K hK => ?_)
                refine goes_ Try.func52 (by kernel_rfl) rfl #[.pointer (some ⟨r.Br, 0, none⟩), .int .i64 (t + 3)] (by rfl) rfl rfl (by (try simp only [List.map_toArray, List.map_cons, List.map_nil]); first | done | rfl) ?_
                refine (st_in HRO.out HST.out (t + 3) HS.out hlen).mono ?_
                rintro e W8 ⟨A8, c8, rfl, hC_, hst_⟩
                refine ⟨_, rfl, ?_⟩
                have HST := Aside0.mk hst_
                have HC8 := Aside0.mk hC_
                clear hst_ hC_
                refine hK.out _ _ HST.out.ch (fun hHeld => ?_)
                clear hK K
                refine norm_ (a' := ?_) ?_ ?_
                rotate_left
                · show Act.put _ (some 168) _ = _
                  simp only [Act.put, List.setIfInBounds_toArray, List.set_cons_zero, List.set_cons_succ, i64_w, i32_w, hw6, hw7]
                  rfl
                refine one_ (i := 7) (N := some 169) #[true, true, true, true, true, true, true, true] rfl rfl (one_of HT_.out (by kernel_rfl)) (by decide) (fun K hK => ?_)
                refine goes_ Try.func37 (by kernel_rfl) rfl #[.pointer (some ⟨r.Br, 0, none⟩), .int .i64 9, .int .i64 (x.out), .string ⟨#[]⟩, .slice A8 (bsL r.l 9 (t + 3)).length c8] (by rfl) rfl rfl (by (try simp only [List.map_toArray, List.map_cons, List.map_nil]); first | done | rfl) ?_
                refine (st_asks HRO.out HST.out HGK.out rfl HC8.out).mono ?_
                rintro e W9 ⟨rfl, hst_, hg_⟩
                refine ⟨_, rfl, ?_⟩
                have HST := Aside0.mk hst_
                have HGK := Aside0.mk hg_
                clear hst_ hg_
                refine hK.out _ _ HST.out.ch (fun hHeld => ?_)
                clear hK K
                refine norm_ (a' := ?_) ?_ ?_
                rotate_left
                · show Act.put _ (some 169) _ = _
                  simp only [Act.put, List.setIfInBounds_toArray, List.set_cons_zero, List.set_cons_succ, i64_w, i32_w, hw6, hw7]
                  rfl
                refine done_ (done_of HT_.out (by kernel_rfl)) ?_
                clear hHeld
                go_wp2
                go_end0
                have e : L ++ callL r x 3 = Lc ++ rg x.args.length (argAsk r.l x t) ++ askL 9 (t + 1) noS (bsL r.l 9 x.each) ++ askL 9 x.ret noS (bsL r.l 9 (t + 2)) ++ askL 9 x.out noS (bsL r.l 9 (t + 3)) := by
                  rw [callL, HTL.out, spareAsk, if_pos hge, HLC.out]
                  simp only [List.append_assoc, List.append_nil, List.nil_append]
                exact ⟨rfl, by rw [e]; exact HST.out.rebase HCH.out, HGO.out.next⟩
              · rw [if_neg hge, List.nil_append] at HGK
                go_wp2
                clear x0 x1 x2 x3 x4 x5
                obtain ⟨Wd, hWd⟩ : ∃ Wd, wr.drew = Wd := ⟨_, rfl⟩
                have HST := Aside0.mk (HST.out.quiet (W' := Wd) (by rw [← hWd]; exact below_drew (Below.refl _ _)))
                refine start_ (n := 8) (S := fun W' => Chg (fun i => i = r.Mb) Wb W') (ds := []) #[false, false, false, false, false, false, false, false] (by kernel_rfl) rfl rfl (by rw [hWd]; exact HST.out.ch) (fun hHeld => ?_)
                rw [hWd] at hHeld ⊢
                refine with_tabW cdtab30 cdbits30 (fun HT_ HW_ => ?_)
                refine pure_ (i := 0) (N := some 154) (v := ?_) (a' := ?_) #[true, false, false, false, false, false, false, false] rfl rfl (any_of HT_.out (by kernel_rfl)) (fun _ _ _ h => h) (Or.inl ⟨by rfl, ?_⟩) ?_ ?_
                rotate_left
                · intro w'
                  first | (go_simp; with_reducible rfl)
                rotate_left
                · simp only [Act.put, List.setIfInBounds_toArray, List.set_cons_zero, List.set_cons_succ, i64_w, i32_w, hw6, hw7]
                  rfl
                refine pure_ (i := 1) (N := some 155) (v := ?_) (a' := ?_) #[true, true, false, false, false, false, false, false] rfl rfl (any_of HT_.out (by kernel_rfl)) (fun _ _ _ h => h) (Or.inl ⟨by rfl, ?_⟩) ?_ ?_
                rotate_left
                · intro w'
                  first | (go_simp; with_reducible rfl)
                rotate_left
                · simp only [Act.put, List.setIfInBounds_toArray, List.set_cons_zero, List.set_cons_succ, i64_w, i32_w, hw6, hw7]
                  rfl
                refine take_ (i := 2) (N := some 156) (v := ?_) (a' := ?_) #[true, true, true, false, false, false, false, false] rfl rfl (take_ofW HT_.out HW_.out (by kernel_rfl)) (fun _ _ _ h => h) (Or.inl ⟨by rfl, ?_⟩) hHeld ?_ ?_
                rotate_left
                · intro w' hw'
                  obtain ⟨x0, x1, x2, x3, x4, x5⟩ := HCL.out w' hw'
                  first | (go_simp; with_reducible rfl)
                rotate_left
                · simp only [Act.put, List.setIfInBounds_toArray, List.set_cons_zero, List.set_cons_succ, i64_w, i32_w, hw6, hw7]
                  rfl
                refine pure_ (i := 3) (N := some 157) (v := ?_) (a' := ?_) #[true, true, true, true, false, false, false, false] rfl rfl (any_of HT_.out (by kernel_rfl)) (fun _ _ _ h => h) (Or.inl ⟨by rfl, ?_⟩) ?_ ?_
                rotate_left
                · intro w'
                  first | (go_simp; with_reducible rfl)
                rotate_left
                · simp only [Act.put, List.setIfInBounds_toArray, List.set_cons_zero, List.set_cons_succ, i64_w, i32_w, hw6, hw7]
                  rfl
                refine pure_ (i := 4) (N := some 158) (v := ?_) (a' := ?_) #[true, true, true, true, true, false, false, false] rfl rfl (any_of HT_.out (by kernel_rfl)) (fun _ _ _ h => h) (Or.inl ⟨by rfl, ?_⟩) ?_ ?_
                rotate_left
                · intro w'
                  first | (go_simp; with_reducible rfl)
                rotate_left
                · simp only [Act.put, List.setIfInBounds_toArray, List.set_cons_zero, List.set_cons_succ, i64_w, i32_w, hw6, hw7]
                  rfl
                refine pure_ (i := 5) (N := some 159) (v := ?_) (a' := ?_) #[true, true, true, true, true, true, false, false] rfl rfl (any_of HT_.out (by kernel_rfl)) (fun _ _ _ h => h) (Or.inl ⟨by rfl, ?_⟩) ?_ ?_
                rotate_left
                · intro w'
                  first | (go_simp; with_reducible rfl)
                rotate_left
                · simp only [Act.put, List.setIfInBounds_toArray, List.set_cons_zero, List.set_cons_succ, i64_w, i32_w, hw6, hw7]
                  rfl
                refine one_ (i := 6) (N := some 160) #[true, true, true, true, true, true, true, false] rfl rfl (one_of HT_.out (by kernel_rfl)) (by decide) (fun K hK => ?_)
                refine goes_ Try.func52 (by kernel_rfl) rfl #[.pointer (some ⟨r.Br, 0, none⟩), .int .i64 (t + 2)] (by rfl) rfl rfl (by (try simp only [List.map_toArray, List.map_cons, List.map_nil]); first | done | rfl) ?_
                refine (st_in HRO.out HST.out (t + 2) HS.out hlen).mono ?_
                rintro e W8 ⟨A8, c8, rfl, hC_, hst_⟩
                refine ⟨_, rfl, ?_⟩
                have HST := Aside0.mk hst_
                have HC8 := Aside0.mk hC_
                clear hst_ hC_
                refine hK.out _ _ HST.out.ch (fun hHeld => ?_)
                clear hK K
                refine norm_ (a' := ?_) ?_ ?_
                rotate_left
                · show Act.put _ (some 160) _ = _
                  simp only [Act.put, List.setIfInBounds_toArray, List.set_cons_zero, List.set_cons_succ, i64_w, i32_w, hw6, hw7]
                  rfl
                refine one_ (i := 7) (N := some 161) #[true, true, true, true, true, true, true, true] rfl rfl (one_of HT_.out (by kernel_rfl)) (by decide) (fun K hK => ?_)
                refine goes_ Try.func37 (by kernel_rfl) rfl #[.pointer (some ⟨r.Br, 0, none⟩), .int .i64 9, .int .i64 (x.ret), .string ⟨#[]⟩, .slice A8 (bsL r.l 9 (t + 2)).length c8] (by rfl) rfl rfl (by (try simp only [List.map_toArray, List.map_cons, List.map_nil]); first | done | rfl) ?_
                refine (st_asks HRO.out HST.out HGK.out rfl HC8.out).mono ?_
                rintro e W9 ⟨rfl, hst_, hg_⟩
                refine ⟨_, rfl, ?_⟩
                have HST := Aside0.mk hst_
                have HGK := Aside0.mk hg_
                clear hst_ hg_
                refine hK.out _ _ HST.out.ch (fun hHeld => ?_)
                clear hK K
                refine norm_ (a' := ?_) ?_ ?_
                rotate_left
                · show Act.put _ (some 161) _ = _
                  simp only [Act.put, List.setIfInBounds_toArray, List.set_cons_zero, List.set_cons_succ, i64_w, i32_w, hw6, hw7]
                  rfl
                refine done_ (done_of HT_.out (by kernel_rfl)) ?_
                clear hHeld
                go_wp2
                obtain ⟨Wd, hWd⟩ : ∃ Wd, W9.drew = Wd := ⟨_, rfl⟩
                have HST := Aside0.mk (HST.out.quiet (W' := Wd) (by rw [← hWd]; exact below_drew (Below.refl _ _)))
                refine start_ (n := 8) (S := fun W' => Chg (fun i => i = r.Mb) Wb W') (ds := []) #[false, false, false, false, false, false, false, false] (by kernel_rfl) rfl rfl (by rw [hWd]; exact HST.out.ch) (fun hHeld => ?_)
                rw [hWd] at hHeld ⊢
                refine with_tabW cdtab31 cdbits31 (fun HT_ HW_ => ?_)
                refine pure_ (i := 0) (N := some 162) (v := ?_) (a' := ?_) #[true, false, false, false, false, false, false, false] rfl rfl (any_of HT_.out (by kernel_rfl)) (fun _ _ _ h => h) (Or.inl ⟨by rfl, ?_⟩) ?_ ?_
                rotate_left
                · intro w'
                  first | (go_simp; with_reducible rfl)
                rotate_left
                · simp only [Act.put, List.setIfInBounds_toArray, List.set_cons_zero, List.set_cons_succ, i64_w, i32_w, hw6, hw7]
                  rfl
                refine pure_ (i := 1) (N := some 163) (v := ?_) (a' := ?_) #[true, true, false, false, false, false, false, false] rfl rfl (any_of HT_.out (by kernel_rfl)) (fun _ _ _ h => h) (Or.inl ⟨by rfl, ?_⟩) ?_ ?_
                rotate_left
                · intro w'
                  first | (go_simp; with_reducible rfl)
                rotate_left
                · simp only [Act.put, List.setIfInBounds_toArray, List.set_cons_zero, List.set_cons_succ, i64_w, i32_w, hw6, hw7]
                  rfl
                refine take_ (i := 2) (N := some 164) (v := ?_) (a' := ?_) #[true, true, true, false, false, false, false, false] rfl rfl (take_ofW HT_.out HW_.out (by kernel_rfl)) (fun _ _ _ h => h) (Or.inl ⟨by rfl, ?_⟩) hHeld ?_ ?_
                rotate_left
                · intro w' hw'
                  obtain ⟨x0, x1, x2, x3, x4, x5⟩ := HCL.out w' hw'
                  first | (go_simp; with_reducible rfl)
                rotate_left
                · simp only [Act.put, List.setIfInBounds_toArray, List.set_cons_zero, List.set_cons_succ, i64_w, i32_w, hw6, hw7]
                  rfl
                refine pure_ (i := 3) (N := some 165) (v := ?_) (a' := ?_) #[true, true, true, true, false, false, false, false] rfl rfl (any_of HT_.out (by kernel_rfl)) (fun _ _ _ h => h) (Or.inl ⟨by rfl, ?_⟩) ?_ ?_
                rotate_left
                · intro w'
                  first | (go_simp; with_reducible rfl)
                rotate_left
                · simp only [Act.put, List.setIfInBounds_toArray, List.set_cons_zero, List.set_cons_succ, i64_w, i32_w, hw6, hw7]
                  rfl
                refine pure_ (i := 4) (N := some 166) (v := ?_) (a' := ?_) #[true, true, true, true, true, false, false, false] rfl rfl (any_of HT_.out (by kernel_rfl)) (fun _ _ _ h => h) (Or.inl ⟨by rfl, ?_⟩) ?_ ?_
                rotate_left
                · intro w'
                  first | (go_simp; with_reducible rfl)
                rotate_left
                · simp only [Act.put, List.setIfInBounds_toArray, List.set_cons_zero, List.set_cons_succ, i64_w, i32_w, hw6, hw7]
                  rfl
                refine pure_ (i := 5) (N := some 167) (v := ?_) (a' := ?_) #[true, true, true, true, true, true, false, false] rfl rfl (any_of HT_.out (by kernel_rfl)) (fun _ _ _ h => h) (Or.inl ⟨by rfl, ?_⟩) ?_ ?_
                rotate_left
                · intro w'
                  first | (go_simp; with_reducible rfl)
                rotate_left
                · simp only [Act.put, List.setIfInBounds_toArray, List.set_cons_zero, List.set_cons_succ, i64_w, i32_w, hw6, hw7]
                  rfl
                refine one_ (i := 6) (N := some 168) #[true, true, true, true, true, true, true, false] rfl rfl (one_of HT_.out (by kernel_rfl)) (by decide) (fun K hK => ?_)
                refine goes_ Try.func52 (by kernel_rfl) rfl #[.pointer (some ⟨r.Br, 0, none⟩), .int .i64 (t + 3)] (by rfl) rfl rfl (by (try simp only [List.map_toArray, List.map_cons, List.map_nil]); first | done | rfl) ?_
                refine (st_in HRO.out HST.out (t + 3) HS.out hlen).mono ?_
                rintro e W8 ⟨A8, c8, rfl, hC_, hst_⟩
                refine ⟨_, rfl, ?_⟩
                have HST := Aside0.mk hst_
                have HC8 := Aside0.mk hC_
                clear hst_ hC_
                refine hK.out _ _ HST.out.ch (fun hHeld => ?_)
                clear hK K
                refine norm_ (a' := ?_) ?_ ?_
                rotate_left
                · show Act.put _ (some 168) _ = _
                  simp only [Act.put, List.setIfInBounds_toArray, List.set_cons_zero, List.set_cons_succ, i64_w, i32_w, hw6, hw7]
                  rfl
                refine one_ (i := 7) (N := some 169) #[true, true, true, true, true, true, true, true] rfl rfl (one_of HT_.out (by kernel_rfl)) (by decide) (fun K hK => ?_)
                refine goes_ Try.func37 (by kernel_rfl) rfl #[.pointer (some ⟨r.Br, 0, none⟩), .int .i64 9, .int .i64 (x.out), .string ⟨#[]⟩, .slice A8 (bsL r.l 9 (t + 3)).length c8] (by rfl) rfl rfl (by (try simp only [List.map_toArray, List.map_cons, List.map_nil]); first | done | rfl) ?_
                refine (st_asks HRO.out HST.out HGK.out rfl HC8.out).mono ?_
                rintro e W9 ⟨rfl, hst_, hg_⟩
                refine ⟨_, rfl, ?_⟩
                have HST := Aside0.mk hst_
                have HGK := Aside0.mk hg_
                clear hst_ hg_
                refine hK.out _ _ HST.out.ch (fun hHeld => ?_)
                clear hK K
                refine norm_ (a' := ?_) ?_ ?_
                rotate_left
                · show Act.put _ (some 169) _ = _
                  simp only [Act.put, List.setIfInBounds_toArray, List.set_cons_zero, List.set_cons_succ, i64_w, i32_w, hw6, hw7]
                  rfl
                refine done_ (done_of HT_.out (by kernel_rfl)) ?_
                clear hHeld
                go_wp2
                go_end0
                have e : L ++ callL r x 3 = Lc ++ rg x.args.length (argAsk r.l x t) ++ askL 9 x.ret noS (bsL r.l 9 (t + 2)) ++ askL 9 x.out noS (bsL r.l 9 (t + 3)) := by
                  rw [callL, HTL.out, spareAsk, if_neg (by omega), HLC.out]
                  simp only [List.append_assoc, List.append_nil, List.nil_append]
                exact ⟨rfl, by rw [e]; exact HST.out.rebase HCH.out, HGO.out.next⟩
      · have HTL := Aside0.mk (show tailAsk r.s0 r.l x c = [] by unfold tailAsk; rw [if_neg (fun h => hc (.inl h)), if_neg (fun h => hc (.inr h))])
        have hc2 : (c == 2) = false := by simp; omega
        have hc3 : (c == 3) = false := by simp; omega
        have hn2 : (c != 2) = true := by rw [bne, hc2]; rfl
        have hn3 : (c != 3) = true := by rw [bne, hc3]; rfl
        clear hc
        go_wp2
        refine bodyPost_ret (results_none (by rfl) _ _ _) rfl ?_
        exact ⟨rfl, by rw [callL, HTL.out, List.append_nil]; exact HST.out.rebase HCH.out, HGO.out.next⟩
end Go.Proofs.Ytngppcmdaanheaa.Ls

/- slices.ContainsFunc over a predicate that answers what a Lean predicate says: ints, FunSets, rules, facts. No condition. -/
namespace Go.Proofs.Ytngppcmdaanheaa.Ls
open Go.RowKit Go.Maps Go.Proofs.Ytngppcmdaanheaa.Iter Go.Proofs.Ytngppcmdaanheaa.ISet Go.Proofs.Ytngppcmdaanheaa.Pr Go.Proofs.Ytngppcmdaanheaa.Ext Go.Proofs.YtngppcmdaanheaaW.PrintWords Go.Proofs.YtngppcmdaanheaaW.PrintLast Go.Proofs.YtngppcmdaanheaaW.PrintMore
set_option linter.unusedVariables false
set_option linter.unusedSimpArgs false
theorem any_take {α : Type} (l : List α) (P : α → Bool) (d : α) (j : Nat) (h : j < l.length) : (l.take (j + 1)).any P = ((l.take j).any P || P (l.getD j d)) := by
  have e : l.take (j + 1) = l.take j ++ [l.getD j d] := by
    rw [List.take_add_one, List.getElem?_eq_getElem h]
    simp [List.getD, h]
  rw [e]
  simp
theorem any_of_take {α : Type} (l : List α) (P : α → Bool) (j : Nat) (h : (l.take j).any P = true) : l.any P = true := by
  obtain ⟨x, hx, hp⟩ := List.any_eq_true.1 h
  exact List.any_eq_true.2 ⟨x, List.mem_of_mem_take hx, hp⟩
def PredI (W : World) (v : Value) (P : Int → Bool) : Prop :=
  ∃ n cap, v = .func (.func n) #[] cap ∧ (∀ args w, (callFunc n args).run Try.prog w = .ok (.enter n args) w) ∧
    ∀ W', Below W.heap.size W W' → ∀ x : Int, Calls Try.prog n (#[.int .i64 x] ++ cap) W' fun e W'' => e = .returned (.bool (P x)) ∧ Below W'.heap.size W' W''
set_option maxHeartbeats 8000000 in
set_option maxRecDepth 100000 in
theorem indexI (v : Value) (P : Int → Bool) (A : Option Addr) (c : Nat) (l : List Int) (w : World) (h : PredI w v P) (hl : Kd.C (Kd.int .i64) w A l.length l) (hc : l.length ≤ c) (hn : l.length ≤ 140737488355328) :
    Calls Try.prog 81 #[.slice A l.length c, v] w fun e w' => (∃ i : Int, e = .returned (.int .i64 i) ∧ (decide (0 ≤ i)) = l.any P) ∧ Below w.heap.size w w' := by
  obtain ⟨n, cap, rfl, en, K⟩ := h
  have K0 := Aside0.mk K
  have HR := Aside0.mk hl
  clear K hl
  go_enter Try.func81, Try.ntmps81
  go_wp2
  go_loopg [5, 8] l.length (fun kq _ i W => ∃ j : Nat, i = .int .i64 j ∧ j + kq = l.length ∧ (l.take j).any P = false ∧ Below w.heap.size w W)
  case atStart => exact ⟨0, rfl, by omega, rfl, by repeat (first | exact Below.refl _ _ | apply below_drew1)⟩
  case round =>
    obtain ⟨j, rfl, hj, hp, hb⟩ := hrel
    have HB := Aside0.mk hb
    have HP := Aside0.mk hp
    clear hb hp
    by_cases hlt : j < l.length
    · obtain ⟨ad, rfl, hc0⟩ := Kd.at_int (Kd.C_below HR.out HB.out) (j : Int) (by omega) (by omega)
      rw [Int.toNat_natCast] at hc0
      have HG := Aside0.mk (show rd l (j : Int) = l.getD j 0 by unfold rd; rw [Int.toNat_natCast])
      generalize rd l (j : Int) = y at *
      have HT := Aside0.mk (any_take l P 0 j hlt)
      have hg : decide ((j : Int) < (l.length : Int)) = true := decide_eq_true (by omega)
      have hw : wrap64 ((j : Int) + 1) = ((j + 1 : Nat) : Int) := by unfold wrap64; omega
      by_cases hP : P y = true
      · go_wp2_with (first | (refine (K0.out _ HB.out y).mono ?_; rintro e w1 ⟨rfl, hb1⟩; have HB1 := Aside0.mk (below_step HB.out hb1); clear hb1))
        go_ret
        refine ⟨⟨(j : Int), by simp [*], ?_⟩, HB1.out⟩
        rw [decide_eq_true (by omega)]
        exact (any_of_take l P (j + 1) (by rw [HT.out, ← HG.out, hP]; simp)).symm
      · have hP' : P y = false := by simpa using hP
        clear hP
        go_wp2_with (first | (refine (K0.out _ HB.out y).mono ?_; rintro e w1 ⟨rfl, hb1⟩; have HB1 := Aside0.mk (below_step HB.out hb1); clear hb1))
        go_roundg (gk - 1)
        case measure => omega
        case rel => exact ⟨j + 1, by go_num, by omega, by rw [HT.out, ← HG.out, hP', HP.out]; rfl, HB1.out⟩
    · obtain rfl : j = l.length := by omega
      have hg : decide ((l.length : Int) < (l.length : Int)) = false := decide_eq_false (by omega)
      go_wp2
      go_ret
      refine ⟨⟨-1, by simp [*], ?_⟩, HB.out⟩
      have hp := HP.out
      rw [List.take_length] at hp
      rw [hp]
      rfl
set_option maxHeartbeats 4000000 in
set_option maxRecDepth 100000 in
theorem containsI (v : Value) (P : Int → Bool) (A : Option Addr) (c : Nat) (l : List Int) (w : World) (h : PredI w v P) (hl : Kd.C (Kd.int .i64) w A l.length l) (hc : l.length ≤ c) (hn : l.length ≤ 140737488355328) :
    Calls Try.prog 64 #[.slice A l.length c, v] w fun e w' => e = .returned (.bool (l.any P)) ∧ Below w.heap.size w w' := by
  have HI := Aside0.mk (indexI v P A c l w h hl hc hn)
  clear h hl hc hn
  go_enter Try.func64, Try.ntmps64
  go_wp2_with (go_at_call 81; refine HI.out.mono ?_; rintro e w1 ⟨⟨i, rfl, hi⟩, hb⟩; have HB1 := Aside0.mk hb; clear hb)
  go_ret
  exact ⟨by simp [*], HB1.out⟩
def PredG (W : World) (v : Value) (l : List S44) (P : S44 → Bool) : Prop :=
  ∃ n cap, v = .func (.func n) #[] cap ∧ (∀ args w, (callFunc n args).run Try.prog w = .ok (.enter n args) w) ∧
    ∀ W', Below W.heap.size W W' → ∀ x A c, x ∈ l → Kd.C (Kd.int .i64) W' A x.f1.length x.f1 → x.f1.length ≤ c → Calls Try.prog n (#[.agg #[.int .i64 x.f0, .slice A x.f1.length c, .int .i64 x.f2, .int .i64 x.f3, .int .i64 x.f4]] ++ cap) W' fun e W'' => e = .returned (.bool (P x)) ∧ Below W'.heap.size W' W''
set_option maxHeartbeats 8000000 in
set_option maxRecDepth 100000 in
theorem indexG (v : Value) (P : S44 → Bool) (A : Option Addr) (c : Nat) (l : List S44) (w : World) (h : PredG w v l P) (hl : Kd.C k44 w A l.length l) (hc : l.length ≤ c) (hn : l.length ≤ 140737488355328) :
    Calls Try.prog 84 #[.slice A l.length c, v] w fun e w' => (∃ i : Int, e = .returned (.int .i64 i) ∧ (decide (0 ≤ i)) = l.any P) ∧ Below w.heap.size w w' := by
  obtain ⟨n, cap, rfl, en, K⟩ := h
  have K0 := Aside0.mk K
  have HR := Aside0.mk hl
  clear K hl
  go_enter Try.func84, Try.ntmps84
  go_wp2
  go_loopg [5, 8] l.length (fun kq _ i W => ∃ j : Nat, i = .int .i64 j ∧ j + kq = l.length ∧ (l.take j).any P = false ∧ Below w.heap.size w W)
  case atStart => exact ⟨0, rfl, by omega, rfl, by repeat (first | exact Below.refl _ _ | apply below_drew1)⟩
  case round =>
    obtain ⟨j, rfl, hj, hp, hb⟩ := hrel
    have HB := Aside0.mk hb
    have HP := Aside0.mk hp
    clear hb hp
    by_cases hlt : j < l.length
    · obtain ⟨ad, A7, c7, rfl, hc0, hc1, hc2, hc3, hc4, hcl, hcr⟩ := at_T44 (Kd.C_below HR.out HB.out) (j : Int) (by omega) (by omega)
      rw [Int.toNat_natCast] at hc0 hc1 hc2 hc3 hc4
      have HCR := Aside0.mk hcr
      have HCL := Aside0.mk hcl
      clear hcr hcl
      have HG := Aside0.mk (show rd_T44 l (j : Int) = l.getD j z44 by unfold rd_T44; rw [Int.toNat_natCast])
      have HM := Aside0.mk (show rd_T44 l (j : Int) ∈ l by rw [HG.out, List.getD_eq_getElem?_getD, List.getElem?_eq_getElem hlt]; exact List.getElem_mem hlt)
      generalize rd_T44 l (j : Int) = y at *
      have HT := Aside0.mk (any_take l P z44 j hlt)
      have hg : decide ((j : Int) < (l.length : Int)) = true := decide_eq_true (by omega)
      have hw : wrap64 ((j : Int) + 1) = ((j + 1 : Nat) : Int) := by unfold wrap64; omega
      by_cases hP : P y = true
      · go_wp2_with (first | (refine (K0.out _ HB.out y A7 c7 HM.out HCR.out HCL.out).mono ?_; rintro e w1 ⟨rfl, hb1⟩; have HB1 := Aside0.mk (below_step HB.out hb1); clear hb1))
        go_ret
        refine ⟨⟨(j : Int), by simp [*], ?_⟩, HB1.out⟩
        rw [decide_eq_true (by omega)]
        exact (any_of_take l P (j + 1) (by rw [HT.out, ← HG.out, hP]; simp)).symm
      · have hP' : P y = false := by simpa using hP
        clear hP
        go_wp2_with (first | (refine (K0.out _ HB.out y A7 c7 HM.out HCR.out HCL.out).mono ?_; rintro e w1 ⟨rfl, hb1⟩; have HB1 := Aside0.mk (below_step HB.out hb1); clear hb1))
        go_roundg (gk - 1)
        case measure => omega
        case rel => exact ⟨j + 1, by go_num, by omega, by rw [HT.out, ← HG.out, hP', HP.out]; rfl, HB1.out⟩
    · obtain rfl : j = l.length := by omega
      have hg : decide ((l.length : Int) < (l.length : Int)) = false := decide_eq_false (by omega)
      go_wp2
      go_ret
      refine ⟨⟨-1, by simp [*], ?_⟩, HB.out⟩
      have hp := HP.out
      rw [List.take_length] at hp
      rw [hp]
      rfl
set_option maxHeartbeats 4000000 in
set_option maxRecDepth 100000 in
theorem containsG (v : Value) (P : S44 → Bool) (A : Option Addr) (c : Nat) (l : List S44) (w : World) (h : PredG w v l P) (hl : Kd.C k44 w A l.length l) (hc : l.length ≤ c) (hn : l.length ≤ 140737488355328) :
    Calls Try.prog 74 #[.slice A l.length c, v] w fun e w' => e = .returned (.bool (l.any P)) ∧ Below w.heap.size w w' := by
  have HI := Aside0.mk (indexG v P A c l w h hl hc hn)
  clear h hl hc hn
  go_enter Try.func74, Try.ntmps74
  go_wp2_with (go_at_call 84; refine HI.out.mono ?_; rintro e w1 ⟨⟨i, rfl, hi⟩, hb⟩; have HB1 := Aside0.mk hb; clear hb)
  go_ret
  exact ⟨by simp [*], HB1.out⟩
def PredU (W : World) (v : Value) (l : List S46) (P : S46 → Bool) : Prop :=
  ∃ n cap, v = .func (.func n) #[] cap ∧ (∀ args w, (callFunc n args).run Try.prog w = .ok (.enter n args) w) ∧
    ∀ W', Below W.heap.size W W' → ∀ x A c, x ∈ l → Kd.C (Kd.int .i64) W' A x.f8.length x.f8 → x.f8.length ≤ c → Calls Try.prog n (#[.agg #[.int .i64 x.f0, .int .i64 x.f1, .int .i64 x.f2, .int .i64 x.f3, .int .i64 x.f4, .int .i64 x.f5, .int .i64 x.f6, .string x.f7, .slice A x.f8.length c]] ++ cap) W' fun e W'' => e = .returned (.bool (P x)) ∧ Below W'.heap.size W' W''
set_option maxHeartbeats 8000000 in
set_option maxRecDepth 100000 in
theorem indexU (v : Value) (P : S46 → Bool) (A : Option Addr) (c : Nat) (l : List S46) (w : World) (h : PredU w v l P) (hl : Kd.C k46 w A l.length l) (hc : l.length ≤ c) (hn : l.length ≤ 140737488355328) :
    Calls Try.prog 66 #[.slice A l.length c, v] w fun e w' => (∃ i : Int, e = .returned (.int .i64 i) ∧ (decide (0 ≤ i)) = l.any P) ∧ Below w.heap.size w w' := by
  obtain ⟨n, cap, rfl, en, K⟩ := h
  have K0 := Aside0.mk K
  have HR := Aside0.mk hl
  clear K hl
  go_enter Try.func66, Try.ntmps66
  go_wp2
  go_loopg [5, 8] l.length (fun kq _ i W => ∃ j : Nat, i = .int .i64 j ∧ j + kq = l.length ∧ (l.take j).any P = false ∧ Below w.heap.size w W)
  case atStart => exact ⟨0, rfl, by omega, rfl, by repeat (first | exact Below.refl _ _ | apply below_drew1)⟩
  case round =>
    obtain ⟨j, rfl, hj, hp, hb⟩ := hrel
    have HB := Aside0.mk hb
    have HP := Aside0.mk hp
    clear hb hp
    by_cases hlt : j < l.length
    · obtain ⟨ad, A7, c7, rfl, hc0, hc1, hc2, hc3, hc4, hc5, hc6, hc7, hc8, hcl, hcr⟩ := at_T46 (Kd.C_below HR.out HB.out) (j : Int) (by omega) (by omega)
      rw [Int.toNat_natCast] at hc0 hc1 hc2 hc3 hc4 hc5 hc6 hc7 hc8
      have HCR := Aside0.mk hcr
      have HCL := Aside0.mk hcl
      clear hcr hcl
      have HG := Aside0.mk (show rd_T46 l (j : Int) = l.getD j z46 by unfold rd_T46; rw [Int.toNat_natCast])
      have HM := Aside0.mk (show rd_T46 l (j : Int) ∈ l by rw [HG.out, List.getD_eq_getElem?_getD, List.getElem?_eq_getElem hlt]; exact List.getElem_mem hlt)
      generalize rd_T46 l (j : Int) = y at *
      have HT := Aside0.mk (any_take l P z46 j hlt)
      have hg : decide ((j : Int) < (l.length : Int)) = true := decide_eq_true (by omega)
      have hw : wrap64 ((j : Int) + 1) = ((j + 1 : Nat) : Int) := by unfold wrap64; omega
      by_cases hP : P y = true
      · go_wp2_with (first | (refine (K0.out _ HB.out y A7 c7 HM.out HCR.out HCL.out).mono ?_; rintro e w1 ⟨rfl, hb1⟩; have HB1 := Aside0.mk (below_step HB.out hb1); clear hb1))
        go_ret
        refine ⟨⟨(j : Int), by simp [*], ?_⟩, HB1.out⟩
        rw [decide_eq_true (by omega)]
        exact (any_of_take l P (j + 1) (by rw [HT.out, ← HG.out, hP]; simp)).symm
      · have hP' : P y = false := by simpa using hP
        clear hP
        go_wp2_with (first | (refine (K0.out _ HB.out y A7 c7 HM.out HCR.out HCL.out).mono ?_; rintro e w1 ⟨rfl, hb1⟩; have HB1 := Aside0.mk (below_step HB.out hb1); clear hb1))
        go_roundg (gk - 1)
        case measure => omega
        case rel => exact ⟨j + 1, by go_num, by omega, by rw [HT.out, ← HG.out, hP', HP.out]; rfl, HB1.out⟩
    · obtain rfl : j = l.length := by omega
      have hg : decide ((l.length : Int) < (l.length : Int)) = false := decide_eq_false (by omega)
      go_wp2
      go_ret
      refine ⟨⟨-1, by simp [*], ?_⟩, HB.out⟩
      have hp := HP.out
      rw [List.take_length] at hp
      rw [hp]
      rfl
set_option maxHeartbeats 4000000 in
set_option maxRecDepth 100000 in
theorem containsU (v : Value) (P : S46 → Bool) (A : Option Addr) (c : Nat) (l : List S46) (w : World) (h : PredU w v l P) (hl : Kd.C k46 w A l.length l) (hc : l.length ≤ c) (hn : l.length ≤ 140737488355328) :
    Calls Try.prog 47 #[.slice A l.length c, v] w fun e w' => e = .returned (.bool (l.any P)) ∧ Below w.heap.size w w' := by
  have HI := Aside0.mk (indexU v P A c l w h hl hc hn)
  clear h hl hc hn
  go_enter Try.func47, Try.ntmps47
  go_wp2_with (go_at_call 66; refine HI.out.mono ?_; rintro e w1 ⟨⟨i, rfl, hi⟩, hb⟩; have HB1 := Aside0.mk hb; clear hb)
  go_ret
  exact ⟨by simp [*], HB1.out⟩
end Go.Proofs.Ytngppcmdaanheaa.Ls

/- least.rounder.each. No condition. -/
namespace Go.Proofs.Ytngppcmdaanheaa.Ls
open Go.RowKit Go.Maps Go.Proofs.Ytngppcmdaanheaa.Iter Go.Proofs.Ytngppcmdaanheaa.ISet Go.Proofs.Ytngppcmdaanheaa.Pr Go.Proofs.Ytngppcmdaanheaa.Ext Go.Proofs.YtngppcmdaanheaaW.PrintWords Go.Proofs.YtngppcmdaanheaaW.PrintLast Go.Proofs.YtngppcmdaanheaaW.PrintMore
set_option linter.unusedVariables false
set_option linter.unusedSimpArgs false
attribute [local go_sem] Oper.semAt_some
def eaT3 : Bool × List (List Nat × List Nat) := (true, [([], []), ([], []), ([1], [1]), ([], []), ([], []), ([], []), ([5], [5]), ([6], [6]), ([3, 4, 7, 7], [3, 4, 7]), ([0, 2, 8, 8], [0, 2, 8])])
def eaB3 : List Nat := [0, 0, 2, 0, 0, 0, 32, 96, 248, 511]
theorem eatab3 : rtab .any (opsOf Try.f57 3) = eaT3 := by kernel_rfl
theorem eabits3 : waitsOk eaT3.2 eaB3 = true := by kernel_rfl
def eaT5 : Bool × List (List Nat × List Nat) := (true, [([], []), ([], []), ([1], [1]), ([], []), ([], []), ([3, 4], [3, 4]), ([0, 2, 5, 5], [0, 2, 5])])
def eaB5 : List Nat := [0, 0, 2, 0, 0, 24, 63]
theorem eatab5 : rtab .any (opsOf Try.f57 5) = eaT5 := by kernel_rfl
theorem eabits5 : waitsOk eaT5.2 eaB5 = true := by kernel_rfl
def eaT7 : Bool × List (List Nat × List Nat) := (true, [([], []), ([], []), ([], []), ([2], [2]), ([], []), ([], []), ([5], [5]), ([4, 6], [4, 6]), ([0, 1, 3, 7, 7], [0, 1, 3, 7])])
def eaB7 : List Nat := [0, 0, 0, 4, 0, 0, 32, 112, 255]
theorem eatab7 : rtab .any (opsOf Try.f57 7) = eaT7 := by kernel_rfl
theorem eabits7 : waitsOk eaT7.2 eaB7 = true := by kernel_rfl
def eaT9 : Bool × List (List Nat × List Nat) := (true, [([], []), ([], []), ([], []), ([], []), ([3], [3]), ([2, 4], [2, 4]), ([0, 1, 5, 5], [0, 1, 5])])
def eaB9 : List Nat := [0, 0, 0, 0, 8, 28, 63]
theorem eatab9 : rtab .any (opsOf Try.f57 9) = eaT9 := by kernel_rfl
theorem eabits9 : waitsOk eaT9.2 eaB9 = true := by kernel_rfl
def eaT19 : Bool × List (List Nat × List Nat) := (true, [([], []), ([], []), ([1], [1]), ([], []), ([], []), ([], []), ([3, 4, 5, 5], [3, 4, 5]), ([0, 2, 6, 6], [0, 2, 6])])
def eaB19 : List Nat := [0, 0, 2, 0, 0, 0, 56, 127]
theorem eatab19 : rtab .any (opsOf Try.f57 19) = eaT19 := by kernel_rfl
theorem eabits19 : waitsOk eaT19.2 eaB19 = true := by kernel_rfl
abbrev RuT := S46
def protoS : ByteArray := ⟨#[112, 114, 111, 116, 111, 116, 121, 112, 101]⟩
def isFunB (fs : List FunT) (c : Int) : Bool := (fs.drop 1).any (fun f => f.f0 == c)
def eachL (r : Ro) (x : RuT) (c : Int) : List Fa :=
  if x.f0 = 4 then askL 9 x.f3 noS (loadsL r.l (fun k => decide (k = x.f7)) c)
  else if x.f0 = 5 then askL 9 x.f3 noS (loadsL r.l (fun _ => true) c)
  else if x.f0 = 6 then askL 3 c x.f7 (bsL r.l 9 x.f3)
  else if x.f0 = 7 then askL 8 c noS (bsL r.l 9 x.f3)
  else if x.f0 = 8 then callL r ⟨x.f6, if 0 ≤ x.f4 then bsL r.l 9 x.f4 else [], x.f8, -1, x.f3, x.f5⟩ c
  else if x.f0 = 9 then (if isFunB r.fs c = true then askL 9 x.f3 noS [x.f6] ++ (askL 4 x.f6 noS [0] ++ (askL 4 x.f6 noS (loadsL r.l (fun k => decide (k = protoS)) c) ++ callL r ⟨x.f6, [x.f6], x.f8, -1, x.f3, x.f5⟩ c)) else [])
  else []
def ruCells (x : RuT) (A : Option Addr) (c : Nat) : Array Value := #[.int .i64 x.f0, .int .i64 x.f1, .int .i64 x.f2, .int .i64 x.f3, .int .i64 x.f4, .int .i64 x.f5, .int .i64 x.f6, .string x.f7, .slice A x.f8.length c]
def EaAt (W : World) (b d : Nat) (k F X Y Z N M : Int) (s : ByteArray) (n : Nat) (A : Option Addr) (ca : Nat) (c : Int) : Prop :=
  W.cell? ⟨b, 0, none⟩ = some (.int .i64 k) ∧ W.cell? ⟨b, 1, none⟩ = some (.int .i64 F) ∧ W.cell? ⟨b, 2, none⟩ = some (.int .i64 X) ∧ W.cell? ⟨b, 3, none⟩ = some (.int .i64 Y) ∧ W.cell? ⟨b, 4, none⟩ = some (.int .i64 Z) ∧ W.cell? ⟨b, 5, none⟩ = some (.int .i64 N) ∧ W.cell? ⟨b, 6, none⟩ = some (.int .i64 M) ∧ W.cell? ⟨b, 7, none⟩ = some (.string s) ∧ W.cell? ⟨b, 8, none⟩ = some (.slice A n ca) ∧ W.cell? ⟨d, 0, none⟩ = some (.int .i64 c)
theorem each1_calls (c m : Int) (b : Nat) (x : FunT) (A : Option Addr) (ca : Nat) (hm : m = x.f0) (w : World) (h : w.cell? ⟨b, 0, none⟩ = some (.int .i64 c)) :
    Calls Try.prog 75 #[.agg #[.int .i64 x.f0, .slice A x.f1.length ca, .int .i64 x.f2, .int .i64 x.f3, .int .i64 x.f4], .pointer (some ⟨b, 0, none⟩)] w fun e w' => e = .returned (.bool (x.f0 == c)) ∧ Below w.heap.size w w' := by
  have hb : b < w.heap.size := by have := World.block_lt_of_cell? w _ h; simpa using this
  have h' : (w.alloc (.cells #[.int .i64 x.f0, .slice A x.f1.length ca, .int .i64 x.f2, .int .i64 x.f3, .int .i64 x.f4] 44)).cell? ⟨b, 0, none⟩ = some (.int .i64 c) := by rw [← h]; exact World.cell?_of_block (Below.heap_alloc _ _ _ hb)
  go_enter Try.func75, Try.ntmps75
  go_wp2
  go_ret
  exact ⟨rfl, (Below.refl _ _).alloc (Nat.le_refl _) _⟩
set_option maxHeartbeats 16000000 in
set_option maxRecDepth 100000 in
theorem each_calls {r : Ro} {w0 W1 W : World} {n : Nat} {S : Fa → Bool} {L R : List Fa} (h : RoAt r w0 W1) (hst : StA r n S L W1 W) (x : RuT) (c : Int) (hg : Good n (L ++ (eachL r x c ++ R)))
    {Al : Option Addr} {cl : Nat} (hargs : Kd.C (Kd.int .i64) W Al x.f8.length x.f8) (hsort : r.l.Pairwise LF) (hlen : r.l.length ≤ 900000) (hfl : 1 ≤ r.fs.length ∧ r.fs.length ≤ 1000000) (hfc : r.fs.length ≤ r.c1) (hs0 : 0 ≤ r.s0 ∧ r.s0 ≤ 1000000000) (hwc : wfI c) (hwl : ∀ f ∈ r.l, wfI f.f3) :
    Calls Try.prog 57 #[.pointer (some ⟨r.Br, 0, none⟩), .agg (ruCells x Al cl), .int .i64 c] W fun e W' => e = .returned (.tuple #[]) ∧ StA r n S (L ++ eachL r x c) W1 W' ∧ Good n ((L ++ eachL r x c) ++ R) := by
  obtain ⟨k, F, X, Y, Z, N, M, s, al⟩ := x
  obtain ⟨Wb, hWb⟩ : ∃ Wb, Wb = (W.alloc (.cells (ruCells ⟨k, F, X, Y, Z, N, M, s, al⟩ Al cl) 46)).alloc (.cells #[.int .i64 c] 3) := ⟨_, rfl⟩
  have hbb : Below W.heap.size W Wb := by rw [hWb]; exact below_alloc (below_alloc (Below.refl _ W) _) _
  have hstb := (hst.quiet hbb).here
  have hroB : RoAt r w0 Wb := (h.asked hst.ch).quiet hbb
  have hnb : Wb.heap[W.heap.size]? = some (.cells (ruCells ⟨k, F, X, Y, Z, N, M, s, al⟩ Al cl) 46 (0, 0)) := by rw [hWb]; simp only [alloc_at, World.size_alloc]; simp (disch := omega) [if_pos, if_neg]
  have hnc : Wb.heap[W.heap.size + 1]? = some (.cells #[.int .i64 c] 3 (0, 0)) := by rw [hWb]; simp only [alloc_at, World.size_alloc]; simp (disch := omega) [if_pos, if_neg]
  have hMb : FSet Wb r.Mb (n + L.length) (addS S L) := hstb.set
  have HXC := Aside0.mk (show ∀ W', Chg (fun i => i = r.Mb) Wb W' → EaAt W' W.heap.size (W.heap.size + 1) k F X Y Z N M s al.length Al cl c from fun W' hc => by
    have hc' : ∀ j v, (ruCells ⟨k, F, X, Y, Z, N, M, s, al⟩ Al cl)[j]? = some v → W'.cell? ⟨W.heap.size, j, none⟩ = some v := fun j v hv => cell_map hMb hc (by simp [World.cell?, hnb, hv])
    exact ⟨hc' 0 _ rfl, hc' 1 _ rfl, hc' 2 _ rfl, hc' 3 _ rfl, hc' 4 _ rfl, hc' 5 _ rfl, hc' 6 _ rfl, hc' 7 _ rfl, hc' 8 _ rfl, cell_map hMb hc (by simp [World.cell?, hnc])⟩)
  obtain ⟨A1v, hA1v⟩ : ∃ A, r.A1 = A := ⟨_, rfl⟩
  have HA1V := Aside0.mk hA1v
  have HRC := Aside0.mk (show ∀ W', Chg (fun i => i = r.Mb) Wb W' → W'.cell? ⟨r.Br, 1, none⟩ = some (.slice A1v r.fs.length r.c1) from fun W' hc => by rw [← hA1v]; exact (hroB.asked hc).cell 1)
  clear hA1v
  have HAR := Aside0.mk (show ∀ W', Chg (fun i => i = r.Mb) Wb W' → Kd.C (Kd.int .i64) W' Al al.length al from fun W' hc => intC_map hMb hc (Kd.C_below hargs hbb))
  have HRO := Aside0.mk hroB
  have HST := Aside0.mk hstb
  have HS := Aside0.mk hsort
  have HWL := Aside0.mk hwl
  have HCH := Aside0.mk (show Chg (fun i => i = r.Mb) W1 Wb from hst.ch.then_below hbb)
  have HG := Aside0.mk hg
  clear h hst hg hargs hsort hstb hroB hMb hnb hnc hbb hwl
  go_enter Try.func57, Try.ntmps57
  obtain ⟨x0, x1, x2, x3, x4, x5, x6, x7, x8, xc⟩ := HXC.out Wb HST.out.ch
  rw [hWb] at x0 x1 x2 x3 x4 x5 x6 x7 x8 xc
  have HWB := Aside0.mk hWb
  clear hWb
  by_cases h4 : k = 4
  · subst h4
    have HGK := Aside0.mk (show Good n (L ++ (askL 9 Y noS (loadsL r.l (fun k => decide (k = s)) c) ++ R)) from HG.out)
    go_wp2
    rw [← HWB.out]
    clear x0 x1 x2 x3 x4 x5 x6 x7 x8 xc HWB
    obtain ⟨Wd, hWd⟩ : ∃ Wd, Wb.drew = Wd := ⟨_, rfl⟩
    have HST := Aside0.mk (HST.out.quiet (W' := Wd) (by rw [← hWd]; exact below_drew (Below.refl _ _)))
    refine start_ (n := 10) (S := fun W' => Chg (fun i => i = r.Mb) Wb W') (ds := []) #[false, false, false, false, false, false, false, false, false, false] (by kernel_rfl) rfl rfl (by rw [hWd]; exact HST.out.ch) (fun hHeld => ?_)
    rw [hWd] at hHeld ⊢
    refine with_tabW eatab3 eabits3 (fun HT_ HW_ => ?_)
    refine pure_ (i := 0) (N := some 11) (v := ?_) (a' := ?_) #[true, false, false, false, false, false, false, false, false, false] rfl rfl (any_of HT_.out (by kernel_rfl)) (fun _ _ _ h => h) (Or.inl ⟨by rfl, ?_⟩) ?_ ?_
    rotate_left
    · intro w'
      first | (go_simp; with_reducible rfl)
    rotate_left
    · simp only [Act.put, List.setIfInBounds_toArray, List.set_cons_zero, List.set_cons_succ, i64_w, i32_w]
      rfl
    refine pure_ (i := 1) (N := some 12) (v := ?_) (a' := ?_) #[true, true, false, false, false, false, false, false, false, false] rfl rfl (any_of HT_.out (by kernel_rfl)) (fun _ _ _ h => h) (Or.inl ⟨by rfl, ?_⟩) ?_ ?_
    rotate_left
    · intro w'
      first | (go_simp; with_reducible rfl)
    rotate_left
    · simp only [Act.put, List.setIfInBounds_toArray, List.set_cons_zero, List.set_cons_succ, i64_w, i32_w]
      rfl
    refine take_ (i := 2) (N := some 13) (v := ?_) (a' := ?_) #[true, true, true, false, false, false, false, false, false, false] rfl rfl (take_ofW HT_.out HW_.out (by kernel_rfl)) (fun _ _ _ h => h) (Or.inl ⟨by rfl, ?_⟩) hHeld ?_ ?_
    rotate_left
    · intro w' hw'
      obtain ⟨x0, x1, x2, x3, x4, x5, x6, x7, x8, xc⟩ := HXC.out w' hw'
      first | (go_simp; with_reducible rfl)
    rotate_left
    · simp only [Act.put, List.setIfInBounds_toArray, List.set_cons_zero, List.set_cons_succ, i64_w, i32_w]
      rfl
    refine pure_ (i := 3) (N := some 14) (v := ?_) (a' := ?_) #[true, true, true, true, false, false, false, false, false, false] rfl rfl (any_of HT_.out (by kernel_rfl)) (fun _ _ _ h => h) (Or.inl ⟨by rfl, ?_⟩) ?_ ?_
    rotate_left
    · intro w'
      first | (go_simp; with_reducible rfl)
    rotate_left
    · simp only [Act.put, List.setIfInBounds_toArray, List.set_cons_zero, List.set_cons_succ, i64_w, i32_w]
      rfl
    refine take_ (i := 4) (N := some 15) (v := ?_) (a' := ?_) #[true, true, true, true, true, false, false, false, false, false] rfl rfl (take_ofW HT_.out HW_.out (by kernel_rfl)) (fun _ _ _ h => h) (Or.inl ⟨by rfl, ?_⟩) hHeld ?_ ?_
    rotate_left
    · intro w' hw'
      obtain ⟨x0, x1, x2, x3, x4, x5, x6, x7, x8, xc⟩ := HXC.out w' hw'
      first | (go_simp; with_reducible rfl)
    rotate_left
    · simp only [Act.put, List.setIfInBounds_toArray, List.set_cons_zero, List.set_cons_succ, i64_w, i32_w]
      rfl
    refine pure_ (i := 5) (N := some 16) (v := ?_) (a' := ?_) #[true, true, true, true, true, true, false, false, false, false] rfl rfl (any_of HT_.out (by kernel_rfl)) (fun _ _ _ h => h) (Or.inl ⟨by rfl, ?_⟩) ?_ ?_
    rotate_left
    · intro w'
      first | (go_simp; with_reducible rfl)
    rotate_left
    · simp only [Act.put, List.setIfInBounds_toArray, List.set_cons_zero, List.set_cons_succ, i64_w, i32_w]
      rfl
    refine take_ (i := 6) (N := some 17) (v := ?_) (a' := ?_) #[true, true, true, true, true, true, true, false, false, false] rfl rfl (take_ofW HT_.out HW_.out (by kernel_rfl)) (fun _ _ _ h => h) (Or.inl ⟨by rfl, ?_⟩) hHeld ?_ ?_
    rotate_left
    · intro w' hw'
      obtain ⟨x0, x1, x2, x3, x4, x5, x6, x7, x8, xc⟩ := HXC.out w' hw'
      first | (go_simp; with_reducible rfl)
    rotate_left
    · simp only [Act.put, List.setIfInBounds_toArray, List.set_cons_zero, List.set_cons_succ, i64_w, i32_w]
      rfl
    refine one_ (i := 7) (N := some 18) #[true, true, true, true, true, true, true, true, false, false] rfl rfl (one_of HT_.out (by kernel_rfl)) (by decide) (fun K hK => ?_)
    have hwz := HST.out.set.lt
    refine goes_ Try.func73 (by kernel_rfl) rfl #[.string s] (by rfl) rfl rfl (by (try simp only [List.map_toArray, List.map_cons, List.map_nil]); first | done | rfl) ?_
    refine (is_calls s _).mono ?_
    rintro e W7 ⟨rfl, hw7⟩
    refine ⟨_, rfl, ?_⟩
    have HK7 := Aside0.mk (show W7.cell? ⟨Wd.heap.size, 0, none⟩ = some (.string s) by rw [hw7]; exact (cell_of_blk (heap_alloc_new _ _)).1)
    have hlt7 : Wd.heap.size < W7.heap.size := by rw [hw7]; simp
    have HST := Aside0.mk (HST.out.quiet (W' := W7) (by rw [hw7]; exact (Below.refl _ _).alloc (Nat.le_refl _) _))
    clear hw7 hwz
    refine hK.out _ _ HST.out.ch (fun hHeld => ?_)
    clear hK K
    refine norm_ (a' := ?_) ?_ ?_
    rotate_left
    · show Act.put _ (some 18) _ = _
      simp only [Act.put, List.setIfInBounds_toArray, List.set_cons_zero, List.set_cons_succ, i64_w, i32_w]
      rfl
    refine one_ (i := 8) (N := some 19) #[true, true, true, true, true, true, true, true, true, false] rfl rfl (one_of HT_.out (by kernel_rfl)) (by decide) (fun K hK => ?_)
    refine goes_ Try.func53 (by kernel_rfl) rfl #[.pointer (some ⟨r.Br, 0, none⟩), .int .i64 c, .func (.func 83) #[] #[.pointer (some ⟨Wd.heap.size, 0, none⟩)]] (by rfl) rfl rfl (by (try simp only [List.map_toArray, List.map_cons, List.map_nil]); first | done | rfl) ?_
    refine (loads_calls (HRO.out.asked HST.out.ch) c 83 #[.pointer (some ⟨Wd.heap.size, 0, none⟩)] (fun k => decide (k = s)) (enters_of Try.func83 (by kernel_rfl) rfl) (fun W' hb' s' => is1_calls s s' _ W' ((hb'.cell hlt7).trans HK7.out)) HS.out hlen hwc HWL.out).mono ?_
    rintro e W8 ⟨v8, ys8, rfl, hO8, hp8, hb8⟩
    obtain ⟨A8, c8, rfl, hlc8, hcc8⟩ := own_slice3 hO8
    refine ⟨_, rfl, ?_⟩
    have HC8 := Aside0.mk (Kd.R_reads' hO8).2.2
    have HP8 := Aside0.mk hp8
    have HST := Aside0.mk (HST.out.quiet hb8)
    clear hO8 hp8 hb8 hlc8 hcc8
    refine hK.out _ _ HST.out.ch (fun hHeld => ?_)
    clear hK K
    refine norm_ (a' := ?_) ?_ ?_
    rotate_left
    · show Act.put _ (some 19) _ = _
      simp only [Act.put, List.setIfInBounds_toArray, List.set_cons_zero, List.set_cons_succ, i64_w, i32_w]
      rfl
    refine one_ (i := 9) (N := some 20) #[true, true, true, true, true, true, true, true, true, true] rfl rfl (one_of HT_.out (by kernel_rfl)) (by decide) (fun K hK => ?_)
    refine goes_ Try.func37 (by kernel_rfl) rfl #[.pointer (some ⟨r.Br, 0, none⟩), .int .i64 9, .int .i64 Y, .string ⟨#[]⟩, .slice A8 ys8.length c8] (by rfl) rfl rfl (by (try simp only [List.map_toArray, List.map_cons, List.map_nil]); first | done | rfl) ?_
    refine (st_asks_perm HRO.out HST.out HP8.out HGK.out rfl HC8.out).mono ?_
    rintro e W9 ⟨rfl, hst_, hg_⟩
    refine ⟨_, rfl, ?_⟩
    have HST := Aside0.mk hst_
    have HGK := Aside0.mk hg_
    clear hst_ hg_
    refine hK.out _ _ HST.out.ch (fun hHeld => ?_)
    clear hK K
    refine norm_ (a' := ?_) ?_ ?_
    rotate_left
    · show Act.put _ (some 20) _ = _
      simp only [Act.put, List.setIfInBounds_toArray, List.set_cons_zero, List.set_cons_succ, i64_w, i32_w]
      rfl
    refine done_ (done_of HT_.out (by kernel_rfl)) ?_
    clear hHeld
    go_wp2
    go_end0
    exact ⟨rfl, HST.out.rebase HCH.out, HGK.out⟩
  by_cases h5 : k = 5
  · subst h5
    have HGK := Aside0.mk (show Good n (L ++ (askL 9 Y noS (loadsL r.l (fun _ => true) c) ++ R)) from HG.out)
    go_wp2
    rw [← HWB.out]
    clear x0 x1 x2 x3 x4 x5 x6 x7 x8 xc HWB
    obtain ⟨Wd, hWd⟩ : ∃ Wd, Wb.drew = Wd := ⟨_, rfl⟩
    have HST := Aside0.mk (HST.out.quiet (W' := Wd) (by rw [← hWd]; exact below_drew (Below.refl _ _)))
    refine start_ (n := 7) (S := fun W' => Chg (fun i => i = r.Mb) Wb W') (ds := []) #[false, false, false, false, false, false, false] (by kernel_rfl) rfl rfl (by rw [hWd]; exact HST.out.ch) (fun hHeld => ?_)
    rw [hWd] at hHeld ⊢
    refine with_tabW eatab5 eabits5 (fun HT_ HW_ => ?_)
    refine pure_ (i := 0) (N := some 23) (v := ?_) (a' := ?_) #[true, false, false, false, false, false, false] rfl rfl (any_of HT_.out (by kernel_rfl)) (fun _ _ _ h => h) (Or.inl ⟨by rfl, ?_⟩) ?_ ?_
    rotate_left
    · intro w'
      first | (go_simp; with_reducible rfl)
    rotate_left
    · simp only [Act.put, List.setIfInBounds_toArray, List.set_cons_zero, List.set_cons_succ, i64_w, i32_w]
      rfl
    refine pure_ (i := 1) (N := some 24) (v := ?_) (a' := ?_) #[true, true, false, false, false, false, false] rfl rfl (any_of HT_.out (by kernel_rfl)) (fun _ _ _ h => h) (Or.inl ⟨by rfl, ?_⟩) ?_ ?_
    rotate_left
    · intro w'
      first | (go_simp; with_reducible rfl)
    rotate_left
    · simp only [Act.put, List.setIfInBounds_toArray, List.set_cons_zero, List.set_cons_succ, i64_w, i32_w]
      rfl
    refine take_ (i := 2) (N := some 25) (v := ?_) (a' := ?_) #[true, true, true, false, false, false, false] rfl rfl (take_ofW HT_.out HW_.out (by kernel_rfl)) (fun _ _ _ h => h) (Or.inl ⟨by rfl, ?_⟩) hHeld ?_ ?_
    rotate_left
    · intro w' hw'
      obtain ⟨x0, x1, x2, x3, x4, x5, x6, x7, x8, xc⟩ := HXC.out w' hw'
      first | (go_simp; with_reducible rfl)
    rotate_left
    · simp only [Act.put, List.setIfInBounds_toArray, List.set_cons_zero, List.set_cons_succ, i64_w, i32_w]
      rfl
    refine pure_ (i := 3) (N := some 26) (v := ?_) (a' := ?_) #[true, true, true, true, false, false, false] rfl rfl (any_of HT_.out (by kernel_rfl)) (fun _ _ _ h => h) (Or.inl ⟨by rfl, ?_⟩) ?_ ?_
    rotate_left
    · intro w'
      first | (go_simp; with_reducible rfl)
    rotate_left
    · simp only [Act.put, List.setIfInBounds_toArray, List.set_cons_zero, List.set_cons_succ, i64_w, i32_w]
      rfl
    refine take_ (i := 4) (N := some 27) (v := ?_) (a' := ?_) #[true, true, true, true, true, false, false] rfl rfl (take_ofW HT_.out HW_.out (by kernel_rfl)) (fun _ _ _ h => h) (Or.inl ⟨by rfl, ?_⟩) hHeld ?_ ?_
    rotate_left
    · intro w' hw'
      obtain ⟨x0, x1, x2, x3, x4, x5, x6, x7, x8, xc⟩ := HXC.out w' hw'
      first | (go_simp; with_reducible rfl)
    rotate_left
    · simp only [Act.put, List.setIfInBounds_toArray, List.set_cons_zero, List.set_cons_succ, i64_w, i32_w]
      rfl
    refine one_ (i := 5) (N := some 28) #[true, true, true, true, true, true, false] rfl rfl (one_of HT_.out (by kernel_rfl)) (by decide) (fun K hK => ?_)
    refine goes_ Try.func53 (by kernel_rfl) rfl #[.pointer (some ⟨r.Br, 0, none⟩), .int .i64 c, .func (.func 54) #[] #[]] (by rfl) rfl rfl (by (try simp only [List.map_toArray, List.map_cons, List.map_nil]); first | done | rfl) ?_
    refine (loads_calls (HRO.out.asked HST.out.ch) c 54 #[] (fun _ => true) (enters_of Try.func54 (by kernel_rfl) rfl) (fun W' _ s' => isAny_calls s' W') HS.out hlen hwc HWL.out).mono ?_
    rintro e W8 ⟨v8, ys8, rfl, hO8, hp8, hb8⟩
    obtain ⟨A8, c8, rfl, hlc8, hcc8⟩ := own_slice3 hO8
    refine ⟨_, rfl, ?_⟩
    have HC8 := Aside0.mk (Kd.R_reads' hO8).2.2
    have HP8 := Aside0.mk hp8
    have HST := Aside0.mk (HST.out.quiet hb8)
    clear hO8 hp8 hb8 hlc8 hcc8
    refine hK.out _ _ HST.out.ch (fun hHeld => ?_)
    clear hK K
    refine norm_ (a' := ?_) ?_ ?_
    rotate_left
    · show Act.put _ (some 28) _ = _
      simp only [Act.put, List.setIfInBounds_toArray, List.set_cons_zero, List.set_cons_succ, i64_w, i32_w]
      rfl
    refine one_ (i := 6) (N := some 29) #[true, true, true, true, true, true, true] rfl rfl (one_of HT_.out (by kernel_rfl)) (by decide) (fun K hK => ?_)
    refine goes_ Try.func37 (by kernel_rfl) rfl #[.pointer (some ⟨r.Br, 0, none⟩), .int .i64 9, .int .i64 Y, .string ⟨#[]⟩, .slice A8 ys8.length c8] (by rfl) rfl rfl (by (try simp only [List.map_toArray, List.map_cons, List.map_nil]); first | done | rfl) ?_
    refine (st_asks_perm HRO.out HST.out HP8.out HGK.out rfl HC8.out).mono ?_
    rintro e W9 ⟨rfl, hst_, hg_⟩
    refine ⟨_, rfl, ?_⟩
    have HST := Aside0.mk hst_
    have HGK := Aside0.mk hg_
    clear hst_ hg_
    refine hK.out _ _ HST.out.ch (fun hHeld => ?_)
    clear hK K
    refine norm_ (a' := ?_) ?_ ?_
    rotate_left
    · show Act.put _ (some 29) _ = _
      simp only [Act.put, List.setIfInBounds_toArray, List.set_cons_zero, List.set_cons_succ, i64_w, i32_w]
      rfl
    refine done_ (done_of HT_.out (by kernel_rfl)) ?_
    clear hHeld
    go_wp2
    go_end0
    exact ⟨rfl, HST.out.rebase HCH.out, HGK.out⟩
  by_cases h6 : k = 6
  · subst h6
    have HGK := Aside0.mk (show Good n (L ++ (askL 3 c s (bsL r.l 9 Y) ++ R)) from HG.out)
    go_wp2
    rw [← HWB.out]
    clear x0 x1 x2 x3 x4 x5 x6 x7 x8 xc HWB
    obtain ⟨Wd, hWd⟩ : ∃ Wd, Wb.drew = Wd := ⟨_, rfl⟩
    have HST := Aside0.mk (HST.out.quiet (W' := Wd) (by rw [← hWd]; exact below_drew (Below.refl _ _)))
    refine start_ (n := 9) (S := fun W' => Chg (fun i => i = r.Mb) Wb W') (ds := []) #[false, false, false, false, false, false, false, false, false] (by kernel_rfl) rfl rfl (by rw [hWd]; exact HST.out.ch) (fun hHeld => ?_)
    rw [hWd] at hHeld ⊢
    refine with_tabW eatab7 eabits7 (fun HT_ HW_ => ?_)
    refine pure_ (i := 0) (N := some 32) (v := ?_) (a' := ?_) #[true, false, false, false, false, false, false, false, false] rfl rfl (any_of HT_.out (by kernel_rfl)) (fun _ _ _ h => h) (Or.inl ⟨by rfl, ?_⟩) ?_ ?_
    rotate_left
    · intro w'
      first | (go_simp; with_reducible rfl)
    rotate_left
    · simp only [Act.put, List.setIfInBounds_toArray, List.set_cons_zero, List.set_cons_succ, i64_w, i32_w]
      rfl
    refine take_ (i := 1) (N := some 33) (v := ?_) (a' := ?_) #[true, true, false, false, false, false, false, false, false] rfl rfl (take_ofW HT_.out HW_.out (by kernel_rfl)) (fun _ _ _ h => h) (Or.inl ⟨by rfl, ?_⟩) hHeld ?_ ?_
    rotate_left
    · intro w' hw'
      obtain ⟨x0, x1, x2, x3, x4, x5, x6, x7, x8, xc⟩ := HXC.out w' hw'
      first | (go_simp; with_reducible rfl)
    rotate_left
    · simp only [Act.put, List.setIfInBounds_toArray, List.set_cons_zero, List.set_cons_succ, i64_w, i32_w]
      rfl
    refine pure_ (i := 2) (N := some 34) (v := ?_) (a' := ?_) #[true, true, true, false, false, false, false, false, false] rfl rfl (any_of HT_.out (by kernel_rfl)) (fun _ _ _ h => h) (Or.inl ⟨by rfl, ?_⟩) ?_ ?_
    rotate_left
    · intro w'
      first | (go_simp; with_reducible rfl)
    rotate_left
    · simp only [Act.put, List.setIfInBounds_toArray, List.set_cons_zero, List.set_cons_succ, i64_w, i32_w]
      rfl
    refine take_ (i := 3) (N := some 35) (v := ?_) (a' := ?_) #[true, true, true, true, false, false, false, false, false] rfl rfl (take_ofW HT_.out HW_.out (by kernel_rfl)) (fun _ _ _ h => h) (Or.inl ⟨by rfl, ?_⟩) hHeld ?_ ?_
    rotate_left
    · intro w' hw'
      obtain ⟨x0, x1, x2, x3, x4, x5, x6, x7, x8, xc⟩ := HXC.out w' hw'
      first | (go_simp; with_reducible rfl)
    rotate_left
    · simp only [Act.put, List.setIfInBounds_toArray, List.set_cons_zero, List.set_cons_succ, i64_w, i32_w]
      rfl
    refine pure_ (i := 4) (N := some 36) (v := ?_) (a' := ?_) #[true, true, true, true, true, false, false, false, false] rfl rfl (any_of HT_.out (by kernel_rfl)) (fun _ _ _ h => h) (Or.inl ⟨by rfl, ?_⟩) ?_ ?_
    rotate_left
    · intro w'
      first | (go_simp; with_reducible rfl)
    rotate_left
    · simp only [Act.put, List.setIfInBounds_toArray, List.set_cons_zero, List.set_cons_succ, i64_w, i32_w]
      rfl
    refine pure_ (i := 5) (N := some 37) (v := ?_) (a' := ?_) #[true, true, true, true, true, true, false, false, false] rfl rfl (any_of HT_.out (by kernel_rfl)) (fun _ _ _ h => h) (Or.inl ⟨by rfl, ?_⟩) ?_ ?_
    rotate_left
    · intro w'
      first | (go_simp; with_reducible rfl)
    rotate_left
    · simp only [Act.put, List.setIfInBounds_toArray, List.set_cons_zero, List.set_cons_succ, i64_w, i32_w]
      rfl
    refine take_ (i := 6) (N := some 38) (v := ?_) (a' := ?_) #[true, true, true, true, true, true, true, false, false] rfl rfl (take_ofW HT_.out HW_.out (by kernel_rfl)) (fun _ _ _ h => h) (Or.inl ⟨by rfl, ?_⟩) hHeld ?_ ?_
    rotate_left
    · intro w' hw'
      obtain ⟨x0, x1, x2, x3, x4, x5, x6, x7, x8, xc⟩ := HXC.out w' hw'
      first | (go_simp; with_reducible rfl)
    rotate_left
    · simp only [Act.put, List.setIfInBounds_toArray, List.set_cons_zero, List.set_cons_succ, i64_w, i32_w]
      rfl
    refine one_ (i := 7) (N := some 39) #[true, true, true, true, true, true, true, true, false] rfl rfl (one_of HT_.out (by kernel_rfl)) (by decide) (fun K hK => ?_)
    refine goes_ Try.func52 (by kernel_rfl) rfl #[.pointer (some ⟨r.Br, 0, none⟩), .int .i64 Y] (by rfl) rfl rfl (by (try simp only [List.map_toArray, List.map_cons, List.map_nil]); first | done | rfl) ?_
    refine (st_in HRO.out HST.out Y HS.out hlen).mono ?_
    rintro e W8 ⟨A8, c8, rfl, hC_, hst_⟩
    refine ⟨_, rfl, ?_⟩
    have HST := Aside0.mk hst_
    have HC8 := Aside0.mk hC_
    clear hst_ hC_
    refine hK.out _ _ HST.out.ch (fun hHeld => ?_)
    clear hK K
    refine norm_ (a' := ?_) ?_ ?_
    rotate_left
    · show Act.put _ (some 39) _ = _
      simp only [Act.put, List.setIfInBounds_toArray, List.set_cons_zero, List.set_cons_succ, i64_w, i32_w]
      rfl
    refine one_ (i := 8) (N := some 40) #[true, true, true, true, true, true, true, true, true] rfl rfl (one_of HT_.out (by kernel_rfl)) (by decide) (fun K hK => ?_)
    refine goes_ Try.func37 (by kernel_rfl) rfl #[.pointer (some ⟨r.Br, 0, none⟩), .int .i64 3, .int .i64 c, .string s, .slice A8 (bsL r.l 9 Y).length c8] (by rfl) rfl rfl (by (try simp only [List.map_toArray, List.map_cons, List.map_nil]); first | done | rfl) ?_
    refine (st_asks HRO.out HST.out HGK.out rfl HC8.out).mono ?_
    rintro e W9 ⟨rfl, hst_, hg_⟩
    refine ⟨_, rfl, ?_⟩
    have HST := Aside0.mk hst_
    have HGK := Aside0.mk hg_
    clear hst_ hg_
    refine hK.out _ _ HST.out.ch (fun hHeld => ?_)
    clear hK K
    refine norm_ (a' := ?_) ?_ ?_
    rotate_left
    · show Act.put _ (some 40) _ = _
      simp only [Act.put, List.setIfInBounds_toArray, List.set_cons_zero, List.set_cons_succ, i64_w, i32_w]
      rfl
    refine done_ (done_of HT_.out (by kernel_rfl)) ?_
    clear hHeld
    go_wp2
    go_end0
    exact ⟨rfl, HST.out.rebase HCH.out, HGK.out⟩
  by_cases h7 : k = 7
  · subst h7
    have HGK := Aside0.mk (show Good n (L ++ (askL 8 c noS (bsL r.l 9 Y) ++ R)) from HG.out)
    go_wp2
    rw [← HWB.out]
    clear x0 x1 x2 x3 x4 x5 x6 x7 x8 xc HWB
    obtain ⟨Wd, hWd⟩ : ∃ Wd, Wb.drew = Wd := ⟨_, rfl⟩
    have HST := Aside0.mk (HST.out.quiet (W' := Wd) (by rw [← hWd]; exact below_drew (Below.refl _ _)))
    refine start_ (n := 7) (S := fun W' => Chg (fun i => i = r.Mb) Wb W') (ds := []) #[false, false, false, false, false, false, false] (by kernel_rfl) rfl rfl (by rw [hWd]; exact HST.out.ch) (fun hHeld => ?_)
    rw [hWd] at hHeld ⊢
    refine with_tabW eatab9 eabits9 (fun HT_ HW_ => ?_)
    refine pure_ (i := 0) (N := some 43) (v := ?_) (a' := ?_) #[true, false, false, false, false, false, false] rfl rfl (any_of HT_.out (by kernel_rfl)) (fun _ _ _ h => h) (Or.inl ⟨by rfl, ?_⟩) ?_ ?_
    rotate_left
    · intro w'
      first | (go_simp; with_reducible rfl)
    rotate_left
    · simp only [Act.put, List.setIfInBounds_toArray, List.set_cons_zero, List.set_cons_succ, i64_w, i32_w]
      rfl
    refine take_ (i := 1) (N := some 44) (v := ?_) (a' := ?_) #[true, true, false, false, false, false, false] rfl rfl (take_ofW HT_.out HW_.out (by kernel_rfl)) (fun _ _ _ h => h) (Or.inl ⟨by rfl, ?_⟩) hHeld ?_ ?_
    rotate_left
    · intro w' hw'
      obtain ⟨x0, x1, x2, x3, x4, x5, x6, x7, x8, xc⟩ := HXC.out w' hw'
      first | (go_simp; with_reducible rfl)
    rotate_left
    · simp only [Act.put, List.setIfInBounds_toArray, List.set_cons_zero, List.set_cons_succ, i64_w, i32_w]
      rfl
    refine pure_ (i := 2) (N := some 45) (v := ?_) (a' := ?_) #[true, true, true, false, false, false, false] rfl rfl (any_of HT_.out (by kernel_rfl)) (fun _ _ _ h => h) (Or.inl ⟨by rfl, ?_⟩) ?_ ?_
    rotate_left
    · intro w'
      first | (go_simp; with_reducible rfl)
    rotate_left
    · simp only [Act.put, List.setIfInBounds_toArray, List.set_cons_zero, List.set_cons_succ, i64_w, i32_w]
      rfl
    refine pure_ (i := 3) (N := some 46) (v := ?_) (a' := ?_) #[true, true, true, true, false, false, false] rfl rfl (any_of HT_.out (by kernel_rfl)) (fun _ _ _ h => h) (Or.inl ⟨by rfl, ?_⟩) ?_ ?_
    rotate_left
    · intro w'
      first | (go_simp; with_reducible rfl)
    rotate_left
    · simp only [Act.put, List.setIfInBounds_toArray, List.set_cons_zero, List.set_cons_succ, i64_w, i32_w]
      rfl
    refine take_ (i := 4) (N := some 47) (v := ?_) (a' := ?_) #[true, true, true, true, true, false, false] rfl rfl (take_ofW HT_.out HW_.out (by kernel_rfl)) (fun _ _ _ h => h) (Or.inl ⟨by rfl, ?_⟩) hHeld ?_ ?_
    rotate_left
    · intro w' hw'
      obtain ⟨x0, x1, x2, x3, x4, x5, x6, x7, x8, xc⟩ := HXC.out w' hw'
      first | (go_simp; with_reducible rfl)
    rotate_left
    · simp only [Act.put, List.setIfInBounds_toArray, List.set_cons_zero, List.set_cons_succ, i64_w, i32_w]
      rfl
    refine one_ (i := 5) (N := some 48) #[true, true, true, true, true, true, false] rfl rfl (one_of HT_.out (by kernel_rfl)) (by decide) (fun K hK => ?_)
    refine goes_ Try.func52 (by kernel_rfl) rfl #[.pointer (some ⟨r.Br, 0, none⟩), .int .i64 Y] (by rfl) rfl rfl (by (try simp only [List.map_toArray, List.map_cons, List.map_nil]); first | done | rfl) ?_
    refine (st_in HRO.out HST.out Y HS.out hlen).mono ?_
    rintro e W8 ⟨A8, c8, rfl, hC_, hst_⟩
    refine ⟨_, rfl, ?_⟩
    have HST := Aside0.mk hst_
    have HC8 := Aside0.mk hC_
    clear hst_ hC_
    refine hK.out _ _ HST.out.ch (fun hHeld => ?_)
    clear hK K
    refine norm_ (a' := ?_) ?_ ?_
    rotate_left
    · show Act.put _ (some 48) _ = _
      simp only [Act.put, List.setIfInBounds_toArray, List.set_cons_zero, List.set_cons_succ, i64_w, i32_w]
      rfl
    refine one_ (i := 6) (N := some 49) #[true, true, true, true, true, true, true] rfl rfl (one_of HT_.out (by kernel_rfl)) (by decide) (fun K hK => ?_)
    refine goes_ Try.func37 (by kernel_rfl) rfl #[.pointer (some ⟨r.Br, 0, none⟩), .int .i64 8, .int .i64 c, .string ⟨#[]⟩, .slice A8 (bsL r.l 9 Y).length c8] (by rfl) rfl rfl (by (try simp only [List.map_toArray, List.map_cons, List.map_nil]); first | done | rfl) ?_
    refine (st_asks HRO.out HST.out HGK.out rfl HC8.out).mono ?_
    rintro e W9 ⟨rfl, hst_, hg_⟩
    refine ⟨_, rfl, ?_⟩
    have HST := Aside0.mk hst_
    have HGK := Aside0.mk hg_
    clear hst_ hg_
    refine hK.out _ _ HST.out.ch (fun hHeld => ?_)
    clear hK K
    refine norm_ (a' := ?_) ?_ ?_
    rotate_left
    · show Act.put _ (some 49) _ = _
      simp only [Act.put, List.setIfInBounds_toArray, List.set_cons_zero, List.set_cons_succ, i64_w, i32_w]
      rfl
    refine done_ (done_of HT_.out (by kernel_rfl)) ?_
    clear hHeld
    go_wp2
    go_end0
    exact ⟨rfl, HST.out.rebase HCH.out, HGK.out⟩
  by_cases h8 : k = 8
  · subst h8
    by_cases hz : 0 ≤ Z
    · have HEQ := Aside0.mk (show eachL r ⟨8, F, X, Y, Z, N, M, s, al⟩ c = callL r ⟨M, bsL r.l 9 Z, al, -1, Y, N⟩ c by simp [eachL, if_pos hz])
      have HGK := Aside0.mk (show Good n (L ++ (callL r ⟨M, bsL r.l 9 Z, al, -1, Y, N⟩ c ++ R)) by rw [← HEQ.out]; exact HG.out)
      go_wp2_with fail
      rw [← HWB.out]
      clear x0 x1 x2 x3 x4 x5 x6 x7 x8 xc HWB
      refine (st_in HRO.out HST.out Z HS.out hlen).mono ?_
      rintro e W8 ⟨A9, c9, rfl, hC_, hst_⟩
      have HST := Aside0.mk hst_
      have HC8 := Aside0.mk hC_
      clear hst_ hC_
      obtain ⟨x0, x1, x2, x3, x4, x5, x6, x7, x8, xc⟩ := HXC.out W8 HST.out.ch
      go_wp2_with fail
      clear x0 x1 x2 x3 x4 x5 x6 x7 x8 xc
      refine (called_calls HRO.out HST.out ⟨M, bsL r.l 9 Z, al, -1, Y, N⟩ c HGK.out HC8.out (HAR.out _ HST.out.ch) HS.out hlen hfl.2 hs0).mono ?_
      rintro e W9 ⟨rfl, hst_, hg_⟩
      have HST := Aside0.mk hst_
      have HGK := Aside0.mk hg_
      clear hst_ hg_
      go_wp2
      go_end0
      rw [HEQ.out]
      exact ⟨rfl, HST.out.rebase HCH.out, HGK.out⟩
    · have HEQ := Aside0.mk (show eachL r ⟨8, F, X, Y, Z, N, M, s, al⟩ c = callL r ⟨M, [], al, -1, Y, N⟩ c by simp [eachL, if_neg hz])
      have HGK := Aside0.mk (show Good n (L ++ (callL r ⟨M, [], al, -1, Y, N⟩ c ++ R)) by rw [← HEQ.out]; exact HG.out)
      go_wp2_with fail
      rw [← HWB.out]
      clear x0 x1 x2 x3 x4 x5 x6 x7 x8 xc HWB
      refine (called_calls HRO.out HST.out ⟨M, [], al, -1, Y, N⟩ c HGK.out (Kd.C_nil _ _) (HAR.out _ HST.out.ch) HS.out hlen hfl.2 hs0).mono ?_
      rintro e W9 ⟨rfl, hst_, hg_⟩
      have HST := Aside0.mk hst_
      have HGK := Aside0.mk hg_
      clear hst_ hg_
      go_wp2
      go_end0
      rw [HEQ.out]
      exact ⟨rfl, HST.out.rebase HCH.out, HGK.out⟩
  by_cases h9 : k = 9
  · subst h9
    have d1 := HRC.out Wb HST.out.ch
    rw [HWB.out] at d1
    obtain ⟨A2v, hA2⟩ : ∃ A2v, A2v = (if r.c1 = 1 then A1v else A1v.map (·.add (1 * 5))) := ⟨_, rfl⟩
    have hcut : ∀ W : World, (Instr.slice 22 (.slice A1v r.fs.length r.c1) (some (.int .i64 1)) none none).run Try.prog W = .ok (.slice A2v (r.fs.drop 1).length (r.c1 - 1)) W := by
      intro W
      rw [List.length_drop, hA2]
      exact cut_from (P := Try.prog) 22 44 .i64 Try.underlying22 (i := (Try.prog.info? 44).getD default) (by kernel_rfl) 5 (by kernel_rfl) A1v r.fs.length r.c1 1 (by omega) (by omega) W
    have HCT := Aside0.mk (containsG (.func (.func 75) #[] #[.pointer (some ⟨W.heap.size + 1, 0, none⟩)]) (fun f => f.f0 == c) A2v (r.c1 - 1) (r.fs.drop 1) Wb
      ⟨_, _, rfl, (enters_of Try.func75 (by kernel_rfl) rfl), fun W' hb' x A ca _ _ _ => each1_calls c _ _ x A ca rfl W' (by
        obtain ⟨_, _, _, _, _, _, _, _, _, xc⟩ := HXC.out Wb HST.out.ch
        have := World.block_lt_of_cell? Wb _ xc
        exact (hb'.cell (by simpa using this)).trans xc)⟩
      (by rw [hA2, ← HA1V.out]; exact Kd.C_drop (Kd.C_below HRO.out.hf HRO.out.bel) hfl.1 hfc) (by rw [List.length_drop]; omega) (by rw [List.length_drop]; omega))
    clear hA2
    go_wp2_with fail
    rw [← HWB.out]
    clear x0 x1 x2 x3 x4 x5 x6 x7 x8 xc d1 HWB hcut
    rw [show r.fs.length - 1 = (r.fs.drop 1).length by rw [List.length_drop]]
    refine HCT.out.mono ?_
    rintro e W2 ⟨he_, hb2⟩
    obtain rfl : e = .returned (.bool (isFunB r.fs c)) := he_
    have HST := Aside0.mk (HST.out.quiet hb2)
    clear HCT hb2
    by_cases hB : isFunB r.fs c = true
    · have HEQ := Aside0.mk (show eachL r ⟨9, F, X, Y, Z, N, M, s, al⟩ c = askL 9 Y noS [M] ++ (askL 4 M noS [0] ++ (askL 4 M noS (loadsL r.l (fun k => decide (k = protoS)) c) ++ callL r ⟨M, [M], al, -1, Y, N⟩ c)) by simp [eachL, hB])
      have HGK := Aside0.mk (show Good n (L ++ (askL 9 Y noS [M] ++ (askL 4 M noS [0] ++ (askL 4 M noS (loadsL r.l (fun k => decide (k = protoS)) c) ++ (callL r ⟨M, [M], al, -1, Y, N⟩ c ++ R))))) by
        have h9 := HG.out
        rw [HEQ.out] at h9
        simpa only [List.append_assoc] using h9)
      rw [hB]
      obtain ⟨x0, x1, x2, x3, x4, x5, x6, x7, x8, xc⟩ := HXC.out W2 HST.out.ch
      go_wp2_with fail
      clear x0 x1 x2 x3 x4 x5 x6 x7 x8 xc hB
      refine (st_ask1 HRO.out HST.out HGK.out rfl).mono ?_
      rintro e W3 ⟨rfl, hst_, hg_⟩
      have HST := Aside0.mk hst_
      have HGK := Aside0.mk hg_
      clear hst_ hg_
      obtain ⟨x0, x1, x2, x3, x4, x5, x6, x7, x8, xc⟩ := HXC.out W3 HST.out.ch
      go_wp2_with fail
      clear x0 x1 x2 x3 x4 x5 x6 x7 x8 xc
      refine (st_ask1 HRO.out HST.out HGK.out rfl).mono ?_
      rintro e W4 ⟨rfl, hst_, hg_⟩
      have HST := Aside0.mk hst_
      have HGK := Aside0.mk hg_
      clear hst_ hg_
      go_wp2
      obtain ⟨Wd, hWd⟩ : ∃ Wd, W4.drew = Wd := ⟨_, rfl⟩
      have HST := Aside0.mk (HST.out.quiet (W' := Wd) (by rw [← hWd]; exact below_drew (Below.refl _ _)))
      refine start_ (n := 8) (S := fun W' => Chg (fun i => i = r.Mb) Wb W') (ds := []) #[false, false, false, false, false, false, false, false] (by kernel_rfl) rfl rfl (by rw [hWd]; exact HST.out.ch) (fun hHeld => ?_)
      rw [hWd] at hHeld ⊢
      refine with_tabW eatab19 eabits19 (fun HT_ HW_ => ?_)
      refine pure_ (i := 0) (N := some 95) (v := ?_) (a' := ?_) #[true, false, false, false, false, false, false, false] rfl rfl (any_of HT_.out (by kernel_rfl)) (fun _ _ _ h => h) (Or.inl ⟨by rfl, ?_⟩) ?_ ?_
      rotate_left
      · intro w'
        first | (go_simp; with_reducible rfl)
      rotate_left
      · simp only [Act.put, List.setIfInBounds_toArray, List.set_cons_zero, List.set_cons_succ, i64_w, i32_w]
        rfl
      refine pure_ (i := 1) (N := some 96) (v := ?_) (a' := ?_) #[true, true, false, false, false, false, false, false] rfl rfl (any_of HT_.out (by kernel_rfl)) (fun _ _ _ h => h) (Or.inl ⟨by rfl, ?_⟩) ?_ ?_
      rotate_left
      · intro w'
        first | (go_simp; with_reducible rfl)
      rotate_left
      · simp only [Act.put, List.setIfInBounds_toArray, List.set_cons_zero, List.set_cons_succ, i64_w, i32_w]
        rfl
      refine take_ (i := 2) (N := some 97) (v := ?_) (a' := ?_) #[true, true, true, false, false, false, false, false] rfl rfl (take_ofW HT_.out HW_.out (by kernel_rfl)) (fun _ _ _ h => h) (Or.inl ⟨by rfl, ?_⟩) hHeld ?_ ?_
      rotate_left
      · intro w' hw'
        obtain ⟨x0, x1, x2, x3, x4, x5, x6, x7, x8, xc⟩ := HXC.out w' hw'
        first | (go_simp; with_reducible rfl)
      rotate_left
      · simp only [Act.put, List.setIfInBounds_toArray, List.set_cons_zero, List.set_cons_succ, i64_w, i32_w]
        rfl
      refine pure_ (i := 3) (N := some 98) (v := ?_) (a' := ?_) #[true, true, true, true, false, false, false, false] rfl rfl (any_of HT_.out (by kernel_rfl)) (fun _ _ _ h => h) (Or.inl ⟨by rfl, ?_⟩) ?_ ?_
      rotate_left
      · intro w'
        first | (go_simp; with_reducible rfl)
      rotate_left
      · simp only [Act.put, List.setIfInBounds_toArray, List.set_cons_zero, List.set_cons_succ, i64_w, i32_w]
        rfl
      refine take_ (i := 4) (N := some 99) (v := ?_) (a' := ?_) #[true, true, true, true, true, false, false, false] rfl rfl (take_ofW HT_.out HW_.out (by kernel_rfl)) (fun _ _ _ h => h) (Or.inl ⟨by rfl, ?_⟩) hHeld ?_ ?_
      rotate_left
      · intro w' hw'
        obtain ⟨x0, x1, x2, x3, x4, x5, x6, x7, x8, xc⟩ := HXC.out w' hw'
        first | (go_simp; with_reducible rfl)
      rotate_left
      · simp only [Act.put, List.setIfInBounds_toArray, List.set_cons_zero, List.set_cons_succ, i64_w, i32_w]
        rfl
      refine one_ (i := 5) (N := some 100) #[true, true, true, true, true, true, false, false] rfl rfl (one_of HT_.out (by kernel_rfl)) (by decide) (fun K hK => ?_)
      have hwz := HST.out.set.lt
      refine goes_ Try.func73 (by kernel_rfl) rfl #[.string protoS] (by rfl) rfl rfl (by (try simp only [List.map_toArray, List.map_cons, List.map_nil]); first | done | rfl) ?_
      refine (is_calls protoS _).mono ?_
      rintro e W7 ⟨rfl, hw7⟩
      refine ⟨_, rfl, ?_⟩
      have HK7 := Aside0.mk (show W7.cell? ⟨Wd.heap.size, 0, none⟩ = some (.string protoS) by rw [hw7]; exact (cell_of_blk (heap_alloc_new _ _)).1)
      have hlt7 : Wd.heap.size < W7.heap.size := by rw [hw7]; simp
      have HST := Aside0.mk (HST.out.quiet (W' := W7) (by rw [hw7]; exact (Below.refl _ _).alloc (Nat.le_refl _) _))
      clear hw7 hwz
      refine hK.out _ _ HST.out.ch (fun hHeld => ?_)
      clear hK K
      refine norm_ (a' := ?_) ?_ ?_
      rotate_left
      · show Act.put _ (some 100) _ = _
        simp only [Act.put, List.setIfInBounds_toArray, List.set_cons_zero, List.set_cons_succ, i64_w, i32_w]
        rfl
      refine one_ (i := 6) (N := some 101) #[true, true, true, true, true, true, true, false] rfl rfl (one_of HT_.out (by kernel_rfl)) (by decide) (fun K hK => ?_)
      refine goes_ Try.func53 (by kernel_rfl) rfl #[.pointer (some ⟨r.Br, 0, none⟩), .int .i64 c, .func (.func 83) #[] #[.pointer (some ⟨Wd.heap.size, 0, none⟩)]] (by rfl) rfl rfl (by (try simp only [List.map_toArray, List.map_cons, List.map_nil]); first | done | rfl) ?_
      refine (loads_calls (HRO.out.asked HST.out.ch) c 83 #[.pointer (some ⟨Wd.heap.size, 0, none⟩)] (fun k => decide (k = protoS)) (enters_of Try.func83 (by kernel_rfl) rfl) (fun W' hb' s' => is1_calls protoS s' _ W' ((hb'.cell hlt7).trans HK7.out)) HS.out hlen hwc HWL.out).mono ?_
      rintro e W8 ⟨v8, ys8, rfl, hO8, hp8, hb8⟩
      obtain ⟨A8, c8, rfl, hlc8, hcc8⟩ := own_slice3 hO8
      refine ⟨_, rfl, ?_⟩
      have HC8 := Aside0.mk (Kd.R_reads' hO8).2.2
      have HP8 := Aside0.mk hp8
      have HST := Aside0.mk (HST.out.quiet hb8)
      clear hO8 hp8 hb8 hlc8 hcc8
      refine hK.out _ _ HST.out.ch (fun hHeld => ?_)
      clear hK K
      refine norm_ (a' := ?_) ?_ ?_
      rotate_left
      · show Act.put _ (some 101) _ = _
        simp only [Act.put, List.setIfInBounds_toArray, List.set_cons_zero, List.set_cons_succ, i64_w, i32_w]
        rfl
      refine one_ (i := 7) (N := some 102) #[true, true, true, true, true, true, true, true] rfl rfl (one_of HT_.out (by kernel_rfl)) (by decide) (fun K hK => ?_)
      refine goes_ Try.func37 (by kernel_rfl) rfl #[.pointer (some ⟨r.Br, 0, none⟩), .int .i64 4, .int .i64 M, .string ⟨#[]⟩, .slice A8 ys8.length c8] (by rfl) rfl rfl (by (try simp only [List.map_toArray, List.map_cons, List.map_nil]); first | done | rfl) ?_
      refine (st_asks_perm HRO.out HST.out HP8.out HGK.out rfl HC8.out).mono ?_
      rintro e W9 ⟨rfl, hst_, hg_⟩
      refine ⟨_, rfl, ?_⟩
      have HST := Aside0.mk hst_
      have HGK := Aside0.mk hg_
      clear hst_ hg_
      refine hK.out _ _ HST.out.ch (fun hHeld => ?_)
      clear hK K
      refine norm_ (a' := ?_) ?_ ?_
      rotate_left
      · show Act.put _ (some 102) _ = _
        simp only [Act.put, List.setIfInBounds_toArray, List.set_cons_zero, List.set_cons_succ, i64_w, i32_w]
        rfl
      refine done_ (done_of HT_.out (by kernel_rfl)) ?_
      clear hHeld
      obtain ⟨x0, x1, x2, x3, x4, x5, x6, x7, x8, xc⟩ := HXC.out W9 HST.out.ch
      have hlx : W.heap.size + 1 < W9.heap.size := by have := World.block_lt_of_cell? W9 _ xc; simpa using this
      have y3 : (W9.alloc (.cells #[.int .i64 M] 3)).cell? ⟨W.heap.size, 3, none⟩ = some (.int .i64 Y) := by rw [← x3]; exact World.cell?_of_block (Below.heap_alloc _ _ _ (by show W.heap.size < _; omega))
      have y5 : (W9.alloc (.cells #[.int .i64 M] 3)).cell? ⟨W.heap.size, 5, none⟩ = some (.int .i64 N) := by rw [← x5]; exact World.cell?_of_block (Below.heap_alloc _ _ _ (by show W.heap.size < _; omega))
      have y8 : (W9.alloc (.cells #[.int .i64 M] 3)).cell? ⟨W.heap.size, 8, none⟩ = some (.slice Al al.length cl) := by rw [← x8]; exact World.cell?_of_block (Below.heap_alloc _ _ _ (by show W.heap.size < _; omega))
      have yc : (W9.alloc (.cells #[.int .i64 M] 3)).cell? ⟨W.heap.size + 1, 0, none⟩ = some (.int .i64 c) := by rw [← xc]; exact World.cell?_of_block (Below.heap_alloc _ _ _ (by show W.heap.size + 1 < _; omega))
      go_wp2_with fail
      clear x0 x1 x2 x3 x4 x5 x6 x7 x8 xc y3 y5 y8 yc hlx
      have HST := Aside0.mk (HST.out.quiet (W' := W9.alloc (.cells #[.int .i64 M] 3)) (below_alloc (Below.refl _ _) _))
      refine (called_calls HRO.out HST.out ⟨M, [M], al, -1, Y, N⟩ c HGK.out (At := some ⟨W9.heap.size, 0, none⟩) (ct := 1) (C_one (cell_of_blk (heap_alloc_new _ _)).1) (HAR.out _ HST.out.ch) HS.out hlen hfl.2 hs0).mono ?_
      rintro e W9 ⟨rfl, hst_, hg_⟩
      have HST := Aside0.mk hst_
      have HGK := Aside0.mk hg_
      clear hst_ hg_
      go_wp2
      go_end0
      have e : L ++ eachL r ⟨9, F, X, Y, Z, N, M, s, al⟩ c = L ++ askL 9 Y noS [M] ++ askL 4 M noS [0] ++ askL 4 M noS (loadsL r.l (fun k => decide (k = protoS)) c) ++ callL r ⟨M, [M], al, -1, Y, N⟩ c := by
        rw [HEQ.out]
        simp only [List.append_assoc]
      rw [e]
      exact ⟨rfl, HST.out.rebase HCH.out, HGK.out⟩
    · have hB' : isFunB r.fs c = false := by simpa using hB
      have HEQ := Aside0.mk (show eachL r ⟨9, F, X, Y, Z, N, M, s, al⟩ c = [] by simp [eachL, hB'])
      rw [hB']
      clear hB hB'
      go_wp2
      refine bodyPost_ret (results_none (by rfl) _ _ _) rfl ?_
      rw [HEQ.out, List.append_nil]
      refine ⟨rfl, HST.out.rebase HCH.out, ?_⟩
      have h9 := HG.out
      rw [HEQ.out, List.nil_append] at h9
      exact h9
  have hk4 : (k == 4) = false := by simp [h4]
  have hk5 : (k == 5) = false := by simp [h5]
  have hk6 : (k == 6) = false := by simp [h6]
  have hk7 : (k == 7) = false := by simp [h7]
  have hk8 : (k == 8) = false := by simp [h8]
  have hk9 : (k == 9) = false := by simp [h9]
  have HEQ := Aside0.mk (show eachL r ⟨k, F, X, Y, Z, N, M, s, al⟩ c = [] by simp [eachL, h4, h5, h6, h7, h8, h9])
  clear h4 h5 h6 h7 h8 h9
  go_wp2
  go_end0
  rw [HEQ.out, List.append_nil]
  refine ⟨rfl, ?_, ?_⟩
  · rw [← HWB.out]
    exact HST.out.rebase HCH.out
  · have h9 := HG.out
    rw [HEQ.out, List.nil_append] at h9
    exact h9
end Go.Proofs.Ytngppcmdaanheaa.Ls

/- least.rounder.rule. No condition. -/
namespace Go.Proofs.Ytngppcmdaanheaa.Ls
open Go.RowKit Go.Maps Go.Proofs.Ytngppcmdaanheaa.Iter Go.Proofs.Ytngppcmdaanheaa.ISet Go.Proofs.Ytngppcmdaanheaa.Pr Go.Proofs.Ytngppcmdaanheaa.Ext Go.Proofs.YtngppcmdaanheaaW.PrintWords Go.Proofs.YtngppcmdaanheaaW.PrintLast Go.Proofs.YtngppcmdaanheaaW.PrintMore
set_option linter.unusedVariables false
set_option linter.unusedSimpArgs false
attribute [local go_sem] Oper.semAt_some
def ruT6 : Bool × List (List Nat × List Nat) := (true, [([], []), ([0], [0]), ([1], [1]), ([2], [2]), ([3], [3]), ([], []), ([5], [5]), ([4, 6], [4, 6]), ([7], [7]), ([8], [8]), ([9, 0, 1, 2, 3, 4, 5, 6, 7, 8, 9], [9])])
def ruB6 : List Nat := [0, 1, 3, 7, 15, 0, 32, 127, 255, 511, 1023]
theorem rutab6 : rtab .any (opsOf Try.f39 6) = ruT6 := by kernel_rfl
theorem rubits6 : waitsOk ruT6.2 ruB6 = true := by kernel_rfl
def ruT12 : Bool × List (List Nat × List Nat) := (true, [([], []), ([], []), ([1], [1]), ([], []), ([], []), ([4], [4]), ([3, 5], [3, 5]), ([0, 2, 6, 6], [0, 2, 6])])
def ruB12 : List Nat := [0, 0, 2, 0, 0, 16, 56, 127]
theorem rutab12 : rtab .any (opsOf Try.f39 12) = ruT12 := by kernel_rfl
theorem rubits12 : waitsOk ruT12.2 ruB12 = true := by kernel_rfl
theorem rd_mem (xs : List Int) (j : Nat) (h : j < xs.length) : rd xs (j : Int) ∈ xs := by
  unfold rd
  rw [Int.toNat_natCast, List.getD_eq_getElem?_getD, List.getElem?_eq_getElem h]
  exact List.getElem_mem h
theorem wf_bs {l : List Fa} (h : ∀ f ∈ l, wfI f.f3) (kind a : Int) {x : Int} (hx : x ∈ bsL l kind a) : wfI x := by
  unfold bsL toldR at hx
  obtain ⟨f, hf, rfl⟩ := List.mem_map.1 hx
  exact h f (List.mem_filter.1 hf).1
def markOf (r : Ro) (x : RuT) : Int := (rd_T44 r.fs x.f5).f0
def headL (r : Ro) (x : RuT) : List Fa :=
  if x.f0 = 1 then askL 9 x.f2 noS [x.f6] ++ askL 4 x.f6 noS [0]
  else if x.f0 = 2 then askL 9 x.f2 noS [markOf r x] ++ (askL 3 (markOf r x) protoS [markOf r x + 1] ++ (askL 4 (markOf r x) noS [1] ++ askL 4 (markOf r x + 1) noS [0]))
  else if x.f0 = 3 then askL 9 x.f3 noS (bsL r.l 9 x.f2)
  else []
def ruleL (r : Ro) (x : RuT) : List Fa := headL r x ++ rg (bsL r.l 9 x.f2).length (fun i => eachL r x (rd (bsL r.l 9 x.f2) (i : Int)))
def RuAt (W : World) (b : Nat) (k F X Y Z N M : Int) (s : ByteArray) (n : Nat) (A : Option Addr) (ca : Nat) : Prop :=
  W.cell? ⟨b, 0, none⟩ = some (.int .i64 k) ∧ W.cell? ⟨b, 1, none⟩ = some (.int .i64 F) ∧ W.cell? ⟨b, 2, none⟩ = some (.int .i64 X) ∧ W.cell? ⟨b, 3, none⟩ = some (.int .i64 Y) ∧ W.cell? ⟨b, 4, none⟩ = some (.int .i64 Z) ∧ W.cell? ⟨b, 5, none⟩ = some (.int .i64 N) ∧ W.cell? ⟨b, 6, none⟩ = some (.int .i64 M) ∧ W.cell? ⟨b, 7, none⟩ = some (.string s) ∧ W.cell? ⟨b, 8, none⟩ = some (.slice A n ca)
set_option maxHeartbeats 16000000 in
set_option maxRecDepth 100000 in
theorem rule_calls {r : Ro} {w0 W1 W : World} {n : Nat} {S : Fa → Bool} {L R : List Fa} (h : RoAt r w0 W1) (hst : StA r n S L W1 W) (x : RuT) (hg : Good n (L ++ (ruleL r x ++ R)))
    {Al : Option Addr} {cl : Nat} (hargs : Kd.C (Kd.int .i64) W Al x.f8.length x.f8) (hsort : r.l.Pairwise LF) (hlen : r.l.length ≤ 900000) (hfl : 1 ≤ r.fs.length ∧ r.fs.length ≤ 1000000) (hfc : r.fs.length ≤ r.c1) (hs0 : 0 ≤ r.s0 ∧ r.s0 ≤ 1000000000) (hwl : ∀ f ∈ r.l, wfI f.f3)
    (hN : x.f0 = 2 → 0 ≤ x.f5 ∧ x.f5 < r.fs.length ∧ 0 ≤ markOf r x ∧ markOf r x ≤ 1000000) :
    Calls Try.prog 39 #[.pointer (some ⟨r.Br, 0, none⟩), .agg (ruCells x Al cl)] W fun e W' => e = .returned (.tuple #[]) ∧ StA r n S (L ++ ruleL r x) W1 W' ∧ Good n ((L ++ ruleL r x) ++ R) := by
  obtain ⟨k, F, X, Y, Z, N, M, s, al⟩ := x
  obtain ⟨Wb, hWb⟩ : ∃ Wb, Wb = W.alloc (.cells (ruCells ⟨k, F, X, Y, Z, N, M, s, al⟩ Al cl) 46) := ⟨_, rfl⟩
  have hbb : Below W.heap.size W Wb := by rw [hWb]; exact below_alloc (Below.refl _ W) _
  have hstb := (hst.quiet hbb).here
  have hroB : RoAt r w0 Wb := (h.asked hst.ch).quiet hbb
  have hnb : Wb.heap[W.heap.size]? = some (.cells (ruCells ⟨k, F, X, Y, Z, N, M, s, al⟩ Al cl) 46 (0, 0)) := by rw [hWb]; exact heap_alloc_new _ _
  have hMb : FSet Wb r.Mb (n + L.length) (addS S L) := hstb.set
  have HXC := Aside0.mk (show ∀ W', Chg (fun i => i = r.Mb) Wb W' → RuAt W' W.heap.size k F X Y Z N M s al.length Al cl from fun W' hc => by
    have hc' : ∀ j v, (ruCells ⟨k, F, X, Y, Z, N, M, s, al⟩ Al cl)[j]? = some v → W'.cell? ⟨W.heap.size, j, none⟩ = some v := fun j v hv => cell_map hMb hc (by simp [World.cell?, hnb, hv])
    exact ⟨hc' 0 _ rfl, hc' 1 _ rfl, hc' 2 _ rfl, hc' 3 _ rfl, hc' 4 _ rfl, hc' 5 _ rfl, hc' 6 _ rfl, hc' 7 _ rfl, hc' 8 _ rfl⟩)
  obtain ⟨A1v, hA1v⟩ : ∃ A, r.A1 = A := ⟨_, rfl⟩
  have HA1V := Aside0.mk hA1v
  have HRC := Aside0.mk (show ∀ W', Chg (fun i => i = r.Mb) Wb W' → W'.cell? ⟨r.Br, 1, none⟩ = some (.slice A1v r.fs.length r.c1) from fun W' hc => by rw [← hA1v]; exact (hroB.asked hc).cell 1)
  clear hA1v
  have HAR := Aside0.mk (show ∀ W', Chg (fun i => i = r.Mb) Wb W' → Kd.C (Kd.int .i64) W' Al al.length al from fun W' hc => intC_map hMb hc (Kd.C_below hargs hbb))
  have HRO := Aside0.mk hroB
  have HST := Aside0.mk hstb
  have HMB := Aside0.mk hMb
  have HS := Aside0.mk hsort
  have HWL := Aside0.mk hwl
  have HCH := Aside0.mk (show Chg (fun i => i = r.Mb) W1 Wb from hst.ch.then_below hbb)
  have HG := Aside0.mk hg
  have HN := Aside0.mk hN
  clear h hst hg hargs hsort hstb hroB hMb hnb hbb hwl hN
  go_enter Try.func39, Try.ntmps39
  obtain ⟨x0, x1, x2, x3, x4, x5, x6, x7, x8⟩ := HXC.out Wb HST.out.ch
  rw [hWb] at x0 x1 x2 x3 x4 x5 x6 x7 x8
  have HWB := Aside0.mk hWb
  clear hWb
  by_cases h1 : k = 1
  · subst h1
    have HEQ := Aside0.mk (show ruleL r ⟨1, F, X, Y, Z, N, M, s, al⟩ = (askL 9 X noS [M] ++ askL 4 M noS [0]) ++ rg (bsL r.l 9 X).length (fun i => eachL r ⟨1, F, X, Y, Z, N, M, s, al⟩ (rd (bsL r.l 9 X) (i : Int))) from rfl)
    have HGK := Aside0.mk (show Good n (L ++ (askL 9 X noS [M] ++ (askL 4 M noS [0] ++ (rg (bsL r.l 9 X).length (fun i => eachL r ⟨1, F, X, Y, Z, N, M, s, al⟩ (rd (bsL r.l 9 X) (i : Int))) ++ R)))) by
      have h9 := HG.out
      rw [HEQ.out] at h9
      simpa only [List.append_assoc] using h9)
    go_wp2_with fail
    rw [← HWB.out]
    clear x0 x1 x2 x3 x4 x5 x6 x7 x8
    refine (st_ask1 HRO.out HST.out HGK.out (by rw [HWB.out]; simp)).mono ?_
    rintro e W2 ⟨rfl, hst_, hg_⟩
    have HST := Aside0.mk hst_
    have HGK := Aside0.mk hg_
    clear hst_ hg_ HWB
    obtain ⟨x0, x1, x2, x3, x4, x5, x6, x7, x8⟩ := HXC.out W2 HST.out.ch
    go_wp2_with fail
    clear x0 x1 x2 x3 x4 x5 x6 x7 x8
    refine (st_ask1 HRO.out HST.out HGK.out rfl).mono ?_
    rintro e W3 ⟨rfl, hst_, hg_⟩
    have HST := Aside0.mk hst_
    have HGK := Aside0.mk hg_
    clear hst_ hg_
    obtain ⟨x0, x1, x2, x3, x4, x5, x6, x7, x8⟩ := HXC.out W3 HST.out.ch
    go_wp2_with fail
    clear x0 x1 x2 x3 x4 x5 x6 x7 x8
    refine (st_in HRO.out HST.out X HS.out hlen).mono ?_
    rintro e Wi ⟨Ai, ci, rfl, hC_, hst_⟩
    have HCI := Aside0.mk hst_.ch
    have HBI := Aside0.mk (show ∀ W', Chg (fun i => i = r.Mb) Wi W' → Kd.C (Kd.int .i64) W' Ai (bsL r.l 9 X).length (bsL r.l 9 X) from fun W' hc => intC_map hst_.set hc hC_)
    have HROI := Aside0.mk (HRO.out.asked hst_.ch)
    obtain ⟨Lc, hLc⟩ : ∃ Lc, Lc = L ++ askL 9 X noS [M] ++ askL 4 M noS [0] := ⟨_, rfl⟩
    have HST4 := Aside0.mk (show StA r n S Lc Wi Wi by rw [hLc]; exact hst_.here)
    have HG4 := Aside0.mk (show Good n (Lc ++ (rg (bsL r.l 9 X).length (fun i => eachL r ⟨1, F, X, Y, Z, N, M, s, al⟩ (rd (bsL r.l 9 X) (i : Int))) ++ R)) by rw [hLc]; exact HGK.out)
    have HLC := Aside0.mk hLc
    have hbl : (bsL r.l 9 X).length ≤ 900000 := Nat.le_trans (bsL_le _ _ _) hlen
    clear hLc HST HGK hst_ hC_
    go_wp2
    generalize hF : (fun i : Nat => eachL r ⟨1, F, X, Y, Z, N, M, s, al⟩ (rd (bsL r.l 9 X) (i : Int))) = EF at *
    have HF := Aside0.mk hF
    clear hF
    go_loopg [6, 71] (bsL r.l 9 X).length (fun jq v6 v71 W_ => ∃ j : Nat, v71 = .int .i64 j ∧ j + jq = (bsL r.l 9 X).length ∧ StA r n S (Lc ++ rg j EF) Wi W_)
    case atStart => exact ⟨0, rfl, by omega, by rw [rg_zero, List.append_nil]; exact HST4.out⟩
    case round =>
      clear HST4
      obtain ⟨j, rfl, hj, hst⟩ := hrel
      have HST := Aside0.mk hst
      clear hst
      by_cases hla : j < (bsL r.l 9 X).length
      · have HGK := Aside0.mk (HG4.out.loop hla)
        have HPK := Aside0.mk (show EF j = eachL r ⟨1, F, X, Y, Z, N, M, s, al⟩ (rd (bsL r.l 9 X) (j : Int)) by rw [← HF.out])
        have HRJ := Aside0.mk (rg_succ j EF)
        have hwc := wf_bs HWL.out 9 X (rd_mem (bsL r.l 9 X) j hla)
        obtain ⟨ad3, rfl, hp3⟩ := Kd.at_int (HBI.out _ HST.out.ch) (j : Int) (by omega) (by omega)
        rw [Int.toNat_natCast] at hp3
        generalize rd (bsL r.l 9 X) (j : Int) = av at *
        generalize EF j = PJ at *
        rw [HPK.out] at HGK
        obtain ⟨x0, x1, x2, x3, x4, x5, x6, x7, x8⟩ := HXC.out wr (HCI.out.then_ HST.out.ch)
        go_wp2_with fail
        clear x0 x1 x2 x3 x4 x5 x6 x7 x8
        refine (each_calls HROI.out HST.out ⟨1, F, X, Y, Z, N, M, s, al⟩ av HGK.out (HAR.out _ (HCI.out.then_ HST.out.ch)) HS.out hlen hfl hfc hs0 hwc HWL.out).mono ?_
        rintro e W6 ⟨rfl, hst_, hg_⟩
        have HST := Aside0.mk hst_
        clear hst_ hg_
        go_wp2
        go_roundg (gk - 1)
        case measure => omega
        case rel => exact ⟨j + 1, by go_num, by omega, by rw [HRJ.out, HPK.out, ← List.append_assoc]; exact HST.out⟩
      · obtain rfl : j = (bsL r.l 9 X).length := by omega
        have HGK := Aside0.mk (HG4.out.next)
        clear HG4
        go_wp2
        go_end0
        have e : L ++ ruleL r ⟨1, F, X, Y, Z, N, M, s, al⟩ = Lc ++ rg (bsL r.l 9 X).length EF := by
          rw [HEQ.out, HLC.out, ← HF.out]
          simp only [List.append_assoc, List.nil_append, List.append_nil]
        rw [e]
        exact ⟨rfl, (HST.out.rebase HCI.out).rebase HCH.out, HGK.out⟩
  by_cases h2 : k = 2
  · subst h2
    obtain ⟨hn0, hn1, hm0, hm1⟩ := HN.out rfl
    obtain ⟨ad1, A1_, c1_, hA1, hd0, hd1, hd2, hd3, hd4, hpl, hpc⟩ := at_T44 (Kd.C_below HRO.out.hf HRO.out.bel) N hn0 hn1
    obtain rfl : A1v = some ad1 := HA1V.out.symm.trans hA1
    have HFM := Aside0.mk (show ∀ W', Chg (fun i => i = r.Mb) Wb W' → W'.cell? (ad1.add (N.toNat * 5)) = some (.int .i64 (markOf r ⟨2, F, X, Y, Z, N, M, s, al⟩)) from fun W' hc => cell_map HMB.out hc hd0)
    clear hA1 hd0 hd1 hd2 hd3 hd4 hpl hpc HN
    have HEQ := Aside0.mk (show ruleL r ⟨2, F, X, Y, Z, N, M, s, al⟩ = (askL 9 X noS [markOf r ⟨2, F, X, Y, Z, N, M, s, al⟩] ++ (askL 3 (markOf r ⟨2, F, X, Y, Z, N, M, s, al⟩) protoS [markOf r ⟨2, F, X, Y, Z, N, M, s, al⟩ + 1] ++ (askL 4 (markOf r ⟨2, F, X, Y, Z, N, M, s, al⟩) noS [1] ++ askL 4 (markOf r ⟨2, F, X, Y, Z, N, M, s, al⟩ + 1) noS [0]))) ++ rg (bsL r.l 9 X).length (fun i => eachL r ⟨2, F, X, Y, Z, N, M, s, al⟩ (rd (bsL r.l 9 X) (i : Int))) from rfl)
    generalize markOf r ⟨2, F, X, Y, Z, N, M, s, al⟩ = m at *
    have HGK := Aside0.mk (show Good n (L ++ (askL 9 X noS [m] ++ (askL 3 m protoS [m + 1] ++ (askL 4 m noS [1] ++ (askL 4 (m + 1) noS [0] ++ (rg (bsL r.l 9 X).length (fun i => eachL r ⟨2, F, X, Y, Z, N, M, s, al⟩ (rd (bsL r.l 9 X) (i : Int))) ++ R)))))) by
      have h9 := HG.out
      rw [HEQ.out] at h9
      simpa only [List.append_assoc] using h9)
    have hw1 : wrap64 (m + 1) = m + 1 := by unfold wrap64; omega
    go_wp2
    rw [← HWB.out]
    clear x0 x1 x2 x3 x4 x5 x6 x7 x8 HWB
    obtain ⟨Wd, hWd⟩ : ∃ Wd, Wb.drew = Wd := ⟨_, rfl⟩
    have HST := Aside0.mk (HST.out.quiet (W' := Wd) (by rw [← hWd]; exact below_drew (Below.refl _ _)))
    refine start_ (n := 11) (S := fun W' => Chg (fun i => i = r.Mb) Wb W') (ds := []) #[false, false, false, false, false, false, false, false, false, false, false] (by kernel_rfl) rfl rfl (by rw [hWd]; exact HST.out.ch) (fun hHeld => ?_)
    rw [hWd] at hHeld ⊢
    refine with_tabW rutab6 rubits6 (fun HT_ HW_ => ?_)
    refine pure_ (i := 0) (N := some 25) (v := ?_) (a' := ?_) #[true, false, false, false, false, false, false, false, false, false, false] rfl rfl (any_of HT_.out (by kernel_rfl)) (fun _ _ _ h => h) (Or.inl ⟨by rfl, ?_⟩) ?_ ?_
    rotate_left
    · intro w'
      first | (go_simp; with_reducible rfl)
    rotate_left
    · simp only [Act.put, List.setIfInBounds_toArray, List.set_cons_zero, List.set_cons_succ, i64_w, i32_w]
      rfl
    refine pure_ (i := 1) (N := some 26) (v := ?_) (a' := ?_) #[true, true, false, false, false, false, false, false, false, false, false] rfl rfl (any_of HT_.out (by kernel_rfl)) (fun _ _ _ h => h) (Or.inl ⟨by rfl, ?_⟩) ?_ ?_
    rotate_left
    · intro w'
      first | (go_simp; with_reducible rfl)
    rotate_left
    · simp only [Act.put, List.setIfInBounds_toArray, List.set_cons_zero, List.set_cons_succ, i64_w, i32_w]
      rfl
    refine pure_ (i := 2) (N := some 27) (v := ?_) (a' := ?_) #[true, true, true, false, false, false, false, false, false, false, false] rfl rfl (any_of HT_.out (by kernel_rfl)) (fun _ _ _ h => h) (Or.inl ⟨by rfl, ?_⟩) ?_ ?_
    rotate_left
    · intro w'
      first | (go_simp; with_reducible rfl)
    rotate_left
    · simp only [Act.put, List.setIfInBounds_toArray, List.set_cons_zero, List.set_cons_succ, i64_w, i32_w]
      rfl
    refine pure_ (i := 3) (N := some 28) (v := ?_) (a' := ?_) #[true, true, true, true, false, false, false, false, false, false, false] rfl rfl (any_of HT_.out (by kernel_rfl)) (fun _ _ _ h => h) (Or.inl ⟨by rfl, ?_⟩) ?_ ?_
    rotate_left
    · intro w'
      first | (go_simp; with_reducible rfl)
    rotate_left
    · simp only [Act.put, List.setIfInBounds_toArray, List.set_cons_zero, List.set_cons_succ, i64_w, i32_w]
      rfl
    refine take_ (i := 4) (N := some 29) (v := ?_) (a' := ?_) #[true, true, true, true, true, false, false, false, false, false, false] rfl rfl (take_ofW HT_.out HW_.out (by kernel_rfl)) (fun _ _ _ h => h) (Or.inl ⟨by rfl, ?_⟩) hHeld ?_ ?_
    rotate_left
    · intro w' hw'
      have d1 := HRC.out w' hw'
      first | (go_simp; with_reducible rfl)
    rotate_left
    · simp only [Act.put, List.setIfInBounds_toArray, List.set_cons_zero, List.set_cons_succ, i64_w, i32_w]
      rfl
    refine pure_ (i := 5) (N := some 30) (v := ?_) (a' := ?_) #[true, true, true, true, true, true, false, false, false, false, false] rfl rfl (any_of HT_.out (by kernel_rfl)) (fun _ _ _ h => h) (Or.inl ⟨by rfl, ?_⟩) ?_ ?_
    rotate_left
    · intro w'
      first | (go_simp; with_reducible rfl)
    rotate_left
    · simp only [Act.put, List.setIfInBounds_toArray, List.set_cons_zero, List.set_cons_succ, i64_w, i32_w]
      rfl
    refine take_ (i := 6) (N := some 31) (v := ?_) (a' := ?_) #[true, true, true, true, true, true, true, false, false, false, false] rfl rfl (take_ofW HT_.out HW_.out (by kernel_rfl)) (fun _ _ _ h => h) (Or.inl ⟨by rfl, ?_⟩) hHeld ?_ ?_
    rotate_left
    · intro w' hw'
      obtain ⟨x0, x1, x2, x3, x4, x5, x6, x7, x8⟩ := HXC.out w' hw'
      first | (go_simp; with_reducible rfl)
    rotate_left
    · simp only [Act.put, List.setIfInBounds_toArray, List.set_cons_zero, List.set_cons_succ, i64_w, i32_w]
      rfl
    refine pure_ (i := 7) (N := some 32) (v := ?_) (a' := ?_) #[true, true, true, true, true, true, true, true, false, false, false] rfl rfl (any_of HT_.out (by kernel_rfl)) (fun _ _ _ h => h) (Or.inl ⟨by rfl, ?_⟩) ?_ ?_
    rotate_left
    · intro w'
      first | (go_simp; with_reducible rfl)
    rotate_left
    · simp only [Act.put, List.setIfInBounds_toArray, List.set_cons_zero, List.set_cons_succ, i64_w, i32_w]
      rfl
    refine pure_ (i := 8) (N := some 33) (v := ?_) (a' := ?_) #[true, true, true, true, true, true, true, true, true, false, false] rfl rfl (any_of HT_.out (by kernel_rfl)) (fun _ _ _ h => h) (Or.inl ⟨by rfl, ?_⟩) ?_ ?_
    rotate_left
    · intro w'
      first | (go_simp; with_reducible rfl)
    rotate_left
    · simp only [Act.put, List.setIfInBounds_toArray, List.set_cons_zero, List.set_cons_succ, i64_w, i32_w]
      rfl
    refine take_ (i := 9) (N := some 34) (v := ?_) (a' := ?_) #[true, true, true, true, true, true, true, true, true, true, false] rfl rfl (take_ofW HT_.out HW_.out (by kernel_rfl)) (fun _ _ _ h => h) (Or.inl ⟨by rfl, ?_⟩) hHeld ?_ ?_
    rotate_left
    · intro w' hw'
      have d4 := HFM.out w' hw'
      first | (go_simp; with_reducible rfl)
    rotate_left
    · simp only [Act.put, List.setIfInBounds_toArray, List.set_cons_zero, List.set_cons_succ, i64_w, i32_w]
      rfl
    refine pure_ (i := 10) (N := some 4) (v := ?_) (a' := ?_) #[true, true, true, true, true, true, true, true, true, true, true] rfl rfl (any_of HT_.out (by kernel_rfl)) (fun _ _ _ h => h) (Or.inl ⟨by rfl, ?_⟩) ?_ ?_
    rotate_left
    · intro w'
      first | (go_simp; with_reducible rfl)
    rotate_left
    · simp only [Act.put, List.setIfInBounds_toArray, List.set_cons_zero, List.set_cons_succ, i64_w, i32_w]
      rfl
    refine done_ (done_of HT_.out (by kernel_rfl)) ?_
    clear hHeld
    obtain ⟨x0, x1, x2, x3, x4, x5, x6, x7, x8⟩ := HXC.out Wd HST.out.ch
    go_wp2_with fail
    clear x0 x1 x2 x3 x4 x5 x6 x7 x8
    refine (st_ask1 HRO.out HST.out HGK.out rfl).mono ?_
    rintro e W2 ⟨rfl, hst_, hg_⟩
    have HST := Aside0.mk hst_
    have HGK := Aside0.mk hg_
    clear hst_ hg_
    obtain ⟨x0, x1, x2, x3, x4, x5, x6, x7, x8⟩ := HXC.out W2 HST.out.ch
    go_wp2_with fail
    clear x0 x1 x2 x3 x4 x5 x6 x7 x8
    refine (st_ask1 HRO.out HST.out HGK.out rfl).mono ?_
    rintro e W3 ⟨rfl, hst_, hg_⟩
    have HST := Aside0.mk hst_
    have HGK := Aside0.mk hg_
    clear hst_ hg_
    obtain ⟨x0, x1, x2, x3, x4, x5, x6, x7, x8⟩ := HXC.out W3 HST.out.ch
    go_wp2_with fail
    clear x0 x1 x2 x3 x4 x5 x6 x7 x8
    refine (st_ask1 HRO.out HST.out HGK.out rfl).mono ?_
    rintro e W4 ⟨rfl, hst_, hg_⟩
    have HST := Aside0.mk hst_
    have HGK := Aside0.mk hg_
    clear hst_ hg_
    obtain ⟨x0, x1, x2, x3, x4, x5, x6, x7, x8⟩ := HXC.out W4 HST.out.ch
    go_wp2_with fail
    clear x0 x1 x2 x3 x4 x5 x6 x7 x8
    refine (st_ask1 HRO.out HST.out HGK.out rfl).mono ?_
    rintro e W5 ⟨rfl, hst_, hg_⟩
    have HST := Aside0.mk hst_
    have HGK := Aside0.mk hg_
    clear hst_ hg_
    obtain ⟨x0, x1, x2, x3, x4, x5, x6, x7, x8⟩ := HXC.out W5 HST.out.ch
    go_wp2_with fail
    clear x0 x1 x2 x3 x4 x5 x6 x7 x8
    refine (st_in HRO.out HST.out X HS.out hlen).mono ?_
    rintro e Wi ⟨Ai, ci, rfl, hC_, hst_⟩
    have HCI := Aside0.mk hst_.ch
    have HBI := Aside0.mk (show ∀ W', Chg (fun i => i = r.Mb) Wi W' → Kd.C (Kd.int .i64) W' Ai (bsL r.l 9 X).length (bsL r.l 9 X) from fun W' hc => intC_map hst_.set hc hC_)
    have HROI := Aside0.mk (HRO.out.asked hst_.ch)
    obtain ⟨Lc, hLc⟩ : ∃ Lc, Lc = L ++ askL 9 X noS [m] ++ askL 3 m protoS [m + 1] ++ askL 4 m noS [1] ++ askL 4 (m + 1) noS [0] := ⟨_, rfl⟩
    have HST4 := Aside0.mk (show StA r n S Lc Wi Wi by rw [hLc]; exact hst_.here)
    have HG4 := Aside0.mk (show Good n (Lc ++ (rg (bsL r.l 9 X).length (fun i => eachL r ⟨2, F, X, Y, Z, N, M, s, al⟩ (rd (bsL r.l 9 X) (i : Int))) ++ R)) by rw [hLc]; exact HGK.out)
    have HLC := Aside0.mk hLc
    have hbl : (bsL r.l 9 X).length ≤ 900000 := Nat.le_trans (bsL_le _ _ _) hlen
    clear hLc HST HGK hst_ hC_
    go_wp2
    generalize hF : (fun i : Nat => eachL r ⟨2, F, X, Y, Z, N, M, s, al⟩ (rd (bsL r.l 9 X) (i : Int))) = EF at *
    have HF := Aside0.mk hF
    clear hF
    go_loopg [6, 71] (bsL r.l 9 X).length (fun jq v6 v71 W_ => ∃ j : Nat, v71 = .int .i64 j ∧ j + jq = (bsL r.l 9 X).length ∧ StA r n S (Lc ++ rg j EF) Wi W_)
    case atStart => exact ⟨0, rfl, by omega, by rw [rg_zero, List.append_nil]; exact HST4.out⟩
    case round =>
      clear HST4
      obtain ⟨j, rfl, hj, hst⟩ := hrel
      have HST := Aside0.mk hst
      clear hst
      by_cases hla : j < (bsL r.l 9 X).length
      · have HGK := Aside0.mk (HG4.out.loop hla)
        have HPK := Aside0.mk (show EF j = eachL r ⟨2, F, X, Y, Z, N, M, s, al⟩ (rd (bsL r.l 9 X) (j : Int)) by rw [← HF.out])
        have HRJ := Aside0.mk (rg_succ j EF)
        have hwc := wf_bs HWL.out 9 X (rd_mem (bsL r.l 9 X) j hla)
        obtain ⟨ad3, rfl, hp3⟩ := Kd.at_int (HBI.out _ HST.out.ch) (j : Int) (by omega) (by omega)
        rw [Int.toNat_natCast] at hp3
        generalize rd (bsL r.l 9 X) (j : Int) = av at *
        generalize EF j = PJ at *
        rw [HPK.out] at HGK
        obtain ⟨x0, x1, x2, x3, x4, x5, x6, x7, x8⟩ := HXC.out wr (HCI.out.then_ HST.out.ch)
        go_wp2_with fail
        clear x0 x1 x2 x3 x4 x5 x6 x7 x8
        refine (each_calls HROI.out HST.out ⟨2, F, X, Y, Z, N, M, s, al⟩ av HGK.out (HAR.out _ (HCI.out.then_ HST.out.ch)) HS.out hlen hfl hfc hs0 hwc HWL.out).mono ?_
        rintro e W6 ⟨rfl, hst_, hg_⟩
        have HST := Aside0.mk hst_
        clear hst_ hg_
        go_wp2
        go_roundg (gk - 1)
        case measure => omega
        case rel => exact ⟨j + 1, by go_num, by omega, by rw [HRJ.out, HPK.out, ← List.append_assoc]; exact HST.out⟩
      · obtain rfl : j = (bsL r.l 9 X).length := by omega
        have HGK := Aside0.mk (HG4.out.next)
        clear HG4
        go_wp2
        go_end0
        have e : L ++ ruleL r ⟨2, F, X, Y, Z, N, M, s, al⟩ = Lc ++ rg (bsL r.l 9 X).length EF := by
          rw [HEQ.out, HLC.out, ← HF.out]
          simp only [List.append_assoc, List.nil_append, List.append_nil]
        rw [e]
        exact ⟨rfl, (HST.out.rebase HCI.out).rebase HCH.out, HGK.out⟩
  by_cases h3 : k = 3
  · subst h3
    have HEQ := Aside0.mk (show ruleL r ⟨3, F, X, Y, Z, N, M, s, al⟩ = askL 9 Y noS (bsL r.l 9 X) ++ rg (bsL r.l 9 X).length (fun i => eachL r ⟨3, F, X, Y, Z, N, M, s, al⟩ (rd (bsL r.l 9 X) (i : Int))) from rfl)
    have HGK := Aside0.mk (show Good n (L ++ (askL 9 Y noS (bsL r.l 9 X) ++ (rg (bsL r.l 9 X).length (fun i => eachL r ⟨3, F, X, Y, Z, N, M, s, al⟩ (rd (bsL r.l 9 X) (i : Int))) ++ R))) by
      have h9 := HG.out
      rw [HEQ.out] at h9
      simpa only [List.append_assoc] using h9)
    go_wp2
    rw [← HWB.out]
    clear x0 x1 x2 x3 x4 x5 x6 x7 x8 HWB
    obtain ⟨Wd, hWd⟩ : ∃ Wd, Wb.drew = Wd := ⟨_, rfl⟩
    have HST := Aside0.mk (HST.out.quiet (W' := Wd) (by rw [← hWd]; exact below_drew (Below.refl _ _)))
    refine start_ (n := 8) (S := fun W' => Chg (fun i => i = r.Mb) Wb W') (ds := []) #[false, false, false, false, false, false, false, false] (by kernel_rfl) rfl rfl (by rw [hWd]; exact HST.out.ch) (fun hHeld => ?_)
    rw [hWd] at hHeld ⊢
    refine with_tabW rutab12 rubits12 (fun HT_ HW_ => ?_)
    refine pure_ (i := 0) (N := some 58) (v := ?_) (a' := ?_) #[true, false, false, false, false, false, false, false] rfl rfl (any_of HT_.out (by kernel_rfl)) (fun _ _ _ h => h) (Or.inl ⟨by rfl, ?_⟩) ?_ ?_
    rotate_left
    · intro w'
      first | (go_simp; with_reducible rfl)
    rotate_left
    · simp only [Act.put, List.setIfInBounds_toArray, List.set_cons_zero, List.set_cons_succ, i64_w, i32_w]
      rfl
    refine pure_ (i := 1) (N := some 59) (v := ?_) (a' := ?_) #[true, true, false, false, false, false, false, false] rfl rfl (any_of HT_.out (by kernel_rfl)) (fun _ _ _ h => h) (Or.inl ⟨by rfl, ?_⟩) ?_ ?_
    rotate_left
    · intro w'
      first | (go_simp; with_reducible rfl)
    rotate_left
    · simp only [Act.put, List.setIfInBounds_toArray, List.set_cons_zero, List.set_cons_succ, i64_w, i32_w]
      rfl
    refine take_ (i := 2) (N := some 60) (v := ?_) (a' := ?_) #[true, true, true, false, false, false, false, false] rfl rfl (take_ofW HT_.out HW_.out (by kernel_rfl)) (fun _ _ _ h => h) (Or.inl ⟨by rfl, ?_⟩) hHeld ?_ ?_
    rotate_left
    · intro w' hw'
      obtain ⟨x0, x1, x2, x3, x4, x5, x6, x7, x8⟩ := HXC.out w' hw'
      first | (go_simp; with_reducible rfl)
    rotate_left
    · simp only [Act.put, List.setIfInBounds_toArray, List.set_cons_zero, List.set_cons_succ, i64_w, i32_w]
      rfl
    refine pure_ (i := 3) (N := some 61) (v := ?_) (a' := ?_) #[true, true, true, true, false, false, false, false] rfl rfl (any_of HT_.out (by kernel_rfl)) (fun _ _ _ h => h) (Or.inl ⟨by rfl, ?_⟩) ?_ ?_
    rotate_left
    · intro w'
      first | (go_simp; with_reducible rfl)
    rotate_left
    · simp only [Act.put, List.setIfInBounds_toArray, List.set_cons_zero, List.set_cons_succ, i64_w, i32_w]
      rfl
    refine pure_ (i := 4) (N := some 62) (v := ?_) (a' := ?_) #[true, true, true, true, true, false, false, false] rfl rfl (any_of HT_.out (by kernel_rfl)) (fun _ _ _ h => h) (Or.inl ⟨by rfl, ?_⟩) ?_ ?_
    rotate_left
    · intro w'
      first | (go_simp; with_reducible rfl)
    rotate_left
    · simp only [Act.put, List.setIfInBounds_toArray, List.set_cons_zero, List.set_cons_succ, i64_w, i32_w]
      rfl
    refine take_ (i := 5) (N := some 63) (v := ?_) (a' := ?_) #[true, true, true, true, true, true, false, false] rfl rfl (take_ofW HT_.out HW_.out (by kernel_rfl)) (fun _ _ _ h => h) (Or.inl ⟨by rfl, ?_⟩) hHeld ?_ ?_
    rotate_left
    · intro w' hw'
      obtain ⟨x0, x1, x2, x3, x4, x5, x6, x7, x8⟩ := HXC.out w' hw'
      first | (go_simp; with_reducible rfl)
    rotate_left
    · simp only [Act.put, List.setIfInBounds_toArray, List.set_cons_zero, List.set_cons_succ, i64_w, i32_w]
      rfl
    refine one_ (i := 6) (N := some 64) #[true, true, true, true, true, true, true, false] rfl rfl (one_of HT_.out (by kernel_rfl)) (by decide) (fun K hK => ?_)
    refine goes_ Try.func52 (by kernel_rfl) rfl #[.pointer (some ⟨r.Br, 0, none⟩), .int .i64 X] (by rfl) rfl rfl (by (try simp only [List.map_toArray, List.map_cons, List.map_nil]); first | done | rfl) ?_
    refine (st_in HRO.out HST.out X HS.out hlen).mono ?_
    rintro e W8 ⟨A8, c8, rfl, hC_, hst_⟩
    refine ⟨_, rfl, ?_⟩
    have HST := Aside0.mk hst_
    have HC8 := Aside0.mk hC_
    clear hst_ hC_
    refine hK.out _ _ HST.out.ch (fun hHeld => ?_)
    clear hK K
    refine norm_ (a' := ?_) ?_ ?_
    rotate_left
    · show Act.put _ (some 64) _ = _
      simp only [Act.put, List.setIfInBounds_toArray, List.set_cons_zero, List.set_cons_succ, i64_w, i32_w]
      rfl
    refine one_ (i := 7) (N := some 65) #[true, true, true, true, true, true, true, true] rfl rfl (one_of HT_.out (by kernel_rfl)) (by decide) (fun K hK => ?_)
    refine goes_ Try.func37 (by kernel_rfl) rfl #[.pointer (some ⟨r.Br, 0, none⟩), .int .i64 9, .int .i64 Y, .string ⟨#[]⟩, .slice A8 (bsL r.l 9 X).length c8] (by rfl) rfl rfl (by (try simp only [List.map_toArray, List.map_cons, List.map_nil]); first | done | rfl) ?_
    refine (st_asks HRO.out HST.out HGK.out rfl HC8.out).mono ?_
    rintro e W9 ⟨rfl, hst_, hg_⟩
    refine ⟨_, rfl, ?_⟩
    have HST := Aside0.mk hst_
    have HGK := Aside0.mk hg_
    clear hst_ hg_
    refine hK.out _ _ HST.out.ch (fun hHeld => ?_)
    clear hK K
    refine norm_ (a' := ?_) ?_ ?_
    rotate_left
    · show Act.put _ (some 65) _ = _
      simp only [Act.put, List.setIfInBounds_toArray, List.set_cons_zero, List.set_cons_succ, i64_w, i32_w]
      rfl
    refine done_ (done_of HT_.out (by kernel_rfl)) ?_
    clear hHeld
    obtain ⟨x0, x1, x2, x3, x4, x5, x6, x7, x8⟩ := HXC.out W9 HST.out.ch
    go_wp2_with fail
    clear x0 x1 x2 x3 x4 x5 x6 x7 x8
    refine (st_in HRO.out HST.out X HS.out hlen).mono ?_
    rintro e Wi ⟨Ai, ci, rfl, hC_, hst_⟩
    have HCI := Aside0.mk hst_.ch
    have HBI := Aside0.mk (show ∀ W', Chg (fun i => i = r.Mb) Wi W' → Kd.C (Kd.int .i64) W' Ai (bsL r.l 9 X).length (bsL r.l 9 X) from fun W' hc => intC_map hst_.set hc hC_)
    have HROI := Aside0.mk (HRO.out.asked hst_.ch)
    obtain ⟨Lc, hLc⟩ : ∃ Lc, Lc = L ++ askL 9 Y noS (bsL r.l 9 X) := ⟨_, rfl⟩
    have HST4 := Aside0.mk (show StA r n S Lc Wi Wi by rw [hLc]; exact hst_.here)
    have HG4 := Aside0.mk (show Good n (Lc ++ (rg (bsL r.l 9 X).length (fun i => eachL r ⟨3, F, X, Y, Z, N, M, s, al⟩ (rd (bsL r.l 9 X) (i : Int))) ++ R)) by rw [hLc]; exact HGK.out)
    have HLC := Aside0.mk hLc
    have hbl : (bsL r.l 9 X).length ≤ 900000 := Nat.le_trans (bsL_le _ _ _) hlen
    clear hLc HST HGK hst_ hC_
    go_wp2
    generalize hF : (fun i : Nat => eachL r ⟨3, F, X, Y, Z, N, M, s, al⟩ (rd (bsL r.l 9 X) (i : Int))) = EF at *
    have HF := Aside0.mk hF
    clear hF
    go_loopg [6, 71] (bsL r.l 9 X).length (fun jq v6 v71 W_ => ∃ j : Nat, v71 = .int .i64 j ∧ j + jq = (bsL r.l 9 X).length ∧ StA r n S (Lc ++ rg j EF) Wi W_)
    case atStart => exact ⟨0, rfl, by omega, by rw [rg_zero, List.append_nil]; exact HST4.out⟩
    case round =>
      clear HST4
      obtain ⟨j, rfl, hj, hst⟩ := hrel
      have HST := Aside0.mk hst
      clear hst
      by_cases hla : j < (bsL r.l 9 X).length
      · have HGK := Aside0.mk (HG4.out.loop hla)
        have HPK := Aside0.mk (show EF j = eachL r ⟨3, F, X, Y, Z, N, M, s, al⟩ (rd (bsL r.l 9 X) (j : Int)) by rw [← HF.out])
        have HRJ := Aside0.mk (rg_succ j EF)
        have hwc := wf_bs HWL.out 9 X (rd_mem (bsL r.l 9 X) j hla)
        obtain ⟨ad3, rfl, hp3⟩ := Kd.at_int (HBI.out _ HST.out.ch) (j : Int) (by omega) (by omega)
        rw [Int.toNat_natCast] at hp3
        generalize rd (bsL r.l 9 X) (j : Int) = av at *
        generalize EF j = PJ at *
        rw [HPK.out] at HGK
        obtain ⟨x0, x1, x2, x3, x4, x5, x6, x7, x8⟩ := HXC.out wr (HCI.out.then_ HST.out.ch)
        go_wp2_with fail
        clear x0 x1 x2 x3 x4 x5 x6 x7 x8
        refine (each_calls HROI.out HST.out ⟨3, F, X, Y, Z, N, M, s, al⟩ av HGK.out (HAR.out _ (HCI.out.then_ HST.out.ch)) HS.out hlen hfl hfc hs0 hwc HWL.out).mono ?_
        rintro e W6 ⟨rfl, hst_, hg_⟩
        have HST := Aside0.mk hst_
        clear hst_ hg_
        go_wp2
        go_roundg (gk - 1)
        case measure => omega
        case rel => exact ⟨j + 1, by go_num, by omega, by rw [HRJ.out, HPK.out, ← List.append_assoc]; exact HST.out⟩
      · obtain rfl : j = (bsL r.l 9 X).length := by omega
        have HGK := Aside0.mk (HG4.out.next)
        clear HG4
        go_wp2
        go_end0
        have e : L ++ ruleL r ⟨3, F, X, Y, Z, N, M, s, al⟩ = Lc ++ rg (bsL r.l 9 X).length EF := by
          rw [HEQ.out, HLC.out, ← HF.out]
          simp only [List.append_assoc, List.nil_append, List.append_nil]
        rw [e]
        exact ⟨rfl, (HST.out.rebase HCI.out).rebase HCH.out, HGK.out⟩
  have hk1 : (k == 1) = false := by simp [h1]
  have hk2 : (k == 2) = false := by simp [h2]
  have hk3 : (k == 3) = false := by simp [h3]
  have HEQ := Aside0.mk (show ruleL r ⟨k, F, X, Y, Z, N, M, s, al⟩ = [] ++ rg (bsL r.l 9 X).length (fun i => eachL r ⟨k, F, X, Y, Z, N, M, s, al⟩ (rd (bsL r.l 9 X) (i : Int))) by simp [ruleL, headL, h1, h2, h3])
  have HGK := Aside0.mk (show Good n (L ++ (rg (bsL r.l 9 X).length (fun i => eachL r ⟨k, F, X, Y, Z, N, M, s, al⟩ (rd (bsL r.l 9 X) (i : Int))) ++ R)) by
    have h9 := HG.out
    rw [HEQ.out] at h9
    simpa only [List.append_assoc, List.nil_append] using h9)
  clear h1 h2 h3 HN
  go_wp2_with fail
  rw [← HWB.out]
  clear x0 x1 x2 x3 x4 x5 x6 x7 x8 HWB hk1 hk2 hk3
  refine (st_in HRO.out HST.out X HS.out hlen).mono ?_
  rintro e Wi ⟨Ai, ci, rfl, hC_, hst_⟩
  have HCI := Aside0.mk hst_.ch
  have HBI := Aside0.mk (show ∀ W', Chg (fun i => i = r.Mb) Wi W' → Kd.C (Kd.int .i64) W' Ai (bsL r.l 9 X).length (bsL r.l 9 X) from fun W' hc => intC_map hst_.set hc hC_)
  have HROI := Aside0.mk (HRO.out.asked hst_.ch)
  obtain ⟨Lc, hLc⟩ : ∃ Lc, Lc = L := ⟨_, rfl⟩
  have HST4 := Aside0.mk (show StA r n S Lc Wi Wi by rw [hLc]; exact hst_.here)
  have HG4 := Aside0.mk (show Good n (Lc ++ (rg (bsL r.l 9 X).length (fun i => eachL r ⟨k, F, X, Y, Z, N, M, s, al⟩ (rd (bsL r.l 9 X) (i : Int))) ++ R)) by rw [hLc]; exact HGK.out)
  have HLC := Aside0.mk hLc
  have hbl : (bsL r.l 9 X).length ≤ 900000 := Nat.le_trans (bsL_le _ _ _) hlen
  clear hLc HST HGK hst_ hC_
  go_wp2
  generalize hF : (fun i : Nat => eachL r ⟨k, F, X, Y, Z, N, M, s, al⟩ (rd (bsL r.l 9 X) (i : Int))) = EF at *
  have HF := Aside0.mk hF
  clear hF
  go_loopg [6, 71] (bsL r.l 9 X).length (fun jq v6 v71 W_ => ∃ j : Nat, v71 = .int .i64 j ∧ j + jq = (bsL r.l 9 X).length ∧ StA r n S (Lc ++ rg j EF) Wi W_)
  case atStart => exact ⟨0, rfl, by omega, by rw [rg_zero, List.append_nil]; exact HST4.out⟩
  case round =>
    clear HST4
    obtain ⟨j, rfl, hj, hst⟩ := hrel
    have HST := Aside0.mk hst
    clear hst
    by_cases hla : j < (bsL r.l 9 X).length
    · have HGK := Aside0.mk (HG4.out.loop hla)
      have HPK := Aside0.mk (show EF j = eachL r ⟨k, F, X, Y, Z, N, M, s, al⟩ (rd (bsL r.l 9 X) (j : Int)) by rw [← HF.out])
      have HRJ := Aside0.mk (rg_succ j EF)
      have hwc := wf_bs HWL.out 9 X (rd_mem (bsL r.l 9 X) j hla)
      obtain ⟨ad3, rfl, hp3⟩ := Kd.at_int (HBI.out _ HST.out.ch) (j : Int) (by omega) (by omega)
      rw [Int.toNat_natCast] at hp3
      generalize rd (bsL r.l 9 X) (j : Int) = av at *
      generalize EF j = PJ at *
      rw [HPK.out] at HGK
      obtain ⟨x0, x1, x2, x3, x4, x5, x6, x7, x8⟩ := HXC.out wr (HCI.out.then_ HST.out.ch)
      go_wp2_with fail
      clear x0 x1 x2 x3 x4 x5 x6 x7 x8
      refine (each_calls HROI.out HST.out ⟨k, F, X, Y, Z, N, M, s, al⟩ av HGK.out (HAR.out _ (HCI.out.then_ HST.out.ch)) HS.out hlen hfl hfc hs0 hwc HWL.out).mono ?_
      rintro e W6 ⟨rfl, hst_, hg_⟩
      have HST := Aside0.mk hst_
      clear hst_ hg_
      go_wp2
      go_roundg (gk - 1)
      case measure => omega
      case rel => exact ⟨j + 1, by go_num, by omega, by rw [HRJ.out, HPK.out, ← List.append_assoc]; exact HST.out⟩
    · obtain rfl : j = (bsL r.l 9 X).length := by omega
      have HGK := Aside0.mk (HG4.out.next)
      clear HG4
      go_wp2
      go_end0
      have e : L ++ ruleL r ⟨k, F, X, Y, Z, N, M, s, al⟩ = Lc ++ rg (bsL r.l 9 X).length EF := by
        rw [HEQ.out, HLC.out, ← HF.out]
        simp only [List.append_assoc, List.nil_append, List.append_nil]
      rw [e]
      exact ⟨rfl, (HST.out.rebase HCI.out).rebase HCH.out, HGK.out⟩
end Go.Proofs.Ytngppcmdaanheaa.Ls

/- least.rounder.builtins. No condition. -/
namespace Go.Proofs.Ytngppcmdaanheaa.Ls
open Go.RowKit Go.Maps Go.Proofs.Ytngppcmdaanheaa.Iter Go.Proofs.Ytngppcmdaanheaa.ISet Go.Proofs.Ytngppcmdaanheaa.Pr Go.Proofs.Ytngppcmdaanheaa.Ext Go.Proofs.YtngppcmdaanheaaW.PrintWords Go.Proofs.YtngppcmdaanheaaW.PrintLast Go.Proofs.YtngppcmdaanheaaW.PrintMore
set_option linter.unusedVariables false
set_option linter.unusedSimpArgs false
attribute [local go_sem] Oper.semAt_some
def buT14 : Bool × List (List Nat × List Nat) := (true, [([], []), ([], []), ([1], [1]), ([], []), ([], []), ([4], [4]), ([3, 5], [3, 5]), ([], []), ([], []), ([8], [8]), ([], []), ([10], [10]), ([2, 6, 7, 9, 11], [2, 6, 7, 9, 11]), ([], []), ([0, 12, 13, 6], [0, 12, 13])])
def buB14 : List Nat := [0, 0, 2, 0, 0, 16, 56, 0, 0, 256, 0, 1024, 4094, 0, 16383]
theorem butab14 : rtab .any (opsOf Try.f36 14) = buT14 := by kernel_rfl
theorem bubits14 : waitsOk buT14.2 buB14 = true := by kernel_rfl
def apL (r : Ro) (t ea m : Int) : List Fa := rg (bsL r.l 9 t).length (fun i => callL r ⟨m, bsL r.l 9 (t + 1), [], ea, t + 2, t + 3⟩ (rd (bsL r.l 9 t) (i : Int)))
def spreadL (r : Ro) (t ea : Int) : List Fa := rg (bsL r.l 9 (t + 1)).length (fun i => askL 9 ea noS (loadsL r.l (fun _ => true) (rd (bsL r.l 9 (t + 1)) (i : Int))) ++ [])
def builtL (r : Ro) (f : Fa) : List Fa :=
  if f.f0 = 5 ∧ f.f3 = 2 then apL r (r.s0 - 9) (r.s0 - 9 + 1) f.f1
  else if f.f0 = 5 ∧ f.f3 = 3 then spreadL r (r.s0 - 9 + 4) (r.s0 - 9 + 8) ++ apL r (r.s0 - 9 + 4) (r.s0 - 9 + 8) f.f1
  else []
def FaAt (W : World) (b : Nat) (f0 f1 : Int) (f2 : ByteArray) (f3 : Int) : Prop :=
  W.cell? ⟨b, 0, none⟩ = some (.int .i64 f0) ∧ W.cell? ⟨b, 1, none⟩ = some (.int .i64 f1) ∧ W.cell? ⟨b, 2, none⟩ = some (.string f2) ∧ W.cell? ⟨b, 3, none⟩ = some (.int .i64 f3)
set_option maxHeartbeats 16000000 in
set_option maxRecDepth 100000 in
theorem builtins_calls {r : Ro} {w0 W1 W : World} {n : Nat} {S : Fa → Bool} {L R : List Fa} (h : RoAt r w0 W1) (hst : StA r n S L W1 W) (f : Fa) (hg : Good n (L ++ (builtL r f ++ R)))
    (hsort : r.l.Pairwise LF) (hlen : r.l.length ≤ 900000) (hfl : 1 ≤ r.fs.length ∧ r.fs.length ≤ 1000000) (hs0 : 0 ≤ r.s0 ∧ r.s0 ≤ 1000000000) (hwl : ∀ f ∈ r.l, wfI f.f3) :
    Calls Try.prog 36 #[.pointer (some ⟨r.Br, 0, none⟩), aggF f] W fun e W' => e = .returned (.tuple #[]) ∧ StA r n S (L ++ builtL r f) W1 W' ∧ Good n ((L ++ builtL r f) ++ R) := by
  obtain ⟨f0, f1, f2, f3⟩ := f
  unfold aggF
  obtain ⟨Wb, hWb⟩ : ∃ Wb, Wb = W.alloc (.cells #[.int .i64 f0, .int .i64 f1, .string f2, .int .i64 f3] 41) := ⟨_, rfl⟩
  have hbb : Below W.heap.size W Wb := by rw [hWb]; exact below_alloc (Below.refl _ W) _
  have hstb := (hst.quiet hbb).here
  have hroB : RoAt r w0 Wb := (h.asked hst.ch).quiet hbb
  have hnb : Wb.heap[W.heap.size]? = some (.cells #[.int .i64 f0, .int .i64 f1, .string f2, .int .i64 f3] 41 (0, 0)) := by rw [hWb]; exact heap_alloc_new _ _
  have hMb : FSet Wb r.Mb (n + L.length) (addS S L) := hstb.set
  have HFC := Aside0.mk (show ∀ W', Chg (fun i => i = r.Mb) Wb W' → FaAt W' W.heap.size f0 f1 f2 f3 from fun W' hc => by
    have hc' : ∀ j v, (#[.int .i64 f0, .int .i64 f1, .string f2, .int .i64 f3] : Array Value)[j]? = some v → W'.cell? ⟨W.heap.size, j, none⟩ = some v := fun j v hv => cell_map hMb hc (by simp [World.cell?, hnb, hv])
    exact ⟨hc' 0 _ rfl, hc' 1 _ rfl, hc' 2 _ rfl, hc' 3 _ rfl⟩)
  have HRC := Aside0.mk (show ∀ W', Chg (fun i => i = r.Mb) Wb W' → W'.cell? ⟨r.Br, 0, none⟩ = some (.int .i64 r.s0) from fun W' hc => (hroB.asked hc).cell 0)
  have HRO := Aside0.mk hroB
  have HST := Aside0.mk hstb
  have HS := Aside0.mk hsort
  have HWL := Aside0.mk hwl
  have HCH := Aside0.mk (show Chg (fun i => i = r.Mb) W1 Wb from hst.ch.then_below hbb)
  have HG := Aside0.mk hg
  clear h hst hg hsort hstb hroB hMb hnb hbb hwl
  go_enter Try.func36, Try.ntmps36
  obtain ⟨f0_, f1_, f2_, f3_⟩ := HFC.out Wb HST.out.ch
  have d0 := HRC.out Wb HST.out.ch
  rw [hWb] at f0_ f1_ f2_ f3_ d0
  have HWB := Aside0.mk hWb
  clear hWb
  by_cases h5 : f0 = 5
  · subst h5
    by_cases h2 : f3 = 2
    · subst h2
      obtain ⟨t, ht⟩ : ∃ t, t = r.s0 - 9 := ⟨_, rfl⟩
      obtain ⟨ea, hea⟩ : ∃ ea, ea = r.s0 - 9 + 1 := ⟨_, rfl⟩
      have HEQ := Aside0.mk (show builtL r ⟨5, f1, f2, 2⟩ = apL r t ea f1 by simp [builtL, ht, hea])
      have HGK := Aside0.mk (show Good n (L ++ (apL r t ea f1 ++ R)) by rw [← HEQ.out]; exact HG.out)
      have hw1 : wrap64 (r.s0 - 9) = t := by unfold wrap64; omega
      have hw2 : wrap64 (t + 1) = t + 1 := by unfold wrap64; omega
      have hw3 : wrap64 (t + 2) = t + 2 := by unfold wrap64; omega
      have hw4 : wrap64 (t + 3) = t + 3 := by unfold wrap64; omega
      have HT := Aside0.mk ht
      have HEA := Aside0.mk hea
      clear ht hea
      go_wp2_with fail
      rw [← HWB.out, ← HEA.out, ← HT.out]
      clear f0_ f1_ f2_ f3_ d0 hw1 HWB
      refine (st_in HRO.out HST.out (t) HS.out hlen).mono ?_
      rintro e Wi ⟨Ai, ci, rfl, hC_, hst_⟩
      have HCI := Aside0.mk hst_.ch
      have HBI := Aside0.mk (show ∀ W', Chg (fun i => i = r.Mb) Wi W' → Kd.C (Kd.int .i64) W' Ai (bsL r.l 9 (t)).length (bsL r.l 9 (t)) from fun W' hc => intC_map hst_.set hc hC_)
      have HROI := Aside0.mk (HRO.out.asked hst_.ch)
      obtain ⟨EF, hEF⟩ : ∃ EF : Nat → List Fa, EF = fun i : Nat => callL r ⟨f1, bsL r.l 9 (t + 1), [], ea, t + 2, t + 3⟩ (rd (bsL r.l 9 t) (i : Int)) := ⟨_, rfl⟩
      obtain ⟨Lc, hLc⟩ : ∃ Lc, Lc = L := ⟨_, rfl⟩
      have HST4 := Aside0.mk (show StA r n S Lc Wi Wi by rw [hLc]; exact hst_.here)
      have HG4 := Aside0.mk (show Good n (Lc ++ (rg (bsL r.l 9 (t)).length EF ++ R)) by rw [hLc, hEF]; exact HGK.out)
      have HLC := Aside0.mk hLc
      have HF := Aside0.mk hEF
      have hbl : (bsL r.l 9 (t)).length ≤ 900000 := Nat.le_trans (bsL_le _ _ _) hlen
      clear hLc hEF HST HGK hst_ hC_
      go_wp2
      go_loopg [9, 58] (bsL r.l 9 (t)).length (fun jq v9 v58 W_ => ∃ j : Nat, v58 = .int .i64 j ∧ j + jq = (bsL r.l 9 (t)).length ∧ StA r n S (Lc ++ rg j EF) Wi W_)
      case atStart => exact ⟨0, rfl, by omega, by rw [rg_zero, List.append_nil]; exact HST4.out⟩
      case round =>
        clear HST4
        obtain ⟨j, rfl, hj, hst⟩ := hrel
        have HST := Aside0.mk hst
        clear hst
        by_cases hla : j < (bsL r.l 9 (t)).length
        · have HGK := Aside0.mk (HG4.out.loop hla)
          have HPK := Aside0.mk (congrFun HF.out j)
          have HRJ := Aside0.mk (rg_succ j EF)
          have hwc := wf_bs HWL.out 9 (t) (rd_mem (bsL r.l 9 (t)) j hla)
          obtain ⟨ad3, rfl, hp3⟩ := Kd.at_int (HBI.out _ HST.out.ch) (j : Int) (by omega) (by omega)
          rw [Int.toNat_natCast] at hp3
          generalize rd (bsL r.l 9 (t)) (j : Int) = av at *
          generalize EF j = PJ at *
          rw [HPK.out] at HGK
          go_wp2
          obtain ⟨Wd, hWd⟩ : ∃ Wd, wr.drew = Wd := ⟨_, rfl⟩
          have HST := Aside0.mk (HST.out.quiet (W' := Wd) (by rw [← hWd]; exact below_drew (Below.refl _ _)))
          refine start_ (n := 15) (S := fun W' => Chg (fun i => i = r.Mb) Wi W') (ds := []) #[false, false, false, false, false, false, false, false, false, false, false, false, false, false, false] (by kernel_rfl) rfl rfl (by rw [hWd]; exact HST.out.ch) (fun hHeld => ?_)
          rw [hWd] at hHeld ⊢
          refine with_tabW butab14 bubits14 (fun HT_ HW_ => ?_)
          refine pure_ (i := 0) (N := some 62) (v := ?_) (a' := ?_) #[true, false, false, false, false, false, false, false, false, false, false, false, false, false, false] rfl rfl (any_of HT_.out (by kernel_rfl)) (fun _ _ _ h => h) (Or.inl ⟨by rfl, ?_⟩) ?_ ?_
          rotate_left
          · intro w'
            first | (go_simp; with_reducible rfl)
          rotate_left
          · simp only [Act.put, List.setIfInBounds_toArray, List.set_cons_zero, List.set_cons_succ, i64_w, i32_w, hw2, hw3, hw4]
            rfl
          refine pure_ (i := 1) (N := some 63) (v := ?_) (a' := ?_) #[true, true, false, false, false, false, false, false, false, false, false, false, false, false, false] rfl rfl (any_of HT_.out (by kernel_rfl)) (fun _ _ _ h => h) (Or.inl ⟨by rfl, ?_⟩) ?_ ?_
          rotate_left
          · intro w'
            first | (go_simp; with_reducible rfl)
          rotate_left
          · simp only [Act.put, List.setIfInBounds_toArray, List.set_cons_zero, List.set_cons_succ, i64_w, i32_w, hw2, hw3, hw4]
            rfl
          refine take_ (i := 2) (N := some 64) (v := ?_) (a' := ?_) #[true, true, true, false, false, false, false, false, false, false, false, false, false, false, false] rfl rfl (take_ofW HT_.out HW_.out (by kernel_rfl)) (fun _ _ _ h => h) (Or.inl ⟨by rfl, ?_⟩) hHeld ?_ ?_
          rotate_left
          · intro w' hw'
            obtain ⟨f0_, f1_, f2_, f3_⟩ := HFC.out w' (HCI.out.then_ hw')
            first | (go_simp; with_reducible rfl)
          rotate_left
          · simp only [Act.put, List.setIfInBounds_toArray, List.set_cons_zero, List.set_cons_succ, i64_w, i32_w, hw2, hw3, hw4]
            rfl
          refine pure_ (i := 3) (N := some 65) (v := ?_) (a' := ?_) #[true, true, true, true, false, false, false, false, false, false, false, false, false, false, false] rfl rfl (any_of HT_.out (by kernel_rfl)) (fun _ _ _ h => h) (Or.inl ⟨by rfl, ?_⟩) ?_ ?_
          rotate_left
          · intro w'
            first | (go_simp; with_reducible rfl)
          rotate_left
          · simp only [Act.put, List.setIfInBounds_toArray, List.set_cons_zero, List.set_cons_succ, i64_w, i32_w, hw2, hw3, hw4]
            rfl
          refine pure_ (i := 4) (N := some 66) (v := ?_) (a' := ?_) #[true, true, true, true, true, false, false, false, false, false, false, false, false, false, false] rfl rfl (any_of HT_.out (by kernel_rfl)) (fun _ _ _ h => h) (Or.inl ⟨by rfl, ?_⟩) ?_ ?_
          rotate_left
          · intro w'
            first | (go_simp; with_reducible rfl)
          rotate_left
          · simp only [Act.put, List.setIfInBounds_toArray, List.set_cons_zero, List.set_cons_succ, i64_w, i32_w, hw2, hw3, hw4]
            rfl
          refine pure_ (i := 5) (N := some 67) (v := ?_) (a' := ?_) #[true, true, true, true, true, true, false, false, false, false, false, false, false, false, false] rfl rfl (any_of HT_.out (by kernel_rfl)) (fun _ _ _ h => h) (Or.inl ⟨by rfl, ?_⟩) ?_ ?_
          rotate_left
          · intro w'
            first | (go_simp; with_reducible rfl)
          rotate_left
          · simp only [Act.put, List.setIfInBounds_toArray, List.set_cons_zero, List.set_cons_succ, i64_w, i32_w, hw2, hw3, hw4]
            rfl
          refine pure_ (i := 7) (N := some 69) (v := ?_) (a' := ?_) #[true, true, true, true, true, true, false, true, false, false, false, false, false, false, false] rfl rfl (any_of HT_.out (by kernel_rfl)) (fun _ _ _ h => h) (Or.inl ⟨by rfl, ?_⟩) ?_ ?_
          rotate_left
          · intro w'
            first | (go_simp; with_reducible rfl)
          rotate_left
          · simp only [Act.put, List.setIfInBounds_toArray, List.set_cons_zero, List.set_cons_succ, i64_w, i32_w, hw2, hw3, hw4]
            rfl
          refine pure_ (i := 8) (N := some 70) (v := ?_) (a' := ?_) #[true, true, true, true, true, true, false, true, true, false, false, false, false, false, false] rfl rfl (any_of HT_.out (by kernel_rfl)) (fun _ _ _ h => h) (Or.inl ⟨by rfl, ?_⟩) ?_ ?_
          rotate_left
          · intro w'
            first | (go_simp; with_reducible rfl)
          rotate_left
          · simp only [Act.put, List.setIfInBounds_toArray, List.set_cons_zero, List.set_cons_succ, i64_w, i32_w, hw2, hw3, hw4]
            rfl
          refine pure_ (i := 9) (N := some 71) (v := ?_) (a' := ?_) #[true, true, true, true, true, true, false, true, true, true, false, false, false, false, false] rfl rfl (any_of HT_.out (by kernel_rfl)) (fun _ _ _ h => h) (Or.inl ⟨by rfl, ?_⟩) ?_ ?_
          rotate_left
          · intro w'
            first | (go_simp; with_reducible rfl)
          rotate_left
          · simp only [Act.put, List.setIfInBounds_toArray, List.set_cons_zero, List.set_cons_succ, i64_w, i32_w, hw2, hw3, hw4]
            rfl
          refine pure_ (i := 10) (N := some 72) (v := ?_) (a' := ?_) #[true, true, true, true, true, true, false, true, true, true, true, false, false, false, false] rfl rfl (any_of HT_.out (by kernel_rfl)) (fun _ _ _ h => h) (Or.inl ⟨by rfl, ?_⟩) ?_ ?_
          rotate_left
          · intro w'
            first | (go_simp; with_reducible rfl)
          rotate_left
          · simp only [Act.put, List.setIfInBounds_toArray, List.set_cons_zero, List.set_cons_succ, i64_w, i32_w, hw2, hw3, hw4]
            rfl
          refine pure_ (i := 11) (N := some 73) (v := ?_) (a' := ?_) #[true, true, true, true, true, true, false, true, true, true, true, true, false, false, false] rfl rfl (any_of HT_.out (by kernel_rfl)) (fun _ _ _ h => h) (Or.inl ⟨by rfl, ?_⟩) ?_ ?_
          rotate_left
          · intro w'
            first | (go_simp; with_reducible rfl)
          rotate_left
          · simp only [Act.put, List.setIfInBounds_toArray, List.set_cons_zero, List.set_cons_succ, i64_w, i32_w, hw2, hw3, hw4]
            rfl
          refine pure_ (i := 13) (N := some 75) (v := ?_) (a' := ?_) #[true, true, true, true, true, true, false, true, true, true, true, true, false, true, false] rfl rfl (any_of HT_.out (by kernel_rfl)) (fun _ _ _ h => h) (Or.inl ⟨by rfl, ?_⟩) ?_ ?_
          rotate_left
          · intro w'
            first | (go_simp; with_reducible rfl)
          rotate_left
          · simp only [Act.put, List.setIfInBounds_toArray, List.set_cons_zero, List.set_cons_succ, i64_w, i32_w, hw2, hw3, hw4]
            rfl
          refine one_ (i := 6) (N := some 68) #[true, true, true, true, true, true, true, true, true, true, true, true, false, true, false] rfl rfl (one_of HT_.out (by kernel_rfl)) (by decide) (fun K hK => ?_)
          refine goes_ Try.func52 (by kernel_rfl) rfl #[.pointer (some ⟨r.Br, 0, none⟩), .int .i64 (t + 1)] (by rfl) rfl rfl (by (try simp only [List.map_toArray, List.map_cons, List.map_nil]); first | done | rfl) ?_
          refine (st_in HROI.out HST.out (t + 1) HS.out hlen).mono ?_
          rintro e W8 ⟨A8, c8, rfl, hC_, hst_⟩
          refine ⟨_, rfl, ?_⟩
          have HST := Aside0.mk hst_
          have HC8 := Aside0.mk hC_
          clear hst_ hC_
          refine hK.out _ _ HST.out.ch (fun hHeld => ?_)
          clear hK K
          refine norm_ (a' := ?_) ?_ ?_
          rotate_left
          · show Act.put _ (some 68) _ = _
            simp only [Act.put, List.setIfInBounds_toArray, List.set_cons_zero, List.set_cons_succ, i64_w, i32_w, hw2, hw3, hw4]
            rfl
          refine pure_ (i := 12) (N := some 74) (v := ?_) (a' := ?_) #[true, true, true, true, true, true, true, true, true, true, true, true, true, true, false] rfl rfl (any_of HT_.out (by kernel_rfl)) (fun _ _ _ h => h) (Or.inl ⟨by rfl, ?_⟩) ?_ ?_
          rotate_left
          · intro w'
            first | (go_simp; with_reducible rfl)
          rotate_left
          · simp only [Act.put, List.setIfInBounds_toArray, List.set_cons_zero, List.set_cons_succ, i64_w, i32_w, hw2, hw3, hw4]
            rfl
          refine one_ (i := 14) (N := some 76) #[true, true, true, true, true, true, true, true, true, true, true, true, true, true, true] rfl rfl (one_of HT_.out (by kernel_rfl)) (by decide) (fun K hK => ?_)
          refine goes_ Try.func55 (by kernel_rfl) rfl #[.pointer (some ⟨r.Br, 0, none⟩), .agg (clCells ⟨f1, bsL r.l 9 (t + 1), [], ea, t + 2, t + 3⟩ A8 c8 none 0), .int .i64 av] (by rfl) rfl rfl (by (try simp only [List.map_toArray, List.map_cons, List.map_nil]); first | done | rfl) ?_
          refine (called_calls HROI.out HST.out ⟨f1, bsL r.l 9 (t + 1), [], ea, t + 2, t + 3⟩ av HGK.out HC8.out (Kd.C_nil _ _) HS.out hlen hfl.2 hs0).mono ?_
          rintro e W9 ⟨rfl, hst_, hg_⟩
          refine ⟨_, rfl, ?_⟩
          have HST := Aside0.mk hst_
          clear hst_ hg_
          refine hK.out _ _ HST.out.ch (fun hHeld => ?_)
          clear hK K
          refine norm_ (a' := ?_) ?_ ?_
          rotate_left
          · show Act.put _ (some 76) _ = _
            simp only [Act.put, List.setIfInBounds_toArray, List.set_cons_zero, List.set_cons_succ, i64_w, i32_w, hw2, hw3, hw4]
            rfl
          refine done_ (done_of HT_.out (by kernel_rfl)) ?_
          clear hHeld
          go_wp2
          go_roundg (gk - 1)
          case measure => omega
          case rel => exact ⟨j + 1, by go_num, by omega, by rw [HRJ.out, HPK.out, ← List.append_assoc]; exact HST.out⟩
        · obtain rfl : j = (bsL r.l 9 t).length := by omega
          have HGK := Aside0.mk (HG4.out.next)
          clear HG4
          go_wp2
          go_end0
          have e : L ++ builtL r ⟨5, f1, f2, 2⟩ = Lc ++ rg (bsL r.l 9 t).length EF := by
            rw [HEQ.out, HLC.out, HF.out]
            first | rfl | (simp only [apL, List.append_assoc]; done)
          rw [e]
          exact ⟨rfl, (HST.out.rebase HCI.out).rebase HCH.out, HGK.out⟩
    · by_cases h3 : f3 = 3
      · subst h3
        obtain ⟨t, ht⟩ : ∃ t, t = r.s0 - 9 + 4 := ⟨_, rfl⟩
        obtain ⟨ea, hea⟩ : ∃ ea, ea = r.s0 - 9 + 8 := ⟨_, rfl⟩
        have HEQ := Aside0.mk (show builtL r ⟨5, f1, f2, 3⟩ = spreadL r t ea ++ apL r t ea f1 by simp [builtL, ht, hea])
        have HGK := Aside0.mk (show Good n (L ++ (spreadL r t ea ++ (apL r t ea f1 ++ R))) by
          have h9 := HG.out
          rw [HEQ.out] at h9
          simpa only [List.append_assoc] using h9)
        obtain ⟨t0, ht0⟩ : ∃ t0, t0 = r.s0 - 9 := ⟨_, rfl⟩
        have hw1 : wrap64 (r.s0 - 9) = t0 := by unfold wrap64; omega
        have hw0 : wrap64 (t0 + 1) = t0 + 1 := by unfold wrap64; omega
        have hw5 : wrap64 (t0 + 4) = t := by unfold wrap64; omega
        have hw6 : wrap64 (t0 + 8) = ea := by unfold wrap64; omega
        have hw2 : wrap64 (t + 1) = t + 1 := by unfold wrap64; omega
        have hw3 : wrap64 (t + 2) = t + 2 := by unfold wrap64; omega
        have hw4 : wrap64 (t + 3) = t + 3 := by unfold wrap64; omega
        have HT := Aside0.mk ht
        have HEA := Aside0.mk hea
        clear ht hea ht0
        go_wp2_with fail
        rw [← HWB.out, ← HEA.out, ← HT.out]
        clear f0_ f1_ f2_ f3_ d0 hw1 hw0 hw5 hw6 HWB
        refine (st_in HRO.out HST.out (t + 1) HS.out hlen).mono ?_
        rintro e Wi ⟨Ai, ci, rfl, hC_, hst_⟩
        have HCI := Aside0.mk hst_.ch
        have HBI := Aside0.mk (show ∀ W', Chg (fun i => i = r.Mb) Wi W' → Kd.C (Kd.int .i64) W' Ai (bsL r.l 9 (t + 1)).length (bsL r.l 9 (t + 1)) from fun W' hc => intC_map hst_.set hc hC_)
        have HROI := Aside0.mk (HRO.out.asked hst_.ch)
        obtain ⟨EF, hEF⟩ : ∃ EF : Nat → List Fa, EF = fun i : Nat => askL 9 ea noS (loadsL r.l (fun _ => true) (rd (bsL r.l 9 (t + 1)) (i : Int))) ++ [] := ⟨_, rfl⟩
        obtain ⟨Lc, hLc⟩ : ∃ Lc, Lc = L := ⟨_, rfl⟩
        have HST4 := Aside0.mk (show StA r n S Lc Wi Wi by rw [hLc]; exact hst_.here)
        have HG4 := Aside0.mk (show Good n (Lc ++ (rg (bsL r.l 9 (t + 1)).length EF ++ (rg (bsL r.l 9 t).length (fun i => callL r ⟨f1, bsL r.l 9 (t + 1), [], ea, t + 2, t + 3⟩ (rd (bsL r.l 9 t) (i : Int))) ++ R))) by rw [hLc, hEF]; exact HGK.out)
        have HLC := Aside0.mk hLc
        have HF := Aside0.mk hEF
        have hbl : (bsL r.l 9 (t + 1)).length ≤ 900000 := Nat.le_trans (bsL_le _ _ _) hlen
        clear hLc hEF HST HGK hst_ hC_
        go_wp2
        go_loopg [7, 43] (bsL r.l 9 (t + 1)).length (fun jq v7 v43 W_ => ∃ j : Nat, v43 = .int .i64 j ∧ j + jq = (bsL r.l 9 (t + 1)).length ∧ StA r n S (Lc ++ rg j EF) Wi W_)
        case atStart => exact ⟨0, rfl, by omega, by rw [rg_zero, List.append_nil]; exact HST4.out⟩
        case round =>
          clear HST4
          obtain ⟨j, rfl, hj, hst⟩ := hrel
          have HST := Aside0.mk hst
          clear hst
          by_cases hla : j < (bsL r.l 9 (t + 1)).length
          · have HGK := Aside0.mk (HG4.out.loop hla)
            have HPK := Aside0.mk (congrFun HF.out j)
            have HRJ := Aside0.mk (rg_succ j EF)
            have hwc := wf_bs HWL.out 9 (t + 1) (rd_mem (bsL r.l 9 (t + 1)) j hla)
            obtain ⟨ad3, rfl, hp3⟩ := Kd.at_int (HBI.out _ HST.out.ch) (j : Int) (by omega) (by omega)
            rw [Int.toNat_natCast] at hp3
            generalize rd (bsL r.l 9 (t + 1)) (j : Int) = av at *
            generalize EF j = PJ at *
            rw [HPK.out] at HGK
            rw [List.append_nil] at HGK
            go_wp2_with fail
            refine (loads_calls (HROI.out.asked HST.out.ch) av 54 #[] (fun _ => true) (enters_of Try.func54 (by kernel_rfl) rfl) (fun W' _ s' => isAny_calls s' W') HS.out hlen hwc HWL.out).mono ?_
            rintro e W5 ⟨v8, ys8, rfl, hO8, hp8, hb8⟩
            obtain ⟨A8, c8, rfl, hlc8, hcc8⟩ := own_slice3 hO8
            have HC8 := Aside0.mk (Kd.R_reads' hO8).2.2
            have HP8 := Aside0.mk hp8
            have HST := Aside0.mk (HST.out.quiet hb8)
            clear hO8 hp8 hb8 hlc8 hcc8
            go_wp2_with fail
            refine (st_asks_perm HROI.out HST.out HP8.out HGK.out rfl HC8.out).mono ?_
            rintro e W6 ⟨rfl, hst_, hg_⟩
            have HST := Aside0.mk hst_
            clear hst_ hg_
            go_wp2
            go_roundg (gk - 1)
            case measure => omega
            case rel => exact ⟨j + 1, by go_num, by omega, by rw [HRJ.out, HPK.out, List.append_nil, ← List.append_assoc]; exact HST.out⟩
          · obtain rfl : j = (bsL r.l 9 (t + 1)).length := by omega
            have HGK := Aside0.mk (HG4.out.next)
            have HST := Aside0.mk (HST.out.rebase HCI.out)
            have HL1 := Aside0.mk (show Lc ++ rg (bsL r.l 9 (t + 1)).length EF = L ++ spreadL r t ea by rw [HLC.out, HF.out]; rfl)
            rw [HL1.out] at HST HGK
            clear HG4 HF HLC HBI HROI HCI HL1 hbl
            go_wp2_with fail
            refine (st_in HRO.out HST.out (t) HS.out hlen).mono ?_
            rintro e Wi ⟨Ai, ci, rfl, hC_, hst_⟩
            have HCI := Aside0.mk hst_.ch
            have HBI := Aside0.mk (show ∀ W', Chg (fun i => i = r.Mb) Wi W' → Kd.C (Kd.int .i64) W' Ai (bsL r.l 9 (t)).length (bsL r.l 9 (t)) from fun W' hc => intC_map hst_.set hc hC_)
            have HROI := Aside0.mk (HRO.out.asked hst_.ch)
            obtain ⟨EF, hEF⟩ : ∃ EF : Nat → List Fa, EF = fun i : Nat => callL r ⟨f1, bsL r.l 9 (t + 1), [], ea, t + 2, t + 3⟩ (rd (bsL r.l 9 t) (i : Int)) := ⟨_, rfl⟩
            obtain ⟨Lc, hLc⟩ : ∃ Lc, Lc = L ++ spreadL r t ea := ⟨_, rfl⟩
            have HST4 := Aside0.mk (show StA r n S Lc Wi Wi by rw [hLc]; exact hst_.here)
            have HG4 := Aside0.mk (show Good n (Lc ++ (rg (bsL r.l 9 (t)).length EF ++ R)) by rw [hLc, hEF]; exact HGK.out)
            have HLC := Aside0.mk hLc
            have HF := Aside0.mk hEF
            have hbl : (bsL r.l 9 (t)).length ≤ 900000 := Nat.le_trans (bsL_le _ _ _) hlen
            clear hLc hEF HST HGK hst_ hC_
            go_wp2
            go_loopg [9, 58] (bsL r.l 9 (t)).length (fun jq v9 v58 W_ => ∃ j : Nat, v58 = .int .i64 j ∧ j + jq = (bsL r.l 9 (t)).length ∧ StA r n S (Lc ++ rg j EF) Wi W_)
            case atStart => exact ⟨0, rfl, by omega, by rw [rg_zero, List.append_nil]; exact HST4.out⟩
            case round =>
              clear HST4
              obtain ⟨j, rfl, hj, hst⟩ := hrel
              have HST := Aside0.mk hst
              clear hst
              by_cases hla : j < (bsL r.l 9 (t)).length
              · have HGK := Aside0.mk (HG4.out.loop hla)
                have HPK := Aside0.mk (congrFun HF.out j)
                have HRJ := Aside0.mk (rg_succ j EF)
                have hwc := wf_bs HWL.out 9 (t) (rd_mem (bsL r.l 9 (t)) j hla)
                obtain ⟨ad3, rfl, hp3⟩ := Kd.at_int (HBI.out _ HST.out.ch) (j : Int) (by omega) (by omega)
                rw [Int.toNat_natCast] at hp3
                generalize rd (bsL r.l 9 (t)) (j : Int) = av at *
                generalize EF j = PJ at *
                rw [HPK.out] at HGK
                go_wp2
                obtain ⟨Wd, hWd⟩ : ∃ Wd, wr.drew = Wd := ⟨_, rfl⟩
                have HST := Aside0.mk (HST.out.quiet (W' := Wd) (by rw [← hWd]; exact below_drew (Below.refl _ _)))
                refine start_ (n := 15) (S := fun W' => Chg (fun i => i = r.Mb) Wi W') (ds := []) #[false, false, false, false, false, false, false, false, false, false, false, false, false, false, false] (by kernel_rfl) rfl rfl (by rw [hWd]; exact HST.out.ch) (fun hHeld => ?_)
                rw [hWd] at hHeld ⊢
                refine with_tabW butab14 bubits14 (fun HT_ HW_ => ?_)
                refine pure_ (i := 0) (N := some 62) (v := ?_) (a' := ?_) #[true, false, false, false, false, false, false, false, false, false, false, false, false, false, false] rfl rfl (any_of HT_.out (by kernel_rfl)) (fun _ _ _ h => h) (Or.inl ⟨by rfl, ?_⟩) ?_ ?_
                rotate_left
                · intro w'
                  first | (go_simp; with_reducible rfl)
                rotate_left
                · simp only [Act.put, List.setIfInBounds_toArray, List.set_cons_zero, List.set_cons_succ, i64_w, i32_w, hw2, hw3, hw4]
                  rfl
                refine pure_ (i := 1) (N := some 63) (v := ?_) (a' := ?_) #[true, true, false, false, false, false, false, false, false, false, false, false, false, false, false] rfl rfl (any_of HT_.out (by kernel_rfl)) (fun _ _ _ h => h) (Or.inl ⟨by rfl, ?_⟩) ?_ ?_
                rotate_left
                · intro w'
                  first | (go_simp; with_reducible rfl)
                rotate_left
                · simp only [Act.put, List.setIfInBounds_toArray, List.set_cons_zero, List.set_cons_succ, i64_w, i32_w, hw2, hw3, hw4]
                  rfl
                refine take_ (i := 2) (N := some 64) (v := ?_) (a' := ?_) #[true, true, true, false, false, false, false, false, false, false, false, false, false, false, false] rfl rfl (take_ofW HT_.out HW_.out (by kernel_rfl)) (fun _ _ _ h => h) (Or.inl ⟨by rfl, ?_⟩) hHeld ?_ ?_
                rotate_left
                · intro w' hw'
                  obtain ⟨f0_, f1_, f2_, f3_⟩ := HFC.out w' (HCI.out.then_ hw')
                  first | (go_simp; with_reducible rfl)
                rotate_left
                · simp only [Act.put, List.setIfInBounds_toArray, List.set_cons_zero, List.set_cons_succ, i64_w, i32_w, hw2, hw3, hw4]
                  rfl
                refine pure_ (i := 3) (N := some 65) (v := ?_) (a' := ?_) #[true, true, true, true, false, false, false, false, false, false, false, false, false, false, false] rfl rfl (any_of HT_.out (by kernel_rfl)) (fun _ _ _ h => h) (Or.inl ⟨by rfl, ?_⟩) ?_ ?_
                rotate_left
                · intro w'
                  first | (go_simp; with_reducible rfl)
                rotate_left
                · simp only [Act.put, List.setIfInBounds_toArray, List.set_cons_zero, List.set_cons_succ, i64_w, i32_w, hw2, hw3, hw4]
                  rfl
                refine pure_ (i := 4) (N := some 66) (v := ?_) (a' := ?_) #[true, true, true, true, true, false, false, false, false, false, false, false, false, false, false] rfl rfl (any_of HT_.out (by kernel_rfl)) (fun _ _ _ h => h) (Or.inl ⟨by rfl, ?_⟩) ?_ ?_
                rotate_left
                · intro w'
                  first | (go_simp; with_reducible rfl)
                rotate_left
                · simp only [Act.put, List.setIfInBounds_toArray, List.set_cons_zero, List.set_cons_succ, i64_w, i32_w, hw2, hw3, hw4]
                  rfl
                refine pure_ (i := 5) (N := some 67) (v := ?_) (a' := ?_) #[true, true, true, true, true, true, false, false, false, false, false, false, false, false, false] rfl rfl (any_of HT_.out (by kernel_rfl)) (fun _ _ _ h => h) (Or.inl ⟨by rfl, ?_⟩) ?_ ?_
                rotate_left
                · intro w'
                  first | (go_simp; with_reducible rfl)
                rotate_left
                · simp only [Act.put, List.setIfInBounds_toArray, List.set_cons_zero, List.set_cons_succ, i64_w, i32_w, hw2, hw3, hw4]
                  rfl
                refine pure_ (i := 7) (N := some 69) (v := ?_) (a' := ?_) #[true, true, true, true, true, true, false, true, false, false, false, false, false, false, false] rfl rfl (any_of HT_.out (by kernel_rfl)) (fun _ _ _ h => h) (Or.inl ⟨by rfl, ?_⟩) ?_ ?_
                rotate_left
                · intro w'
                  first | (go_simp; with_reducible rfl)
                rotate_left
                · simp only [Act.put, List.setIfInBounds_toArray, List.set_cons_zero, List.set_cons_succ, i64_w, i32_w, hw2, hw3, hw4]
                  rfl
                refine pure_ (i := 8) (N := some 70) (v := ?_) (a' := ?_) #[true, true, true, true, true, true, false, true, true, false, false, false, false, false, false] rfl rfl (any_of HT_.out (by kernel_rfl)) (fun _ _ _ h => h) (Or.inl ⟨by rfl, ?_⟩) ?_ ?_
                rotate_left
                · intro w'
                  first | (go_simp; with_reducible rfl)
                rotate_left
                · simp only [Act.put, List.setIfInBounds_toArray, List.set_cons_zero, List.set_cons_succ, i64_w, i32_w, hw2, hw3, hw4]
                  rfl
                refine pure_ (i := 9) (N := some 71) (v := ?_) (a' := ?_) #[true, true, true, true, true, true, false, true, true, true, false, false, false, false, false] rfl rfl (any_of HT_.out (by kernel_rfl)) (fun _ _ _ h => h) (Or.inl ⟨by rfl, ?_⟩) ?_ ?_
                rotate_left
                · intro w'
                  first | (go_simp; with_reducible rfl)
                rotate_left
                · simp only [Act.put, List.setIfInBounds_toArray, List.set_cons_zero, List.set_cons_succ, i64_w, i32_w, hw2, hw3, hw4]
                  rfl
                refine pure_ (i := 10) (N := some 72) (v := ?_) (a' := ?_) #[true, true, true, true, true, true, false, true, true, true, true, false, false, false, false] rfl rfl (any_of HT_.out (by kernel_rfl)) (fun _ _ _ h => h) (Or.inl ⟨by rfl, ?_⟩) ?_ ?_
                rotate_left
                · intro w'
                  first | (go_simp; with_reducible rfl)
                rotate_left
                · simp only [Act.put, List.setIfInBounds_toArray, List.set_cons_zero, List.set_cons_succ, i64_w, i32_w, hw2, hw3, hw4]
                  rfl
                refine pure_ (i := 11) (N := some 73) (v := ?_) (a' := ?_) #[true, true, true, true, true, true, false, true, true, true, true, true, false, false, false] rfl rfl (any_of HT_.out (by kernel_rfl)) (fun _ _ _ h => h) (Or.inl ⟨by rfl, ?_⟩) ?_ ?_
                rotate_left
                · intro w'
                  first | (go_simp; with_reducible rfl)
                rotate_left
                · simp only [Act.put, List.setIfInBounds_toArray, List.set_cons_zero, List.set_cons_succ, i64_w, i32_w, hw2, hw3, hw4]
                  rfl
                refine pure_ (i := 13) (N := some 75) (v := ?_) (a' := ?_) #[true, true, true, true, true, true, false, true, true, true, true, true, false, true, false] rfl rfl (any_of HT_.out (by kernel_rfl)) (fun _ _ _ h => h) (Or.inl ⟨by rfl, ?_⟩) ?_ ?_
                rotate_left
                · intro w'
                  first | (go_simp; with_reducible rfl)
                rotate_left
                · simp only [Act.put, List.setIfInBounds_toArray, List.set_cons_zero, List.set_cons_succ, i64_w, i32_w, hw2, hw3, hw4]
                  rfl
                refine one_ (i := 6) (N := some 68) #[true, true, true, true, true, true, true, true, true, true, true, true, false, true, false] rfl rfl (one_of HT_.out (by kernel_rfl)) (by decide) (fun K hK => ?_)
                refine goes_ Try.func52 (by kernel_rfl) rfl #[.pointer (some ⟨r.Br, 0, none⟩), .int .i64 (t + 1)] (by rfl) rfl rfl (by (try simp only [List.map_toArray, List.map_cons, List.map_nil]); first | done | rfl) ?_
                refine (st_in HROI.out HST.out (t + 1) HS.out hlen).mono ?_
                rintro e W8 ⟨A8, c8, rfl, hC_, hst_⟩
                refine ⟨_, rfl, ?_⟩
                have HST := Aside0.mk hst_
                have HC8 := Aside0.mk hC_
                clear hst_ hC_
                refine hK.out _ _ HST.out.ch (fun hHeld => ?_)
                clear hK K
                refine norm_ (a' := ?_) ?_ ?_
                rotate_left
                · show Act.put _ (some 68) _ = _
                  simp only [Act.put, List.setIfInBounds_toArray, List.set_cons_zero, List.set_cons_succ, i64_w, i32_w, hw2, hw3, hw4]
                  rfl
                refine pure_ (i := 12) (N := some 74) (v := ?_) (a' := ?_) #[true, true, true, true, true, true, true, true, true, true, true, true, true, true, false] rfl rfl (any_of HT_.out (by kernel_rfl)) (fun _ _ _ h => h) (Or.inl ⟨by rfl, ?_⟩) ?_ ?_
                rotate_left
                · intro w'
                  first | (go_simp; with_reducible rfl)
                rotate_left
                · simp only [Act.put, List.setIfInBounds_toArray, List.set_cons_zero, List.set_cons_succ, i64_w, i32_w, hw2, hw3, hw4]
                  rfl
                refine one_ (i := 14) (N := some 76) #[true, true, true, true, true, true, true, true, true, true, true, true, true, true, true] rfl rfl (one_of HT_.out (by kernel_rfl)) (by decide) (fun K hK => ?_)
                refine goes_ Try.func55 (by kernel_rfl) rfl #[.pointer (some ⟨r.Br, 0, none⟩), .agg (clCells ⟨f1, bsL r.l 9 (t + 1), [], ea, t + 2, t + 3⟩ A8 c8 none 0), .int .i64 av] (by rfl) rfl rfl (by (try simp only [List.map_toArray, List.map_cons, List.map_nil]); first | done | rfl) ?_
                refine (called_calls HROI.out HST.out ⟨f1, bsL r.l 9 (t + 1), [], ea, t + 2, t + 3⟩ av HGK.out HC8.out (Kd.C_nil _ _) HS.out hlen hfl.2 hs0).mono ?_
                rintro e W9 ⟨rfl, hst_, hg_⟩
                refine ⟨_, rfl, ?_⟩
                have HST := Aside0.mk hst_
                clear hst_ hg_
                refine hK.out _ _ HST.out.ch (fun hHeld => ?_)
                clear hK K
                refine norm_ (a' := ?_) ?_ ?_
                rotate_left
                · show Act.put _ (some 76) _ = _
                  simp only [Act.put, List.setIfInBounds_toArray, List.set_cons_zero, List.set_cons_succ, i64_w, i32_w, hw2, hw3, hw4]
                  rfl
                refine done_ (done_of HT_.out (by kernel_rfl)) ?_
                clear hHeld
                go_wp2
                go_roundg (gk - 1)
                case measure => omega
                case rel => exact ⟨j + 1, by go_num, by omega, by rw [HRJ.out, HPK.out, ← List.append_assoc]; exact HST.out⟩
              · obtain rfl : j = (bsL r.l 9 t).length := by omega
                have HGK := Aside0.mk (HG4.out.next)
                clear HG4
                go_wp2
                go_end0
                have e : L ++ builtL r ⟨5, f1, f2, 3⟩ = Lc ++ rg (bsL r.l 9 t).length EF := by
                  rw [HEQ.out, HLC.out, HF.out]
                  first | rfl | (simp only [apL, List.append_assoc]; done)
                rw [e]
                exact ⟨rfl, (HST.out.rebase HCI.out).rebase HCH.out, HGK.out⟩
      · have hk2 : (f3 == 2) = false := by simp [h2]
        have hk3 : (f3 == 3) = false := by simp [h3]
        have hn2 : (f3 != 2) = true := by rw [bne, hk2]; rfl
        have hn3 : (f3 != 3) = true := by rw [bne, hk3]; rfl
        have HEQ := Aside0.mk (show builtL r ⟨5, f1, f2, f3⟩ = [] by simp [builtL, h2, h3])
        clear h2 h3
        go_wp2
        refine bodyPost_ret (results_none (by rfl) _ _ _) rfl ?_
        rw [HEQ.out, List.append_nil]
        refine ⟨rfl, ?_, ?_⟩
        · rw [← HWB.out]
          exact HST.out.rebase HCH.out
        · have h9 := HG.out
          rw [HEQ.out, List.nil_append] at h9
          exact h9
  · have hk5 : (f0 == 5) = false := by simp [h5]
    have hn5 : (f0 != 5) = true := by rw [bne, hk5]; rfl
    have HEQ := Aside0.mk (show builtL r ⟨f0, f1, f2, f3⟩ = [] by simp [builtL, h5])
    clear h5
    go_wp2
    refine bodyPost_ret (results_none (by rfl) _ _ _) rfl ?_
    rw [HEQ.out, List.append_nil]
    refine ⟨rfl, ?_, ?_⟩
    · rw [← HWB.out]
      exact HST.out.rebase HCH.out
    · have h9 := HG.out
      rw [HEQ.out, List.nil_append] at h9
      exact h9
end Go.Proofs.Ytngppcmdaanheaa.Ls

/- least.round. No condition. -/
namespace Go.Proofs.Ytngppcmdaanheaa.Ls
open Go.RowKit Go.Maps Go.Proofs.Ytngppcmdaanheaa.Iter Go.Proofs.Ytngppcmdaanheaa.ISet Go.Proofs.Ytngppcmdaanheaa.Pr Go.Proofs.Ytngppcmdaanheaa.Ext Go.Proofs.YtngppcmdaanheaaW.PrintWords Go.Proofs.YtngppcmdaanheaaW.PrintLast Go.Proofs.YtngppcmdaanheaaW.PrintMore
set_option linter.unusedVariables false
set_option linter.unusedSimpArgs false
attribute [local go_sem] Oper.semAt_some
def roT5 : Bool × List (List Nat × List Nat) := (true, [([], []), ([0], [0]), ([1], [1]), ([2], [2]), ([], []), ([3, 4, 0, 1, 2, 3, 4], [3, 4])])
def roB5 : List Nat := [0, 1, 3, 7, 0, 31]
theorem rotab5 : rtab .any (opsOf Try.f21 5) = roT5 := by kernel_rfl
theorem robits5 : waitsOk roT5.2 roB5 = true := by kernel_rfl
def callS : ByteArray := ⟨#[99, 97, 108, 108]⟩
def applyS : ByteArray := ⟨#[97, 112, 112, 108, 121]⟩
def oldL (r : Ro) (i : Nat) : List Fa := [rd_T41 r.l (i : Int)] ++ builtL r (rd_T41 r.l (i : Int))
def newL (r : Ro) (i : Nat) : List Fa := if 0 < (bsL r.l 6 (rd_T46 r.rs (i : Int)).f1).length then ruleL r (rd_T46 r.rs (i : Int)) else []
def roundL (r : Ro) : List Fa :=
  rg r.l.length (oldL r) ++ (askL 6 0 noS [0] ++ (askL 3 1 callS [2] ++ (askL 3 1 applyS [3] ++ (askL 4 1 noS [0] ++ (askL 4 2 noS [1] ++ (askL 4 3 noS [1] ++ rg r.rs.length (newL r)))))))
theorem st_put {r : Ro} {W1 W : World} {n : Nat} {S : Fa → Bool} {L R : List Fa} (hst : StA r n S L W1 W) {f : Fa} (hg : Good n (L ++ ([f] ++ R))) :
    ∃ W', (Instr.mapUpdate 61 (.map (some r.Mb)) (aggF f) (.bool true)).run Try.prog W = .ok () W' ∧ StA r n S (L ++ [f]) W1 W' ∧ Good n ((L ++ [f]) ++ R) := by
  have h1 := hg.head
  have h2 := h1.2
  rw [List.length_append, List.length_singleton] at h2
  obtain ⟨W2, hput, hst2, hch2⟩ := hst.set.put (by simp only [maxLen]; omega) f (h1.1 f (by simp))
  refine ⟨W2, hput, ⟨?_, hst.ch.then_ hch2⟩, hg.next⟩
  rw [List.length_append, List.length_singleton, ← Nat.add_assoc]
  refine hst2.same (fun g _ => ?_)
  unfold addS
  simp only [List.mem_append, List.mem_singleton, Bool.decide_or]
  cases decide (g = f) <;> simp
theorem RowF.lower {W : World} {b b' : Nat} {v : Value} {ys : List Fa} (h : RowF W b v ys) (hb : b' ≤ b) : RowF W b' v ys := by
  rcases h with h | ⟨g, c, h1, h2, h3⟩
  · exact .inl h
  · exact .inr ⟨g, c, h1, Nat.le_trans hb h2, h3⟩
def SyAt (W : World) (b : Nat) (A : Option Addr) (n c : Nat) : Prop := W.cell? ⟨b, 2, none⟩ = some (.slice A n c)
set_option maxHeartbeats 16000000 in
set_option maxRecDepth 100000 in
theorem round_calls {r : Ro} {w : World} (hBr : r.Br = w.heap.size + 2) (hMb : r.Mb = w.heap.size + 1) (hf : Kd.C k44 w r.A1 r.fs.length r.fs) (hr : Kd.C k46 w r.A2 r.rs.length r.rs) (hl : Kd.C k41 w r.A3 r.l.length r.l)
    (hg : Good 0 (roundL r)) (hsort : r.l.Pairwise LF) (hlen : r.l.length ≤ 900000) (hfl : 1 ≤ r.fs.length ∧ r.fs.length ≤ 1000000) (hfc : r.fs.length ≤ r.c1) (hs0 : 0 ≤ r.s0 ∧ r.s0 ≤ 1000000000)
    (hN : ∀ x ∈ r.rs, x.f0 = 2 → 0 ≤ x.f5 ∧ x.f5 < r.fs.length ∧ 0 ≤ markOf r x ∧ markOf r x ≤ 1000000) :
    Calls Try.prog 21 #[.agg #[.int .i64 r.s0, .slice r.A1 r.fs.length r.c1, .slice r.A2 r.rs.length r.c2], .slice r.A3 r.l.length r.c3] w fun e w' => ∃ v, e = .returned v ∧ RowF w' w.heap.size v (factSet (roundL r)) ∧ Below w.heap.size w w' := by
  have hmk : ∀ W : World, (Instr.makeMap 61 none).run Try.prog W = .ok (.map (some W.heap.size)) (W.alloc (.map #[] 0)) := fun _ => rfl
  obtain ⟨Wb, hWb⟩ : ∃ Wb, Wb = ((w.alloc (.cells #[.int .i64 r.s0, .slice r.A1 r.fs.length r.c1, .slice r.A2 r.rs.length r.c2] 25)).alloc (.map #[] 0)).alloc (.cells r.cells 66) := ⟨_, rfl⟩
  have hbb : Below w.heap.size w Wb := by rw [hWb]; exact below_alloc (below_alloc (below_alloc (Below.refl _ w) _) _) _
  have hn2 : Wb.heap[w.heap.size + 2]? = some (.cells r.cells 66 (0, 0)) := by rw [hWb]; simp only [alloc_at, World.size_alloc]; simp (disch := omega) [if_pos, if_neg]
  have hn0 : Wb.heap[w.heap.size]? = some (.cells #[.int .i64 r.s0, .slice r.A1 r.fs.length r.c1, .slice r.A2 r.rs.length r.c2] 25 (0, 0)) := by rw [hWb]; simp only [alloc_at, World.size_alloc]; simp (disch := omega) [if_pos, if_neg]
  have hro : RoAt r w Wb := ⟨hbb, by rw [hBr]; exact hn2, by omega, by omega, by omega, hf, hr, hl⟩
  have hM0 : FSet Wb r.Mb 0 (fun _ => false) := by
    have h1 := FSet.made (w.alloc (.cells #[.int .i64 r.s0, .slice r.A1 r.fs.length r.c1, .slice r.A2 r.rs.length r.c2] 25))
    have h2 := h1.chg ((Chg.refl (fun _ => False) _).alloc (.cells r.cells 66)) (fun e => e)
    rw [hMb, hWb]
    simpa using h2
  have hst0 : StA r 0 (fun _ => false) [] Wb Wb := StA.start hM0
  obtain ⟨A2v, hA2v⟩ : ∃ A, r.A2 = A := ⟨_, rfl⟩
  obtain ⟨A3v, hA3v⟩ : ∃ A, r.A3 = A := ⟨_, rfl⟩
  have HA2V := Aside0.mk hA2v
  have HA3V := Aside0.mk hA3v
  have HSY := Aside0.mk (show ∀ W', Chg (fun i => i = r.Mb) Wb W' → SyAt W' w.heap.size A2v r.rs.length r.c2 from fun W' hc => by rw [← hA2v]; exact cell_map hM0 hc (by simp [World.cell?, hn0]))
  have HRO := Aside0.mk hro
  have HST0 := Aside0.mk hst0
  have HM0 := Aside0.mk hM0
  have HS := Aside0.mk hsort
  have HG := Aside0.mk (show Good 0 ([] ++ (rg r.l.length (oldL r) ++ (askL 6 0 noS [0] ++ (askL 3 1 callS [2] ++ (askL 3 1 applyS [3] ++ (askL 4 1 noS [0] ++ (askL 4 2 noS [1] ++ (askL 4 3 noS [1] ++ (rg r.rs.length (newL r) ++ []))))))))) by
    rw [List.nil_append, List.append_nil]; exact hg)
  have hwl : ∀ f ∈ r.l, wfI f.f3 := fun f hf => by
    obtain ⟨i, hi, rfl⟩ := List.getElem_of_mem hf
    have h1 := hg.1 r.l[i] (by
      unfold roundL
      refine List.mem_append_left _ (mem_rg.2 ⟨i, hi, ?_⟩)
      unfold oldL rd_T41
      rw [Int.toNat_natCast, List.getD_eq_getElem?_getD, List.getElem?_eq_getElem hi]
      exact List.mem_append_left _ (List.mem_singleton.2 rfl))
    exact h1.2.2.2
  have HWL := Aside0.mk hwl
  have HN := Aside0.mk hN
  have HBR := Aside0.mk hBr
  have hlm : r.l.length ≤ 9223372036854775807 := hl.2.1
  have hrm : r.rs.length ≤ 9223372036854775807 := hr.2.1
  clear hf hr hl hg hsort hst0 hro hM0 hn0 hn2 hbb hwl hN
  rw [hA2v, hA3v]
  clear hA2v hA3v
  go_enter Try.func21, Try.ntmps21
  have HWB := Aside0.mk hWb
  clear hWb
  go_wp2
  have hWr : ((w.alloc (.cells #[.int .i64 r.s0, .slice r.A1 r.fs.length r.c1, .slice A2v r.rs.length r.c2] 25)).alloc (.map #[] 0)).alloc (.cells #[.int .i64 r.s0, .slice r.A1 r.fs.length r.c1, .slice A2v r.rs.length r.c2, .slice A3v r.l.length r.c3, .map (some (w.heap.size + 1))] 66) = Wb := by
    rw [HWB.out, Ro.cells, hMb, HA2V.out, HA3V.out]
  rw [hWr]
  clear hWr HWB hmk
  rw [show w.heap.size + 1 + 1 = r.Br by omega]
  clear hBr hMb
  go_loopg [17] r.l.length (fun kq v17 W_ => ∃ k : Nat, v17 = .int .i64 k ∧ k + kq = r.l.length ∧ StA r 0 (fun _ => false) (rg k (oldL r)) Wb W_)
  case atStart => exact ⟨0, rfl, by omega, HST0.out⟩
  case round =>
    clear HST0
    obtain ⟨k, rfl, hk, hst⟩ := hrel
    have HST := Aside0.mk hst
    by_cases hlt : k < r.l.length
    · obtain ⟨ad, hA3, hd0, hd1, hd2, hd3⟩ := at_T41 (Kd.C_below HRO.out.hl (HRO.out.asked hst.ch).bel) (k : Int) (by omega) (by omega)
      rw [Int.toNat_natCast] at hd0 hd1 hd2 hd3
      have HGK := Aside0.mk (HG.out.loop hlt)
      have HRG := Aside0.mk (rg_succ k (oldL r))
      have HFK := Aside0.mk (show oldL r k = [rd_T41 r.l (k : Int)] ++ builtL r (rd_T41 r.l (k : Int)) from rfl)
      generalize rd_T41 r.l (k : Int) = f at *
      rw [HFK.out, List.append_assoc, List.nil_append] at HGK
      obtain ⟨f0, f1, f2, f3⟩ := f
      dsimp only at hd0 hd1 hd2 hd3
      obtain ⟨Wf, hWf⟩ : ∃ Wf, Wf = wr.alloc (.cells #[.int .i64 f0, .int .i64 f1, .string f2, .int .i64 f3] 41) := ⟨_, rfl⟩
      have hbf : Below wr.heap.size wr Wf := by rw [hWf]; exact below_alloc (Below.refl _ wr) _
      have HCHF := Aside0.mk (show Chg (fun i => i = r.Mb) Wb Wf from hst.ch.then_below hbf)
      have hstf := (hst.quiet hbf).here
      have hnf : Wf.heap[wr.heap.size]? = some (.cells #[.int .i64 f0, .int .i64 f1, .string f2, .int .i64 f3] 41 (0, 0)) := by rw [hWf]; exact heap_alloc_new _ _
      have HFC := Aside0.mk (show ∀ W', Chg (fun i => i = r.Mb) Wf W' → FaAt W' wr.heap.size f0 f1 f2 f3 from fun W' hc => by
        have hc' : ∀ j v, (#[.int .i64 f0, .int .i64 f1, .string f2, .int .i64 f3] : Array Value)[j]? = some v → W'.cell? ⟨wr.heap.size, j, none⟩ = some v := fun j v hv => cell_map hstf.set hc (by simp [World.cell?, hnf, hv])
        exact ⟨hc' 0 _ rfl, hc' 1 _ rfl, hc' 2 _ rfl, hc' 3 _ rfl⟩)
      have HROF := Aside0.mk (HRO.out.asked HCHF.out)
      have HD4 := Aside0.mk (show ∀ W', Chg (fun i => i = r.Mb) Wf W' → W'.cell? ⟨r.Br, 4, none⟩ = some (.map (some r.Mb)) from fun W' hc => (HROF.out.asked hc).cell 4)
      have HST := Aside0.mk hstf
      have HWF := Aside0.mk hWf
      obtain rfl : A3v = some ad := HA3V.out.symm.trans hA3
      clear hWf hst hstf hnf hbf hA3
      go_wp2
      rw [← HWF.out]
      clear hd0 hd1 hd2 hd3
      obtain ⟨Wd, hWd⟩ : ∃ Wd, Wf.drew = Wd := ⟨_, rfl⟩
      have HST := Aside0.mk (HST.out.quiet (W' := Wd) (by rw [← hWd]; exact below_drew (Below.refl _ _)))
      refine start_ (n := 6) (S := fun W' => Chg (fun i => i = r.Mb) Wf W') (ds := [5]) #[false, false, false, false, false, false] (by kernel_rfl) rfl rfl (by rw [hWd]; exact HST.out.ch) (fun hHeld => ?_)
      rw [hWd] at hHeld ⊢
      refine with_tabW rotab5 robits5 (fun HT_ HW_ => ?_)
      refine pure_ (i := 0) (N := some 21) (v := ?_) (a' := ?_) #[true, false, false, false, false, false] rfl rfl (any_of HT_.out (by kernel_rfl)) (fun _ _ _ h => h) (Or.inl ⟨by rfl, ?_⟩) ?_ ?_
      rotate_left
      · intro w'
        first | (go_simp; with_reducible rfl)
      rotate_left
      · simp only [Act.put, List.setIfInBounds_toArray, List.set_cons_zero, List.set_cons_succ, i64_w, i32_w]
        rfl
      refine pure_ (i := 1) (N := some 22) (v := ?_) (a' := ?_) #[true, true, false, false, false, false] rfl rfl (any_of HT_.out (by kernel_rfl)) (fun _ _ _ h => h) (Or.inl ⟨by rfl, ?_⟩) ?_ ?_
      rotate_left
      · intro w'
        first | (go_simp; with_reducible rfl)
      rotate_left
      · simp only [Act.put, List.setIfInBounds_toArray, List.set_cons_zero, List.set_cons_succ, i64_w, i32_w]
        rfl
      refine pure_ (i := 2) (N := some 23) (v := ?_) (a' := ?_) #[true, true, true, false, false, false] rfl rfl (any_of HT_.out (by kernel_rfl)) (fun _ _ _ h => h) (Or.inl ⟨by rfl, ?_⟩) ?_ ?_
      rotate_left
      · intro w'
        first | (go_simp; with_reducible rfl)
      rotate_left
      · simp only [Act.put, List.setIfInBounds_toArray, List.set_cons_zero, List.set_cons_succ, i64_w, i32_w]
        rfl
      refine take_ (i := 3) (N := some 24) (v := ?_) (a' := ?_) #[true, true, true, true, false, false] rfl rfl (take_ofW HT_.out HW_.out (by kernel_rfl)) (fun _ _ _ h => h) (Or.inl ⟨by rfl, ?_⟩) hHeld ?_ ?_
      rotate_left
      · intro w' hw'
        have d4 := HD4.out w' hw'
        first | (go_simp; with_reducible rfl)
      rotate_left
      · simp only [Act.put, List.setIfInBounds_toArray, List.set_cons_zero, List.set_cons_succ, i64_w, i32_w]
        rfl
      refine take_ (i := 4) (N := some 25) (v := ?_) (a' := ?_) #[true, true, true, true, true, false] rfl rfl (take_ofW HT_.out HW_.out (by kernel_rfl)) (fun _ _ _ h => h) (Or.inl ⟨by rfl, ?_⟩) hHeld ?_ ?_
      rotate_left
      · intro w' hw'
        obtain ⟨y0, y1, y2, y3⟩ := HFC.out w' hw'
        first | (go_simp; with_reducible rfl)
      rotate_left
      · simp only [Act.put, List.setIfInBounds_toArray, List.set_cons_zero, List.set_cons_succ, i64_w, i32_w]
        rfl
      refine last_ (i := 5) (N := none) #[true, true, true, true, true, true] rfl rfl (one_of HT_.out (by kernel_rfl)) (by decide) (fun K hK => ?_)
      obtain ⟨W2, hput, hst2, hg2⟩ := st_put HST.out HGK.out
      dsimp only [aggF] at hput
      refine skip_step (w1 := W2) (by rfl) (by first | (go_simp; done) | (go_simp; rfl)) ?_
      have HST := Aside0.mk hst2
      have HGK := Aside0.mk hg2
      clear hst2 hg2 hput
      refine hK.out _ _ ?_
      clear hK K
      refine norm_ (a' := ?_) ?_ ?_
      rotate_left
      · show Act.put _ (none) _ = _
        simp only [Act.put, List.setIfInBounds_toArray, List.set_cons_zero, List.set_cons_succ, i64_w, i32_w]
        rfl
      refine done_ (done_of HT_.out (by kernel_rfl)) ?_
      obtain ⟨y0, y1, y2, y3⟩ := HFC.out W2 HST.out.ch
      go_wp2_with fail
      clear y0 y1 y2 y3
      refine (builtins_calls HROF.out HST.out ⟨f0, f1, f2, f3⟩ HGK.out HS.out hlen hfl hs0 HWL.out).mono ?_
      rintro e W3 ⟨rfl, hst_, hg_⟩
      have HST := Aside0.mk hst_
      clear hst_ hg_
      go_wp2
      go_roundg (gk - 1)
      case measure => omega
      case rel => exact ⟨k + 1, by go_num, by omega, by rw [HRG.out, HFK.out, ← List.append_assoc]; exact HST.out.rebase HCHF.out⟩
    · obtain rfl : k = r.l.length := by omega
      have HGK := Aside0.mk HG.out.next
      clear hst HG
      rw [List.nil_append] at HGK
      go_wp2_with fail
      refine (st_ask1 HRO.out HST.out HGK.out rfl).mono ?_
      rintro e W2 ⟨rfl, hst_, hg_⟩
      have HST := Aside0.mk hst_
      have HGK := Aside0.mk hg_
      clear hst_ hg_
      go_wp2_with fail
      refine (st_ask1 HRO.out HST.out HGK.out rfl).mono ?_
      rintro e W3 ⟨rfl, hst_, hg_⟩
      have HST := Aside0.mk hst_
      have HGK := Aside0.mk hg_
      clear hst_ hg_
      go_wp2_with fail
      refine (st_ask1 HRO.out HST.out HGK.out rfl).mono ?_
      rintro e W4 ⟨rfl, hst_, hg_⟩
      have HST := Aside0.mk hst_
      have HGK := Aside0.mk hg_
      clear hst_ hg_
      go_wp2_with fail
      refine (st_ask1 HRO.out HST.out HGK.out rfl).mono ?_
      rintro e W5 ⟨rfl, hst_, hg_⟩
      have HST := Aside0.mk hst_
      have HGK := Aside0.mk hg_
      clear hst_ hg_
      go_wp2_with fail
      refine (st_ask1 HRO.out HST.out HGK.out rfl).mono ?_
      rintro e W6 ⟨rfl, hst_, hg_⟩
      have HST := Aside0.mk hst_
      have HGK := Aside0.mk hg_
      clear hst_ hg_
      go_wp2_with fail
      refine (st_ask1 HRO.out HST.out HGK.out rfl).mono ?_
      rintro e W7 ⟨rfl, hst_, hg_⟩
      have HST := Aside0.mk hst_
      have HGK := Aside0.mk hg_
      clear hst_ hg_
      obtain ⟨Lc, hLc⟩ : ∃ Lc, Lc = rg r.l.length (oldL r) ++ askL 6 0 noS [0] ++ askL 3 1 callS [2] ++ askL 3 1 applyS [3] ++ askL 4 1 noS [0] ++ askL 4 2 noS [1] ++ askL 4 3 noS [1] := ⟨_, rfl⟩
      have HST4 := Aside0.mk (show StA r 0 (fun _ => false) Lc Wb W7 by rw [hLc]; exact HST.out)
      have HG4 := Aside0.mk (show Good 0 (Lc ++ (rg r.rs.length (newL r) ++ [])) by rw [hLc]; exact HGK.out)
      have HLC := Aside0.mk hLc
      have s2 := HSY.out W7 HST.out.ch
      unfold SyAt at s2
      clear hLc HST HGK
      go_wp2
      clear s2
      go_loopg [51] r.rs.length (fun kq v51 W_ => ∃ k : Nat, v51 = .int .i64 k ∧ k + kq = r.rs.length ∧ StA r 0 (fun _ => false) (Lc ++ rg k (newL r)) Wb W_)
      case atStart => exact ⟨0, rfl, by omega, by rw [rg_zero, List.append_nil]; exact HST4.out⟩
      case round =>
        clear HST4
        obtain ⟨k, rfl, hk, hst⟩ := hrel
        have HST := Aside0.mk hst
        by_cases hlt : k < r.rs.length
        · obtain ⟨ad, A8, c8, hA2, hd0, hd1, hd2, hd3, hd4, hd5, hd6, hd7, hd8, hcl, hcr⟩ := at_T46 (Kd.C_below HRO.out.hr (HRO.out.asked hst.ch).bel) (k : Int) (by omega) (by omega)
          rw [Int.toNat_natCast] at hd0 hd1 hd2 hd3 hd4 hd5 hd6 hd7 hd8
          have HGK := Aside0.mk (HG4.out.loop hlt)
          have HRG := Aside0.mk (rg_succ k (newL r))
          have HFK := Aside0.mk (show newL r k = if 0 < (bsL r.l 6 (rd_T46 r.rs (k : Int)).f1).length then ruleL r (rd_T46 r.rs (k : Int)) else [] from rfl)
          have HNK := Aside0.mk (HN.out (rd_T46 r.rs (k : Int)) (by
            unfold rd_T46
            rw [Int.toNat_natCast, List.getD_eq_getElem?_getD, List.getElem?_eq_getElem hlt]
            exact List.getElem_mem hlt))
          generalize rd_T46 r.rs (k : Int) = x at *
          obtain ⟨x0, x1, x2, x3, x4, x5, x6, x7, x8⟩ := x
          dsimp only at hd0 hd1 hd2 hd3 hd4 hd5 hd6 hd7 hd8 hcl hcr
          obtain ⟨Wf, hWf⟩ : ∃ Wf, Wf = wr.alloc (.cells (ruCells ⟨x0, x1, x2, x3, x4, x5, x6, x7, x8⟩ A8 c8) 46) := ⟨_, rfl⟩
          have hbf : Below wr.heap.size wr Wf := by rw [hWf]; exact below_alloc (Below.refl _ wr) _
          have HCHF := Aside0.mk (show Chg (fun i => i = r.Mb) Wb Wf from hst.ch.then_below hbf)
          have hstf := (hst.quiet hbf).here
          have hnf : Wf.heap[wr.heap.size]? = some (.cells (ruCells ⟨x0, x1, x2, x3, x4, x5, x6, x7, x8⟩ A8 c8) 46 (0, 0)) := by rw [hWf]; exact heap_alloc_new _ _
          have HXC := Aside0.mk (show ∀ W', Chg (fun i => i = r.Mb) Wf W' → RuAt W' wr.heap.size x0 x1 x2 x3 x4 x5 x6 x7 x8.length A8 c8 from fun W' hc => by
            have hc' : ∀ j v, (ruCells ⟨x0, x1, x2, x3, x4, x5, x6, x7, x8⟩ A8 c8)[j]? = some v → W'.cell? ⟨wr.heap.size, j, none⟩ = some v := fun j v hv => cell_map hstf.set hc (by simp [World.cell?, hnf, hv])
            exact ⟨hc' 0 _ rfl, hc' 1 _ rfl, hc' 2 _ rfl, hc' 3 _ rfl, hc' 4 _ rfl, hc' 5 _ rfl, hc' 6 _ rfl, hc' 7 _ rfl, hc' 8 _ rfl⟩)
          have HROF := Aside0.mk (HRO.out.asked HCHF.out)
          have HAR := Aside0.mk (show ∀ W', Chg (fun i => i = r.Mb) Wf W' → Kd.C (Kd.int .i64) W' A8 x8.length x8 from fun W' hc => intC_map hstf.set hc (Kd.C_below hcr hbf))
          have HST := Aside0.mk hstf
          have HWF := Aside0.mk hWf
          obtain rfl : A2v = some ad := HA2V.out.symm.trans hA2
          obtain ⟨y0, y1, y2, y3, y4, y5, y6, y7, y8⟩ := HXC.out Wf HST.out.ch
          unfold ruCells at hWf
          rw [hWf] at y0 y1 y2 y3 y4 y5 y6 y7 y8
          clear hWf hst hstf hnf hbf hA2 hcr hcl
          go_wp2_with fail
          have hWr : wr.alloc (.cells #[.int .i64 x0, .int .i64 x1, .int .i64 x2, .int .i64 x3, .int .i64 x4, .int .i64 x5, .int .i64 x6, .string x7, .slice A8 x8.length c8] 46) = Wf := HWF.out.symm
          rw [hWr]
          clear y0 y1 y2 y3 y4 y5 y6 y7 y8 hWr hd0 hd1 hd2 hd3 hd4 hd5 hd6 hd7 hd8
          refine (st_bs HROF.out HST.out 6 x1 HS.out hlen).mono ?_
          rintro e W5 ⟨A5, c5, rfl, hC_, hst_⟩
          have HST := Aside0.mk hst_
          clear hst_ hC_
          by_cases hin : 0 < (bsL r.l 6 x1).length
          · have HF1 := Aside0.mk (HFK.out.trans (if_pos hin))
            rw [HF1.out] at HGK
            obtain ⟨y0, y1, y2, y3, y4, y5, y6, y7, y8⟩ := HXC.out W5 HST.out.ch
            have hin' : decide (((bsL r.l 6 x1).length : Int) > 0) = true := decide_eq_true (by omega)
            go_wp2_with fail
            clear y0 y1 y2 y3 y4 y5 y6 y7 y8
            refine (rule_calls HROF.out HST.out ⟨x0, x1, x2, x3, x4, x5, x6, x7, x8⟩ HGK.out (HAR.out _ HST.out.ch) HS.out hlen hfl hfc hs0 HWL.out HNK.out).mono ?_
            rintro e W6 ⟨rfl, hst_, hg_⟩
            have HST := Aside0.mk hst_
            clear hst_ hg_
            go_wp2
            go_roundg (gk - 1)
            case measure => omega
            case rel => exact ⟨k + 1, by go_num, by omega, by rw [HRG.out, HF1.out, ← List.append_assoc]; exact HST.out.rebase HCHF.out⟩
          · have HF1 := Aside0.mk (HFK.out.trans (if_neg hin))
            have hin' : decide (((bsL r.l 6 x1).length : Int) > 0) = false := decide_eq_false (by omega)
            go_wp2
            go_roundg (gk - 1)
            case measure => omega
            case rel => exact ⟨k + 1, by go_num, by omega, by rw [HRG.out, HF1.out, List.append_nil]; exact HST.out.rebase HCHF.out⟩
        · obtain rfl : k = r.rs.length := by omega
          have HGK := Aside0.mk (show Good 0 (Lc ++ rg r.rs.length (newL r)) by have h9 := HG4.out.next; rwa [List.append_nil] at h9)
          clear hst HG4
          have d4 : wr.cell? ⟨r.Br, 4, none⟩ = some (.map (some r.Mb)) := (HRO.out.asked HST.out.ch).cell 4
          have HRE := Aside0.mk (show Lc ++ rg r.rs.length (newL r) = roundL r by rw [HLC.out, roundL]; simp only [List.append_assoc])
          rw [HRE.out] at HST HGK
          clear HLC
          go_wp2_with fail
          refine (keys_calls _ _).mono ?_
          rintro e W8 ⟨rfl, hw8⟩
          have hb8 : Below wr.heap.size wr W8 := by rw [hw8]; exact below_alloc (Below.refl _ _) _
          have hk8 : W8.cell? ⟨wr.heap.size, 0, none⟩ = some (.map (some r.Mb)) := by rw [hw8]; exact (cell_of_blk (heap_alloc_new _ _)).1
          have hst8 := HST.out.quiet hb8
          have hbw : Below w.heap.size w W8 := (HRO.out.asked hst8.ch).bel
          have hit := keys1_iter W8 w.heap.size wr.heap.size r.Mb _ _ hbw.size hk8 hst8.set
          have HBW := Aside0.mk hbw
          have hlt8 : wr.heap.size < W8.heap.size := by rw [hw8]; simp
          have hltm := hst8.set.lt
          have HSO := Aside0.mk (sortedF_calls (enters_of Try.func60 (by kernel_rfl) rfl) hit (Below.refl _ W8) hbw.size (fun i hi => by rcases hi with rfl | rfl <;> omega)
            (fun p x hx => Nat.lt_of_lt_of_le hx.2.2.2 (by have := HGK.out.2; simpa using this))
            (fun xs hx => Nat.le_trans (hx.1.length_le_of_subset (l₂ := roundL r) (fun f hf => by
              have h1 := (hx.2.2 f (hx.2.1 f hf)).1 hf
              simpa [addS] using h1)) (by have := HGK.out.2; simpa using this)))
          have HGK := Aside0.mk HGK.out.1
          clear hit hk8 hst8 hbw hltm hb8 hw8 d4
          go_wp2_with fail
          refine HSO.out.mono ?_
          rintro e W9 ⟨v, xs, ys, rfl, hS, hp, hso, hrow, hb⟩
          have HE := Aside0.mk (factSet_of_nodup (zs := roundL r) hS.1 hp hso (fun f => ⟨fun hf => by
            have h1 := (hS.2.2 f (hS.2.1 f hf)).1 hf
            simpa [addS] using h1, fun hf => (hS.2.2 f (HGK.out f hf)).2 (by simp [addS, hf])⟩))
          have HROW := Aside0.mk hrow
          have HB := Aside0.mk hb
          clear hS hp hso hrow hb HSO
          go_wp2
          go_ret
          rw [← HE.out]
          exact ⟨v, rfl, HROW.out.lower HBW.out.size, HBW.out.trans HB.out⟩
end Go.Proofs.Ytngppcmdaanheaa.Ls

/- solve.areSets, as a contract that the print takes. No condition. -/
namespace Go.Proofs.Ytngppcmdaanheaa.Ls
open Go.RowKit Go.Maps Go.Proofs.Ytngppcmdaanheaa.Iter Go.Proofs.Ytngppcmdaanheaa.ISet Go.Proofs.Ytngppcmdaanheaa.Pr Go.Proofs.Ytngppcmdaanheaa.Ext Go.Proofs.YtngppcmdaanheaaW.PrintWords Go.Proofs.YtngppcmdaanheaaW.PrintLast Go.Proofs.YtngppcmdaanheaaW.PrintMore
set_option linter.unusedVariables false
set_option linter.unusedSimpArgs false
theorem cell_of_blk4 {W : World} {g : Nat} {t : TypeId} {a b c : Value} (h : W.heap[g]? = some (.cells #[a, b, c] t (0, 0))) : W.cell? ⟨g, 0, none⟩ = some a := by
  simp [World.cell?, h]
def isNo (s0 : Int) (n : Int) : Bool := decide (n < 0) || decide (n ≥ s0)
def setsB (s0 : Int) (l : List Int) : Bool := !(l.any (isNo s0))
theorem areSets1_calls (s0 n : Int) (b : Nat) (w : World) (h : w.cell? ⟨b, 0, none⟩ = some (.int .i64 s0)) :
    Calls Try.prog 65 #[.int .i64 n, .pointer (some ⟨b, 0, none⟩)] w fun e w' => e = .returned (.bool (isNo s0 n)) ∧ Below w.heap.size w w' := by
  by_cases hn : n < 0
  · have hd : decide (n < 0) = true := decide_eq_true hn
    have he : isNo s0 n = true := by unfold isNo; rw [hd]; rfl
    rw [he]
    go_enter Try.func65, Try.ntmps65
    go_wp2
    go_ret
    exact ⟨rfl, Below.refl _ _⟩
  · have hd : decide (n < 0) = false := decide_eq_false hn
    have he : isNo s0 n = decide (n ≥ s0) := by unfold isNo; rw [hd]; rfl
    rw [he]
    go_enter Try.func65, Try.ntmps65
    go_wp2
    go_ret
    exact ⟨rfl, Below.refl _ _⟩
def solve_areSets.f (a0_0 : Int) (l0_1 : List S44) (l0_2 : List S46) (l1 : List Int) : Option Bool := if l1.length ≤ 140737488355328 then some (setsB a0_0 l1) else none
theorem solve_areSets.calls (a0_0 : Int) (A0_1 : Option Addr) (c0_1 : Nat) (l0_1 : List S44) (A0_2 : Option Addr) (c0_2 : Nat) (l0_2 : List S46) (A1 : Option Addr) (c1 : Nat) (l1 : List Int) (r : Bool) (w : World)
    (hr0_1 : Kd.C k44 w A0_1 l0_1.length l0_1) (hc0_1 : l0_1.length ≤ c0_1) (hr0_2 : Kd.C k46 w A0_2 l0_2.length l0_2) (hc0_2 : l0_2.length ≤ c0_2) (hr1 : Kd.C (Kd.int .i64) w A1 l1.length l1) (hc1 : l1.length ≤ c1) (h : solve_areSets.f a0_0 l0_1 l0_2 l1 = some r) :
    Calls Try.prog 46 #[.agg #[.int .i64 a0_0, .slice A0_1 l0_1.length c0_1, .slice A0_2 l0_2.length c0_2], .slice A1 l1.length c1] w fun e w' => e = .returned (.bool r) ∧ Below w.heap.size w w' := by
  unfold solve_areSets.f at h
  by_cases hl : l1.length ≤ 140737488355328
  · rw [if_pos hl] at h
    obtain rfl : setsB a0_0 l1 = r := by injection h
    have hb : Below w.heap.size w (w.alloc (.cells #[.int .i64 a0_0, .slice A0_1 l0_1.length c0_1, .slice A0_2 l0_2.length c0_2] 25)) := below_alloc (Below.refl _ w) _
    have hc : (w.alloc (.cells #[.int .i64 a0_0, .slice A0_1 l0_1.length c0_1, .slice A0_2 l0_2.length c0_2] 25)).cell? ⟨w.heap.size, 0, none⟩ = some (.int .i64 a0_0) := cell_of_blk4 (heap_alloc_new _ _)
    have HI := Aside0.mk (containsI (.func (.func 65) #[] #[.pointer (some ⟨w.heap.size, 0, none⟩)]) (isNo a0_0) A1 c1 l1 _
      ⟨_, _, rfl, (enters_of Try.func65 (by kernel_rfl) rfl), fun W' hb' n => areSets1_calls a0_0 n _ W' ((hb'.cell (by simp)).trans hc)⟩ (Kd.C_below hr1 hb) hc1 hl)
    have HB := Aside0.mk hb
    clear hb hc hr0_1 hr0_2 hr1
    go_enter Try.func46, Try.ntmps46
    go_wp2_with (go_at_call 64; refine HI.out.mono ?_; rintro e w1 ⟨rfl, hb1⟩; have HB1 := Aside0.mk (below_step HB.out hb1); clear hb1)
    go_ret
    exact ⟨rfl, HB1.out⟩
  · rw [if_neg hl] at h
    cases h
end Go.Proofs.Ytngppcmdaanheaa.Ls

