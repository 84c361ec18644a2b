/- Lemmas for the claims of this seat (own texts, packed; what the claims do not use is left out). No condition. -/
import Derived.Deep.Slices
import Derived.ChangeSlices
import Derived.DataReads
import Derived.Test.YtngppcmdaanheaaRows
import Derived.WalkKit
import Derived.ProofKit
import Derived.OpenShut
import Derived.ShutString
import Derived.ChangeOld
import Derived.Below
import Derived.SizedLaws
import Derived.Test.YtngppcmdaanheaaMi0
import Derived.Test.YtngppcmdaanheaaMi1
import Derived.Test.YtngppcmdaanheaaMi2
import Derived.Test.YtngppcmdaanheaaMi3
import Derived.Test.YtngppcmdaanheaaMi4
import Derived.Test.YtngppcmdaanheaaMi5
/- What a round asks for may be facts, and is not too much. No condition. -/
namespace Go.Proofs.Ytngppcmdaanheaa.Lv
open Go.RowKit Go.Proofs.Ytngppcmdaanheaa.ISet Go.Proofs.Ytngppcmdaanheaa.Pr Go.Proofs.Ytngppcmdaanheaa.Ls Go.Proofs.Ytngppcmdaanheaa.Ev Go.Proofs.YtngppcmdaanheaaW.PrintWords Go.Proofs.YtngppcmdaanheaaW.PrintMore
set_option linter.unusedVariables false
set_option linter.unusedSimpArgs false
abbrev FunT := S44
abbrev RuT := S46
def Mk (x : Int) : Prop := 0 ≤ x ∧ x ≤ 1000001
def InR (f : Fa) : Prop := 3 ≤ f.f0 ∧ f.f0 ≤ 9 ∧ Mk f.f1 ∧ Mk f.f3 ∧ f.f2.size ≤ maxLen
theorem InR.wf {f : Fa} (h : InR f) : wfF f := by
  obtain ⟨h0, h1, ⟨h2, h3⟩, ⟨h4, h5⟩, h6⟩ := h
  have hw : ∀ x : Int, 0 ≤ x → x ≤ 1000001 → (Lit.int .i64 x).wf = true := fun x a b => by
    have h1 : IntKind.i64.min = -9223372036854775808 := by decide
    have h2 : IntKind.i64.max = 9223372036854775807 := by decide
    simp only [Lit.wf, Bool.and_eq_true, decide_eq_true_iff, h1, h2]
    omega
  exact ⟨hw _ (by omega) (by omega), hw _ h2 h3, h6, hw _ h4 h5⟩
def All (L : List Fa) : Prop := ∀ f ∈ L, InR f
theorem All.nil : All [] := fun f h => by cases h
theorem All.app {L M : List Fa} (h : All L) (k : All M) : All (L ++ M) := fun f hf => (List.mem_append.1 hf).elim (h f) (k f)
theorem All.rg {n : Nat} {F : Nat → List Fa} (h : ∀ i, i < n → All (F i)) : All (rg n F) := fun f hf => by
  obtain ⟨i, hi, hm⟩ := mem_rg.1 hf
  exact h i hi f hm
theorem noS_le : noS.size ≤ maxLen := by decide
theorem protoS_le : protoS.size ≤ maxLen := by decide
theorem All.ask {kind a : Int} {s : ByteArray} {xs : List Int} (hk : 3 ≤ kind ∧ kind ≤ 9) (ha : Mk a) (hs : s.size ≤ maxLen) (hx : ∀ x ∈ xs, Mk x) : All (askL kind a s xs) := fun f hf => by
  obtain ⟨x, h, rfl⟩ := List.mem_map.1 hf
  exact ⟨hk.1, hk.2, ha, hx x h, hs⟩
theorem one_mk {x y : Int} (h : Mk x) : y ∈ [x] → Mk y := fun k => by rw [List.mem_singleton.1 k]; exact h
theorem rg_len {n : Nat} {F : Nat → List Fa} {B : Nat} (h : ∀ i, i < n → (F i).length ≤ B) : (rg n F).length ≤ n * B := by
  induction n with
  | zero => simp [rg_zero]
  | succ n ih =>
    rw [rg_succ, List.length_append, Nat.succ_mul]
    have h1 := ih (fun i hi => h i (by omega))
    have h2 := h n (by omega)
    omega
theorem askL_len (kind a : Int) (s : ByteArray) (xs : List Int) : (askL kind a s xs).length = xs.length := by simp [askL]
/-! ### systems and facts that may be -/
def InS (s0 x : Int) : Prop := 0 ≤ x ∧ x < s0
theorem setsB_iff {s0 : Int} {l : List Int} : setsB s0 l = true ↔ ∀ x ∈ l, InS s0 x := by
  unfold setsB
  rw [Bool.not_eq_true', List.any_eq_false]
  refine ⟨fun h x hx => ?_, fun h x hx => ?_⟩
  · have h1 := h x hx
    simp only [isNo, Bool.or_eq_true, decide_eq_true_iff, not_or] at h1
    exact ⟨by omega, by omega⟩
  · have h1 := h x hx
    simp only [isNo, Bool.or_eq_true, decide_eq_true_iff, not_or]
    exact ⟨by have := h1.1; omega, by have := h1.2; omega⟩
structure SysOk (s0 : Int) (fs : List FunT) (rs : List RuT) : Prop where
  s : 9 ≤ s0 ∧ s0 ≤ 100000
  fn : 1 ≤ fs.length ∧ fs.length ≤ 15
  rn : rs.length ≤ 40
  f : ∀ f ∈ fs, f.f1.length ≤ 200 ∧ (∀ p ∈ f.f1, InS s0 p) ∧ InS s0 f.f2 ∧ InS s0 f.f3 ∧ InS s0 f.f4
  fm : ∀ i : Nat, 0 < i → i < fs.length → 4 ≤ (rd_T44 fs (i : Int)).f0 ∧ (rd_T44 fs (i : Int)).f0 < 1000000
  r : ∀ x ∈ rs, fitsB s0 fs.length x = true ∧ x.f8.length ≤ 205 ∧ x.f7.size ≤ maxLen
structure FactOk (s0 : Int) (nf : Nat) (f : Fa) : Prop where
  a : Mk f.f1
  b : Mk f.f3
  k : f.f0 = 3 ∨ f.f0 = 4 ∨ f.f0 = 5 ∨ f.f0 = 6 ∧ f.f1 < nf ∧ f.f3 = 0 ∨ f.f0 = 8 ∨ f.f0 = 9 ∧ f.f1 < s0
  s : f.f0 ≠ 3 → f.f2 = (⟨#[]⟩ : ByteArray)
structure FactsOk (s0 : Int) (nf : Nat) (l : List Fa) : Prop where
  ok : ∀ f ∈ l, FactOk s0 nf f
  srt : l.Pairwise LF
  len : l.length ≤ 100
  sz : ∀ f ∈ l, f.f2.size ≤ maxLen
theorem FactOk.inR {s0 : Int} {nf : Nat} {f : Fa} (h : FactOk s0 nf f) (hs : f.f2.size ≤ maxLen) : InR f := ⟨by rcases h.k with e | e | e | ⟨e, _⟩ | e | ⟨e, _⟩ <;> omega, by rcases h.k with e | e | e | ⟨e, _⟩ | e | ⟨e, _⟩ <;> omega, h.a, h.b, hs⟩
theorem InS.mk {s0 x : Int} (h : InS s0 x) (hs : s0 ≤ 100000) : Mk x := ⟨h.1, by have := h.2; omega⟩
section
variable {s0 : Int} {fs : List FunT} {rs : List RuT} {l : List Fa}
theorem bs_mk (hl : FactsOk s0 fs.length l) {kind a x : Int} (hx : x ∈ bsL l kind a) : Mk x := by
  unfold bsL toldR at hx
  obtain ⟨f, hf, rfl⟩ := List.mem_map.1 hx
  exact (hl.ok f (List.mem_filter.1 hf).1).b
theorem loads_mk (hl : FactsOk s0 fs.length l) {p : ByteArray → Bool} {m x : Int} (hx : x ∈ loadsL l p m) : Mk x := by
  unfold loadsL at hx
  obtain ⟨f, hf, rfl⟩ := List.mem_map.1 hx
  exact (hl.ok f (List.mem_filter.1 hf).1).b
theorem rdF_mem {i : Nat} (h : i < fs.length) : rd_T44 fs (i : Int) ∈ fs := by
  unfold rd_T44
  rw [Int.toNat_natCast, List.getD_eq_getElem?_getD, List.getElem?_eq_getElem h]
  exact List.getElem_mem h
theorem rdR_mem {i : Nat} (h : i < rs.length) : rd_T46 rs (i : Int) ∈ rs := by
  unfold rd_T46
  rw [Int.toNat_natCast, List.getD_eq_getElem?_getD, List.getElem?_eq_getElem h]
  exact List.getElem_mem h
theorem rdA_mem {i : Nat} (h : i < l.length) : rd_T41 l (i : Int) ∈ l := by
  unfold rd_T41
  rw [Int.toNat_natCast, List.getD_eq_getElem?_getD, List.getElem?_eq_getElem h]
  exact List.getElem_mem h
structure ClOk (s0 : Int) (N : Nat) (x : Cl) : Prop where
  mark : Mk x.mark
  this : ∀ y ∈ x.this, Mk y
  ret : Mk x.ret
  out : Mk x.out
  tl : x.this.length ≤ N
  al : x.args.length ≤ 205
theorem call_all (hs : SysOk s0 fs rs) (hl : FactsOk s0 fs.length l) {N : Nat} {x : Cl} (hx : ClOk s0 N x) {c : Int} (hc : Mk c) : All (callL (roC s0 fs rs l) x c) := by
  have hb : ∀ a, ∀ y ∈ bsL l 9 a, Mk y := fun a y hy => bs_mk hl hy
  have hspare : ∀ t, Mk t → Mk (t + 1) → Mk (t + 2) → Mk (t + 3) → All (spareAsk l x c t) := fun t h0 h1 h2 h3 => by
    unfold spareAsk
    refine All.app (All.ask (by omega) hx.mark noS_le (fun y => one_mk hc)) (All.app (All.ask (by omega) h0 noS_le hx.this) (All.app (All.rg (fun i _ => All.app (All.ask (by omega) h1 noS_le (hb _)) All.nil)) (All.app ?_ (All.app (All.ask (by omega) hx.ret noS_le (hb _)) (All.app (All.ask (by omega) hx.out noS_le (hb _)) All.nil)))))
    split
    · exact All.ask (by omega) h1 noS_le (hb _)
    · exact All.nil
  unfold callL
  refine All.app (All.rg (fun g hg => ?_)) ?_
  · unfold funAsk
    split
    · exact All.nil
    · obtain ⟨_, hp, h2, h3, h4⟩ := hs.f _ (rdF_mem hg)
      have hs1 := hs.s.2
      refine All.app (All.ask (by omega) hx.mark noS_le (fun y => one_mk hc)) (All.app (All.ask (by omega) ⟨by omega, by have := hs.fn.2; have hg' : g < fs.length := hg; omega⟩ noS_le (fun y => one_mk ⟨by omega, by omega⟩)) (All.app (All.ask (by omega) (h2.mk hs1) noS_le hx.this) (All.app (All.rg (fun i hi => ?_)) (All.app (All.ask (by omega) hx.ret noS_le (hb _)) (All.app (All.ask (by omega) hx.out noS_le (hb _)) All.nil)))))
      have hpi : Mk (rd (rd_T44 fs (g : Int)).f1 (i : Int)) := (hp _ (rd_mem _ i hi)).mk hs1
      unfold parAsk
      split
      · exact All.app (All.ask (by omega) hpi noS_le (hb _)) All.nil
      · split
        · exact All.app (All.ask (by omega) hpi noS_le (hb _)) All.nil
        · exact All.nil
  · have h1 := hs.s
    unfold tailAsk
    split
    · exact hspare _ ⟨by simp only [roC]; omega, by simp only [roC]; omega⟩ ⟨by simp only [roC]; omega, by simp only [roC]; omega⟩ ⟨by simp only [roC]; omega, by simp only [roC]; omega⟩ ⟨by simp only [roC]; omega, by simp only [roC]; omega⟩
    · split
      · exact hspare _ ⟨by simp only [roC]; omega, by simp only [roC]; omega⟩ ⟨by simp only [roC]; omega, by simp only [roC]; omega⟩ ⟨by simp only [roC]; omega, by simp only [roC]; omega⟩ ⟨by simp only [roC]; omega, by simp only [roC]; omega⟩
      · exact All.nil
theorem call_len (hs : SysOk s0 fs rs) (hl : FactsOk s0 fs.length l) {x : Cl} (hx : ClOk s0 100 x) (c : Int) : (callL (roC s0 fs rs l) x c).length ≤ 400000 := by
  have hb : ∀ a, (bsL l 9 a).length ≤ 100 := fun a => Nat.le_trans (bsL_le l 9 a) hl.len
  have h1 : (rg fs.length (funAsk l x c fs)).length ≤ fs.length * 20402 := rg_len (fun g hg => by
    unfold funAsk
    split
    · simp
    · have hp := (hs.f _ (rdF_mem hg)).1
      have h2 : (rg (rd_T44 fs (g : Int)).f1.length (parAsk l x (rd_T44 fs (g : Int)).f1)).length ≤ (rd_T44 fs (g : Int)).f1.length * 100 := rg_len (fun i hi => by
        unfold parAsk
        split
        · rw [List.append_nil, askL_len]; exact hb _
        · split
          · rw [List.append_nil, askL_len]; exact hb _
          · simp)
      have h3 := hb (rd_T44 fs (g : Int)).f3
      have h4 := hb (rd_T44 fs (g : Int)).f4
      have h5 := hx.tl
      simp only [List.length_append, askL_len, List.length_nil, List.length_singleton]
      omega)
  have h2 : ∀ t, (spareAsk l x c t).length ≤ 21000 := fun t => by
    unfold spareAsk
    have h3 : (rg x.args.length (argAsk l x t)).length ≤ x.args.length * 100 := rg_len (fun i hi => by
      unfold argAsk
      rw [List.append_nil, askL_len]; exact hb _)
    have h4 := hx.al
    have h5 := hx.tl
    have h6 := hb (t + 2)
    have h7 := hb (t + 3)
    have h8 : (if 0 ≤ x.each then askL 9 (t + 1) noS (bsL l 9 x.each) else []).length ≤ 100 := by
      split
      · rw [askL_len]; exact hb _
      · simp
    simp only [List.length_append, askL_len, List.length_nil, List.length_singleton]
    omega
  have h3 : (tailAsk s0 l x c).length ≤ 21000 := by
    unfold tailAsk
    split
    · exact h2 _
    · split
      · exact h2 _
      · simp
  have h4 := hs.fn.2
  show (rg fs.length (funAsk l x c fs) ++ tailAsk s0 l x c).length ≤ _
  rw [List.length_append]
  omega
end
end Go.Proofs.Ytngppcmdaanheaa.Lv

/- What a round asks for may be facts, and is not too much: rules, builtins, the round. No condition. -/
namespace Go.Proofs.Ytngppcmdaanheaa.Lv
open Go.RowKit Go.Proofs.Ytngppcmdaanheaa.ISet Go.Proofs.Ytngppcmdaanheaa.Pr Go.Proofs.Ytngppcmdaanheaa.Ls Go.Proofs.Ytngppcmdaanheaa.Ev Go.Proofs.YtngppcmdaanheaaW.PrintWords Go.Proofs.YtngppcmdaanheaaW.PrintMore
set_option linter.unusedVariables false
set_option linter.unusedSimpArgs false
section
variable {s0 : Int} {fs : List FunT} {rs : List RuT} {l : List Fa}
theorem isM_mk {m : Int} (h : isM m = true) : Mk m := by
  unfold isM at h
  split at h
  · have := of_decide_eq_true h
    exact ⟨by omega, by omega⟩
  · cases h
structure RuOk (s0 : Int) (nf : Nat) (x : RuT) : Prop where
  x2 : InS s0 x.f2
  k : kindB s0 nf x = true
theorem fitsB_ok {nf : Nat} {x : RuT} (h : fitsB s0 nf x = true) : RuOk s0 nf x := by
  unfold fitsB at h
  split at h
  · cases h
  · split at h
    · cases h
    · split at h
      · rename_i hs
        exact ⟨setsB_iff.1 hs x.f2 (List.mem_singleton.2 rfl), h⟩
      · cases h
theorem callB_ok {x : RuT} (h : callB s0 x = true) : Mk x.f6 ∧ InS s0 x.f3 ∧ InS s0 x.f5 := by
  unfold callB at h
  simp only [Bool.and_eq_true] at h
  obtain ⟨h1, h2, _⟩ := h
  exact ⟨isM_mk h1, setsB_iff.1 h2 _ (by simp), setsB_iff.1 h2 _ (by simp)⟩
theorem each_cases {nf : Nat} {x : RuT} (h : RuOk s0 nf x) : (x.f0 = 4 ∨ x.f0 = 5 ∨ x.f0 = 6 ∨ x.f0 = 7 ∨ x.f0 = 3 → InS s0 x.f3) ∧ (x.f0 = 8 ∨ x.f0 = 9 → Mk x.f6 ∧ InS s0 x.f3 ∧ InS s0 x.f5) := by
  have hk := h.k
  unfold kindB at hk
  constructor
  · intro hx
    rw [if_neg (by omega), if_neg (by omega), if_neg (by omega), if_neg (by omega), if_pos (by omega)] at hk
    exact setsB_iff.1 hk _ (List.mem_singleton.2 rfl)
  · rintro (hx | hx)
    · rw [if_neg (by omega), if_neg (by omega), if_pos hx] at hk
      split at hk
      · exact callB_ok hk
      · split at hk
        · exact callB_ok hk
        · cases hk
    · rw [if_neg (by omega), if_neg (by omega), if_neg (by omega), if_pos hx] at hk
      exact callB_ok hk
theorem clOk_rule (hs : SysOk s0 fs rs) (hl : FactsOk s0 fs.length l) {x : RuT} (h8 : x.f8.length ≤ 205) (h : Mk x.f6 ∧ InS s0 x.f3 ∧ InS s0 x.f5) {th : List Int} (ht : ∀ y ∈ th, Mk y) (htl : th.length ≤ 100) :
    ClOk s0 100 ⟨x.f6, th, x.f8, -1, x.f3, x.f5⟩ := ⟨h.1, ht, h.2.1.mk hs.s.2, h.2.2.mk hs.s.2, htl, h8⟩
theorem bsl100 (hl : FactsOk s0 fs.length l) (kind a : Int) : (bsL l kind a).length ≤ 100 := Nat.le_trans (bsL_le l kind a) hl.len
theorem each_all (hs : SysOk s0 fs rs) (hl : FactsOk s0 fs.length l) {x : RuT} (hx : x ∈ rs) {c : Int} (hc : Mk c) : All (eachL (roC s0 fs rs l) x c) := by
  obtain ⟨hf, h8, h7⟩ := hs.r x hx
  obtain ⟨e1, e2⟩ := each_cases (fitsB_ok hf)
  have hb : ∀ a, ∀ y ∈ bsL l 9 a, Mk y := fun a y hy => bs_mk hl hy
  have hs1 := hs.s.2
  unfold eachL
  by_cases h4 : x.f0 = 4
  · rw [if_pos h4]
    exact All.ask (by omega) ((e1 (by omega)).mk hs1) noS_le (fun y hy => loads_mk hl hy)
  rw [if_neg h4]
  by_cases h5 : x.f0 = 5
  · rw [if_pos h5]
    exact All.ask (by omega) ((e1 (by omega)).mk hs1) noS_le (fun y hy => loads_mk hl hy)
  rw [if_neg h5]
  by_cases h6 : x.f0 = 6
  · rw [if_pos h6]
    exact All.ask (by omega) hc h7 (hb _)
  rw [if_neg h6]
  by_cases h7' : x.f0 = 7
  · rw [if_pos h7']
    exact All.ask (by omega) hc noS_le (hb _)
  rw [if_neg h7']
  by_cases h8' : x.f0 = 8
  · rw [if_pos h8']
    refine call_all hs hl (clOk_rule hs hl h8 (e2 (.inl h8')) ?_ ?_) hc
    · split
      · exact hb _
      · intro y hy; cases hy
    · split
      · exact bsl100 hl _ _
      · simp
  rw [if_neg h8']
  by_cases h9 : x.f0 = 9
  · rw [if_pos h9]
    obtain ⟨m1, m2, m3⟩ := e2 (.inr h9)
    split
    · exact All.app (All.ask (by omega) (m2.mk hs1) noS_le (fun y => one_mk m1)) (All.app (All.ask (by omega) m1 noS_le (fun y => one_mk ⟨by omega, by omega⟩)) (All.app (All.ask (by omega) m1 noS_le (fun y hy => loads_mk hl hy)) (call_all hs hl (clOk_rule hs hl h8 ⟨m1, m2, m3⟩ (fun y => one_mk m1) (by simp)) hc)))
    · exact All.nil
  rw [if_neg h9]
  exact All.nil
theorem loads100 (hl : FactsOk s0 fs.length l) (p : ByteArray → Bool) (m : Int) : (loadsL l p m).length ≤ 100 := Nat.le_trans (loadsL_le l p m) hl.len
theorem each_len (hs : SysOk s0 fs rs) (hl : FactsOk s0 fs.length l) {x : RuT} (hx : x ∈ rs) (c : Int) : (eachL (roC s0 fs rs l) x c).length ≤ 500000 := by
  obtain ⟨hf, h8, h7⟩ := hs.r x hx
  obtain ⟨e1, e2⟩ := each_cases (fitsB_ok hf)
  have hs1 := hs.s.2
  unfold eachL
  by_cases h4 : x.f0 = 4
  · rw [if_pos h4, askL_len]
    have := loads100 hl (fun k => decide (k = x.f7)) c
    simp only [roC]; omega
  rw [if_neg h4]
  by_cases h5 : x.f0 = 5
  · rw [if_pos h5, askL_len]
    have := loads100 hl (fun _ => true) c
    simp only [roC]; omega
  rw [if_neg h5]
  by_cases h6 : x.f0 = 6
  · rw [if_pos h6, askL_len]
    have := bsl100 hl 9 x.f3
    simp only [roC]; omega
  rw [if_neg h6]
  by_cases h7' : x.f0 = 7
  · rw [if_pos h7', askL_len]
    have := bsl100 hl 9 x.f3
    simp only [roC]; omega
  rw [if_neg h7']
  by_cases h8' : x.f0 = 8
  · rw [if_pos h8']
    refine Nat.le_trans (call_len hs hl (clOk_rule hs hl h8 (e2 (.inl h8')) ?_ ?_) c) (by omega)
    · split
      · exact fun y hy => bs_mk hl hy
      · intro y hy; cases hy
    · split
      · exact bsl100 hl _ _
      · simp
  rw [if_neg h8']
  by_cases h9 : x.f0 = 9
  · rw [if_pos h9]
    obtain ⟨m1, m2, m3⟩ := e2 (.inr h9)
    split
    · have h1 := call_len hs hl (clOk_rule hs hl h8 ⟨m1, m2, m3⟩ (th := [x.f6]) (fun y => one_mk m1) (by simp)) c
      have h2 := loads100 hl (fun k => decide (k = protoS)) c
      simp only [List.length_append, askL_len, List.length_singleton]
      simp only [roC] at h1 h2 ⊢
      omega
    · simp
  rw [if_neg h9]
  simp
theorem mark_ok (hs : SysOk s0 fs rs) {x : RuT} (hx : x ∈ rs) (h2 : x.f0 = 2) : 0 ≤ x.f5 ∧ x.f5 < fs.length ∧ 0 ≤ markOf (roC s0 fs rs l) x ∧ markOf (roC s0 fs rs l) x ≤ 1000000 := by
  have hk := (fitsB_ok (hs.r x hx).1).k
  unfold kindB at hk
  rw [if_neg (by omega), if_pos h2] at hk
  split at hk
  · have h3 := of_decide_eq_true hk
    have h4 := hs.fm x.f5.toNat (by omega) (by omega)
    rw [show ((x.f5.toNat : Nat) : Int) = x.f5 by omega] at h4
    refine ⟨by omega, h3, ?_, ?_⟩ <;> unfold markOf <;> simp only [roC] <;> omega
  · cases hk
theorem rule_all (hs : SysOk s0 fs rs) (hl : FactsOk s0 fs.length l) {x : RuT} (hx : x ∈ rs) : All (ruleL (roC s0 fs rs l) x) := by
  have hs1 := hs.s.2
  obtain ⟨hf, h8, h7⟩ := hs.r x hx
  have hro := fitsB_ok hf
  have hk := hro.k
  unfold ruleL
  refine All.app ?_ (All.rg (fun i hi => each_all hs hl hx (bs_mk hl (rd_mem _ i hi))))
  unfold headL
  by_cases h1 : x.f0 = 1
  · rw [if_pos h1]
    unfold kindB at hk
    rw [if_pos h1] at hk
    have hm := isM_mk hk
    exact All.app (All.ask (by omega) (hro.x2.mk hs1) noS_le (fun y => one_mk hm)) (All.ask (by omega) hm noS_le (fun y => one_mk ⟨by omega, by omega⟩))
  rw [if_neg h1]
  by_cases h2 : x.f0 = 2
  · rw [if_pos h2]
    obtain ⟨_, _, m0, m1⟩ := mark_ok (l := l) hs hx h2
    have hm : Mk (markOf (roC s0 fs rs l) x) := ⟨m0, by omega⟩
    have hm1 : Mk (markOf (roC s0 fs rs l) x + 1) := ⟨by omega, by omega⟩
    exact All.app (All.ask (by omega) (hro.x2.mk hs1) noS_le (fun y => one_mk hm)) (All.app (All.ask (by omega) hm protoS_le (fun y => one_mk hm1)) (All.app (All.ask (by omega) hm noS_le (fun y => one_mk ⟨by omega, by omega⟩)) (All.ask (by omega) hm1 noS_le (fun y => one_mk ⟨by omega, by omega⟩))))
  rw [if_neg h2]
  by_cases h3 : x.f0 = 3
  · rw [if_pos h3]
    exact All.ask (by omega) (((each_cases hro).1 (by omega)).mk hs1) noS_le (fun y hy => bs_mk hl hy)
  rw [if_neg h3]
  exact All.nil
theorem rule_len (hs : SysOk s0 fs rs) (hl : FactsOk s0 fs.length l) {x : RuT} (hx : x ∈ rs) : (ruleL (roC s0 fs rs l) x).length ≤ 60000000 := by
  have h1 : (rg (bsL l 9 x.f2).length (fun i => eachL (roC s0 fs rs l) x (rd (bsL l 9 x.f2) (i : Int)))).length ≤ (bsL l 9 x.f2).length * 500000 := rg_len (fun i hi => each_len hs hl hx _)
  have h2 := bsl100 hl 9 x.f2
  have h3 : (headL (roC s0 fs rs l) x).length ≤ 200 := by
    unfold headL
    split
    · simp [askL_len]
    · split
      · simp [askL_len]
      · split
        · rw [askL_len]; simp only [roC]; omega
        · simp
  unfold ruleL
  rw [List.length_append]
  have h4 : (rg (bsL (roC s0 fs rs l).l 9 x.f2).length (fun i => eachL (roC s0 fs rs l) x (rd (bsL (roC s0 fs rs l).l 9 x.f2) (i : Int)))).length ≤ (bsL l 9 x.f2).length * 500000 := h1
  omega
theorem built_all (hs : SysOk s0 fs rs) (hl : FactsOk s0 fs.length l) {f : Fa} (hf : f ∈ l) : All (builtL (roC s0 fs rs l) f) := by
  have h0 := hl.ok f hf
  have hb : ∀ a, ∀ y ∈ bsL l 9 a, Mk y := fun a y hy => bs_mk hl hy
  have hs1 := hs.s
  have hap : ∀ t ea, Mk (t + 2) → Mk (t + 3) → All (apL (roC s0 fs rs l) t ea f.f1) := fun t ea h2 h3 => by
    unfold apL
    exact All.rg (fun i hi => call_all (N := 100) hs hl ⟨h0.a, hb _, h2, h3, bsl100 hl _ _, by simp⟩ (hb _ _ (rd_mem _ i hi)))
  unfold builtL
  split
  · exact hap _ _ ⟨by simp only [roC]; omega, by simp only [roC]; omega⟩ ⟨by simp only [roC]; omega, by simp only [roC]; omega⟩
  · split
    · refine All.app ?_ (hap _ _ ⟨by simp only [roC]; omega, by simp only [roC]; omega⟩ ⟨by simp only [roC]; omega, by simp only [roC]; omega⟩)
      unfold spreadL
      exact All.rg (fun i hi => All.app (All.ask (by omega) ⟨by simp only [roC]; omega, by simp only [roC]; omega⟩ noS_le (fun y hy => loads_mk hl hy)) All.nil)
    · exact All.nil
theorem built_len (hs : SysOk s0 fs rs) (hl : FactsOk s0 fs.length l) {f : Fa} (hf : f ∈ l) : (builtL (roC s0 fs rs l) f).length ≤ 60000000 := by
  have h0 := hl.ok f hf
  have hb : ∀ a, ∀ y ∈ bsL l 9 a, Mk y := fun a y hy => bs_mk hl hy
  have hs1 := hs.s
  have hap : ∀ t ea, Mk (t + 2) → Mk (t + 3) → (apL (roC s0 fs rs l) t ea f.f1).length ≤ 40000000 := fun t ea h2 h3 => by
    have h1 : (apL (roC s0 fs rs l) t ea f.f1).length ≤ (bsL l 9 t).length * 400000 := rg_len (fun i hi => call_len hs hl ⟨h0.a, hb _, h2, h3, bsl100 hl _ _, by simp⟩ _)
    have h2 := bsl100 hl 9 t
    omega
  unfold builtL
  split
  · refine Nat.le_trans (hap _ _ ⟨by simp only [roC]; omega, by simp only [roC]; omega⟩ ⟨by simp only [roC]; omega, by simp only [roC]; omega⟩) (by omega)
  · split
    · have h1 := hap (s0 - 9 + 4) (s0 - 9 + 8) ⟨by omega, by omega⟩ ⟨by omega, by omega⟩
      have h2 : (spreadL (roC s0 fs rs l) (s0 - 9 + 4) (s0 - 9 + 8)).length ≤ (bsL l 9 (s0 - 9 + 4 + 1)).length * 100 := rg_len (fun i hi => by
        rw [List.append_nil, askL_len]
        exact loads100 hl _ _)
      have h3 := bsl100 hl 9 (s0 - 9 + 4 + 1)
      rw [List.length_append]
      simp only [roC] at h1 h2 ⊢
      omega
    · simp
theorem round_all (hs : SysOk s0 fs rs) (hl : FactsOk s0 fs.length l) : All (roundL (roC s0 fs rs l)) := by
  have c1 : callS.size ≤ maxLen := by decide
  have c2 : applyS.size ≤ maxLen := by decide
  have hk : ∀ z : Int, 0 ≤ z → z ≤ 3 → Mk z := fun z h0 h1 => ⟨h0, by omega⟩
  unfold roundL
  refine All.app (All.rg (fun i hi => ?_)) (All.app (All.ask (by omega) (hk _ (by omega) (by omega)) noS_le (fun y => one_mk (hk _ (by omega) (by omega)))) (All.app (All.ask (by omega) (hk _ (by omega) (by omega)) c1 (fun y => one_mk (hk _ (by omega) (by omega)))) (All.app (All.ask (by omega) (hk _ (by omega) (by omega)) c2 (fun y => one_mk (hk _ (by omega) (by omega)))) (All.app (All.ask (by omega) (hk _ (by omega) (by omega)) noS_le (fun y => one_mk (hk _ (by omega) (by omega)))) (All.app (All.ask (by omega) (hk _ (by omega) (by omega)) noS_le (fun y => one_mk (hk _ (by omega) (by omega)))) (All.app (All.ask (by omega) (hk _ (by omega) (by omega)) noS_le (fun y => one_mk (hk _ (by omega) (by omega)))) (All.rg (fun i hi => ?_))))))))
  · have hm : rd_T41 l (i : Int) ∈ l := rdA_mem hi
    unfold oldL
    refine All.app (fun f hf => ?_) (built_all hs hl hm)
    rw [List.mem_singleton.1 hf]
    exact (hl.ok _ hm).inR (hl.sz _ hm)
  · unfold newL
    split
    · exact rule_all hs hl (rdR_mem hi)
    · exact All.nil
theorem round_len (hs : SysOk s0 fs rs) (hl : FactsOk s0 fs.length l) : (roundL (roC s0 fs rs l)).length ≤ 10000000000 := by
  have h1 : (rg l.length (oldL (roC s0 fs rs l))).length ≤ l.length * 60000001 := rg_len (fun i hi => by
    have h := built_len hs hl (rdA_mem hi)
    unfold oldL
    rw [List.length_append, List.length_singleton]
    simp only [roC] at h ⊢
    omega)
  have h2 : (rg rs.length (newL (roC s0 fs rs l))).length ≤ rs.length * 60000000 := rg_len (fun i hi => by
    unfold newL
    split
    · exact rule_len hs hl (rdR_mem hi)
    · simp)
  have h3 := hs.rn
  have h4 := hl.len
  unfold roundL
  simp only [List.length_append, askL_len, List.length_singleton]
  simp only [roC] at h1 h2 ⊢
  omega
theorem round_ok (hs : SysOk s0 fs rs) (hl : FactsOk s0 fs.length l) : RoundOk (roC s0 fs rs l) :=
  ⟨⟨fun f hf => (round_all hs hl f hf).wf, by have := round_len hs hl; omega⟩, hl.srt, Nat.le_trans hl.len (by decide), ⟨hs.fn.1, Nat.le_trans hs.fn.2 (by decide)⟩, ⟨by have := hs.s; simp only [roC]; omega, by have := hs.s; simp only [roC]; omega⟩, fun x hx h2 => mark_ok hs hx h2⟩
theorem round_tells (hs : SysOk s0 fs rs) (hl : FactsOk s0 fs.length l) : least_round.f s0 fs rs l = some (factSet (roundL (roC s0 fs rs l))) := by
  unfold least_round.f
  rw [if_pos (round_ok hs hl)]
end
end Go.Proofs.Ytngppcmdaanheaa.Lv

-- WRITTEN BY hprint.py (a patched scratch copy of print.py, see NOTES.md): out of the translation and of contracts proved by hand.
namespace Go.Proofs.Ytngppcmdaanheaa.Pr
open Go.RowKit Go.Proofs.Ytngppcmdaanheaa.Ls Go.Proofs.Ytngppcmdaanheaa.Va Go.Proofs.YtngppcmdaanheaaW.PrintWords Go.Proofs.YtngppcmdaanheaaW.PrintLast Go.Proofs.YtngppcmdaanheaaW.PrintMore
attribute [local go_sem] max2_int min2_int max_two min_two
set_option linter.unusedVariables false
set_option linter.unusedSimpArgs false
/-! ### least_Right: function 17 -/
def least_Right.f (k : Nat) (a0_0 : Int) (l0_1 : List (S44)) (l0_2 : List (S46)) (l1 : List (S41)) : Option (Bool) := (solve_Right.f a0_0 l0_1 l0_2).bind fun t213 => (if t213 = true then ((least_areRight.f k a0_0 l0_1 l0_2 l1).bind fun t214 => (some t214)) else (some false))
end Go.Proofs.Ytngppcmdaanheaa.Pr

/- What least's printed functions compute, in closed form. No condition. -/
namespace Go.Proofs.Ytngppcmdaanheaa.Lv
open Go.RowKit Go.Proofs.Ytngppcmdaanheaa.ISet Go.Proofs.Ytngppcmdaanheaa.Pr Go.Proofs.Ytngppcmdaanheaa.Ls Go.Proofs.Ytngppcmdaanheaa.Ev Go.Proofs.YtngppcmdaanheaaW.PrintWords Go.Proofs.YtngppcmdaanheaaW.PrintMore
set_option linter.unusedVariables false
set_option linter.unusedSimpArgs false
def FitP (s0 : Int) (nf : Nat) (f : Fa) : Prop := (0 ≤ f.f1 ∧ f.f1 ≤ 1000001 ∧ 0 ≤ f.f3 ∧ f.f3 ≤ 1000001) ∧ (f.f0 = 3 ∨ f.f2.toList = []) ∧ (f.f0 = 3 ∨ f.f0 = 4 ∨ f.f0 = 5 ∨ f.f0 = 8 ∨ (f.f0 = 6 ∧ f.f1 < (nf : Int) ∧ f.f3 = 0) ∨ (f.f0 = 9 ∧ f.f1 < s0))
instance decFit (s0 : Int) (nf : Nat) (f : Fa) : Decidable (FitP s0 nf f) := by unfold FitP; infer_instance
theorem noS_list : (⟨#[]⟩ : ByteArray).toList = [] := by rw [ByteArray.toList_eq]
theorem fitP_ok {s0 : Int} {nf : Nat} {f : Fa} : FitP s0 nf f ↔ FactOk s0 nf f := by
  constructor
  · rintro ⟨⟨a1, a2, a3, a4⟩, h2, h3⟩
    refine ⟨⟨a1, a2⟩, ⟨a3, a4⟩, ?_, fun hne => bytes_ext ((h2.resolve_left hne).trans noS_list.symm)⟩
    rcases h3 with e | e | e | e | e | e
    · exact .inl e
    · exact .inr (.inl e)
    · exact .inr (.inr (.inl e))
    · exact .inr (.inr (.inr (.inr (.inl e))))
    · exact .inr (.inr (.inr (.inl e)))
    · exact .inr (.inr (.inr (.inr (.inr e))))
  · rintro ⟨⟨a1, a2⟩, ⟨a3, a4⟩, h3, h2⟩
    refine ⟨⟨a1, a2, a3, a4⟩, ?_, ?_⟩
    · by_cases e : f.f0 = 3
      · exact .inl e
      · exact .inr (by rw [h2 e]; exact noS_list)
    · rcases h3 with e | e | e | e | e | e
      · exact .inl e
      · exact .inr (.inl e)
      · exact .inr (.inr (.inl e))
      · exact .inr (.inr (.inr (.inr (.inl e))))
      · exact .inr (.inr (.inr (.inl e)))
      · exact .inr (.inr (.inr (.inr (.inr e))))
theorem fit_j (s0 : Int) (fs : List FunT) (rs : List RuT) (f : Fa) (hA : 0 ≤ f.f1 ∧ f.f1 ≤ 1000001 ∧ 0 ≤ f.f3 ∧ f.f3 ≤ 1000001) (hB : f.f0 = 3 ∨ f.f2.toList = []) (k : Nat) :
    least_fits.j0 (k + 2) false s0 fs rs f.f0 f.f1 f.f2 f.f3 = some (decide (FitP s0 fs.length f)) := by
  have hj : ∀ b, least_fits.j1 (k + 1) f.f0 b s0 fs rs f.f0 f.f1 f.f2 f.f3 = if b = true then some true else (if f.f0 = 6 then (if f.f1 < (fs.length : Int) then (some (f.f3 == 0)) else (some false)) else (if f.f0 = 9 then (some (decide (f.f1 < s0))) else (some false))) := fun b => by rw [least_fits.j1]
  rw [least_fits.j0, if_neg (by decide), hj, hj, hj, hj]
  by_cases h3 : f.f0 = 3
  · rw [if_pos h3, if_pos (by simp [h3]), decide_eq_true (show FitP s0 fs.length f from ⟨hA, hB, .inl h3⟩)]
  rw [if_neg h3]
  by_cases h4 : f.f0 = 4
  · rw [if_pos h4, if_pos (by simp [h4]), decide_eq_true (show FitP s0 fs.length f from ⟨hA, hB, .inr (.inl h4)⟩)]
  rw [if_neg h4]
  by_cases h5 : f.f0 = 5
  · rw [if_pos h5, if_pos (by simp [h5]), decide_eq_true (show FitP s0 fs.length f from ⟨hA, hB, .inr (.inr (.inl h5))⟩)]
  rw [if_neg h5]
  by_cases h8 : f.f0 = 8
  · rw [if_pos (by simp [h8]), decide_eq_true (show FitP s0 fs.length f from ⟨hA, hB, .inr (.inr (.inr (.inl h8)))⟩)]
  rw [if_neg (by simpa using h8)]
  by_cases h6 : f.f0 = 6
  · rw [if_pos h6]
    by_cases h1 : f.f1 < (fs.length : Int)
    · rw [if_pos h1]
      by_cases hz : f.f3 = 0
      · rw [decide_eq_true (show FitP s0 fs.length f from ⟨hA, hB, .inr (.inr (.inr (.inr (.inl ⟨h6, h1, hz⟩))))⟩)]
        simp [hz]
      · rw [decide_eq_false (show ¬ FitP s0 fs.length f from fun h => by rcases h.2.2 with e | e | e | e | e | e <;> omega)]
        simp [hz]
    · rw [if_neg h1, decide_eq_false (show ¬ FitP s0 fs.length f from fun h => by rcases h.2.2 with e | e | e | e | e | e <;> omega)]
  rw [if_neg h6]
  by_cases h9 : f.f0 = 9
  · rw [if_pos h9]
    congr 1
    refine decide_eq_decide.2 ⟨fun h => ⟨hA, hB, .inr (.inr (.inr (.inr (.inr ⟨h9, h⟩))))⟩, fun h => ?_⟩
    rcases h.2.2 with e | e | e | e | e | e <;> omega
  · rw [if_neg h9, decide_eq_false (show ¬ FitP s0 fs.length f from fun h => by rcases h.2.2 with e | e | e | e | e | e <;> omega)]
theorem fit_no (s0 : Int) (fs : List FunT) (rs : List RuT) (f : Fa) (h : ¬ FitP s0 fs.length f) (k : Nat) : least_fits.j0 (k + 1) true s0 fs rs f.f0 f.f1 f.f2 f.f3 = some (decide (FitP s0 fs.length f)) := by
  rw [least_fits.j0, if_pos rfl, decide_eq_false h]
theorem fit_tells (s0 : Int) (fs : List FunT) (rs : List RuT) (f : Fa) (k : Nat) : least_fits.f (k + 2) s0 fs rs f.f0 f.f1 f.f2 f.f3 = some (decide (FitP s0 fs.length f)) := by
  unfold least_fits.f
  by_cases h1 : mn f.f1 f.f3 < 0
  · rw [if_pos h1]
    exact fit_no s0 fs rs f (fun h => by have := h.1; unfold mn at h1; split at h1 <;> omega) _
  rw [if_neg h1]
  by_cases h2 : mx f.f1 f.f3 > 1000001
  · rw [if_pos h2]
    exact fit_no s0 fs rs f (fun h => by have := h.1; unfold mx at h2; split at h2 <;> omega) _
  rw [if_neg h2]
  have hA : 0 ≤ f.f1 ∧ f.f1 ≤ 1000001 ∧ 0 ≤ f.f3 ∧ f.f3 ≤ 1000001 := by
    unfold mn at h1
    unfold mx at h2
    split at h1 <;> split at h2 <;> omega
  by_cases h3 : f.f0 = 3
  · rw [if_pos h3]
    exact fit_j s0 fs rs f hA (.inl h3) k
  rw [if_neg h3]
  by_cases he : f.f2.toList = []
  · rw [show (f.f2.toList != ([] : List UInt8)) = false by simp [he]]
    exact fit_j s0 fs rs f hA (.inr he) k
  · rw [show (f.f2.toList != ([] : List UInt8)) = true by simp [he]]
    exact fit_no s0 fs rs f (fun h => h.2.1.elim h3 he) _
theorem Ev.up {α : Type} {g : Nat → Option α} (hm : ∀ k, LeO (g k) (g (k + 1))) {n : Nat} {r : α} (h : g n = some r) : Ev fun k => g k = some r := by
  refine ⟨n, fun k hk => ?_⟩
  obtain ⟨d, rfl⟩ : ∃ d, k = n + d := ⟨k - n, by omega⟩
  induction d with
  | zero => exact h
  | succ d ih => exact hm (n + d) r (ih (by omega))
theorem compare_f (a b : Int) : Pr.cmp_Compare_int.f a b = some (cm a b) := by
  unfold Pr.cmp_Compare_int.f Pr.cmp_isNaN_int.f cm
  simp only [bne_self_eq_false, Option.bind_some, Bool.false_eq_true, if_false]
  by_cases h1 : a < b
  · rw [if_pos h1, if_pos h1]
  · rw [if_neg h1, if_neg h1]
    by_cases h2 : a > b
    · rw [if_pos h2, if_pos h2]
    · rw [if_neg h2, if_neg h2]
theorem or_f (a b c d : Int) : Pr.cmp_Or_int.f 9 [a, b, c, d] = some (if a ≠ 0 then a else if b ≠ 0 then b else if c ≠ 0 then c else d) := by
  have e0 : Go.Proofs.YtngppcmdaanheaaW.PrintWords.rd [a, b, c, d] 0 = a := rfl
  have e1 : Go.Proofs.YtngppcmdaanheaaW.PrintWords.rd [a, b, c, d] 1 = b := rfl
  have e2 : Go.Proofs.YtngppcmdaanheaaW.PrintWords.rd [a, b, c, d] 2 = c := rfl
  have e3 : Go.Proofs.YtngppcmdaanheaaW.PrintWords.rd [a, b, c, d] 3 = d := rfl
  by_cases ha : a = 0 <;> by_cases hb : b = 0 <;> by_cases hc : c = 0 <;> by_cases hd : d = 0 <;> simp [Pr.cmp_Or_int.f, Pr.cmp_Or_int.l0, e0, e1, e2, e3, ha, hb, hc, hd, wrap64] <;> simp_all
theorem order_f (x y : Fa) : Ev fun k => Pr.least_order.f k x.f0 x.f1 x.f2 x.f3 y.f0 y.f1 y.f2 y.f3 = some (cmpF x y) := by
  refine Ev.up (n := 9) (fun k => Pr.least_order.mono _ _ _ _ _ _ _ _ k) ?_
  have hs : Va.cmp_Compare_string.f x.f2 y.f2 = some (cmS x.f2 y.f2) := rfl
  unfold Pr.least_order.f cmpF
  simp only [compare_f, Option.bind_some, or_f, hs]
theorem cmpF_ge (x y : Fa) : decide (cmpF x y ≥ 0) = decide (¬ LF x y) := by
  refine decide_eq_decide.2 ?_
  have h := lf_iff x y
  unfold ltOf at h
  rw [decide_eq_true_iff] at h
  rw [← h]
  omega
def AreAt (s0 : Int) (nf : Nat) (l : List Fa) (j : Nat) : Prop := FitP s0 nf (rd_T41 l (j : Int)) ∧ (0 < j → LF (rd_T41 l ((j - 1 : Nat) : Int)) (rd_T41 l (j : Int)))
instance decAre (s0 : Int) (nf : Nat) (l : List Fa) (j : Nat) : Decidable (AreAt s0 nf l j) := by unfold AreAt; infer_instance
def areB (s0 : Int) (nf : Nat) (l : List Fa) : Bool := (List.range l.length).all (fun j => decide (AreAt s0 nf l j))
theorem range_drop (n i : Nat) (h : i < n) : (List.range n).drop i = i :: (List.range n).drop (i + 1) := by
  rw [List.drop_eq_getElem_cons (by simpa using h), List.getElem_range]
theorem are_loop (s0 : Int) (fs : List FunT) (rs : List RuT) (l : List Fa) (hm : l.length ≤ 1000000) (d : Nat) : ∀ i, i + d = l.length →
    Ev fun k => least_areRight.l0 k l l (l.length : Int) (i : Int) s0 fs rs = some (((List.range l.length).drop i).all (fun j => decide (AreAt s0 fs.length l j))) := by
  induction d with
  | zero =>
    intro i h
    refine Ev.step fun k => ?_
    rw [least_areRight.l0, if_neg (by omega), drop_len _ i (by simp; omega)]
    rfl
  | succ d ih =>
    intro i h
    have hi : i < l.length := by omega
    rw [range_drop l.length i hi, List.all_cons]
    have hih := ih (i + 1) (by omega)
    have hf : Ev fun k => least_fits.f k s0 fs rs (rd_T41 l (i : Int)).f0 (rd_T41 l (i : Int)).f1 (rd_T41 l (i : Int)).f2 (rd_T41 l (i : Int)).f3 = some (decide (FitP s0 fs.length (rd_T41 l (i : Int)))) := ⟨2, fun k hk => by
      obtain ⟨k, rfl⟩ : ∃ j, k = j + 2 := ⟨k - 2, by omega⟩
      exact fit_tells s0 fs rs _ k⟩
    have hyes : Ev fun k => least_areRight.j1 k l l (l.length : Int) (i : Int) true s0 fs rs = some false := Ev.step fun k => by rw [least_areRight.j1, if_pos rfl]
    have hno : Ev fun k => least_areRight.j1 k l l (l.length : Int) (i : Int) false s0 fs rs = some (((List.range l.length).drop (i + 1)).all (fun j => decide (AreAt s0 fs.length l j))) := hih.succ fun k hk => by
      rw [least_areRight.j1, if_neg (by decide), wrap_nat i (by omega)]
      exact hk
    by_cases hfit : FitP s0 fs.length (rd_T41 l (i : Int))
    · rw [decide_eq_true hfit] at hf
      by_cases h0 : i = 0
      · have ha : AreAt s0 fs.length l i := ⟨hfit, fun h => by omega⟩
        refine (hf.and hno).succ fun k hk => ?_
        rw [least_areRight.l0, if_pos (by omega), if_pos (by omega), if_pos (by omega), hk.1, Option.bind_some, if_pos rfl, if_neg (by omega), hk.2, decide_eq_true ha, Bool.true_and]
      · have hw : wrap64 ((i : Int) - 1) = ((i - 1 : Nat) : Int) := by unfold wrap64; omega
        have ho := order_f (rd_T41 l ((i - 1 : Nat) : Int)) (rd_T41 l (i : Int))
        by_cases hlf : LF (rd_T41 l ((i - 1 : Nat) : Int)) (rd_T41 l (i : Int))
        · have ha : AreAt s0 fs.length l i := ⟨hfit, fun _ => hlf⟩
          refine ((hf.and ho).and hno).succ fun k hk => ?_
          rw [least_areRight.l0, if_pos (by omega), if_pos (by omega), if_pos (by omega), hk.1.1, Option.bind_some, if_pos rfl, if_pos (by omega), hw, if_pos (by omega), if_pos (by omega), hk.1.2, Option.bind_some, cmpF_ge, decide_eq_false (by simpa using hlf), hk.2, decide_eq_true ha, Bool.true_and]
        · have ha : ¬ AreAt s0 fs.length l i := fun h => hlf (h.2 (by omega))
          refine ((hf.and ho).and hyes).succ fun k hk => ?_
          rw [least_areRight.l0, if_pos (by omega), if_pos (by omega), if_pos (by omega), hk.1.1, Option.bind_some, if_pos rfl, if_pos (by omega), hw, if_pos (by omega), if_pos (by omega), hk.1.2, Option.bind_some, cmpF_ge, decide_eq_true hlf, hk.2, decide_eq_false ha, Bool.false_and]
    · rw [decide_eq_false hfit] at hf
      have ha : ¬ AreAt s0 fs.length l i := fun h => hfit h.1
      refine (hf.and hyes).succ fun k hk => ?_
      rw [least_areRight.l0, if_pos (by omega), if_pos (by omega), if_pos (by omega), hk.1, Option.bind_some, if_neg (by decide), hk.2, decide_eq_false ha, Bool.false_and]
theorem are_tells (s0 : Int) (fs : List FunT) (rs : List RuT) (l : List Fa) (hm : l.length ≤ 1000000) : Ev fun k => least_areRight.f k s0 fs rs l = some (areB s0 fs.length l) :=
  (are_loop s0 fs rs l hm l.length 0 (by omega)).mono fun k hk => hk
theorem rdK_get {l : List Fa} {i : Nat} (h : i < l.length) : rd_T41 l (i : Int) = l[i] := by
  unfold rd_T41
  rw [Int.toNat_natCast, List.getD_eq_getElem?_getD, List.getElem?_eq_getElem h]
  rfl
theorem pw_of_next {l : List Fa} (h : ∀ j, 0 < j → ∀ hj : j < l.length, LF (l[j - 1]'(by omega)) l[j]) : l.Pairwise LF := by
  rw [List.pairwise_iff_getElem]
  intro i j hi hj hij
  induction j with
  | zero => omega
  | succ j ih =>
    have h1 := h (j + 1) (by omega) hj
    rcases Nat.lt_or_eq_of_le (Nat.le_of_lt_succ hij) with h2 | h2
    · exact LF.trans (ih (by omega) h2) h1
    · subst h2
      exact h1
theorem areB_ok {s0 : Int} {nf : Nat} {l : List Fa} : areB s0 nf l = true ↔ (∀ f ∈ l, FactOk s0 nf f) ∧ l.Pairwise LF := by
  unfold areB
  rw [List.all_eq_true]
  constructor
  · intro h
    have h' : ∀ j, j < l.length → AreAt s0 nf l j := fun j hj => of_decide_eq_true (h j (List.mem_range.2 hj))
    refine ⟨fun f hf => ?_, pw_of_next (fun j h0 hj => ?_)⟩
    · obtain ⟨i, hi, rfl⟩ := List.getElem_of_mem hf
      have h1 := (h' i hi).1
      rw [rdK_get hi] at h1
      exact fitP_ok.1 h1
    · have h1 := (h' j hj).2 h0
      rw [rdK_get hj, rdK_get (by omega : j - 1 < l.length)] at h1
      exact h1
  · rintro ⟨h1, h2⟩ j hj
    have hj' := List.mem_range.1 hj
    refine decide_eq_true ⟨?_, fun h0 => ?_⟩
    · rw [rdK_get hj']
      exact fitP_ok.2 (h1 _ (List.getElem_mem _))
    · rw [rdK_get hj', rdK_get (by omega : j - 1 < l.length)]
      exact List.pairwise_iff_getElem.1 h2 _ _ _ _ (by omega)
end Go.Proofs.Ytngppcmdaanheaa.Lv

-- WRITTEN BY hprint.py (a patched scratch copy of print.py, see NOTES.md): out of the translation and of contracts proved by hand.
namespace Go.Proofs.Ytngppcmdaanheaa.Pr
open Go.RowKit Go.Proofs.YtngppcmdaanheaaW.PrintWords Go.Proofs.YtngppcmdaanheaaW.PrintLast Go.Proofs.YtngppcmdaanheaaW.PrintMore
attribute [local go_sem] max2_int min2_int max_two min_two
set_option linter.unusedVariables false
set_option linter.unusedSimpArgs false
/-! ### gumshoelaw13_Small: function 9 -/
mutual
def gumshoelaw13_Small.j0 : Nat → Bool → Int → List (S44) → List (S46) → Option (Int)
  | 0, _, _, _, _ => none
  | k + 1, x19, x160000, x160001, x160002 => if x19 = true then (some 0) else (gumshoelaw13_Small.l0 k 0 x160000 x160001 x160002)
def gumshoelaw13_Small.l0 : Nat → Int → Int → List (S44) → List (S46) → Option (Int)
  | 0, _, _, _, _ => none
  | k + 1, x3, x160000, x160001, x160002 => if x3 < (x160001.length : Int) then (if 0 ≤ x3 then (if (((rd_T44 x160001 x3).f1).length : Int) > 205 then (some 0) else (gumshoelaw13_Small.l0 k (wrap64 (x3 + 1)) x160000 x160001 x160002)) else (none)) else (gumshoelaw13_Small.l1 k 0 x160000 x160001 x160002)
def gumshoelaw13_Small.l1 : Nat → Int → Int → List (S44) → List (S46) → Option (Int)
  | 0, _, _, _, _ => none
  | k + 1, x4, x160000, x160001, x160002 => if x4 < (x160002.length : Int) then (if 0 ≤ x4 then (if (((rd_T46 x160002 x4).f8).length : Int) > 205 then (gumshoelaw13_Small.j3 k x4 true x160000 x160001 x160002) else (gumshoelaw13_Small.j3 k x4 (decide ((((rd_T46 x160002 x4).f7).size : Int) > 100)) x160000 x160001 x160002)) else (none)) else (some 1)
def gumshoelaw13_Small.j3 : Nat → Int → Bool → Int → List (S44) → List (S46) → Option (Int)
  | 0, _, _, _, _, _ => none
  | k + 1, x4, x59, x160000, x160001, x160002 => if x59 = true then (some 0) else (gumshoelaw13_Small.l1 k (wrap64 (x4 + 1)) x160000 x160001 x160002)
end
def gumshoelaw13_Small.f (k : Nat) (a0_0 : Int) (l0_1 : List (S44)) (l0_2 : List (S46)) : Option (Int) := if (l0_1.length : Int) > 15 then (gumshoelaw13_Small.j0 k true a0_0 l0_1 l0_2) else (if (l0_2.length : Int) > 40 then (gumshoelaw13_Small.j0 k true a0_0 l0_1 l0_2) else (gumshoelaw13_Small.j0 k (decide (a0_0 > 300)) a0_0 l0_1 l0_2))
end Go.Proofs.Ytngppcmdaanheaa.Pr

/- least's printed functions on small systems. No condition. -/
namespace Go.Proofs.Ytngppcmdaanheaa.Lv
open Go.RowKit Go.Proofs.Ytngppcmdaanheaa.ISet Go.Proofs.Ytngppcmdaanheaa.Pr Go.Proofs.Ytngppcmdaanheaa.Ls Go.Proofs.Ytngppcmdaanheaa.Ev Go.Proofs.YtngppcmdaanheaaW.PrintWords Go.Proofs.YtngppcmdaanheaaW.PrintMore
set_option linter.unusedVariables false
set_option linter.unusedSimpArgs false
def SmallP (s0 : Int) (fs : List FunT) (rs : List RuT) : Prop := fs.length ≤ 15 ∧ rs.length ≤ 40 ∧ s0 ≤ 300 ∧ (∀ f ∈ fs, f.f1.length ≤ 205) ∧ ∀ x ∈ rs, x.f8.length ≤ 205 ∧ x.f7.size ≤ 100
theorem all_get {α : Type} {l : List α} {P : α → Prop} (h : ∀ j, ∀ hj : j < l.length, P l[j]) : ∀ x ∈ l, P x := fun x hx => by
  obtain ⟨i, hi, rfl⟩ := List.getElem_of_mem hx
  exact h i hi
theorem rdF_get {l : List FunT} {i : Nat} (h : i < l.length) : rd_T44 l (i : Int) = l[i] := by
  unfold rd_T44
  rw [Int.toNat_natCast, List.getD_eq_getElem?_getD, List.getElem?_eq_getElem h]
  rfl
theorem few_tells (l : List Fa) : gumshoelaw14_few.f l = some (l.take 60) := by
  unfold gumshoelaw14_few.f
  have h1 : mn (l.length : Int) 60 = ((min l.length 60 : Nat) : Int) := by
    unfold mn
    split <;> omega
  rw [h1, if_pos (by omega), if_pos (by omega), Int.toNat_natCast]
  congr 1
  rcases Nat.le_total l.length 60 with h | h
  · rw [Nat.min_eq_left h, List.take_of_length_le (Nat.le_refl _), List.take_of_length_le h]
  · rw [Nat.min_eq_right h]
section
variable {s0 : Int} {fs : List FunT} {rs : List RuT} {l : List Fa}
theorem small_s (h : SmallP s0 fs rs) : SmallS s0 fs rs := ⟨fun f hf => Nat.le_trans (h.2.2.2.1 f hf) (by decide), fun x hx => Nat.le_trans (h.2.2.2.2 x hx).1 (by decide), Nat.le_trans h.2.1 (by decide)⟩
theorem right_f (h : SmallP s0 fs rs) : solve_Right.f s0 fs rs = some (rightB s0 fs rs) := by
  unfold solve_Right.f
  rw [if_pos (small_s h)]
theorem sys_of (h : SmallP s0 fs rs) (hr : rightB s0 fs rs = true) : SysOk s0 fs rs := by
  unfold rightB at hr
  simp only [Bool.and_eq_true, decide_eq_true_iff, Bool.not_eq_true'] at hr
  obtain ⟨⟨h1, h2, h3⟩, h4, h5⟩ := hr
  have hf : ∀ j, ∀ hj : j < fs.length, funB s0 j fs[j] = true := fun j hj => by
    unfold funsB at h4
    rw [List.all_eq_true] at h4
    have := h4 j (List.mem_range.2 hj)
    rwa [rdF_get hj] at this
  have hm : (100 : Nat) ≤ maxLen := by decide
  refine ⟨⟨h1, h2⟩, ⟨h3, h.1⟩, h.2.1, all_get (fun j hj => ?_), fun i h0 hi => ?_, fun x hx => ⟨?_, (h.2.2.2.2 x hx).1, Nat.le_trans (h.2.2.2.2 x hx).2 hm⟩⟩
  · have h6 := hf j hj
    unfold funB at h6
    simp only [Bool.and_eq_true, decide_eq_true_iff] at h6
    obtain ⟨a, b, c, _⟩ := h6
    have hc := setsB_iff.1 c
    exact ⟨by omega, setsB_iff.1 b, hc _ (by simp), hc _ (by simp), hc _ (by simp)⟩
  · have h6 := hf i hi
    unfold funB at h6
    simp only [Bool.and_eq_true, Bool.or_eq_true, decide_eq_true_iff] at h6
    rw [rdF_get hi]
    rcases h6.2.2.2 with h7 | h7
    · omega
    · exact h7
  · have h6 := List.any_eq_false.1 h5 x hx
    simpa using h6
theorem facts_of (ha : areB s0 fs.length l = true) (hl : l.length ≤ 100) (hz : ∀ f ∈ l, f.f2.size ≤ maxLen) : FactsOk s0 fs.length l := ⟨(areB_ok.1 ha).1, (areB_ok.1 ha).2, hl, hz⟩
theorem check_tells (h : SmallP s0 fs rs) (hl : l.length ≤ 100) : Ev fun k => least_check.f k s0 fs rs l = some (if rightB s0 fs rs = true then (if areB s0 fs.length l = true then 0 else 140) else 100) := by
  refine (are_tells s0 fs rs l (by omega)).mono fun k hk => ?_
  unfold least_check.f
  rw [right_f h, Option.bind_some]
  cases rightB s0 fs rs
  · rfl
  · rw [if_pos rfl, hk, Option.bind_some, if_pos rfl]
    cases areB s0 fs.length l <;> rfl
theorem Round_tells (h : SmallP s0 fs rs) (hl : l.length ≤ 100) (hz : ∀ f ∈ l, f.f2.size ≤ maxLen) (hr : rightB s0 fs rs = true) (ha : areB s0 fs.length l = true) :
    Ev fun k => least_Round.f k s0 fs rs l = some (factSet (roundL (roC s0 fs rs l)), 0) := by
  refine (check_tells (l := l) h hl).mono fun k hk => ?_
  rw [if_pos hr, if_pos ha] at hk
  unfold least_Round.f
  rw [hk, Option.bind_some, if_pos rfl, round_tells (sys_of h hr) (facts_of ha hl hz), Option.bind_some]
theorem Round_no (h : SmallP s0 fs rs) (hl : l.length ≤ 100) (hn : ¬ (rightB s0 fs rs = true ∧ areB s0 fs.length l = true)) :
    Ev fun k => least_Round.f k s0 fs rs l = some ([], if rightB s0 fs rs = true then 140 else 100) := by
  refine (check_tells (l := l) h hl).mono fun k hk => ?_
  unfold least_Round.f
  by_cases hr : rightB s0 fs rs = true
  · rw [if_pos hr, if_neg (fun ha => hn ⟨hr, ha⟩)] at hk
    rw [hk, Option.bind_some, if_neg (by decide), if_pos hr]
  · rw [if_neg hr] at hk
    rw [hk, Option.bind_some, if_neg (by decide), if_neg hr]
theorem Closed_tells (h : SmallP s0 fs rs) (hl : l.length ≤ 100) (hz : ∀ f ∈ l, f.f2.size ≤ maxLen) (hr : rightB s0 fs rs = true) (ha : areB s0 fs.length l = true) :
    Ev fun k => least_Closed.f k s0 fs rs l = some (((factSet (roundL (roC s0 fs rs l))).length : Int) == (l.length : Int), 0) := by
  refine (check_tells (l := l) h hl).mono fun k hk => ?_
  rw [if_pos hr, if_pos ha] at hk
  unfold least_Closed.f
  rw [hk, Option.bind_some, if_pos rfl, round_tells (sys_of h hr) (facts_of ha hl hz), Option.bind_some]
end
end Go.Proofs.Ytngppcmdaanheaa.Lv

/- What gumshoelaw14.shown answers. No condition. -/
namespace Go.Proofs.Ytngppcmdaanheaa.Lv
open Go.RowKit Go.Proofs.Ytngppcmdaanheaa.ISet Go.Proofs.Ytngppcmdaanheaa.Pr Go.Proofs.Ytngppcmdaanheaa.Ls Go.Proofs.Ytngppcmdaanheaa.Ev Go.Proofs.YtngppcmdaanheaaW.PrintWords Go.Proofs.YtngppcmdaanheaaW.PrintMore
set_option linter.unusedVariables false
set_option linter.unusedSimpArgs false
def fs0 : List FunT := [⟨0, [], 0, 0, 0⟩]
def rs0 : List RuT := [⟨3, 0, 0, 1, 0, 0, 0, ⟨#[]⟩, []⟩]
def la : List Fa := [⟨6, 0, ⟨#[]⟩, 0⟩, ⟨9, 0, ⟨#[]⟩, 4⟩]
def lT : List Fa := [⟨3, 1, applyS, 3⟩, ⟨3, 1, callS, 2⟩, ⟨4, 1, ⟨#[]⟩, 0⟩, ⟨4, 2, ⟨#[]⟩, 1⟩, ⟨4, 3, ⟨#[]⟩, 1⟩, ⟨6, 0, ⟨#[]⟩, 0⟩, ⟨9, 0, ⟨#[]⟩, 4⟩, ⟨9, 1, ⟨#[]⟩, 4⟩]
theorem small0 : SmallP 20 fs0 rs0 := by
  refine ⟨by decide, by decide, by decide, ?_, ?_⟩
  · intro f hf
    obtain rfl := List.mem_singleton.1 hf
    decide
  · intro x hx
    obtain rfl := List.mem_singleton.1 hx
    decide
theorem right0 : rightB 20 fs0 rs0 = true := by rfl
theorem apply_call : SL applyS callS := by
  unfold SL
  rw [ByteArray.toList_eq, ByteArray.toList_eq]
  decide
theorem la_are : areB 20 fs0.length la = true := by
  refine areB_ok.2 ⟨?_, ?_⟩
  · intro f hf
    rcases List.mem_cons.1 hf with rfl | hf
    · exact ⟨⟨by decide, by decide⟩, ⟨by decide, by decide⟩, .inr (.inr (.inr (.inl ⟨rfl, by decide, rfl⟩))), fun _ => rfl⟩
    · obtain rfl := List.mem_singleton.1 hf
      exact ⟨⟨by decide, by decide⟩, ⟨by decide, by decide⟩, .inr (.inr (.inr (.inr (.inr ⟨rfl, by decide⟩)))), fun _ => rfl⟩
  · refine pw_of_next (fun j h0 hj => ?_)
    obtain rfl : j = 1 := by
      have : j < 2 := hj
      omega
    exact .inl (show (6 : Int) < 9 by decide)
theorem lT_pw : lT.Pairwise LF := by
  refine pw_of_next (fun j h0 hj => ?_)
  have h8 : j < 8 := hj
  rcases (show j = 1 ∨ j = 2 ∨ j = 3 ∨ j = 4 ∨ j = 5 ∨ j = 6 ∨ j = 7 by omega) with rfl | rfl | rfl | rfl | rfl | rfl | rfl
  · exact .inr ⟨rfl, .inr ⟨rfl, .inl apply_call⟩⟩
  · exact .inl (show (3 : Int) < 4 by decide)
  · exact .inr ⟨rfl, .inl (show (1 : Int) < 2 by decide)⟩
  · exact .inr ⟨rfl, .inl (show (2 : Int) < 3 by decide)⟩
  · exact .inl (show (4 : Int) < 6 by decide)
  · exact .inl (show (6 : Int) < 9 by decide)
  · exact .inr ⟨rfl, .inl (show (0 : Int) < 1 by decide)⟩
theorem lT_are : areB 20 fs0.length lT = true := by
  refine areB_ok.2 ⟨?_, lT_pw⟩
  intro f hf
  unfold lT at hf
  simp only [List.mem_cons, List.not_mem_nil, or_false] at hf
  rcases hf with rfl | rfl | rfl | rfl | rfl | rfl | rfl | rfl
  · exact ⟨⟨by decide, by decide⟩, ⟨by decide, by decide⟩, .inl rfl, fun h => absurd rfl h⟩
  · exact ⟨⟨by decide, by decide⟩, ⟨by decide, by decide⟩, .inl rfl, fun h => absurd rfl h⟩
  · exact ⟨⟨by decide, by decide⟩, ⟨by decide, by decide⟩, .inr (.inl rfl), fun _ => rfl⟩
  · exact ⟨⟨by decide, by decide⟩, ⟨by decide, by decide⟩, .inr (.inl rfl), fun _ => rfl⟩
  · exact ⟨⟨by decide, by decide⟩, ⟨by decide, by decide⟩, .inr (.inl rfl), fun _ => rfl⟩
  · exact ⟨⟨by decide, by decide⟩, ⟨by decide, by decide⟩, .inr (.inr (.inr (.inl ⟨rfl, by decide, rfl⟩))), fun _ => rfl⟩
  · exact ⟨⟨by decide, by decide⟩, ⟨by decide, by decide⟩, .inr (.inr (.inr (.inr (.inr ⟨rfl, by decide⟩)))), fun _ => rfl⟩
  · exact ⟨⟨by decide, by decide⟩, ⟨by decide, by decide⟩, .inr (.inr (.inr (.inr (.inr ⟨rfl, by decide⟩)))), fun _ => rfl⟩
theorem round_la : roundL (roC 20 fs0 rs0 la) = [⟨6, 0, ⟨#[]⟩, 0⟩, ⟨9, 0, ⟨#[]⟩, 4⟩, ⟨6, 0, ⟨#[]⟩, 0⟩, ⟨3, 1, callS, 2⟩, ⟨3, 1, applyS, 3⟩, ⟨4, 1, ⟨#[]⟩, 0⟩, ⟨4, 2, ⟨#[]⟩, 1⟩, ⟨4, 3, ⟨#[]⟩, 1⟩, ⟨9, 1, ⟨#[]⟩, 4⟩] := by kernel_rfl
theorem round_lT : roundL (roC 20 fs0 rs0 lT) = lT ++ [⟨6, 0, ⟨#[]⟩, 0⟩, ⟨3, 1, callS, 2⟩, ⟨3, 1, applyS, 3⟩, ⟨4, 1, ⟨#[]⟩, 0⟩, ⟨4, 2, ⟨#[]⟩, 1⟩, ⟨4, 3, ⟨#[]⟩, 1⟩, ⟨9, 1, ⟨#[]⟩, 4⟩] := by kernel_rfl
theorem set_la : factSet (roundL (roC 20 fs0 rs0 la)) = lT := by
  refine Ls.rise_unique (factSet_rises _).1 lT_pw (fun x => ?_)
  rw [(factSet_rises _).2, round_la]
  unfold lT
  simp only [List.mem_cons, List.not_mem_nil, or_false]
  constructor
  · rintro (h | h | h | h | h | h | h | h | h) <;> simp [h]
  · rintro (h | h | h | h | h | h | h | h) <;> simp [h]
theorem set_lT : factSet (roundL (roC 20 fs0 rs0 lT)) = lT := by
  refine Ls.rise_unique (factSet_rises _).1 lT_pw (fun x => ?_)
  rw [(factSet_rises _).2, round_lT, List.mem_append]
  refine ⟨fun h => h.elim id (fun h => ?_), .inl⟩
  unfold lT
  simp only [List.mem_cons, List.not_mem_nil, or_false] at h ⊢
  rcases h with h | h | h | h | h | h | h <;> simp [h]
theorem zero_not : ¬ (rightB 20 fs0 rs0 = true ∧ areB 20 fs0.length [(⟨0, 0, ⟨#[]⟩, 0⟩ : Fa)] = true) := fun h => by
  have h1 := (areB_ok.1 h.2).1 ⟨0, 0, ⟨#[]⟩, 0⟩ (List.mem_singleton.2 rfl)
  rcases h1.k with e | e | e | ⟨e, _⟩ | e | ⟨e, _⟩ <;> simp at e
theorem size0 : (⟨#[]⟩ : ByteArray).size ≤ maxLen := by decide
theorem la_size : ∀ f ∈ la, f.f2.size ≤ maxLen := fun f hf => by
  rcases List.mem_cons.1 hf with rfl | hf
  · exact size0
  · obtain rfl := List.mem_singleton.1 hf
    exact size0
theorem lT_size : ∀ f ∈ lT, f.f2.size ≤ maxLen := fun f hf => by
  unfold lT at hf
  simp only [List.mem_cons, List.not_mem_nil, or_false] at hf
  rcases hf with rfl | rfl | rfl | rfl | rfl | rfl | rfl | rfl
  · show applyS.size ≤ maxLen
    decide
  · show callS.size ≤ maxLen
    decide
  all_goals exact size0
theorem shown_tells : Ev fun k => gumshoelaw14_shown.f k = some true := by
  have h1 := Round_tells small0 (l := la) (by decide) la_size right0 la_are
  have h2 := Closed_tells small0 (l := lT) (by decide) lT_size right0 lT_are
  have h3 := Round_no small0 (l := [(⟨0, 0, ⟨#[]⟩, 0⟩ : Fa)]) (by decide) zero_not
  rw [set_la] at h1
  rw [set_lT] at h2
  rw [if_pos right0] at h3
  refine ((h1.and h2).and h3).mono fun k hk => ?_
  obtain ⟨⟨k1, k2⟩, k3⟩ := hk
  unfold gumshoelaw14_shown.f
  simp only [Option.bind_some]
  have k1' : least_Round.f k 20 [(⟨0, ([] : List Int), 0, 0, 0⟩ : FunT)] [(⟨3, 0, 0, 1, 0, 0, 0, (⟨#[]⟩ : ByteArray), ([] : List Int)⟩ : RuT)] [(⟨6, 0, (⟨#[]⟩ : ByteArray), 0⟩ : Fa), (⟨9, 0, (⟨#[]⟩ : ByteArray), 4⟩ : Fa)] = some (lT, 0) := k1
  have k2' : least_Closed.f k 20 [(⟨0, ([] : List Int), 0, 0, 0⟩ : FunT)] [(⟨3, 0, 0, 1, 0, 0, 0, (⟨#[]⟩ : ByteArray), ([] : List Int)⟩ : RuT)] lT = some ((lT.length : Int) == (lT.length : Int), 0) := k2
  have k3' : least_Round.f k 20 [(⟨0, ([] : List Int), 0, 0, 0⟩ : FunT)] [(⟨3, 0, 0, 1, 0, 0, 0, (⟨#[]⟩ : ByteArray), ([] : List Int)⟩ : RuT)] [(⟨0, 0, (⟨#[]⟩ : ByteArray), 0⟩ : Fa)] = some ([], 140) := k3
  rw [k1', Option.bind_some, k2', Option.bind_some, k3', Option.bind_some, if_pos rfl, if_pos rfl, if_pos (by simp), if_pos rfl, if_pos (show (((lT, (0 : Int)).1.length : Nat) : Int) = 8 from rfl), if_pos (show (7 : Int) < (((lT, (0 : Int)).1.length : Nat) : Int) by decide)]
  have e : rd_T41 lT 7 = ⟨9, 1, ⟨#[]⟩, 4⟩ := rfl
  show some ((rd_T41 lT 7).f0 == 9 && ((rd_T41 lT 7).f1 == 1 && ((rd_T41 lT 7).f2.toList == [] && (rd_T41 lT 7).f3 == 4))) = some true
  rw [e]
  simp [noS_list]
end Go.Proofs.Ytngppcmdaanheaa.Lv

-- WRITTEN BY hprint.py (a patched scratch copy of print.py, see NOTES.md): out of the translation and of contracts proved by hand.
namespace Go.Proofs.Ytngppcmdaanheaa.Pr
open Go.RowKit Go.Proofs.YtngppcmdaanheaaW.PrintWords Go.Proofs.YtngppcmdaanheaaW.PrintLast Go.Proofs.YtngppcmdaanheaaW.PrintMore
attribute [local go_sem] max2_int min2_int max_two min_two
set_option linter.unusedVariables false
set_option linter.unusedSimpArgs false
/-! ### gumshoeref01_Has: function 45 -/
def gumshoeref01_Has.l0 : Nat → List Int → Int → Int → Option (Bool)
  | 0, _, _, _ => none
  | k + 1, x0, x1, x5 => if x5 < (x0.length : Int) then (if 0 ≤ x5 then (if (rd x0 x5) = x1 then (some true) else (gumshoeref01_Has.l0 k x0 x1 (wrap64 (x5 + 1)))) else (none)) else (some false)
def gumshoeref01_Has.f (k : Nat) (l0 : List Int) (a1 : Int) : Option (Bool) := gumshoeref01_Has.l0 k l0 a1 0
end Go.Proofs.Ytngppcmdaanheaa.Pr

-- WRITTEN BY hprint.py (a patched scratch copy of print.py, see NOTES.md): out of the translation and of contracts proved by hand.
namespace Go.Proofs.Ytngppcmdaanheaa.Pr
open Go.RowKit Go.Proofs.YtngppcmdaanheaaW.PrintWords Go.Proofs.YtngppcmdaanheaaW.PrintLast Go.Proofs.YtngppcmdaanheaaW.PrintMore
attribute [local go_sem] max2_int min2_int max_two min_two
set_option linter.unusedVariables false
set_option linter.unusedSimpArgs false
/-! ### gumshoeref01_With: function 43 -/
mutual
def gumshoeref01_With.l0 : Nat → List Int → Int → List Int → Bool → Int → Option (List Int)
  | 0, _, _, _, _, _ => none
  | k + 1, x0, x1, x5, x6, x7 => if x7 < (x0.length : Int) then (if x6 = true then (gumshoeref01_With.j1 k x0 x1 x5 x6 x7 false) else (if 0 ≤ x7 then (gumshoeref01_With.j1 k x0 x1 x5 x6 x7 (decide ((rd x0 x7) > x1))) else (none))) else (if x6 = true then (some x5) else (if x5.length < 17592186044416 then (some (x5 ++ [x1])) else (none)))
def gumshoeref01_With.j1 : Nat → List Int → Int → List Int → Bool → Int → Bool → Option (List Int)
  | 0, _, _, _, _, _, _ => none
  | k + 1, x0, x1, x5, x6, x7, x26 => if x26 = true then (if x5.length < 17592186044416 then ((some (x5 ++ [x1] : List Int)).bind fun y314 => (if 0 ≤ x7 then (if x7 < (x0.length : Int) then (if y314.length < 17592186044416 then (gumshoeref01_With.l0 k x0 x1 (y314 ++ [rd x0 x7]) true (wrap64 (x7 + 1))) else (none)) else (none)) else (none))) else (none)) else (if 0 ≤ x7 then (if x7 < (x0.length : Int) then (if x5.length < 17592186044416 then (gumshoeref01_With.l0 k x0 x1 (x5 ++ [rd x0 x7]) x6 (wrap64 (x7 + 1))) else (none)) else (none)) else (none))
end
def gumshoeref01_With.f (k : Nat) (l0 : List Int) (a1 : Int) : Option (List Int) := (gumshoeref01_Has.f k l0 a1).bind fun t312 => (gumshoeref01_With.l0 k l0 a1 ([] : List Int) t312 0)
end Go.Proofs.Ytngppcmdaanheaa.Pr

/- What gumshoeref01's printed Has, With compute, in closed form. No condition. -/
namespace Go.Proofs.Ytngppcmdaanheaa.Ref
open Go.RowKit Go.Proofs.Ytngppcmdaanheaa.Ev Go.Proofs.Ytngppcmdaanheaa.Pr Go.Proofs.YtngppcmdaanheaaW.PrintWords Go.Proofs.YtngppcmdaanheaaW.PrintMore Go.Proofs.Ytngppcmdaanheaa.Sets
def insL (n : Int) : List Int → List Int
  | [] => [n]
  | x :: r => if x > n then n :: x :: r else x :: insL n r
def withL (l : List Int) (n : Int) : List Int := if l.contains n = true then l else insL n l
def allL (a b : List Int) : List Int := b.foldl withL a
end Go.Proofs.Ytngppcmdaanheaa.Ref

-- WRITTEN BY hprint.py (a patched scratch copy of print.py, see NOTES.md): out of the translation and of contracts proved by hand.
namespace Go.Proofs.Ytngppcmdaanheaa.Pr
open Go.RowKit Go.Proofs.YtngppcmdaanheaaW.PrintWords Go.Proofs.YtngppcmdaanheaaW.PrintLast Go.Proofs.YtngppcmdaanheaaW.PrintMore
attribute [local go_sem] max2_int min2_int max_two min_two
set_option linter.unusedVariables false
set_option linter.unusedSimpArgs false
/-! ### gumshoeref14_bs: function 27 -/
mutual
def gumshoeref14_bs.l0 : Nat → List (S41) → Int → Int → List Int → Int → Option (List Int)
  | 0, _, _, _, _, _ => none
  | k + 1, x0, x1, x2, x7, x8 => if x8 < (x0.length : Int) then (if 0 ≤ x8 then (if ((rd_T41 x0 x8).f0) = x1 then (gumshoeref14_bs.j1 k x0 x1 x2 x7 x8 (((rd_T41 x0 x8).f1) == x2)) else (gumshoeref14_bs.j1 k x0 x1 x2 x7 x8 false)) else (none)) else (some x7)
def gumshoeref14_bs.j1 : Nat → List (S41) → Int → Int → List Int → Int → Bool → Option (List Int)
  | 0, _, _, _, _, _, _ => none
  | k + 1, x0, x1, x2, x7, x8, x30 => if x30 = true then (if 0 ≤ x8 then (if x8 < (x0.length : Int) then ((gumshoeref01_With.f k x7 ((rd_T41 x0 x8).f3)).bind fun t331 => (gumshoeref14_bs.l0 k x0 x1 x2 t331 (wrap64 (x8 + 1)))) else (none)) else (none)) else (gumshoeref14_bs.l0 k x0 x1 x2 x7 (wrap64 (x8 + 1)))
end
def gumshoeref14_bs.f (k : Nat) (l0 : List (S41)) (a1 : Int) (a2 : Int) : Option (List Int) := gumshoeref14_bs.l0 k l0 a1 a2 ([] : List Int) 0
end Go.Proofs.Ytngppcmdaanheaa.Pr

-- WRITTEN BY hprint.py (a patched scratch copy of print.py, see NOTES.md): out of the translation and of contracts proved by hand.
namespace Go.Proofs.Ytngppcmdaanheaa.Pr
open Go.RowKit Go.Proofs.YtngppcmdaanheaaW.PrintWords Go.Proofs.YtngppcmdaanheaaW.PrintLast Go.Proofs.YtngppcmdaanheaaW.PrintMore
attribute [local go_sem] max2_int min2_int max_two min_two
set_option linter.unusedVariables false
set_option linter.unusedSimpArgs false
/-! ### gumshoeref14_load: function 30 -/
mutual
def gumshoeref14_load.l0 : Nat → List (S41) → ByteArray → Bool → List Int → Int → Option (List Int)
  | 0, _, _, _, _, _ => none
  | k + 1, x0, x2, x3, x9, x10 => if x10 < (x9.length : Int) then (if 0 ≤ x10 then ((gumshoeref14_bs.f k x0 4 (rd x9 x10)).bind fun t338 => (gumshoeref14_load.l1 k x0 x2 x3 x9 x10 t338 0)) else (none)) else (gumshoeref14_load.l2 k x0 x2 x3 x9 ([] : List Int) 0)
def gumshoeref14_load.l1 : Nat → List (S41) → ByteArray → Bool → List Int → Int → List Int → Int → Option (List Int)
  | 0, _, _, _, _, _, _, _ => none
  | k + 1, x0, x2, x3, x9, x10, x11, x12 => if x12 < (x11.length : Int) then (if 0 ≤ x12 then ((gumshoeref01_Has.f k x9 (rd x11 x12)).bind fun t342 => (if t342 = true then (gumshoeref14_load.l1 k x0 x2 x3 x9 x10 x11 (wrap64 (x12 + 1))) else (if x9.length < 17592186044416 then (gumshoeref14_load.l1 k x0 x2 x3 (x9 ++ [rd x11 x12]) x10 x11 (wrap64 (x12 + 1))) else (none)))) else (none)) else (gumshoeref14_load.l0 k x0 x2 x3 x9 (wrap64 (x10 + 1)))
def gumshoeref14_load.l2 : Nat → List (S41) → ByteArray → Bool → List Int → List Int → Int → Option (List Int)
  | 0, _, _, _, _, _, _ => none
  | k + 1, x0, x2, x3, x9, x14, x15 => if x15 < (x0.length : Int) then (if 0 ≤ x15 then ((gumshoeref01_Has.f k x9 ((rd_T41 x0 x15).f1)).bind fun t348 => (if t348 = true then (if ((rd_T41 x0 x15).f0) = 8 then (gumshoeref14_load.j3 k x0 x2 x3 x9 x14 x15 true) else (if ((rd_T41 x0 x15).f0) = 3 then (if x3 = true then (gumshoeref14_load.j3 k x0 x2 x3 x9 x14 x15 true) else (gumshoeref14_load.j3 k x0 x2 x3 x9 x14 x15 (((rd_T41 x0 x15).f2).toList == x2.toList))) else (gumshoeref14_load.j3 k x0 x2 x3 x9 x14 x15 false))) else (gumshoeref14_load.j3 k x0 x2 x3 x9 x14 x15 false))) else (none)) else (some x14)
def gumshoeref14_load.j3 : Nat → List (S41) → ByteArray → Bool → List Int → List Int → Int → Bool → Option (List Int)
  | 0, _, _, _, _, _, _, _ => none
  | k + 1, x0, x2, x3, x9, x14, x15, x93 => if x93 = true then (if 0 ≤ x15 then (if x15 < (x0.length : Int) then ((gumshoeref01_With.f k x14 ((rd_T41 x0 x15).f3)).bind fun t353 => (gumshoeref14_load.l2 k x0 x2 x3 x9 t353 (wrap64 (x15 + 1)))) else (none)) else (none)) else (gumshoeref14_load.l2 k x0 x2 x3 x9 x14 (wrap64 (x15 + 1)))
end
def gumshoeref14_load.f (k : Nat) (l0 : List (S41)) (a1 : Int) (a2 : ByteArray) (a3 : Bool) : Option (List Int) := gumshoeref14_load.l0 k l0 a2 a3 (([a1] : List Int)) 0
end Go.Proofs.Ytngppcmdaanheaa.Pr

-- WRITTEN BY hprint.py (a patched scratch copy of print.py, see NOTES.md): out of the translation and of contracts proved by hand.
namespace Go.Proofs.Ytngppcmdaanheaa.Pr
open Go.RowKit Go.Proofs.YtngppcmdaanheaaW.PrintWords Go.Proofs.YtngppcmdaanheaaW.PrintLast Go.Proofs.YtngppcmdaanheaaW.PrintMore
attribute [local go_sem] max2_int min2_int max_two min_two
set_option linter.unusedVariables false
set_option linter.unusedSimpArgs false
/-! ### gumshoeref08_Before: function 24 -/
def gumshoeref08_Before.f (a0_0 : Int) (a0_1 : Int) (a0_2 : ByteArray) (a0_3 : Int) (a1_0 : Int) (a1_1 : Int) (a1_2 : ByteArray) (a1_3 : Int) : Option (Bool) := if a0_0 = a1_0 then (if a0_1 = a1_1 then (if a0_2.toList = a1_2.toList then (some (decide (a0_3 < a1_3))) else (some (Op.bytesLess a0_2.toList a1_2.toList))) else (some (decide (a0_1 < a1_1)))) else (some (decide (a0_0 < a1_0)))
end Go.Proofs.Ytngppcmdaanheaa.Pr

-- WRITTEN BY hprint.py (a patched scratch copy of print.py, see NOTES.md): out of the translation and of contracts proved by hand.
namespace Go.Proofs.Ytngppcmdaanheaa.Pr
open Go.RowKit Go.Proofs.YtngppcmdaanheaaW.PrintWords Go.Proofs.YtngppcmdaanheaaW.PrintLast Go.Proofs.YtngppcmdaanheaaW.PrintMore
attribute [local go_sem] max2_int min2_int max_two min_two
set_option linter.unusedVariables false
set_option linter.unusedSimpArgs false
attribute [local go_sem high] eqA41
/-! ### gumshoeref08_With: function 25 -/
mutual
def gumshoeref08_With.l0 : Nat → List (S41) → Int → Int → Int → ByteArray → Int → Option ((List (S41)))
  | 0, _, _, _, _, _, _ => none
  | k + 1, x0, x5, x357000, x357001, x357002, x357003 => if x5 > 0 then (if 0 ≤ (wrap64 (x5 - 1)) then (if (wrap64 (x5 - 1)) < (x0.length : Int) then ((gumshoeref08_Before.f ((rd_T41 x0 (wrap64 (x5 - 1))).f0) ((rd_T41 x0 (wrap64 (x5 - 1))).f1) ((rd_T41 x0 (wrap64 (x5 - 1))).f2) ((rd_T41 x0 (wrap64 (x5 - 1))).f3) x357000 x357001 x357002 x357003).bind fun t358 => (gumshoeref08_With.j1 k x0 x5 (!t358) x357000 x357001 x357002 x357003)) else (none)) else (none)) else (gumshoeref08_With.j1 k x0 x5 false x357000 x357001 x357002 x357003)
def gumshoeref08_With.j1 : Nat → List (S41) → Int → Bool → Int → Int → ByteArray → Int → Option ((List (S41)))
  | 0, _, _, _, _, _, _, _ => none
  | k + 1, x0, x5, x20, x357000, x357001, x357002, x357003 => if x20 = true then (if 0 ≤ (wrap64 (x5 - 1)) then (if (wrap64 (x5 - 1)) < (x0.length : Int) then (if (((rd_T41 x0 (wrap64 (x5 - 1))).f0) == x357000 && (((rd_T41 x0 (wrap64 (x5 - 1))).f1) == x357001 && ((((rd_T41 x0 (wrap64 (x5 - 1))).f2).toList) == x357002.toList && (((rd_T41 x0 (wrap64 (x5 - 1))).f3) == x357003)))) = true then (some x0) else (gumshoeref08_With.l0 k x0 (wrap64 (x5 - 1)) x357000 x357001 x357002 x357003)) else (none)) else (none)) else (if 0 ≤ x5 then (if x5 ≤ (x0.length : Int) then ((some (x0.take (x5 : Int).toNat : List (S41))).bind fun y359 => (if ([] : List (S41)).length + y359.length < 3518437208883 then ((some (([] : List (S41)) ++ y359 : List (S41))).bind fun y364 => (if y364.length < 3518437208883 then ((some (y364 ++ [(⟨x357000, x357001, x357002, x357003⟩ : S41)] : List (S41))).bind fun y367 => ((some (x0.drop (x5 : Int).toNat : List (S41))).bind fun y370 => (if y367.length + y370.length < 3518437208883 then (some (y367 ++ y370)) else (none)))) else (none))) else (none))) else (none)) else (none))
end
def gumshoeref08_With.f (k : Nat) (l0 : List (S41)) (a1_0 : Int) (a1_1 : Int) (a1_2 : ByteArray) (a1_3 : Int) : Option ((List (S41))) := gumshoeref08_With.l0 k l0 (l0.length : Int) a1_0 a1_1 a1_2 a1_3
end Go.Proofs.Ytngppcmdaanheaa.Pr

/- What the reference's printed Before, With, bs, load compute, in closed form. No condition. -/
namespace Go.Proofs.Ytngppcmdaanheaa.Lu
open Go.RowKit Go.Proofs.Ytngppcmdaanheaa.Ev Go.Proofs.Ytngppcmdaanheaa.Pr Go.Proofs.Ytngppcmdaanheaa.Ls Go.Proofs.Ytngppcmdaanheaa.Ref Go.Proofs.YtngppcmdaanheaaW.PrintWords Go.Proofs.YtngppcmdaanheaaW.PrintMore
set_option linter.unusedVariables false
set_option linter.unusedSimpArgs false
theorem rdK_nat (l : List Fa) (i : Nat) : rd_T41 l (i : Int) = l.getD i z41 := by unfold rd_T41; rw [Int.toNat_natCast]
theorem eqT_iff (x y : Fa) : ((x.f0 == y.f0 && (x.f1 == y.f1 && (x.f2.toList == y.f2.toList && x.f3 == y.f3))) = true) ↔ x = y := by
  obtain ⟨a, b, c, d⟩ := x
  obtain ⟨a', b', c', d'⟩ := y
  simp only [Bool.and_eq_true, beq_iff_eq]
  constructor
  · rintro ⟨h1, h2, h3, h4⟩
    rw [h1, h2, bytes_ext h3, h4]
  · intro h
    injection h with h1 h2 h3 h4
    subst h1 h2 h3 h4
    exact ⟨rfl, rfl, rfl, rfl⟩
end Go.Proofs.Ytngppcmdaanheaa.Lu

/- The plain law of LeastWithin. No condition. -/
namespace Go.Proofs.Ytngppcmdaanheaa.Pure
open Go.RowKit Go.Proofs.Ytngppcmdaanheaa.Pr Go.Proofs.Ytngppcmdaanheaa.Ls Go.Proofs.Ytngppcmdaanheaa.Lv Go.Proofs.Ytngppcmdaanheaa.Lu Go.Proofs.Ytngppcmdaanheaa.Ev Go.Proofs.YtngppcmdaanheaaW.PrintWords Go.Proofs.YtngppcmdaanheaaW.PrintMore
set_option linter.unusedVariables false
set_option linter.unusedSimpArgs false
theorem within_in (a b : List Fa) (hb : b.length ≤ 1000000) (i : Nat) (hi : i < a.length) (hi2 : i + 1 ≤ 9223372036854775807) (r : Bool) (hk : Ev fun k => gumshoeref14_Within.l0 k a b ((i + 1 : Nat) : Int) = some r) (d : Nat) : ∀ j (t : Bool), j + d = b.length →
    Ev fun k => gumshoeref14_Within.l1 k a b (i : Int) t (j : Int) = some (if t = true ∨ a.getD i z41 ∈ b.drop j then r else false) := by
  have hF : ∀ (j : Nat) (t : Bool), Ev fun k => gumshoeref14_Within.j2 k a b (i : Int) t (j : Int) false = some (if t = true then r else false) := fun j t => hk.succ fun k hk => by
    rw [gumshoeref14_Within.j2, if_neg (by decide), wrap_nat i hi2, hk]
    cases t <;> rfl
  induction d with
  | zero =>
    intro j t h
    refine (hF j t).succ fun k hk => ?_
    rw [gumshoeref14_Within.l1, if_neg (by omega), hk, drop_len b j (by omega)]
    simp
  | succ d ih =>
    intro j t h
    cases t with
    | true =>
      refine (hF j true).succ fun k hk => ?_
      rw [gumshoeref14_Within.l1, if_pos (by omega), show (!true) = false from rfl, hk, if_pos rfl, if_pos (.inl rfl)]
    | false =>
      have h2 : Ev fun k => gumshoeref14_Within.j2 k a b (i : Int) false (j : Int) true = some (if false = true ∨ a.getD i z41 ∈ b.drop j then r else false) := (ih (j + 1) (decide (a.getD i z41 = b.getD j z41)) (by omega)).succ fun k hk => by
        rw [gumshoeref14_Within.j2, if_pos rfl, if_pos (by omega), if_pos (by omega), if_pos (by omega), if_pos (by omega), rdK_nat, rdK_nat, wrap_nat j (by omega)]
        rw [show ((a.getD i z41).f0 == (b.getD j z41).f0 && ((a.getD i z41).f1 == (b.getD j z41).f1 && ((a.getD i z41).f2.toList == (b.getD j z41).f2.toList && (a.getD i z41).f3 == (b.getD j z41).f3))) = decide (a.getD i z41 = b.getD j z41) from by
          rw [Bool.eq_iff_iff, eqT_iff, decide_eq_true_iff]]
        rw [hk, drop_at b j z41 (by omega)]
        congr 1
        simp only [decide_eq_true_iff, List.mem_cons, Bool.false_eq_true, false_or]
      refine h2.succ fun k hk => ?_
      rw [gumshoeref14_Within.l1, if_pos (by omega), show (!false) = true from rfl, hk]
theorem within_out (a b : List Fa) (ha : a.length ≤ 1000000) (hb : b.length ≤ 1000000) (d : Nat) : ∀ i, i + d = a.length → Ev fun k => gumshoeref14_Within.l0 k a b (i : Int) = some ((a.drop i).all (fun f => decide (f ∈ b))) := by
  induction d with
  | zero =>
    intro i h
    refine Ev.step fun k => ?_
    rw [gumshoeref14_Within.l0, if_neg (by omega), drop_len a i (by omega)]
    rfl
  | succ d ih =>
    intro i h
    refine (within_in a b hb i (by omega) (by omega) _ (ih (i + 1) (by omega)) b.length 0 false (by omega)).succ fun k hk => ?_
    rw [gumshoeref14_Within.l0, if_pos (by omega), show (0 : Int) = ((0 : Nat) : Int) from rfl, hk, List.drop_zero, drop_at a i z41 (by omega), List.all_cons]
    congr 1
    by_cases hm : a.getD i z41 ∈ b
    · rw [if_pos (.inr hm), decide_eq_true hm, Bool.true_and]
    · rw [if_neg (fun h => h.elim (by decide) hm), decide_eq_false hm, Bool.false_and]
theorem within_tells (a b : List Fa) (ha : a.length ≤ 1000000) (hb : b.length ≤ 1000000) : Ev fun k => gumshoeref14_Within.f k a b = some (withinB a b) := by
  refine (within_out a b ha hb a.length 0 (by omega)).mono fun k hk => ?_
  rw [gumshoeref14_Within.f, show (0 : Int) = ((0 : Nat) : Int) from rfl, hk, List.drop_zero]
  congr 1
  unfold withinB
  rw [Bool.eq_iff_iff, List.all_eq_true, Bool.not_eq_true', List.any_eq_false]
  simp
theorem within_f {a b : List Fa} (ha : ∀ f ∈ a, wfF f) (hb : ∀ f ∈ b, wfF f) (h1 : a.length ≤ 1000000) (h2 : b.length ≤ 1000000) : least_Within.f a b = some (withinB a b) := by
  unfold least_Within.f
  rw [if_pos ⟨ha, hb, Nat.le_trans h1 (by decide), Nat.le_trans h2 (by decide)⟩]
theorem within_iff {a b : List Fa} : withinB a b = true ↔ ∀ f ∈ a, f ∈ b := by
  unfold withinB
  rw [Bool.not_eq_true', List.any_eq_false]
  simp
theorem LeastWithin (l0 : List S41) (h0 : ∀ a ∈ l0, (Lit.int .i64 a.f0).wf = true ∧ (Lit.int .i64 a.f1).wf = true ∧ a.f2.size ≤ maxLen ∧ (Lit.int .i64 a.f3).wf = true)
    (l1 : List S41) (h1 : ∀ a ∈ l1, (Lit.int .i64 a.f0).wf = true ∧ (Lit.int .i64 a.f1).wf = true ∧ a.f2.size ≤ maxLen ∧ (Lit.int .i64 a.f3).wf = true) :
    ∃ k, gumshoelaw14_LeastWithin.f k l0 l1 = some true := by
  have w0 : ∀ f ∈ l0.take 60, wfF f := fun f hf => h0 f (List.mem_of_mem_take hf)
  have w1 : ∀ f ∈ l1.take 60, wfF f := fun f hf => h1 f (List.mem_of_mem_take hf)
  have n0 : (l0.take 60).length ≤ 1000000 := by rw [List.length_take]; omega
  have n1 : (l1.take 60).length ≤ 1000000 := by rw [List.length_take]; omega
  refine (shown_tells.and (within_tells (l0.take 60) (l1.take 60) n0 n1)).mono (fun k hk => ?_) |>.ex
  obtain ⟨k1, k2⟩ := hk
  unfold gumshoelaw14_LeastWithin.f
  rw [k1, Option.bind_some, if_pos rfl]
  simp only [few_tells, Option.bind_some]
  rw [within_f w0 w1 n0 n1, Option.bind_some, k2, Option.bind_some, if_pos (by simp), within_f w0 w0 n0 n0, Option.bind_some, within_iff.2 (fun f hf => hf)]
end Go.Proofs.Ytngppcmdaanheaa.Pure

/- What a row reads of an argument, as a value of a kind: over whatever program. -/
namespace Go.Proofs.Ytngppcmdaanheaa.Opens
open Go.RowKit Go.Deep Go.ChangeShapes Go.WideShapes Go.Proofs.YtngppcmdaanheaaW.PrintWords
set_option linter.unusedVariables false
def OpensTo {α : Type} (P : Program) (t : TypeId) (K : World → α → List Value → Prop) (Wf : α → Prop) : Prop :=
  ∀ (H : Type) (enc : TypeId × Value → H) (w : World) (base : Nat) (sp : Nat → Bool) (held : Bool) (fuel : Nat) (cs : List Value) (x : DataW H × List MemPlace), DataW.trod enc P w base sp held fuel t cs = some x → ∃ a, K w a cs ∧ Wf a
variable {P : Program} {t e : TypeId}
theorem opens_int {k : IntKind} (ht : P.underlying t = some (.int k)) : OpensTo P t (Kd.int k).K (fun n => (Lit.int k n).wf = true) := by
  intro H enc w base sp held fuel cs x h
  cases fuel with
  | zero => simp [DataW.trod] at h
  | succ fuel =>
    unfold DataW.trod at h
    rw [ht] at h
    split at h <;> first | (rename_i heq; cases heq; done) | (cases h; done) | skip
    rename_i heq
    injection heq with heq
    injection heq with heq
    subst heq
    split at h
    · rename_i hk
      obtain ⟨rfl, hk⟩ := hk
      exact ⟨_, rfl, hk⟩
    · exact absurd h (by simp)
theorem opens_string (ht : P.underlying t = some .string) : OpensTo P t Kd.string.K (fun s => s.size ≤ maxLen) := by
  intro H enc w base sp held fuel cs x h
  cases fuel with
  | zero => simp [DataW.trod] at h
  | succ fuel =>
    unfold DataW.trod at h
    rw [ht] at h
    split at h <;> first | (rename_i heq; cases heq; done) | (cases h; done) | skip
    split at h
    · rename_i hk
      exact ⟨_, rfl, hk⟩
    · exact absurd h (by simp)
theorem opens_slice {α : Type} [Inhabited α] {d : Kd α} {Wf : α → Prop} (ht : P.underlying t = some (.slice e)) (hc : P.cellsOf e = d.sz) (he : OpensTo P e d.K Wf) : OpensTo P t (Kd.slice e d).K (fun l => ∀ a ∈ l, Wf a) := by
  intro H enc w base sp held fuel cs x h
  rcases open_slice ht h with ⟨rfl, _⟩ | ⟨a, len, cap, m, n, D, Pl, rfl, hb, hl, hcap, hm, _, hel⟩
  · exact ⟨[], ⟨none, 0, rfl, Nat.le_refl _, rfl, by simp, fun h => by simp at h⟩, by simp⟩
  · have hmm : len ≤ m := by rw [hm]; split <;> omega
    have hx : ∀ i, i < len → ∃ (y : α) (cs' : List Value), w.cells? base (a.add (i * d.sz)) d.sz = some cs' ∧ d.K w y cs' ∧ Wf y := by
      intro i hi
      obtain ⟨cs', h1, h2⟩ := hel i (by omega)
      rw [hc] at h1
      obtain ⟨y, h3, h4⟩ := he H enc w base sp held n cs' _ h2
      exact ⟨y, cs', h1, h3, h4⟩
    let f : Nat → α := fun i => if h : i < len then Classical.choose (hx i h) else default
    have hf : ∀ i, i < len → ∃ cs', w.cells? base (a.add (i * d.sz)) d.sz = some cs' ∧ d.K w (f i) cs' ∧ Wf (f i) := by
      intro i hi
      have : f i = Classical.choose (hx i hi) := dif_pos hi
      rw [this]
      exact Classical.choose_spec (hx i hi)
    have hlen : ((List.range len).map f).length = len := by simp
    refine ⟨(List.range len).map f, ⟨some a, cap, by rw [hlen], by rw [hlen]; exact hl, ?_⟩, ?_⟩
    · refine ⟨rfl, by rw [hlen]; simp only [maxLen] at hcap; omega, fun _ => ⟨a, rfl, fun j p hj => ?_⟩⟩
      have hj' : j < len := by
        have := (List.getElem?_eq_some_iff.1 hj).1
        omega
      have hp : p = f j := by simp [hj'] at hj; exact hj.symm
      subst hp
      obtain ⟨cs', h1, h2, _⟩ := hf j hj'
      refine ⟨cs', d.K_len h2, h2, fun i u hu => ?_⟩
      obtain ⟨_, h3, h4⟩ := World.cells?_some h1
      have hi : i < d.sz := by have := (List.getElem?_eq_some_iff.1 hu).1; have := d.K_len h2; omega
      have h5 := h4 i hi
      rw [show (a.add (j * d.sz + i)) = (a.add (j * d.sz)).add i from ?_, h5, hu]
      unfold Addr.add
      by_cases e1 : j * d.sz = 0 <;> by_cases e2 : i = 0 <;> simp [e1, e2, Nat.add_assoc]
    · intro y hy
      rw [List.mem_map] at hy
      obtain ⟨i, hi, rfl⟩ := hy
      obtain ⟨_, _, _, h⟩ := hf i (List.mem_range.1 hi)
      exact h
theorem slice_of_K {α : Type} {d : Kd α} {w : World} {l : List α} {v : Value} {A : Option Addr} {n c : Nat} (hv : v = .slice A n c) (h : (Kd.slice e d).K w l v.cells.toList) : n = l.length ∧ l.length ≤ c ∧ d.C w A l.length l := by
  subst hv
  obtain ⟨A', c', h1, h2, h3⟩ := h
  simp [Value.cells] at h1
  obtain ⟨rfl, rfl, rfl⟩ := h1
  exact ⟨rfl, h2, h3⟩
/-! ### structs -/
def OpensFs {β : Type} (P : Program) (fs : List Field) (o sz : Nat) (K : World → β → List Value → Prop) (Wf : β → Prop) : Prop :=
  ∀ (H : Type) (enc : TypeId × Value → H) (w : World) (base : Nat) (sp : Nat → Bool) (held : Bool) (fuel : Nat) (cs : List Value) (xs : List (DataW H × List MemPlace)), cs.length = o + sz →
    (fs.mapM fun f => DataW.trod enc P w base sp held fuel f.type ((cs.drop f.offset).take (P.cellsOf f.type))) = some xs → ∃ b, K w b (cs.drop o) ∧ Wf b
theorem opensFs_last {β : Type} {K : World → β → List Value → Prop} {Wf : β → Prop} {f : Field} {o sz : Nat} (ho : f.offset = o) (hc : P.cellsOf f.type = sz) (h : OpensTo P f.type K Wf) : OpensFs P [f] o sz K Wf := by
  intro H enc w base sp held fuel cs xs hl hx
  rw [List.mapM_cons] at hx
  cases hq : DataW.trod enc P w base sp held fuel f.type ((cs.drop f.offset).take (P.cellsOf f.type)) with
  | none => rw [hq] at hx; cases hx
  | some y =>
    obtain ⟨b, h1, h2⟩ := h H enc w base sp held fuel _ _ hq
    rw [ho, hc, List.take_of_length_le (by rw [List.length_drop]; omega)] at h1
    exact ⟨b, h1, h2⟩
theorem opensFs_cons {α β : Type} {da : Kd α} {db : Kd β} {Wa : α → Prop} {Wb : β → Prop} {f : Field} {fs : List Field} {o sz : Nat} (ho : f.offset = o) (hc : P.cellsOf f.type = da.sz) (h : OpensTo P f.type da.K Wa) (hs : OpensFs P fs (o + da.sz) sz db.K Wb) :
    OpensFs P (f :: fs) o (da.sz + sz) (Kd.pair da db).K (fun x => Wa x.1 ∧ Wb x.2) := by
  intro H enc w base sp held fuel cs xs hl hx
  rw [List.mapM_cons] at hx
  cases hq : DataW.trod enc P w base sp held fuel f.type ((cs.drop f.offset).take (P.cellsOf f.type)) with
  | none => rw [hq] at hx; cases hx
  | some y =>
    rw [hq] at hx
    cases hr : (fs.mapM fun f => DataW.trod enc P w base sp held fuel f.type ((cs.drop f.offset).take (P.cellsOf f.type))) with
    | none => rw [hr] at hx; cases hx
    | some ys =>
      obtain ⟨a, h1, h2⟩ := h H enc w base sp held fuel _ _ hq
      obtain ⟨b, h3, h4⟩ := hs H enc w base sp held fuel cs ys (by omega) hr
      rw [ho, hc] at h1
      refine ⟨(a, b), ⟨_, _, ?_, h1, h3⟩, h2, h4⟩
      rw [← List.drop_drop, List.take_append_drop]
theorem opens_struct {α : Type} {d : Kd α} {Wf : α → Prop} {fs : Array Field} (ht : P.underlying t = some (.struct fs)) (hc : P.cellsOf t = d.sz) (h : OpensFs P fs.toList 0 d.sz d.K Wf) : OpensTo P t d.K Wf := by
  intro H enc w base sp held fuel cs x hx
  cases fuel with
  | zero => simp [DataW.trod] at hx
  | succ fuel =>
    unfold DataW.trod at hx
    rw [ht] at hx
    dsimp only at hx
    split at hx
    · rename_i hl
      rw [Option.map_eq_some_iff] at hx
      obtain ⟨xs, hxs, _⟩ := hx
      have := h H enc w base sp held fuel _ _ (by rw [hl, hc, Nat.zero_add]) hxs
      simpa using this
    · cases hx
theorem opens_iso {α β : Type} {d : Kd α} (f : β → α) (g : α → β) (hfg : ∀ x, f (g x) = x) {Wf : α → Prop} (h : OpensTo P t d.K Wf) : OpensTo P t (Kd.iso d f).K (fun x => Wf (f x)) := by
  intro H enc w base sp held fuel cs x hx
  obtain ⟨a, h1, h2⟩ := h H enc w base sp held fuel cs x hx
  refine ⟨g a, ?_, ?_⟩
  · show d.K w (f (g a)) cs
    rw [hfg]; exact h1
  · show Wf (f (g a))
    rw [hfg]; exact h2
end Go.Proofs.Ytngppcmdaanheaa.Opens

/- The row of LeastWithin, out of its contract and its plain law. No condition. -/
namespace Go.Proofs.Ytngppcmdaanheaa.leastWithin
open Go.ChangeShapes Go.WideShapes Go.ChangeAt Go.RowKit
open Go.ChangeMaps (open_string shut_string)
open Go.Proofs.Ytngppcmdaanheaa Go.Proofs.YtngppcmdaanheaaW.PrintWords
set_option linter.unusedVariables false
theorem own : ownKnob Try.prog.godebug = none := by kernel_rfl
theorem laidOut : laidOutB Try.prog = true := by kernel_rfl
instance : Inhabited Pr.S41 := ⟨Pr.z41⟩
set_option maxRecDepth 100000 in
theorem lifted (os : Os) (started : os.Started) (H : Type) (enc : TypeId × Value → H) :
    ReturnsInHanded {} Try.checked os 5 .any (Rows.leastWithinSpec.pre6 enc Try.prog Try.f5 Rows.leastWithinRow.domain false) (Rows.leastWithinSpec.post enc Try.prog Try.f5 false true false false) := by
  refine returnsInHanded_of_change_sized (C := Try.checked) own started (by kernel_rfl) Try.func5
    (ChangeSpec.witness6 (enc := enc) (C := Try.checked) false ⟨#[], #[.slice none 0 0, .slice none 0 0], []⟩ 8 (by kernel_rfl) (by kernel_rfl) (by kernel_rfl) (by kernel_rfl)) ?_
  intro W base args ds gs before hval0 hW hcnd hsz0 _
  have hsz : (DataW.weightsEach Try.prog (Try.f5.params.toList ++ Rows.leastWithinSpec.plain.varTypes Try.prog) (ds ++ gs)).all (· ≤ reachBytes) = true := hsz0
  have hval : ∀ (j : Nat) t v, Try.f5.params[j]? = some t → args[j]? = some v → Value.okWide Try.prog W .any base t v := hval0
  have hW' := hW
  obtain ⟨p, q, hA0, hV, rfl, hfz, hnd⟩ := hW
  have hA : DataW.TrodAll enc Try.prog W 0 (fun _ => true) true Try.f5.params.toList args.toList ds p := hA0
  rw [Try.params5] at hA hval hsz
  obtain ⟨v0, vs0, d0, ds0, p0, q0, hargs, rfl, rfl, h0, r0⟩ := trodAll_cons hA
  obtain ⟨v1, vs1, d1, ds1, p1, q1, rfl, rfl, rfl, h1, r1⟩ := trodAll_cons r0
  obtain ⟨rfl, rfl, rfl⟩ := trodAll_nil r1
  obtain rfl : args = #[v0, v1] := by cases args; simp_all
  obtain ⟨rfl, rfl⟩ := trodVars_none hV
  obtain ⟨a0, len0, cap0, rfl⟩ := okWide_slice Try.underlying26 (hval 0 26 v0 rfl rfl)
  have k0 := h0
  have lt0 : ∀ x ∈ p0, x.block < W.heap.size := by obtain ⟨m, hm⟩ := k0; exact DataW.trod_lt m _ _ _ hm
  obtain ⟨m0, hm0⟩ := h0
  obtain ⟨l0, hK0, hw0⟩ := (Opens.opens_slice (d := Pr.k41) Try.underlying26 (by kernel_rfl) (Opens.opens_iso (fun x : Pr.S41 => (x.f0, x.f1, x.f2, x.f3)) (fun y => (⟨y.1, y.2.1, y.2.2.1, y.2.2.2⟩ : Pr.S41)) (fun _ => rfl) (Opens.opens_struct Try.underlying41 (by kernel_rfl) (Opens.opensFs_cons (da := Kd.int .i64) rfl (by kernel_rfl) (Opens.opens_int Try.underlying3) (Opens.opensFs_cons (da := Kd.int .i64) rfl (by kernel_rfl) (Opens.opens_int Try.underlying3) (Opens.opensFs_cons (da := Kd.string) rfl (by kernel_rfl) (Opens.opens_string Try.underlying9) (Opens.opensFs_last rfl (by kernel_rfl) (Opens.opens_int Try.underlying3)))))))) H enc W 0 _ true m0 _ _ hm0
  obtain ⟨hn0, hc0, hr0⟩ := Opens.slice_of_K rfl hK0
  subst hn0
  obtain ⟨a1, len1, cap1, rfl⟩ := okWide_slice Try.underlying26 (hval 1 26 v1 rfl rfl)
  have k1 := h1
  have lt1 : ∀ x ∈ p1, x.block < W.heap.size := by obtain ⟨m, hm⟩ := k1; exact DataW.trod_lt m _ _ _ hm
  obtain ⟨m1, hm1⟩ := h1
  obtain ⟨l1, hK1, hw1⟩ := (Opens.opens_slice (d := Pr.k41) Try.underlying26 (by kernel_rfl) (Opens.opens_iso (fun x : Pr.S41 => (x.f0, x.f1, x.f2, x.f3)) (fun y => (⟨y.1, y.2.1, y.2.2.1, y.2.2.2⟩ : Pr.S41)) (fun _ => rfl) (Opens.opens_struct Try.underlying41 (by kernel_rfl) (Opens.opensFs_cons (da := Kd.int .i64) rfl (by kernel_rfl) (Opens.opens_int Try.underlying3) (Opens.opensFs_cons (da := Kd.int .i64) rfl (by kernel_rfl) (Opens.opens_int Try.underlying3) (Opens.opensFs_cons (da := Kd.string) rfl (by kernel_rfl) (Opens.opens_string Try.underlying9) (Opens.opensFs_last rfl (by kernel_rfl) (Opens.opens_int Try.underlying3)))))))) H enc W 0 _ true m1 _ _ hm1
  obtain ⟨hn1, hc1, hr1⟩ := Opens.slice_of_K rfl hK1
  subst hn1
  clear hA0 hval0 hsz0 hsz
  have hP := Pure.LeastWithin l0 hw0 l1 hw1
  obtain ⟨k, hP⟩ := hP
  refine (Pr.gumshoelaw14_LeastWithin.calls k _ _ l0 _ _ l1 true W hr0 hc0 hr1 hc1 hP).mono fun e W' ⟨he, bel⟩ => ?_
  subst he
  exact ⟨_, rfl, _, _, _, [], _, [], hW', trodAll_mk1 (shut_bool Try.underlying4 _), (trodAll_cons_mk (Below.trod laidOut (by kernel_rfl) (of_decide_eq_true (by kernel_rfl)) k0 bel lt0) (trodAll_cons_mk (Below.trod laidOut (by kernel_rfl) (of_decide_eq_true (by kernel_rfl)) k1 bel lt1) trodAll_mk0)), rfl, bel.frame _, fun h => by cases h⟩
theorem over : Rows.leastWithinRow.holds Try.pinned (OpenSpec.ofChange Rows.leastWithinSpec) :=
  OpenClaim.holds_of_wide 5 Try.f5 rfl rfl rfl rfl rfl rfl rfl ⟨rfl, rfl, rfl, rfl, rfl⟩ rfl rfl rfl rfl rfl (by kernel_rfl) Try.func5 (by kernel_rfl)
    (of_decide_eq_true (by kernel_rfl)) (by unfold Func.isWrapper; first | (rw [if_pos (by decide +kernel)]; kernel_rfl) | (rw [if_neg (by decide +kernel)]; exact ⟨rfl, rfl⟩))
    (fun os started H enc _ => lifted os started H enc)
theorem proved : Rows.LeastWithinSaid := over
end Go.Proofs.Ytngppcmdaanheaa.leastWithin
namespace Go.Proofs.Ytngppcmdaanheaa
theorem leastWithin_holds : Rows.LeastWithinSaid := leastWithin.proved
end Go.Proofs.Ytngppcmdaanheaa

