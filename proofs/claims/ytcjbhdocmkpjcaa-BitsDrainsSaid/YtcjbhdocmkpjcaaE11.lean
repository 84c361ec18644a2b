/- gumshoelaw01.BitsDrains. No condition. -/
import Derived.Test.YtcjbhdocmkpjcaaE10
import Derived.Test.YtcjbhdocmkpjcaaEv
namespace Go.Proofs.Ytcjbhdocmkpjcaa.Ext
open Go.RowKit Go.Proofs.YtcjbhdocmkpjcaaW.PrintWords Go.Proofs.YtcjbhdocmkpjcaaW.PrintLast Go.Proofs.YtcjbhdocmkpjcaaW.PrintMore Go.Proofs.Ytcjbhdocmkpjcaa.Pr Go.Proofs.Ytcjbhdocmkpjcaa.Base Go.Proofs.Ytcjbhdocmkpjcaa.Iter Go.Proofs.Ytcjbhdocmkpjcaa.ISet Go.Proofs.Ytcjbhdocmkpjcaa.Sets
set_option linter.unusedVariables false
set_option linter.unusedSimpArgs false

/-- Each number once, in the order of coming. -/
def onceL (l : List Int) : List Int := l.foldl (fun a x => if x ∈ a then a else a ++ [x]) []
theorem onceL_snoc (l : List Int) (x : Int) : onceL (l ++ [x]) = if x ∈ onceL l then onceL l else onceL l ++ [x] := by
  unfold onceL
  rw [List.foldl_append]
  rfl
theorem onceL_from (l : List Int) : ∀ a : List Int, (l.foldl (fun a x => if x ∈ a then a else a ++ [x]) a).length ≤ a.length + l.length := by
  induction l with
  | nil => intro a; simp
  | cons y r ih =>
    intro a
    rw [List.foldl_cons]
    have := ih (if y ∈ a then a else a ++ [y])
    have h2 : (if y ∈ a then a else a ++ [y]).length ≤ a.length + 1 := by split <;> simp
    rw [List.length_cons]
    omega
theorem onceL_length (l : List Int) : (onceL l).length ≤ l.length := by simpa [onceL] using onceL_from l []
theorem take_snoc (l : List Int) (k : Nat) (hk : k < l.length) : l.take (k + 1) = l.take k ++ [l.getD k 0] := by
  rw [List.take_succ_eq_append_getElem hk, List.getD_eq_getElem?_getD, List.getElem?_eq_getElem hk]
  rfl

def gumshoelaw01_BitsDrains.f (l : List Int) : Option Bool := if l.all (fun x => (Lit.int .i64 x).wf) = true then some true else none
set_option maxHeartbeats 2000000 in
theorem gumshoelaw01_BitsDrains.calls (A0 : Option Addr) (c0 : Nat) (l0 : List Int) (r : Bool) (w : World) (hr0 : Kd.C (Kd.int .i64) w A0 l0.length l0) (hc0 : l0.length ≤ c0) (h : gumshoelaw01_BitsDrains.f l0 = some r) :
    Calls Try.prog 6 #[.slice A0 l0.length c0] w fun e w' => e = .returned (.bool r) ∧ Below w.heap.size w w' := by
  unfold gumshoelaw01_BitsDrains.f at h
  by_cases hw : l0.all (fun x => (Lit.int .i64 x).wf) = true
  case neg => rw [if_neg hw] at h; cases h
  rw [if_pos hw] at h
  obtain rfl := Option.some.inj h
  have hwf : ∀ x ∈ l0.take 200, wfI x := fun x hx => List.all_eq_true.1 hw x (List.mem_of_mem_take hx)
  have hlen : (l0.take 200).length ≤ 200 := by rw [List.length_take]; omega
  have HC := Aside0.mk (take_C hr0)
  have HCUT := Aside0.mk (fun W (hb : Below w.heap.size w W) => cut_C A0 c0 l0 W (Kd.C_below hr0 hb) hc0)
  clear h hw hr0 hc0
  generalize l0.take 200 = l at *
  go_enter Try.func6, Try.ntmps6
  go_wp2_with fail
  refine (gumshoelaw01_shown.calls true w rfl).mono ?_
  rintro e w1 ⟨rfl, hB⟩
  have HB1 := Aside0.mk hB
  clear hB
  go_wp2_with fail
  refine (HCUT.out w1 HB1.out).mono ?_
  rintro e w2 ⟨rfl, hd⟩
  have HB2 := Aside0.mk (HB1.out.trans (hd.below.mono HB1.out.size))
  clear hd HB1 HCUT
  go_wp2_with fail
  refine (new_row w w2 HB2.out).mono ?_
  rintro e w3 ⟨gq, rfl, hq⟩
  have HQ := Aside0.mk hq
  clear hq HB2
  go_wp2
  go_loopw [5, 6] (fun v i W => ∃ k : Nat, i = .int .i64 k ∧ k ≤ l.length ∧ QRow w W gq (onceL (l.take k)) k v (onceL (l.take k))) (fun _ i _ => l.length - (intOf i).toNat)
  case atStart => exact ⟨0, rfl, Nat.zero_le _, HQ.out⟩
  case round =>
    clear HQ
    obtain ⟨k, rfl, hk, hI⟩ := hrel
    have HI := Aside0.mk hI
    have HO := Aside0.mk hI.own
    clear hI
    have hOn := onceL_length (l.take k)
    rw [List.length_take] at hOn
    obtain ⟨A, c, rfl, hlc, hcm⟩ := own_slice3 HO.out
    by_cases hlt : k < l.length
    · obtain ⟨ad, e, hcell⟩ := at_getD (Kd.C_below HC.out HI.out.bel) k hlt
      have HCELL := Aside0.mk (show ∀ W' : World, Below w.heap.size w W' → W'.cell? (ad.add k) = some (.int .i64 (l.getD k 0)) from fun W' hb => by
        obtain ⟨ad', e', h'⟩ := at_getD (Kd.C_below HC.out hb) k hlt
        rw [e] at e'
        injection e' with e'
        rw [e', h'])
      subst e
      have hx : wfI (l.getD k 0) := hwf _ (by rw [List.getD_eq_getElem?_getD, List.getElem?_eq_getElem hlt]; exact List.getElem_mem hlt)
      have HT := Aside0.mk (take_snoc l k hlt)
      have HP := Aside0.mk (HI.out.push (by omega) (l.getD k 0) hx)
      generalize l.getD k 0 = x at *
      have HN := Aside0.mk (onceL_snoc (l.take k) x)
      generalize onceL (l.take k) = T at *
      by_cases hm : x ∈ T
      · rw [if_pos hm] at HN
        have HP' := Aside0.mk HP.out
        simp only [if_pos hm, decide_eq_true hm, Bool.not_true] at HP'
        go_wp2_with (go_at_call 18; refine HP'.out.mono ?_; rintro e W1 ⟨rfl, hq⟩; have HQ := Aside0.mk hq; clear hq)
        go_round
        case rel => exact ⟨k + 1, by go_num, by omega, by rw [HT.out, HN.out]; exact HQ.out⟩
        case measure => simp [intOf]; omega
      · rw [if_neg hm] at HN
        have HP' := Aside0.mk HP.out
        simp only [if_neg hm, decide_eq_false hm, Bool.not_false] at HP'
        go_wp2_with (first
          | (go_at_call 18; refine HP'.out.mono ?_; rintro e W1 ⟨rfl, hq⟩; have HQ := Aside0.mk hq; have hcell1 := HCELL.out W1 hq.bel; clear hq)
          | ((with_reducible refine gate_builtin (b := .append) rfl ?_); at_builtin; go_loud (refine Kd.R_append (Kd.int .i64) (w0 := W1) w.heap.size rfl _ _ 24 3 (.int .i64 0) 8 rfl Try.underlying24 infoI rfl (by decide) (by decide) (.slice A T.length c) T x [.int .i64 x] (fun _ => True) (fun _ => False) rfl rfl rfl (fun _ hk => hk.elim) (fun _ _ => trivial) HQ.out.own (Below.refl _ _) HQ.out.bel.size (by omega) ?_; rintro v1 w1' hO1 _ hg1 hat1; have HQ2 := Aside0.mk (HQ.out.longer hg1 hO1 hat1); clear hO1 hg1 hat1)))
        go_round
        case rel => exact ⟨k + 1, by go_num, by omega, by rw [HT.out, HN.out]; exact HQ2.out⟩
        case measure => simp [intOf]; omega
    · obtain rfl : k = l.length := by omega
      have hTe := List.take_of_length_le (l := l) (Nat.le_refl _)
      rw [hTe] at HI HO
      rw [hTe] at *
      clear hTe
      have HNK := Aside0.mk (show (onceL l).length ≤ 200 from Nat.le_trans (onceL_length l) hlen)
      generalize onceL l = T at *
      go_wp2
      go_loopw [7] (fun i W => ∃ j : Nat, i = .int .i64 j ∧ j ≤ T.length ∧ QRow w W gq (T.drop j) l.length (.slice A T.length c) T) (fun i _ => T.length - (intOf i).toNat)
      case atStart => exact ⟨0, rfl, Nat.zero_le _, HI.out⟩
      case round =>
        clear HI HO
        obtain ⟨j, rfl, hj, hI⟩ := hrel
        have HI := Aside0.mk hI
        clear hI
        obtain ⟨A', c', hv, hlc', hCv⟩ := Kd.R_reads HI.out.own
        injection hv with hA hn hc
        subst hA hc
        have hNK := HNK.out
        by_cases hlt : j < T.length
        · obtain ⟨ad, e, hcell⟩ := at_getD hCv j hlt
          subst e
          have HCELL := Aside0.mk (show ∀ (W' : World) (T' : List Int), QRow w W' gq T' l.length (.slice (some ad) T.length c) T → W'.cell? (ad.add j) = some (.int .i64 (T.getD j 0)) from fun W' T' hq => by
            obtain ⟨A', c', hv, _, hCv⟩ := Kd.R_reads hq.own
            injection hv with hA hn hc
            obtain ⟨ad', e', h'⟩ := at_getD hCv j hlt
            rw [← hA] at e'
            injection e' with e'
            rw [e', h'])
          have HD := Aside0.mk (Ev.drop_at T j 0 hlt)
          have HCv := Aside0.mk hCv
          clear hCv
          have HP := Aside0.mk (show Calls _ _ _ _ _ from (HD.out ▸ HI.out : QRow w _ gq (T.getD j 0 :: T.drop (j + 1)) l.length _ T).pop)
          generalize T.getD j 0 = x at *
          go_wp2_with (go_at_call 16; refine HP.out.mono ?_; rintro e W1 ⟨rfl, hq⟩; have HQ := Aside0.mk hq; have hcell1 := HCELL.out W1 _ hq; clear hq)
          go_round
          case rel => exact ⟨j + 1, by go_num, by omega, HQ.out⟩
          case measure => simp [intOf]; omega
        · obtain rfl : j = T.length := by omega
          have hDe := List.drop_eq_nil_of_le (Nat.le_refl T.length)
          rw [hDe] at HI
          clear hDe hCv
          have HP := Aside0.mk HI.out.pop_none
          go_wp2_with (first
            | (go_at_call 16; refine HP.out.mono ?_; rintro e W1 ⟨rfl, hq⟩; have HQ := Aside0.mk hq; have HL := Aside0.mk hq.len; clear hq)
            | (go_at_call 19; refine HL.out.mono ?_; rintro e W2 ⟨rfl, hq⟩; have HQ2 := Aside0.mk hq; clear hq))
          go_ret
          exact ⟨rfl, HQ2.out.bel⟩
end Go.Proofs.Ytcjbhdocmkpjcaa.Ext
