/- bits.Union: the numbers of sets, sorted, each once. -/
import Derived.Test.YtcjbhdocmkpjcaaE2
import Derived.Test.YtcjbhdocmkpjcaaSets
namespace Go.Proofs.Ytcjbhdocmkpjcaa.Ext
open Go.RowKit Go.Proofs.YtcjbhdocmkpjcaaW.PrintWords Go.Proofs.YtcjbhdocmkpjcaaW.PrintLast Go.Proofs.Ytcjbhdocmkpjcaa.Pr Go.Proofs.Ytcjbhdocmkpjcaa.Base Go.Proofs.Ytcjbhdocmkpjcaa.Sets
set_option linter.unusedVariables false
set_option linter.unusedSimpArgs false

theorem own_base_lt {w : World} {base : Nat} {v : Value} {xs : List Int} (h : OwnI w base v xs) (k : Nat) (hk : v.ownBlock = some k) : base ≤ k := own_base (Kd.own_of_R h) k hk

/-- bits.Union. -/
def bits_Union.f (l0 : List (List Int)) : Option (List Int × Int) :=
  if l0.all setB = true then (if l0.flatten.length ≤ 17592186044416 then some (sset l0.flatten, 0) else none) else some ([], 2)
set_option maxHeartbeats 1000000 in
theorem bits_Union.calls (A0 : Option Addr) (c0 : Nat) (l0 : List (List Int)) (r1 : List Int) (r2 : Int) (w : World) (hr0 : Kd.C (Kd.slice 3 (Kd.int .i64)) w A0 l0.length l0) (hc0 : l0.length ≤ c0) (h : bits_Union.f l0 = some (r1, r2)) :
    Calls Try.prog 12 #[.slice A0 l0.length c0] w fun e w' => ∃ v0_ : Value, e = .returned (.tuple #[v0_, .int .i64 r2]) ∧ Kd.R (Kd.int .i64) 3 w' w.heap.size (fun _ => True) v0_ r1 ∧ Below w.heap.size w w' := by
  unfold bits_Union.f at h
  cases hb : l0.all setB with
  | false =>
    rw [hb, if_neg (by decide)] at h
    injection h with h
    injection h with h1 h2
    subst h1 h2
    have HA := Aside0.mk (bits_areSets.calls A0 c0 l0 false w hr0 hc0 (by unfold bits_areSets.f; rw [hb]))
    clear hr0 hc0 hb
    go_enter Try.func12, Try.ntmps12
    go_wp2_with (go_at_call 29; refine HA.out.mono ?_; rintro e w' ⟨rfl, hd⟩; have HD := Aside0.mk hd; clear hd)
    go_ret2
    exact ⟨_, rfl, Kd.R_nil _ _ _ _ _, HD.out.below⟩
  | true =>
    rw [hb, if_pos rfl] at h
    by_cases hT : l0.flatten.length ≤ 17592186044416
    · rw [if_pos hT] at h
      injection h with h
      injection h with h1 h2
      subst h1 h2
      have HA := Aside0.mk (bits_areSets.calls A0 c0 l0 true w hr0 hc0 (by unfold bits_areSets.f; rw [hb]))
      have HT := Aside0.mk hT
      have HR := Aside0.mk hr0
      have HC := Aside0.mk hc0
      clear hr0 hc0 hb hT
      have hs : sset l0.flatten = Lib.compact (l0.flatten.mergeSort fun x y => decide (x ≤ y)) := rfl
      have HS := Aside0.mk hs
      clear hs
      generalize sset l0.flatten = res at *
      go_enter Try.func12, Try.ntmps12
      go_wp2_with (go_at_call 29; refine HA.out.mono ?_; rintro e w1 ⟨rfl, hd⟩; have HD := Aside0.mk hd; clear hd)
      clear HA
      refine (concat_calls A0 c0 l0 _ (Kd.C_below HR.out HD.out.below) HC.out HT.out).mono ?_
      rintro e w2 ⟨v, rfl, hO, hB⟩
      have HB := Aside0.mk hB
      have HO := Aside0.mk hO
      clear hO hB
      go_wp2_with fail
      refine (sort_own v l0.flatten _ _ HO.out (by have := HT.out; omega)).mono ?_
      rintro e w3 ⟨rfl, hO, hG⟩
      have HO3 := Aside0.mk hO
      have HB3 := Aside0.mk (HB.out.grown hG HB.out.size (fun k hk => own_base_lt HO.out k hk))
      clear hO hG HO HB
      go_wp2_with fail
      refine (compact_own v _ _ _ HO3.out (by have := HT.out; rw [List.length_mergeSort]; omega)).mono ?_
      rintro e w4 ⟨v4, rfl, hO, hG, hv⟩
      have HO4 := Aside0.mk hO
      have HB4 := Aside0.mk (HB3.out.grown hG HB3.out.size (fun k hk => own_base_lt HO3.out k hk))
      clear hO hG hv HO3 HB3
      go_wp2_with fail
      go_ret2
      obtain ⟨⟨n, rfl⟩⟩ := HD.out
      exact ⟨_, rfl, by rw [HS.out]; exact HO4.out, (Drawn0.below ⟨⟨n, rfl⟩⟩).trans HB4.out⟩
    · rw [if_neg hT] at h
      cases h

end Go.Proofs.Ytcjbhdocmkpjcaa.Ext
