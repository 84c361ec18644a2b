/- gumshoelaw01.BitsNone. No condition. -/
import Derived.Test.YtcjbhdocmkpjcaaE8
namespace Go.Proofs.Ytcjbhdocmkpjcaa.Ext
open Go.RowKit Go.Proofs.YtcjbhdocmkpjcaaW.PrintWords Go.Proofs.YtcjbhdocmkpjcaaW.PrintLast Go.Proofs.Ytcjbhdocmkpjcaa.Pr Go.Proofs.Ytcjbhdocmkpjcaa.Base Go.Proofs.Ytcjbhdocmkpjcaa.Iter Go.Proofs.Ytcjbhdocmkpjcaa.ISet Go.Proofs.Ytcjbhdocmkpjcaa.Sets
set_option linter.unusedVariables false
set_option linter.unusedSimpArgs false

theorem sset_nil : sset [] = [] := rising_eq (sset_facts _).1 (by simp) (fun x => by rw [(sset_facts _).2])
theorem union_nil (w : World) : Calls Try.prog 12 #[.slice none 0 0] w fun e w' => ∃ v : Value, e = .returned (.tuple #[v, .int .i64 0]) ∧ OwnI w' w.heap.size v [] ∧ Below w.heap.size w w' :=
  bits_Union.calls none 0 [] [] 0 w ⟨rfl, by simp, fun h => by simp at h⟩ (by simp) (by unfold bits_Union.f; rw [if_pos (by decide), if_pos (by decide)]; rw [show ([] : List (List Int)).flatten = [] from rfl, sset_nil])

def gumshoelaw01_BitsNone.f (n : Int) : Option Bool := some true
set_option maxHeartbeats 2000000 in
theorem gumshoelaw01_BitsNone.calls (a0 : Int) (r : Bool) (w : World) (h : gumshoelaw01_BitsNone.f a0 = some r) : Calls Try.prog 5 #[.int .i64 a0] w fun e w' => e = .returned (.bool r) ∧ Below w.heap.size w w' := by
  obtain rfl := Option.some.inj h
  clear h
  go_enter Try.func5, Try.ntmps5
  go_wp2_with fail
  refine (gumshoelaw01_shown.calls true w rfl).mono ?_
  rintro e w1 ⟨rfl, hB⟩
  have HB1 := Aside0.mk hB
  clear hB
  go_wp2_with fail
  refine (pop_nil w1).mono ?_
  rintro e w2 ⟨rfl, hd⟩
  have HB2 := Aside0.mk (HB1.out.trans (hd.below.mono HB1.out.size))
  clear hd HB1
  go_wp2_with fail
  refine (union_nil w2).mono ?_
  rintro e w3 ⟨v, rfl, hO, hB⟩
  have HB3 := Aside0.mk (HB2.out.trans (hB.mono HB2.out.size))
  obtain ⟨A, c, rfl, hlc, hc⟩ := own_slice3 hO
  clear hO hB HB2
  go_wp2_with fail
  refine (push_nil a0 w3).mono ?_
  rintro e w4 ⟨rfl, hd⟩
  have HB4 := Aside0.mk (HB3.out.trans (hd.below.mono HB3.out.size))
  clear hd HB3
  go_wp2_with fail
  refine (len_nil w4).mono ?_
  rintro e w5 ⟨rfl, hd⟩
  have HB5 := Aside0.mk (HB4.out.trans (hd.below.mono HB4.out.size))
  clear hd HB4
  go_wp2
  go_ret
  exact ⟨rfl, HB5.out⟩
end Go.Proofs.Ytcjbhdocmkpjcaa.Ext
