/-
  No cell of these rows narrows 'for every input' (looked for: loops, veiled, ifaces, maps, wideKeys, modest, calm, conditions, laid).
  DERIVED. THE GIVEN ROWS OF THIS SEAT. 5 by the template 'for every input the law returns true; each argument reads behind the call as it read before'; 0 by the template 'total and deterministic' (their statements: YtngppcmdaanheaaTotals.lean).
  GIVEN WITH THE SEED: the statements are not yours to turn. If you find one false, say at which input.
  Laid BY PROGRAM, IN A SANDBOX (cutbox-rows.mjs): the forced cells as the released guide's own fill.sh prints them over the translation 6a2fda40d7c57026… (all of the seat's roots in one cut). By AI agents, Wed Nov 11 2026. No macro, syntax, notation, axiom, sorry.
-/
import Derived.Test.YtngppcmdaanheaaChecked
import GoSem.Claim
import GoSem.ClaimJoined
import GoSem.ClaimMapViews
import Derived.JoinedTies
import Derived.KernelRfl
namespace Go.Proofs.Ytngppcmdaanheaa
/- THE CELL 'sum', in the pinned program and in every row, IS THE sha256 OF THE DUMP (.gsa) THAT YtngppcmdaanheaaProg.lean LOADS. Nothing in Lean hashes anything: it is a label: what it is worth is what the hold of that sum in a sandbox is worth. -/
noncomputable def Try.pinned : Pinned := { name := "ytngppcmdaanheaa", sum := "6a2fda40d7c5702628ea0dfc9578697ae13dec2ef1e61ebb0714b9ab15ef9cae", checked := Try.checked }
namespace Rows
def none {H : Type} : Left H := { results := [], args := [] }

/-- 'gumshoelaw14.LeastRounds': WHATEVER THE INPUT: true; the input reads as it did. -/
def leastRoundsSpec : ChangeSpec := { name := "leastRounds", fn := fun _ => fun
  | [d1, d2] => { results := [.lit (.bool true)], args := [d1, d2] }
  | _ => none }
def leastRoundsRow : OpenClaim := { program := "ytngppcmdaanheaa", sum := "6a2fda40d7c5702628ea0dfc9578697ae13dec2ef1e61ebb0714b9ab15ef9cae", func := "gumshoe/gumshoelaw14.LeastRounds", spec := "leastRounds", unfollowed := true, recurses := true, plainKeys := false, apart := false }
def LeastRoundsSaid : Prop := leastRoundsRow.holds Try.pinned (OpenSpec.ofChange leastRoundsSpec)

/-- ITS FALSE NEIGHBOUR: 'it returns false'. Refute it at one input. -/
def leastRoundsWrong : ChangeSpec := { name := "leastRounds", fn := fun _ => fun
  | [d1, d2] => { results := [.lit (.bool false)], args := [d1, d2] }
  | _ => none }
def LeastRoundsWrongFalsely : Prop := leastRoundsRow.holds Try.pinned (OpenSpec.ofChange leastRoundsWrong)

/-- 'gumshoelaw14.LeastRight': WHATEVER THE INPUT: true; the input reads as it did. -/
def leastRightSpec : ChangeSpec := { name := "leastRight", fn := fun _ => fun
  | [d1, d2] => { results := [.lit (.bool true)], args := [d1, d2] }
  | _ => none }
def leastRightRow : OpenClaim := { program := "ytngppcmdaanheaa", sum := "6a2fda40d7c5702628ea0dfc9578697ae13dec2ef1e61ebb0714b9ab15ef9cae", func := "gumshoe/gumshoelaw14.LeastRight", spec := "leastRight", unfollowed := true, recurses := true, plainKeys := false, apart := false }
def LeastRightSaid : Prop := leastRightRow.holds Try.pinned (OpenSpec.ofChange leastRightSpec)

/-- ITS FALSE NEIGHBOUR: 'it returns false'. Refute it at one input. -/
def leastRightWrong : ChangeSpec := { name := "leastRight", fn := fun _ => fun
  | [d1, d2] => { results := [.lit (.bool false)], args := [d1, d2] }
  | _ => none }
def LeastRightWrongFalsely : Prop := leastRightRow.holds Try.pinned (OpenSpec.ofChange leastRightWrong)

/-- 'gumshoelaw14.LeastWithin': WHATEVER THE INPUT: true; the input reads as it did. -/
def leastWithinSpec : ChangeSpec := { name := "leastWithin", fn := fun _ => fun
  | [d1, d2] => { results := [.lit (.bool true)], args := [d1, d2] }
  | _ => none }
def leastWithinRow : OpenClaim := { program := "ytngppcmdaanheaa", sum := "6a2fda40d7c5702628ea0dfc9578697ae13dec2ef1e61ebb0714b9ab15ef9cae", func := "gumshoe/gumshoelaw14.LeastWithin", spec := "leastWithin", unfollowed := true, recurses := true, plainKeys := false, apart := false }
def LeastWithinSaid : Prop := leastWithinRow.holds Try.pinned (OpenSpec.ofChange leastWithinSpec)

/-- ITS FALSE NEIGHBOUR: 'it returns false'. Refute it at one input. -/
def leastWithinWrong : ChangeSpec := { name := "leastWithin", fn := fun _ => fun
  | [d1, d2] => { results := [.lit (.bool false)], args := [d1, d2] }
  | _ => none }
def LeastWithinWrongFalsely : Prop := leastWithinRow.holds Try.pinned (OpenSpec.ofChange leastWithinWrong)

/-- 'gumshoelaw14.LeastRises': WHATEVER THE INPUT: true; the input reads as it did. -/
def leastRisesSpec : ChangeSpec := { name := "leastRises", fn := fun _ => fun
  | [d1, d2, d3] => { results := [.lit (.bool true)], args := [d1, d2, d3] }
  | _ => none }
def leastRisesRow : OpenClaim := { program := "ytngppcmdaanheaa", sum := "6a2fda40d7c5702628ea0dfc9578697ae13dec2ef1e61ebb0714b9ab15ef9cae", func := "gumshoe/gumshoelaw14.LeastRises", spec := "leastRises", unfollowed := true, recurses := true, plainKeys := false, apart := false }
def LeastRisesSaid : Prop := leastRisesRow.holds Try.pinned (OpenSpec.ofChange leastRisesSpec)

/-- ITS FALSE NEIGHBOUR: 'it returns false'. Refute it at one input. -/
def leastRisesWrong : ChangeSpec := { name := "leastRises", fn := fun _ => fun
  | [d1, d2, d3] => { results := [.lit (.bool false)], args := [d1, d2, d3] }
  | _ => none }
def LeastRisesWrongFalsely : Prop := leastRisesRow.holds Try.pinned (OpenSpec.ofChange leastRisesWrong)

/-- 'gumshoelaw14.LeastAdds': WHATEVER THE INPUT: true; the input reads as it did. -/
def leastAddsSpec : ChangeSpec := { name := "leastAdds", fn := fun _ => fun
  | [d1, d2] => { results := [.lit (.bool true)], args := [d1, d2] }
  | _ => none }
def leastAddsRow : OpenClaim := { program := "ytngppcmdaanheaa", sum := "6a2fda40d7c5702628ea0dfc9578697ae13dec2ef1e61ebb0714b9ab15ef9cae", func := "gumshoe/gumshoelaw14.LeastAdds", spec := "leastAdds", unfollowed := true, recurses := true, plainKeys := false, apart := false }
def LeastAddsSaid : Prop := leastAddsRow.holds Try.pinned (OpenSpec.ofChange leastAddsSpec)

/-- ITS FALSE NEIGHBOUR: 'it returns false'. Refute it at one input. -/
def leastAddsWrong : ChangeSpec := { name := "leastAdds", fn := fun _ => fun
  | [d1, d2] => { results := [.lit (.bool false)], args := [d1, d2] }
  | _ => none }
def LeastAddsWrongFalsely : Prop := leastAddsRow.holds Try.pinned (OpenSpec.ofChange leastAddsWrong)

/- THE SECOND FORM. 'bulk': how many values and letters a reading holds, each counted each time it is reached (what is shared counts as often as it is met; a slice's spare places count too). A statement '..UptoSaid' is the law's where the arguments, and the package variables that the reading takes, are together of bulk at most 1048576: NARROWER than '..Said'. Prove '..Said' where nothing that the law and all that it calls make is longer than what came in: it says more and counts as full. Else prove '..UptoSaid'. A law counts once. -/
mutual
def uptoBulk {H : Type} : DataW H → Nat
  | .lit (.string bytes) => bytes.length + 1
  | .lit _ => 1
  | .nil => 1
  | .ptr d => uptoBulk d + 1
  | .slice elems spare => uptoBulkAll elems + uptoBulkAll spare + 1
  | .agg parts => uptoBulkAll parts + 1
  | .iface _ d => uptoBulk d + 1
  | .map entries => uptoBulkEntries entries + 1
  | .held _ => 1
def uptoBulkAll {H : Type} : List (DataW H) → Nat
  | [] => 0
  | d :: r => uptoBulk d + uptoBulkAll r
def uptoBulkEntries {H : Type} : List (Lit × DataW H) → Nat
  | [] => 0
  | x :: r => uptoBulkEntry x + uptoBulkEntries r
def uptoBulkEntry {H : Type} : Lit × DataW H → Nat
  | (.string bytes, d) => bytes.length + uptoBulk d + 1
  | (_, d) => uptoBulk d + 1
 end
def uptoSmall : (H : Type) → List (DataW H) → Bool := fun _ ds => decide (uptoBulkAll ds ≤ 1048576)
def OpenSpec.upto (s : _root_.Go.ChangeSpec) : _root_.Go.OpenSpec := { _root_.Go.OpenSpec.ofChange s with cond := some uptoSmall }

/-- 'gumshoelaw14.LeastRounds', WHERE WHAT IT READS IS OF BULK AT MOST 1048576: true; the input reads as it did. -/
def leastRoundsUptoRow : OpenClaim := { program := "ytngppcmdaanheaa", sum := "6a2fda40d7c5702628ea0dfc9578697ae13dec2ef1e61ebb0714b9ab15ef9cae", func := "gumshoe/gumshoelaw14.LeastRounds", spec := "leastRounds", unfollowed := true, recurses := true, plainKeys := false, apart := false, narrowed := true }
def LeastRoundsUptoSaid : Prop := leastRoundsUptoRow.holds Try.pinned (OpenSpec.upto leastRoundsSpec)

/-- 'gumshoelaw14.LeastRight', WHERE WHAT IT READS IS OF BULK AT MOST 1048576: true; the input reads as it did. -/
def leastRightUptoRow : OpenClaim := { program := "ytngppcmdaanheaa", sum := "6a2fda40d7c5702628ea0dfc9578697ae13dec2ef1e61ebb0714b9ab15ef9cae", func := "gumshoe/gumshoelaw14.LeastRight", spec := "leastRight", unfollowed := true, recurses := true, plainKeys := false, apart := false, narrowed := true }
def LeastRightUptoSaid : Prop := leastRightUptoRow.holds Try.pinned (OpenSpec.upto leastRightSpec)

/-- 'gumshoelaw14.LeastWithin', WHERE WHAT IT READS IS OF BULK AT MOST 1048576: true; the input reads as it did. -/
def leastWithinUptoRow : OpenClaim := { program := "ytngppcmdaanheaa", sum := "6a2fda40d7c5702628ea0dfc9578697ae13dec2ef1e61ebb0714b9ab15ef9cae", func := "gumshoe/gumshoelaw14.LeastWithin", spec := "leastWithin", unfollowed := true, recurses := true, plainKeys := false, apart := false, narrowed := true }
def LeastWithinUptoSaid : Prop := leastWithinUptoRow.holds Try.pinned (OpenSpec.upto leastWithinSpec)

/-- 'gumshoelaw14.LeastRises', WHERE WHAT IT READS IS OF BULK AT MOST 1048576: true; the input reads as it did. -/
def leastRisesUptoRow : OpenClaim := { program := "ytngppcmdaanheaa", sum := "6a2fda40d7c5702628ea0dfc9578697ae13dec2ef1e61ebb0714b9ab15ef9cae", func := "gumshoe/gumshoelaw14.LeastRises", spec := "leastRises", unfollowed := true, recurses := true, plainKeys := false, apart := false, narrowed := true }
def LeastRisesUptoSaid : Prop := leastRisesUptoRow.holds Try.pinned (OpenSpec.upto leastRisesSpec)

/-- 'gumshoelaw14.LeastAdds', WHERE WHAT IT READS IS OF BULK AT MOST 1048576: true; the input reads as it did. -/
def leastAddsUptoRow : OpenClaim := { program := "ytngppcmdaanheaa", sum := "6a2fda40d7c5702628ea0dfc9578697ae13dec2ef1e61ebb0714b9ab15ef9cae", func := "gumshoe/gumshoelaw14.LeastAdds", spec := "leastAdds", unfollowed := true, recurses := true, plainKeys := false, apart := false, narrowed := true }
def LeastAddsUptoSaid : Prop := leastAddsUptoRow.holds Try.pinned (OpenSpec.upto leastAddsSpec)

end Rows
end Go.Proofs.Ytngppcmdaanheaa
