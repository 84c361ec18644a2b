/-
  No cell of these rows narrows 'for every input' (looked for: loops, veiled, ifaces, maps, wideKeys, modest, calm, conditions, laid).
  DERIVED. THE GIVEN ROWS OF THIS SEAT. 4 by the template 'for every input the law returns true; each argument reads behind the call as it read before'; 0 by the template 'total and deterministic' (their statements: YtondngpmhlemkaaTotals.lean).
  GIVEN WITH THE SEED: the statements are not yours to turn. If you find one false, say at which input.
  Laid BY PROGRAM, IN A SANDBOX (cutbox-rows.mjs): the forced cells as the released guide's own fill.sh prints them over the translation 664fb9050b2ffb74… (all of the seat's roots in one cut). By AI agents, Wed Nov 11 2026. No macro, syntax, notation, axiom, sorry.
-/
import Derived.Test.YtondngpmhlemkaaChecked
import GoSem.Claim
import GoSem.ClaimJoined
import GoSem.ClaimMapViews
import Derived.JoinedTies
import Derived.KernelRfl
namespace Go.Proofs.Ytondngpmhlemkaa
/- THE CELL 'sum', in the pinned program and in every row, IS THE sha256 OF THE DUMP (.gsa) THAT YtondngpmhlemkaaProg.lean LOADS. Nothing in Lean hashes anything: it is a label: what it is worth is what the hold of that sum in a sandbox is worth. -/
noncomputable def Try.pinned : Pinned := { name := "ytondngpmhlemkaa", sum := "664fb9050b2ffb74565b8aff24981f91268c9216c12cad3b553937af5109b23f", checked := Try.checked }
namespace Rows
def none {H : Type} : Left H := { results := [], args := [] }

/-- 'gumshoelaw15.GraphGrows': WHATEVER THE INPUT: true; the input reads as it did. -/
def graphGrowsSpec : ChangeSpec := { name := "graphGrows", fn := fun _ => fun
  | [d1, d2] => { results := [.lit (.bool true)], args := [d1, d2] }
  | _ => none }
def graphGrowsRow : OpenClaim := { program := "ytondngpmhlemkaa", sum := "664fb9050b2ffb74565b8aff24981f91268c9216c12cad3b553937af5109b23f", func := "gumshoe/gumshoelaw15.GraphGrows", spec := "graphGrows", unfollowed := true, recurses := true, apart := false }
def GraphGrowsSaid : Prop := graphGrowsRow.holds Try.pinned (OpenSpec.ofChange graphGrowsSpec)

/-- ITS FALSE NEIGHBOUR: 'it returns false'. Refute it at one input. -/
def graphGrowsWrong : ChangeSpec := { name := "graphGrows", fn := fun _ => fun
  | [d1, d2] => { results := [.lit (.bool false)], args := [d1, d2] }
  | _ => none }
def GraphGrowsWrongFalsely : Prop := graphGrowsRow.holds Try.pinned (OpenSpec.ofChange graphGrowsWrong)

/-- 'gumshoelaw15.GraphReached': WHATEVER THE INPUT: true; the input reads as it did. -/
def graphReachedSpec : ChangeSpec := { name := "graphReached", fn := fun _ => fun
  | [d1, d2] => { results := [.lit (.bool true)], args := [d1, d2] }
  | _ => none }
def graphReachedRow : OpenClaim := { program := "ytondngpmhlemkaa", sum := "664fb9050b2ffb74565b8aff24981f91268c9216c12cad3b553937af5109b23f", func := "gumshoe/gumshoelaw15.GraphReached", spec := "graphReached", unfollowed := true, recurses := true, apart := false }
def GraphReachedSaid : Prop := graphReachedRow.holds Try.pinned (OpenSpec.ofChange graphReachedSpec)

/-- ITS FALSE NEIGHBOUR: 'it returns false'. Refute it at one input. -/
def graphReachedWrong : ChangeSpec := { name := "graphReached", fn := fun _ => fun
  | [d1, d2] => { results := [.lit (.bool false)], args := [d1, d2] }
  | _ => none }
def GraphReachedWrongFalsely : Prop := graphReachedRow.holds Try.pinned (OpenSpec.ofChange graphReachedWrong)

/-- 'gumshoelaw15.GraphFacts': WHATEVER THE INPUT: true; the input reads as it did. -/
def graphFactsSpec : ChangeSpec := { name := "graphFacts", fn := fun _ => fun
  | [d1, d2] => { results := [.lit (.bool true)], args := [d1, d2] }
  | _ => none }
def graphFactsRow : OpenClaim := { program := "ytondngpmhlemkaa", sum := "664fb9050b2ffb74565b8aff24981f91268c9216c12cad3b553937af5109b23f", func := "gumshoe/gumshoelaw15.GraphFacts", spec := "graphFacts", unfollowed := true, recurses := true, apart := false }
def GraphFactsSaid : Prop := graphFactsRow.holds Try.pinned (OpenSpec.ofChange graphFactsSpec)

/-- ITS FALSE NEIGHBOUR: 'it returns false'. Refute it at one input. -/
def graphFactsWrong : ChangeSpec := { name := "graphFacts", fn := fun _ => fun
  | [d1, d2] => { results := [.lit (.bool false)], args := [d1, d2] }
  | _ => none }
def GraphFactsWrongFalsely : Prop := graphFactsRow.holds Try.pinned (OpenSpec.ofChange graphFactsWrong)

/-- 'gumshoelaw15.GraphEdges': WHATEVER THE INPUT: true; the input reads as it did. -/
def graphEdgesSpec : ChangeSpec := { name := "graphEdges", fn := fun _ => fun
  | [d1, d2] => { results := [.lit (.bool true)], args := [d1, d2] }
  | _ => none }
def graphEdgesRow : OpenClaim := { program := "ytondngpmhlemkaa", sum := "664fb9050b2ffb74565b8aff24981f91268c9216c12cad3b553937af5109b23f", func := "gumshoe/gumshoelaw15.GraphEdges", spec := "graphEdges", unfollowed := true, recurses := true, apart := false }
def GraphEdgesSaid : Prop := graphEdgesRow.holds Try.pinned (OpenSpec.ofChange graphEdgesSpec)

/-- ITS FALSE NEIGHBOUR: 'it returns false'. Refute it at one input. -/
def graphEdgesWrong : ChangeSpec := { name := "graphEdges", fn := fun _ => fun
  | [d1, d2] => { results := [.lit (.bool false)], args := [d1, d2] }
  | _ => none }
def GraphEdgesWrongFalsely : Prop := graphEdgesRow.holds Try.pinned (OpenSpec.ofChange graphEdgesWrong)

/- THE SECOND FORM. 'bulk': how many values and letters a reading holds, each counted each time it is reached (what is shared counts as often as it is met; a slice's spare places count too). A statement '..UptoSaid' is the law's where the arguments, and the package variables that the reading takes, are together of bulk at most 1048576: NARROWER than '..Said'. Prove '..Said' where nothing that the law and all that it calls make is longer than what came in: it says more and counts as full. Else prove '..UptoSaid'. A law counts once. -/
mutual
def uptoBulk {H : Type} : DataW H → Nat
  | .lit (.string bytes) => bytes.length + 1
  | .lit _ => 1
  | .nil => 1
  | .ptr d => uptoBulk d + 1
  | .slice elems spare => uptoBulkAll elems + uptoBulkAll spare + 1
  | .agg parts => uptoBulkAll parts + 1
  | .iface _ d => uptoBulk d + 1
  | .map entries => uptoBulkEntries entries + 1
  | .held _ => 1
def uptoBulkAll {H : Type} : List (DataW H) → Nat
  | [] => 0
  | d :: r => uptoBulk d + uptoBulkAll r
def uptoBulkEntries {H : Type} : List (Lit × DataW H) → Nat
  | [] => 0
  | x :: r => uptoBulkEntry x + uptoBulkEntries r
def uptoBulkEntry {H : Type} : Lit × DataW H → Nat
  | (.string bytes, d) => bytes.length + uptoBulk d + 1
  | (_, d) => uptoBulk d + 1
 end
def uptoSmall : (H : Type) → List (DataW H) → Bool := fun _ ds => decide (uptoBulkAll ds ≤ 1048576)
def OpenSpec.upto (s : _root_.Go.ChangeSpec) : _root_.Go.OpenSpec := { _root_.Go.OpenSpec.ofChange s with cond := some uptoSmall }

/-- 'gumshoelaw15.GraphGrows', WHERE WHAT IT READS IS OF BULK AT MOST 1048576: true; the input reads as it did. -/
def graphGrowsUptoRow : OpenClaim := { program := "ytondngpmhlemkaa", sum := "664fb9050b2ffb74565b8aff24981f91268c9216c12cad3b553937af5109b23f", func := "gumshoe/gumshoelaw15.GraphGrows", spec := "graphGrows", unfollowed := true, recurses := true, apart := false, narrowed := true }
def GraphGrowsUptoSaid : Prop := graphGrowsUptoRow.holds Try.pinned (OpenSpec.upto graphGrowsSpec)

/-- 'gumshoelaw15.GraphReached', WHERE WHAT IT READS IS OF BULK AT MOST 1048576: true; the input reads as it did. -/
def graphReachedUptoRow : OpenClaim := { program := "ytondngpmhlemkaa", sum := "664fb9050b2ffb74565b8aff24981f91268c9216c12cad3b553937af5109b23f", func := "gumshoe/gumshoelaw15.GraphReached", spec := "graphReached", unfollowed := true, recurses := true, apart := false, narrowed := true }
def GraphReachedUptoSaid : Prop := graphReachedUptoRow.holds Try.pinned (OpenSpec.upto graphReachedSpec)

/-- 'gumshoelaw15.GraphFacts', WHERE WHAT IT READS IS OF BULK AT MOST 1048576: true; the input reads as it did. -/
def graphFactsUptoRow : OpenClaim := { program := "ytondngpmhlemkaa", sum := "664fb9050b2ffb74565b8aff24981f91268c9216c12cad3b553937af5109b23f", func := "gumshoe/gumshoelaw15.GraphFacts", spec := "graphFacts", unfollowed := true, recurses := true, apart := false, narrowed := true }
def GraphFactsUptoSaid : Prop := graphFactsUptoRow.holds Try.pinned (OpenSpec.upto graphFactsSpec)

/-- 'gumshoelaw15.GraphEdges', WHERE WHAT IT READS IS OF BULK AT MOST 1048576: true; the input reads as it did. -/
def graphEdgesUptoRow : OpenClaim := { program := "ytondngpmhlemkaa", sum := "664fb9050b2ffb74565b8aff24981f91268c9216c12cad3b553937af5109b23f", func := "gumshoe/gumshoelaw15.GraphEdges", spec := "graphEdges", unfollowed := true, recurses := true, apart := false, narrowed := true }
def GraphEdgesUptoSaid : Prop := graphEdgesUptoRow.holds Try.pinned (OpenSpec.upto graphEdgesSpec)

end Rows
end Go.Proofs.Ytondngpmhlemkaa
