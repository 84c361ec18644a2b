/-
  No cell of these rows narrows 'for every input' (looked for: loops, veiled, ifaces, maps, wideKeys, modest, calm, conditions, laid).
  DERIVED. THE GIVEN ROWS OF THIS SEAT. 7 by the template 'for every input the law returns true; each argument reads behind the call as it read before'; 0 by the template 'total and deterministic' (their statements: YtcjbhdocmkpjcaaTotals.lean).
  GIVEN WITH THE SEED: the statements are not yours to turn. If you find one false, say at which input.
  Laid BY PROGRAM, IN A SANDBOX (cutbox-rows.mjs): the forced cells as the released guide's own fill.sh prints them over the translation c7203f23e49c5306… (all of the seat's roots in one cut). By AI agents, Wed Nov 11 2026. No macro, syntax, notation, axiom, sorry.
-/
import Derived.Test.YtcjbhdocmkpjcaaChecked
import GoSem.Claim
import GoSem.ClaimJoined
import GoSem.ClaimMapViews
import Derived.JoinedTies
import Derived.KernelRfl
namespace Go.Proofs.Ytcjbhdocmkpjcaa
/- THE CELL 'sum', in the pinned program and in every row, IS THE sha256 OF THE DUMP (.gsa) THAT YtcjbhdocmkpjcaaProg.lean LOADS. Nothing in Lean hashes anything: it is a label: what it is worth is what the hold of that sum in a sandbox is worth. -/
noncomputable def Try.pinned : Pinned := { name := "ytcjbhdocmkpjcaa", sum := "c7203f23e49c530612ee9e19d5d037617447d58b431e0aec39aa2e803b25bcf4", checked := Try.checked }
namespace Rows
def none {H : Type} : Left H := { results := [], args := [] }

/-- 'gumshoelaw01.BitsUnions': WHATEVER THE INPUT: true; the input reads as it did. -/
def bitsUnionsSpec : ChangeSpec := { name := "bitsUnions", fn := fun _ => fun
  | [d] => { results := [.lit (.bool true)], args := [d] }
  | _ => none }
def bitsUnionsRow : OpenClaim := { program := "ytcjbhdocmkpjcaa", sum := "c7203f23e49c530612ee9e19d5d037617447d58b431e0aec39aa2e803b25bcf4", func := "gumshoe/gumshoelaw01.BitsUnions", spec := "bitsUnions", unfollowed := true, recurses := true, apart := false }
def BitsUnionsSaid : Prop := bitsUnionsRow.holds Try.pinned (OpenSpec.ofChange bitsUnionsSpec)

/-- ITS FALSE NEIGHBOUR: 'it returns false'. Refute it at one input. -/
def bitsUnionsWrong : ChangeSpec := { name := "bitsUnions", fn := fun _ => fun
  | [d] => { results := [.lit (.bool false)], args := [d] }
  | _ => none }
def BitsUnionsWrongFalsely : Prop := bitsUnionsRow.holds Try.pinned (OpenSpec.ofChange bitsUnionsWrong)

/-- 'gumshoelaw01.BitsQueues': WHATEVER THE INPUT: true; the input reads as it did. -/
def bitsQueuesSpec : ChangeSpec := { name := "bitsQueues", fn := fun _ => fun
  | [d] => { results := [.lit (.bool true)], args := [d] }
  | _ => none }
def bitsQueuesRow : OpenClaim := { program := "ytcjbhdocmkpjcaa", sum := "c7203f23e49c530612ee9e19d5d037617447d58b431e0aec39aa2e803b25bcf4", func := "gumshoe/gumshoelaw01.BitsQueues", spec := "bitsQueues", unfollowed := true, recurses := true, apart := false }
def BitsQueuesSaid : Prop := bitsQueuesRow.holds Try.pinned (OpenSpec.ofChange bitsQueuesSpec)

/-- ITS FALSE NEIGHBOUR: 'it returns false'. Refute it at one input. -/
def bitsQueuesWrong : ChangeSpec := { name := "bitsQueues", fn := fun _ => fun
  | [d] => { results := [.lit (.bool false)], args := [d] }
  | _ => none }
def BitsQueuesWrongFalsely : Prop := bitsQueuesRow.holds Try.pinned (OpenSpec.ofChange bitsQueuesWrong)

/-- 'gumshoelaw01.BitsNone': WHATEVER THE INPUT: true; the input reads as it did. -/
def bitsNoneSpec : ChangeSpec := { name := "bitsNone", fn := fun _ => fun
  | [d] => { results := [.lit (.bool true)], args := [d] }
  | _ => none }
def bitsNoneRow : OpenClaim := { program := "ytcjbhdocmkpjcaa", sum := "c7203f23e49c530612ee9e19d5d037617447d58b431e0aec39aa2e803b25bcf4", func := "gumshoe/gumshoelaw01.BitsNone", spec := "bitsNone", unfollowed := true, recurses := true, apart := false }
def BitsNoneSaid : Prop := bitsNoneRow.holds Try.pinned (OpenSpec.ofChange bitsNoneSpec)

/-- ITS FALSE NEIGHBOUR: 'it returns false'. Refute it at one input. -/
def bitsNoneWrong : ChangeSpec := { name := "bitsNone", fn := fun _ => fun
  | [d] => { results := [.lit (.bool false)], args := [d] }
  | _ => none }
def BitsNoneWrongFalsely : Prop := bitsNoneRow.holds Try.pinned (OpenSpec.ofChange bitsNoneWrong)

/-- 'gumshoelaw01.BitsDrains': WHATEVER THE INPUT: true; the input reads as it did. -/
def bitsDrainsSpec : ChangeSpec := { name := "bitsDrains", fn := fun _ => fun
  | [d] => { results := [.lit (.bool true)], args := [d] }
  | _ => none }
def bitsDrainsRow : OpenClaim := { program := "ytcjbhdocmkpjcaa", sum := "c7203f23e49c530612ee9e19d5d037617447d58b431e0aec39aa2e803b25bcf4", func := "gumshoe/gumshoelaw01.BitsDrains", spec := "bitsDrains", unfollowed := true, recurses := true, apart := false }
def BitsDrainsSaid : Prop := bitsDrainsRow.holds Try.pinned (OpenSpec.ofChange bitsDrainsSpec)

/-- ITS FALSE NEIGHBOUR: 'it returns false'. Refute it at one input. -/
def bitsDrainsWrong : ChangeSpec := { name := "bitsDrains", fn := fun _ => fun
  | [d] => { results := [.lit (.bool false)], args := [d] }
  | _ => none }
def BitsDrainsWrongFalsely : Prop := bitsDrainsRow.holds Try.pinned (OpenSpec.ofChange bitsDrainsWrong)

/-- 'gumshoelaw01.BitsParts': WHATEVER THE INPUT: true; the input reads as it did. -/
def bitsPartsSpec : ChangeSpec := { name := "bitsParts", fn := fun _ => fun
  | [d1, d2] => { results := [.lit (.bool true)], args := [d1, d2] }
  | _ => none }
def bitsPartsRow : OpenClaim := { program := "ytcjbhdocmkpjcaa", sum := "c7203f23e49c530612ee9e19d5d037617447d58b431e0aec39aa2e803b25bcf4", func := "gumshoe/gumshoelaw01.BitsParts", spec := "bitsParts", unfollowed := true, recurses := true, apart := false }
def BitsPartsSaid : Prop := bitsPartsRow.holds Try.pinned (OpenSpec.ofChange bitsPartsSpec)

/-- ITS FALSE NEIGHBOUR: 'it returns false'. Refute it at one input. -/
def bitsPartsWrong : ChangeSpec := { name := "bitsParts", fn := fun _ => fun
  | [d1, d2] => { results := [.lit (.bool false)], args := [d1, d2] }
  | _ => none }
def BitsPartsWrongFalsely : Prop := bitsPartsRow.holds Try.pinned (OpenSpec.ofChange bitsPartsWrong)

/-- 'gumshoelaw01.BitsLaws': WHATEVER THE INPUT: true; the input reads as it did. -/
def bitsLawsSpec : ChangeSpec := { name := "bitsLaws", fn := fun _ => fun
  | [d1, d2] => { results := [.lit (.bool true)], args := [d1, d2] }
  | _ => none }
def bitsLawsRow : OpenClaim := { program := "ytcjbhdocmkpjcaa", sum := "c7203f23e49c530612ee9e19d5d037617447d58b431e0aec39aa2e803b25bcf4", func := "gumshoe/gumshoelaw01.BitsLaws", spec := "bitsLaws", unfollowed := true, recurses := true, apart := false }
def BitsLawsSaid : Prop := bitsLawsRow.holds Try.pinned (OpenSpec.ofChange bitsLawsSpec)

/-- ITS FALSE NEIGHBOUR: 'it returns false'. Refute it at one input. -/
def bitsLawsWrong : ChangeSpec := { name := "bitsLaws", fn := fun _ => fun
  | [d1, d2] => { results := [.lit (.bool false)], args := [d1, d2] }
  | _ => none }
def BitsLawsWrongFalsely : Prop := bitsLawsRow.holds Try.pinned (OpenSpec.ofChange bitsLawsWrong)

/-- 'gumshoelaw01.BitsAdds': WHATEVER THE INPUT: true; the input reads as it did. -/
def bitsAddsSpec : ChangeSpec := { name := "bitsAdds", fn := fun _ => fun
  | [d1, d2] => { results := [.lit (.bool true)], args := [d1, d2] }
  | _ => none }
def bitsAddsRow : OpenClaim := { program := "ytcjbhdocmkpjcaa", sum := "c7203f23e49c530612ee9e19d5d037617447d58b431e0aec39aa2e803b25bcf4", func := "gumshoe/gumshoelaw01.BitsAdds", spec := "bitsAdds", inPlace := ["slices.overlaps[int]"], unfollowed := true, recurses := true, apart := false }
def BitsAddsSaid : Prop := bitsAddsRow.holds Try.pinned (OpenSpec.ofChange bitsAddsSpec)

/-- ITS FALSE NEIGHBOUR: 'it returns false'. Refute it at one input. -/
def bitsAddsWrong : ChangeSpec := { name := "bitsAdds", fn := fun _ => fun
  | [d1, d2] => { results := [.lit (.bool false)], args := [d1, d2] }
  | _ => none }
def BitsAddsWrongFalsely : Prop := bitsAddsRow.holds Try.pinned (OpenSpec.ofChange bitsAddsWrong)

/- THE SECOND FORM. 'bulk': how many values and letters a reading holds, each counted each time it is reached (what is shared counts as often as it is met; a slice's spare places count too). A statement '..UptoSaid' is the law's where the arguments, and the package variables that the reading takes, are together of bulk at most 1048576: NARROWER than '..Said'. Prove '..Said' where nothing that the law and all that it calls make is longer than what came in: it says more and counts as full. Else prove '..UptoSaid'. A law counts once. -/
mutual
def uptoBulk {H : Type} : DataW H → Nat
  | .lit (.string bytes) => bytes.length + 1
  | .lit _ => 1
  | .nil => 1
  | .ptr d => uptoBulk d + 1
  | .slice elems spare => uptoBulkAll elems + uptoBulkAll spare + 1
  | .agg parts => uptoBulkAll parts + 1
  | .iface _ d => uptoBulk d + 1
  | .map entries => uptoBulkEntries entries + 1
  | .held _ => 1
def uptoBulkAll {H : Type} : List (DataW H) → Nat
  | [] => 0
  | d :: r => uptoBulk d + uptoBulkAll r
def uptoBulkEntries {H : Type} : List (Lit × DataW H) → Nat
  | [] => 0
  | x :: r => uptoBulkEntry x + uptoBulkEntries r
def uptoBulkEntry {H : Type} : Lit × DataW H → Nat
  | (.string bytes, d) => bytes.length + uptoBulk d + 1
  | (_, d) => uptoBulk d + 1
 end
def uptoSmall : (H : Type) → List (DataW H) → Bool := fun _ ds => decide (uptoBulkAll ds ≤ 1048576)
def OpenSpec.upto (s : _root_.Go.ChangeSpec) : _root_.Go.OpenSpec := { _root_.Go.OpenSpec.ofChange s with cond := some uptoSmall }

/-- 'gumshoelaw01.BitsUnions', WHERE WHAT IT READS IS OF BULK AT MOST 1048576: true; the input reads as it did. -/
def bitsUnionsUptoRow : OpenClaim := { program := "ytcjbhdocmkpjcaa", sum := "c7203f23e49c530612ee9e19d5d037617447d58b431e0aec39aa2e803b25bcf4", func := "gumshoe/gumshoelaw01.BitsUnions", spec := "bitsUnions", unfollowed := true, recurses := true, apart := false, narrowed := true }
def BitsUnionsUptoSaid : Prop := bitsUnionsUptoRow.holds Try.pinned (OpenSpec.upto bitsUnionsSpec)

/-- 'gumshoelaw01.BitsQueues', WHERE WHAT IT READS IS OF BULK AT MOST 1048576: true; the input reads as it did. -/
def bitsQueuesUptoRow : OpenClaim := { program := "ytcjbhdocmkpjcaa", sum := "c7203f23e49c530612ee9e19d5d037617447d58b431e0aec39aa2e803b25bcf4", func := "gumshoe/gumshoelaw01.BitsQueues", spec := "bitsQueues", unfollowed := true, recurses := true, apart := false, narrowed := true }
def BitsQueuesUptoSaid : Prop := bitsQueuesUptoRow.holds Try.pinned (OpenSpec.upto bitsQueuesSpec)

/-- 'gumshoelaw01.BitsNone', WHERE WHAT IT READS IS OF BULK AT MOST 1048576: true; the input reads as it did. -/
def bitsNoneUptoRow : OpenClaim := { program := "ytcjbhdocmkpjcaa", sum := "c7203f23e49c530612ee9e19d5d037617447d58b431e0aec39aa2e803b25bcf4", func := "gumshoe/gumshoelaw01.BitsNone", spec := "bitsNone", unfollowed := true, recurses := true, apart := false, narrowed := true }
def BitsNoneUptoSaid : Prop := bitsNoneUptoRow.holds Try.pinned (OpenSpec.upto bitsNoneSpec)

/-- 'gumshoelaw01.BitsDrains', WHERE WHAT IT READS IS OF BULK AT MOST 1048576: true; the input reads as it did. -/
def bitsDrainsUptoRow : OpenClaim := { program := "ytcjbhdocmkpjcaa", sum := "c7203f23e49c530612ee9e19d5d037617447d58b431e0aec39aa2e803b25bcf4", func := "gumshoe/gumshoelaw01.BitsDrains", spec := "bitsDrains", unfollowed := true, recurses := true, apart := false, narrowed := true }
def BitsDrainsUptoSaid : Prop := bitsDrainsUptoRow.holds Try.pinned (OpenSpec.upto bitsDrainsSpec)

/-- 'gumshoelaw01.BitsParts', WHERE WHAT IT READS IS OF BULK AT MOST 1048576: true; the input reads as it did. -/
def bitsPartsUptoRow : OpenClaim := { program := "ytcjbhdocmkpjcaa", sum := "c7203f23e49c530612ee9e19d5d037617447d58b431e0aec39aa2e803b25bcf4", func := "gumshoe/gumshoelaw01.BitsParts", spec := "bitsParts", unfollowed := true, recurses := true, apart := false, narrowed := true }
def BitsPartsUptoSaid : Prop := bitsPartsUptoRow.holds Try.pinned (OpenSpec.upto bitsPartsSpec)

/-- 'gumshoelaw01.BitsLaws', WHERE WHAT IT READS IS OF BULK AT MOST 1048576: true; the input reads as it did. -/
def bitsLawsUptoRow : OpenClaim := { program := "ytcjbhdocmkpjcaa", sum := "c7203f23e49c530612ee9e19d5d037617447d58b431e0aec39aa2e803b25bcf4", func := "gumshoe/gumshoelaw01.BitsLaws", spec := "bitsLaws", unfollowed := true, recurses := true, apart := false, narrowed := true }
def BitsLawsUptoSaid : Prop := bitsLawsUptoRow.holds Try.pinned (OpenSpec.upto bitsLawsSpec)

/-- 'gumshoelaw01.BitsAdds', WHERE WHAT IT READS IS OF BULK AT MOST 1048576: true; the input reads as it did. -/
def bitsAddsUptoRow : OpenClaim := { program := "ytcjbhdocmkpjcaa", sum := "c7203f23e49c530612ee9e19d5d037617447d58b431e0aec39aa2e803b25bcf4", func := "gumshoe/gumshoelaw01.BitsAdds", spec := "bitsAdds", inPlace := ["slices.overlaps[int]"], unfollowed := true, recurses := true, apart := false, narrowed := true }
def BitsAddsUptoSaid : Prop := bitsAddsUptoRow.holds Try.pinned (OpenSpec.upto bitsAddsSpec)

end Rows
end Go.Proofs.Ytcjbhdocmkpjcaa
