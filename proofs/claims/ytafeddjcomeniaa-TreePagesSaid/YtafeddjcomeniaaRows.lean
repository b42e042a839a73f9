/-
  No cell of these rows narrows 'for every input' (looked for: loops, veiled, ifaces, maps, wideKeys, modest, calm, conditions, laid).
  DERIVED. THE GIVEN ROWS OF THIS SEAT. 6 by the template 'for every input the law returns true; each argument reads behind the call as it read before'; 0 by the template 'total and deterministic' (their statements: YtafeddjcomeniaaTotals.lean).
  GIVEN WITH THE SEED: the statements are not yours to turn. If you find one false, say at which input.
  Laid BY PROGRAM, IN A SANDBOX (cutbox-rows.mjs): the forced cells as the released guide's own fill.sh prints them over the translation 236fe3ea52bcba08… (all of the seat's roots in one cut). By AI agents, Wed Nov 11 2026. No macro, syntax, notation, axiom, sorry.
-/
import Derived.Test.YtafeddjcomeniaaChecked
import GoSem.Claim
import GoSem.ClaimJoined
import GoSem.ClaimMapViews
import Derived.JoinedTies
import Derived.KernelRfl
namespace Go.Proofs.Ytafeddjcomeniaa
/- THE CELL 'sum', in the pinned program and in every row, IS THE sha256 OF THE DUMP (.gsa) THAT YtafeddjcomeniaaProg.lean LOADS. Nothing in Lean hashes anything: it is a label: what it is worth is what the hold of that sum in a sandbox is worth. -/
noncomputable def Try.pinned : Pinned := { name := "ytafeddjcomeniaa", sum := "236fe3ea52bcba0841249fca14141663c018fd2194950000b577c064cd17697e", checked := Try.checked }
namespace Rows
def none {H : Type} : Left H := { results := [], args := [] }

/-- 'publicanlaw7.TreeKnown': WHATEVER THE INPUT: true; the input reads as it did. -/
def treeKnownSpec : ChangeSpec := { name := "treeKnown", fn := fun _ => fun
  | [] => { results := [.lit (.bool true)], args := [] }
  | _ => none }
def treeKnownRow : OpenClaim := { program := "ytafeddjcomeniaa", sum := "236fe3ea52bcba0841249fca14141663c018fd2194950000b577c064cd17697e", func := "publican/publicanlaw7.TreeKnown", spec := "treeKnown", inPlace := ["slices.overlaps[string]", "slices.overlaps[uint64]"], unfollowed := true, recurses := true, apart := false }
def TreeKnownSaid : Prop := treeKnownRow.holds Try.pinned (OpenSpec.ofChange treeKnownSpec)

/-- ITS FALSE NEIGHBOUR: 'it returns false'. Refute it at one input. -/
def treeKnownWrong : ChangeSpec := { name := "treeKnown", fn := fun _ => fun
  | [] => { results := [.lit (.bool false)], args := [] }
  | _ => none }
def TreeKnownWrongFalsely : Prop := treeKnownRow.holds Try.pinned (OpenSpec.ofChange treeKnownWrong)

/-- 'publicanlaw7.TreePlays': WHATEVER THE INPUT: true; the input reads as it did. -/
def treePlaysSpec : ChangeSpec := { name := "treePlays", fn := fun _ => fun
  | [d1, d2, d3, d4] => { results := [.lit (.bool true)], args := [d1, d2, d3, d4] }
  | _ => none }
def treePlaysRow : OpenClaim := { program := "ytafeddjcomeniaa", sum := "236fe3ea52bcba0841249fca14141663c018fd2194950000b577c064cd17697e", func := "publican/publicanlaw7.TreePlays", spec := "treePlays", inPlace := ["slices.overlaps[string]", "slices.overlaps[uint64]"], unfollowed := true, recurses := true, apart := false }
def TreePlaysSaid : Prop := treePlaysRow.holds Try.pinned (OpenSpec.ofChange treePlaysSpec)

/-- ITS FALSE NEIGHBOUR: 'it returns false'. Refute it at one input. -/
def treePlaysWrong : ChangeSpec := { name := "treePlays", fn := fun _ => fun
  | [d1, d2, d3, d4] => { results := [.lit (.bool false)], args := [d1, d2, d3, d4] }
  | _ => none }
def TreePlaysWrongFalsely : Prop := treePlaysRow.holds Try.pinned (OpenSpec.ofChange treePlaysWrong)

/-- 'publicanlaw7.TreeMap': WHATEVER THE INPUT: true; the input reads as it did. -/
def treeMapSpec : ChangeSpec := { name := "treeMap", fn := fun _ => fun
  | [d] => { results := [.lit (.bool true)], args := [d] }
  | _ => none }
def treeMapRow : OpenClaim := { program := "ytafeddjcomeniaa", sum := "236fe3ea52bcba0841249fca14141663c018fd2194950000b577c064cd17697e", func := "publican/publicanlaw7.TreeMap", spec := "treeMap", inPlace := ["slices.overlaps[string]", "slices.overlaps[uint64]"], unfollowed := true, recurses := true, apart := false }
def TreeMapSaid : Prop := treeMapRow.holds Try.pinned (OpenSpec.ofChange treeMapSpec)

/-- ITS FALSE NEIGHBOUR: 'it returns false'. Refute it at one input. -/
def treeMapWrong : ChangeSpec := { name := "treeMap", fn := fun _ => fun
  | [d] => { results := [.lit (.bool false)], args := [d] }
  | _ => none }
def TreeMapWrongFalsely : Prop := treeMapRow.holds Try.pinned (OpenSpec.ofChange treeMapWrong)

/-- 'publicanlaw7.TreePages': WHATEVER THE INPUT: true; the input reads as it did. -/
def treePagesSpec : ChangeSpec := { name := "treePages", fn := fun _ => fun
  | [d] => { results := [.lit (.bool true)], args := [d] }
  | _ => none }
def treePagesRow : OpenClaim := { program := "ytafeddjcomeniaa", sum := "236fe3ea52bcba0841249fca14141663c018fd2194950000b577c064cd17697e", func := "publican/publicanlaw7.TreePages", spec := "treePages", inPlace := ["slices.overlaps[string]", "slices.overlaps[uint64]"], unfollowed := true, recurses := true, apart := false }
def TreePagesSaid : Prop := treePagesRow.holds Try.pinned (OpenSpec.ofChange treePagesSpec)

/-- ITS FALSE NEIGHBOUR: 'it returns false'. Refute it at one input. -/
def treePagesWrong : ChangeSpec := { name := "treePages", fn := fun _ => fun
  | [d] => { results := [.lit (.bool false)], args := [d] }
  | _ => none }
def TreePagesWrongFalsely : Prop := treePagesRow.holds Try.pinned (OpenSpec.ofChange treePagesWrong)

/-- 'publicanlaw7.TreeIll': WHATEVER THE INPUT: true; the input reads as it did. -/
def treeIllSpec : ChangeSpec := { name := "treeIll", fn := fun _ => fun
  | [d1, d2, d3] => { results := [.lit (.bool true)], args := [d1, d2, d3] }
  | _ => none }
def treeIllRow : OpenClaim := { program := "ytafeddjcomeniaa", sum := "236fe3ea52bcba0841249fca14141663c018fd2194950000b577c064cd17697e", func := "publican/publicanlaw7.TreeIll", spec := "treeIll", inPlace := ["slices.overlaps[string]", "slices.overlaps[uint64]"], unfollowed := true, recurses := true, apart := false }
def TreeIllSaid : Prop := treeIllRow.holds Try.pinned (OpenSpec.ofChange treeIllSpec)

/-- ITS FALSE NEIGHBOUR: 'it returns false'. Refute it at one input. -/
def treeIllWrong : ChangeSpec := { name := "treeIll", fn := fun _ => fun
  | [d1, d2, d3] => { results := [.lit (.bool false)], args := [d1, d2, d3] }
  | _ => none }
def TreeIllWrongFalsely : Prop := treeIllRow.holds Try.pinned (OpenSpec.ofChange treeIllWrong)

/-- 'publicanlaw7.TreeRanges': WHATEVER THE INPUT: true; the input reads as it did. -/
def treeRangesSpec : ChangeSpec := { name := "treeRanges", fn := fun _ => fun
  | [d1, d2, d3, d4, d5] => { results := [.lit (.bool true)], args := [d1, d2, d3, d4, d5] }
  | _ => none }
def treeRangesRow : OpenClaim := { program := "ytafeddjcomeniaa", sum := "236fe3ea52bcba0841249fca14141663c018fd2194950000b577c064cd17697e", func := "publican/publicanlaw7.TreeRanges", spec := "treeRanges", inPlace := ["slices.overlaps[string]", "slices.overlaps[uint64]"], unfollowed := true, recurses := true, apart := false }
def TreeRangesSaid : Prop := treeRangesRow.holds Try.pinned (OpenSpec.ofChange treeRangesSpec)

/-- ITS FALSE NEIGHBOUR: 'it returns false'. Refute it at one input. -/
def treeRangesWrong : ChangeSpec := { name := "treeRanges", fn := fun _ => fun
  | [d1, d2, d3, d4, d5] => { results := [.lit (.bool false)], args := [d1, d2, d3, d4, d5] }
  | _ => none }
def TreeRangesWrongFalsely : Prop := treeRangesRow.holds Try.pinned (OpenSpec.ofChange treeRangesWrong)

/- THE SECOND FORM. 'bulk': how many values and letters a reading holds, each counted each time it is reached (what is shared counts as often as it is met; a slice's spare places count too). A statement '..UptoSaid' is the law's where the arguments, and the package variables that the reading takes, are together of bulk at most 1048576: NARROWER than '..Said'. Prove '..Said' where nothing that the law and all that it calls make is longer than what came in: it says more and counts as full. Else prove '..UptoSaid'. A law counts once. -/
mutual
def uptoBulk {H : Type} : DataW H → Nat
  | .lit (.string bytes) => bytes.length + 1
  | .lit _ => 1
  | .nil => 1
  | .ptr d => uptoBulk d + 1
  | .slice elems spare => uptoBulkAll elems + uptoBulkAll spare + 1
  | .agg parts => uptoBulkAll parts + 1
  | .iface _ d => uptoBulk d + 1
  | .map entries => uptoBulkEntries entries + 1
  | .held _ => 1
def uptoBulkAll {H : Type} : List (DataW H) → Nat
  | [] => 0
  | d :: r => uptoBulk d + uptoBulkAll r
def uptoBulkEntries {H : Type} : List (Lit × DataW H) → Nat
  | [] => 0
  | x :: r => uptoBulkEntry x + uptoBulkEntries r
def uptoBulkEntry {H : Type} : Lit × DataW H → Nat
  | (.string bytes, d) => bytes.length + uptoBulk d + 1
  | (_, d) => uptoBulk d + 1
 end
def uptoSmall : (H : Type) → List (DataW H) → Bool := fun _ ds => decide (uptoBulkAll ds ≤ 1048576)
def OpenSpec.upto (s : _root_.Go.ChangeSpec) : _root_.Go.OpenSpec := { _root_.Go.OpenSpec.ofChange s with cond := some uptoSmall }

/-- 'publicanlaw7.TreeKnown', WHERE WHAT IT READS IS OF BULK AT MOST 1048576: true; the input reads as it did. -/
def treeKnownUptoRow : OpenClaim := { program := "ytafeddjcomeniaa", sum := "236fe3ea52bcba0841249fca14141663c018fd2194950000b577c064cd17697e", func := "publican/publicanlaw7.TreeKnown", spec := "treeKnown", inPlace := ["slices.overlaps[string]", "slices.overlaps[uint64]"], unfollowed := true, recurses := true, apart := false, narrowed := true }
def TreeKnownUptoSaid : Prop := treeKnownUptoRow.holds Try.pinned (OpenSpec.upto treeKnownSpec)

/-- 'publicanlaw7.TreePlays', WHERE WHAT IT READS IS OF BULK AT MOST 1048576: true; the input reads as it did. -/
def treePlaysUptoRow : OpenClaim := { program := "ytafeddjcomeniaa", sum := "236fe3ea52bcba0841249fca14141663c018fd2194950000b577c064cd17697e", func := "publican/publicanlaw7.TreePlays", spec := "treePlays", inPlace := ["slices.overlaps[string]", "slices.overlaps[uint64]"], unfollowed := true, recurses := true, apart := false, narrowed := true }
def TreePlaysUptoSaid : Prop := treePlaysUptoRow.holds Try.pinned (OpenSpec.upto treePlaysSpec)

/-- 'publicanlaw7.TreeMap', WHERE WHAT IT READS IS OF BULK AT MOST 1048576: true; the input reads as it did. -/
def treeMapUptoRow : OpenClaim := { program := "ytafeddjcomeniaa", sum := "236fe3ea52bcba0841249fca14141663c018fd2194950000b577c064cd17697e", func := "publican/publicanlaw7.TreeMap", spec := "treeMap", inPlace := ["slices.overlaps[string]", "slices.overlaps[uint64]"], unfollowed := true, recurses := true, apart := false, narrowed := true }
def TreeMapUptoSaid : Prop := treeMapUptoRow.holds Try.pinned (OpenSpec.upto treeMapSpec)

/-- 'publicanlaw7.TreePages', WHERE WHAT IT READS IS OF BULK AT MOST 1048576: true; the input reads as it did. -/
def treePagesUptoRow : OpenClaim := { program := "ytafeddjcomeniaa", sum := "236fe3ea52bcba0841249fca14141663c018fd2194950000b577c064cd17697e", func := "publican/publicanlaw7.TreePages", spec := "treePages", inPlace := ["slices.overlaps[string]", "slices.overlaps[uint64]"], unfollowed := true, recurses := true, apart := false, narrowed := true }
def TreePagesUptoSaid : Prop := treePagesUptoRow.holds Try.pinned (OpenSpec.upto treePagesSpec)

/-- 'publicanlaw7.TreeIll', WHERE WHAT IT READS IS OF BULK AT MOST 1048576: true; the input reads as it did. -/
def treeIllUptoRow : OpenClaim := { program := "ytafeddjcomeniaa", sum := "236fe3ea52bcba0841249fca14141663c018fd2194950000b577c064cd17697e", func := "publican/publicanlaw7.TreeIll", spec := "treeIll", inPlace := ["slices.overlaps[string]", "slices.overlaps[uint64]"], unfollowed := true, recurses := true, apart := false, narrowed := true }
def TreeIllUptoSaid : Prop := treeIllUptoRow.holds Try.pinned (OpenSpec.upto treeIllSpec)

/-- 'publicanlaw7.TreeRanges', WHERE WHAT IT READS IS OF BULK AT MOST 1048576: true; the input reads as it did. -/
def treeRangesUptoRow : OpenClaim := { program := "ytafeddjcomeniaa", sum := "236fe3ea52bcba0841249fca14141663c018fd2194950000b577c064cd17697e", func := "publican/publicanlaw7.TreeRanges", spec := "treeRanges", inPlace := ["slices.overlaps[string]", "slices.overlaps[uint64]"], unfollowed := true, recurses := true, apart := false, narrowed := true }
def TreeRangesUptoSaid : Prop := treeRangesUptoRow.holds Try.pinned (OpenSpec.upto treeRangesSpec)

end Rows
end Go.Proofs.Ytafeddjcomeniaa
