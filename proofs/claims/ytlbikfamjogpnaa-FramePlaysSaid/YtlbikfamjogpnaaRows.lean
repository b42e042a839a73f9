/-
  No cell of these rows narrows 'for every input' (looked for: loops, veiled, ifaces, maps, wideKeys, modest, calm, conditions, laid).
  DERIVED. THE GIVEN ROWS OF THIS SEAT. 10 by the template 'for every input the law returns true; each argument reads behind the call as it read before'; 0 by the template 'total and deterministic' (their statements: YtlbikfamjogpnaaTotals.lean).
  GIVEN WITH THE SEED: the statements are not yours to turn. If you find one false, say at which input.
  Laid BY PROGRAM, IN A SANDBOX (cutbox-rows.mjs): the forced cells as the released guide's own fill.sh prints them over the translation 23e1f9ce0752e358… (all of the seat's roots in one cut). By AI agents, Wed Nov 11 2026. No macro, syntax, notation, axiom, sorry.
-/
import Derived.Test.YtlbikfamjogpnaaChecked
import GoSem.Claim
import GoSem.ClaimJoined
import GoSem.ClaimMapViews
import Derived.JoinedTies
import Derived.KernelRfl
namespace Go.Proofs.Ytlbikfamjogpnaa
/- THE CELL 'sum', in the pinned program and in every row, IS THE sha256 OF THE DUMP (.gsa) THAT YtlbikfamjogpnaaProg.lean LOADS. Nothing in Lean hashes anything: it is a label: what it is worth is what the hold of that sum in a sandbox is worth. -/
noncomputable def Try.pinned : Pinned := { name := "ytlbikfamjogpnaa", sum := "23e1f9ce0752e358baa8d54dee5dfdcc7e68c879d3ba3392e5cf9cccaf8eb93b", checked := Try.checked }
namespace Rows
def none {H : Type} : Left H := { results := [], args := [] }

/-- 'publicanlaw5.FrameRows': WHATEVER THE INPUT: true; the input reads as it did. -/
def frameRowsSpec : ChangeSpec := { name := "frameRows", fn := fun _ => fun
  | [d1, d2] => { results := [.lit (.bool true)], args := [d1, d2] }
  | _ => none }
def frameRowsRow : OpenClaim := { program := "ytlbikfamjogpnaa", sum := "23e1f9ce0752e358baa8d54dee5dfdcc7e68c879d3ba3392e5cf9cccaf8eb93b", func := "publican/publicanlaw5.FrameRows", spec := "frameRows", unfollowed := true, recurses := true, apart := false }
def FrameRowsSaid : Prop := frameRowsRow.holds Try.pinned (OpenSpec.ofChange frameRowsSpec)

/-- ITS FALSE NEIGHBOUR: 'it returns false'. Refute it at one input. -/
def frameRowsWrong : ChangeSpec := { name := "frameRows", fn := fun _ => fun
  | [d1, d2] => { results := [.lit (.bool false)], args := [d1, d2] }
  | _ => none }
def FrameRowsWrongFalsely : Prop := frameRowsRow.holds Try.pinned (OpenSpec.ofChange frameRowsWrong)

/-- 'publicanlaw5.FrameKnown': WHATEVER THE INPUT: true; the input reads as it did. -/
def frameKnownSpec : ChangeSpec := { name := "frameKnown", fn := fun _ => fun
  | [] => { results := [.lit (.bool true)], args := [] }
  | _ => none }
def frameKnownRow : OpenClaim := { program := "ytlbikfamjogpnaa", sum := "23e1f9ce0752e358baa8d54dee5dfdcc7e68c879d3ba3392e5cf9cccaf8eb93b", func := "publican/publicanlaw5.FrameKnown", spec := "frameKnown", unfollowed := true, recurses := true, apart := false }
def FrameKnownSaid : Prop := frameKnownRow.holds Try.pinned (OpenSpec.ofChange frameKnownSpec)

/-- ITS FALSE NEIGHBOUR: 'it returns false'. Refute it at one input. -/
def frameKnownWrong : ChangeSpec := { name := "frameKnown", fn := fun _ => fun
  | [] => { results := [.lit (.bool false)], args := [] }
  | _ => none }
def FrameKnownWrongFalsely : Prop := frameKnownRow.holds Try.pinned (OpenSpec.ofChange frameKnownWrong)

/-- 'publicanlaw5.FramePlays': WHATEVER THE INPUT: true; the input reads as it did. -/
def framePlaysSpec : ChangeSpec := { name := "framePlays", fn := fun _ => fun
  | [d1, d2, d3] => { results := [.lit (.bool true)], args := [d1, d2, d3] }
  | _ => none }
def framePlaysRow : OpenClaim := { program := "ytlbikfamjogpnaa", sum := "23e1f9ce0752e358baa8d54dee5dfdcc7e68c879d3ba3392e5cf9cccaf8eb93b", func := "publican/publicanlaw5.FramePlays", spec := "framePlays", unfollowed := true, recurses := true, apart := false }
def FramePlaysSaid : Prop := framePlaysRow.holds Try.pinned (OpenSpec.ofChange framePlaysSpec)

/-- ITS FALSE NEIGHBOUR: 'it returns false'. Refute it at one input. -/
def framePlaysWrong : ChangeSpec := { name := "framePlays", fn := fun _ => fun
  | [d1, d2, d3] => { results := [.lit (.bool false)], args := [d1, d2, d3] }
  | _ => none }
def FramePlaysWrongFalsely : Prop := framePlaysRow.holds Try.pinned (OpenSpec.ofChange framePlaysWrong)

/-- 'publicanlaw5.FrameWhole': WHATEVER THE INPUT: true; the input reads as it did. -/
def frameWholeSpec : ChangeSpec := { name := "frameWhole", fn := fun _ => fun
  | [d1, d2, d3, d4, d5] => { results := [.lit (.bool true)], args := [d1, d2, d3, d4, d5] }
  | _ => none }
def frameWholeRow : OpenClaim := { program := "ytlbikfamjogpnaa", sum := "23e1f9ce0752e358baa8d54dee5dfdcc7e68c879d3ba3392e5cf9cccaf8eb93b", func := "publican/publicanlaw5.FrameWhole", spec := "frameWhole", unfollowed := true, recurses := true, apart := false }
def FrameWholeSaid : Prop := frameWholeRow.holds Try.pinned (OpenSpec.ofChange frameWholeSpec)

/-- ITS FALSE NEIGHBOUR: 'it returns false'. Refute it at one input. -/
def frameWholeWrong : ChangeSpec := { name := "frameWhole", fn := fun _ => fun
  | [d1, d2, d3, d4, d5] => { results := [.lit (.bool false)], args := [d1, d2, d3, d4, d5] }
  | _ => none }
def FrameWholeWrongFalsely : Prop := frameWholeRow.holds Try.pinned (OpenSpec.ofChange frameWholeWrong)

/-- 'publicanlaw6.PageKnown': WHATEVER THE INPUT: true; the input reads as it did. -/
def pageKnownSpec : ChangeSpec := { name := "pageKnown", fn := fun _ => fun
  | [] => { results := [.lit (.bool true)], args := [] }
  | _ => none }
def pageKnownRow : OpenClaim := { program := "ytlbikfamjogpnaa", sum := "23e1f9ce0752e358baa8d54dee5dfdcc7e68c879d3ba3392e5cf9cccaf8eb93b", func := "publican/publicanlaw6.PageKnown", spec := "pageKnown", inPlace := ["slices.overlaps[string]"], unfollowed := true, recurses := true, apart := false }
def PageKnownSaid : Prop := pageKnownRow.holds Try.pinned (OpenSpec.ofChange pageKnownSpec)

/-- ITS FALSE NEIGHBOUR: 'it returns false'. Refute it at one input. -/
def pageKnownWrong : ChangeSpec := { name := "pageKnown", fn := fun _ => fun
  | [] => { results := [.lit (.bool false)], args := [] }
  | _ => none }
def PageKnownWrongFalsely : Prop := pageKnownRow.holds Try.pinned (OpenSpec.ofChange pageKnownWrong)

/-- 'publicanlaw6.PageBytes': WHATEVER THE INPUT: true; the input reads as it did. -/
def pageBytesSpec : ChangeSpec := { name := "pageBytes", fn := fun _ => fun
  | [d] => { results := [.lit (.bool true)], args := [d] }
  | _ => none }
def pageBytesRow : OpenClaim := { program := "ytlbikfamjogpnaa", sum := "23e1f9ce0752e358baa8d54dee5dfdcc7e68c879d3ba3392e5cf9cccaf8eb93b", func := "publican/publicanlaw6.PageBytes", spec := "pageBytes", inPlace := ["slices.overlaps[string]"], unfollowed := true, recurses := true, apart := false }
def PageBytesSaid : Prop := pageBytesRow.holds Try.pinned (OpenSpec.ofChange pageBytesSpec)

/-- ITS FALSE NEIGHBOUR: 'it returns false'. Refute it at one input. -/
def pageBytesWrong : ChangeSpec := { name := "pageBytes", fn := fun _ => fun
  | [d] => { results := [.lit (.bool false)], args := [d] }
  | _ => none }
def PageBytesWrongFalsely : Prop := pageBytesRow.holds Try.pinned (OpenSpec.ofChange pageBytesWrong)

/-- 'publicanlaw6.PageReads': WHATEVER THE INPUT: true; the input reads as it did. -/
def pageReadsSpec : ChangeSpec := { name := "pageReads", fn := fun _ => fun
  | [d] => { results := [.lit (.bool true)], args := [d] }
  | _ => none }
def pageReadsRow : OpenClaim := { program := "ytlbikfamjogpnaa", sum := "23e1f9ce0752e358baa8d54dee5dfdcc7e68c879d3ba3392e5cf9cccaf8eb93b", func := "publican/publicanlaw6.PageReads", spec := "pageReads", inPlace := ["slices.overlaps[string]"], unfollowed := true, recurses := true, apart := false }
def PageReadsSaid : Prop := pageReadsRow.holds Try.pinned (OpenSpec.ofChange pageReadsSpec)

/-- ITS FALSE NEIGHBOUR: 'it returns false'. Refute it at one input. -/
def pageReadsWrong : ChangeSpec := { name := "pageReads", fn := fun _ => fun
  | [d] => { results := [.lit (.bool false)], args := [d] }
  | _ => none }
def PageReadsWrongFalsely : Prop := pageReadsRow.holds Try.pinned (OpenSpec.ofChange pageReadsWrong)

/-- 'publicanlaw6.PageKeys': WHATEVER THE INPUT: true; the input reads as it did. -/
def pageKeysSpec : ChangeSpec := { name := "pageKeys", fn := fun _ => fun
  | [d1, d2, d3] => { results := [.lit (.bool true)], args := [d1, d2, d3] }
  | _ => none }
def pageKeysRow : OpenClaim := { program := "ytlbikfamjogpnaa", sum := "23e1f9ce0752e358baa8d54dee5dfdcc7e68c879d3ba3392e5cf9cccaf8eb93b", func := "publican/publicanlaw6.PageKeys", spec := "pageKeys", inPlace := ["slices.overlaps[string]"], unfollowed := true, recurses := true, apart := false }
def PageKeysSaid : Prop := pageKeysRow.holds Try.pinned (OpenSpec.ofChange pageKeysSpec)

/-- ITS FALSE NEIGHBOUR: 'it returns false'. Refute it at one input. -/
def pageKeysWrong : ChangeSpec := { name := "pageKeys", fn := fun _ => fun
  | [d1, d2, d3] => { results := [.lit (.bool false)], args := [d1, d2, d3] }
  | _ => none }
def PageKeysWrongFalsely : Prop := pageKeysRow.holds Try.pinned (OpenSpec.ofChange pageKeysWrong)

/-- 'publicanlaw6.PageSplits': WHATEVER THE INPUT: true; the input reads as it did. -/
def pageSplitsSpec : ChangeSpec := { name := "pageSplits", fn := fun _ => fun
  | [d] => { results := [.lit (.bool true)], args := [d] }
  | _ => none }
def pageSplitsRow : OpenClaim := { program := "ytlbikfamjogpnaa", sum := "23e1f9ce0752e358baa8d54dee5dfdcc7e68c879d3ba3392e5cf9cccaf8eb93b", func := "publican/publicanlaw6.PageSplits", spec := "pageSplits", inPlace := ["slices.overlaps[string]"], unfollowed := true, recurses := true, apart := false }
def PageSplitsSaid : Prop := pageSplitsRow.holds Try.pinned (OpenSpec.ofChange pageSplitsSpec)

/-- ITS FALSE NEIGHBOUR: 'it returns false'. Refute it at one input. -/
def pageSplitsWrong : ChangeSpec := { name := "pageSplits", fn := fun _ => fun
  | [d] => { results := [.lit (.bool false)], args := [d] }
  | _ => none }
def PageSplitsWrongFalsely : Prop := pageSplitsRow.holds Try.pinned (OpenSpec.ofChange pageSplitsWrong)

/-- 'publicanlaw6.PageOrder': WHATEVER THE INPUT: true; the input reads as it did. -/
def pageOrderSpec : ChangeSpec := { name := "pageOrder", fn := fun _ => fun
  | [d1, d2] => { results := [.lit (.bool true)], args := [d1, d2] }
  | _ => none }
def pageOrderRow : OpenClaim := { program := "ytlbikfamjogpnaa", sum := "23e1f9ce0752e358baa8d54dee5dfdcc7e68c879d3ba3392e5cf9cccaf8eb93b", func := "publican/publicanlaw6.PageOrder", spec := "pageOrder", inPlace := ["slices.overlaps[string]"], unfollowed := true, recurses := true, apart := false }
def PageOrderSaid : Prop := pageOrderRow.holds Try.pinned (OpenSpec.ofChange pageOrderSpec)

/-- ITS FALSE NEIGHBOUR: 'it returns false'. Refute it at one input. -/
def pageOrderWrong : ChangeSpec := { name := "pageOrder", fn := fun _ => fun
  | [d1, d2] => { results := [.lit (.bool false)], args := [d1, d2] }
  | _ => none }
def PageOrderWrongFalsely : Prop := pageOrderRow.holds Try.pinned (OpenSpec.ofChange pageOrderWrong)

/- THE SECOND FORM. 'bulk': how many values and letters a reading holds, each counted each time it is reached (what is shared counts as often as it is met; a slice's spare places count too). A statement '..UptoSaid' is the law's where the arguments, and the package variables that the reading takes, are together of bulk at most 1048576: NARROWER than '..Said'. Prove '..Said' where nothing that the law and all that it calls make is longer than what came in: it says more and counts as full. Else prove '..UptoSaid'. A law counts once. -/
mutual
def uptoBulk {H : Type} : DataW H → Nat
  | .lit (.string bytes) => bytes.length + 1
  | .lit _ => 1
  | .nil => 1
  | .ptr d => uptoBulk d + 1
  | .slice elems spare => uptoBulkAll elems + uptoBulkAll spare + 1
  | .agg parts => uptoBulkAll parts + 1
  | .iface _ d => uptoBulk d + 1
  | .map entries => uptoBulkEntries entries + 1
  | .held _ => 1
def uptoBulkAll {H : Type} : List (DataW H) → Nat
  | [] => 0
  | d :: r => uptoBulk d + uptoBulkAll r
def uptoBulkEntries {H : Type} : List (Lit × DataW H) → Nat
  | [] => 0
  | x :: r => uptoBulkEntry x + uptoBulkEntries r
def uptoBulkEntry {H : Type} : Lit × DataW H → Nat
  | (.string bytes, d) => bytes.length + uptoBulk d + 1
  | (_, d) => uptoBulk d + 1
 end
def uptoSmall : (H : Type) → List (DataW H) → Bool := fun _ ds => decide (uptoBulkAll ds ≤ 1048576)
def OpenSpec.upto (s : _root_.Go.ChangeSpec) : _root_.Go.OpenSpec := { _root_.Go.OpenSpec.ofChange s with cond := some uptoSmall }

/-- 'publicanlaw5.FrameRows', WHERE WHAT IT READS IS OF BULK AT MOST 1048576: true; the input reads as it did. -/
def frameRowsUptoRow : OpenClaim := { program := "ytlbikfamjogpnaa", sum := "23e1f9ce0752e358baa8d54dee5dfdcc7e68c879d3ba3392e5cf9cccaf8eb93b", func := "publican/publicanlaw5.FrameRows", spec := "frameRows", unfollowed := true, recurses := true, apart := false, narrowed := true }
def FrameRowsUptoSaid : Prop := frameRowsUptoRow.holds Try.pinned (OpenSpec.upto frameRowsSpec)

/-- 'publicanlaw5.FrameKnown', WHERE WHAT IT READS IS OF BULK AT MOST 1048576: true; the input reads as it did. -/
def frameKnownUptoRow : OpenClaim := { program := "ytlbikfamjogpnaa", sum := "23e1f9ce0752e358baa8d54dee5dfdcc7e68c879d3ba3392e5cf9cccaf8eb93b", func := "publican/publicanlaw5.FrameKnown", spec := "frameKnown", unfollowed := true, recurses := true, apart := false, narrowed := true }
def FrameKnownUptoSaid : Prop := frameKnownUptoRow.holds Try.pinned (OpenSpec.upto frameKnownSpec)

/-- 'publicanlaw5.FramePlays', WHERE WHAT IT READS IS OF BULK AT MOST 1048576: true; the input reads as it did. -/
def framePlaysUptoRow : OpenClaim := { program := "ytlbikfamjogpnaa", sum := "23e1f9ce0752e358baa8d54dee5dfdcc7e68c879d3ba3392e5cf9cccaf8eb93b", func := "publican/publicanlaw5.FramePlays", spec := "framePlays", unfollowed := true, recurses := true, apart := false, narrowed := true }
def FramePlaysUptoSaid : Prop := framePlaysUptoRow.holds Try.pinned (OpenSpec.upto framePlaysSpec)

/-- 'publicanlaw5.FrameWhole', WHERE WHAT IT READS IS OF BULK AT MOST 1048576: true; the input reads as it did. -/
def frameWholeUptoRow : OpenClaim := { program := "ytlbikfamjogpnaa", sum := "23e1f9ce0752e358baa8d54dee5dfdcc7e68c879d3ba3392e5cf9cccaf8eb93b", func := "publican/publicanlaw5.FrameWhole", spec := "frameWhole", unfollowed := true, recurses := true, apart := false, narrowed := true }
def FrameWholeUptoSaid : Prop := frameWholeUptoRow.holds Try.pinned (OpenSpec.upto frameWholeSpec)

/-- 'publicanlaw6.PageKnown', WHERE WHAT IT READS IS OF BULK AT MOST 1048576: true; the input reads as it did. -/
def pageKnownUptoRow : OpenClaim := { program := "ytlbikfamjogpnaa", sum := "23e1f9ce0752e358baa8d54dee5dfdcc7e68c879d3ba3392e5cf9cccaf8eb93b", func := "publican/publicanlaw6.PageKnown", spec := "pageKnown", inPlace := ["slices.overlaps[string]"], unfollowed := true, recurses := true, apart := false, narrowed := true }
def PageKnownUptoSaid : Prop := pageKnownUptoRow.holds Try.pinned (OpenSpec.upto pageKnownSpec)

/-- 'publicanlaw6.PageBytes', WHERE WHAT IT READS IS OF BULK AT MOST 1048576: true; the input reads as it did. -/
def pageBytesUptoRow : OpenClaim := { program := "ytlbikfamjogpnaa", sum := "23e1f9ce0752e358baa8d54dee5dfdcc7e68c879d3ba3392e5cf9cccaf8eb93b", func := "publican/publicanlaw6.PageBytes", spec := "pageBytes", inPlace := ["slices.overlaps[string]"], unfollowed := true, recurses := true, apart := false, narrowed := true }
def PageBytesUptoSaid : Prop := pageBytesUptoRow.holds Try.pinned (OpenSpec.upto pageBytesSpec)

/-- 'publicanlaw6.PageReads', WHERE WHAT IT READS IS OF BULK AT MOST 1048576: true; the input reads as it did. -/
def pageReadsUptoRow : OpenClaim := { program := "ytlbikfamjogpnaa", sum := "23e1f9ce0752e358baa8d54dee5dfdcc7e68c879d3ba3392e5cf9cccaf8eb93b", func := "publican/publicanlaw6.PageReads", spec := "pageReads", inPlace := ["slices.overlaps[string]"], unfollowed := true, recurses := true, apart := false, narrowed := true }
def PageReadsUptoSaid : Prop := pageReadsUptoRow.holds Try.pinned (OpenSpec.upto pageReadsSpec)

/-- 'publicanlaw6.PageKeys', WHERE WHAT IT READS IS OF BULK AT MOST 1048576: true; the input reads as it did. -/
def pageKeysUptoRow : OpenClaim := { program := "ytlbikfamjogpnaa", sum := "23e1f9ce0752e358baa8d54dee5dfdcc7e68c879d3ba3392e5cf9cccaf8eb93b", func := "publican/publicanlaw6.PageKeys", spec := "pageKeys", inPlace := ["slices.overlaps[string]"], unfollowed := true, recurses := true, apart := false, narrowed := true }
def PageKeysUptoSaid : Prop := pageKeysUptoRow.holds Try.pinned (OpenSpec.upto pageKeysSpec)

/-- 'publicanlaw6.PageSplits', WHERE WHAT IT READS IS OF BULK AT MOST 1048576: true; the input reads as it did. -/
def pageSplitsUptoRow : OpenClaim := { program := "ytlbikfamjogpnaa", sum := "23e1f9ce0752e358baa8d54dee5dfdcc7e68c879d3ba3392e5cf9cccaf8eb93b", func := "publican/publicanlaw6.PageSplits", spec := "pageSplits", inPlace := ["slices.overlaps[string]"], unfollowed := true, recurses := true, apart := false, narrowed := true }
def PageSplitsUptoSaid : Prop := pageSplitsUptoRow.holds Try.pinned (OpenSpec.upto pageSplitsSpec)

/-- 'publicanlaw6.PageOrder', WHERE WHAT IT READS IS OF BULK AT MOST 1048576: true; the input reads as it did. -/
def pageOrderUptoRow : OpenClaim := { program := "ytlbikfamjogpnaa", sum := "23e1f9ce0752e358baa8d54dee5dfdcc7e68c879d3ba3392e5cf9cccaf8eb93b", func := "publican/publicanlaw6.PageOrder", spec := "pageOrder", inPlace := ["slices.overlaps[string]"], unfollowed := true, recurses := true, apart := false, narrowed := true }
def PageOrderUptoSaid : Prop := pageOrderUptoRow.holds Try.pinned (OpenSpec.upto pageOrderSpec)

end Rows
end Go.Proofs.Ytlbikfamjogpnaa
