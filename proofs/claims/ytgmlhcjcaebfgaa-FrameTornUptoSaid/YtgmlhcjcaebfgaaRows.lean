/-
  No cell of these rows narrows 'for every input' (looked for: loops, veiled, ifaces, maps, wideKeys, modest, calm, conditions, laid).
  DERIVED. THE GIVEN ROWS OF THIS SEAT. 11 by the template 'for every input the law returns true; each argument reads behind the call as it read before'; 0 by the template 'total and deterministic' (their statements: YtgmlhcjcaebfgaaTotals.lean).
  GIVEN WITH THE SEED: the statements are not yours to turn. If you find one false, say at which input.
  Laid BY PROGRAM, IN A SANDBOX (cutbox-rows.mjs): the forced cells as the released guide's own fill.sh prints them over the translation ab2a42ea9f9be746… (all of the seat's roots in one cut). By AI agents, Wed Nov 11 2026. No macro, syntax, notation, axiom, sorry.
-/
import Derived.Test.YtgmlhcjcaebfgaaChecked
import GoSem.Claim
import GoSem.ClaimJoined
import GoSem.ClaimMapViews
import Derived.JoinedTies
import Derived.KernelRfl
namespace Go.Proofs.Ytgmlhcjcaebfgaa
/- THE CELL 'sum', in the pinned program and in every row, IS THE sha256 OF THE DUMP (.gsa) THAT YtgmlhcjcaebfgaaProg.lean LOADS. Nothing in Lean hashes anything: it is a label: what it is worth is what the hold of that sum in a sandbox is worth. -/
noncomputable def Try.pinned : Pinned := { name := "ytgmlhcjcaebfgaa", sum := "ab2a42ea9f9be7467b3d0d8cee94bc431eeff8da4eed6c2b4f7a6dde652d6c21", checked := Try.checked }
namespace Rows
def none {H : Type} : Left H := { results := [], args := [] }

/-- 'forebearlaw02.QueuePlays': WHATEVER THE INPUT: true; the input reads as it did. -/
def queuePlaysSpec : ChangeSpec := { name := "queuePlays", fn := fun _ => fun
  | [d1, d2] => { results := [.lit (.bool true)], args := [d1, d2] }
  | _ => none }
def queuePlaysRow : OpenClaim := { program := "ytgmlhcjcaebfgaa", sum := "ab2a42ea9f9be7467b3d0d8cee94bc431eeff8da4eed6c2b4f7a6dde652d6c21", func := "forebear/forebearlaw02.QueuePlays", spec := "queuePlays", apart := false }
def QueuePlaysSaid : Prop := queuePlaysRow.holds Try.pinned (OpenSpec.ofChange queuePlaysSpec)

/-- ITS FALSE NEIGHBOUR: 'it returns false'. Refute it at one input. -/
def queuePlaysWrong : ChangeSpec := { name := "queuePlays", fn := fun _ => fun
  | [d1, d2] => { results := [.lit (.bool false)], args := [d1, d2] }
  | _ => none }
def QueuePlaysWrongFalsely : Prop := queuePlaysRow.holds Try.pinned (OpenSpec.ofChange queuePlaysWrong)

/-- 'forebearlaw02.QueueSorts': WHATEVER THE INPUT: true; the input reads as it did. -/
def queueSortsSpec : ChangeSpec := { name := "queueSorts", fn := fun _ => fun
  | [d] => { results := [.lit (.bool true)], args := [d] }
  | _ => none }
def queueSortsRow : OpenClaim := { program := "ytgmlhcjcaebfgaa", sum := "ab2a42ea9f9be7467b3d0d8cee94bc431eeff8da4eed6c2b4f7a6dde652d6c21", func := "forebear/forebearlaw02.QueueSorts", spec := "queueSorts", apart := false }
def QueueSortsSaid : Prop := queueSortsRow.holds Try.pinned (OpenSpec.ofChange queueSortsSpec)

/-- ITS FALSE NEIGHBOUR: 'it returns false'. Refute it at one input. -/
def queueSortsWrong : ChangeSpec := { name := "queueSorts", fn := fun _ => fun
  | [d] => { results := [.lit (.bool false)], args := [d] }
  | _ => none }
def QueueSortsWrongFalsely : Prop := queueSortsRow.holds Try.pinned (OpenSpec.ofChange queueSortsWrong)

/-- 'forebearlaw02.QueueOrder': WHATEVER THE INPUT: true; the input reads as it did. -/
def queueOrderSpec : ChangeSpec := { name := "queueOrder", fn := fun _ => fun
  | [d] => { results := [.lit (.bool true)], args := [d] }
  | _ => none }
def queueOrderRow : OpenClaim := { program := "ytgmlhcjcaebfgaa", sum := "ab2a42ea9f9be7467b3d0d8cee94bc431eeff8da4eed6c2b4f7a6dde652d6c21", func := "forebear/forebearlaw02.QueueOrder", spec := "queueOrder", apart := false }
def QueueOrderSaid : Prop := queueOrderRow.holds Try.pinned (OpenSpec.ofChange queueOrderSpec)

/-- ITS FALSE NEIGHBOUR: 'it returns false'. Refute it at one input. -/
def queueOrderWrong : ChangeSpec := { name := "queueOrder", fn := fun _ => fun
  | [d] => { results := [.lit (.bool false)], args := [d] }
  | _ => none }
def QueueOrderWrongFalsely : Prop := queueOrderRow.holds Try.pinned (OpenSpec.ofChange queueOrderWrong)

/-- 'forebearlaw07.FrameTurned': WHATEVER THE INPUT: true; the input reads as it did. -/
def frameTurnedSpec : ChangeSpec := { name := "frameTurned", fn := fun _ => fun
  | [d1, d2, d3] => { results := [.lit (.bool true)], args := [d1, d2, d3] }
  | _ => none }
def frameTurnedRow : OpenClaim := { program := "ytgmlhcjcaebfgaa", sum := "ab2a42ea9f9be7467b3d0d8cee94bc431eeff8da4eed6c2b4f7a6dde652d6c21", func := "forebear/forebearlaw07.FrameTurned", spec := "frameTurned", apart := false }
def FrameTurnedSaid : Prop := frameTurnedRow.holds Try.pinned (OpenSpec.ofChange frameTurnedSpec)

/-- ITS FALSE NEIGHBOUR: 'it returns false'. Refute it at one input. -/
def frameTurnedWrong : ChangeSpec := { name := "frameTurned", fn := fun _ => fun
  | [d1, d2, d3] => { results := [.lit (.bool false)], args := [d1, d2, d3] }
  | _ => none }
def FrameTurnedWrongFalsely : Prop := frameTurnedRow.holds Try.pinned (OpenSpec.ofChange frameTurnedWrong)

/-- 'forebearlaw01.SumIDs': WHATEVER THE INPUT: true; the input reads as it did. -/
def sumIDsSpec : ChangeSpec := { name := "sumIDs", fn := fun _ => fun
  | [d1, d2] => { results := [.lit (.bool true)], args := [d1, d2] }
  | _ => none }
def sumIDsRow : OpenClaim := { program := "ytgmlhcjcaebfgaa", sum := "ab2a42ea9f9be7467b3d0d8cee94bc431eeff8da4eed6c2b4f7a6dde652d6c21", func := "forebear/forebearlaw01.SumIDs", spec := "sumIDs", apart := false }
def SumIDsSaid : Prop := sumIDsRow.holds Try.pinned (OpenSpec.ofChange sumIDsSpec)

/-- ITS FALSE NEIGHBOUR: 'it returns false'. Refute it at one input. -/
def sumIDsWrong : ChangeSpec := { name := "sumIDs", fn := fun _ => fun
  | [d1, d2] => { results := [.lit (.bool false)], args := [d1, d2] }
  | _ => none }
def SumIDsWrongFalsely : Prop := sumIDsRow.holds Try.pinned (OpenSpec.ofChange sumIDsWrong)

/-- 'forebearlaw01.SumParts': WHATEVER THE INPUT: true; the input reads as it did. -/
def sumPartsSpec : ChangeSpec := { name := "sumParts", fn := fun _ => fun
  | [d1, d2] => { results := [.lit (.bool true)], args := [d1, d2] }
  | _ => none }
def sumPartsRow : OpenClaim := { program := "ytgmlhcjcaebfgaa", sum := "ab2a42ea9f9be7467b3d0d8cee94bc431eeff8da4eed6c2b4f7a6dde652d6c21", func := "forebear/forebearlaw01.SumParts", spec := "sumParts", apart := false }
def SumPartsSaid : Prop := sumPartsRow.holds Try.pinned (OpenSpec.ofChange sumPartsSpec)

/-- ITS FALSE NEIGHBOUR: 'it returns false'. Refute it at one input. -/
def sumPartsWrong : ChangeSpec := { name := "sumParts", fn := fun _ => fun
  | [d1, d2] => { results := [.lit (.bool false)], args := [d1, d2] }
  | _ => none }
def SumPartsWrongFalsely : Prop := sumPartsRow.holds Try.pinned (OpenSpec.ofChange sumPartsWrong)

/-- 'forebearlaw01.SumHex': WHATEVER THE INPUT: true; the input reads as it did. -/
def sumHexSpec : ChangeSpec := { name := "sumHex", fn := fun _ => fun
  | [d1, d2] => { results := [.lit (.bool true)], args := [d1, d2] }
  | _ => none }
def sumHexRow : OpenClaim := { program := "ytgmlhcjcaebfgaa", sum := "ab2a42ea9f9be7467b3d0d8cee94bc431eeff8da4eed6c2b4f7a6dde652d6c21", func := "forebear/forebearlaw01.SumHex", spec := "sumHex", apart := false }
def SumHexSaid : Prop := sumHexRow.holds Try.pinned (OpenSpec.ofChange sumHexSpec)

/-- ITS FALSE NEIGHBOUR: 'it returns false'. Refute it at one input. -/
def sumHexWrong : ChangeSpec := { name := "sumHex", fn := fun _ => fun
  | [d1, d2] => { results := [.lit (.bool false)], args := [d1, d2] }
  | _ => none }
def SumHexWrongFalsely : Prop := sumHexRow.holds Try.pinned (OpenSpec.ofChange sumHexWrong)

/-- 'forebearlaw01.SumSpreads': WHATEVER THE INPUT: true; the input reads as it did. -/
def sumSpreadsSpec : ChangeSpec := { name := "sumSpreads", fn := fun _ => fun
  | [d1, d2] => { results := [.lit (.bool true)], args := [d1, d2] }
  | _ => none }
def sumSpreadsRow : OpenClaim := { program := "ytgmlhcjcaebfgaa", sum := "ab2a42ea9f9be7467b3d0d8cee94bc431eeff8da4eed6c2b4f7a6dde652d6c21", func := "forebear/forebearlaw01.SumSpreads", spec := "sumSpreads", apart := false }
def SumSpreadsSaid : Prop := sumSpreadsRow.holds Try.pinned (OpenSpec.ofChange sumSpreadsSpec)

/-- ITS FALSE NEIGHBOUR: 'it returns false'. Refute it at one input. -/
def sumSpreadsWrong : ChangeSpec := { name := "sumSpreads", fn := fun _ => fun
  | [d1, d2] => { results := [.lit (.bool false)], args := [d1, d2] }
  | _ => none }
def SumSpreadsWrongFalsely : Prop := sumSpreadsRow.holds Try.pinned (OpenSpec.ofChange sumSpreadsWrong)

/-- 'forebearlaw07.FrameSeals': WHATEVER THE INPUT: true; the input reads as it did. -/
def frameSealsSpec : ChangeSpec := { name := "frameSeals", fn := fun _ => fun
  | [d] => { results := [.lit (.bool true)], args := [d] }
  | _ => none }
def frameSealsRow : OpenClaim := { program := "ytgmlhcjcaebfgaa", sum := "ab2a42ea9f9be7467b3d0d8cee94bc431eeff8da4eed6c2b4f7a6dde652d6c21", func := "forebear/forebearlaw07.FrameSeals", spec := "frameSeals", apart := false }
def FrameSealsSaid : Prop := frameSealsRow.holds Try.pinned (OpenSpec.ofChange frameSealsSpec)

/-- ITS FALSE NEIGHBOUR: 'it returns false'. Refute it at one input. -/
def frameSealsWrong : ChangeSpec := { name := "frameSeals", fn := fun _ => fun
  | [d] => { results := [.lit (.bool false)], args := [d] }
  | _ => none }
def FrameSealsWrongFalsely : Prop := frameSealsRow.holds Try.pinned (OpenSpec.ofChange frameSealsWrong)

/-- 'forebearlaw07.FrameOpens': WHATEVER THE INPUT: true; the input reads as it did. -/
def frameOpensSpec : ChangeSpec := { name := "frameOpens", fn := fun _ => fun
  | [d] => { results := [.lit (.bool true)], args := [d] }
  | _ => none }
def frameOpensRow : OpenClaim := { program := "ytgmlhcjcaebfgaa", sum := "ab2a42ea9f9be7467b3d0d8cee94bc431eeff8da4eed6c2b4f7a6dde652d6c21", func := "forebear/forebearlaw07.FrameOpens", spec := "frameOpens", apart := false }
def FrameOpensSaid : Prop := frameOpensRow.holds Try.pinned (OpenSpec.ofChange frameOpensSpec)

/-- ITS FALSE NEIGHBOUR: 'it returns false'. Refute it at one input. -/
def frameOpensWrong : ChangeSpec := { name := "frameOpens", fn := fun _ => fun
  | [d] => { results := [.lit (.bool false)], args := [d] }
  | _ => none }
def FrameOpensWrongFalsely : Prop := frameOpensRow.holds Try.pinned (OpenSpec.ofChange frameOpensWrong)

/-- 'forebearlaw07.FrameTorn': WHATEVER THE INPUT: true; the input reads as it did. -/
def frameTornSpec : ChangeSpec := { name := "frameTorn", fn := fun _ => fun
  | [d1, d2] => { results := [.lit (.bool true)], args := [d1, d2] }
  | _ => none }
def frameTornRow : OpenClaim := { program := "ytgmlhcjcaebfgaa", sum := "ab2a42ea9f9be7467b3d0d8cee94bc431eeff8da4eed6c2b4f7a6dde652d6c21", func := "forebear/forebearlaw07.FrameTorn", spec := "frameTorn", apart := false }
def FrameTornSaid : Prop := frameTornRow.holds Try.pinned (OpenSpec.ofChange frameTornSpec)

/-- ITS FALSE NEIGHBOUR: 'it returns false'. Refute it at one input. -/
def frameTornWrong : ChangeSpec := { name := "frameTorn", fn := fun _ => fun
  | [d1, d2] => { results := [.lit (.bool false)], args := [d1, d2] }
  | _ => none }
def FrameTornWrongFalsely : Prop := frameTornRow.holds Try.pinned (OpenSpec.ofChange frameTornWrong)

/- THE SECOND FORM. 'bulk': how many values and letters a reading holds, each counted each time it is reached (what is shared counts as often as it is met; a slice's spare places count too). A statement '..UptoSaid' is the law's where the arguments, and the package variables that the reading takes, are together of bulk at most 1048576: NARROWER than '..Said'. Prove '..Said' where nothing that the law and all that it calls make is longer than what came in: it says more and counts as full. Else prove '..UptoSaid'. A law counts once. -/
mutual
def uptoBulk {H : Type} : DataW H → Nat
  | .lit (.string bytes) => bytes.length + 1
  | .lit _ => 1
  | .nil => 1
  | .ptr d => uptoBulk d + 1
  | .slice elems spare => uptoBulkAll elems + uptoBulkAll spare + 1
  | .agg parts => uptoBulkAll parts + 1
  | .iface _ d => uptoBulk d + 1
  | .map entries => uptoBulkEntries entries + 1
  | .held _ => 1
def uptoBulkAll {H : Type} : List (DataW H) → Nat
  | [] => 0
  | d :: r => uptoBulk d + uptoBulkAll r
def uptoBulkEntries {H : Type} : List (Lit × DataW H) → Nat
  | [] => 0
  | x :: r => uptoBulkEntry x + uptoBulkEntries r
def uptoBulkEntry {H : Type} : Lit × DataW H → Nat
  | (.string bytes, d) => bytes.length + uptoBulk d + 1
  | (_, d) => uptoBulk d + 1
 end
def uptoSmall : (H : Type) → List (DataW H) → Bool := fun _ ds => decide (uptoBulkAll ds ≤ 1048576)
def OpenSpec.upto (s : _root_.Go.ChangeSpec) : _root_.Go.OpenSpec := { _root_.Go.OpenSpec.ofChange s with cond := some uptoSmall }

/-- 'forebearlaw02.QueuePlays', WHERE WHAT IT READS IS OF BULK AT MOST 1048576: true; the input reads as it did. -/
def queuePlaysUptoRow : OpenClaim := { program := "ytgmlhcjcaebfgaa", sum := "ab2a42ea9f9be7467b3d0d8cee94bc431eeff8da4eed6c2b4f7a6dde652d6c21", func := "forebear/forebearlaw02.QueuePlays", spec := "queuePlays", apart := false, narrowed := true }
def QueuePlaysUptoSaid : Prop := queuePlaysUptoRow.holds Try.pinned (OpenSpec.upto queuePlaysSpec)

/-- 'forebearlaw02.QueueSorts', WHERE WHAT IT READS IS OF BULK AT MOST 1048576: true; the input reads as it did. -/
def queueSortsUptoRow : OpenClaim := { program := "ytgmlhcjcaebfgaa", sum := "ab2a42ea9f9be7467b3d0d8cee94bc431eeff8da4eed6c2b4f7a6dde652d6c21", func := "forebear/forebearlaw02.QueueSorts", spec := "queueSorts", apart := false, narrowed := true }
def QueueSortsUptoSaid : Prop := queueSortsUptoRow.holds Try.pinned (OpenSpec.upto queueSortsSpec)

/-- 'forebearlaw02.QueueOrder', WHERE WHAT IT READS IS OF BULK AT MOST 1048576: true; the input reads as it did. -/
def queueOrderUptoRow : OpenClaim := { program := "ytgmlhcjcaebfgaa", sum := "ab2a42ea9f9be7467b3d0d8cee94bc431eeff8da4eed6c2b4f7a6dde652d6c21", func := "forebear/forebearlaw02.QueueOrder", spec := "queueOrder", apart := false, narrowed := true }
def QueueOrderUptoSaid : Prop := queueOrderUptoRow.holds Try.pinned (OpenSpec.upto queueOrderSpec)

/-- 'forebearlaw07.FrameTurned', WHERE WHAT IT READS IS OF BULK AT MOST 1048576: true; the input reads as it did. -/
def frameTurnedUptoRow : OpenClaim := { program := "ytgmlhcjcaebfgaa", sum := "ab2a42ea9f9be7467b3d0d8cee94bc431eeff8da4eed6c2b4f7a6dde652d6c21", func := "forebear/forebearlaw07.FrameTurned", spec := "frameTurned", apart := false, narrowed := true }
def FrameTurnedUptoSaid : Prop := frameTurnedUptoRow.holds Try.pinned (OpenSpec.upto frameTurnedSpec)

/-- 'forebearlaw01.SumIDs', WHERE WHAT IT READS IS OF BULK AT MOST 1048576: true; the input reads as it did. -/
def sumIDsUptoRow : OpenClaim := { program := "ytgmlhcjcaebfgaa", sum := "ab2a42ea9f9be7467b3d0d8cee94bc431eeff8da4eed6c2b4f7a6dde652d6c21", func := "forebear/forebearlaw01.SumIDs", spec := "sumIDs", apart := false, narrowed := true }
def SumIDsUptoSaid : Prop := sumIDsUptoRow.holds Try.pinned (OpenSpec.upto sumIDsSpec)

/-- 'forebearlaw01.SumParts', WHERE WHAT IT READS IS OF BULK AT MOST 1048576: true; the input reads as it did. -/
def sumPartsUptoRow : OpenClaim := { program := "ytgmlhcjcaebfgaa", sum := "ab2a42ea9f9be7467b3d0d8cee94bc431eeff8da4eed6c2b4f7a6dde652d6c21", func := "forebear/forebearlaw01.SumParts", spec := "sumParts", apart := false, narrowed := true }
def SumPartsUptoSaid : Prop := sumPartsUptoRow.holds Try.pinned (OpenSpec.upto sumPartsSpec)

/-- 'forebearlaw01.SumHex', WHERE WHAT IT READS IS OF BULK AT MOST 1048576: true; the input reads as it did. -/
def sumHexUptoRow : OpenClaim := { program := "ytgmlhcjcaebfgaa", sum := "ab2a42ea9f9be7467b3d0d8cee94bc431eeff8da4eed6c2b4f7a6dde652d6c21", func := "forebear/forebearlaw01.SumHex", spec := "sumHex", apart := false, narrowed := true }
def SumHexUptoSaid : Prop := sumHexUptoRow.holds Try.pinned (OpenSpec.upto sumHexSpec)

/-- 'forebearlaw01.SumSpreads', WHERE WHAT IT READS IS OF BULK AT MOST 1048576: true; the input reads as it did. -/
def sumSpreadsUptoRow : OpenClaim := { program := "ytgmlhcjcaebfgaa", sum := "ab2a42ea9f9be7467b3d0d8cee94bc431eeff8da4eed6c2b4f7a6dde652d6c21", func := "forebear/forebearlaw01.SumSpreads", spec := "sumSpreads", apart := false, narrowed := true }
def SumSpreadsUptoSaid : Prop := sumSpreadsUptoRow.holds Try.pinned (OpenSpec.upto sumSpreadsSpec)

/-- 'forebearlaw07.FrameSeals', WHERE WHAT IT READS IS OF BULK AT MOST 1048576: true; the input reads as it did. -/
def frameSealsUptoRow : OpenClaim := { program := "ytgmlhcjcaebfgaa", sum := "ab2a42ea9f9be7467b3d0d8cee94bc431eeff8da4eed6c2b4f7a6dde652d6c21", func := "forebear/forebearlaw07.FrameSeals", spec := "frameSeals", apart := false, narrowed := true }
def FrameSealsUptoSaid : Prop := frameSealsUptoRow.holds Try.pinned (OpenSpec.upto frameSealsSpec)

/-- 'forebearlaw07.FrameOpens', WHERE WHAT IT READS IS OF BULK AT MOST 1048576: true; the input reads as it did. -/
def frameOpensUptoRow : OpenClaim := { program := "ytgmlhcjcaebfgaa", sum := "ab2a42ea9f9be7467b3d0d8cee94bc431eeff8da4eed6c2b4f7a6dde652d6c21", func := "forebear/forebearlaw07.FrameOpens", spec := "frameOpens", apart := false, narrowed := true }
def FrameOpensUptoSaid : Prop := frameOpensUptoRow.holds Try.pinned (OpenSpec.upto frameOpensSpec)

/-- 'forebearlaw07.FrameTorn', WHERE WHAT IT READS IS OF BULK AT MOST 1048576: true; the input reads as it did. -/
def frameTornUptoRow : OpenClaim := { program := "ytgmlhcjcaebfgaa", sum := "ab2a42ea9f9be7467b3d0d8cee94bc431eeff8da4eed6c2b4f7a6dde652d6c21", func := "forebear/forebearlaw07.FrameTorn", spec := "frameTorn", apart := false, narrowed := true }
def FrameTornUptoSaid : Prop := frameTornUptoRow.holds Try.pinned (OpenSpec.upto frameTornSpec)

end Rows
end Go.Proofs.Ytgmlhcjcaebfgaa
