/-
  No cell of these rows narrows 'for every input' (looked for: loops, veiled, ifaces, maps, wideKeys, modest, calm, conditions, laid).
  DERIVED. THE GIVEN ROWS OF THIS SEAT. 10 by the template 'for every input the law returns true; each argument reads behind the call as it read before'; 0 by the template 'total and deterministic' (their statements: YtlbkobiphfaafaaTotals.lean).
  GIVEN WITH THE SEED: the statements are not yours to turn. If you find one false, say at which input.
  Laid BY PROGRAM, IN A SANDBOX (cutbox-rows.mjs): the forced cells as the released guide's own fill.sh prints them over the translation c75d76f48d107971… (all of the seat's roots in one cut). By AI agents, Wed Nov 11 2026. No macro, syntax, notation, axiom, sorry.
-/
import Derived.Test.YtlbkobiphfaafaaChecked
import GoSem.Claim
import GoSem.ClaimJoined
import GoSem.ClaimMapViews
import Derived.JoinedTies
import Derived.KernelRfl
namespace Go.Proofs.Ytlbkobiphfaafaa
/- THE CELL 'sum', in the pinned program and in every row, IS THE sha256 OF THE DUMP (.gsa) THAT YtlbkobiphfaafaaProg.lean LOADS. Nothing in Lean hashes anything: it is a label: what it is worth is what the hold of that sum in a sandbox is worth. -/
noncomputable def Try.pinned : Pinned := { name := "ytlbkobiphfaafaa", sum := "c75d76f48d1079716047adddb2e0e2d321c0764a65f41ae964232dacfa3e1874", checked := Try.checked }
namespace Rows
def none {H : Type} : Left H := { results := [], args := [] }

/-- 'forebearlaw03.PathParts': WHATEVER THE INPUT: true; the input reads as it did. -/
def pathPartsSpec : ChangeSpec := { name := "pathParts", fn := fun _ => fun
  | [d] => { results := [.lit (.bool true)], args := [d] }
  | _ => none }
def pathPartsRow : OpenClaim := { program := "ytlbkobiphfaafaa", sum := "c75d76f48d1079716047adddb2e0e2d321c0764a65f41ae964232dacfa3e1874", func := "forebear/forebearlaw03.PathParts", spec := "pathParts", recurses := true, apart := false }
def PathPartsSaid : Prop := pathPartsRow.holds Try.pinned (OpenSpec.ofChange pathPartsSpec)

/-- ITS FALSE NEIGHBOUR: 'it returns false'. Refute it at one input. -/
def pathPartsWrong : ChangeSpec := { name := "pathParts", fn := fun _ => fun
  | [d] => { results := [.lit (.bool false)], args := [d] }
  | _ => none }
def PathPartsWrongFalsely : Prop := pathPartsRow.holds Try.pinned (OpenSpec.ofChange pathPartsWrong)

/-- 'forebearlaw03.PathSorts': WHATEVER THE INPUT: true; the input reads as it did. -/
def pathSortsSpec : ChangeSpec := { name := "pathSorts", fn := fun _ => fun
  | [d] => { results := [.lit (.bool true)], args := [d] }
  | _ => none }
def pathSortsRow : OpenClaim := { program := "ytlbkobiphfaafaa", sum := "c75d76f48d1079716047adddb2e0e2d321c0764a65f41ae964232dacfa3e1874", func := "forebear/forebearlaw03.PathSorts", spec := "pathSorts", recurses := true, apart := false }
def PathSortsSaid : Prop := pathSortsRow.holds Try.pinned (OpenSpec.ofChange pathSortsSpec)

/-- ITS FALSE NEIGHBOUR: 'it returns false'. Refute it at one input. -/
def pathSortsWrong : ChangeSpec := { name := "pathSorts", fn := fun _ => fun
  | [d] => { results := [.lit (.bool false)], args := [d] }
  | _ => none }
def PathSortsWrongFalsely : Prop := pathSortsRow.holds Try.pinned (OpenSpec.ofChange pathSortsWrong)

/-- 'forebearlaw03.PathAlike': WHATEVER THE INPUT: true; the input reads as it did. -/
def pathAlikeSpec : ChangeSpec := { name := "pathAlike", fn := fun _ => fun
  | [d1, d2] => { results := [.lit (.bool true)], args := [d1, d2] }
  | _ => none }
def pathAlikeRow : OpenClaim := { program := "ytlbkobiphfaafaa", sum := "c75d76f48d1079716047adddb2e0e2d321c0764a65f41ae964232dacfa3e1874", func := "forebear/forebearlaw03.PathAlike", spec := "pathAlike", recurses := true, apart := false }
def PathAlikeSaid : Prop := pathAlikeRow.holds Try.pinned (OpenSpec.ofChange pathAlikeSpec)

/-- ITS FALSE NEIGHBOUR: 'it returns false'. Refute it at one input. -/
def pathAlikeWrong : ChangeSpec := { name := "pathAlike", fn := fun _ => fun
  | [d1, d2] => { results := [.lit (.bool false)], args := [d1, d2] }
  | _ => none }
def PathAlikeWrongFalsely : Prop := pathAlikeRow.holds Try.pinned (OpenSpec.ofChange pathAlikeWrong)

/-- 'forebearlaw04.TextLines': WHATEVER THE INPUT: true; the input reads as it did. -/
def textLinesSpec : ChangeSpec := { name := "textLines", fn := fun _ => fun
  | [d] => { results := [.lit (.bool true)], args := [d] }
  | _ => none }
def textLinesRow : OpenClaim := { program := "ytlbkobiphfaafaa", sum := "c75d76f48d1079716047adddb2e0e2d321c0764a65f41ae964232dacfa3e1874", func := "forebear/forebearlaw04.TextLines", spec := "textLines", inPlace := ["internal/bytealg.IndexByteString", "internal/abi.NoEscape", "internal/bytealg.MakeNoZero"], unfollowed := true, recurses := true, apart := false }
def TextLinesSaid : Prop := textLinesRow.holds Try.pinned (OpenSpec.ofChange textLinesSpec)

/-- ITS FALSE NEIGHBOUR: 'it returns false'. Refute it at one input. -/
def textLinesWrong : ChangeSpec := { name := "textLines", fn := fun _ => fun
  | [d] => { results := [.lit (.bool false)], args := [d] }
  | _ => none }
def TextLinesWrongFalsely : Prop := textLinesRow.holds Try.pinned (OpenSpec.ofChange textLinesWrong)

/-- 'forebearlaw04.TextBack': WHATEVER THE INPUT: true; the input reads as it did. -/
def textBackSpec : ChangeSpec := { name := "textBack", fn := fun _ => fun
  | [d] => { results := [.lit (.bool true)], args := [d] }
  | _ => none }
def textBackRow : OpenClaim := { program := "ytlbkobiphfaafaa", sum := "c75d76f48d1079716047adddb2e0e2d321c0764a65f41ae964232dacfa3e1874", func := "forebear/forebearlaw04.TextBack", spec := "textBack", inPlace := ["internal/bytealg.IndexByteString", "internal/abi.NoEscape", "internal/bytealg.MakeNoZero"], unfollowed := true, recurses := true, apart := false }
def TextBackSaid : Prop := textBackRow.holds Try.pinned (OpenSpec.ofChange textBackSpec)

/-- ITS FALSE NEIGHBOUR: 'it returns false'. Refute it at one input. -/
def textBackWrong : ChangeSpec := { name := "textBack", fn := fun _ => fun
  | [d] => { results := [.lit (.bool false)], args := [d] }
  | _ => none }
def TextBackWrongFalsely : Prop := textBackRow.holds Try.pinned (OpenSpec.ofChange textBackWrong)

/-- 'forebearlaw04.TextJoins': WHATEVER THE INPUT: true; the input reads as it did. -/
def textJoinsSpec : ChangeSpec := { name := "textJoins", fn := fun _ => fun
  | [d] => { results := [.lit (.bool true)], args := [d] }
  | _ => none }
def textJoinsRow : OpenClaim := { program := "ytlbkobiphfaafaa", sum := "c75d76f48d1079716047adddb2e0e2d321c0764a65f41ae964232dacfa3e1874", func := "forebear/forebearlaw04.TextJoins", spec := "textJoins", inPlace := ["internal/bytealg.IndexByteString", "internal/abi.NoEscape", "internal/bytealg.MakeNoZero"], unfollowed := true, recurses := true, apart := false }
def TextJoinsSaid : Prop := textJoinsRow.holds Try.pinned (OpenSpec.ofChange textJoinsSpec)

/-- ITS FALSE NEIGHBOUR: 'it returns false'. Refute it at one input. -/
def textJoinsWrong : ChangeSpec := { name := "textJoins", fn := fun _ => fun
  | [d] => { results := [.lit (.bool false)], args := [d] }
  | _ => none }
def TextJoinsWrongFalsely : Prop := textJoinsRow.holds Try.pinned (OpenSpec.ofChange textJoinsWrong)

/-- 'forebearlaw04.TextRuns': WHATEVER THE INPUT: true; the input reads as it did. -/
def textRunsSpec : ChangeSpec := { name := "textRuns", fn := fun _ => fun
  | [d1, d2] => { results := [.lit (.bool true)], args := [d1, d2] }
  | _ => none }
def textRunsRow : OpenClaim := { program := "ytlbkobiphfaafaa", sum := "c75d76f48d1079716047adddb2e0e2d321c0764a65f41ae964232dacfa3e1874", func := "forebear/forebearlaw04.TextRuns", spec := "textRuns", inPlace := ["internal/bytealg.IndexByteString", "internal/abi.NoEscape", "internal/bytealg.MakeNoZero"], unfollowed := true, recurses := true, apart := false }
def TextRunsSaid : Prop := textRunsRow.holds Try.pinned (OpenSpec.ofChange textRunsSpec)

/-- ITS FALSE NEIGHBOUR: 'it returns false'. Refute it at one input. -/
def textRunsWrong : ChangeSpec := { name := "textRuns", fn := fun _ => fun
  | [d1, d2] => { results := [.lit (.bool false)], args := [d1, d2] }
  | _ => none }
def TextRunsWrongFalsely : Prop := textRunsRow.holds Try.pinned (OpenSpec.ofChange textRunsWrong)

/-- 'forebearlaw04.TextIn': WHATEVER THE INPUT: true; the input reads as it did. -/
def textInSpec : ChangeSpec := { name := "textIn", fn := fun _ => fun
  | [d1, d2] => { results := [.lit (.bool true)], args := [d1, d2] }
  | _ => none }
def textInRow : OpenClaim := { program := "ytlbkobiphfaafaa", sum := "c75d76f48d1079716047adddb2e0e2d321c0764a65f41ae964232dacfa3e1874", func := "forebear/forebearlaw04.TextIn", spec := "textIn", inPlace := ["internal/bytealg.IndexByteString", "internal/abi.NoEscape", "internal/bytealg.MakeNoZero"], unfollowed := true, recurses := true, apart := false }
def TextInSaid : Prop := textInRow.holds Try.pinned (OpenSpec.ofChange textInSpec)

/-- ITS FALSE NEIGHBOUR: 'it returns false'. Refute it at one input. -/
def textInWrong : ChangeSpec := { name := "textIn", fn := fun _ => fun
  | [d1, d2] => { results := [.lit (.bool false)], args := [d1, d2] }
  | _ => none }
def TextInWrongFalsely : Prop := textInRow.holds Try.pinned (OpenSpec.ofChange textInWrong)

/-- 'forebearlaw03.PathSets': WHATEVER THE INPUT: true; the input reads as it did. -/
def pathSetsSpec : ChangeSpec := { name := "pathSets", fn := fun _ => fun
  | [d1, d2] => { results := [.lit (.bool true)], args := [d1, d2] }
  | _ => none }
def pathSetsRow : OpenClaim := { program := "ytlbkobiphfaafaa", sum := "c75d76f48d1079716047adddb2e0e2d321c0764a65f41ae964232dacfa3e1874", func := "forebear/forebearlaw03.PathSets", spec := "pathSets", unfollowed := true, recurses := true, apart := false }
def PathSetsSaid : Prop := pathSetsRow.holds Try.pinned (OpenSpec.ofChange pathSetsSpec)

/-- ITS FALSE NEIGHBOUR: 'it returns false'. Refute it at one input. -/
def pathSetsWrong : ChangeSpec := { name := "pathSets", fn := fun _ => fun
  | [d1, d2] => { results := [.lit (.bool false)], args := [d1, d2] }
  | _ => none }
def PathSetsWrongFalsely : Prop := pathSetsRow.holds Try.pinned (OpenSpec.ofChange pathSetsWrong)

/-- 'forebearlaw03.PathChecks': WHATEVER THE INPUT: true; the input reads as it did. -/
def pathChecksSpec : ChangeSpec := { name := "pathChecks", fn := fun _ => fun
  | [d1, d2] => { results := [.lit (.bool true)], args := [d1, d2] }
  | _ => none }
def pathChecksRow : OpenClaim := { program := "ytlbkobiphfaafaa", sum := "c75d76f48d1079716047adddb2e0e2d321c0764a65f41ae964232dacfa3e1874", func := "forebear/forebearlaw03.PathChecks", spec := "pathChecks", inPlace := ["internal/bytealg.IndexByteString", "internal/bytealg.IndexString"], recurses := true, named := ["internal/bytealg.MaxLen"], apart := false }
def PathChecksSaid : Prop := pathChecksRow.holds Try.pinned (OpenSpec.ofChange pathChecksSpec)

/-- ITS FALSE NEIGHBOUR: 'it returns false'. Refute it at one input. -/
def pathChecksWrong : ChangeSpec := { name := "pathChecks", fn := fun _ => fun
  | [d1, d2] => { results := [.lit (.bool false)], args := [d1, d2] }
  | _ => none }
def PathChecksWrongFalsely : Prop := pathChecksRow.holds Try.pinned (OpenSpec.ofChange pathChecksWrong)

/- THE SECOND FORM. 'bulk': how many values and letters a reading holds, each counted each time it is reached (what is shared counts as often as it is met; a slice's spare places count too). A statement '..UptoSaid' is the law's where the arguments, and the package variables that the reading takes, are together of bulk at most 1048576: NARROWER than '..Said'. Prove '..Said' where nothing that the law and all that it calls make is longer than what came in: it says more and counts as full. Else prove '..UptoSaid'. A law counts once. -/
mutual
def uptoBulk {H : Type} : DataW H → Nat
  | .lit (.string bytes) => bytes.length + 1
  | .lit _ => 1
  | .nil => 1
  | .ptr d => uptoBulk d + 1
  | .slice elems spare => uptoBulkAll elems + uptoBulkAll spare + 1
  | .agg parts => uptoBulkAll parts + 1
  | .iface _ d => uptoBulk d + 1
  | .map entries => uptoBulkEntries entries + 1
  | .held _ => 1
def uptoBulkAll {H : Type} : List (DataW H) → Nat
  | [] => 0
  | d :: r => uptoBulk d + uptoBulkAll r
def uptoBulkEntries {H : Type} : List (Lit × DataW H) → Nat
  | [] => 0
  | x :: r => uptoBulkEntry x + uptoBulkEntries r
def uptoBulkEntry {H : Type} : Lit × DataW H → Nat
  | (.string bytes, d) => bytes.length + uptoBulk d + 1
  | (_, d) => uptoBulk d + 1
 end
def uptoSmall : (H : Type) → List (DataW H) → Bool := fun _ ds => decide (uptoBulkAll ds ≤ 1048576)
def OpenSpec.upto (s : _root_.Go.ChangeSpec) : _root_.Go.OpenSpec := { _root_.Go.OpenSpec.ofChange s with cond := some uptoSmall }

/-- 'forebearlaw03.PathParts', WHERE WHAT IT READS IS OF BULK AT MOST 1048576: true; the input reads as it did. -/
def pathPartsUptoRow : OpenClaim := { program := "ytlbkobiphfaafaa", sum := "c75d76f48d1079716047adddb2e0e2d321c0764a65f41ae964232dacfa3e1874", func := "forebear/forebearlaw03.PathParts", spec := "pathParts", recurses := true, apart := false, narrowed := true }
def PathPartsUptoSaid : Prop := pathPartsUptoRow.holds Try.pinned (OpenSpec.upto pathPartsSpec)

/-- 'forebearlaw03.PathSorts', WHERE WHAT IT READS IS OF BULK AT MOST 1048576: true; the input reads as it did. -/
def pathSortsUptoRow : OpenClaim := { program := "ytlbkobiphfaafaa", sum := "c75d76f48d1079716047adddb2e0e2d321c0764a65f41ae964232dacfa3e1874", func := "forebear/forebearlaw03.PathSorts", spec := "pathSorts", recurses := true, apart := false, narrowed := true }
def PathSortsUptoSaid : Prop := pathSortsUptoRow.holds Try.pinned (OpenSpec.upto pathSortsSpec)

/-- 'forebearlaw03.PathAlike', WHERE WHAT IT READS IS OF BULK AT MOST 1048576: true; the input reads as it did. -/
def pathAlikeUptoRow : OpenClaim := { program := "ytlbkobiphfaafaa", sum := "c75d76f48d1079716047adddb2e0e2d321c0764a65f41ae964232dacfa3e1874", func := "forebear/forebearlaw03.PathAlike", spec := "pathAlike", recurses := true, apart := false, narrowed := true }
def PathAlikeUptoSaid : Prop := pathAlikeUptoRow.holds Try.pinned (OpenSpec.upto pathAlikeSpec)

/-- 'forebearlaw04.TextLines', WHERE WHAT IT READS IS OF BULK AT MOST 1048576: true; the input reads as it did. -/
def textLinesUptoRow : OpenClaim := { program := "ytlbkobiphfaafaa", sum := "c75d76f48d1079716047adddb2e0e2d321c0764a65f41ae964232dacfa3e1874", func := "forebear/forebearlaw04.TextLines", spec := "textLines", inPlace := ["internal/bytealg.IndexByteString", "internal/abi.NoEscape", "internal/bytealg.MakeNoZero"], unfollowed := true, recurses := true, apart := false, narrowed := true }
def TextLinesUptoSaid : Prop := textLinesUptoRow.holds Try.pinned (OpenSpec.upto textLinesSpec)

/-- 'forebearlaw04.TextBack', WHERE WHAT IT READS IS OF BULK AT MOST 1048576: true; the input reads as it did. -/
def textBackUptoRow : OpenClaim := { program := "ytlbkobiphfaafaa", sum := "c75d76f48d1079716047adddb2e0e2d321c0764a65f41ae964232dacfa3e1874", func := "forebear/forebearlaw04.TextBack", spec := "textBack", inPlace := ["internal/bytealg.IndexByteString", "internal/abi.NoEscape", "internal/bytealg.MakeNoZero"], unfollowed := true, recurses := true, apart := false, narrowed := true }
def TextBackUptoSaid : Prop := textBackUptoRow.holds Try.pinned (OpenSpec.upto textBackSpec)

/-- 'forebearlaw04.TextJoins', WHERE WHAT IT READS IS OF BULK AT MOST 1048576: true; the input reads as it did. -/
def textJoinsUptoRow : OpenClaim := { program := "ytlbkobiphfaafaa", sum := "c75d76f48d1079716047adddb2e0e2d321c0764a65f41ae964232dacfa3e1874", func := "forebear/forebearlaw04.TextJoins", spec := "textJoins", inPlace := ["internal/bytealg.IndexByteString", "internal/abi.NoEscape", "internal/bytealg.MakeNoZero"], unfollowed := true, recurses := true, apart := false, narrowed := true }
def TextJoinsUptoSaid : Prop := textJoinsUptoRow.holds Try.pinned (OpenSpec.upto textJoinsSpec)

/-- 'forebearlaw04.TextRuns', WHERE WHAT IT READS IS OF BULK AT MOST 1048576: true; the input reads as it did. -/
def textRunsUptoRow : OpenClaim := { program := "ytlbkobiphfaafaa", sum := "c75d76f48d1079716047adddb2e0e2d321c0764a65f41ae964232dacfa3e1874", func := "forebear/forebearlaw04.TextRuns", spec := "textRuns", inPlace := ["internal/bytealg.IndexByteString", "internal/abi.NoEscape", "internal/bytealg.MakeNoZero"], unfollowed := true, recurses := true, apart := false, narrowed := true }
def TextRunsUptoSaid : Prop := textRunsUptoRow.holds Try.pinned (OpenSpec.upto textRunsSpec)

/-- 'forebearlaw04.TextIn', WHERE WHAT IT READS IS OF BULK AT MOST 1048576: true; the input reads as it did. -/
def textInUptoRow : OpenClaim := { program := "ytlbkobiphfaafaa", sum := "c75d76f48d1079716047adddb2e0e2d321c0764a65f41ae964232dacfa3e1874", func := "forebear/forebearlaw04.TextIn", spec := "textIn", inPlace := ["internal/bytealg.IndexByteString", "internal/abi.NoEscape", "internal/bytealg.MakeNoZero"], unfollowed := true, recurses := true, apart := false, narrowed := true }
def TextInUptoSaid : Prop := textInUptoRow.holds Try.pinned (OpenSpec.upto textInSpec)

/-- 'forebearlaw03.PathSets', WHERE WHAT IT READS IS OF BULK AT MOST 1048576: true; the input reads as it did. -/
def pathSetsUptoRow : OpenClaim := { program := "ytlbkobiphfaafaa", sum := "c75d76f48d1079716047adddb2e0e2d321c0764a65f41ae964232dacfa3e1874", func := "forebear/forebearlaw03.PathSets", spec := "pathSets", unfollowed := true, recurses := true, apart := false, narrowed := true }
def PathSetsUptoSaid : Prop := pathSetsUptoRow.holds Try.pinned (OpenSpec.upto pathSetsSpec)

/-- 'forebearlaw03.PathChecks', WHERE WHAT IT READS IS OF BULK AT MOST 1048576: true; the input reads as it did. -/
def pathChecksUptoRow : OpenClaim := { program := "ytlbkobiphfaafaa", sum := "c75d76f48d1079716047adddb2e0e2d321c0764a65f41ae964232dacfa3e1874", func := "forebear/forebearlaw03.PathChecks", spec := "pathChecks", inPlace := ["internal/bytealg.IndexByteString", "internal/bytealg.IndexString"], recurses := true, named := ["internal/bytealg.MaxLen"], apart := false, narrowed := true }
def PathChecksUptoSaid : Prop := pathChecksUptoRow.holds Try.pinned (OpenSpec.upto pathChecksSpec)

end Rows
end Go.Proofs.Ytlbkobiphfaafaa
