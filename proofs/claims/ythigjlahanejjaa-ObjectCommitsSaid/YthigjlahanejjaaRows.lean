/-
  No cell of these rows narrows 'for every input' (looked for: loops, veiled, ifaces, maps, wideKeys, modest, calm, conditions, laid).
  DERIVED. THE GIVEN ROWS OF THIS SEAT. 9 by the template 'for every input the law returns true; each argument reads behind the call as it read before'; 0 by the template 'total and deterministic' (their statements: YthigjlahanejjaaTotals.lean).
  GIVEN WITH THE SEED: the statements are not yours to turn. If you find one false, say at which input.
  Laid BY PROGRAM, IN A SANDBOX (cutbox-rows.mjs): the forced cells as the released guide's own fill.sh prints them over the translation 93fd2d6ebfa53fed… (all of the seat's roots in one cut). By AI agents, Wed Nov 11 2026. No macro, syntax, notation, axiom, sorry.
-/
import Derived.Test.YthigjlahanejjaaChecked
import GoSem.Claim
import GoSem.ClaimJoined
import GoSem.ClaimMapViews
import Derived.JoinedTies
import Derived.KernelRfl
namespace Go.Proofs.Ythigjlahanejjaa
/- THE CELL 'sum', in the pinned program and in every row, IS THE sha256 OF THE DUMP (.gsa) THAT YthigjlahanejjaaProg.lean LOADS. Nothing in Lean hashes anything: it is a label: what it is worth is what the hold of that sum in a sandbox is worth. -/
noncomputable def Try.pinned : Pinned := { name := "ythigjlahanejjaa", sum := "93fd2d6ebfa53fedf9704090a3415d4b32dfa3c1fe80db9b070486a5e9569e5e", checked := Try.checked }
namespace Rows
def none {H : Type} : Left H := { results := [], args := [] }

/-- 'forebearlaw05.DiffMatches': WHATEVER THE INPUT: true; the input reads as it did. -/
def diffMatchesSpec : ChangeSpec := { name := "diffMatches", fn := fun _ => fun
  | [d1, d2] => { results := [.lit (.bool true)], args := [d1, d2] }
  | _ => none }
def diffMatchesRow : OpenClaim := { program := "ythigjlahanejjaa", sum := "93fd2d6ebfa53fedf9704090a3415d4b32dfa3c1fe80db9b070486a5e9569e5e", func := "forebear/forebearlaw05.DiffMatches", spec := "diffMatches", apart := false }
def DiffMatchesSaid : Prop := diffMatchesRow.holds Try.pinned (OpenSpec.ofChange diffMatchesSpec)

/-- ITS FALSE NEIGHBOUR: 'it returns false'. Refute it at one input. -/
def diffMatchesWrong : ChangeSpec := { name := "diffMatches", fn := fun _ => fun
  | [d1, d2] => { results := [.lit (.bool false)], args := [d1, d2] }
  | _ => none }
def DiffMatchesWrongFalsely : Prop := diffMatchesRow.holds Try.pinned (OpenSpec.ofChange diffMatchesWrong)

/-- 'forebearlaw05.DiffLongest': WHATEVER THE INPUT: true; the input reads as it did. -/
def diffLongestSpec : ChangeSpec := { name := "diffLongest", fn := fun _ => fun
  | [d1, d2] => { results := [.lit (.bool true)], args := [d1, d2] }
  | _ => none }
def diffLongestRow : OpenClaim := { program := "ythigjlahanejjaa", sum := "93fd2d6ebfa53fedf9704090a3415d4b32dfa3c1fe80db9b070486a5e9569e5e", func := "forebear/forebearlaw05.DiffLongest", spec := "diffLongest", apart := false }
def DiffLongestSaid : Prop := diffLongestRow.holds Try.pinned (OpenSpec.ofChange diffLongestSpec)

/-- ITS FALSE NEIGHBOUR: 'it returns false'. Refute it at one input. -/
def diffLongestWrong : ChangeSpec := { name := "diffLongest", fn := fun _ => fun
  | [d1, d2] => { results := [.lit (.bool false)], args := [d1, d2] }
  | _ => none }
def DiffLongestWrongFalsely : Prop := diffLongestRow.holds Try.pinned (OpenSpec.ofChange diffLongestWrong)

/-- 'forebearlaw05.DiffBack': WHATEVER THE INPUT: true; the input reads as it did. -/
def diffBackSpec : ChangeSpec := { name := "diffBack", fn := fun _ => fun
  | [d1, d2] => { results := [.lit (.bool true)], args := [d1, d2] }
  | _ => none }
def diffBackRow : OpenClaim := { program := "ythigjlahanejjaa", sum := "93fd2d6ebfa53fedf9704090a3415d4b32dfa3c1fe80db9b070486a5e9569e5e", func := "forebear/forebearlaw05.DiffBack", spec := "diffBack", apart := false }
def DiffBackSaid : Prop := diffBackRow.holds Try.pinned (OpenSpec.ofChange diffBackSpec)

/-- ITS FALSE NEIGHBOUR: 'it returns false'. Refute it at one input. -/
def diffBackWrong : ChangeSpec := { name := "diffBack", fn := fun _ => fun
  | [d1, d2] => { results := [.lit (.bool false)], args := [d1, d2] }
  | _ => none }
def DiffBackWrongFalsely : Prop := diffBackRow.holds Try.pinned (OpenSpec.ofChange diffBackWrong)

/-- 'forebearlaw05.DiffApplies': WHATEVER THE INPUT: true; the input reads as it did. -/
def diffAppliesSpec : ChangeSpec := { name := "diffApplies", fn := fun _ => fun
  | [d1, d2] => { results := [.lit (.bool true)], args := [d1, d2] }
  | _ => none }
def diffAppliesRow : OpenClaim := { program := "ythigjlahanejjaa", sum := "93fd2d6ebfa53fedf9704090a3415d4b32dfa3c1fe80db9b070486a5e9569e5e", func := "forebear/forebearlaw05.DiffApplies", spec := "diffApplies", apart := false }
def DiffAppliesSaid : Prop := diffAppliesRow.holds Try.pinned (OpenSpec.ofChange diffAppliesSpec)

/-- ITS FALSE NEIGHBOUR: 'it returns false'. Refute it at one input. -/
def diffAppliesWrong : ChangeSpec := { name := "diffApplies", fn := fun _ => fun
  | [d1, d2] => { results := [.lit (.bool false)], args := [d1, d2] }
  | _ => none }
def DiffAppliesWrongFalsely : Prop := diffAppliesRow.holds Try.pinned (OpenSpec.ofChange diffAppliesWrong)

/-- 'forebearlaw05.DiffSelf': WHATEVER THE INPUT: true; the input reads as it did. -/
def diffSelfSpec : ChangeSpec := { name := "diffSelf", fn := fun _ => fun
  | [d] => { results := [.lit (.bool true)], args := [d] }
  | _ => none }
def diffSelfRow : OpenClaim := { program := "ythigjlahanejjaa", sum := "93fd2d6ebfa53fedf9704090a3415d4b32dfa3c1fe80db9b070486a5e9569e5e", func := "forebear/forebearlaw05.DiffSelf", spec := "diffSelf", apart := false }
def DiffSelfSaid : Prop := diffSelfRow.holds Try.pinned (OpenSpec.ofChange diffSelfSpec)

/-- ITS FALSE NEIGHBOUR: 'it returns false'. Refute it at one input. -/
def diffSelfWrong : ChangeSpec := { name := "diffSelf", fn := fun _ => fun
  | [d] => { results := [.lit (.bool false)], args := [d] }
  | _ => none }
def DiffSelfWrongFalsely : Prop := diffSelfRow.holds Try.pinned (OpenSpec.ofChange diffSelfWrong)

/-- 'forebearlaw08.ObjectTrees': WHATEVER THE INPUT: true; the input reads as it did. -/
def objectTreesSpec : ChangeSpec := { name := "objectTrees", fn := fun _ => fun
  | [d1, d2] => { results := [.lit (.bool true)], args := [d1, d2] }
  | _ => none }
def objectTreesRow : OpenClaim := { program := "ythigjlahanejjaa", sum := "93fd2d6ebfa53fedf9704090a3415d4b32dfa3c1fe80db9b070486a5e9569e5e", func := "forebear/forebearlaw08.ObjectTrees", spec := "objectTrees", inPlace := ["internal/bytealg.abigen_runtime_cmpstring"], unfollowed := true, recurses := true, apart := false }
def ObjectTreesSaid : Prop := objectTreesRow.holds Try.pinned (OpenSpec.ofChange objectTreesSpec)

/-- ITS FALSE NEIGHBOUR: 'it returns false'. Refute it at one input. -/
def objectTreesWrong : ChangeSpec := { name := "objectTrees", fn := fun _ => fun
  | [d1, d2] => { results := [.lit (.bool false)], args := [d1, d2] }
  | _ => none }
def ObjectTreesWrongFalsely : Prop := objectTreesRow.holds Try.pinned (OpenSpec.ofChange objectTreesWrong)

/-- 'forebearlaw08.ObjectFinds': WHATEVER THE INPUT: true; the input reads as it did. -/
def objectFindsSpec : ChangeSpec := { name := "objectFinds", fn := fun _ => fun
  | [d1, d2] => { results := [.lit (.bool true)], args := [d1, d2] }
  | _ => none }
def objectFindsRow : OpenClaim := { program := "ythigjlahanejjaa", sum := "93fd2d6ebfa53fedf9704090a3415d4b32dfa3c1fe80db9b070486a5e9569e5e", func := "forebear/forebearlaw08.ObjectFinds", spec := "objectFinds", inPlace := ["internal/bytealg.abigen_runtime_cmpstring"], unfollowed := true, recurses := true, apart := false }
def ObjectFindsSaid : Prop := objectFindsRow.holds Try.pinned (OpenSpec.ofChange objectFindsSpec)

/-- ITS FALSE NEIGHBOUR: 'it returns false'. Refute it at one input. -/
def objectFindsWrong : ChangeSpec := { name := "objectFinds", fn := fun _ => fun
  | [d1, d2] => { results := [.lit (.bool false)], args := [d1, d2] }
  | _ => none }
def ObjectFindsWrongFalsely : Prop := objectFindsRow.holds Try.pinned (OpenSpec.ofChange objectFindsWrong)

/-- 'forebearlaw08.ObjectCommits': WHATEVER THE INPUT: true; the input reads as it did. -/
def objectCommitsSpec : ChangeSpec := { name := "objectCommits", fn := fun _ => fun
  | [d1, d2] => { results := [.lit (.bool true)], args := [d1, d2] }
  | _ => none }
def objectCommitsRow : OpenClaim := { program := "ythigjlahanejjaa", sum := "93fd2d6ebfa53fedf9704090a3415d4b32dfa3c1fe80db9b070486a5e9569e5e", func := "forebear/forebearlaw08.ObjectCommits", spec := "objectCommits", inPlace := ["internal/bytealg.abigen_runtime_cmpstring"], unfollowed := true, recurses := true, apart := false }
def ObjectCommitsSaid : Prop := objectCommitsRow.holds Try.pinned (OpenSpec.ofChange objectCommitsSpec)

/-- ITS FALSE NEIGHBOUR: 'it returns false'. Refute it at one input. -/
def objectCommitsWrong : ChangeSpec := { name := "objectCommits", fn := fun _ => fun
  | [d1, d2] => { results := [.lit (.bool false)], args := [d1, d2] }
  | _ => none }
def ObjectCommitsWrongFalsely : Prop := objectCommitsRow.holds Try.pinned (OpenSpec.ofChange objectCommitsWrong)

/-- 'forebearlaw08.ObjectBack': WHATEVER THE INPUT: true; the input reads as it did. -/
def objectBackSpec : ChangeSpec := { name := "objectBack", fn := fun _ => fun
  | [d1, d2, d3] => { results := [.lit (.bool true)], args := [d1, d2, d3] }
  | _ => none }
def objectBackRow : OpenClaim := { program := "ythigjlahanejjaa", sum := "93fd2d6ebfa53fedf9704090a3415d4b32dfa3c1fe80db9b070486a5e9569e5e", func := "forebear/forebearlaw08.ObjectBack", spec := "objectBack", inPlace := ["internal/bytealg.abigen_runtime_cmpstring"], unfollowed := true, recurses := true, apart := false }
def ObjectBackSaid : Prop := objectBackRow.holds Try.pinned (OpenSpec.ofChange objectBackSpec)

/-- ITS FALSE NEIGHBOUR: 'it returns false'. Refute it at one input. -/
def objectBackWrong : ChangeSpec := { name := "objectBack", fn := fun _ => fun
  | [d1, d2, d3] => { results := [.lit (.bool false)], args := [d1, d2, d3] }
  | _ => none }
def ObjectBackWrongFalsely : Prop := objectBackRow.holds Try.pinned (OpenSpec.ofChange objectBackWrong)

/- THE SECOND FORM. 'bulk': how many values and letters a reading holds, each counted each time it is reached (what is shared counts as often as it is met; a slice's spare places count too). A statement '..UptoSaid' is the law's where the arguments, and the package variables that the reading takes, are together of bulk at most 1048576: NARROWER than '..Said'. Prove '..Said' where nothing that the law and all that it calls make is longer than what came in: it says more and counts as full. Else prove '..UptoSaid'. A law counts once. -/
mutual
def uptoBulk {H : Type} : DataW H → Nat
  | .lit (.string bytes) => bytes.length + 1
  | .lit _ => 1
  | .nil => 1
  | .ptr d => uptoBulk d + 1
  | .slice elems spare => uptoBulkAll elems + uptoBulkAll spare + 1
  | .agg parts => uptoBulkAll parts + 1
  | .iface _ d => uptoBulk d + 1
  | .map entries => uptoBulkEntries entries + 1
  | .held _ => 1
def uptoBulkAll {H : Type} : List (DataW H) → Nat
  | [] => 0
  | d :: r => uptoBulk d + uptoBulkAll r
def uptoBulkEntries {H : Type} : List (Lit × DataW H) → Nat
  | [] => 0
  | x :: r => uptoBulkEntry x + uptoBulkEntries r
def uptoBulkEntry {H : Type} : Lit × DataW H → Nat
  | (.string bytes, d) => bytes.length + uptoBulk d + 1
  | (_, d) => uptoBulk d + 1
 end
def uptoSmall : (H : Type) → List (DataW H) → Bool := fun _ ds => decide (uptoBulkAll ds ≤ 1048576)
def OpenSpec.upto (s : _root_.Go.ChangeSpec) : _root_.Go.OpenSpec := { _root_.Go.OpenSpec.ofChange s with cond := some uptoSmall }

/-- 'forebearlaw05.DiffMatches', WHERE WHAT IT READS IS OF BULK AT MOST 1048576: true; the input reads as it did. -/
def diffMatchesUptoRow : OpenClaim := { program := "ythigjlahanejjaa", sum := "93fd2d6ebfa53fedf9704090a3415d4b32dfa3c1fe80db9b070486a5e9569e5e", func := "forebear/forebearlaw05.DiffMatches", spec := "diffMatches", apart := false, narrowed := true }
def DiffMatchesUptoSaid : Prop := diffMatchesUptoRow.holds Try.pinned (OpenSpec.upto diffMatchesSpec)

/-- 'forebearlaw05.DiffLongest', WHERE WHAT IT READS IS OF BULK AT MOST 1048576: true; the input reads as it did. -/
def diffLongestUptoRow : OpenClaim := { program := "ythigjlahanejjaa", sum := "93fd2d6ebfa53fedf9704090a3415d4b32dfa3c1fe80db9b070486a5e9569e5e", func := "forebear/forebearlaw05.DiffLongest", spec := "diffLongest", apart := false, narrowed := true }
def DiffLongestUptoSaid : Prop := diffLongestUptoRow.holds Try.pinned (OpenSpec.upto diffLongestSpec)

/-- 'forebearlaw05.DiffBack', WHERE WHAT IT READS IS OF BULK AT MOST 1048576: true; the input reads as it did. -/
def diffBackUptoRow : OpenClaim := { program := "ythigjlahanejjaa", sum := "93fd2d6ebfa53fedf9704090a3415d4b32dfa3c1fe80db9b070486a5e9569e5e", func := "forebear/forebearlaw05.DiffBack", spec := "diffBack", apart := false, narrowed := true }
def DiffBackUptoSaid : Prop := diffBackUptoRow.holds Try.pinned (OpenSpec.upto diffBackSpec)

/-- 'forebearlaw05.DiffApplies', WHERE WHAT IT READS IS OF BULK AT MOST 1048576: true; the input reads as it did. -/
def diffAppliesUptoRow : OpenClaim := { program := "ythigjlahanejjaa", sum := "93fd2d6ebfa53fedf9704090a3415d4b32dfa3c1fe80db9b070486a5e9569e5e", func := "forebear/forebearlaw05.DiffApplies", spec := "diffApplies", apart := false, narrowed := true }
def DiffAppliesUptoSaid : Prop := diffAppliesUptoRow.holds Try.pinned (OpenSpec.upto diffAppliesSpec)

/-- 'forebearlaw05.DiffSelf', WHERE WHAT IT READS IS OF BULK AT MOST 1048576: true; the input reads as it did. -/
def diffSelfUptoRow : OpenClaim := { program := "ythigjlahanejjaa", sum := "93fd2d6ebfa53fedf9704090a3415d4b32dfa3c1fe80db9b070486a5e9569e5e", func := "forebear/forebearlaw05.DiffSelf", spec := "diffSelf", apart := false, narrowed := true }
def DiffSelfUptoSaid : Prop := diffSelfUptoRow.holds Try.pinned (OpenSpec.upto diffSelfSpec)

/-- 'forebearlaw08.ObjectTrees', WHERE WHAT IT READS IS OF BULK AT MOST 1048576: true; the input reads as it did. -/
def objectTreesUptoRow : OpenClaim := { program := "ythigjlahanejjaa", sum := "93fd2d6ebfa53fedf9704090a3415d4b32dfa3c1fe80db9b070486a5e9569e5e", func := "forebear/forebearlaw08.ObjectTrees", spec := "objectTrees", inPlace := ["internal/bytealg.abigen_runtime_cmpstring"], unfollowed := true, recurses := true, apart := false, narrowed := true }
def ObjectTreesUptoSaid : Prop := objectTreesUptoRow.holds Try.pinned (OpenSpec.upto objectTreesSpec)

/-- 'forebearlaw08.ObjectFinds', WHERE WHAT IT READS IS OF BULK AT MOST 1048576: true; the input reads as it did. -/
def objectFindsUptoRow : OpenClaim := { program := "ythigjlahanejjaa", sum := "93fd2d6ebfa53fedf9704090a3415d4b32dfa3c1fe80db9b070486a5e9569e5e", func := "forebear/forebearlaw08.ObjectFinds", spec := "objectFinds", inPlace := ["internal/bytealg.abigen_runtime_cmpstring"], unfollowed := true, recurses := true, apart := false, narrowed := true }
def ObjectFindsUptoSaid : Prop := objectFindsUptoRow.holds Try.pinned (OpenSpec.upto objectFindsSpec)

/-- 'forebearlaw08.ObjectCommits', WHERE WHAT IT READS IS OF BULK AT MOST 1048576: true; the input reads as it did. -/
def objectCommitsUptoRow : OpenClaim := { program := "ythigjlahanejjaa", sum := "93fd2d6ebfa53fedf9704090a3415d4b32dfa3c1fe80db9b070486a5e9569e5e", func := "forebear/forebearlaw08.ObjectCommits", spec := "objectCommits", inPlace := ["internal/bytealg.abigen_runtime_cmpstring"], unfollowed := true, recurses := true, apart := false, narrowed := true }
def ObjectCommitsUptoSaid : Prop := objectCommitsUptoRow.holds Try.pinned (OpenSpec.upto objectCommitsSpec)

/-- 'forebearlaw08.ObjectBack', WHERE WHAT IT READS IS OF BULK AT MOST 1048576: true; the input reads as it did. -/
def objectBackUptoRow : OpenClaim := { program := "ythigjlahanejjaa", sum := "93fd2d6ebfa53fedf9704090a3415d4b32dfa3c1fe80db9b070486a5e9569e5e", func := "forebear/forebearlaw08.ObjectBack", spec := "objectBack", inPlace := ["internal/bytealg.abigen_runtime_cmpstring"], unfollowed := true, recurses := true, apart := false, narrowed := true }
def ObjectBackUptoSaid : Prop := objectBackUptoRow.holds Try.pinned (OpenSpec.upto objectBackSpec)

end Rows
end Go.Proofs.Ythigjlahanejjaa
