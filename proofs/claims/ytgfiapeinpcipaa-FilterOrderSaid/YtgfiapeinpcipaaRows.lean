/-
  No cell of these rows narrows 'for every input' (looked for: loops, veiled, ifaces, maps, wideKeys, modest, calm, conditions, laid).
  DERIVED. THE GIVEN ROWS OF THIS SEAT. 5 by the template 'for every input the law returns true; each argument reads behind the call as it read before'; 0 by the template 'total and deterministic' (their statements: YtgfiapeinpcipaaTotals.lean).
  GIVEN WITH THE SEED: the statements are not yours to turn. If you find one false, say at which input.
  Laid BY PROGRAM, IN A SANDBOX (cutbox-rows.mjs): the forced cells as the released guide's own fill.sh prints them over the translation be6f98ce93e7ffa2… (all of the seat's roots in one cut). By AI agents, Wed Nov 11 2026. No macro, syntax, notation, axiom, sorry.
-/
import Derived.Test.YtgfiapeinpcipaaChecked
import GoSem.Claim
import GoSem.ClaimJoined
import GoSem.ClaimMapViews
import Derived.JoinedTies
import Derived.KernelRfl
namespace Go.Proofs.Ytgfiapeinpcipaa
/- THE CELL 'sum', in the pinned program and in every row, IS THE sha256 OF THE DUMP (.gsa) THAT YtgfiapeinpcipaaProg.lean LOADS. Nothing in Lean hashes anything: it is a label: what it is worth is what the hold of that sum in a sandbox is worth. -/
noncomputable def Try.pinned : Pinned := { name := "ytgfiapeinpcipaa", sum := "be6f98ce93e7ffa29ea1cd251b9f0b4617d2251c490a6a2c8d85ab9bc34c11ce", checked := Try.checked }
namespace Rows
def none {H : Type} : Left H := { results := [], args := [] }

/-- 'forebearlaw11.FilterMakes': WHATEVER THE INPUT: true; the input reads as it did. -/
def filterMakesSpec : ChangeSpec := { name := "filterMakes", fn := fun _ => fun
  | [d] => { results := [.lit (.bool true)], args := [d] }
  | _ => none }
def filterMakesRow : OpenClaim := { program := "ytgfiapeinpcipaa", sum := "be6f98ce93e7ffa29ea1cd251b9f0b4617d2251c490a6a2c8d85ab9bc34c11ce", func := "forebear/forebearlaw11.FilterMakes", spec := "filterMakes", recurses := true, apart := false }
def FilterMakesSaid : Prop := filterMakesRow.holds Try.pinned (OpenSpec.ofChange filterMakesSpec)

/-- ITS FALSE NEIGHBOUR: 'it returns false'. Refute it at one input. -/
def filterMakesWrong : ChangeSpec := { name := "filterMakes", fn := fun _ => fun
  | [d] => { results := [.lit (.bool false)], args := [d] }
  | _ => none }
def FilterMakesWrongFalsely : Prop := filterMakesRow.holds Try.pinned (OpenSpec.ofChange filterMakesWrong)

/-- 'forebearlaw11.FilterNever': WHATEVER THE INPUT: true; the input reads as it did. -/
def filterNeverSpec : ChangeSpec := { name := "filterNever", fn := fun _ => fun
  | [d] => { results := [.lit (.bool true)], args := [d] }
  | _ => none }
def filterNeverRow : OpenClaim := { program := "ytgfiapeinpcipaa", sum := "be6f98ce93e7ffa29ea1cd251b9f0b4617d2251c490a6a2c8d85ab9bc34c11ce", func := "forebear/forebearlaw11.FilterNever", spec := "filterNever", recurses := true, apart := false }
def FilterNeverSaid : Prop := filterNeverRow.holds Try.pinned (OpenSpec.ofChange filterNeverSpec)

/-- ITS FALSE NEIGHBOUR: 'it returns false'. Refute it at one input. -/
def filterNeverWrong : ChangeSpec := { name := "filterNever", fn := fun _ => fun
  | [d] => { results := [.lit (.bool false)], args := [d] }
  | _ => none }
def FilterNeverWrongFalsely : Prop := filterNeverRow.holds Try.pinned (OpenSpec.ofChange filterNeverWrong)

/-- 'forebearlaw11.FilterAsks': WHATEVER THE INPUT: true; the input reads as it did. -/
def filterAsksSpec : ChangeSpec := { name := "filterAsks", fn := fun _ => fun
  | [d1, d2, d3] => { results := [.lit (.bool true)], args := [d1, d2, d3] }
  | _ => none }
def filterAsksRow : OpenClaim := { program := "ytgfiapeinpcipaa", sum := "be6f98ce93e7ffa29ea1cd251b9f0b4617d2251c490a6a2c8d85ab9bc34c11ce", func := "forebear/forebearlaw11.FilterAsks", spec := "filterAsks", recurses := true, apart := false }
def FilterAsksSaid : Prop := filterAsksRow.holds Try.pinned (OpenSpec.ofChange filterAsksSpec)

/-- ITS FALSE NEIGHBOUR: 'it returns false'. Refute it at one input. -/
def filterAsksWrong : ChangeSpec := { name := "filterAsks", fn := fun _ => fun
  | [d1, d2, d3] => { results := [.lit (.bool false)], args := [d1, d2, d3] }
  | _ => none }
def FilterAsksWrongFalsely : Prop := filterAsksRow.holds Try.pinned (OpenSpec.ofChange filterAsksWrong)

/-- 'forebearlaw11.FilterSays': WHATEVER THE INPUT: true; the input reads as it did. -/
def filterSaysSpec : ChangeSpec := { name := "filterSays", fn := fun _ => fun
  | [d1, d2] => { results := [.lit (.bool true)], args := [d1, d2] }
  | _ => none }
def filterSaysRow : OpenClaim := { program := "ytgfiapeinpcipaa", sum := "be6f98ce93e7ffa29ea1cd251b9f0b4617d2251c490a6a2c8d85ab9bc34c11ce", func := "forebear/forebearlaw11.FilterSays", spec := "filterSays", recurses := true, apart := false }
def FilterSaysSaid : Prop := filterSaysRow.holds Try.pinned (OpenSpec.ofChange filterSaysSpec)

/-- ITS FALSE NEIGHBOUR: 'it returns false'. Refute it at one input. -/
def filterSaysWrong : ChangeSpec := { name := "filterSays", fn := fun _ => fun
  | [d1, d2] => { results := [.lit (.bool false)], args := [d1, d2] }
  | _ => none }
def FilterSaysWrongFalsely : Prop := filterSaysRow.holds Try.pinned (OpenSpec.ofChange filterSaysWrong)

/-- 'forebearlaw11.FilterOrder': WHATEVER THE INPUT: true; the input reads as it did. -/
def filterOrderSpec : ChangeSpec := { name := "filterOrder", fn := fun _ => fun
  | [d1, d2] => { results := [.lit (.bool true)], args := [d1, d2] }
  | _ => none }
def filterOrderRow : OpenClaim := { program := "ytgfiapeinpcipaa", sum := "be6f98ce93e7ffa29ea1cd251b9f0b4617d2251c490a6a2c8d85ab9bc34c11ce", func := "forebear/forebearlaw11.FilterOrder", spec := "filterOrder", recurses := true, apart := false }
def FilterOrderSaid : Prop := filterOrderRow.holds Try.pinned (OpenSpec.ofChange filterOrderSpec)

/-- ITS FALSE NEIGHBOUR: 'it returns false'. Refute it at one input. -/
def filterOrderWrong : ChangeSpec := { name := "filterOrder", fn := fun _ => fun
  | [d1, d2] => { results := [.lit (.bool false)], args := [d1, d2] }
  | _ => none }
def FilterOrderWrongFalsely : Prop := filterOrderRow.holds Try.pinned (OpenSpec.ofChange filterOrderWrong)

/- THE SECOND FORM. 'bulk': how many values and letters a reading holds, each counted each time it is reached (what is shared counts as often as it is met; a slice's spare places count too). A statement '..UptoSaid' is the law's where the arguments, and the package variables that the reading takes, are together of bulk at most 1048576: NARROWER than '..Said'. Prove '..Said' where nothing that the law and all that it calls make is longer than what came in: it says more and counts as full. Else prove '..UptoSaid'. A law counts once. -/
mutual
def uptoBulk {H : Type} : DataW H → Nat
  | .lit (.string bytes) => bytes.length + 1
  | .lit _ => 1
  | .nil => 1
  | .ptr d => uptoBulk d + 1
  | .slice elems spare => uptoBulkAll elems + uptoBulkAll spare + 1
  | .agg parts => uptoBulkAll parts + 1
  | .iface _ d => uptoBulk d + 1
  | .map entries => uptoBulkEntries entries + 1
  | .held _ => 1
def uptoBulkAll {H : Type} : List (DataW H) → Nat
  | [] => 0
  | d :: r => uptoBulk d + uptoBulkAll r
def uptoBulkEntries {H : Type} : List (Lit × DataW H) → Nat
  | [] => 0
  | x :: r => uptoBulkEntry x + uptoBulkEntries r
def uptoBulkEntry {H : Type} : Lit × DataW H → Nat
  | (.string bytes, d) => bytes.length + uptoBulk d + 1
  | (_, d) => uptoBulk d + 1
 end
def uptoSmall : (H : Type) → List (DataW H) → Bool := fun _ ds => decide (uptoBulkAll ds ≤ 1048576)
def OpenSpec.upto (s : _root_.Go.ChangeSpec) : _root_.Go.OpenSpec := { _root_.Go.OpenSpec.ofChange s with cond := some uptoSmall }

/-- 'forebearlaw11.FilterMakes', WHERE WHAT IT READS IS OF BULK AT MOST 1048576: true; the input reads as it did. -/
def filterMakesUptoRow : OpenClaim := { program := "ytgfiapeinpcipaa", sum := "be6f98ce93e7ffa29ea1cd251b9f0b4617d2251c490a6a2c8d85ab9bc34c11ce", func := "forebear/forebearlaw11.FilterMakes", spec := "filterMakes", recurses := true, apart := false, narrowed := true }
def FilterMakesUptoSaid : Prop := filterMakesUptoRow.holds Try.pinned (OpenSpec.upto filterMakesSpec)

/-- 'forebearlaw11.FilterNever', WHERE WHAT IT READS IS OF BULK AT MOST 1048576: true; the input reads as it did. -/
def filterNeverUptoRow : OpenClaim := { program := "ytgfiapeinpcipaa", sum := "be6f98ce93e7ffa29ea1cd251b9f0b4617d2251c490a6a2c8d85ab9bc34c11ce", func := "forebear/forebearlaw11.FilterNever", spec := "filterNever", recurses := true, apart := false, narrowed := true }
def FilterNeverUptoSaid : Prop := filterNeverUptoRow.holds Try.pinned (OpenSpec.upto filterNeverSpec)

/-- 'forebearlaw11.FilterAsks', WHERE WHAT IT READS IS OF BULK AT MOST 1048576: true; the input reads as it did. -/
def filterAsksUptoRow : OpenClaim := { program := "ytgfiapeinpcipaa", sum := "be6f98ce93e7ffa29ea1cd251b9f0b4617d2251c490a6a2c8d85ab9bc34c11ce", func := "forebear/forebearlaw11.FilterAsks", spec := "filterAsks", recurses := true, apart := false, narrowed := true }
def FilterAsksUptoSaid : Prop := filterAsksUptoRow.holds Try.pinned (OpenSpec.upto filterAsksSpec)

/-- 'forebearlaw11.FilterSays', WHERE WHAT IT READS IS OF BULK AT MOST 1048576: true; the input reads as it did. -/
def filterSaysUptoRow : OpenClaim := { program := "ytgfiapeinpcipaa", sum := "be6f98ce93e7ffa29ea1cd251b9f0b4617d2251c490a6a2c8d85ab9bc34c11ce", func := "forebear/forebearlaw11.FilterSays", spec := "filterSays", recurses := true, apart := false, narrowed := true }
def FilterSaysUptoSaid : Prop := filterSaysUptoRow.holds Try.pinned (OpenSpec.upto filterSaysSpec)

/-- 'forebearlaw11.FilterOrder', WHERE WHAT IT READS IS OF BULK AT MOST 1048576: true; the input reads as it did. -/
def filterOrderUptoRow : OpenClaim := { program := "ytgfiapeinpcipaa", sum := "be6f98ce93e7ffa29ea1cd251b9f0b4617d2251c490a6a2c8d85ab9bc34c11ce", func := "forebear/forebearlaw11.FilterOrder", spec := "filterOrder", recurses := true, apart := false, narrowed := true }
def FilterOrderUptoSaid : Prop := filterOrderUptoRow.holds Try.pinned (OpenSpec.upto filterOrderSpec)

end Rows
end Go.Proofs.Ytgfiapeinpcipaa
