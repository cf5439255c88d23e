/- A row of marks as one number: bit i is the mark of operation i. No condition. -/
import Derived.Test.YtieodkghfceflaaOpen
namespace Go.Proofs.Ytieodkghfceflaa.Opening
def vb (n k : Nat) : Array Bool := ((List.range k).map fun i => n.testBit i).toArray
end Go.Proofs.Ytieodkghfceflaa.Opening
