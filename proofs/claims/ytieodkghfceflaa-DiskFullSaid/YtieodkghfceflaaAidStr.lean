/- What the contracts of the library's string functions want, brought in. No condition. -/
import Derived.Test.YtieodkghfceflaaWWords
import Derived.Lib.Strings
import Derived.Lib.Slices
import Derived.Lib.Walk
import Derived.Lib.Bytealg
namespace Go.Proofs.Ytieodkghfceflaa.Opening
theorem one_byte {t : ByteArray} {c : UInt8} (h : t.data.toList = [c]) : t = ⟨#[c]⟩ := by
  have : t.data = #[c] := Array.toList_inj.1 (by rw [h])
  cases t
  simp_all
end Go.Proofs.Ytieodkghfceflaa.Opening
