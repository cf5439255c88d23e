/- Plain words for the package sum: the table of half bytes, the check sum of a byte, the digits of an ID; and what the walks of sum.Check and sum.Hex need of their array's cells. No condition. -/
import Derived.Test.YtieodkghfceflaaWWords
import Derived.WalkKit
import Derived.OneCell
import Derived.Laws.BitsLemmas
set_option linter.unusedVariables false
set_option linter.unusedSimpArgs false
