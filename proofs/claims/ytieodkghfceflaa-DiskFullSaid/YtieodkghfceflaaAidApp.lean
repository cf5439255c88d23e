/- A string appended to a row of bytes in a region whose order is not fixed. No condition. -/
import Derived.Test.YtieodkghfceflaaWMore
import Derived.Lib.AppendStr
import Derived.RegionTactic
set_option linter.unusedVariables false
