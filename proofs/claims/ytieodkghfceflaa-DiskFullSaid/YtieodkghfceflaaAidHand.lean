/- Words for functions that were walked by hand: the length of an own row, one byte as a string, the first element that a test tells. No condition. -/
import Derived.Test.YtieodkghfceflaaWMore
import Derived.Laws.Concat
import Derived.IntWalk
import Derived.RegionTactic
import Derived.BigRegion
set_option linter.unusedVariables false
