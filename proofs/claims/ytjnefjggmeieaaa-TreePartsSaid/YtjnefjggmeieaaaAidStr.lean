/- What the contracts of the library's string functions want, brought in. No condition. -/
import Derived.Test.YtjnefjggmeieaaaWWords
import Derived.Lib.Strings
import Derived.Lib.Slices
import Derived.Lib.Walk
import Derived.Lib.Bytealg
