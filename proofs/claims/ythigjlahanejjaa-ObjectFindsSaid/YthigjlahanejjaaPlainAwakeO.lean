/- The answers that the document fixes for objects. No condition. -/
import Derived.Test.YthigjlahanejjaaMOx7
namespace Go.Proofs.Ythigjlahanejjaa.Pure
open Go.RowKit Go.Proofs.Ythigjlahanejjaa.MO Go.Proofs.YthigjlahanejjaaW.PrintWords Go.Proofs.YthigjlahanejjaaW.PrintLast
theorem awake8_ev : Ev (fun k => forebearlaw08_awake.f k) true := Ev.of (fun k => forebearlaw08_awake.mono k) (k := 40) (by decide +kernel)
end Go.Proofs.Ythigjlahanejjaa.Pure
