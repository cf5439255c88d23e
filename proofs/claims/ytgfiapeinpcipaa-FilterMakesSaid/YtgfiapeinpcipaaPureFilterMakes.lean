/- The plain statement of the law FilterMakes, without program and memory. No condition. -/
import Derived.Test.YtgfiapeinpcipaaMFx7
import Derived.Test.YtgfiapeinpcipaaPlainFilter
set_option linter.unusedVariables false
set_option linter.unusedSimpArgs false
namespace Go.Proofs.Ytgfiapeinpcipaa.Pure
open Go.RowKit Go.Proofs.Ytgfiapeinpcipaa.MF Go.Proofs.YtgfiapeinpcipaaW.PrintWords Go.Proofs.YtgfiapeinpcipaaW.PrintLast
theorem FilterMakes : forebearlaw11_FilterMakes.Pure := by
  intro l0 g
  refine Ev.rounds ?_
  unfold forebearlaw11_FilterMakes.f
  refine Ev.bind awake_ev ?_
  refine Ev.congr (fun k => by rw [if_pos rfl]) ?_
  unfold forebearlaw11_few.f
  simp only [Option.bind_some]
  by_cases c : (l0.length : Int) ≤ 200
  · refine Ev.congr (fun k => by rw [if_pos (decide_eq_true c)]) ?_
    refine Ev.bind (make_ev l0 (by omega) g.2.2) ?_
    refine Ev.bind (refmake_ev l0 (by omega)) ?_
    refine Ev.congr (f := fun _ => some true) (fun k => ?_) (Ev.now _)
    simp
  · refine Ev.congr (f := fun _ => some true) (fun k => ?_) (Ev.now _)
    rw [if_neg (by simpa using c)]
end Go.Proofs.Ytgfiapeinpcipaa.Pure
