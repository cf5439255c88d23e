/- The plain statement of the law PathSorts, without program and memory. No condition. -/
import Derived.Test.YtlbkobiphfaafaaMPx4
import Derived.Test.YtlbkobiphfaafaaPlainLimit
set_option linter.unusedVariables false
set_option linter.unusedSimpArgs false
namespace Go.Proofs.Ytlbkobiphfaafaa.Pure
open Go.RowKit Go.Proofs.Ytlbkobiphfaafaa.MP Go.Proofs.YtlbkobiphfaafaaW.PrintWords Go.Proofs.YtlbkobiphfaafaaW.PrintLast

theorem PathSorts : forebearlaw03_PathSorts.Pure := by
  intro l hl
  refine ⟨2000, ?_⟩
  unfold forebearlaw03_PathSorts.f
  rw [awake_f 2000 (by omega)]
  simp only [Option.bind_some, if_true]
  by_cases h : (l.length : Int) > 300
  · rw [if_pos h]
  · rw [if_neg h, if_pos (by simp; omega)]
    obtain ⟨r, h1, h2⟩ := refSort_f (l := l) (by omega) 2000 (by omega)
    have hs := sd_len l
    rw [List.nil_append, sort_f l (by omega), h1]
    simp only [Option.bind_some]
    rw [same_f (by omega) 2000 (by omega), h2]
    simp only [Option.bind_some, decide_true, if_true]
    rw [same_f (by omega) 2000 (by omega)]
    simp
end Go.Proofs.Ytlbkobiphfaafaa.Pure
