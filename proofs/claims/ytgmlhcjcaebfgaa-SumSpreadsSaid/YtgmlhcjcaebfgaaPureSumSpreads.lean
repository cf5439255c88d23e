/- The plain statement of the law SumSpreads, without program and memory: the numbers spread from an ID are the document's. No condition. -/
import Derived.Test.YtgmlhcjcaebfgaaMAx3
import Derived.Test.YtgmlhcjcaebfgaaPlainSum
namespace Go.Proofs.Ytgmlhcjcaebfgaa.Pure
open Go.RowKit Go.Proofs.Ytgmlhcjcaebfgaa.MA Go.Proofs.YtgmlhcjcaebfgaaW.PrintWords Go.Proofs.YtgmlhcjcaebfgaaW.PrintLast

theorem SumSpreads : forebearlaw01_SumSpreads.Pure := by
  intro a0 a1 _ _
  refine Ev.rounds ?_
  refine Ev.bind awake_ev ?_
  have e : forebearref01_Spread.f a0 a1 = sum_Spread.f a0 a1 := by
    unfold forebearref01_Spread.f sum_Spread.f
    rw [tdiv_u64 _ 1073741824 (by decide), tdiv_u64 _ 134217728 (by decide), tdiv_u64 _ 2147483648 (by decide)]
  refine Ev.congr (f := fun _ => some true) (fun k => ?_) (Ev.now true)
  rw [if_pos rfl, e]
  unfold sum_Spread.f
  simp only [Option.bind_some, beq_self_eq_true]

end Go.Proofs.Ytgmlhcjcaebfgaa.Pure
