/- The plain statement of the law SumIDs, without program and memory: every ID and every check sum is the document's. No condition. -/
import Derived.Test.YtgmlhcjcaebfgaaMAx2
import Derived.Test.YtgmlhcjcaebfgaaPlainSum
namespace Go.Proofs.Ytgmlhcjcaebfgaa.Pure
open Go.RowKit Go.Proofs.Ytgmlhcjcaebfgaa.MA Go.Proofs.YtgmlhcjcaebfgaaW.PrintWords Go.Proofs.YtgmlhcjcaebfgaaW.PrintLast

theorem SumIDs : forebearlaw01_SumIDs.Pure := by
  intro a l _ hl
  have hb := u8_range hl.2.2
  refine Ev.rounds ?_
  refine Ev.bind awake_ev ?_
  refine Ev.congr (fun k => if_pos rfl) ?_
  refine Ev.bind (id_ev a [l] (by simp) (fun p hp => by rw [List.mem_singleton.1 hp]; exact hl.2.1)) ?_
  refine Ev.bind (refid_ev a l hl.2.1) ?_
  refine Ev.congr (fun k => if_pos rfl) ?_
  rw [check_eq [l] (fun p hp => by rw [List.mem_singleton.1 hp]; exact hb)]
  refine Ev.bind (Ev.now (checkOf [l].flatten)) ?_
  refine Ev.bind (refcheck_ev l hl.2.1 hb) ?_
  have h : (checkOf [l].flatten == checkOf l) = true := by simp
  rw [h]
  exact Ev.now true

end Go.Proofs.Ytgmlhcjcaebfgaa.Pure
