/- The plain statement of the law ObjectCommits, without program and memory. No condition. -/
import Derived.Test.YthigjlahanejjaaMOx0
import Derived.Test.YthigjlahanejjaaMOx10
import Derived.Test.YthigjlahanejjaaPlainRefCommit
namespace Go.Proofs.Ythigjlahanejjaa.Pure
open Go.RowKit Go.Proofs.Ythigjlahanejjaa.MO Go.Proofs.YthigjlahanejjaaW.PrintWords Go.Proofs.YthigjlahanejjaaW.PrintLast
theorem ObjectCommits : forebearlaw08_ObjectCommits.Pure := by
  intro c b hc hb
  apply Ev.rounds
  have hbb := bytes_of hb.2.2
  have hps : c.f1.length ≤ 17592186043904 := by have := hc.2.1.1; omega
  have hbl : b.length ≤ 140737488351232 := by have := hb.1; omega
  have hpr := readC_parents b
  refine Ev.congr (fun k => by unfold forebearlaw08_ObjectCommits.f; rfl) (Ev.bind awake8_ev ?_)
  refine Ev.congr (fun k => if_pos rfl) ?_
  simp only [Option.bind_some, List.nil_append]
  refine Ev.congr (fun k => if_pos (by simp; omega)) ?_
  refine Ev.bind (commit_ev c.f0 c.f1 c.f2 c.f3) (Ev.bind (lawcommit_ev c.f0 c.f1 c.f2 c.f3 hps) (Ev.bind (write_ev c.f0 c.f1 c.f2 c.f3 (u64_range hc.1) fun p hp => u64_range (hc.2.1.2.2 p hp)) ?_))
  refine Ev.congr (fun k => if_pos (by simp; omega)) ?_
  refine Ev.bind (readcommit_ev b hbb) (Ev.bind (refreadcommit_ev b hbb (by omega)) ?_)
  refine Ev.congr (fun k => by rw [if_pos rfl, if_pos rfl]) (Ev.bind (lawcommit_ev (readC b).1 (readC b).2.1 (readC b).2.2.1 (readC b).2.2.2.1 (by omega)) ?_)
  refine Ev.bind (samecommit_ev (readC b).1 (readC b).2.1 (readC b).2.2.1 (readC b).2.2.2.1 (by omega)) ?_
  refine Ev.congr (fun k => by rw [if_pos rfl, if_pos rfl]) (Ev.bind (lawcommit_ev c.f0 c.f1 c.f2 c.f3 hps) (Ev.bind (lawcommit_ev c.f0 c.f1 c.f2 c.f3 hps) ?_))
  exact Ev.bind (samecommit_ev c.f0 c.f1 c.f2 c.f3 hps) (Ev.now _)
end Go.Proofs.Ythigjlahanejjaa.Pure
