/- The plain statement of the law FilterAsks, without program and memory. No condition. -/
import Derived.Test.YtgfiapeinpcipaaMFx10
import Derived.Test.YtgfiapeinpcipaaPlainFilter
set_option linter.unusedVariables false
set_option linter.unusedSimpArgs false
namespace Go.Proofs.Ytgfiapeinpcipaa.Pure
open Go.RowKit Go.Proofs.Ytgfiapeinpcipaa.MF Go.Proofs.YtgfiapeinpcipaaW.PrintWords Go.Proofs.YtgfiapeinpcipaaW.PrintLast
theorem asks_l0 (ps : List Int) (hp : ps.length ≤ 100) : ∀ (d i : Nat), i + d = ps.length → Ev (fun k => forebearlaw11_FilterAsks.l0 k ps ps (i : Int)) true := by
  intro d
  induction d with
  | zero =>
    intro i hi
    refine Ev.step (f := fun _ => some true) (fun k => ?_) (Ev.now _)
    simp only [forebearlaw11_FilterAsks.l0]
    rw [if_neg (by omega)]
  | succ d ih =>
    intro i hi
    refine Ev.step (f := fun k => forebearlaw11_FilterAsks.l0 k ps ps ((i + 1 : Nat) : Int)) (fun k => ?_) (ih (i + 1) (by omega))
    simp only [forebearlaw11_FilterAsks.l0]
    rw [if_pos (by omega), if_pos (by omega), if_pos (by omega), if_pos (by trivial), wnat (show i < ps.length by omega) (by omega)]
theorem FilterAsks : forebearlaw11_FilterAsks.Pure := by
  intro l0 a1 a2 g g1 g2
  refine Ev.rounds ?_
  have hb := u8_range g.2.2
  have hm : a2 < 9223372036854775808 := by
    have h2 := g2
    simp only [Lit.wf, IntKind.min, IntKind.max, IntKind.signed, IntKind.bits] at h2
    simp at h2
    omega
  have hp := posL_le (idP (bytesOf a1)) a2
  unfold forebearlaw11_FilterAsks.f
  refine Ev.bind awake_ev ?_
  refine Ev.congr (fun k => by rw [if_pos rfl]) ?_
  refine Ev.bind (positions_ev a1 g1 a2 hm) ?_
  refine Ev.bind (refpositions_ev a1 g1 a2 hm) ?_
  refine Ev.congr (fun k => by rw [if_pos rfl, bits_f l0 (by omega), Option.bind_some, refbits_f l0 hb (by omega), Option.bind_some, if_pos rfl]) ?_
  refine Ev.bind (maybe_ev l0 hb (by omega) a1 g1) ?_
  refine Ev.bind (refmaybe_ev l0 hb (by omega) a1 g1) ?_
  refine Ev.step (f := fun k => forebearlaw11_FilterAsks.l0 k (posL (idP (bytesOf a1)) a2) (posL (idP (bytesOf a1)) a2) 0) (fun k => ?_) (asks_l0 _ (by omega) _ 0 (Nat.zero_add _))
  simp only [forebearlaw11_FilterAsks.j0]
  rw [if_neg (by simp)]
end Go.Proofs.Ytgfiapeinpcipaa.Pure
