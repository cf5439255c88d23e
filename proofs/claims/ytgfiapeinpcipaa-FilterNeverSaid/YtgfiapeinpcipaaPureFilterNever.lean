/- The plain statement of the law FilterNever, without program and memory. No condition. -/
import Derived.Test.YtgfiapeinpcipaaMFx8
import Derived.Test.YtgfiapeinpcipaaPlainFilter
set_option linter.unusedVariables false
set_option linter.unusedSimpArgs false
namespace Go.Proofs.Ytgfiapeinpcipaa.Pure
open Go.RowKit Go.Proofs.Ytgfiapeinpcipaa.MF Go.Proofs.YtgfiapeinpcipaaW.PrintWords Go.Proofs.YtgfiapeinpcipaaW.PrintLast
theorem never_l1 (l : List ByteArray) (hl : l.length ≤ 2000) (i : Int) (ps : List ByteArray) (hp : ps.length ≤ 6) (hm : ∀ x ∈ ps, x ∈ allB l) (r : Bool) : ∀ (d j : Nat), j + d = ps.length →
    Ev (fun k => forebearlaw11_FilterNever.l0 k l (mkF l) (wrap64 (i + 1))) r → Ev (fun k => forebearlaw11_FilterNever.l1 k l (mkF l) i ps (j : Int)) r := by
  intro d
  induction d with
  | zero =>
    intro j hj he
    refine Ev.step (f := fun k => forebearlaw11_FilterNever.l0 k l (mkF l) (wrap64 (i + 1))) (fun k => ?_) he
    simp only [forebearlaw11_FilterNever.l1]
    rw [if_neg (by omega)]
  | succ d ih =>
    intro j hj he
    have hjl : j < ps.length := by omega
    have hx := hm _ (List.getElem_mem hjl)
    have hsz := allB_size l _ hx
    have hlen := mkF_len l hl
    have z := maybe_ev (mkF l) (mkF_bytes l) (by omega) ps[j] (by omega)
    rw [may_part l _ hx] at z
    refine Ev.step (f := fun k => (filter_Maybe.f k (mkF l) ps[j]).bind fun t285 => if t285 = true then forebearlaw11_FilterNever.l1 k l (mkF l) i ps ((j + 1 : Nat) : Int) else some false) (fun k => ?_) (Ev.bind z (Ev.congr (fun k => by rw [if_pos rfl]) (ih (j + 1) (by omega) he)))
    simp only [forebearlaw11_FilterNever.l1]
    rw [if_pos (by omega), if_pos (by omega), rdOf_nat ps j hjl, wnat hjl (by omega)]
theorem never_l0 (l : List ByteArray) (hl : l.length ≤ 2000) (hs : ∀ p ∈ l, p.size ≤ 140737488351232) : ∀ (d i : Nat), i + d = l.length → Ev (fun k => forebearlaw11_FilterNever.l0 k l (mkF l) (i : Int)) true := by
  intro d
  induction d with
  | zero =>
    intro i hi
    refine Ev.step (f := fun _ => some true) (fun k => ?_) (Ev.now _)
    simp only [forebearlaw11_FilterNever.l0]
    rw [if_neg (by omega)]
  | succ d ih =>
    intro i hi
    have hil : i < l.length := by omega
    refine Ev.step (f := fun k => (path_Parts.f k l[i]).bind fun t281 => forebearlaw11_FilterNever.l1 k l (mkF l) (i : Int) t281 0) (fun k => ?_) (Ev.bind (parts_is l[i] (hs _ (List.getElem_mem hil))) ?_)
    · simp only [forebearlaw11_FilterNever.l0]
      rw [if_pos (by omega), if_pos (by omega), rdOf_nat l i hil]
    · refine never_l1 l hl _ (partsB l[i]) (partsB_len _) (fun x hx => (mem_sd _ _).2 (List.mem_flatMap.2 ⟨l[i], List.getElem_mem hil, hx⟩)) true _ 0 (Nat.zero_add _) ?_
      rw [wnat hil (by omega)]
      exact ih (i + 1) (by omega)
theorem FilterNever : forebearlaw11_FilterNever.Pure := by
  intro l0 g
  refine Ev.rounds ?_
  unfold forebearlaw11_FilterNever.f
  refine Ev.bind awake_ev ?_
  refine Ev.congr (fun k => by rw [if_pos rfl]) ?_
  unfold forebearlaw11_few.f
  simp only [Option.bind_some]
  by_cases c : (l0.length : Int) ≤ 200
  · rw [decide_eq_true c]
    refine Ev.step (f := fun k => (filter_Make.f k l0).bind fun t277 => forebearlaw11_FilterNever.l0 k l0 t277 0) (fun k => ?_) (Ev.bind (make_ev l0 (by omega) g.2.2) (never_l0 l0 (by omega) g.2.2 l0.length 0 (by omega)))
    simp only [forebearlaw11_FilterNever.j0]
    rw [if_neg (by simp)]
  · rw [decide_eq_false c]
    refine Ev.step (f := fun k => (forebearlaw11_awake.f k).bind fun t276 => some t276) (fun k => ?_) (Ev.bind awake_ev (Ev.now true))
    simp only [forebearlaw11_FilterNever.j0]
    rw [if_pos (by simp)]
end Go.Proofs.Ytgfiapeinpcipaa.Pure
