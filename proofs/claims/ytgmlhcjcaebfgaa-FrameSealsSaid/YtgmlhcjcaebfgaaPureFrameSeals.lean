/- The plain statement of the law FrameSeals, without program and memory. No condition. -/
import Derived.Test.YtgmlhcjcaebfgaaMAx6
import Derived.Test.YtgmlhcjcaebfgaaPlainFrameRow
namespace Go.Proofs.Ytgmlhcjcaebfgaa.Pure
open Go.RowKit Go.Proofs.Ytgmlhcjcaebfgaa.Opening Go.Proofs.Ytgmlhcjcaebfgaa.MA Go.Proofs.YtgmlhcjcaebfgaaW.PrintWords Go.Proofs.YtgmlhcjcaebfgaaW.PrintLast Go.Proofs.YtgmlhcjcaebfgaaW.PrintMore

theorem seals_l0 (l : List S47) (hl : l.length ≤ 300) (hb : ∀ x ∈ l, Bytes x.f1) : ∀ (d i : Nat) (acc : List Int) (e : Int), i + d = l.length → acc.length + 8201 * d < 140737488355328 →
    (e = 0 ∧ rowFrom [] l = rowFrom acc (l.drop i) ∨ e ≠ 0 ∧ rowFrom [] l = ([], e)) →
    Ev (fun k => forebearlaw07_FrameSeals.l0 k l (strOfNums acc) e (i : Int)) true := by
  intro d
  induction d with
  | zero =>
    intro i acc e hi _ hr
    refine Ev.step (fun k => by simp only [forebearlaw07_FrameSeals.l0]; rw [if_neg (by omega)]) ?_
    refine Ev.bind (row_ev l (by omega) hb) ?_
    rw [List.drop_eq_nil_of_le (by omega)] at hr
    rcases hr with ⟨rfl, hr⟩ | ⟨he, hr⟩
    · rw [hr]
      refine Ev.congr (fun k => if_pos rfl) ?_
      refine Ev.congr (fun k => if_pos rfl) ?_
      exact Ev.congr (fun k => congrArg some (beq_self_eq_true (strOfNums acc).toList)) (Ev.now true)
    · rw [hr]
      refine Ev.congr (fun k => if_pos rfl) ?_
      refine Ev.congr (fun k => if_neg he) ?_
      exact Ev.congr (fun k => if_pos rfl) (Ev.now true)
  | succ d ih =>
    intro i acc e hi ha hr
    have hlt : i < l.length := by omega
    have hx := hb _ (List.getElem_mem hlt)
    have hsl := sealOf_len l[i].f0 l[i].f1
    refine Ev.step (fun k => by simp only [forebearlaw07_FrameSeals.l0]; rw [if_pos (by omega), if_pos (by omega), rdT_nat hlt]) ?_
    refine Ev.bind (seal_ev _ _ hx) ?_
    refine Ev.bind (refseal_ev _ _ hx) ?_
    refine Ev.congr (fun k => if_pos rfl) ?_
    have s1 := strOfNums_size acc
    have s2 := strOfNums_size (sealOf l[i].f0 l[i].f1).1
    refine Ev.step (f := fun k => forebearlaw07_FrameSeals.l0 k l (strOfNums (acc ++ (sealOf l[i].f0 l[i].f1).1)) (if e = 0 then (sealOf l[i].f0 l[i].f1).2 else e) ((i + 1 : Nat) : Int)) (fun k => ?_) ?_
    · simp only [forebearlaw07_FrameSeals.j1]
      rw [if_neg (by simp)]
      by_cases h : e = 0
      · rw [if_pos h, if_pos (by omega), if_pos h, wrap_succ (by omega), strOfNums_append]
      · rw [if_neg h, if_pos (by omega), if_neg h, wrap_succ (by omega), strOfNums_append]
    · refine ih (i + 1) _ _ (by omega) (by rw [List.length_append]; omega) ?_
      rw [List.drop_eq_getElem_cons hlt] at hr
      simp only [rowFrom] at hr
      rcases hr with ⟨rfl, hr⟩ | ⟨he, hr⟩
      · rw [if_pos rfl]
        by_cases h : (sealOf l[i].f0 l[i].f1).2 = 0
        · rw [if_pos h] at hr
          exact .inl ⟨h, hr⟩
        · rw [if_neg h] at hr
          exact .inr ⟨h, hr⟩
      · rw [if_neg he]
        exact .inr ⟨he, hr⟩
theorem FrameSeals : forebearlaw07_FrameSeals.Pure := by
  intro l ⟨_, _, hg⟩
  have hb : ∀ x ∈ l, Bytes x.f1 := fun x hx => u8_range (hg x hx).2.2.2
  refine Ev.rounds ?_
  refine Ev.bind frame_awake_ev ?_
  refine Ev.congr (fun k => if_pos rfl) ?_
  by_cases h : (l.length : Int) > 300
  · exact Ev.congr (fun k => if_pos h) (Ev.now true)
  · refine Ev.congr (fun k => if_neg h) ?_
    exact seals_l0 l (by omega) hb l.length 0 [] 0 (by omega) (by simp; omega) (.inl ⟨rfl, by rw [List.drop_zero]⟩)
end Go.Proofs.Ytgmlhcjcaebfgaa.Pure
