/- What is found among entries, in plain Lean. No condition. -/
import Derived.Test.YthigjlahanejjaaMOx0
import Derived.Test.YthigjlahanejjaaMOx6
import Derived.Test.YthigjlahanejjaaPlainTree
import Derived.Lib.Bytes
set_option linter.unusedVariables false
set_option linter.unusedSimpArgs false
namespace Go.Proofs.Ythigjlahanejjaa.Pure
open Go.RowKit Go.Proofs.Ythigjlahanejjaa.MO Go.Proofs.Ythigjlahanejjaa.Opening Go.Proofs.YthigjlahanejjaaW.PrintWords Go.Proofs.YthigjlahanejjaaW.PrintLast Go.Proofs.YthigjlahanejjaaW.PrintMore
theorem rd107 {l : List S107} {i : Nat} (h : i < l.length) : rd_T107 l (i : Int) = l[i] := by
  simp [rd_T107, List.getD_eq_getElem?_getD, h]
def e107 (x : S67) : S107 := ⟨x.f0, x.f1⟩
theorem entries_l0 (l : List S67) (hl : l.length ≤ 5864062014634) : ∀ (d i : Nat) (acc : List S107), i + d = l.length → acc.length ≤ i → Ev (fun k => forebearlaw08_Entries.l0 k l acc (i : Int)) (acc ++ (l.drop i).map e107) := by
  intro d
  induction d with
  | zero =>
    intro i acc hi ha
    refine Ev.step (f := fun _ => some acc) (fun k => ?_) ?_
    · simp only [forebearlaw08_Entries.l0]
      rw [if_neg (by omega)]
    · rw [List.drop_eq_nil_of_le (by omega)]
      simpa using Ev.now acc
  | succ d ih =>
    intro i acc hi ha
    have hil : i < l.length := by omega
    refine Ev.step (f := fun k => forebearlaw08_Entries.l0 k l (acc ++ [e107 l[i]]) ((i + 1 : Nat) : Int)) (fun k => ?_) ?_
    · simp only [forebearlaw08_Entries.l0]
      rw [if_pos (by omega), if_pos (by omega), if_pos (by omega), rd67 hil, wnat hil (by omega)]; rfl
    · have := ih (i + 1) (acc ++ [e107 l[i]]) (by omega) (by simp; omega)
      rw [List.drop_eq_getElem_cons hil, List.map_cons]
      simpa using this
theorem entries_ev (l : List S67) (hl : l.length ≤ 5864062014634) : Ev (fun k => forebearlaw08_Entries.f k l) (l.map e107) := by
  have := entries_l0 l hl l.length 0 [] (by omega) (by simp)
  simpa [forebearlaw08_Entries.f] using this
end Go.Proofs.Ythigjlahanejjaa.Pure
