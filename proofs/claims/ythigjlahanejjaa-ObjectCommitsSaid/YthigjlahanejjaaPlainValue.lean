/- The document's value of eight bytes, in plain Lean. No condition. -/
import Derived.Test.YthigjlahanejjaaMOx0
import Derived.Test.YthigjlahanejjaaMOx7
import Derived.Test.YthigjlahanejjaaPlainNumber
set_option linter.unusedVariables false
set_option linter.unusedSimpArgs false
namespace Go.Proofs.Ythigjlahanejjaa.Pure
open Go.RowKit Go.Proofs.Ythigjlahanejjaa.MO Go.Proofs.Ythigjlahanejjaa.Opening Go.Proofs.YthigjlahanejjaaW.PrintWords Go.Proofs.YthigjlahanejjaaW.PrintLast Go.Proofs.YthigjlahanejjaaW.PrintMore
theorem refvalue_l0 (l : List Int) (hb : Bytes l) (hl : l.length ≤ 8) : ∀ (d i : Nat) (v : Int), i + d = l.length → 0 ≤ v → v < 256 ^ i →
    Ev (fun k => forebearref07_Value.l0 k (strOfNums l) v (i : Int)) (valI (l.drop i) v) := by
  intro d
  have hsz := strOfNums_size l
  induction d with
  | zero =>
    intro i v hi _ _
    refine Ev.step (f := fun _ => some v) (fun k => ?_) ?_
    · simp only [forebearref07_Value.l0]; rw [if_neg (by omega)]
    · rw [List.drop_eq_nil_of_le (by omega)]; exact Ev.now _
  | succ d ih =>
    intro i v hi h0 h1
    have hlt : i < l.length := by omega
    have hc := hb _ (List.getElem_mem hlt)
    have hp := pow_le7 (n := i) (by omega)
    rw [List.drop_eq_getElem_cons hlt]
    refine Ev.step (f := fun k => forebearref07_Value.l0 k (strOfNums l) (v * 256 + l[i]) ((i + 1 : Nat) : Int)) (fun k => ?_) ?_
    · simp only [forebearref07_Value.l0]
      rw [if_pos (by omega), if_pos (by omega), bt_str l hb i hlt, wnat hlt (by omega), u64_id (n := v * 256) (by omega) (by omega), u64_id (n := l[i]) (by omega) (by omega), u64_id (by omega) (by omega)]
    · exact ih (i + 1) _ (by omega) (by omega) (by rw [Int.pow_succ]; omega)
theorem refvalue_ev (l : List Int) (hb : Bytes l) (h : l.length = 8) : Ev (fun k => forebearref07_Value.f k (strOfNums l)) (valI l 0) := by
  have := refvalue_l0 l hb (by omega) 8 0 0 (by omega) (by decide) (by decide)
  rw [List.drop_zero] at this
  exact this
end Go.Proofs.Ythigjlahanejjaa.Pure
