/- Rows of bytes and numbers of eight bytes, in plain Lean. No condition. -/
import Derived.Test.YthigjlahanejjaaMOx0
import Derived.Test.YthigjlahanejjaaMOx5
import Derived.Test.YthigjlahanejjaaPlainBytes
set_option linter.unusedVariables false
set_option linter.unusedSimpArgs false
namespace Go.Proofs.Ythigjlahanejjaa.Pure
open Go.RowKit Go.Proofs.Ythigjlahanejjaa.MO Go.Proofs.Ythigjlahanejjaa.Opening Go.Proofs.YthigjlahanejjaaW.PrintWords Go.Proofs.YthigjlahanejjaaW.PrintLast Go.Proofs.YthigjlahanejjaaW.PrintMore
theorem refnumber_l0 (m : Nat) (hm : m ≤ 8) : ∀ (d i : Nat) (u : Int), i + d = m → 0 ≤ u → u < 18446744073709551616 → ∀ ds : List Int, ds.length = i →
    Ev (fun k => forebearref07_Number.l0 k u (m : Int) (strOfNums ds) (i : Int)) (strOfNums (low u d ++ ds)) := by
  intro d
  induction d with
  | zero =>
    intro i u hi _ _ ds _
    refine Ev.step (f := fun _ => some (strOfNums ds)) (fun k => ?_) ?_
    · simp only [forebearref07_Number.l0]; rw [if_neg (by omega)]
    · exact Ev.now _
  | succ d ih =>
    intro i u hi h0 hu ds hds
    have hmd : Int.tmod u 256 % 256 = u % 256 := by rw [Int.tmod_eq_emod_of_nonneg h0]; omega
    have hq : IntKind.u64.wrap (Int.tdiv u 256) = u / 256 := by rw [Int.tdiv_eq_ediv_of_nonneg h0, u64_id (by omega) (by omega)]
    refine Ev.step (f := fun k => forebearref07_Number.l0 k (u / 256) (m : Int) (strOfNums (u % 256 :: ds)) ((i + 1 : Nat) : Int)) (fun k => ?_) ?_
    · simp only [forebearref07_Number.l0]
      rw [if_pos (by omega), hmd]
      simp only [Option.bind_some]
      rw [if_pos (by rw [strOfNums_size, strOfNums_size]; simp; omega), hq, wnat (show i < m by omega) (by omega), str_append]
      rfl
    · simp only [low]
      rw [List.append_assoc]
      exact ih (i + 1) (u / 256) (by omega) (by omega) (by omega) _ (by simp [hds])
theorem number8_ev (u : Int) (h0 : 0 ≤ u) (hu : u < 18446744073709551616) : Ev (fun k => forebearref07_Number.f k u 8) (strOfNums (be8 u)) := by
  have h := refnumber_l0 8 (by omega) 8 0 u (by omega) h0 hu [] rfl
  rw [List.append_nil, low8] at h
  exact h
theorem number1_ev (u : Int) (h0 : 0 ≤ u) (hu : u < 18446744073709551616) : Ev (fun k => forebearref07_Number.f k u 1) (strOfNums [u % 256]) := by
  have h := refnumber_l0 1 (by omega) 1 0 u (by omega) h0 hu [] rfl
  rw [List.append_nil] at h
  exact h
end Go.Proofs.Ythigjlahanejjaa.Pure
