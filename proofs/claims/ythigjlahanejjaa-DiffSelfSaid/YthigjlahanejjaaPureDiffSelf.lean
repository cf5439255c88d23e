/- The plain statement of the law DiffSelf, without program and memory. No condition. -/
import Derived.Test.YthigjlahanejjaaMDx16
import Derived.Test.YthigjlahanejjaaPlainAwake
set_option linter.unusedVariables false
set_option linter.unusedSimpArgs false
namespace Go.Proofs.Ythigjlahanejjaa.Pure
open Go.RowKit Go.Proofs.Ythigjlahanejjaa.MD Go.Proofs.YthigjlahanejjaaW.PrintWords Go.Proofs.YthigjlahanejjaaW.PrintLast
theorem hs_self (l0 l1 : List ByteArray) (m : Nat) : ∀ (a : List Ln) (i : Nat), i + a.length = m → hs l0 l1 (pm a a i i ++ [(m, m)]) i i = []
  | [], i, h => by
    have : i = m := by simpa using h
    subst this
    rw [pm_nil]; simp [hs]
  | x :: a, i, h => by
    have ih := hs_self l0 l1 m a (i + 1) (by simp only [List.length_cons] at h; omega)
    rw [pm_eq, List.cons_append, hs, ih]
    simp
theorem self_none (l0 : List ByteArray) : hs l0 l0 (stops l0 l0) 0 0 = [] := hs_self l0 l0 l0.length (K l0) 0 (by rw [K_len]; omega)
theorem self_gone (l0 : List ByteArray) : hs l0 [] (stops l0 []) 0 0 = if 0 < l0.length then [⟨0, 0, l0, []⟩] else [] := by
  unfold stops pairs
  rw [show K [] = [] from rfl, pm_nil']
  simp [hs]
theorem self_new (l0 : List ByteArray) : hs [] l0 (stops [] l0) 0 0 = if 0 < l0.length then [⟨0, 0, [], l0⟩] else [] := by
  unfold stops pairs
  rw [show K [] = [] from rfl, pm_nil]
  simp [hs]
theorem DiffSelf : forebearlaw05_DiffSelf.Pure := by
  intro l0 hl0
  obtain ⟨B, hB⟩ : ∃ B : Nat, B = 20000 := ⟨_, rfl⟩
  have hb : l0.length < 8796093022208 := by omega
  clear hl0
  refine ⟨B, ?_⟩
  unfold forebearlaw05_DiffSelf.f
  rw [awake_f B (by omega), Option.bind_some, if_pos rfl, Option.bind_some, if_pos (by simpa using hb), List.nil_append]
  by_cases h : l0.length ≤ 256
  · rw [diffHunks_is l0 l0 h h B (by omega), Option.bind_some, diffHunks_is l0 [] h (by simp) B (by omega), Option.bind_some, diffHunks_is [] l0 (by simp) h B (by omega), Option.bind_some]
    obtain ⟨B1, rfl⟩ : ∃ B1, B = B1 + 1 := ⟨B - 1, by omega⟩
    rw [self_none, self_gone, self_new, if_neg (by omega)]
    simp only []
    rw [if_pos (by trivial), if_pos (by trivial), if_pos (by simp)]
    by_cases hn : 0 < l0.length
    · rw [if_pos hn, if_pos hn]
      simp only [List.map_cons, List.map_nil, List.length_cons, List.length_nil]
      have hm : mn (l0.length : Int) 1 = 1 := by unfold mn; split <;> omega
      rw [hm, if_pos (by decide)]
      simp only [forebearlaw05_DiffSelf.j0]
      rw [if_neg (by simp), if_neg (by omega), if_pos (by simp)]
      have e1 : (rd_T46 [toS46 ⟨0, 0, l0, []⟩] 0).f2 = l0 := rfl
      have e2 : (rd_T46 [toS46 ⟨0, 0, [], l0⟩] 0).f3 = l0 := rfl
      have e3 : (rd_T46 [toS46 ⟨0, 0, l0, []⟩] 0).f3 = [] := rfl
      have e4 : (rd_T46 [toS46 ⟨0, 0, [], l0⟩] 0).f2 = [] := rfl
      rw [e1, e2, e3, e4, Same_is l0 l0 (by omega) B1 (by omega), Option.bind_some, if_pos (by simp), if_pos (by simp), Option.bind_some, if_pos (by simp)]
      simp [wrap64]
    · rw [if_neg hn, if_neg hn]
      have hz : l0.length = 0 := by omega
      rw [hz]
      simp [mn, forebearlaw05_DiffSelf.j0, hz]
  · rw [diffHunks_long l0 l0 (by omega) B (by omega), Option.bind_some, diffHunks_long l0 [] (by omega) B (by omega), Option.bind_some, diffHunks_long [] l0 (by omega) B (by omega), Option.bind_some]
    simp only []
    rw [if_pos (by omega), if_pos (by trivial), if_pos (by trivial)]
    simp [wrap64]
end Go.Proofs.Ythigjlahanejjaa.Pure
