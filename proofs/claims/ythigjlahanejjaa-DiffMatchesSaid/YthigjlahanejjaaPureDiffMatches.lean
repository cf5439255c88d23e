/- The plain statement of the law DiffMatches, without program and memory. No condition. -/
import Derived.Test.YthigjlahanejjaaMDx11
import Derived.Test.YthigjlahanejjaaPlainAwake
set_option linter.unusedVariables false
set_option linter.unusedSimpArgs false
namespace Go.Proofs.Ythigjlahanejjaa.Pure
open Go.RowKit Go.Proofs.Ythigjlahanejjaa.MD Go.Proofs.YthigjlahanejjaaW.PrintWords Go.Proofs.YthigjlahanejjaaW.PrintLast
theorem rd46m (done ps : List H) (p : H) : rd_T46 ((done ++ p :: ps).map toS46) (done.length : Int) = toS46 p := by
  simp [rd_T46, List.getD_eq_getElem?_getD]
theorem rd47m (done ps : List H) (p : H) : rd_T47 ((done ++ p :: ps).map toS47) (done.length : Int) = toS47 p := by
  simp [rd_T47, List.getD_eq_getElem?_getD]
theorem same_go : ∀ (ps done : List H) (k : Nat), done.length + ps.length ≤ 10000 → (∀ h ∈ ps, h.gone.length ≤ 1000 ∧ h.new.length ≤ 1000) → ps.length + 1500 ≤ k → forebearlaw05_same.l0 k ((done ++ ps).map toS46) ((done ++ ps).map toS47) (done.length : Int) = some true := by
  intro ps
  induction ps with
  | nil =>
    intro done k hl hs hk
    obtain ⟨k, rfl⟩ : ∃ k', k = k' + 1 := ⟨k - 1, by omega⟩
    simp only [forebearlaw05_same.l0]
    rw [if_neg (by simp)]
  | cons p ps ih =>
    intro done k hl hs hk
    simp only [List.length_cons] at hl hk
    obtain ⟨k, rfl⟩ : ∃ k', k = k' + 1 := ⟨k - 1, by omega⟩
    have ih' := ih (done ++ [p]) k (by simp; omega) (fun h hh => hs h (List.mem_cons_of_mem _ hh)) (by omega)
    simp only [List.append_assoc, List.singleton_append, List.length_append, List.length_cons, List.length_nil, Nat.zero_add] at ih'
    obtain ⟨s1, s2⟩ := hs p (by simp)
    simp only [forebearlaw05_same.l0]
    rw [if_pos (by simp; omega), if_pos (by omega), if_pos (by simp; omega), rd46m, rd47m]
    have e1 : (toS46 p).f2 = p.gone := rfl
    have e2 : (toS46 p).f3 = p.new := rfl
    have e3 : (toS47 p).f2 = p.gone := rfl
    have e4 : (toS47 p).f3 = p.new := rfl
    rw [if_pos (show (toS46 p).f0 = (toS47 p).f0 from rfl), if_pos (show (toS46 p).f1 = (toS47 p).f1 from rfl), e1, e2, e3, e4, Same_is _ _ (by omega) k (by omega), Option.bind_some, if_pos (by simp), Same_is _ _ (by omega) k (by omega), Option.bind_some, if_pos (by simp), one64 done.length (by omega), ih']
theorem same_is (l : List H) (hl : l.length ≤ 10000) (hs : ∀ h ∈ l, h.gone.length ≤ 1000 ∧ h.new.length ≤ 1000) (k : Nat) (hk : 12000 ≤ k) : forebearlaw05_same.f k (l.map toS46) (l.map toS47) = some true := by
  unfold forebearlaw05_same.f
  rw [if_pos (by simp)]
  have := same_go l [] k (by simpa using hl) hs (by omega)
  simpa using this
theorem hs_small (l0 l1 : List ByteArray) (h0 : l0.length ≤ 256) (h1 : l1.length ≤ 256) : ∀ (ps : List (Nat × Nat)) (a b : Nat), (hs l0 l1 ps a b).length ≤ ps.length ∧ ∀ h ∈ hs l0 l1 ps a b, h.gone.length ≤ 1000 ∧ h.new.length ≤ 1000
  | [], a, b => ⟨by simp [hs], by simp [hs]⟩
  | p :: ps, a, b => by
    obtain ⟨i1, i2⟩ := hs_small l0 l1 h0 h1 ps (p.1 + 1) (p.2 + 1)
    rw [hs]
    by_cases c : a < p.1 ∨ b < p.2
    · rw [if_pos c]
      refine ⟨by simp; omega, fun h hh => ?_⟩
      rcases List.mem_append.1 hh with hh | hh
      · obtain rfl := List.mem_singleton.1 hh
        simp only [List.length_drop, List.length_take]
        omega
      · exact i2 h hh
    · rw [if_neg c, List.nil_append]
      exact ⟨by simp; omega, i2⟩
theorem rd39m (done ps : List (Nat × Nat)) (p : Nat × Nat) : rd_T39 ((done ++ p :: ps).map toS39) (done.length : Int) = toS39 p := rd39 done ps p
theorem pairs_go : ∀ (ps done : List (Nat × Nat)) (k : Nat), done.length + ps.length ≤ 10000 → ps.length + 1 ≤ k → forebearlaw05_DiffMatches.l0 k ((done ++ ps).map toS39) ((done ++ ps).map toS40) (done.length : Int) = some true := by
  intro ps
  induction ps with
  | nil =>
    intro done k hl hk
    obtain ⟨k, rfl⟩ : ∃ k', k = k' + 1 := ⟨k - 1, by omega⟩
    simp only [forebearlaw05_DiffMatches.l0]
    rw [if_neg (by simp)]
  | cons p ps ih =>
    intro done k hl hk
    simp only [List.length_cons] at hl hk
    obtain ⟨k, rfl⟩ : ∃ k', k = k' + 1 := ⟨k - 1, by omega⟩
    have ih' := ih (done ++ [p]) k (by simp; omega) (by omega)
    simp only [List.append_assoc, List.singleton_append, List.length_append, List.length_cons, List.length_nil, Nat.zero_add] at ih'
    simp only [forebearlaw05_DiffMatches.l0]
    rw [if_pos (by simp; omega), if_pos (by omega), if_pos (by simp; omega), rd39, rd40, if_pos (show (toS39 p).f0 = (toS40 p).f0 from rfl), if_pos (show (toS39 p).f1 = (toS40 p).f1 from rfl), one64 done.length (by omega), ih']
theorem DiffMatches : forebearlaw05_DiffMatches.Pure := by
  intro l0 l1 _ _
  obtain ⟨B, hB⟩ : ∃ B : Nat, B = 20000 := ⟨_, rfl⟩
  refine ⟨B, ?_⟩
  unfold forebearlaw05_DiffMatches.f
  rw [awake_f B (by omega), Option.bind_some, if_pos rfl]
  obtain ⟨B1, hB1⟩ : ∃ B1, B = B1 + 1 := ⟨B - 1, by omega⟩
  by_cases h : l0.length ≤ 256 ∧ l1.length ≤ 256
  · obtain ⟨h0, h1⟩ := h
    have hp := pairs_len l0 l1
    obtain ⟨s1, s2⟩ := hs_small l0 l1 h0 h1 (stops l0 l1) 0 0
    have s3 : (stops l0 l1).length ≤ 1000 := by simp [stops]; omega
    rw [diffMatch_is l0 l1 h0 h1 B (by omega), Option.bind_some, refMatch_is l0 l1 h0 h1 B (by omega), Option.bind_some, diffHunks_is l0 l1 h0 h1 B (by omega), Option.bind_some, refHunks_is l0 l1 h0 h1 B (by omega), Option.bind_some]
    simp only []
    rw [if_pos (by trivial), if_pos (by trivial), if_pos (by simp), same_is _ (by omega) s2 B (by omega), Option.bind_some, hB1]
    simp only [forebearlaw05_DiffMatches.j0]
    rw [if_neg (by simp)]
    have := pairs_go (pairs l0 l1) [] B1 (by simp; omega) (by omega)
    exact this
  · rw [diffMatch_long l0 l1 h B (by omega), Option.bind_some, refMatch_long l0 l1 h B (by omega), Option.bind_some, diffHunks_long l0 l1 h B (by omega), Option.bind_some, refHunks_long l0 l1 h B (by omega), Option.bind_some]
    simp only []
    have := same_is [] (by simp) (by simp) B (by omega)
    simp only [List.map_nil] at this
    rw [if_pos (by trivial), if_pos (by trivial), if_pos (by simp), this, Option.bind_some, hB1]
    simp only [forebearlaw05_DiffMatches.j0]
    rw [if_neg (by simp)]
    exact pairs_go [] [] B1 (by simp) (by simp; omega)
end Go.Proofs.Ythigjlahanejjaa.Pure
