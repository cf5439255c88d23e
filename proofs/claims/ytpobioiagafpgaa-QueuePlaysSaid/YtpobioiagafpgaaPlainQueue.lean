/- What is pushed on a heap comes out in order, in plain Lean. No condition. -/
import Derived.Test.YtpobioiagafpgaaPlainHeap
set_option linter.unusedVariables false
set_option linter.unusedSimpArgs false
set_option linter.unusedSectionVars false
namespace Go.Proofs.Ytpobioiagafpgaa.Pure
section
variable {α : Type} {lt : α → α → Bool} (T : TO lt) (z : α)
theorem heap_nil : Heap z lt ([] : List α) := fun k h0 hk => by simp at hk
include T
theorem fold_heap : ∀ (xs l : List α), Heap z lt l → Heap z lt (xs.foldl (push z lt) l)
  | [], l, h => h
  | x :: xs, l, h => fold_heap xs _ (push_heap T z h x)
omit T in
theorem fold_perm : ∀ (xs l : List α), (xs.foldl (push z lt) l).Perm (l ++ xs)
  | [], l => by simp
  | x :: xs, l => by
    have := fold_perm xs (push z lt l x)
    refine this.trans (((push_perm z l x).append_right xs).trans ?_)
    simp
/-- What came out so far, and what still waits. -/
structure SortInv (lt : α → α → Bool) (z : α) (X out h : List α) : Prop where
  heap : Heap z lt h
  perm : (out ++ h).Perm X
  sorted : ∀ i, 0 < i → i < out.length → Le lt (out.getD (i - 1) z) (out.getD i z)
  le : ∀ x ∈ out, ∀ y ∈ h, Le lt x y
theorem sort_start (X : List α) : SortInv lt z X [] (X.foldl (push z lt) []) :=
  ⟨fold_heap T z X [] (heap_nil z), by simpa using fold_perm z X [], by simp, by simp⟩
theorem sort_step {X out h : List α} (s : SortInv lt z X out h) (hl : 0 < h.length) : SortInv lt z X (out ++ [h.getD 0 z]) (popL z lt h) := by
  have hp := pop_perm z h hl (lt := lt)
  have h0 : h.getD 0 z ∈ h := by
    rw [List.getD_eq_getElem?_getD, List.getElem?_eq_getElem hl]; exact List.getElem_mem hl
  refine ⟨pop_heap T z s.heap hl, ?_, ?_, ?_⟩
  · refine List.Perm.trans ?_ s.perm
    rw [List.append_assoc]
    exact hp.symm.append_left out
  · intro i i0 hi
    rw [List.length_append, List.length_singleton] at hi
    by_cases hlt : i < out.length
    · have := s.sorted i i0 hlt
      have e1 : (out ++ [h.getD 0 z]).getD (i - 1) z = out.getD (i - 1) z := by
        simp only [List.getD_eq_getElem?_getD]; rw [List.getElem?_append_left (by omega)]
      have e2 : (out ++ [h.getD 0 z]).getD i z = out.getD i z := by
        simp only [List.getD_eq_getElem?_getD]; rw [List.getElem?_append_left hlt]
      rw [e1, e2]; exact this
    · obtain rfl : i = out.length := by omega
      have e1 : (out ++ [h.getD 0 z]).getD (out.length - 1) z = out.getD (out.length - 1) z := by
        simp only [List.getD_eq_getElem?_getD]; rw [List.getElem?_append_left (by omega)]
      have e2 : (out ++ [h.getD 0 z]).getD out.length z = h.getD 0 z := by
        simp [List.getD_eq_getElem?_getD]
      rw [e1, e2]
      refine s.le _ ?_ _ h0
      rw [List.getD_eq_getElem?_getD, List.getElem?_eq_getElem (by omega)]; exact List.getElem_mem _
  · intro x hx y hy
    have hyh : y ∈ h := hp.symm.subset (List.mem_cons_of_mem _ hy)
    rcases List.mem_append.1 hx with hx | hx
    · exact s.le x hx y hyh
    · rw [List.mem_singleton] at hx
      rw [hx]
      obtain ⟨k, hk, rfl⟩ := List.mem_iff_getElem.1 hyh
      have := heap_first T z s.heap k hk
      rwa [List.getD_eq_getElem?_getD (l := h) (i := k), List.getElem?_eq_getElem hk] at this
/-- Two heaps of the same items have the same first one. -/
theorem first_unique {h1 h2 : List α} (H1 : Heap z lt h1) (H2 : Heap z lt h2) (hp : h1.Perm h2) : h1.getD 0 z = h2.getD 0 z := by
  rcases Nat.eq_zero_or_pos h1.length with hz | hl
  · have e1 : h1 = [] := List.eq_nil_of_length_eq_zero hz
    subst e1
    have e2 : h2 = [] := hp.symm.eq_nil
    rw [e2]
  · have hl2 : 0 < h2.length := by rw [← hp.length_eq]; exact hl
    have m1 : h1.getD 0 z ∈ h2 := hp.subset (by rw [List.getD_eq_getElem?_getD, List.getElem?_eq_getElem hl]; exact List.getElem_mem hl)
    have m2 : h2.getD 0 z ∈ h1 := hp.symm.subset (by rw [List.getD_eq_getElem?_getD, List.getElem?_eq_getElem hl2]; exact List.getElem_mem hl2)
    obtain ⟨k, hk, e⟩ := List.mem_iff_getElem.1 m1
    obtain ⟨j, hj, e'⟩ := List.mem_iff_getElem.1 m2
    have a := heap_first T z H2 k hk
    have b := heap_first T z H1 j hj
    rw [List.getD_eq_getElem?_getD (l := h2) (i := k), List.getElem?_eq_getElem hk] at a
    rw [List.getD_eq_getElem?_getD (l := h1) (i := j), List.getElem?_eq_getElem hj] at b
    have a' : Le lt (h2.getD 0 z) (h1.getD 0 z) := by rw [← e]; exact a
    have b' : Le lt (h1.getD 0 z) (h2.getD 0 z) := by rw [← e']; exact b
    exact T.tot _ _ a' b'
theorem pop_perm2 {h1 h2 : List α} (H1 : Heap z lt h1) (H2 : Heap z lt h2) (hp : h1.Perm h2) : (popL z lt h1).Perm (popL z lt h2) := by
  rcases Nat.eq_zero_or_pos h1.length with hz | hl
  · have e1 : h1 = [] := List.eq_nil_of_length_eq_zero hz
    subst e1
    have e2 : h2 = [] := hp.symm.eq_nil
    rw [e2]
  · have hl2 : 0 < h2.length := by rw [← hp.length_eq]; exact hl
    have a := pop_perm z h1 hl (lt := lt)
    have b := pop_perm z h2 hl2 (lt := lt)
    rw [first_unique T z H1 H2 hp] at a
    exact (a.symm.trans (hp.trans b)).cons_inv
theorem pop_heap2 {h : List α} (H : Heap z lt h) : Heap z lt (popL z lt h) := by
  rcases Nat.eq_zero_or_pos h.length with hz | hl
  · have e1 : h = [] := List.eq_nil_of_length_eq_zero hz
    subst e1
    exact heap_nil z
  · exact pop_heap T z H hl
end
end Go.Proofs.Ytpobioiagafpgaa.Pure
