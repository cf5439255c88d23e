/- The longest row of pairs, counted from the front, in plain Lean. No condition. -/
import Derived.Test.YthigjlahanejjaaPlainApply
set_option linter.unusedVariables false
set_option linter.unusedSimpArgs false
namespace Go.Proofs.Ythigjlahanejjaa.Pure
open Go.RowKit Go.Proofs.Ythigjlahanejjaa.MD Go.Proofs.YthigjlahanejjaaW.PrintWords
theorem pm_count : ∀ (N : Nat) (a b : List Ln) (i j : Nat), a.length + b.length ≤ N → (pm a b i j).length = L a b
  | N, [], b, i, j, _ => by rw [pm_nil, L_nil]; rfl
  | N, x :: a, [], i, j, _ => by rw [pm_nil', L_nil']; rfl
  | 0, x :: a, y :: b, i, j, h => by simp at h
  | N + 1, x :: a, y :: b, i, j, h => by
    simp only [List.length_cons] at h
    by_cases e : x = y
    · subst e
      rw [pm_eq, L_eq, List.length_cons, pm_count N a b (i + 1) (j + 1) (by omega)]
    · rw [L_ne _ _ e]
      by_cases g : L (x :: a) b ≤ L a (y :: b)
      · rw [pm_up a b i j e g, pm_count N a (y :: b) (i + 1) j (by simp only [List.length_cons]; omega)]
        omega
      · rw [pm_over a b i j e g, pm_count N (x :: a) b i (j + 1) (by simp only [List.length_cons]; omega)]
        omega
theorem pm_front (A B : List Ln) : ∀ (d i : Nat), (∀ q, i ≤ q → q < i + d → q < A.length ∧ q < B.length ∧ A[q]? = B[q]?) → ∃ rest, pm (A.drop i) (B.drop i) i i = (List.range' i d).map (fun q => (q, q)) ++ rest
  | 0, i, _ => ⟨_, by simp only [List.range'_zero, List.map_nil, List.nil_append]; rfl⟩
  | d + 1, i, h => by
    obtain ⟨h1, h2, h3⟩ := h i (Nat.le_refl _) (by omega)
    obtain ⟨rest, e⟩ := pm_front A B d (i + 1) (fun q hq hq' => h q (by omega) (by omega))
    refine ⟨rest, ?_⟩
    have hx : A[i] = B[i] := by
      rw [List.getElem?_eq_getElem h1, List.getElem?_eq_getElem h2] at h3
      exact Option.some.inj h3
    rw [List.drop_eq_getElem_cons h1, List.drop_eq_getElem_cons h2, hx, pm_eq, e, List.range'_succ, List.map_cons, List.cons_append]
/-- How many pairs the first i and the first j lines have at most. -/
def F (A B : List Ln) (i j : Nat) : Nat := L (A.take i).reverse (B.take j).reverse
theorem F_zero (A B : List Ln) (i : Nat) : F A B i 0 = 0 := by rw [F, List.take_zero, List.reverse_nil, L_nil']
theorem F_first (A B : List Ln) (j : Nat) : F A B 0 j = 0 := by rw [F, List.take_zero, List.reverse_nil, L_nil]
theorem take_rev (A : List Ln) (i : Nat) (h : i < A.length) : (A.take (i + 1)).reverse = A[i] :: (A.take i).reverse := by
  rw [List.take_add_one, List.getElem?_eq_getElem h]; simp
theorem F_same (A B : List Ln) (i j : Nat) (hi : i < A.length) (hj : j < B.length) (e : A[i] = B[j]) : F A B (i + 1) (j + 1) = F A B i j + 1 := by
  rw [F, F, take_rev A i hi, take_rev B j hj, e, L_eq]
theorem F_other (A B : List Ln) (i j : Nat) (hi : i < A.length) (hj : j < B.length) (e : ¬ A[i] = B[j]) : F A B (i + 1) (j + 1) = max (F A B i (j + 1)) (F A B (i + 1) j) := by
  rw [F, F, F, take_rev A i hi, take_rev B j hj, L_ne _ _ e]
theorem F_one (A B : List Ln) (i j : Nat) (hi : i < A.length) (hj : j < B.length) : F A B (i + 1) j ≤ F A B i j + 1 ∧ F A B i (j + 1) ≤ F A B i j + 1 := by
  constructor
  · rw [F, F, take_rev A i hi]; exact L_one _ _ _
  · rw [F, F, take_rev B j hj]; exact L_one' _ _ _
theorem F_whole (A B : List Ln) : F A B A.length B.length = L A B := by
  rw [F, List.take_length, List.take_length, L_rev]
theorem F_le (A B : List Ln) (i j : Nat) : F A B i j ≤ B.length := by
  have := L_le (A.take i).reverse (B.take j).reverse
  rw [F]
  rw [List.length_reverse, List.length_take] at this
  omega
/-- The row when the line i is done up to the place j. -/
def rowF (A B : List Ln) (n i j : Nat) : List Int := (List.range (n + 1)).map fun q => (F A B (if q ≤ j then i + 1 else i) q : Int)
theorem rowF_len (A B : List Ln) (n i j : Nat) : (rowF A B n i j).length = n + 1 := by simp [rowF]
theorem rowF_at (A B : List Ln) (n i j q : Nat) (h : q ≤ n) : rd (rowF A B n i j) (q : Int) = (F A B (if q ≤ j then i + 1 else i) q : Int) := by
  have : q < n + 1 := by omega
  simp [rd, rowF, this]
theorem rowF_set (A B : List Ln) (n i j : Nat) : (rowF A B n i j).set (j + 1) (F A B (i + 1) (j + 1) : Int) = rowF A B n i (j + 1) := by
  refine List.ext_getElem (by simp [rowF]) fun q h1 h2 => ?_
  rw [List.getElem_set]
  by_cases e : j + 1 = q
  · subst e
    rw [if_pos rfl]
    simp [rowF]
  · rw [if_neg e]
    simp only [rowF, List.getElem_map, List.getElem_range]
    by_cases c : q ≤ j
    · rw [if_pos c, if_pos (by omega)]
    · rw [if_neg c, if_neg (by omega)]
theorem rowF_next (A B : List Ln) (n i : Nat) : rowF A B n (i + 1) 0 = rowF A B n i n := by
  refine List.ext_getElem (by simp [rowF]) fun q h1 h2 => ?_
  have hq : q ≤ n := by rw [rowF_len] at h1; omega
  simp only [rowF, List.getElem_map, List.getElem_range]
  rw [if_pos hq]
  by_cases c : q ≤ 0
  · have : q = 0 := by omega
    subst this
    rw [F_zero, F_zero]
  · rw [if_neg c]
theorem rowF_first (A B : List Ln) (n : Nat) : rowF A B n 0 0 = List.replicate (n + 1) 0 := by
  refine List.ext_getElem (by simp [rowF]) fun q h1 h2 => ?_
  simp only [rowF, List.getElem_map, List.getElem_range, List.getElem_replicate]
  by_cases c : q ≤ 0
  · have : q = 0 := by omega
    subst this
    rw [F_zero]; rfl
  · rw [if_neg c, F_first]; rfl
end Go.Proofs.Ythigjlahanejjaa.Pure
