/- The longest row of lines that two lists share, in plain Lean, and both tables as tables of it. No condition. -/
import Derived.Test.YthigjlahanejjaaMDx2
import Derived.Test.YthigjlahanejjaaMDx6
set_option linter.unusedVariables false
set_option linter.unusedSimpArgs false
namespace Go.Proofs.Ythigjlahanejjaa.Pure
open Go.RowKit Go.Proofs.Ythigjlahanejjaa.MD Go.Proofs.YthigjlahanejjaaW.PrintWords
abbrev Ln := List UInt8
/-- The length of the longest row that both lists hold in order. -/
def L : List Ln → List Ln → Nat
  | [], _ => 0
  | _ :: _, [] => 0
  | x :: a, y :: b => if x = y then L a b + 1 else max (L a (y :: b)) (L (x :: a) b)
termination_by a b => a.length + b.length
theorem L_nil (b : List Ln) : L [] b = 0 := by rw [L]
theorem L_nil' (a : List Ln) : L a [] = 0 := by cases a <;> rw [L]
theorem L_eq (x : Ln) (a b : List Ln) : L (x :: a) (x :: b) = L a b + 1 := by rw [L, if_pos rfl]
theorem L_ne {x y : Ln} (a b : List Ln) (h : ¬ x = y) : L (x :: a) (y :: b) = max (L a (y :: b)) (L (x :: a) b) := by rw [L, if_neg h]
theorem L_made : ∀ (n : Nat) (a b : List Ln), a.length + b.length ≤ n → ∃ s : List Ln, s.Sublist a ∧ s.Sublist b ∧ s.length = L a b
  | n, [], b, _ => ⟨[], List.Sublist.slnil, List.nil_sublist _, by rw [L_nil]; rfl⟩
  | n, x :: a, [], _ => ⟨[], List.nil_sublist _, List.Sublist.slnil, by rw [L_nil']; rfl⟩
  | 0, x :: a, y :: b, h => by simp at h
  | n + 1, x :: a, y :: b, h => by
    simp only [List.length_cons] at h
    by_cases e : x = y
    · subst e
      obtain ⟨s, h1, h2, h3⟩ := L_made n a b (by omega)
      exact ⟨x :: s, h1.cons_cons x, h2.cons_cons x, by rw [L_eq, List.length_cons, h3]⟩
    · rw [L_ne a b e]
      obtain ⟨s, h1, h2, h3⟩ := L_made n a (y :: b) (by simp only [List.length_cons]; omega)
      obtain ⟨t, g1, g2, g3⟩ := L_made n (x :: a) b (by simp only [List.length_cons]; omega)
      by_cases m : L a (y :: b) ≤ L (x :: a) b
      · exact ⟨t, g1, g2.cons y, by omega⟩
      · exact ⟨s, h1.cons x, h2, by omega⟩
theorem L_most : ∀ (n : Nat) (a b s : List Ln), a.length + b.length ≤ n → s.Sublist a → s.Sublist b → s.length ≤ L a b
  | n, [], b, s, _, h, _ => by simp [List.sublist_nil.1 h]
  | n, x :: a, [], s, _, _, h => by simp [List.sublist_nil.1 h]
  | 0, x :: a, y :: b, s, h, _, _ => by simp at h
  | n + 1, x :: a, y :: b, s, h, h1, h2 => by
    simp only [List.length_cons] at h
    by_cases e : x = y
    · subst e
      rw [L_eq]
      have := L_most n a b s.tail (by omega) (by simpa using h1.tail) (by simpa using h2.tail)
      rw [List.length_tail] at this
      omega
    · rw [L_ne a b e]
      cases h1 with
      | cons _ h1' => exact Nat.le_trans (L_most n a (y :: b) s (by simp only [List.length_cons]; omega) h1' h2) (Nat.le_max_left ..)
      | cons_cons _ h1' =>
        cases h2 with
        | cons _ h2' => exact Nat.le_trans (L_most n (x :: a) b _ (by simp only [List.length_cons]; omega) (h1'.cons_cons x) h2') (Nat.le_max_right ..)
        | cons_cons _ _ => exact absurd rfl e
theorem L_made' (a b : List Ln) : ∃ s : List Ln, s.Sublist a ∧ s.Sublist b ∧ s.length = L a b := L_made _ a b (Nat.le_refl _)
theorem L_most' {a b s : List Ln} (h1 : s.Sublist a) (h2 : s.Sublist b) : s.length ≤ L a b := L_most _ a b s (Nat.le_refl _) h1 h2
theorem L_comm (a b : List Ln) : L a b = L b a := by
  obtain ⟨s, h1, h2, h3⟩ := L_made' a b
  obtain ⟨t, g1, g2, g3⟩ := L_made' b a
  have := L_most' h2 h1
  have := L_most' g2 g1
  omega
theorem L_rev (a b : List Ln) : L a.reverse b.reverse = L a b := by
  obtain ⟨s, h1, h2, h3⟩ := L_made' a b
  obtain ⟨t, g1, g2, g3⟩ := L_made' a.reverse b.reverse
  have x1 := L_most' h1.reverse h2.reverse
  have x2 := L_most' (a := a) (b := b) (s := t.reverse) (by simpa using g1.reverse) (by simpa using g2.reverse)
  simp only [List.length_reverse] at x1 x2
  omega
theorem L_up (x : Ln) (a b : List Ln) : L a b ≤ L (x :: a) b := by
  obtain ⟨s, h1, h2, h3⟩ := L_made' a b
  have := L_most' (h1.cons x) h2
  omega
theorem L_up' (y : Ln) (a b : List Ln) : L a b ≤ L a (y :: b) := by rw [L_comm a b, L_comm a]; exact L_up y b a
theorem L_one (x : Ln) (a b : List Ln) : L (x :: a) b ≤ L a b + 1 := by
  obtain ⟨s, h1, h2, h3⟩ := L_made' (x :: a) b
  have := L_most' (a := a) (b := b) (s := s.tail) (by simpa using h1.tail) ((List.tail_sublist s).trans h2)
  rw [List.length_tail] at this
  omega
theorem L_one' (y : Ln) (a b : List Ln) : L a (y :: b) ≤ L a b + 1 := by rw [L_comm a b, L_comm a]; exact L_one y b a
theorem L_le (a b : List Ln) : L a b ≤ b.length := by
  obtain ⟨s, h1, h2, h3⟩ := L_made' a b
  have := h2.length_le
  omega
/-- A row of the table. -/
def rowL (a : List Ln) : List Ln → List Int
  | [] => [0]
  | y :: b => (L a (y :: b) : Int) :: rowL a b
def tabL : List Ln → List Ln → List (List Int)
  | [], b => [rowL [] b]
  | x :: a, b => rowL (x :: a) b :: tabL a b
def K (l : List ByteArray) : List Ln := l.map (·.toList)
theorem rowL_head (a : List Ln) : ∀ b, (rowL a b).headD 0 = (L a b : Int)
  | [] => by simp [rowL, L_nil']
  | y :: b => rfl
theorem rowL_zero : ∀ b, rowL [] b = List.replicate (b.length + 1) 0
  | [] => rfl
  | y :: b => by rw [rowL, rowL_zero b, L_nil]; rfl
theorem tabL_head (a b : List Ln) : (tabL a b).headD [] = rowL a b := by cases a <;> rfl
theorem longRow_is (x : ByteArray) (a : List Ln) : ∀ b : List ByteArray, b.length < 1000000 → MD.longRow x b (rowL a (K b)) = rowL (x.toList :: a) (K b)
  | [], _ => rfl
  | y :: b, h => by
    simp only [List.length_cons] at h
    have ih := longRow_is x a b (by omega)
    have hK : K (y :: b) = y.toList :: K b := rfl
    have hle := L_le a (K b)
    have hKl : (K b).length = b.length := by simp [K]
    rw [MD.longRow, hK, rowL, rowL, List.tail_cons, ih, rowL_head, rowL_head, List.headD_cons]
    congr 1
    have hw : wrap64 ((L a (K b) : Int) + 1) = (L a (K b) : Int) + 1 := by unfold wrap64; omega
    have u1 := L_up x.toList a (K b)
    have u2 := L_up' y.toList a (K b)
    have o1 := L_one x.toList a (K b)
    have o2 := L_one' y.toList a (K b)
    unfold MD.longBest
    clear ih hK
    generalize x.toList = X at *
    generalize y.toList = Y at *
    by_cases e : X = Y
    · subst e
      rw [L_eq, beq_self_eq_true]
      simp only [if_true, hw]
      split <;> split <;> omega
    · rw [L_ne a (K b) e]
      have : (X == Y) = false := beq_eq_false_iff_ne.mpr e
      rw [this]
      simp only [Bool.false_eq_true, if_false]
      split <;> omega
theorem longTab_is : ∀ (a b : List ByteArray), b.length < 1000000 → MD.longTab a b = tabL (K a) (K b)
  | [], b, _ => by rw [MD.longTab, K, List.map_nil, tabL, rowL_zero]; simp [K]
  | x :: a, b, h => by
    rw [MD.longTab, longTab_is a b h, tabL_head, longRow_is x (K a) b h]; rfl
theorem lenRow_is (x : ByteArray) (a : List Ln) : ∀ b : List ByteArray, b.length < 10000 → MD.lenRow x b (rowL a (K b)) = rowL (x.toList :: a) (K b)
  | [], _ => rfl
  | y :: b, h => by
    simp only [List.length_cons] at h
    have ih := lenRow_is x a b (by omega)
    have hK : K (y :: b) = y.toList :: K b := rfl
    have hle := L_le a (K b)
    have hKl : (K b).length = b.length := by simp [K]
    rw [MD.lenRow, hK, rowL, rowL, List.tail_cons, ih, rowL_head, rowL_head, List.headD_cons]
    congr 1
    have hw : IntKind.i16.wrap ((L a (K b) : Int) + 1) = (L a (K b) : Int) + 1 := IntWalk.i16_in _ (by omega)
    rw [hw]
    clear ih hK
    generalize x.toList = X at *
    generalize y.toList = Y at *
    by_cases e : X = Y
    · subst e
      rw [if_pos rfl, L_eq]; rfl
    · rw [if_neg e, L_ne a (K b) e]
      unfold mx
      split <;> omega
theorem lenTab_is : ∀ (a b : List ByteArray), b.length < 10000 → MD.lenTab a b = tabL (K a) (K b)
  | [], b, _ => by rw [MD.lenTab, K, List.map_nil, tabL, rowL_zero]; simp [K]
  | x :: a, b, h => by
    rw [MD.lenTab, lenTab_is a b h, tabL_head, lenRow_is x (K a) b h]; rfl
end Go.Proofs.Ythigjlahanejjaa.Pure
