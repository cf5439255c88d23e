/- Plain facts of strings in order: lists that rise strictly, and have the same members, are the same. No condition. -/
import Derived.Test.YtlbkobiphfaafaaAidSort
set_option linter.unusedVariables false
set_option linter.unusedSimpArgs false
namespace Go.Proofs.Ytlbkobiphfaafaa.Pure
open Go.RowKit Go.Proofs.Ytlbkobiphfaafaa.Opening

def key (x : ByteArray) : List UInt8 := x.data.toList
theorem key_inj {x y : ByteArray} (h : key x = key y) : x = y := by
  cases x; cases y
  simp only [key] at h
  rw [Array.toList_inj] at h
  rw [h]
abbrev K := List UInt8
theorem lt_irr (a : K) : ¬ a < a := List.lt_irrefl a
theorem lt_tr {a b c : K} (h : a < b) (k : b < c) : a < c := List.lt_trans h k
theorem le_tr {a b c : K} (h : a ≤ b) (k : b ≤ c) : a ≤ c := List.le_trans h k
theorem le_tot (a b : K) : a ≤ b ∨ b ≤ a := List.le_total a b
theorem lt_of_le_ne {a b : K} (h : a ≤ b) (k : a ≠ b) : a < b := by
  rcases Classical.em (a < b) with h1 | h1
  · exact h1
  · exact absurd (List.le_antisymm h (List.not_lt.1 h1)) k
theorem lt_or_eq_or_gt (a b : K) : a < b ∨ a = b ∨ b < a := by
  rcases le_tot a b with h | h
  · by_cases e : a = b
    · exact .inr (.inl e)
    · exact .inl (lt_of_le_ne h e)
  · by_cases e : a = b
    · exact .inr (.inl e)
    · exact .inr (.inr (lt_of_le_ne h (fun x => e x.symm)))
def Rise (l : List K) : Prop := l.Pairwise (· < ·)
/-- Two lists that rise strictly and have the same members are the same. -/
theorem rise_eq : ∀ {l m : List K}, Rise l → Rise m → (∀ x, x ∈ l ↔ x ∈ m) → l = m
  | [], [], _, _, _ => rfl
  | [], b :: m, _, _, h => absurd ((h b).2 (List.mem_cons_self)) (by simp)
  | a :: l, [], _, _, h => absurd ((h a).1 (List.mem_cons_self)) (by simp)
  | a :: l, b :: m, hl, hm, h => by
    obtain ⟨ha, hl'⟩ := List.pairwise_cons.1 hl
    obtain ⟨hb, hm'⟩ := List.pairwise_cons.1 hm
    have hab : a = b := by
      rcases List.mem_cons.1 ((h a).1 (List.mem_cons_self)) with e | e
      · exact e
      · rcases List.mem_cons.1 ((h b).2 (List.mem_cons_self)) with f | f
        · exact f.symm
        · exact absurd (lt_tr (hb a e) (ha b f)) (lt_irr b)
    subst hab
    congr 1
    refine rise_eq hl' hm' (fun x => ?_)
    constructor
    · intro hx
      rcases List.mem_cons.1 ((h x).1 (List.mem_cons_of_mem _ hx)) with e | e
      · subst e; exact absurd (ha x hx) (lt_irr x)
      · exact e
    · intro hx
      rcases List.mem_cons.1 ((h x).2 (List.mem_cons_of_mem _ hx)) with e | e
      · subst e; exact absurd (hb x hx) (lt_irr x)
      · exact e
/-- What is left of a rising list where equal neighbours are one. -/
def dd : List K → List K
  | [] => []
  | [a] => [a]
  | a :: b :: l => if a = b then dd (b :: l) else a :: dd (b :: l)
theorem mem_dd : ∀ (l : List K) (x : K), x ∈ dd l ↔ x ∈ l
  | [], x => Iff.rfl
  | [a], x => Iff.rfl
  | a :: b :: l, x => by
    have ih := mem_dd (b :: l) x
    unfold dd
    split
    · rename_i e
      rw [ih, e]
      simp
    · rw [List.mem_cons, ih, List.mem_cons (a := x) (b := a)]
theorem dd_rise : ∀ {l : List K}, l.Pairwise (· ≤ ·) → Rise (dd l)
  | [], _ => List.Pairwise.nil
  | [a], _ => List.pairwise_singleton _ _
  | a :: b :: l, h => by
    obtain ⟨ha, hl⟩ := List.pairwise_cons.1 h
    have ih := dd_rise hl
    unfold dd
    split
    · exact ih
    · rename_i e
      refine List.pairwise_cons.2 ⟨fun x hx => ?_, ih⟩
      rw [mem_dd] at hx
      have hb := lt_of_le_ne (ha b (List.mem_cons_self)) e
      rcases List.mem_cons.1 hx with rfl | hx
      · exact hb
      · have hbx := (List.pairwise_cons.1 hl).1 x hx
        rcases lt_or_eq_or_gt b x with h1 | h1 | h1
        · exact lt_tr hb h1
        · exact h1 ▸ hb
        · exact absurd h1 (List.not_lt.2 hbx)
end Go.Proofs.Ytlbkobiphfaafaa.Pure
