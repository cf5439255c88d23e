/- The document's first item and its list without one, in plain Lean. No condition. -/
import Derived.Test.YtpobioiagafpgaaTItems
set_option linter.unusedVariables false
set_option linter.unusedSimpArgs false
namespace Go.Proofs.Ytpobioiagafpgaa.PQueuePlays
open Go.RowKit Go.Proofs.YtpobioiagafpgaaW.PrintWords Go.Proofs.YtpobioiagafpgaaW.PrintLast Go.Proofs.YtpobioiagafpgaaW.PrintMore
open Go.Proofs.Ytpobioiagafpgaa.Pure Go.Proofs.Ytpobioiagafpgaa.Opening
theorem ahead28_f (x y : S28) : forebearref02_Ahead.f x.f0 x.f1 y.f0 y.f1 = some (lt31 (c28 x) (c28 y)) := by
  unfold forebearref02_Ahead.f lt31 c28
  by_cases c1 : x.f0 = y.f0
  · rw [if_pos c1]; simp [c1]
  · rw [if_neg c1]
    simp [c1]
theorem wrap_nat {k n : Nat} (h : k < n) (hn : n ≤ 1000000) : wrap64 ((k : Int) + 1) = ((k + 1 : Nat) : Int) := by unfold wrap64; omega
/-- The best of the first k. -/
def IsBest (l : List S28) (k : Nat) (r : Int) : Prop := (k = 0 ∧ r = -1) ∨ (∃ j : Nat, r = j ∧ j < k ∧ ∀ i, i < k → Le lt31 (c28 (l.getD j z28)) (c28 (l.getD i z28)))
theorem first_l0 (l : List S28) (hl : l.length ≤ 1000000) : ∀ (d k : Nat) (r : Int) (f : Nat), k + d = l.length → d < f → IsBest l k r → ∃ r', forebearref02_First.l0 f l r (k : Int) = some r' ∧ IsBest l l.length r'
  | 0, k, r, f, hk, hf, hb => by
    obtain ⟨f, rfl⟩ : ∃ m, f = m + 1 := ⟨f - 1, by omega⟩
    obtain rfl : k = l.length := by omega
    refine ⟨r, ?_, hb⟩
    simp only [forebearref02_First.l0]
    rw [if_neg (by omega)]
  | d + 1, k, r, f, hk, hf, hb => by
    obtain ⟨f, rfl⟩ : ∃ m, f = m + 1 := ⟨f - 1, by omega⟩
    simp only [forebearref02_First.l0]
    rw [if_pos (by omega)]
    have hw := wrap_nat (k := k) (n := l.length) (by omega) hl
    rcases hb with ⟨h0, rfl⟩ | ⟨j, rfl, hj, hmin⟩
    · subst h0
      rw [if_pos (by omega), hw]
      refine first_l0 l hl d (0 + 1) _ f (by omega) (by omega) (.inr ⟨0, rfl, by omega, ?_⟩)
      intro i hi
      obtain rfl : i = 0 := by omega
      exact T31.irr _
    · rw [if_neg (by omega), if_pos (by omega), if_pos (by omega), if_pos (by omega), ahead28_f, hw]
      have e1 : rd_T28 l (k : Int) = l.getD k z28 := by simp [rd_T28]
      have e2 : rd_T28 l (j : Int) = l.getD j z28 := by simp [rd_T28]
      rw [e1, e2, Option.bind_some]
      by_cases h : lt31 (c28 (l.getD k z28)) (c28 (l.getD j z28)) = true
      · rw [if_pos h]
        refine first_l0 l hl d (k + 1) _ f (by omega) (by omega) (.inr ⟨k, rfl, by omega, ?_⟩)
        intro i hi
        by_cases hik : i < k
        · exact le_trans' T31 (le_of_lt' T31 h) (hmin i hik)
        · obtain rfl : i = k := by omega
          exact T31.irr _
      · rw [if_neg h]
        refine first_l0 l hl d (k + 1) _ f (by omega) (by omega) (.inr ⟨j, rfl, by omega, ?_⟩)
        intro i hi
        by_cases hik : i < k
        · exact hmin i hik
        · obtain rfl : i = k := by omega
          simpa [Le] using h
theorem first_f (l : List S28) (hl : l.length ≤ 1000000) : ∃ k r, forebearref02_First.f k l = some r ∧ IsBest l l.length r := by
  obtain ⟨r, h1, h2⟩ := first_l0 l hl l.length 0 (-1) (l.length + 1) (by omega) (by omega) (.inl ⟨rfl, rfl⟩)
  exact ⟨_, r, h1, h2⟩
theorem small_lt {a b : Nat} (h : a ≤ b) (hb : b ≤ 1000000) : a < 8796093022208 := Nat.lt_of_le_of_lt (Nat.le_trans h hb) (by decide)
theorem without_f (l : List S28) (hl : l.length ≤ 1000000) (j : Nat) (hj : j < l.length) : forebearref02_Without.f l (j : Int) = some (l.take j ++ l.drop (j + 1)) := by
  have hw : wrap64 ((j : Int) + 1) = ((j + 1 : Nat) : Int) := wrap_nat (k := j) (n := l.length) hj hl
  have a1 : (0 : Int) ≤ (j : Int) := Int.natCast_nonneg _
  have a2 : (j : Int) ≤ (l.length : Int) := Int.ofNat_le.2 (Nat.le_of_lt hj)
  have a3 : (0 : Int) ≤ ((j + 1 : Nat) : Int) := Int.natCast_nonneg _
  have a4 : ((j + 1 : Nat) : Int) ≤ (l.length : Int) := Int.ofNat_le.2 hj
  have b1 : ([] : List S28).length + (l.take j).length < 8796093022208 := by
    rw [List.length_nil, Nat.zero_add, List.length_take]
    exact small_lt (Nat.min_le_right _ _) hl
  have b2 : (([] : List S28) ++ l.take j).length + (l.drop (j + 1)).length < 8796093022208 := by
    rw [List.nil_append, ← List.length_append]
    refine small_lt ?_ hl
    rw [List.length_append, List.length_take, List.length_drop, Nat.min_eq_left (Nat.le_of_lt hj)]
    clear b1 a1 a2 a3 a4 hw hl
    omega
  unfold forebearref02_Without.f
  simp only [Option.bind_some, hw, Int.toNat_natCast]
  rw [if_pos a1, if_pos a2, if_pos b1, if_pos a3, if_pos a4, if_pos b2, List.nil_append]
/-- The heap's first one is the document's. -/
theorem best_first {l : List S28} {h : List S31} (H : Heap z31 lt31 h) (hp : h.Perm (l.map c28)) {j : Nat} (hj : j < l.length) (hmin : ∀ i, i < l.length → Le lt31 (c28 (l.getD j z28)) (c28 (l.getD i z28))) : h.getD 0 z31 = c28 (l.getD j z28) := by
  have hlen : h.length = l.length := by rw [hp.length_eq]; simp
  have hl : 0 < h.length := by omega
  have m1 : h.getD 0 z31 ∈ l.map c28 := hp.subset (by rw [List.getD_eq_getElem?_getD, List.getElem?_eq_getElem hl]; exact List.getElem_mem hl)
  have m2 : c28 (l.getD j z28) ∈ h := hp.symm.subset (by rw [List.mem_map]; exact ⟨l.getD j z28, by rw [List.getD_eq_getElem?_getD, List.getElem?_eq_getElem hj]; exact List.getElem_mem hj, rfl⟩)
  obtain ⟨k, hk, e⟩ := List.mem_iff_getElem.1 m2
  have a := heap_first T31 z31 H k hk
  rw [List.getD_eq_getElem?_getD (l := h) (i := k), List.getElem?_eq_getElem hk] at a
  have a' : Le lt31 (h.getD 0 z31) (c28 (l.getD j z28)) := by rw [← e]; exact a
  obtain ⟨y, hy, ey⟩ := List.mem_map.1 m1
  obtain ⟨i, hi, e2⟩ := List.mem_iff_getElem.1 hy
  have b := hmin i hi
  rw [List.getD_eq_getElem?_getD (l := l) (i := i), List.getElem?_eq_getElem hi] at b
  have b' : Le lt31 (c28 (l.getD j z28)) (h.getD 0 z31) := by rw [← ey, ← e2]; exact b
  exact T31.tot _ _ b' a'
theorem without_perm {l : List S28} {h : List S31} (H : Heap z31 lt31 h) (hp : h.Perm (l.map c28)) {j : Nat} (hj : j < l.length) (hf : h.getD 0 z31 = c28 (l.getD j z28)) : (popL z31 lt31 h).Perm ((l.take j ++ l.drop (j + 1)).map c28) := by
  have hlen : h.length = l.length := by rw [hp.length_eq]; simp
  have a := pop_perm z31 h (by omega) (lt := lt31)
  rw [hf] at a
  have e : l = l.take j ++ l.getD j z28 :: l.drop (j + 1) := by
    rw [List.getD_eq_getElem?_getD, List.getElem?_eq_getElem hj]
    conv => lhs; rw [← List.take_append_drop j l, List.drop_eq_getElem_cons hj]
    rfl
  have b : (l.map c28).Perm (c28 (l.getD j z28) :: (l.take j ++ l.drop (j + 1)).map c28) := by
    conv => lhs; rw [e]
    rw [← List.map_cons]
    exact (List.perm_middle).map c28
  exact (a.symm.trans (hp.trans b)).cons_inv
end Go.Proofs.Ytpobioiagafpgaa.PQueuePlays
