/- What both answer of hunks, in plain Lean. No condition. -/
import Derived.Test.YthigjlahanejjaaPlainMatch
import Derived.Test.YthigjlahanejjaaMDx4
set_option linter.unusedVariables false
set_option linter.unusedSimpArgs false
namespace Go.Proofs.Ythigjlahanejjaa.Pure
open Go.RowKit Go.Proofs.Ythigjlahanejjaa.MD Go.Proofs.YthigjlahanejjaaW.PrintWords
structure H where
  a : Nat
  b : Nat
  gone : List ByteArray
  new : List ByteArray
/-- The hunks between stops. -/
def hs (l0 l1 : List ByteArray) : List (Nat × Nat) → Nat → Nat → List H
  | [], _, _ => []
  | p :: ps, a, b => (if a < p.1 ∨ b < p.2 then [⟨a, b, (l0.take p.1).drop a, (l1.take p.2).drop b⟩] else []) ++ hs l0 l1 ps (p.1 + 1) (p.2 + 1)
/-- The stops rise. -/
def Rises (m n : Nat) : List (Nat × Nat) → Nat → Nat → Prop
  | [], _, _ => True
  | p :: ps, a, b => a ≤ p.1 ∧ b ≤ p.2 ∧ p.1 ≤ m ∧ p.2 ≤ n ∧ Rises m n ps (p.1 + 1) (p.2 + 1)
theorem pm_rises (m n : Nat) : ∀ (N : Nat) (a b : List Ln) (i j i' j' : Nat), a.length + b.length ≤ N → i + a.length = m → j + b.length = n → i' ≤ i → j' ≤ j → Rises m n (pm a b i j ++ [(m, n)]) i' j'
  | N, [], b, i, j, i', j', _, hi, hj, hi', hj' => by
    rw [pm_nil]; simp only [List.length_nil] at hi
    exact ⟨by omega, by omega, by simp, by simp, trivial⟩
  | N, x :: a, [], i, j, i', j', _, hi, hj, hi', hj' => by
    rw [pm_nil']; simp only [List.length_cons, List.length_nil] at hi hj
    exact ⟨by omega, by omega, by simp, by simp, trivial⟩
  | 0, x :: a, y :: b, i, j, i', j', h, _, _, _, _ => by simp at h
  | N + 1, x :: a, y :: b, i, j, i', j', h, hi, hj, hi', hj' => by
    simp only [List.length_cons] at h hi hj
    by_cases e : x = y
    · subst e
      rw [pm_eq]
      exact ⟨hi', hj', by simp only; omega, by simp only; omega, pm_rises m n N a b (i + 1) (j + 1) (i + 1) (j + 1) (by omega) (by omega) (by omega) (Nat.le_refl _) (Nat.le_refl _)⟩
    · by_cases g : L (x :: a) b ≤ L a (y :: b)
      · rw [pm_up a b i j e g]
        exact pm_rises m n N a (y :: b) (i + 1) j i' j' (by simp only [List.length_cons]; omega) (by omega) (by simp only [List.length_cons]; omega) (by omega) hj'
      · rw [pm_over a b i j e g]
        exact pm_rises m n N (x :: a) b i (j + 1) i' j' (by simp only [List.length_cons]; omega) (by simp only [List.length_cons]; omega) (by omega) hi' (by omega)
theorem pm_len : ∀ (N : Nat) (a b : List Ln) (i j : Nat), a.length + b.length ≤ N → (pm a b i j).length ≤ a.length
  | N, [], b, i, j, _ => by rw [pm_nil]; simp
  | N, x :: a, [], i, j, _ => by rw [pm_nil']; simp
  | 0, x :: a, y :: b, i, j, h => by simp at h
  | N + 1, x :: a, y :: b, i, j, h => by
    simp only [List.length_cons] at h
    by_cases e : x = y
    · subst e
      rw [pm_eq]
      have := pm_len N a b (i + 1) (j + 1) (by omega)
      simp only [List.length_cons]; omega
    · by_cases g : L (x :: a) b ≤ L a (y :: b)
      · rw [pm_up a b i j e g]
        have := pm_len N a (y :: b) (i + 1) j (by simp only [List.length_cons]; omega)
        simp only [List.length_cons]; omega
      · rw [pm_over a b i j e g]
        have := pm_len N (x :: a) b i (j + 1) (by simp only [List.length_cons]; omega)
        exact this
def stops (l0 l1 : List ByteArray) : List (Nat × Nat) := pairs l0 l1 ++ [(l0.length, l1.length)]
theorem stops_rise (l0 l1 : List ByteArray) : Rises l0.length l1.length (stops l0 l1) 0 0 :=
  pm_rises _ _ _ (K l0) (K l1) 0 0 0 0 (Nat.le_refl _) (by rw [K_len]; omega) (by rw [K_len]; omega) (Nat.le_refl _) (Nat.le_refl _)
theorem pairs_len (l0 l1 : List ByteArray) : (pairs l0 l1).length ≤ l0.length := by
  have := pm_len _ (K l0) (K l1) 0 0 (Nat.le_refl _)
  rwa [K_len] at this
def toS46 (h : H) : S46 := ⟨h.a, h.b, h.gone, h.new⟩
def toS47 (h : H) : S47 := ⟨h.a, h.b, h.gone, h.new⟩
def toS39 (p : Nat × Nat) : S39 := ⟨(p.1 : Int), (p.2 : Int)⟩
def toS40 (p : Nat × Nat) : S40 := ⟨(p.1 : Int), (p.2 : Int)⟩
theorem clone_is (l : List ByteArray) (h : l.length < 1000000) : slices_Clone_string_string.f l = some l := by
  unfold slices_Clone_string_string.f
  rw [Option.bind_some, if_pos (by simp; omega)]; rfl
theorem rd39 (done ps : List (Nat × Nat)) (p : Nat × Nat) : rd_T39 ((done ++ p :: ps).map toS39) (done.length : Int) = toS39 p := by
  simp [rd_T39, List.getD_eq_getElem?_getD]
theorem rd40 (done ps : List (Nat × Nat)) (p : Nat × Nat) : rd_T40 ((done ++ p :: ps).map toS40) (done.length : Int) = toS40 p := by
  simp [rd_T40, List.getD_eq_getElem?_getD]
theorem diff_hgo (l0 l1 : List ByteArray) (h0 : l0.length ≤ 256) (h1 : l1.length ≤ 256) : ∀ (ps done : List (Nat × Nat)) (a b k : Nat) (acc : List S46), Rises l0.length l1.length ps a b → done.length + ps.length ≤ 10000 → acc.length ≤ done.length → ps.length + 1 ≤ k →
    diff_Hunks.l0 k l0 l1 acc ((done ++ ps).map toS39) (((done ++ ps).map toS39).length : Int) (done.length : Int) (a : Int) (b : Int) = some (acc ++ (hs l0 l1 ps a b).map toS46, 0) := by
  intro ps
  induction ps with
  | nil =>
    intro done a b k acc hr hl ha hk
    obtain ⟨k, rfl⟩ : ∃ k', k = k' + 1 := ⟨k - 1, by omega⟩
    simp only [diff_Hunks.l0]
    rw [if_neg (by simp)]
    simp [hs]
  | cons p ps ih =>
    intro done a b k acc hr hl ha hk
    simp only [List.length_cons] at hl hk
    obtain ⟨k, rfl⟩ : ∃ k', k = k' + 1 := ⟨k - 1, by omega⟩
    obtain ⟨r1, r2, r3, r4, r5⟩ := hr
    have ih' := fun acc hacc => ih (done ++ [p]) (p.1 + 1) (p.2 + 1) k acc r5 (by simp; omega) hacc (by omega)
    simp only [List.append_assoc, List.singleton_append, List.length_append, List.length_cons, List.length_nil, Nat.zero_add] at ih'
    simp only [diff_Hunks.l0]
    have hlen : ((done ++ p :: ps).map toS39).length = done.length + (ps.length + 1) := by simp
    rw [if_pos (by rw [hlen]; omega), if_pos (by omega), if_pos (by rw [hlen]; omega), rd39]
    have e1 : (toS39 p).f0 = (p.1 : Int) := rfl
    have e2 : (toS39 p).f1 = (p.2 : Int) := rfl
    rw [e1, e2, one64 done.length (by omega), one64 p.1 (by omega), one64 p.2 (by omega)]
    rw [hs]
    by_cases c : a < p.1 ∨ b < p.2
    · have hc : (!((p.1 : Int) == (a : Int)) || (!((p.2 : Int) == (b : Int)))) = true := by
        simp; omega
      rw [if_pos hc, if_pos (by omega), if_pos (by omega), if_pos (by omega), clone_is _ (by simp; omega), Option.bind_some, if_pos (by omega), if_pos (by omega), if_pos (by omega), clone_is _ (by simp; omega), Option.bind_some, if_pos (by omega), ih' _ (by simp; omega), if_pos c]
      simp [toS46]
    · have hc : ¬ (!((p.1 : Int) == (a : Int)) || (!((p.2 : Int) == (b : Int)))) = true := by
        simp; omega
      rw [if_neg hc, ih' _ (by omega), if_neg c]
      simp
theorem diffHunks_is (l0 l1 : List ByteArray) (h0 : l0.length ≤ 256) (h1 : l1.length ≤ 256) (k : Nat) (hk : 3000 ≤ k) :
    diff_Hunks.f k l0 l1 = some ((hs l0 l1 (stops l0 l1) 0 0).map toS46, 0) := by
  unfold diff_Hunks.f
  have hp := pairs_len l0 l1
  rw [diffMatch_is l0 l1 h0 h1 k hk, Option.bind_some]
  rw [if_pos rfl, if_pos (by simp; omega), Option.bind_some]
  have := diff_hgo l0 l1 h0 h1 (stops l0 l1) [] 0 0 k [] (stops_rise l0 l1) (by simp [stops]; omega) (by simp) (by simp [stops]; omega)
  have e : (pairs l0 l1).map (fun p => (⟨(p.1 : Int), (p.2 : Int)⟩ : S39)) ++ [⟨(l0.length : Int), (l1.length : Int)⟩] = (stops l0 l1).map toS39 := by rw [stops, List.map_append]; rfl
  rw [e]
  simpa using this
theorem diffHunks_long (l0 l1 : List ByteArray) (h : ¬ (l0.length ≤ 256 ∧ l1.length ≤ 256)) (k : Nat) (hk : 1 ≤ k) : diff_Hunks.f k l0 l1 = some ([], 4) := by
  unfold diff_Hunks.f
  rw [diffMatch_long l0 l1 h k hk, Option.bind_some, if_neg (by decide)]
end Go.Proofs.Ythigjlahanejjaa.Pure
