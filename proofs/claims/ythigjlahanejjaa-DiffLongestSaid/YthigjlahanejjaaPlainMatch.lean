/- What both matches answer, in plain Lean. No condition. -/
import Derived.Test.YthigjlahanejjaaPlainLcs
import Derived.Test.YthigjlahanejjaaMDx3
set_option linter.unusedVariables false
set_option linter.unusedSimpArgs false
namespace Go.Proofs.Ythigjlahanejjaa.Pure
open Go.RowKit Go.Proofs.Ythigjlahanejjaa.MD Go.Proofs.YthigjlahanejjaaW.PrintWords
/-- The pairs of two lists, from the places i and j on. -/
def pm : List Ln → List Ln → Nat → Nat → List (Nat × Nat)
  | [], _, _, _ => []
  | _ :: _, [], _, _ => []
  | x :: a, y :: b, i, j => if x = y then (i, j) :: pm a b (i + 1) (j + 1) else if L (x :: a) b ≤ L a (y :: b) then pm a (y :: b) (i + 1) j else pm (x :: a) b i (j + 1)
termination_by a b => a.length + b.length
theorem pm_nil (b : List Ln) (i j : Nat) : pm [] b i j = [] := by rw [pm]
theorem pm_nil' (a : List Ln) (i j : Nat) : pm a [] i j = [] := by cases a <;> rw [pm]
theorem pm_eq (x : Ln) (a b : List Ln) (i j : Nat) : pm (x :: a) (x :: b) i j = (i, j) :: pm a b (i + 1) (j + 1) := by rw [pm, if_pos rfl]
theorem pm_up {x y : Ln} (a b : List Ln) (i j : Nat) (h : ¬ x = y) (g : L (x :: a) b ≤ L a (y :: b)) : pm (x :: a) (y :: b) i j = pm a (y :: b) (i + 1) j := by rw [pm, if_neg h, if_pos g]
theorem pm_over {x y : Ln} (a b : List Ln) (i j : Nat) (h : ¬ x = y) (g : ¬ L (x :: a) b ≤ L a (y :: b)) : pm (x :: a) (y :: b) i j = pm (x :: a) b i (j + 1) := by rw [pm, if_neg h, if_neg g]
theorem K_drop (l : List ByteArray) (i : Nat) : K (l.drop i) = (K l).drop i := by simp [K]
theorem K_len (l : List ByteArray) : (K l).length = l.length := by simp [K]
theorem rowL_len (a : List Ln) : ∀ b, (rowL a b).length = b.length + 1
  | [] => rfl
  | y :: b => by simp [rowL, rowL_len a b]
theorem rowL_at (a : List Ln) : ∀ (b : List Ln) (j : Nat), j ≤ b.length → (rowL a b).getD j 0 = (L a (b.drop j) : Int)
  | [], 0, _ => by simp [rowL, L_nil']
  | y :: b, 0, _ => rfl
  | y :: b, j + 1, h => by
    have := rowL_at a b j (by simpa using h)
    simpa [rowL] using this
theorem tabL_len : ∀ a b, (tabL a b).length = a.length + 1
  | [], b => rfl
  | x :: a, b => by simp [tabL, tabL_len a b]
theorem tabL_at : ∀ (a b : List Ln) (i : Nat), i ≤ a.length → (tabL a b).getD i [] = rowL (a.drop i) b
  | [], b, 0, _ => rfl
  | x :: a, b, 0, _ => rfl
  | x :: a, b, i + 1, h => by
    have := tabL_at a b i (by simpa using h)
    simpa [tabL] using this
theorem one64 (n : Nat) (h : n < 1000000) : wrap64 ((n : Int) + 1) = ((n + 1 : Nat) : Int) := by unfold wrap64; omega
theorem rdOf_at (l : List ByteArray) (i : Nat) (h : i < l.length) : rdOf ByteArray.empty l (i : Int) = l[i] := by simp [rdOf, h]
def pairs (l0 l1 : List ByteArray) : List (Nat × Nat) := pm (K l0) (K l1) 0 0
theorem add64 (n i : Nat) (h : n + i < 1000000) : wrap64 ((n : Int) + (i : Int)) = ((n + i : Nat) : Int) := by unfold wrap64; omega
theorem diff_go (c : Nat) (l0 l1 : List ByteArray) (hc : c ≤ 256) (h0 : l0.length ≤ 256) (h1 : l1.length ≤ 256) : ∀ (n i j k : Nat) (acc : List S39), l0.length - i + (l1.length - j) ≤ n → i ≤ l0.length → j ≤ l1.length → acc.length + (l0.length - i) ≤ 1000000 → 2 * n + 2 ≤ k →
    diff_Match.l2 k l0 l1 (c : Int) acc (tabL (K l0) (K l1)) (i : Int) (j : Int) = some (acc ++ (pm (K (l0.drop i)) (K (l1.drop j)) (c + i) (c + j)).map (fun p => ⟨(p.1 : Int), (p.2 : Int)⟩), 0) := by
  intro n
  induction n with
  | zero =>
    intro i j k acc hn hi hj hacc hk
    obtain ⟨k, rfl⟩ : ∃ k', k = k' + 2 := ⟨k - 2, by omega⟩
    have hd : l0.drop i = [] := List.drop_eq_nil_of_le (by omega)
    simp only [diff_Match.l2]
    rw [if_neg (by omega)]
    simp only [diff_Match.j5]
    rw [if_neg (by simp), hd, show K [] = [] from rfl, pm_nil]
    simp
  | succ n ih =>
    intro i j k acc hn hi hj hacc hk
    obtain ⟨k, rfl⟩ : ∃ k', k = k' + 2 := ⟨k - 2, by omega⟩
    simp only [diff_Match.l2]
    by_cases hil : i < l0.length
    · rw [if_pos (by omega)]
      simp only [diff_Match.j5]
      by_cases hjl : j < l1.length
      · have hd : decide ((j : Int) < (l1.length : Int)) = true := decide_eq_true (by omega)
        rw [hd, if_pos rfl, if_pos (by omega), if_pos (by omega), if_pos (by omega), if_pos (by omega), rdOf_at l0 i hil, rdOf_at l1 j hjl]
        have hK0 : K (l0.drop i) = l0[i].toList :: K (l0.drop (i + 1)) := by rw [List.drop_eq_getElem_cons hil]; rfl
        have hK1 : K (l1.drop j) = l1[j].toList :: K (l1.drop (j + 1)) := by rw [List.drop_eq_getElem_cons hjl]; rfl
        rw [one64 i (by omega), one64 j (by omega), add64 c i (by omega), add64 c j (by omega)]
        by_cases e : l0[i].toList = l1[j].toList
        · rw [if_pos e, if_pos (by omega), ih (i + 1) (j + 1) k _ (by omega) (by omega) (by omega) (by simp; omega) (by omega), hK0, hK1, e, pm_eq]
          simp [Nat.add_assoc]
        · have r1 : rd_L3 (tabL (K l0) (K l1)) ((i + 1 : Nat) : Int) = rowL (K (l0.drop (i + 1))) (K l1) := by
            rw [K_drop]; exact tabL_at _ _ _ (by rw [K_len]; omega)
          have r2 : rd_L3 (tabL (K l0) (K l1)) (i : Int) = rowL (K (l0.drop i)) (K l1) := by
            rw [K_drop]; exact tabL_at _ _ _ (by rw [K_len]; omega)
          have g1 : rd (rowL (K (l0.drop (i + 1))) (K l1)) (j : Int) = (L (K (l0.drop (i + 1))) (K (l1.drop j)) : Int) := by
            rw [K_drop l1]; exact rowL_at _ _ _ (by rw [K_len]; omega)
          have g2 : rd (rowL (K (l0.drop i)) (K l1)) ((j + 1 : Nat) : Int) = (L (K (l0.drop i)) (K (l1.drop (j + 1))) : Int) := by
            rw [K_drop l1]; exact rowL_at _ _ _ (by rw [K_len]; omega)
          rw [if_neg e, r1, r2, tabL_len, rowL_len, rowL_len, K_len, K_len, g1, g2, if_pos (by omega), if_pos (by omega), if_pos (by omega), if_pos (by omega), if_pos (by omega), if_pos (by omega)]
          rw [hK0, hK1]
          by_cases g : L (l0[i].toList :: K (l0.drop (i + 1))) (K (l1.drop (j + 1))) ≤ L (K (l0.drop (i + 1))) (l1[j].toList :: K (l1.drop (j + 1)))
          · rw [if_pos (by omega), ih (i + 1) j k acc (by omega) (by omega) (by omega) (by omega) (by omega), pm_up _ _ _ _ e g, hK1, Nat.add_assoc]
          · rw [if_neg (by omega), ih i (j + 1) k acc (by omega) (by omega) (by omega) (by omega) (by omega), pm_over _ _ _ _ e g, hK0, Nat.add_assoc]
      · have hd : decide ((j : Int) < (l1.length : Int)) = false := decide_eq_false (by omega)
        have hdr : l1.drop j = [] := List.drop_eq_nil_of_le (by omega)
        rw [hd, if_neg (by simp), hdr, show K [] = [] from rfl, pm_nil']
        simp
    · have hd : l0.drop i = [] := List.drop_eq_nil_of_le (by omega)
      rw [if_neg (by omega)]
      simp only [diff_Match.j5]
      rw [if_neg (by simp), hd, show K [] = [] from rfl, pm_nil]
      simp
theorem diff_l1 (l0 l1 : List ByteArray) (h0 : l0.length ≤ 256) (h1 : l1.length ≤ 256) (c : Nat) (hc0 : c ≤ l0.length) (hc1 : c ≤ l1.length) : ∀ (d m k : Nat) (acc : List S39), m + d = c → acc.length ≤ m → d + 1500 ≤ k →
    diff_Match.l1 k l0 l1 (c : Int) acc (c : Int) (m : Int) = some (acc ++ ((List.range' m d).map (fun q => (q, q)) ++ pm (K (l0.drop c)) (K (l1.drop c)) c c).map (fun p => ⟨(p.1 : Int), (p.2 : Int)⟩), 0) := by
  intro d
  induction d with
  | zero =>
    intro m k acc hm hacc hk
    obtain ⟨k, rfl⟩ : ∃ k', k = k' + 1 := ⟨k - 1, by omega⟩
    simp only [diff_Match.l1]
    rw [if_neg (by omega), if_pos (by omega), if_pos (by omega), if_pos (by omega), Int.toNat_natCast]
    unfold diff_lengths.f
    have e0 : (l0.drop c).length < 1000000 := by simp; omega
    have e1 : (l1.drop c).length < 1000000 := by simp; omega
    rw [if_pos e0, if_pos e1, lenTab_is _ _ (by simp; omega), Option.bind_some]
    have := diff_go c (l0.drop c) (l1.drop c) (by omega) (by simp; omega) (by simp; omega) 512 0 0 k acc (by simp; omega) (by omega) (by omega) (by simp; omega) (by omega)
    simpa using this
  | succ d ih =>
    intro m k acc hm hacc hk
    obtain ⟨k, rfl⟩ : ∃ k', k = k' + 1 := ⟨k - 1, by omega⟩
    simp only [diff_Match.l1]
    rw [if_pos (by omega), if_pos (by omega), one64 m (by omega), ih (m + 1) k _ (by omega) (by simp; omega) (by omega), List.range'_succ]
    simp
theorem diff_l0 (l0 l1 : List ByteArray) (h0 : l0.length ≤ 256) (h1 : l1.length ≤ 256) : ∀ (d i k : Nat), l0.length ≤ i + d → i ≤ l0.length → i ≤ l1.length → d + 2000 ≤ k →
    diff_Match.l0 k l0 l1 (i : Int) = some (((List.range' 0 i).map (fun q => (q, q)) ++ pm (K (l0.drop i)) (K (l1.drop i)) i i).map (fun p => ⟨(p.1 : Int), (p.2 : Int)⟩), 0) := by
  intro d
  have out : ∀ (i k : Nat), i ≤ l0.length → i ≤ l1.length → 1900 ≤ k → diff_Match.j2 k l0 l1 (i : Int) = some (((List.range' 0 i).map (fun q => (q, q)) ++ pm (K (l0.drop i)) (K (l1.drop i)) i i).map (fun p => ⟨(p.1 : Int), (p.2 : Int)⟩), 0) := by
    intro i k hi hj hk
    obtain ⟨k, rfl⟩ : ∃ k', k = k' + 1 := ⟨k - 1, by omega⟩
    simp only [diff_Match.j2]
    have := diff_l1 l0 l1 h0 h1 i hi hj i 0 k [] (by omega) (by simp) (by omega)
    simpa using this
  induction d with
  | zero =>
    intro i k hd hi hj hk
    obtain ⟨k, rfl⟩ : ∃ k', k = k' + 1 := ⟨k - 1, by omega⟩
    simp only [diff_Match.l0]
    rw [if_neg (by omega)]
    exact out i k hi hj (by omega)
  | succ d ih =>
    intro i k hd hi hj hk
    obtain ⟨k, rfl⟩ : ∃ k', k = k' + 1 := ⟨k - 1, by omega⟩
    simp only [diff_Match.l0]
    split
    · rename_i g0
      split
      · rename_i g1
        have hil : i < l0.length := by omega
        have hjl : i < l1.length := by omega
        rw [if_pos (by omega), rdOf_at l0 i hil, rdOf_at l1 i hjl]
        split
        · rename_i e
          have hK0 : K (l0.drop i) = l0[i].toList :: K (l0.drop (i + 1)) := by rw [List.drop_eq_getElem_cons hil]; rfl
          have hK1 : K (l1.drop i) = l1[i].toList :: K (l1.drop (i + 1)) := by rw [List.drop_eq_getElem_cons hjl]; rfl
          rw [one64 i (by omega), ih (i + 1) k (by omega) (by omega) (by omega) (by omega), hK0, hK1, e, pm_eq, List.range'_concat]
          simp
        · exact out i k hi hj (by omega)
      · exact out i k hi hj (by omega)
    · exact out i k hi hj (by omega)
theorem diffMatch_is (l0 l1 : List ByteArray) (h0 : l0.length ≤ 256) (h1 : l1.length ≤ 256) (k : Nat) (hk : 3000 ≤ k) :
    diff_Match.f k l0 l1 = some ((pairs l0 l1).map (fun p => ⟨(p.1 : Int), (p.2 : Int)⟩), 0) := by
  obtain ⟨k, rfl⟩ : ∃ k', k = k' + 1 := ⟨k - 1, by omega⟩
  unfold diff_Match.f
  rw [if_neg (by omega)]
  have hd : decide ((l1.length : Int) > 256) = false := decide_eq_false (by omega)
  rw [hd]
  simp only [diff_Match.j0]
  rw [if_neg (by simp)]
  have := diff_l0 l0 l1 h0 h1 256 0 k (by omega) (by omega) (by omega) (by omega)
  simpa [pairs] using this
theorem diffMatch_long (l0 l1 : List ByteArray) (h : ¬ (l0.length ≤ 256 ∧ l1.length ≤ 256)) (k : Nat) (hk : 1 ≤ k) : diff_Match.f k l0 l1 = some ([], 4) := by
  obtain ⟨k, rfl⟩ : ∃ k', k = k' + 1 := ⟨k - 1, by omega⟩
  unfold diff_Match.f
  split
  · simp [diff_Match.j0]
  · have hd : decide ((l1.length : Int) > 256) = true := decide_eq_true (by omega)
    rw [hd]
    simp [diff_Match.j0]
end Go.Proofs.Ythigjlahanejjaa.Pure
