/- The fixed answers of layer 5, and the test of likeness, in plain Lean. No condition. -/
import Derived.Test.YthigjlahanejjaaPlainHunks
import Derived.Test.YthigjlahanejjaaMDx5
import Derived.Test.YthigjlahanejjaaMDx6
import Derived.Test.YthigjlahanejjaaMDx9
set_option linter.unusedVariables false
set_option linter.unusedSimpArgs false
namespace Go.Proofs.Ythigjlahanejjaa.Pure
open Go.RowKit Go.Proofs.Ythigjlahanejjaa.MD Go.Proofs.YthigjlahanejjaaW.PrintWords
theorem toList_is (x : ByteArray) : x.toList = x.data.toList := ByteArray.toList_eq x
theorem Same_go (a b : List ByteArray) (hl : a.length = b.length) (ha : a.length ≤ 900000) : ∀ (d i k : Nat), a.length ≤ i + d → i ≤ a.length → d + 1 ≤ k → forebearref03_Same.l0 k a b (i : Int) = some (decide (K (a.drop i) = K (b.drop i))) := by
  intro d
  induction d with
  | zero =>
    intro i k h hi hk
    obtain ⟨k, rfl⟩ : ∃ k', k = k' + 1 := ⟨k - 1, by omega⟩
    simp only [forebearref03_Same.l0]
    rw [if_neg (by omega), List.drop_eq_nil_of_le (by omega), List.drop_eq_nil_of_le (by omega)]
    simp [K]
  | succ d ih =>
    intro i k h hi hk
    obtain ⟨k, rfl⟩ : ∃ k', k = k' + 1 := ⟨k - 1, by omega⟩
    simp only [forebearref03_Same.l0]
    by_cases hil : i < a.length
    · have hjl : i < b.length := by omega
      have hK0 : K (a.drop i) = a[i].toList :: K (a.drop (i + 1)) := by rw [List.drop_eq_getElem_cons hil]; rfl
      have hK1 : K (b.drop i) = b[i].toList :: K (b.drop (i + 1)) := by rw [List.drop_eq_getElem_cons hjl]; rfl
      rw [if_pos (by omega), if_pos (by omega), if_pos (by omega), rdOf_at a i hil, rdOf_at b i hjl, hK0, hK1]
      by_cases e : a[i].toList = b[i].toList
      · rw [if_pos e, one64 i (by omega), ih (i + 1) k (by omega) (by omega) (by omega), e]
        simp
      · rw [if_neg e]
        simp [e]
    · rw [if_neg (by omega), List.drop_eq_nil_of_le (by omega), List.drop_eq_nil_of_le (by omega)]
      simp [K]
theorem Same_is (a b : List ByteArray) (ha : a.length ≤ 900000) (k : Nat) (hk : a.length + 1 ≤ k) : forebearref03_Same.f k a b = some (decide (K a = K b)) := by
  unfold forebearref03_Same.f
  by_cases hl : a.length = b.length
  · rw [if_pos (by omega)]
    have := Same_go a b hl ha a.length 0 k (by omega) (by omega) (by omega)
    simpa using this
  · rw [if_neg (by omega)]
    have : ¬ K a = K b := fun e => hl (by have := congrArg List.length e; simpa [K] using this)
    simp [this]
theorem Equal_go (a b : List ByteArray) (hl : a.length = b.length) (ha : a.length ≤ 900000) : ∀ (d i k : Nat), a.length ≤ i + d → i ≤ a.length → d + 1 ≤ k → slices_Equal_string_string.l0 k a b (a.length : Int) (i : Int) = some (decide (K (a.drop i) = K (b.drop i))) := by
  intro d
  induction d with
  | zero =>
    intro i k h hi hk
    obtain ⟨k, rfl⟩ : ∃ k', k = k' + 1 := ⟨k - 1, by omega⟩
    simp only [slices_Equal_string_string.l0]
    rw [if_neg (by omega), List.drop_eq_nil_of_le (by omega), List.drop_eq_nil_of_le (by omega)]
    simp [K]
  | succ d ih =>
    intro i k h hi hk
    obtain ⟨k, rfl⟩ : ∃ k', k = k' + 1 := ⟨k - 1, by omega⟩
    simp only [slices_Equal_string_string.l0]
    by_cases hil : i < a.length
    · have hjl : i < b.length := by omega
      have hK0 : K (a.drop i) = a[i].toList :: K (a.drop (i + 1)) := by rw [List.drop_eq_getElem_cons hil]; rfl
      have hK1 : K (b.drop i) = b[i].toList :: K (b.drop (i + 1)) := by rw [List.drop_eq_getElem_cons hjl]; rfl
      rw [if_pos (by omega), if_pos (by omega), if_pos (by omega), if_pos (by omega), rdOf_at a i hil, rdOf_at b i hjl, hK0, hK1]
      by_cases e : a[i].toList = b[i].toList
      · rw [if_pos e, one64 i (by omega), ih (i + 1) k (by omega) (by omega) (by omega), e]
        simp
      · rw [if_neg e]
        simp [e]
    · rw [if_neg (by omega), List.drop_eq_nil_of_le (by omega), List.drop_eq_nil_of_le (by omega)]
      simp [K]
theorem Equal_is (a b : List ByteArray) (ha : a.length ≤ 900000) (k : Nat) (hk : a.length + 1 ≤ k) : slices_Equal_string_string.f k a b = some (decide (K a = K b)) := by
  unfold slices_Equal_string_string.f
  by_cases hl : a.length = b.length
  · rw [if_pos (by omega)]
    have := Equal_go a b hl ha a.length 0 k (by omega) (by omega) (by omega)
    simpa using this
  · rw [if_neg (by omega)]
    have : ¬ K a = K b := fun e => hl (by have := congrArg List.length e; simpa [K] using this)
    simp [this]
theorem awake_f (k : Nat) (hk : 3000 ≤ k) : forebearlaw05_awake.f k = some true := by
  unfold forebearlaw05_awake.f
  have p1 : pairs [(⟨#[97]⟩ : ByteArray), ⟨#[98]⟩, ⟨#[99]⟩] [(⟨#[98]⟩ : ByteArray), ⟨#[120]⟩, ⟨#[99]⟩] = [(1, 0), (2, 2)] := by
    unfold pairs K
    simp only [List.map_cons, List.map_nil, toList_is]
    simp [pm, L]
  have p2 : hs [(⟨#[97]⟩ : ByteArray)] [(⟨#[98]⟩ : ByteArray)] (stops [(⟨#[97]⟩ : ByteArray)] [(⟨#[98]⟩ : ByteArray)]) 0 0 = [⟨0, 0, [⟨#[97]⟩], [⟨#[98]⟩]⟩] := by
    unfold stops pairs K
    simp only [List.map_cons, List.map_nil, toList_is]
    simp [pm, L, hs]
  rw [diffMatch_is _ _ (by simp) (by simp) k hk, p1]
  simp only [Option.bind_some]
  rw [diffHunks_is _ _ (by simp) (by simp) k hk, p2]
  simp only [Option.bind_some]
  have p3 : diff_Apply.f k [(⟨#[97]⟩ : ByteArray)] [(⟨0, 0, [(⟨#[97]⟩ : ByteArray)], [(⟨#[98]⟩ : ByteArray), (⟨#[99]⟩ : ByteArray)]⟩ : S46)] = some ([(⟨#[98]⟩ : ByteArray), (⟨#[99]⟩ : ByteArray)], 0) := by
    obtain ⟨k, rfl⟩ : ∃ k', k = k' + 2 := ⟨k - 2, by omega⟩
    unfold diff_Apply.f
    rw [if_neg (by simp)]
    simp only [diff_Apply.l0]
    have he := Equal_is [(⟨#[97]⟩ : ByteArray)] [(⟨#[97]⟩ : ByteArray)] (by simp) (k + 1) (by simp; omega)
    simp [rd_T46, wrap64, he]
  rw [p3]
  simp [rd_T39, toS46]
end Go.Proofs.Ythigjlahanejjaa.Pure
