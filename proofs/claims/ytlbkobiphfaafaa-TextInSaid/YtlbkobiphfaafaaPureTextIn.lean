/- The plain statement of the law TextIn, without program and memory. No condition. -/
import Derived.Test.YtlbkobiphfaafaaMTx10
import Derived.Test.YtlbkobiphfaafaaPlainRuns
set_option linter.unusedVariables false
set_option linter.unusedSimpArgs false
namespace Go.Proofs.Ytlbkobiphfaafaa.Pure
open Go.RowKit Go.Proofs.Ytlbkobiphfaafaa.MT Go.Proofs.Ytlbkobiphfaafaa.PureT Go.Proofs.Ytlbkobiphfaafaa.Opening Go.Proofs.YtlbkobiphfaafaaW.PrintWords Go.Proofs.YtlbkobiphfaafaaW.PrintLast

def pr9 (x : S49) : Rn := (x.f0, x.f1)
theorem rdT9_nat (l : List S49) (i : Nat) (h : i < l.length) : rd_T49 l (i : Int) = l[i] := by simp [rd_T49, h]
theorem refIn_l0 (n : Int) {l : List S49} (hl : l.length ≤ 8796093022208) (d : Nat) : ∀ (i k : Nat), l.length - i = d → i ≤ l.length → d < k →
    forebearref04_In.l0 k n l i = some ((l.drop i).any fun x => decide (x.f0 ≤ n) && decide (n ≤ x.f1)) := by
  induction d with
  | zero =>
    intro i k hd hi hk
    obtain ⟨k, rfl⟩ : ∃ m, k = m + 1 := ⟨k - 1, by omega⟩
    simp only [forebearref04_In.l0]
    rw [if_neg (by omega), List.drop_eq_nil_of_le (by omega)]; rfl
  | succ d ih =>
    intro i k hd hi hk
    obtain ⟨k, rfl⟩ : ∃ m, k = m + 1 := ⟨k - 1, by omega⟩
    have hlt : i < l.length := by omega
    simp only [forebearref04_In.l0]
    rw [if_pos (by omega), if_pos (by omega), rdT9_nat l i hlt, List.drop_eq_getElem_cons hlt, wnat hlt (by omega), ih (i + 1) k (by omega) (by omega) (by omega)]
    simp only [List.any_cons]
    by_cases h1 : n ≥ l[i].f0
    · rw [if_pos h1]
      by_cases h2 : n ≤ l[i].f1
      · rw [if_pos h2]; simp [h2]; omega
      · rw [if_neg h2]; simp [h2]
    · rw [if_neg h1]
      have : ¬ l[i].f0 ≤ n := by omega
      simp [this]
theorem refIn_f (n : Int) {l : List S49} (hl : l.length ≤ 8796093022208) (k : Nat) (hk : l.length < k) : forebearref04_In.f k n l = some (l.any fun x => decide (x.f0 ≤ n) && decide (n ≤ x.f1)) := by
  have := refIn_l0 n hl l.length 0 k (by omega) (by omega) hk
  rw [show ((0 : Nat) : Int) = 0 from rfl] at this
  simpa [forebearref04_In.f] using this
theorem in_l0 (n : Int) {l : List S48} (hl : l.length ≤ 8796093021952) (d : Nat) : ∀ (i k : Nat) (acc : List S49), l.length - i = d → i ≤ l.length → acc.map pr9 = (l.take i).map pr → l.length + d + 1 < k →
    forebearlaw04_TextIn.l0 k n l acc i = some true := by
  induction d with
  | zero =>
    intro i k acc hd hi ha hk
    obtain ⟨k, rfl⟩ : ∃ m, k = m + 1 := ⟨k - 1, by omega⟩
    obtain rfl : i = l.length := by omega
    have hal : acc.length = l.length := by have := congrArg List.length ha; simpa using this
    simp only [forebearlaw04_TextIn.l0]
    rw [if_neg (by omega), in_f, refIn_f n (by omega) k (by omega)]
    simp only [Option.bind_some]
    have h1 : l.any (text_In_has n) = (l.map pr).any (fun x => decide (x.1 ≤ n) && decide (n ≤ x.2)) := by rw [List.any_map]; rfl
    have h2 : (acc.any fun x => decide (x.f0 ≤ n) && decide (n ≤ x.f1)) = (acc.map pr9).any (fun x => decide (x.1 ≤ n) && decide (n ≤ x.2)) := by rw [List.any_map]; rfl
    rw [h1, h2, ha, List.take_length]; simp
  | succ d ih =>
    intro i k acc hd hi ha hk
    obtain ⟨k, rfl⟩ : ∃ m, k = m + 1 := ⟨k - 1, by omega⟩
    have hlt : i < l.length := by omega
    have hal : acc.length = i := by have := congrArg List.length ha; simp at this; omega
    simp only [forebearlaw04_TextIn.l0]
    rw [if_pos (by omega), if_pos (by omega), if_pos (by omega), rdT_nat l i hlt, wnat hlt (by omega)]
    refine ih (i + 1) k _ (by omega) (by omega) ?_ (by omega)
    have htk : l.take (i + 1) = l.take i ++ [l[i]] := by rw [List.take_add_one]; simp [hlt]
    rw [List.map_append, ha, htk, List.map_append]
    rfl
theorem TextIn : forebearlaw04_TextIn.Pure := by
  intro n l hn hl
  obtain ⟨h1, -, -⟩ := hl
  obtain ⟨B, hB⟩ : ∃ B : Nat, B = 30000000000000 := ⟨_, rfl⟩
  refine ⟨B, ?_⟩
  unfold forebearlaw04_TextIn.f
  rw [awake_f B (by omega)]
  simp only [Option.bind_some, if_true]
  have := in_l0 n (l := l) (by omega) l.length 0 B [] (by omega) (by omega) (by simp) (by omega)
  simpa using this
end Go.Proofs.Ytlbkobiphfaafaa.Pure
