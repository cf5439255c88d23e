/- The plain statement of the law TextLines, without program and memory. No condition but the bound on what is handed in. -/
import Derived.Test.YtlbkobiphfaafaaMTx4
import Derived.Test.YtlbkobiphfaafaaPlainRuns
set_option linter.unusedVariables false
set_option linter.unusedSimpArgs false
namespace Go.Proofs.Ytlbkobiphfaafaa.Pure
open Go.RowKit Go.Proofs.Ytlbkobiphfaafaa.MT Go.Proofs.Ytlbkobiphfaafaa.PureT Go.Proofs.Ytlbkobiphfaafaa.Opening Go.Proofs.YtlbkobiphfaafaaW.PrintWords Go.Proofs.YtlbkobiphfaafaaW.PrintLast

theorem refLines_l0 {p : ByteArray} (hp : p.size ≤ 2000000) (d : Nat) : ∀ (i f k : Nat) (acc : List ByteArray), p.size - i = d → i ≤ p.size → f ≤ i → (i = p.size → f = i) → acc.length ≤ i → d < k →
    ∃ r, forebearref04_Lines.l0 k p acc f i = some r ∧ keys r = keys acc ++ ln (((key p).take i).drop f) ((key p).drop i) := by
  induction d with
  | zero =>
    intro i f k acc hd hi hf hfe ha hk
    obtain ⟨k, rfl⟩ : ∃ m, k = m + 1 := ⟨k - 1, by omega⟩
    obtain rfl : i = p.size := by omega
    obtain rfl := hfe rfl
    simp only [forebearref04_Lines.l0]
    rw [if_neg (by omega)]
    refine ⟨acc, rfl, ?_⟩
    have h1 : (key p).drop p.size = [] := List.drop_eq_nil_of_le (by rw [key_len]; omega)
    have h2 : ((key p).take p.size).drop p.size = [] := List.drop_eq_nil_of_le (by simp; omega)
    rw [h1, h2]; simp [ln]
  | succ d ih =>
    intro i f k acc hd hi hf hfe ha hk
    obtain ⟨k, rfl⟩ : ∃ m, k = m + 1 := ⟨k - 1, by omega⟩
    obtain ⟨c, hb, hg, hdr⟩ := key_drop (p := p) (i := i) (by omega)
    have htk : ((key p).take (i + 1)).drop f = ((key p).take i).drop f ++ [c] := by
      rw [List.take_add_one, hg]
      simp only [Option.toList]
      rw [List.drop_append_of_le_length (by simp [key_len]; omega)]
    have hcut : key (p.extract f (i + 1)) = ((key p).take i).drop f ++ [c] := by rw [key_extract, htk]
    have hemp : ((key p).take (i + 1)).drop (i + 1) = [] := List.drop_eq_nil_of_le (List.length_take_le _ _)
    simp only [forebearref04_Lines.l0]
    rw [if_pos (by omega), if_pos (by omega), hb, hdr, wnat (n := p.size) (by omega) (by omega)]
    by_cases hc : c = 10
    · rw [if_pos ((nl_iff c).2 hc), if_pos (by omega), if_pos (by omega), if_pos (by omega), if_pos (by omega), Int.toNat_natCast, Int.toNat_natCast]
      obtain ⟨r, h1, h2⟩ := ih (i + 1) (i + 1) k (acc ++ [p.extract f (i + 1)]) (by omega) (by omega) (by omega) (by omega) (by simp; omega) (by omega)
      refine ⟨r, h1, ?_⟩
      rw [h2, hemp, hc, ln_nl]
      simp [hcut, hc]
    · rw [if_neg (fun h => hc ((nl_iff c).1 h)), wpred (by omega) (by omega), ln_other hc]
      by_cases he : i = p.size - 1
      · rw [if_pos (by omega), if_pos (by omega), if_pos (by omega), if_pos (by omega), if_pos (by omega), Int.toNat_natCast, Int.toNat_natCast]
        obtain ⟨r, h1, h2⟩ := ih (i + 1) (i + 1) k (acc ++ [p.extract f (i + 1)]) (by omega) (by omega) (by omega) (by omega) (by simp; omega) (by omega)
        refine ⟨r, h1, ?_⟩
        have h3 : (key p).drop (i + 1) = [] := List.drop_eq_nil_of_le (by rw [key_len]; omega)
        rw [h2, hemp, h3]
        simp [hcut, ln]
      · rw [if_neg (by omega)]
        obtain ⟨r, h1, h2⟩ := ih (i + 1) f k acc (by omega) (by omega) (by omega) (by omega) (by omega) (by omega)
        exact ⟨r, h1, by rw [h2, htk]⟩
theorem refLines_f {p : ByteArray} (hp : p.size ≤ 2000000) (k : Nat) (hk : p.size < k) : ∃ r, forebearref04_Lines.f k p = some r ∧ keys r = ln [] (key p) := by
  obtain ⟨r, h1, h2⟩ := refLines_l0 hp p.size 0 0 k [] (by omega) (by omega) (by omega) (by omega) (by simp) hk
  rw [show ((0 : Nat) : Int) = 0 from rfl] at h1
  exact ⟨r, h1, by simpa using h2⟩
theorem TextLines : forebearlaw04_TextLines.Pure := by
  intro p hp hu
  refine ⟨2000100, ?_⟩
  unfold forebearlaw04_TextLines.f
  rw [awake_f 2000100 (by omega)]
  simp only [Option.bind_some, if_true]
  obtain ⟨r, h1, h2⟩ := lines_f (p := p) (by omega) 2000100 (by omega)
  obtain ⟨q, g1, g2⟩ := refLines_f (p := p) (by omega) 2000100 (by omega)
  have hl := ln_len (key p) []
  rw [key_len] at hl
  have hrl : r.length ≤ p.size + 1 := by have := congrArg List.length h2; rw [List.length_map] at this; omega
  rw [h1, g1]
  simp only [Option.bind_some]
  rw [same_f (by omega) 2000100 (by omega), h2, g2]; simp
end Go.Proofs.Ytlbkobiphfaafaa.Pure
