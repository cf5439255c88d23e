/- The plain statement of the law TextBack, without program and memory. No condition but the bound on what is handed in. -/
import Derived.Test.YtlbkobiphfaafaaMTx5
import Derived.Test.YtlbkobiphfaafaaPlainRuns
set_option linter.unusedVariables false
set_option linter.unusedSimpArgs false
namespace Go.Proofs.Ytlbkobiphfaafaa.Pure
open Go.RowKit Go.Proofs.Ytlbkobiphfaafaa.MT Go.Proofs.Ytlbkobiphfaafaa.PureT Go.Proofs.Ytlbkobiphfaafaa.Opening Go.Proofs.YtlbkobiphfaafaaW.PrintWords Go.Proofs.YtlbkobiphfaafaaW.PrintLast

/-- A line: some bytes, a line end at most at its end; 'ends': there is one. -/
def line (x : K) (ends : Bool) : Prop := x ≠ [] ∧ (∀ k : Nat, ∀ c, x[k]? = some c → (k + 1 ≠ x.length → c ≠ 10) ∧ (k + 1 = x.length → ends = true → c = 10))
theorem ln_line : ∀ (t cur : K), (∀ c ∈ cur, c ≠ 10) → ∀ (i : Nat) (x : K), (ln cur t)[i]? = some x → line x (decide (i + 1 < (ln cur t).length))
  | [], cur, hc, i, x, h => by
    unfold ln at h ⊢
    by_cases e : cur = []
    · rw [if_pos e] at h; simp at h
    · rw [if_neg e] at h
      rw [if_neg e]
      have hi : i = 0 := by
        cases i with
        | zero => rfl
        | succ i => simp at h
      subst hi
      have : x = cur := by simpa using h.symm
      subst this
      exact ⟨e, fun k c hk => ⟨fun _ => hc c (List.mem_of_getElem? hk), fun _ he => by simp at he⟩⟩
  | c :: t, cur, hc, i, x, h => by
    by_cases e : c = 10
    · subst e
      rw [ln_nl] at h ⊢
      cases i with
      | zero =>
        have : x = cur ++ [10] := by simpa using h.symm
        subst this
        refine ⟨by simp, fun k c hk => ⟨fun hne => ?_, fun he _ => ?_⟩⟩
        · have hlt := (List.getElem?_eq_some_iff.1 hk).1
          simp at hlt hne
          rw [List.getElem?_append_left (by omega)] at hk
          exact hc c (List.mem_of_getElem? hk)
        · simp at he
          subst he
          simpa using hk.symm
      | succ i =>
        have := ln_line t [] (by simp) i x (by simpa using h)
        have e2 : decide (i + 1 + 1 < ((cur ++ [10]) :: ln [] t).length) = decide (i + 1 < (ln [] t).length) := by simp
        rw [e2]; exact this
    · rw [ln_other e] at h ⊢
      exact ln_line t (cur ++ [c]) (by
        intro d hd
        rcases List.mem_append.1 hd with hd | hd
        · exact hc d hd
        · have : d = c := by simpa using hd
          rw [this]; exact e) i x h
theorem back_l1 {l : List ByteArray} {i : Nat} (hi : i < l.length) (hs : l[i].size ≤ 2000000) (hll : l.length ≤ 4000000) (hline : line (key l[i]) (decide (i + 1 < l.length))) {B : Nat} (h : ∀ k, B < k → forebearlaw04_TextBack.l0 k l ((i + 1 : Nat) : Int) = some true) (d : Nat) : ∀ (j k : Nat), l[i].size - j = d → j ≤ l[i].size → B + d + 1 < k →
    forebearlaw04_TextBack.l1 k l i j = some true := by
  induction d with
  | zero =>
    intro j k hd hj hk
    obtain ⟨k, rfl⟩ : ∃ m, k = m + 1 := ⟨k - 1, by omega⟩
    simp only [forebearlaw04_TextBack.l1]
    rw [if_pos (by omega), if_pos (by omega), rdOf_nat l i hi, if_neg (by omega), wnat hi (by omega)]
    exact h k (by omega)
  | succ d ih =>
    intro j k hd hj hk
    obtain ⟨k, rfl⟩ : ∃ m, k = m + 1 := ⟨k - 1, by omega⟩
    obtain ⟨c, hb, hg, -⟩ := key_drop (p := l[i]) (i := j) (by omega)
    obtain ⟨h1, h2⟩ := hline.2 j c hg
    rw [key_len] at h1 h2
    have hn := ih (j + 1) k (by omega) (by omega) (by omega)
    simp only [forebearlaw04_TextBack.l1]
    rw [if_pos (by omega), if_pos (by omega), rdOf_nat l i hi, if_pos (by omega), if_pos (by omega), hb, wnat (i := j) (n := l[i].size) (by omega) (by omega), wpred (i := l[i].size) (by omega) (by omega), wpred (i := l.length) (by omega) (by omega), hn]
    by_cases hc : c = 10
    · rw [if_pos ((nl_iff c).2 hc)]
      have : (j : Int) = ((l[i].size - 1 : Nat) : Int) := by
        apply Classical.byContradiction
        intro hne
        exact h1 (by omega) hc
      rw [if_pos this]
      repeat' split
      all_goals rfl
    · rw [if_neg (fun e => hc ((nl_iff c).1 e))]
      by_cases he : (j : Int) = ((l[i].size - 1 : Nat) : Int)
      · rw [if_pos he, if_neg]
        intro hlt
        exact hc (h2 (by omega) (by simp; omega))
      · rw [if_neg he]
theorem back_l0 {l : List ByteArray} (hs : ∀ x ∈ l, x.size ≤ 2000000) (hll : l.length ≤ 4000000) (hline : ∀ (i : Nat) (h : i < l.length), line (key l[i]) (decide (i + 1 < l.length))) (d : Nat) : ∀ (i k : Nat), l.length - i = d → i ≤ l.length → 3000000 * d < k →
    forebearlaw04_TextBack.l0 k l i = some true := by
  induction d with
  | zero =>
    intro i k hd hi hk
    obtain ⟨k, rfl⟩ : ∃ m, k = m + 1 := ⟨k - 1, by omega⟩
    simp only [forebearlaw04_TextBack.l0]
    rw [if_neg (by omega)]
  | succ d ih =>
    intro i k hd hi hk
    obtain ⟨k, rfl⟩ : ∃ m, k = m + 1 := ⟨k - 1, by omega⟩
    have hlt : i < l.length := by omega
    have hz := hs l[i] (List.getElem_mem hlt)
    have hl := hline i hlt
    simp only [forebearlaw04_TextBack.l0]
    rw [if_pos (by omega), if_pos (by omega), rdOf_nat l i hlt, toList_key, if_neg hl.1]
    have := back_l1 hlt hz hll hl (B := 3000000 * d) (fun k hk => ih (i + 1) k (by omega) (by omega) hk) l[i].size 0 k (by omega) (by omega) (by omega)
    simpa using this
theorem TextBack : forebearlaw04_TextBack.Pure := by
  intro p hp hu
  obtain ⟨B, hB⟩ : ∃ B : Nat, B = 30000000000000 := ⟨_, rfl⟩
  refine ⟨B, ?_⟩
  unfold forebearlaw04_TextBack.f
  rw [awake_f B (by omega)]
  simp only [Option.bind_some, if_true]
  obtain ⟨r, h1, h2⟩ := lines_f (p := p) (by omega) B (by omega)
  have hl := ln_len (key p) []
  rw [key_len] at hl
  have hrl : r.length = (ln [] (key p)).length := by have := congrArg List.length h2; rwa [List.length_map] at this
  have hfl : (keys r).flatten = key p := by rw [h2, ln_flat]; rfl
  obtain ⟨q, g1, g2⟩ := join_f (l := r) (by rw [hfl, key_len]; omega) (by omega)
  rw [h1]
  simp only [Option.bind_some]
  rw [g1]
  simp only [Option.bind_some]
  rw [toList_key, toList_key, g2, hfl, if_pos rfl]
  have hsz : ∀ x ∈ r, x.size ≤ 2000000 := by
    intro x hx
    have hm : key x ∈ keys r := List.mem_map_of_mem hx
    have : (key x).length ≤ (keys r).flatten.length := (List.sublist_flatten_of_mem hm).length_le
    rw [hfl, key_len, key_len] at this
    omega
  have hline : ∀ (i : Nat) (h : i < r.length), line (key r[i]) (decide (i + 1 < r.length)) := by
    intro i hi
    have := ln_line (key p) [] (by simp) i (key r[i]) (by rw [← h2]; simp [hi])
    rwa [← hrl] at this
  have he : (((r.length : Int) == 0) != (key p == ([] : List UInt8))) = false := by
    by_cases h0 : r.length = 0
    · have : key p = [] := by
        rw [← hfl]
        have : r = [] := List.eq_nil_of_length_eq_zero h0
        rw [this]; rfl
      rw [this]; simp [h0]
    · have : key p ≠ [] := by
        intro e
        rw [e] at hrl
        exact h0 (by rw [hrl]; rfl)
      have h3 : (key p == ([] : List UInt8)) = false := by simpa using this
      have h4 : ((r.length : Int) == 0) = false := by rw [beq_eq_false_iff_ne]; omega
      rw [h3, h4]; rfl
  rw [he]
  have hj : ∀ k, 20000000000000 < k → forebearlaw04_TextBack.j0 k r false = some true := by
    intro k hk
    obtain ⟨k, rfl⟩ : ∃ m, k = m + 1 := ⟨k - 1, by omega⟩
    simp only [forebearlaw04_TextBack.j0, Bool.false_eq_true, if_false]
    have := back_l0 hsz (by omega) hline r.length 0 k (by omega) (by omega) (by omega)
    simpa using this
  exact hj B (by omega)
end Go.Proofs.Ytlbkobiphfaafaa.Pure
