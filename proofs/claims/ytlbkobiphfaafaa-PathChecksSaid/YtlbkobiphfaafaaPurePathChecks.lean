/- The plain statement of the law PathChecks, without program and memory. No condition. -/
import Derived.Test.YtlbkobiphfaafaaMPx11
import Derived.Test.YtlbkobiphfaafaaPlainNames
set_option linter.unusedVariables false
set_option linter.unusedSimpArgs false
namespace Go.Proofs.Ytlbkobiphfaafaa.Pure
open Go.RowKit Go.Proofs.Ytlbkobiphfaafaa.MP Go.Proofs.Ytlbkobiphfaafaa.Opening Go.Proofs.YtlbkobiphfaafaaW.PrintWords Go.Proofs.YtlbkobiphfaafaaW.PrintLast

theorem sp_none : ∀ (t last : K), (47 : UInt8) ∉ t → sp last t = [last ++ t]
  | [], last, _ => by simp [sp]
  | c :: t, last, h => by
    have hc : c ≠ 47 := fun e => h (by simp [e])
    rw [sp_other hc, sp_none t _ (fun e => h (List.mem_cons_of_mem _ e))]; simp
theorem name_none {l : K} (h : nameK l = true) : (47 : UInt8) ∉ l := by
  intro hm
  unfold nameK at h
  simp only [Bool.and_eq_true, List.all_eq_true] at h
  have := h.1 47 hm
  simp [plainI] at this
theorem idx_mem : ∀ (l : K) (c : UInt8), 0 ≤ Lib.indexByte l c ↔ c ∈ l
  | [], c => by simp [Lib.indexByte]
  | b :: l, c => by
    have ih := idx_mem l c
    have hg := Lib.indexByte_ge l c
    unfold Lib.indexByte
    by_cases h : b = c
    · subst h; simp
    · have h' : ¬ c = b := fun e => h e.symm
      rw [if_neg (by simpa using h), List.mem_cons]
      by_cases h2 : Lib.indexByte l c = -1
      · rw [if_pos (by simpa using h2), ← ih]; simp [h']; omega
      · rw [if_neg (by simpa using h2), ← ih]; simp [h']; omega
theorem contains_slash (p : ByteArray) : strings_Contains.f p (⟨#[47]⟩ : ByteArray) = some (decide ((47 : UInt8) ∈ key p)) := by
  unfold strings_Contains.f strings_Index.f stringslite_Index.f
  simp only [Option.bind_some, Option.some.injEq]
  rw [Bool.eq_iff_iff, decide_eq_true_eq, decide_eq_true_eq]
  exact idx_mem (key p) 47
theorem name_f {p : ByteArray} (hp : p.size ≤ 140737488351232) (k : Nat) (hk : p.size < k) : path_Name.f k p = some (code (nameK (key p))) := by
  unfold path_Name.f
  rw [contains_slash]
  simp only [Option.bind_some, decide_eq_true_eq]
  by_cases h : (47 : UInt8) ∈ key p
  · rw [if_pos h]
    have : nameK (key p) = false := by
      cases e : nameK (key p) with
      | false => rfl
      | true => exact absurd h (name_none e)
    rw [this]; rfl
  · rw [if_neg h, check_f hp k hk, isP_sp, sp_none _ _ h]
    simp
theorem cuts_len2 : ∀ (t pre : K), (cuts pre t).length = t.count 47
  | [], pre => rfl
  | c :: t, pre => by
    unfold cuts
    by_cases h : c = 47
    · rw [if_pos h, h, List.count_cons_self, List.length_cons, cuts_len2 t]
    · rw [if_neg h, List.count_cons_of_ne h, cuts_len2 t]
/-- The names, put together again one by one. -/
def JJ : K → List K → List K
  | _, [] => []
  | pre, n :: r => (pre ++ n) :: JJ (pre ++ n ++ [47]) r
theorem cuts_JJ : ∀ (t pre last : K), cuts (pre ++ last) t ++ [pre ++ last ++ t] = JJ pre (sp last t)
  | [], pre, last => by simp [cuts, sp, JJ]
  | c :: t, pre, last => by
    by_cases h : c = 47
    · subst h
      have := cuts_JJ t (pre ++ last ++ [47]) []
      rw [sp_slash, cuts, if_pos rfl]
      simp only [JJ, ← this]
      simp
    · have := cuts_JJ t pre (last ++ [c])
      rw [sp_other h, cuts, if_neg h, ← this]
      simp
theorem refParts_l0 {s : List ByteArray} (hs : ∀ x ∈ s, x.size ≤ 1000) (hl : s.length ≤ 2000) (d : Nat) : ∀ (i k : Nat) (acc : List ByteArray) (c : ByteArray), s.length - i = d → 1 ≤ i → i ≤ s.length → acc.length ≤ i → c.size ≤ 1001 * i → d < k →
    ∃ r, forebearref03_Parts.l0 k acc s c i = some r ∧ keys r = keys acc ++ JJ (key c ++ [47]) ((keys s).drop i) := by
  induction d with
  | zero =>
    intro i k acc c hd h1 hi ha hc hk
    obtain ⟨k, rfl⟩ : ∃ m, k = m + 1 := ⟨k - 1, by omega⟩
    simp only [forebearref03_Parts.l0]
    rw [if_neg (by omega), List.drop_eq_nil_of_le (by simp; omega)]
    exact ⟨acc, rfl, by simp [JJ]⟩
  | succ d ih =>
    intro i k acc c hd h1 hi ha hc hk
    obtain ⟨k, rfl⟩ : ∃ m, k = m + 1 := ⟨k - 1, by omega⟩
    have hlt : i < s.length := by omega
    have hz := hs s[i] (List.getElem_mem hlt)
    simp only [forebearref03_Parts.l0]
    rw [rdOf_nat s i hlt, if_pos (by omega), if_pos (by omega), if_pos (by omega), if_pos (by omega), if_pos (by omega), if_pos (by omega), wnat hlt (by omega), keys_drop hlt]
    have hsz : (c ++ (⟨#[47]⟩ : ByteArray) ++ s[i]).size = c.size + 1 + s[i].size := by rw [ByteArray.size_append, ByteArray.size_append]; rfl
    obtain ⟨r, g1, g2⟩ := ih (i + 1) k (acc ++ [c ++ (⟨#[47]⟩ : ByteArray) ++ s[i]]) (c ++ (⟨#[47]⟩ : ByteArray) ++ s[i]) (by omega) (by omega) (by omega) (by simp; omega) (by omega) (by omega)
    refine ⟨r, g1, ?_⟩
    rw [g2]
    have hk : key (⟨#[47]⟩ : ByteArray) = [47] := rfl
    simp [JJ, key_append, hk]
theorem refParts_f {p : ByteArray} (k : Nat) (hk : 4000 < k) : ∃ r, forebearref03_Parts.f k p = some r ∧ keys r = partsK (key p) ∧ r.length ≤ 2000 := by
  unfold forebearref03_Parts.f partsK
  rw [refIs_f k hk]
  simp only [Option.bind_some]
  by_cases h : isP (key p) = true
  · have hsz := isP_size h
    rw [key_len] at hsz
    rw [if_pos h, if_pos h]
    obtain ⟨s, h1, h2⟩ := refNames_f (p := p) (by omega) k (by omega)
    rw [h1]
    simp only [Option.bind_some]
    have hr : ∀ x ∈ s, x.size ≤ 1000 := by
      intro x hx
      have : key x ∈ sp [] (key p) := by rw [← h2]; exact List.mem_map_of_mem hx
      have := mem_sp _ _ _ this
      rw [key_len, key_len] at this
      simp at this; omega
    have hl : s.length = (key p).count 47 + 1 := by
      have := congrArg List.length h2
      rw [List.length_map, sp_len] at this; exact this
    have hl2 : (key p).count 47 ≤ p.size := by rw [← key_len]; exact List.count_le_length
    obtain ⟨k, rfl⟩ : ∃ m, k = m + 1 := ⟨k - 1, by omega⟩
    have hlt : 0 < s.length := by omega
    have hz := hr s[0] (List.getElem_mem hlt)
    simp only [forebearref03_Parts.l0]
    have e0 := rdOf_nat s 0 hlt
    rw [show ((0 : Nat) : Int) = 0 from rfl] at e0
    have hsz0 : ((⟨#[]⟩ : ByteArray) ++ s[0]).size = s[0].size := by rw [ByteArray.size_append]; exact Nat.zero_add _
    rw [e0, if_pos (by omega), if_neg (by omega), if_pos (by omega), if_pos (by have : (⟨#[]⟩ : ByteArray).size = 0 := rfl; omega), if_pos (by simp), show wrap64 (0 + 1) = ((1 : Nat) : Int) by unfold wrap64; omega]
    obtain ⟨r, g1, g2⟩ := refParts_l0 hr (by omega) (s.length - 1) 1 k ([] ++ [(⟨#[]⟩ : ByteArray) ++ s[0]]) ((⟨#[]⟩ : ByteArray) ++ s[0]) rfl (by omega) (by omega) (by simp) (by omega) (by omega)
    have hkk : keys r = cuts [] (key p) ++ [key p] := by
      have := cuts_JJ (key p) [] []
      simp only [List.nil_append, List.append_nil] at this
      rw [this, ← h2, g2]
      have e1 : keys s = key s[0] :: (keys s).drop 1 := by
        have := keys_drop hlt
        simpa using this
      rw [e1]
      have : key ((⟨#[]⟩ : ByteArray) ++ s[0]) = key s[0] := by rw [key_append]; rfl
      simp [JJ, this]
    refine ⟨r, g1, hkk, ?_⟩
    have := congrArg List.length hkk
    rw [List.length_map, List.length_append, cuts_len2] at this
    simp at this; omega
  · have h' : isP (key p) = false := by simpa using h
    rw [if_neg h, if_neg h]
    exact ⟨[], rfl, rfl, by simp⟩
theorem PathChecks : forebearlaw03_PathChecks.Pure := by
  intro p d hp hd
  obtain ⟨B, hB⟩ : ∃ B : Nat, B = 140737488361000 := ⟨_, rfl⟩
  refine ⟨B, ?_⟩
  unfold forebearlaw03_PathChecks.f
  rw [awake_f B (by omega), refIs_f B (by omega)]
  simp only [Option.bind_some, if_true]
  have hj1 : ∀ k, 140737488360000 < k → forebearlaw03_PathChecks.j1 k p d (code (isP (key p))) (code (nameK (key d))) = some true := by
    intro k hk
    obtain ⟨k, rfl⟩ : ∃ m, k = m + 1 := ⟨k - 1, by omega⟩
    simp only [forebearlaw03_PathChecks.j1]
    obtain ⟨r, h1, h2⟩ := parts_f hp k (by omega)
    obtain ⟨q, g1, g2, g3⟩ := refParts_f (p := p) k (by omega)
    have hl : r.length = q.length := by
      have := congrArg List.length (h2.trans g2.symm)
      simpa using this
    rw [check_f hp k (by omega)]
    simp only [Option.bind_some, if_true]
    rw [name_f hd k (by omega)]
    simp only [Option.bind_some, if_true]
    rw [h1, g1]
    simp only [Option.bind_some]
    rw [same_f (by omega) k (by omega), h2, g2, under_f _ _ hp, refUnder_f]
    simp
  have hj0 : ∀ k, 140737488360500 < k → forebearlaw03_PathChecks.j0 k p d (code (isP (key p))) = some true := by
    intro k hk
    obtain ⟨k, rfl⟩ : ∃ m, k = m + 1 := ⟨k - 1, by omega⟩
    simp only [forebearlaw03_PathChecks.j0]
    rw [refName_f hd k (by omega)]
    simp only [Option.bind_some]
    have := hj1 k (by omega)
    cases h : nameK (key d)
    · rw [h] at this; simpa [code] using this
    · rw [h] at this; simpa [code] using this
  have := hj0 B (by omega)
  cases h : isP (key p)
  · rw [h] at this; simpa [code] using this
  · rw [h] at this; simpa [code] using this
end Go.Proofs.Ytlbkobiphfaafaa.Pure
