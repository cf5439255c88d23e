/- Plain facts: what the program's sort and the document's sort answer is one and the same list. No condition. -/
import Derived.Test.YtlbkobiphfaafaaMPx0
import Derived.Test.YtlbkobiphfaafaaMPx2
import Derived.Test.YtlbkobiphfaafaaMPx3
import Derived.Test.YtlbkobiphfaafaaPlainPath
set_option linter.unusedVariables false
set_option linter.unusedSimpArgs false
namespace Go.Proofs.Ytlbkobiphfaafaa.Pure
open Go.RowKit Go.Proofs.Ytlbkobiphfaafaa.MP Go.Proofs.Ytlbkobiphfaafaa.Opening Go.Proofs.YtlbkobiphfaafaaW.PrintWords Go.Proofs.YtlbkobiphfaafaaW.PrintLast

theorem key_mk (l : K) : key ⟨l.toArray⟩ = l := by simp [key]
theorem keys_mk (l : List K) : keys (l.map fun l => ⟨l.toArray⟩) = l := by
  simp [keys, Function.comp_def, key_mk]
theorem sortS_keys (l : List ByteArray) : keys (sortS l) = (keys l).mergeSort fun x y => decide (x ≤ y) := by
  unfold sortS; rw [keys_mk]; rfl
theorem sorted_merge (l : List K) : (l.mergeSort fun x y => decide (x ≤ y)).Pairwise (· ≤ ·) := by
  have := List.pairwise_mergeSort (le := fun x y : K => decide (x ≤ y)) (fun a b c h1 h2 => by simp at *; exact le_tr h1 h2) (fun a b => by simpa using le_tot a b) l
  simpa using this
theorem getA (l : List K) (j : Nat) : l.toArray[j]! = l.getD j [] := by
  simp only [List.getElem!_toArray, List.getD_eq_getElem?_getD]
  rw [List.getElem!_eq_getElem?_getD]; rfl
theorem compact_one (b : K) (l : List K) : Lib.compact (b :: l) = b :: ((List.range l.length).filter (fun j => decide ((b :: l).getD (j + 1) [] ≠ (b :: l).getD j []))).map (fun j => (b :: l).getD (j + 1) []) := by
  unfold Lib.compact Lib.compactUpTo
  rw [List.length_cons, List.range_succ_eq_map, List.filter_cons_of_pos (by simp [Lib.keeps])]
  rw [List.map_cons, getA, List.filter_map, List.map_map]
  congr 1
  congr 1
  · funext j; simp only [Function.comp_def, getA]
  · congr 1
    funext j
    simp only [Function.comp_def, Lib.keeps, getA]
    simp
theorem compact_two (a b : K) (l : List K) : Lib.compact (a :: b :: l) = if a = b then Lib.compact (b :: l) else a :: Lib.compact (b :: l) := by
  rw [compact_one a (b :: l), compact_one b l, List.length_cons, List.range_succ_eq_map]
  by_cases h : a = b
  · subst h
    rw [if_pos rfl, List.filter_cons_of_neg (by simp), List.filter_map, List.map_map]
    rfl
  · have h' : b ≠ a := fun e => h e.symm
    rw [if_neg h, List.filter_cons_of_pos (by simp [h']), List.map_cons, List.filter_map, List.map_map]
    rfl
theorem compact_eq_dd : ∀ (l : List K), Lib.compact l = dd l
  | [] => rfl
  | [a] => by rw [compact_one]; rfl
  | a :: b :: l => by rw [compact_two, compact_eq_dd (b :: l)]; rfl
theorem sd_keys (l : List ByteArray) : keys (sd l) = dd ((keys l).mergeSort fun x y => decide (x ≤ y)) := by
  unfold sd compactS
  rw [keys_mk, compact_eq_dd, ← sortS_keys]; rfl
theorem sd_rise (l : List ByteArray) : Rise (keys (sd l)) := by rw [sd_keys]; exact dd_rise (sorted_merge _)
theorem sd_mem (l : List ByteArray) (x : K) : x ∈ keys (sd l) ↔ x ∈ keys l := by rw [sd_keys, mem_dd, List.mem_mergeSort]
theorem dd_len : ∀ l : List K, (dd l).length ≤ l.length
  | [] => by simp [dd]
  | [a] => by simp [dd]
  | a :: b :: l => by
    have ih := dd_len (b :: l)
    unfold dd
    split
    · simp at *; omega
    · simp at *; omega
theorem sd_len (l : List ByteArray) : (sd l).length ≤ l.length := by
  have h := dd_len ((keys l).mergeSort fun x y => decide (x ≤ y))
  rw [← sd_keys] at h
  simpa [List.length_mergeSort] using h
theorem sd_same {l m : List ByteArray} (h : ∀ x, x ∈ keys l ↔ x ∈ keys m) : keys (sd l) = keys (sd m) :=
  rise_eq (sd_rise l) (sd_rise m) fun x => by rw [sd_mem, sd_mem, h]

/-- The document's list with a text. -/
def ins (s : K) : List K → List K
  | [] => [s]
  | a :: t => if s < a then s :: a :: t else a :: ins s t
theorem refHas_l0 {l : List ByteArray} (hl : l.length ≤ 140737488351232) (q : ByteArray) (d : Nat) : ∀ (i k : Nat), l.length - i = d → i ≤ l.length → d < k →
    forebearref03_Has.l0 k l q i = some (decide (key q ∈ (keys l).drop i)) := by
  induction d with
  | zero =>
    intro i k hd hi hk
    obtain ⟨k, rfl⟩ : ∃ m, k = m + 1 := ⟨k - 1, by omega⟩
    simp only [forebearref03_Has.l0]
    rw [if_neg (by omega), List.drop_eq_nil_of_le (by simp; omega)]; simp
  | succ d ih =>
    intro i k hd hi hk
    obtain ⟨k, rfl⟩ : ∃ m, k = m + 1 := ⟨k - 1, by omega⟩
    have hlt : i < l.length := by omega
    simp only [forebearref03_Has.l0]
    rw [if_pos (by omega), if_pos (by omega), rdOf_nat l i hlt, keys_drop hlt, toList_key, toList_key]
    by_cases h : key l[i] = key q
    · rw [if_pos h]; simp [h]
    · rw [if_neg h, wnat hlt (by omega), ih (i + 1) k (by omega) (by omega) (by omega)]
      have : ¬ key q = key l[i] := fun e => h e.symm
      simp [this]
theorem refHas_f {l : List ByteArray} (hl : l.length ≤ 140737488351232) (q : ByteArray) (k : Nat) (hk : l.length < k) : forebearref03_Has.f k l q = some (decide (key q ∈ keys l)) := by
  have := refHas_l0 hl q l.length 0 k (by omega) (by omega) hk
  rw [show ((0 : Nat) : Int) = 0 from rfl] at this
  simpa [forebearref03_Has.f] using this
theorem refWith_done {l : List ByteArray} (hl : l.length ≤ 1000000) (q : ByteArray) (d : Nat) : ∀ (i k : Nat) (acc : List ByteArray), l.length - i = d → i ≤ l.length → acc.length + (l.length - i) ≤ 1000000 → d < k →
    ∃ r, forebearref03_With.l0 k l q acc true i = some r ∧ keys r = keys acc ++ (keys l).drop i := by
  induction d with
  | zero =>
    intro i k acc hd hi ha hk
    obtain ⟨k, rfl⟩ : ∃ m, k = m + 1 := ⟨k - 1, by omega⟩
    simp only [forebearref03_With.l0]
    rw [if_neg (by omega), List.drop_eq_nil_of_le (by simp; omega)]; simp
  | succ d ih =>
    intro i k acc hd hi ha hk
    obtain ⟨k, rfl⟩ : ∃ m, k = m + 1 := ⟨k - 1, by omega⟩
    have hlt : i < l.length := by omega
    simp only [forebearref03_With.l0]
    rw [if_pos (by omega)]
    simp only [if_true]
    rw [if_pos (by omega), if_pos (by omega), wnat hlt (by omega), rdOf_nat l i hlt]
    obtain ⟨r, h1, h2⟩ := ih (i + 1) k (acc ++ [l[i]]) (by omega) (by omega) (by simp; omega) (by omega)
    exact ⟨r, h1, by rw [h2, keys_drop hlt]; simp⟩
theorem refWith_l0 {l : List ByteArray} (hl : l.length ≤ 1000000) (q : ByteArray) (d : Nat) : ∀ (i k : Nat) (acc : List ByteArray), l.length - i = d → i ≤ l.length → acc.length + (l.length - i) + 1 ≤ 1000000 → d < k →
    ∃ r, forebearref03_With.l0 k l q acc false i = some r ∧ keys r = keys acc ++ ins (key q) ((keys l).drop i) := by
  induction d with
  | zero =>
    intro i k acc hd hi ha hk
    obtain ⟨k, rfl⟩ : ∃ m, k = m + 1 := ⟨k - 1, by omega⟩
    simp only [forebearref03_With.l0]
    rw [if_neg (by omega), List.drop_eq_nil_of_le (by simp; omega), if_neg (by simp), if_pos (by omega)]; simp [ins]
  | succ d ih =>
    intro i k acc hd hi ha hk
    obtain ⟨k, rfl⟩ : ∃ m, k = m + 1 := ⟨k - 1, by omega⟩
    have hlt : i < l.length := by omega
    simp only [forebearref03_With.l0]
    rw [if_pos (by omega), if_neg (by simp), if_pos (by omega), rdOf_nat l i hlt, toList_key, toList_key, bytesLess_eq, keys_drop hlt]
    simp only [ins]
    by_cases h : key q < key l[i]
    · rw [if_pos (by simpa using h), if_pos (by omega), if_pos h]
      simp only [Option.bind_some]
      rw [if_pos (by simp; omega), wnat hlt (by omega)]
      obtain ⟨r, h1, h2⟩ := refWith_done (l := l) hl q d (i + 1) k (acc ++ [q] ++ [l[i]]) (by omega) (by omega) (by simp; omega) (by omega)
      exact ⟨r, h1, by rw [h2]; simp⟩
    · rw [if_neg (by simpa using h), if_pos (by omega), if_neg h, wnat hlt (by omega)]
      obtain ⟨r, h1, h2⟩ := ih (i + 1) k (acc ++ [l[i]]) (by omega) (by omega) (by simp; omega) (by omega)
      exact ⟨r, h1, by rw [h2]; simp⟩
theorem mem_ins (s x : K) : ∀ l : List K, x ∈ ins s l ↔ x = s ∨ x ∈ l
  | [] => by simp [ins]
  | a :: t => by
    unfold ins
    split
    · simp
    · rw [List.mem_cons, mem_ins s x t, List.mem_cons]
      constructor
      · rintro (h | h | h) <;> simp [h]
      · rintro (h | h | h) <;> simp [h]
theorem rise_ins (s : K) : ∀ {l : List K}, Rise l → s ∉ l → Rise (ins s l)
  | [], _, _ => List.pairwise_singleton _ _
  | a :: t, h, hn => by
    obtain ⟨h1, h2⟩ := List.pairwise_cons.1 h
    unfold ins
    split
    · rename_i hlt
      exact List.pairwise_cons.2 ⟨fun x hx => by
        rcases List.mem_cons.1 hx with rfl | hx
        · exact hlt
        · exact lt_tr hlt (h1 x hx), h⟩
    · rename_i hge
      have hlt : a < s := by
        rcases lt_or_eq_or_gt a s with h | h | h
        · exact h
        · exact absurd (by simp [h]) hn
        · exact absurd h hge
      exact List.pairwise_cons.2 ⟨fun x hx => by
        rcases (mem_ins s x t).1 hx with rfl | hx
        · exact hlt
        · exact h1 x hx, rise_ins s h2 (fun hm => hn (List.mem_cons_of_mem _ hm))⟩
theorem refWith_f {l : List ByteArray} (hl : l.length < 1000000) (q : ByteArray) (k : Nat) (hk : l.length < k) (hr : Rise (keys l)) :
    ∃ r, forebearref03_With.f k l q = some r ∧ Rise (keys r) ∧ (∀ x, x ∈ keys r ↔ x = key q ∨ x ∈ keys l) ∧ r.length ≤ l.length + 1 := by
  unfold forebearref03_With.f
  rw [refHas_f (by omega) q k hk]
  simp only [Option.bind_some, decide_eq_true_eq]
  by_cases h : key q ∈ keys l
  · rw [if_pos h]
    exact ⟨l, rfl, hr, fun x => ⟨.inr, fun e => e.elim (fun e => e ▸ h) id⟩, by omega⟩
  · rw [if_neg h]
    obtain ⟨r, h1, h2⟩ := refWith_l0 (l := l) (by omega) q l.length 0 k [] (by omega) (by omega) (by simp; omega) hk
    rw [show ((0 : Nat) : Int) = 0 from rfl] at h1
    refine ⟨r, h1, ?_, ?_, ?_⟩
    · rw [h2]; simpa using rise_ins _ hr h
    · intro x; rw [h2]; simpa using mem_ins (key q) x (keys l)
    · have := congrArg List.length h2
      simp only [List.length_map, List.length_append, List.drop_zero, List.length_nil, Nat.zero_add] at this
      rw [this]
      have : ∀ (s : K) (m : List K), (ins s m).length = m.length + 1 := by
        intro s m
        induction m with
        | nil => rfl
        | cons a t ih => unfold ins; split <;> simp [ih]
      rw [this]; simp
theorem refSort_l0 {l : List ByteArray} (hl : l.length ≤ 100000) (d : Nat) : ∀ (i k : Nat) (acc : List ByteArray), l.length - i = d → i ≤ l.length → acc.length ≤ i → Rise (keys acc) → l.length + 1 + d < k →
    ∃ r, forebearref03_Sort.l0 k l acc i = some r ∧ Rise (keys r) ∧ ∀ x, x ∈ keys r ↔ x ∈ keys acc ∨ x ∈ (keys l).drop i := by
  induction d with
  | zero =>
    intro i k acc hd hi ha hr hk
    obtain ⟨k, rfl⟩ : ∃ m, k = m + 1 := ⟨k - 1, by omega⟩
    simp only [forebearref03_Sort.l0]
    rw [if_neg (by omega), List.drop_eq_nil_of_le (by simp; omega)]
    exact ⟨acc, rfl, hr, by simp⟩
  | succ d ih =>
    intro i k acc hd hi ha hr hk
    obtain ⟨k, rfl⟩ : ∃ m, k = m + 1 := ⟨k - 1, by omega⟩
    have hlt : i < l.length := by omega
    simp only [forebearref03_Sort.l0]
    rw [if_pos (by omega), if_pos (by omega), rdOf_nat l i hlt]
    obtain ⟨r, h1, h2, h3, h4⟩ := refWith_f (l := acc) (by omega) l[i] k (by omega) hr
    rw [h1]
    simp only [Option.bind_some]
    rw [wnat hlt (by omega)]
    obtain ⟨z, g1, g2, g3⟩ := ih (i + 1) k r (by omega) (by omega) (by omega) h2 (by omega)
    refine ⟨z, g1, g2, fun x => ?_⟩
    rw [g3, h3, keys_drop hlt, List.mem_cons]
    constructor
    · rintro ((h | h) | h) <;> simp [h]
    · rintro (h | h | h) <;> simp [h]
/-- The document's sort is the program's. -/
theorem refSort_f {l : List ByteArray} (hl : l.length ≤ 100000) (k : Nat) (hk : 2 * l.length + 1 < k) : ∃ r, forebearref03_Sort.f k l = some r ∧ keys r = keys (sd l) := by
  obtain ⟨r, h1, h2, h3⟩ := refSort_l0 hl l.length 0 k [] (by omega) (by omega) (by simp) List.Pairwise.nil (by omega)
  rw [show ((0 : Nat) : Int) = 0 from rfl] at h1
  refine ⟨r, h1, rise_eq h2 (sd_rise l) fun x => ?_⟩
  rw [h3, sd_mem]; simp
end Go.Proofs.Ytlbkobiphfaafaa.Pure
