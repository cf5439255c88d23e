/- The plain statement of the law PathParts, without program and memory. No condition. -/
import Derived.Test.YtlbkobiphfaafaaMPx5
import Derived.Test.YtlbkobiphfaafaaPlainLimit
set_option linter.unusedVariables false
set_option linter.unusedSimpArgs false
namespace Go.Proofs.Ytlbkobiphfaafaa.Pure
open Go.RowKit Go.Proofs.Ytlbkobiphfaafaa.MP Go.Proofs.YtlbkobiphfaafaaW.PrintWords Go.Proofs.YtlbkobiphfaafaaW.PrintLast

theorem cuts_len : ∀ (t pre : K), (cuts pre t).length = t.count 47
  | [], pre => rfl
  | c :: t, pre => by
    unfold cuts
    by_cases h : c = 47
    · rw [if_pos h, h, List.count_cons_self, List.length_cons, cuts_len t]
    · rw [if_neg h, List.count_cons_of_ne h, cuts_len t]
theorem cuts_head : ∀ (t pre : K), ∃ s, (cuts pre t ++ [pre ++ t])[0]? = some (pre ++ s)
  | [], pre => ⟨[], by simp [cuts]⟩
  | c :: t, pre => by
    unfold cuts
    by_cases h : c = 47
    · rw [if_pos h]; exact ⟨[], by simp⟩
    · rw [if_neg h]
      obtain ⟨s, e⟩ := cuts_head t (pre ++ [c])
      rw [List.append_assoc] at e
      exact ⟨c :: s, by simpa using e⟩
theorem cuts_count : ∀ (t pre : K) (i : Nat) (x : K), (cuts pre t ++ [pre ++ t])[i]? = some x → x.count 47 = pre.count 47 + i
  | [], pre, i, x, h => by
    cases i with
    | zero => simp [cuts] at h; subst h; simp
    | succ i => simp [cuts] at h
  | c :: t, pre, i, x, h => by
    unfold cuts at h
    by_cases hc : c = 47
    · subst hc
      rw [if_pos rfl] at h
      cases i with
      | zero => simp at h; subst h; rfl
      | succ i =>
        have := cuts_count t (pre ++ [47]) i x (by simpa using h)
        rw [this, List.count_append]; simp; omega
    · rw [if_neg hc] at h
      have := cuts_count t (pre ++ [c]) i x (by simpa using h)
      rw [this, List.count_append]; simp [hc]
theorem cuts_pre : ∀ (t pre : K) (x : K), x ∈ cuts pre t → ∃ s, pre ++ t = x ++ 47 :: s
  | [], pre, x, h => by simp [cuts] at h
  | c :: t, pre, x, h => by
    unfold cuts at h
    by_cases hc : c = 47
    · subst hc
      rw [if_pos rfl] at h
      rcases List.mem_cons.1 h with rfl | h
      · exact ⟨t, rfl⟩
      · obtain ⟨s, e⟩ := cuts_pre t _ x h
        exact ⟨s, by simpa using e⟩
    · rw [if_neg hc] at h
      obtain ⟨s, e⟩ := cuts_pre t _ x h
      exact ⟨s, by simpa using e⟩
theorem cuts_next : ∀ (t pre : K) (i : Nat) (x y : K), (cuts pre t ++ [pre ++ t])[i]? = some x → (cuts pre t ++ [pre ++ t])[i + 1]? = some y → ∃ s, y = x ++ 47 :: s
  | [], pre, i, x, y, hx, hy => by simp [cuts] at hy
  | c :: t, pre, i, x, y, hx, hy => by
    unfold cuts at hx hy
    by_cases hc : c = 47
    · subst hc
      rw [if_pos rfl] at hx hy
      cases i with
      | zero =>
        simp at hx; subst hx
        obtain ⟨s, e⟩ := cuts_head t (pre ++ [47])
        have : (cuts (pre ++ [47]) t ++ [(pre ++ [47]) ++ t])[0]? = some y := by simpa using hy
        rw [e] at this
        injection this with this
        exact ⟨s, by rw [← this]; simp⟩
      | succ i => exact cuts_next t (pre ++ [47]) i x y (by simpa using hx) (by simpa using hy)
    · rw [if_neg hc] at hx hy
      exact cuts_next t (pre ++ [c]) i x y (by simpa using hx) (by simpa using hy)
theorem chk_pre : ∀ (pre t : K) (n r : Nat), chk (pre ++ 47 :: t) n r = true → chk pre n r = true
  | [], t, n, r, h => by
    simp only [List.nil_append, chk, if_true, Bool.and_eq_true, decide_eq_true_eq] at h
    have := chk_count _ _ _ h.2
    simp only [chk, Bool.and_eq_true, decide_eq_true_eq]
    exact ⟨h.1, by omega⟩
  | c :: pre, t, n, r, h => by
    simp only [List.cons_append, chk] at h ⊢
    by_cases hc : c = 47
    · rw [if_pos hc] at h ⊢
      simp at h ⊢
      exact ⟨h.1, chk_pre pre t _ _ h.2⟩
    · rw [if_neg hc] at h ⊢
      simp at h ⊢
      exact ⟨h.1, h.2.1, chk_pre pre t _ _ h.2.2⟩
theorem under_self (p : K) : under p p = true := by unfold under; simp
theorem under_slash (d s : K) : under (d ++ 47 :: s) d = true := by unfold under; simp
theorem not_under_slash (d s : K) : under d (d ++ 47 :: s) = false := by
  unfold under
  have : (List.take (d ++ 47 :: s).length d == d ++ 47 :: s) = false := by
    apply beq_eq_false_iff_ne.2
    intro e
    have := congrArg List.length e
    simp at this
  rw [this]; rfl

theorem slash_loop {a : ByteArray} {P : List ByteArray} {i : Nat} (hi : i < P.length) (hs : P[i].size ≤ 140737488351232) {B : Nat}
    (h : ∀ k, B < k → forebearlaw03_PathParts.l1 k a P i ((key P[i]).count 47 : Nat) P[i].size = some true) (d : Nat) : ∀ (j k : Nat), P[i].size - j = d → j ≤ P[i].size → B + d < k →
    forebearlaw03_PathParts.l1 k a P i (((key P[i]).take j).count 47 : Nat) j = some true := by
  induction d with
  | zero =>
    intro j k hd hj hk
    have hj' : j = P[i].size := by omega
    subst hj'
    have : (key P[i]).take P[i].size = key P[i] := List.take_of_length_le (by rw [key_len]; omega)
    rw [this]
    exact h k (by omega)
  | succ d ih =>
    intro j k hd hj hk
    obtain ⟨k, rfl⟩ : ∃ m, k = m + 1 := ⟨k - 1, by omega⟩
    obtain ⟨c, hb, hg, hdr⟩ := key_drop (p := P[i]) (i := j) (by omega)
    have ht : (key P[i]).take (j + 1) = (key P[i]).take j ++ [c] := by rw [List.take_add_one, hg]; rfl
    have hcl : ((key P[i]).take j).count 47 ≤ j := Nat.le_trans List.count_le_length (List.length_take_le _ _)
    simp only [forebearlaw03_PathParts.l1]
    rw [if_pos (by omega), if_pos (by omega), rdOf_nat P i hi, if_pos (by omega), if_pos (by omega), hb, wnat (i := j) (n := P[i].size) (by omega) (by omega)]
    have := ih (j + 1) k (by omega) (by omega) (by omega)
    rw [ht, List.count_append] at this
    by_cases hc : c = 47
    · rw [if_pos ((slash_iff c).2 hc), wnat (n := P[i].size) (by omega) (by omega)]
      rw [hc] at this
      simpa using this
    · rw [if_neg (fun h => hc ((slash_iff c).1 h))]
      have h0 : [c].count 47 = 0 := by simp [hc]
      rw [h0] at this
      exact this
theorem outer_loop {a : ByteArray} {P : List ByteArray} (ha : a.size ≤ 140737488351232) (hP : ∀ x ∈ P, x.size ≤ a.size) (hK : keys P = cuts [] (key a) ++ [key a]) (hA : isP (key a) = true) (hl : P.length ≤ 6) (d : Nat) :
    ∀ (i k : Nat), P.length - i = d → i ≤ P.length → 300000000000000 * d + 145000000000000 < k → forebearlaw03_PathParts.l0 k a P i = some true := by
  induction d with
  | zero =>
    intro i k hd hi hk
    obtain ⟨k, rfl⟩ : ∃ m, k = m + 1 := ⟨k - 1, by omega⟩
    simp only [forebearlaw03_PathParts.l0]
    rw [if_neg (by omega)]
  | succ d ih =>
    intro i k hd hi hk
    obtain ⟨k, rfl⟩ : ∃ m, k = m + 1 := ⟨k - 1, by omega⟩
    have hlt : i < P.length := by omega
    simp only [forebearlaw03_PathParts.l0]
    rw [if_pos (by omega)]
    have hget : ∀ (j : Nat) (hj : j < P.length), (cuts [] (key a) ++ [[] ++ key a])[j]? = some (key P[j]) := by
      intro j hj
      rw [List.nil_append, ← hK]; simp [hj]
    have hpre : ∀ (j : Nat) (hj : j < P.length), key P[j] = key a ∨ ∃ s, key a = key P[j] ++ 47 :: s := by
      intro j hj
      have : key P[j] ∈ keys P := List.mem_map_of_mem (List.getElem_mem hj)
      rw [hK] at this
      rcases List.mem_append.1 this with h | h
      · obtain ⟨s, e⟩ := cuts_pre _ _ _ h
        exact .inr ⟨s, by simpa using e⟩
      · exact .inl (by simpa using h)
    have hsz := hP P[i] (List.getElem_mem hlt)
    have hcount := cuts_count _ _ _ _ (hget i hlt)
    have := slash_loop (a := a) (P := P) (i := i) hlt (by omega) (B := 300000000000000 * d + 150000000000000) (fun k hk => by
      obtain ⟨k, rfl⟩ : ∃ m, k = m + 1 := ⟨k - 1, by omega⟩
      simp only [forebearlaw03_PathParts.l1]
      rw [if_pos (by omega), if_pos (by omega), rdOf_nat P i hlt, if_neg (by omega), if_pos (by rw [hcount]; simp), check_f (by omega) k (by omega)]
      simp only [Option.bind_some]
      have hp : isP (key P[i]) = true := by
        rcases hpre i hlt with h | ⟨s, h⟩
        · rw [h]; exact hA
        · unfold isP at hA ⊢; rw [h] at hA; exact chk_pre _ _ _ _ hA
      have hu : under (key a) (key P[i]) = true := by
        rcases hpre i hlt with h | ⟨s, h⟩
        · rw [h]; exact under_self _
        · rw [h]; exact under_slash _ _
      rw [hp, if_pos (by rfl), under_f a _ ha, hu]
      simp only [Option.bind_some, if_true]
      by_cases h0 : i = 0
      · subst h0
        rw [if_neg (by omega), wnat hlt (by omega)]
        exact ih (0 + 1) k (by omega) (by omega) (by omega)
      · rw [if_pos (by omega), wpred (by omega) (by omega), if_pos (by omega), if_pos (by omega), rdOf_nat P (i - 1) (by omega)]
        obtain ⟨s, e⟩ := cuts_next _ _ (i - 1) _ _ (hget (i - 1) (by omega)) (by rw [show i - 1 + 1 = i by omega]; exact hget i hlt)
        have hs2 := hP P[i - 1] (List.getElem_mem (by omega))
        rw [under_f _ _ (by omega), under_f _ _ (by omega), e, under_slash, not_under_slash]
        simp only [Option.bind_some, if_true, Bool.false_eq_true, if_false]
        rw [wnat hlt (by omega)]
        exact ih (i + 1) k (by omega) (by omega) (by omega)) P[i].size 0 k (by omega) (by omega) (by omega)
    simpa using this
theorem PathParts : forebearlaw03_PathParts.Pure := by
  intro a ha
  obtain ⟨B, hB⟩ : ∃ B : Nat, B = 300000000000000 * 9 := ⟨_, rfl⟩
  refine ⟨B, ?_⟩
  unfold forebearlaw03_PathParts.f
  rw [awake_f B (by omega)]
  simp only [Option.bind_some, if_true]
  obtain ⟨P, h1, h2⟩ := parts_f ha B (by omega)
  rw [h1, check_f ha B (by omega)]
  simp only [Option.bind_some]
  unfold partsK at h2
  by_cases hA : isP (key a) = true
  · rw [if_pos hA] at h2
    have hc := chk_count _ _ _ hA
    have hl : P.length = (key a).count 47 + 1 := by
      have := congrArg List.length h2
      simp [cuts_len] at this
      exact this
    have hlast : P[P.length - 1]'(by omega) = a := by
      apply key_inj
      have : (keys P)[P.length - 1]? = some (key a) := by
        rw [h2, List.getElem?_append_right (by rw [cuts_len]; omega), cuts_len, hl]
        simp
      rw [List.getElem?_map, List.getElem?_eq_getElem (by omega)] at this
      simpa using this
    have hP : ∀ x ∈ P, x.size ≤ a.size := by
      intro x hx
      have : key x ∈ keys P := List.mem_map_of_mem hx
      rw [h2] at this
      rw [← key_len, ← key_len]
      rcases List.mem_append.1 this with h | h
      · obtain ⟨s, e⟩ := cuts_pre _ _ _ h
        have := congrArg List.length e
        simp at this; omega
      · have : key x = key a := by simpa using h
        rw [this]; omega
    rw [hA, if_pos (by rfl), if_neg (by omega), if_neg (by omega), wpred (by omega) (by omega), if_pos (by omega), if_pos (by omega), rdOf_nat P (P.length - 1) (by omega), hlast]
    have hj : ∀ k, 300000000000000 * 8 < k → forebearlaw03_PathParts.j0 k a P (a.toList != a.toList) = some true := by
      intro k hk
      obtain ⟨k, rfl⟩ : ∃ m, k = m + 1 := ⟨k - 1, by omega⟩
      simp only [forebearlaw03_PathParts.j0]
      rw [if_neg (by simp)]
      have := outer_loop ha hP h2 hA (by omega) P.length 0 k (by omega) (by omega) (by omega)
      simpa using this
    exact hj B (by omega)
  · have hA' : isP (key a) = false := by simpa using hA
    rw [if_neg hA] at h2
    have : P = [] := by simpa using h2
    subst this
    rw [hA', if_neg (by decide)]; rfl
end Go.Proofs.Ytlbkobiphfaafaa.Pure
