/- A heap in a list: pushing and popping keep it, in plain Lean. No condition. -/
set_option linter.unusedVariables false
set_option linter.unusedSimpArgs false
set_option linter.unusedSectionVars false
namespace Go.Proofs.Ytpobioiagafpgaa.Pure
structure TO {α : Type} (lt : α → α → Bool) : Prop where
  irr : ∀ a, lt a a = false
  tr : ∀ a b c, lt a b = true → lt b c = true → lt a c = true
  tot : ∀ a b, lt a b = false → lt b a = false → a = b
section
variable {α : Type} {lt : α → α → Bool} (T : TO lt) (z : α)
/-- b is not ahead of a. -/
def Le (lt : α → α → Bool) (a b : α) : Prop := lt b a = false
include T
theorem le_iff (a b : α) : Le lt a b ↔ a = b ∨ lt a b = true := by
  unfold Le
  constructor
  · intro h
    cases h2 : lt a b
    · exact .inl (T.tot a b h2 h)
    · exact .inr rfl
  · rintro (rfl | h)
    · exact T.irr a
    · cases h2 : lt b a
      · rfl
      · have := T.tr a b a h h2
        rw [T.irr] at this
        cases this
theorem le_trans' {a b c : α} (h : Le lt a b) (k : Le lt b c) : Le lt a c := by
  rw [le_iff T] at *
  rcases h with rfl | h
  · exact k
  · rcases k with rfl | k
    · exact .inr h
    · exact .inr (T.tr _ _ _ h k)
theorem le_of_lt' {a b : α} (h : lt a b = true) : Le lt a b := (le_iff T a b).2 (.inr h)
omit T
def par (k : Nat) : Nat := (k - 1) / 2
def HeapF (lt : α → α → Bool) (f : Nat → α) (n : Nat) : Prop := ∀ k, 0 < k → k < n → Le lt (f (par k)) (f k)
def swF (f : Nat → α) (i j : Nat) : Nat → α := fun k => if k = j then f i else if k = i then f j else f k
def UpF (lt : α → α → Bool) (f : Nat → α) (n i : Nat) : Prop := (∀ k, 0 < k → k < n → k ≠ i → Le lt (f (par k)) (f k)) ∧ (∀ k, 0 < k → k < n → par k = i → 0 < i → Le lt (f (par i)) (f k))
def DownF (lt : α → α → Bool) (f : Nat → α) (n i : Nat) : Prop := (∀ k, 0 < k → k < n → par k ≠ i → Le lt (f (par k)) (f k)) ∧ (∀ k, 0 < k → k < n → par k = i → 0 < i → Le lt (f (par i)) (f k))
include T
theorem up_done {f : Nat → α} {n i : Nat} (h : UpF lt f n i) (hi : 0 < i → lt (f i) (f (par i)) = false) : HeapF lt f n := by
  intro k h0 hk
  by_cases e : k = i
  · subst e; exact hi h0
  · exact h.1 k h0 hk e
theorem up_step {f : Nat → α} {n i : Nat} (h : UpF lt f n i) (h0 : 0 < i) (hi : lt (f i) (f (par i)) = true) : UpF lt (swF f i (par i)) n (par i) := by
  have hp : par i < i := by unfold par; omega
  have hle := le_of_lt' T hi
  constructor
  · intro k k0 kn kp
    by_cases e : k = i
    · subst e
      have e1 : swF f k (par k) (par k) = f k := if_pos rfl
      have e2 : swF f k (par k) k = f (par k) := by unfold swF; rw [if_neg (by omega), if_pos rfl]
      rw [e1, e2]; exact hle
    · have ek : swF f i (par i) k = f k := by unfold swF; rw [if_neg kp, if_neg e]
      rw [ek]
      by_cases c : par k = par i
      · have e1 : swF f i (par i) (par k) = f i := by unfold swF; rw [if_pos c]
        rw [e1]
        have := h.1 k k0 kn e
        rw [c] at this
        exact le_trans' T hle this
      · by_cases c2 : par k = i
        · have e1 : swF f i (par i) (par k) = f (par i) := by unfold swF; rw [if_neg c, if_pos c2]
          rw [e1]; exact h.2 k k0 kn c2 h0
        · have e1 : swF f i (par i) (par k) = f (par k) := by unfold swF; rw [if_neg c, if_neg c2]
          rw [e1]; exact h.1 k k0 kn e
  · intro k k0 kn kp hpi
    have e1 : swF f i (par i) (par (par i)) = f (par (par i)) := by
      unfold swF; rw [if_neg (by unfold par at *; omega), if_neg (by unfold par at *; omega)]
    rw [e1]
    have hi2 : ∀ (hn : par i < n), Le lt (f (par (par i))) (f (par i)) := fun hn => h.1 (par i) hpi hn (by omega)
    have hpn : par i < n := by unfold par at *; omega
    by_cases e : k = i
    · subst e
      have e2 : swF f k (par k) k = f (par k) := by unfold swF; rw [if_neg (by omega), if_pos rfl]
      rw [e2]; exact hi2 hpn
    · have ek : swF f i (par i) k = f k := by unfold swF; rw [if_neg (by unfold par at *; omega), if_neg e]
      rw [ek]
      have := h.1 k k0 kn e
      rw [kp] at this
      exact le_trans' T (hi2 hpn) this
theorem down_done {f : Nat → α} {n i : Nat} (h : DownF lt f n i) (hi : ∀ k, 0 < k → k < n → par k = i → Le lt (f i) (f k)) : HeapF lt f n := by
  intro k k0 kn
  by_cases e : par k = i
  · have := hi k k0 kn e
    rw [e]; exact this
  · exact h.1 k k0 kn e
theorem down_step {f : Nat → α} {n i b : Nat} (h : DownF lt f n i) (hb : par b = i) (hb0 : 0 < b) (hbn : b < n) (hlt : lt (f b) (f i) = true) (hk : ∀ k, 0 < k → k < n → par k = i → Le lt (f b) (f k)) :
    DownF lt (swF f i b) n b := by
  have hib : i < b := by unfold par at hb; omega
  have hle := le_of_lt' T hlt
  have gi : swF f i b i = f b := by unfold swF; rw [if_neg (by omega), if_pos rfl]
  have gb : swF f i b b = f i := if_pos rfl
  have go : ∀ k, k ≠ i → k ≠ b → swF f i b k = f k := fun k k1 k2 => by unfold swF; rw [if_neg k2, if_neg k1]
  constructor
  · intro k k0 kn kp
    by_cases e : par k = i
    · rw [e, gi]
      by_cases e2 : k = b
      · subst e2; rw [gb]; exact hle
      · rw [go k (by unfold par at e; omega) e2]; exact hk k k0 kn e
    · have hkb : k ≠ b := fun x => e (by rw [x]; exact hb)
      rw [go (par k) e kp]
      by_cases e2 : k = i
      · subst e2
        rw [gi]; exact h.2 b hb0 hbn hb k0
      · rw [go k e2 hkb]; exact h.1 k k0 kn e
  · intro k k0 kn kp _
    rw [hb, gi, go k (by unfold par at *; omega) (by unfold par at *; omega)]
    have := h.1 k k0 kn (by omega)
    rw [kp] at this
    exact this
omit T
/-! ### In lists -/
def at_ (l : List α) : Nat → α := fun k => l.getD k z
def sw (l : List α) (i j : Nat) : List α := (l.set i (l.getD j z)).set j (l.getD i z)
theorem sw_len (l : List α) (i j : Nat) : (sw z l i j).length = l.length := by simp [sw]
theorem sw_perm (l : List α) (i j : Nat) (hi : i < l.length) (hj : j < l.length) : (sw z l i j).Perm l := by
  unfold sw
  have e1 : l.getD i z = l[i] := by simp [List.getD_eq_getElem?_getD, hi]
  have e2 : l.getD j z = l[j] := by simp [List.getD_eq_getElem?_getD, hj]
  rw [e1, e2]
  exact List.set_set_perm hi hj
theorem sw_at (l : List α) (i j : Nat) (hi : i < l.length) (hj : j < l.length) : at_ z (sw z l i j) = swF (at_ z l) i j := by
  funext k
  unfold at_ sw swF
  simp only [List.getD_eq_getElem?_getD, List.getElem?_set, List.length_set]
  by_cases h1 : j = k
  · rw [if_pos h1, if_pos hj, if_pos h1.symm]; rfl
  · rw [if_neg h1, if_neg (show ¬ k = j from fun x => h1 x.symm)]
    by_cases h2 : i = k
    · rw [if_pos h2, if_pos hi, if_pos h2.symm]; rfl
    · rw [if_neg h2, if_neg (show ¬ k = i from fun x => h2 x.symm)]
def Heap (lt : α → α → Bool) (l : List α) : Prop := HeapF lt (at_ z l) l.length
def upGo (lt : α → α → Bool) : Nat → List α → Nat → List α
  | 0, l, _ => l
  | d + 1, l, i => if 0 < i then (if lt (l.getD i z) (l.getD (par i) z) then upGo lt d (sw z l i (par i)) (par i) else l) else l
def push (lt : α → α → Bool) (l : List α) (x : α) : List α := upGo z lt (l.length + 1) (l ++ [x]) l.length
theorem up_len : ∀ (d : Nat) (l : List α) (i : Nat), (upGo z lt d l i).length = l.length
  | 0, l, i => rfl
  | d + 1, l, i => by
    unfold upGo
    split
    · split
      · rw [up_len d, sw_len]
      · rfl
    · rfl
theorem up_perm : ∀ (d : Nat) (l : List α) (i : Nat), i < l.length → (upGo z lt d l i).Perm l
  | 0, l, i, _ => List.Perm.refl _
  | d + 1, l, i, h => by
    unfold upGo
    split
    · split
      · exact (up_perm d _ _ (by rw [sw_len]; unfold par; omega)).trans (sw_perm z l i (par i) h (by unfold par; omega))
      · exact List.Perm.refl _
    · exact List.Perm.refl _
include T
theorem up_heap : ∀ (d : Nat) (l : List α) (i : Nat), i < l.length → i < d → UpF lt (at_ z l) l.length i → Heap z lt (upGo z lt d l i)
  | 0, l, i, _, hd, _ => by omega
  | d + 1, l, i, h, hd, hu => by
    unfold upGo
    by_cases h0 : 0 < i
    · rw [if_pos h0]
      have hp : par i < l.length := by unfold par; omega
      by_cases h1 : lt (l.getD i z) (l.getD (par i) z) = true
      · rw [if_pos h1]
        refine up_heap d _ _ (by rw [sw_len]; exact hp) (by unfold par; omega) ?_
        rw [sw_at z l i (par i) h hp, sw_len]
        exact up_step T hu h0 h1
      · rw [if_neg h1]
        exact up_done T hu fun _ => Bool.eq_false_iff.2 h1
    · rw [if_neg h0]
      exact up_done T hu fun x => absurd x h0
theorem push_heap {l : List α} (h : Heap z lt l) (x : α) : Heap z lt (push z lt l x) := by
  refine up_heap T z _ _ _ (by simp) (by omega) ⟨fun k k0 kn ki => ?_, fun k k0 kn kp i0 => ?_⟩
  · have e : ∀ m, m < l.length → at_ z (l ++ [x]) m = at_ z l m := fun m hm => by
      unfold at_; rw [List.getD_eq_getElem?_getD, List.getD_eq_getElem?_getD, List.getElem?_append_left hm]
    simp only [List.length_append, List.length_singleton] at kn
    rw [e k (by omega), e (par k) (by unfold par; omega)]
    exact h k k0 (by omega)
  · simp only [List.length_append, List.length_singleton] at kn
    unfold par at kp; omega
omit T
theorem push_perm (l : List α) (x : α) : (push z lt l x).Perm (l ++ [x]) := up_perm z _ _ _ (by simp)
theorem push_len (l : List α) (x : α) : (push z lt l x).length = l.length + 1 := by unfold push; rw [up_len]; simp
def best1 (lt : α → α → Bool) (l : List α) (i : Nat) : Nat := if 2 * i + 1 < l.length then (if lt (l.getD (2 * i + 1) z) (l.getD i z) then 2 * i + 1 else i) else i
def best (lt : α → α → Bool) (l : List α) (i : Nat) : Nat := if 2 * i + 2 < l.length then (if lt (l.getD (2 * i + 2) z) (l.getD (best1 z lt l i) z) then 2 * i + 2 else best1 z lt l i) else best1 z lt l i
def downGo (lt : α → α → Bool) : Nat → List α → Nat → List α
  | 0, l, _ => l
  | d + 1, l, i => if best z lt l i = i then l else downGo lt d (sw z l i (best z lt l i)) (best z lt l i)
def popL (lt : α → α → Bool) (l : List α) : List α := downGo z lt l.length ((l.set 0 (l.getD (l.length - 1) z)).take (l.length - 1)) 0
theorem best_range (l : List α) (i : Nat) : best z lt l i = i ∨ (best z lt l i = 2 * i + 1 ∧ 2 * i + 1 < l.length) ∨ (best z lt l i = 2 * i + 2 ∧ 2 * i + 2 < l.length) := by
  unfold best best1
  repeat' split
  all_goals omega
include T
theorem best_le (l : List α) (i : Nat) (hi : i < l.length) : Le lt (l.getD (best z lt l i) z) (l.getD i z) ∧ (∀ k, 0 < k → k < l.length → par k = i → Le lt (l.getD (best z lt l i) z) (l.getD k z)) ∧
    (best z lt l i ≠ i → lt (l.getD (best z lt l i) z) (l.getD i z) = true) := by
  have b1 : Le lt (l.getD (best1 z lt l i) z) (l.getD i z) ∧ (2 * i + 1 < l.length → Le lt (l.getD (best1 z lt l i) z) (l.getD (2 * i + 1) z)) ∧ (best1 z lt l i ≠ i → lt (l.getD (best1 z lt l i) z) (l.getD i z) = true) := by
    unfold best1
    by_cases h1 : 2 * i + 1 < l.length
    · rw [if_pos h1]
      by_cases h2 : lt (l.getD (2 * i + 1) z) (l.getD i z) = true
      · rw [if_pos h2]; exact ⟨le_of_lt' T h2, fun _ => T.irr _, fun _ => h2⟩
      · rw [if_neg h2]; exact ⟨T.irr _, fun _ => by unfold Le; simpa using h2, fun x => absurd rfl x⟩
    · rw [if_neg h1]; exact ⟨T.irr _, fun x => absurd x h1, fun x => absurd rfl x⟩
  unfold best
  generalize best1 z lt l i = b at b1 ⊢
  have hkid : ∀ k, 0 < k → par k = i → k = 2 * i + 1 ∨ k = 2 * i + 2 := fun k k0 kp => by unfold par at kp; omega
  obtain ⟨c1, c2, c3⟩ := b1
  by_cases h1 : 2 * i + 2 < l.length
  · rw [if_pos h1]
    by_cases h2 : lt (l.getD (2 * i + 2) z) (l.getD b z) = true
    · rw [if_pos h2]
      have h3 := le_of_lt' T h2
      refine ⟨le_trans' T h3 c1, fun k k0 kn kp => ?_, fun _ => ?_⟩
      · rcases hkid k k0 kp with e | e
        · subst e; exact le_trans' T h3 (c2 kn)
        · subst e; exact T.irr _
      · rcases (le_iff T _ _).1 c1 with e | e
        · rw [← e]; exact h2
        · exact T.tr _ _ _ h2 e
    · rw [if_neg h2]
      refine ⟨c1, fun k k0 kn kp => ?_, c3⟩
      rcases hkid k k0 kp with e | e
      · subst e; exact c2 kn
      · subst e; unfold Le; exact Bool.eq_false_iff.2 h2
  · rw [if_neg h1]
    refine ⟨c1, fun k k0 kn kp => ?_, c3⟩
    rcases hkid k k0 kp with e | e
    · subst e; exact c2 kn
    · omega
omit T
theorem down_len : ∀ (d : Nat) (l : List α) (i : Nat), (downGo z lt d l i).length = l.length
  | 0, l, i => rfl
  | d + 1, l, i => by
    unfold downGo
    split
    · rfl
    · rw [down_len d, sw_len]
theorem down_perm : ∀ (d : Nat) (l : List α) (i : Nat), i < l.length → (downGo z lt d l i).Perm l
  | 0, l, i, _ => List.Perm.refl _
  | d + 1, l, i, h => by
    unfold downGo
    split
    · exact List.Perm.refl _
    · rename_i hb
      have hbn : best z lt l i < l.length := by rcases best_range z (lt := lt) l i with e | e | e <;> omega
      exact (down_perm d _ _ (by rw [sw_len]; exact hbn)).trans (sw_perm z l i _ h hbn)
include T
theorem down_heap : ∀ (d : Nat) (l : List α) (i : Nat), i < l.length → l.length < i + d + 1 → DownF lt (at_ z l) l.length i → Heap z lt (downGo z lt d l i)
  | 0, l, i, h, hd, _ => by omega
  | d + 1, l, i, h, hd, hu => by
    unfold downGo
    obtain ⟨c1, c2, c3⟩ := best_le T z l i h
    have hr := best_range z (lt := lt) l i
    by_cases hb : best z lt l i = i
    · rw [if_pos hb]
      rw [hb] at c2
      exact down_done T hu c2
    · rw [if_neg hb]
      have hlt := c3 hb
      have hbn : best z lt l i < l.length := by omega
      have hpb : par (best z lt l i) = i := by unfold par; omega
      refine down_heap d _ _ (by rw [sw_len]; exact hbn) (by rw [sw_len]; omega) ?_
      rw [sw_at z l i _ h hbn, sw_len]
      exact down_step T hu hpb (by omega) hbn hlt c2
/-- The first of a heap is not behind any. -/
theorem heap_first {l : List α} (h : Heap z lt l) : ∀ k, k < l.length → Le lt (l.getD 0 z) (l.getD k z) := by
  intro k
  induction k using Nat.strongRecOn with
  | ind k ih =>
    intro hk
    by_cases h0 : k = 0
    · subst h0; exact T.irr _
    · exact le_trans' T (ih (par k) (by unfold par; omega) (by unfold par; omega)) (h k (by omega) hk)
theorem pop_heap {l : List α} (h : Heap z lt l) (hl : 0 < l.length) : Heap z lt (popL z lt l) := by
  unfold popL
  have hlen : ((l.set 0 (l.getD (l.length - 1) z)).take (l.length - 1)).length = l.length - 1 := by simp
  by_cases h1 : l.length = 1
  · intro k k0 kn
    rw [down_len, hlen] at kn
    omega
  · have e : ∀ m, 0 < m → m < l.length - 1 → at_ z ((l.set 0 (l.getD (l.length - 1) z)).take (l.length - 1)) m = at_ z l m := fun m m0 mn => by
      unfold at_
      rw [List.getD_eq_getElem?_getD, List.getD_eq_getElem?_getD, List.getElem?_take, if_pos mn, List.getElem?_set, if_neg (by omega)]
      rw [List.getD_eq_getElem?_getD]
    refine down_heap T z _ _ _ (by rw [hlen]; omega) (by rw [hlen]; omega) ⟨fun k k0 kn kp => ?_, fun k k0 kn kp i0 => absurd i0 (by omega)⟩
    rw [hlen] at kn
    rw [e k k0 kn, e (par k) (by unfold par at *; omega) (by unfold par; omega)]
    exact h k k0 (by omega)
omit T
theorem pop_len (l : List α) : (popL z lt l).length = l.length - 1 := by
  unfold popL; rw [down_len]; simp
theorem pop_perm (l : List α) (hl : 0 < l.length) : l.Perm (l.getD 0 z :: popL z lt l) := by
  have hlen : ((l.set 0 (l.getD (l.length - 1) z)).take (l.length - 1)).length = l.length - 1 := by simp
  have hp : (popL z lt l).Perm ((l.set 0 (l.getD (l.length - 1) z)).take (l.length - 1)) := by
    by_cases h1 : l.length = 1
    · unfold popL
      have e : (l.set 0 (l.getD (l.length - 1) z)).take (l.length - 1) = [] := by rw [h1]; rfl
      rw [e, h1]
      unfold downGo
      split
      · exact List.Perm.refl _
      · rename_i hb
        have := best_range z (lt := lt) ([] : List α) 0
        simp at this
        exact absurd this hb
    · exact down_perm z _ _ _ (by rw [hlen]; omega)
  refine List.Perm.trans ?_ (hp.symm.cons _)
  -- a :: t, its last moved to the front's place
  match l, hl with
  | a :: t, _ =>
    have e0 : (a :: t).getD 0 z = a := rfl
    rw [e0]
    refine List.Perm.cons a ?_
    by_cases ht : t = []
    · subst ht; exact List.Perm.refl _
    · have hlast : (a :: t).getD ((a :: t).length - 1) z = t.getLast ht := by
        rw [List.getD_eq_getElem?_getD, List.getElem?_eq_getElem (by simp), Option.getD_some, List.getLast_eq_getElem]
        have hpos := List.length_pos_iff.2 ht
        simp only [List.length_cons, Nat.add_sub_cancel]
        rw [List.getElem_cons, dif_neg (by omega)]
      have hset : ((a :: t).set 0 ((a :: t).getD ((a :: t).length - 1) z)).take ((a :: t).length - 1) = t.getLast ht :: t.dropLast := by
        rw [hlast, List.set_cons_zero, List.length_cons, Nat.add_sub_cancel]
        obtain ⟨n, hn⟩ : ∃ n, t.length = n + 1 := ⟨t.length - 1, by have := List.length_pos_iff.2 ht; omega⟩
        rw [hn, List.take_succ_cons, List.dropLast_eq_take, hn, Nat.add_sub_cancel]
      rw [hset]
      have := List.perm_append_comm (l₁ := t.dropLast) (l₂ := [t.getLast ht])
      rw [List.dropLast_concat_getLast ht] at this
      exact this
end
end Go.Proofs.Ytpobioiagafpgaa.Pure
