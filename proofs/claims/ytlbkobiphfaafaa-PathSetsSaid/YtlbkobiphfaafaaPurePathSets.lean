/- The plain statement of the law PathSets, without program and memory. No condition. -/
import Derived.Test.YtlbkobiphfaafaaMPx9
import Derived.Test.YtlbkobiphfaafaaPlainNames
set_option linter.unusedVariables false
set_option linter.unusedSimpArgs false
namespace Go.Proofs.Ytlbkobiphfaafaa.Pure
open Go.RowKit Go.Proofs.Ytlbkobiphfaafaa.MP Go.Proofs.Ytlbkobiphfaafaa.Opening Go.Proofs.YtlbkobiphfaafaaW.PrintWords Go.Proofs.YtlbkobiphfaafaaW.PrintLast

theorem under_iff (p d : K) : under p d = true ↔ ∃ t, p = d ++ t ∧ (t = [] ∨ ∃ s, t = 47 :: s) := by
  unfold under
  constructor
  · intro h
    simp only [Bool.and_eq_true, beq_iff_eq] at h
    obtain ⟨h1, h2⟩ := h
    refine ⟨p.drop d.length, ?_, ?_⟩
    · have := List.take_append_drop d.length p
      rw [h1] at this; exact this.symm
    · cases hz : p.drop d.length with
      | nil => exact .inl rfl
      | cons c s => rw [hz] at h2; exact .inr ⟨s, by simp at h2; rw [h2]⟩
  · rintro ⟨t, rfl, rfl | ⟨s, rfl⟩⟩ <;> simp
theorem under_trans {a b c : K} (h1 : under a b = true) (h2 : under b c = true) : under a c = true := by
  rw [under_iff] at *
  obtain ⟨t, rfl, ht⟩ := h1
  obtain ⟨s, rfl, hs⟩ := h2
  refine ⟨s ++ t, by simp, ?_⟩
  rcases hs with rfl | ⟨u, rfl⟩
  · simpa using ht
  · exact .inr ⟨u ++ t, rfl⟩
theorem under_lt {a b : K} (h : under a b = true) (hne : b ≠ a) : b < a := by
  rw [under_iff] at h
  obtain ⟨t, rfl, ht⟩ := h
  have hle : b ≤ b ++ t := by
    clear hne
    induction b with
    | nil => exact List.not_lt.1 (by simp)
    | cons x b ih => simpa [List.cons_le_cons_iff] using ih
  exact lt_of_le_ne hle hne
/-- No other one of the list is above x. -/
def topOf (S : List K) (x : K) : Prop := ∀ y ∈ S, y ≠ x → under x y = false
theorem keep_top {S : List K} (hp : ∀ x : K, x ∈ S → isP x = true) : ∀ (B A acc : List K), S = A ++ B → Rise S → (∀ x, x ∈ acc ↔ x ∈ A ∧ topOf A x) → (acc = [] → A = []) → Rise acc → (∀ x ∈ acc, ∀ y ∈ B, x < y) →
    Rise (keepL B acc) ∧ ∀ x, x ∈ keepL B acc ↔ x ∈ S ∧ topOf S x
  | [], A, acc, hS, hr, hm, hn, hra, hlt => by
    subst hS
    simp only [keepL, List.append_nil]
    exact ⟨hra, hm⟩
  | s :: t, A, acc, hS, hr, hm, hn, hra, hlt => by
    have hS' : S = (A ++ [s]) ++ t := by rw [hS]; simp
    have hr' := hr
    rw [hS] at hr'
    obtain ⟨-, hst, hAs⟩ := List.pairwise_append.1 hr'
    obtain ⟨hs1, hs2⟩ := List.pairwise_cons.1 hst
    have hsA : s ∉ A := fun h => lt_irr s (hAs s h s (by simp))
    -- s is above none of those ahead of it
    have hno : ∀ x ∈ A, under x s = false := by
      intro x hx
      cases e : under x s with
      | false => rfl
      | true =>
        have h1 := hAs x hx s (by simp)
        have h2 := under_lt e (fun e => by subst e; exact hsA hx)
        exact absurd (lt_tr h1 h2) (lt_irr x)
    -- what the kept ones have, all ahead have
    have hany : acc.any (under s) = true ↔ ¬ topOf A s := by
      rw [List.any_eq_true]
      constructor
      · rintro ⟨x, hx, hu⟩ ht
        have hxA := ((hm x).1 hx).1
        have := ht x hxA (fun e => hsA (e ▸ hxA))
        rw [hu] at this; cases this
      · intro ht
        -- the least of those above s
        have : ∃ y ∈ A, under s y = true ∧ topOf A y := by
          have hex : ∃ y ∈ A, under s y = true := by
            apply Classical.byContradiction
            intro hne
            apply ht
            intro y hy _
            cases e : under s y with
            | false => rfl
            | true => exact absurd ⟨y, hy, e⟩ hne
          obtain ⟨y, hy, hu⟩ := hex
          have hwf : ∀ (n : Nat) (y : K), y.length = n → y ∈ A → under s y = true → ∃ z ∈ A, under s z = true ∧ topOf A z := by
            intro n
            induction n using Nat.strongRecOn with
            | _ n ih =>
              intro y hn hy hu
              by_cases htop : topOf A y
              · exact ⟨y, hy, hu, htop⟩
              · have : ∃ z ∈ A, z ≠ y ∧ under y z = true := by
                  apply Classical.byContradiction
                  intro hne
                  apply htop
                  intro z hz hzy
                  cases e : under y z with
                  | false => rfl
                  | true => exact absurd ⟨z, hz, hzy, e⟩ hne
                obtain ⟨z, hz, hzy, hyz⟩ := this
                have hlen : z.length < n := by
                  obtain ⟨u, e, hu2⟩ := (under_iff y z).1 hyz
                  rcases hu2 with rfl | ⟨v, rfl⟩
                  · exact absurd (by simpa using e.symm) hzy
                  · rw [← hn, e]; simp
                exact ih z.length hlen z rfl hz (under_trans hu hyz)
          exact hwf y.length y rfl hy hu
        obtain ⟨y, hy, hu, htop⟩ := this
        exact ⟨y, (hm y).2 ⟨hy, htop⟩, hu⟩
    have hps := hp s (by rw [hS]; simp)
    -- the relation one step on
    have hstep : ∀ x, (x ∈ A ++ [s] ∧ topOf (A ++ [s]) x) ↔ (x ∈ acc ∨ (x = s ∧ topOf A s)) := by
      intro x
      constructor
      · rintro ⟨h1, h2⟩
        rcases List.mem_append.1 h1 with h | h
        · exact .inl ((hm x).2 ⟨h, fun y hy hne => h2 y (List.mem_append_left _ hy) hne⟩)
        · obtain rfl : x = s := by simpa using h
          exact .inr ⟨rfl, fun y hy hne => h2 y (List.mem_append_left _ hy) hne⟩
      · rintro (h | ⟨rfl, h⟩)
        · obtain ⟨h1, h2⟩ := (hm x).1 h
          refine ⟨List.mem_append_left _ h1, fun y hy hne => ?_⟩
          rcases List.mem_append.1 hy with hy | hy
          · exact h2 y hy hne
          · obtain rfl : y = s := by simpa using hy
            exact hno x h1
        · refine ⟨by simp, fun y hy hne => ?_⟩
          rcases List.mem_append.1 hy with hy | hy
          · exact h y hy hne
          · exact absurd (by simpa using hy) hne
    simp only [keepL]
    by_cases h0 : acc = []
    · rw [if_pos h0]
      have hA := hn h0
      subst hA
      subst h0
      refine keep_top hp t ([] ++ [s]) [s] hS' hr (fun x => ?_) (by simp) (List.pairwise_singleton _ _) (fun x hx y hy => by
        obtain rfl : x = s := by simpa using hx
        exact hs1 y hy)
      rw [hstep]
      simp [topOf]
    · rw [if_neg h0]
      have hh : hasS acc s = acc.any (under s) := by
        unfold hasS
        have : acc.isEmpty = false := by simpa using h0
        rw [hps, this]; simp
      rw [hh]
      by_cases h1 : acc.any (under s) = true
      · rw [if_pos h1]
        refine keep_top hp t (A ++ [s]) acc hS' hr (fun x => ?_) (fun e => absurd e h0) hra (fun x hx y hy => hlt x hx y (List.mem_cons_of_mem _ hy))
        rw [hstep]
        have := hany.1 h1
        simp [this]
      · rw [if_neg h1]
        have htop : topOf A s := Classical.byContradiction fun h => h1 (hany.2 h)
        refine keep_top hp t (A ++ [s]) (acc ++ [s]) hS' hr (fun x => ?_) (by simp) ?_ ?_
        · rw [hstep]; simp [htop]
        · refine List.pairwise_append.2 ⟨hra, List.pairwise_singleton _ _, fun x hx y hy => ?_⟩
          obtain rfl : y = s := by simpa using hy
          exact hlt x hx y (by simp)
        · intro x hx y hy
          rcases List.mem_append.1 hx with hx | hx
          · exact hlt x hx y (List.mem_cons_of_mem _ hy)
          · obtain rfl : x = s := by simpa using hx
            exact hs1 y hy
theorem refLimit_l1 {l : List ByteArray} (hl : l.length ≤ 16) {i : Nat} (hi : i < l.length) {acc : List ByteArray} {B : Nat} {R : Option (List ByteArray × Int)}
    (hT : ∀ k, B < k → (∃ y ∈ keys l, y ≠ key l[i] ∧ under (key l[i]) y = true) → forebearref03_Limit.l1 k l acc i true l.length = R)
    (hF : ∀ k, B < k → topOf (keys l) (key l[i]) → forebearref03_Limit.l1 k l acc i false l.length = R) (d : Nat) : ∀ (j k : Nat) (b : Bool), l.length - j = d → j ≤ l.length →
    (b = true → ∃ y ∈ keys l, y ≠ key l[i] ∧ under (key l[i]) y = true) → (b = false → ∀ y ∈ (keys l).take j, y ≠ key l[i] → under (key l[i]) y = false) → B + d < k →
    forebearref03_Limit.l1 k l acc i b j = R := by
  induction d with
  | zero =>
    intro j k b hd hj h1 h2 hk
    obtain rfl : j = l.length := by omega
    cases b with
    | true => exact hT k (by omega) (h1 rfl)
    | false =>
      refine hF k (by omega) ?_
      have := h2 rfl
      rwa [List.take_of_length_le (by simp)] at this
  | succ d ih =>
    intro j k b hd hj h1 h2 hk
    obtain ⟨k, rfl⟩ : ∃ m, k = m + 1 := ⟨k - 1, by omega⟩
    have hlt : j < l.length := by omega
    simp only [forebearref03_Limit.l1]
    rw [if_pos (by omega), wnat hlt (by omega)]
    have htk : (keys l).take (j + 1) = (keys l).take j ++ [key l[j]] := by
      rw [List.take_add_one]; simp [hlt]
    cases b with
    | true =>
      simp only [if_true]
      exact ih (j + 1) k true (by omega) (by omega) h1 (by simp) (by omega)
    | false =>
      simp only [Bool.false_eq_true, if_false]
      rw [if_pos (by omega), if_pos (by omega), if_pos (by omega), rdOf_nat l j hlt, rdOf_nat l i hi, toList_key, toList_key]
      by_cases he : key l[j] = key l[i]
      · rw [if_pos he]
        refine ih (j + 1) k false (by omega) (by omega) (by simp) (fun _ y hy hne => ?_) (by omega)
        rw [htk] at hy
        rcases List.mem_append.1 hy with hy | hy
        · exact h2 rfl y hy hne
        · exact absurd ((by simpa using hy : y = key l[j]).trans he) hne
      · rw [if_neg he, refUnder_f]
        simp only [Option.bind_some]
        refine ih (j + 1) k _ (by omega) (by omega) (fun e => ⟨key l[j], List.mem_map_of_mem (List.getElem_mem hlt), he, e⟩) (fun e y hy hne => ?_) (by omega)
        rw [htk] at hy
        rcases List.mem_append.1 hy with hy | hy
        · exact h2 rfl y hy hne
        · rw [(by simpa using hy : y = key l[j])]; exact e
theorem refLimit_l0 {l : List ByteArray} (hl : l.length ≤ 16) (d : Nat) : ∀ (i k : Nat) (acc : List ByteArray), l.length - i = d → i ≤ l.length → acc.length ≤ i → Rise (keys acc) → (∀ x, x ∈ keys acc ↔ x ∈ (keys l).take i ∧ topOf (keys l) x) → 200 * d + 5000 < k →
    ∃ r, forebearref03_Limit.l0 k l acc i = some (r, code (((keys l).drop i).all isP)) ∧ (((keys l).drop i).all isP = false → r = []) ∧ (((keys l).drop i).all isP = true → Rise (keys r) ∧ ∀ x, x ∈ keys r ↔ x ∈ keys l ∧ topOf (keys l) x) := by
  induction d with
  | zero =>
    intro i k acc hd hi ha hr hm hk
    obtain ⟨k, rfl⟩ : ∃ m, k = m + 1 := ⟨k - 1, by omega⟩
    simp only [forebearref03_Limit.l0]
    rw [if_neg (by omega), List.drop_eq_nil_of_le (by simp; omega)]
    refine ⟨acc, rfl, by simp, fun _ => ⟨hr, fun x => ?_⟩⟩
    rw [hm, List.take_of_length_le (by simp; omega)]
  | succ d ih =>
    intro i k acc hd hi ha hr hm hk
    obtain ⟨k, rfl⟩ : ∃ m, k = m + 1 := ⟨k - 1, by omega⟩
    have hlt : i < l.length := by omega
    simp only [forebearref03_Limit.l0]
    rw [if_pos (by omega), if_pos (by omega), rdOf_nat l i hlt, refIs_f k (by omega), keys_drop hlt]
    simp only [Option.bind_some, List.all_cons]
    have htk : (keys l).take (i + 1) = (keys l).take i ++ [key l[i]] := by
      rw [List.take_add_one]; simp [hlt]
    by_cases hp : isP (key l[i]) = true
    · rw [if_pos hp, hp]
      simp only [Bool.true_and]
      by_cases ht : topOf (keys l) (key l[i])
      · obtain ⟨q, w1, w2, w3, w4⟩ := refWith_f (l := acc) (by omega) l[i] 1000 (by omega) hr
        have hq : ∀ x, x ∈ keys q ↔ x ∈ (keys l).take (i + 1) ∧ topOf (keys l) x := by
          intro x
          rw [w3, hm, htk]
          constructor
          · rintro (rfl | ⟨g1, g2⟩)
            · exact ⟨by simp, ht⟩
            · exact ⟨List.mem_append_left _ g1, g2⟩
          · rintro ⟨g1, g2⟩
            rcases List.mem_append.1 g1 with g1 | g1
            · exact .inr ⟨g1, g2⟩
            · exact .inl (by simpa using g1)
        obtain ⟨r, g1, g2, g3⟩ := ih (i + 1) (200 * d + 5001) q (by omega) (by omega) (by omega) w2 hq (by omega)
        refine ⟨r, ?_, g2, g3⟩
        refine refLimit_l1 hl hlt (B := 200 * d + 5002) (fun k hk hex => ?_) (fun k hk _ => ?_) l.length 0 k false (by omega) (by omega) (by simp) (by simp) (by omega)
        · obtain ⟨y, hy, hne, hu⟩ := hex
          rw [ht y hy hne] at hu; cases hu
        · obtain ⟨k, rfl⟩ : ∃ m, k = m + 1 := ⟨k - 1, by omega⟩
          simp only [forebearref03_Limit.l1]
          rw [if_neg (by omega)]
          simp only [Bool.false_eq_true, if_false]
          rw [if_pos (by omega), if_pos (by omega), rdOf_nat l i hlt]
          obtain ⟨q', w1', w2', w3', -⟩ := refWith_f (l := acc) (by omega) l[i] k (by omega) hr
          have hqq : q' = q := by
            have : keys q' = keys q := rise_eq w2' w2 fun x => by rw [w3', w3]
            exact (List.map_inj_right (fun a b e => key_inj e)).1 this
          subst hqq
          rw [w1']
          simp only [Option.bind_some]
          rw [wnat hlt (by omega)]
          obtain ⟨r', g1', g2', g3'⟩ := ih (i + 1) k q' (by omega) (by omega) (by omega) w2 hq (by omega)
          rw [g1']
          have : r' = r := by
            cases e : ((keys l).drop (i + 1)).all isP with
            | false => rw [g2 e, g2' e]
            | true =>
              have h1 := g3 e
              have h2 := g3' e
              have : keys r' = keys r := rise_eq h2.1 h1.1 fun x => by rw [h1.2, h2.2]
              exact (List.map_inj_right (fun a b e => key_inj e)).1 this
          rw [this]
      · have hq : ∀ x, x ∈ keys acc ↔ x ∈ (keys l).take (i + 1) ∧ topOf (keys l) x := by
          intro x
          rw [hm, htk]
          constructor
          · rintro ⟨g1, g2⟩; exact ⟨List.mem_append_left _ g1, g2⟩
          · rintro ⟨g1, g2⟩
            rcases List.mem_append.1 g1 with g1 | g1
            · exact ⟨g1, g2⟩
            · exact absurd ((by simpa using g1 : x = key l[i]) ▸ g2) ht
        obtain ⟨r, g1, g2, g3⟩ := ih (i + 1) (200 * d + 5001) acc (by omega) (by omega) (by omega) hr hq (by omega)
        refine ⟨r, ?_, g2, g3⟩
        refine refLimit_l1 hl hlt (B := 200 * d + 5002) (fun k hk _ => ?_) (fun k hk htop => absurd htop ht) l.length 0 k false (by omega) (by omega) (by simp) (by simp) (by omega)
        obtain ⟨k, rfl⟩ : ∃ m, k = m + 1 := ⟨k - 1, by omega⟩
        simp only [forebearref03_Limit.l1]
        rw [if_neg (by omega)]
        simp only [if_true]
        rw [wnat hlt (by omega)]
        obtain ⟨r', g1', g2', g3'⟩ := ih (i + 1) k acc (by omega) (by omega) (by omega) hr hq (by omega)
        rw [g1']
        have : r' = r := by
          cases e : ((keys l).drop (i + 1)).all isP with
          | false => rw [g2 e, g2' e]
          | true =>
            have h1 := g3 e
            have h2 := g3' e
            have : keys r' = keys r := rise_eq h2.1 h1.1 fun x => by rw [h1.2, h2.2]
            exact (List.map_inj_right (fun a b e => key_inj e)).1 this
        rw [this]
    · have hp' : isP (key l[i]) = false := by simpa using hp
      rw [if_neg hp, hp']
      exact ⟨[], rfl, fun _ => rfl, by simp⟩
theorem refLimit_f {l : List ByteArray} (k : Nat) (hk : 10000 < k) : ∃ r, forebearref03_Limit.f k l = some (r, limitC (keys l)) ∧ keys r = limitP (keys l) (keys (sd l)) := by
  unfold forebearref03_Limit.f limitP limitC
  by_cases h : l.length > 16
  · rw [if_pos (by omega), if_pos (by simpa using h)]
    exact ⟨[], rfl, by simp⟩
  · rw [if_neg (by omega), if_neg (by simpa using h)]
    obtain ⟨r, h1, h2, h3⟩ := refLimit_l0 (l := l) (by omega) l.length 0 k [] (by omega) (by omega) (by simp) List.Pairwise.nil (by simp) (by omega)
    rw [show ((0 : Nat) : Int) = 0 from rfl] at h1
    rw [List.drop_zero] at h1 h2 h3
    refine ⟨r, ?_, ?_⟩
    · rw [h1]; cases (keys l).all isP <;> simp [code]
    · cases e : (keys l).all isP with
      | false => simp [h2 e]
      | true =>
        obtain ⟨g1, g2⟩ := h3 e
        simp only [if_true]
        have hpS : ∀ x, x ∈ keys (sd l) → isP x = true := fun x hx => List.all_eq_true.1 e x ((sd_mem l x).1 hx)
        obtain ⟨t1, t2⟩ := keep_top (S := keys (sd l)) hpS (keys (sd l)) [] [] rfl (sd_rise l) (by simp) (by simp) List.Pairwise.nil (by simp)
        refine rise_eq g1 t1 fun x => ?_
        rw [g2, t2, sd_mem]
        have : topOf (keys l) x ↔ topOf (keys (sd l)) x := by
          unfold topOf
          constructor
          · intro h y hy; exact h y ((sd_mem l y).1 hy)
          · intro h y hy; exact h y ((sd_mem l y).2 hy)
        rw [this]
theorem firstOf_any {α : Type} {p : α → Option Bool} {b : α → Bool} : ∀ (l : List α) (i : Int), (∀ x ∈ l, p x = some (b x)) → 0 ≤ i → ∃ r, firstOf p l i = some r ∧ decide (0 ≤ r) = l.any b
  | [], i, _, _ => ⟨-1, rfl, by simp⟩
  | x :: t, i, h, hi => by
    simp only [firstOf, h x (by simp), Option.bind_some, List.any_cons]
    cases e : b x with
    | true => exact ⟨i, rfl, by simp [hi]⟩
    | false =>
      obtain ⟨r, h1, h2⟩ := firstOf_any (b := b) t (i + 1) (fun y hy => h y (List.mem_cons_of_mem _ hy)) (by omega)
      exact ⟨r, by simpa using h1, by simpa using h2⟩
theorem any_f {s l : List ByteArray} (hs : s.length ≤ 1000) (hl : ∀ x ∈ l, x.size ≤ 140737488351232) (k : Nat) (hk : 140737488351300 < k) : path_Set_Any.f k s l = some ((keys l).any (hasS (keys s))) := by
  unfold path_Set_Any.f
  obtain ⟨r, h1, h2⟩ := firstOf_any (p := fun x => path_Set_Has.f k s x) (b := fun x => hasS (keys s) (key x)) l 0 (fun x hx => has_f (hl x hx) (by omega) k (by have := hl x hx; omega) (by omega)) (by omega)
  rw [h1]
  simp only [Option.bind_some]
  rw [h2, List.any_map]; rfl
theorem sets_loop {s w a : List ByteArray} (hs : s.length ≤ 1000) (hw : w.length ≤ 1000) (hsw : keys s = keys w) (ha : ∀ x ∈ a, x.size ≤ 140737488351232) (hal : a.length ≤ 300) (d : Nat) : ∀ (i k : Nat), a.length - i = d → i ≤ a.length → d + 140737488352000 < k →
    forebearlaw03_PathSets.l0 k a w (((keys a).take i).any (hasS (keys s))) i s = some true := by
  induction d with
  | zero =>
    intro i k hd hi hk
    obtain ⟨k, rfl⟩ : ∃ m, k = m + 1 := ⟨k - 1, by omega⟩
    obtain rfl : i = a.length := by omega
    simp only [forebearlaw03_PathSets.l0]
    rw [if_neg (by omega), any_f hs ha k (by omega), List.take_of_length_le (by simp)]
    simp only [Option.bind_some, beq_self_eq_true, if_true]
    rw [any_f hs (by simp) k (by omega)]; rfl
  | succ d ih =>
    intro i k hd hi hk
    obtain ⟨k, rfl⟩ : ∃ m, k = m + 1 := ⟨k - 1, by omega⟩
    have hlt : i < a.length := by omega
    have hz := ha a[i] (List.getElem_mem hlt)
    have htk : (keys a).take (i + 1) = (keys a).take i ++ [key a[i]] := by
      rw [List.take_add_one]; simp [hlt]
    simp only [forebearlaw03_PathSets.l0]
    rw [if_pos (by omega), if_pos (by omega), rdOf_nat a i hlt, refIn_f hw k (by omega), has_f hz (by omega) k (by omega) (by omega), hsw]
    simp only [Option.bind_some, bne_self_eq_false, Bool.false_eq_true, if_false]
    rw [wnat hlt (by omega)]
    have := ih (i + 1) k (by omega) (by omega) (by omega)
    rw [htk, hsw, List.any_append] at this
    simp only [List.any_cons, List.any_nil, Bool.or_false] at this
    by_cases h : ((keys a).take i).any (hasS (keys w)) = true
    · rw [if_pos h]; rw [h] at this; simpa using this
    · have h' : ((keys a).take i).any (hasS (keys w)) = false := by simpa using h
      rw [if_neg h]; rw [h'] at this; simpa using this
theorem PathSets : forebearlaw03_PathSets.Pure := by
  intro l a hl ha
  obtain ⟨hl1, -, hl2⟩ := hl
  obtain ⟨-, -, ha2⟩ := ha
  obtain ⟨B, hB⟩ : ∃ B : Nat, B = 140737488361000 := ⟨_, rfl⟩
  refine ⟨B, ?_⟩
  unfold forebearlaw03_PathSets.f
  rw [awake_f B (by omega)]
  simp only [Option.bind_some, if_true]
  by_cases h : (a.length : Int) > 300
  · rw [if_pos h]
  rw [if_neg h, if_pos (by simp; omega), List.nil_append]
  obtain ⟨s, h1, h2⟩ := limit_f (l := l) 140737488351233 (fun s hs => ⟨by have := hl2 s hs; omega, hl2 s hs⟩) B (by omega)
  obtain ⟨w, g1, g2⟩ := refLimit_f (l := l) B (by omega)
  have hsl : s.length ≤ 16 := by have := limitP_len l; rw [← h2, List.length_map] at this; exact this
  have hwl : w.length ≤ 16 := by have := limitP_len l; rw [← g2, List.length_map] at this; exact this
  have hsw : keys s = keys w := h2.trans g2.symm
  rw [h1, g1]
  simp only [Option.bind_some, if_true]
  rw [paths_f s (by omega)]
  simp only [Option.bind_some]
  rw [same_f (by omega) B (by omega), hsw]
  simp only [Option.bind_some, decide_true, Bool.not_true]
  have hj : ∀ k, 140737488360000 < k → forebearlaw03_PathSets.j0 k a w false s = some true := by
    intro k hk
    obtain ⟨k, rfl⟩ : ∃ m, k = m + 1 := ⟨k - 1, by omega⟩
    simp only [forebearlaw03_PathSets.j0, Bool.false_eq_true, if_false]
    have := sets_loop (s := s) (w := w) (a := a) (by omega) (by omega) hsw ha2 (by omega) a.length 0 k (by omega) (by omega) (by omega)
    simpa using this
  exact hj B (by omega)
end Go.Proofs.Ytlbkobiphfaafaa.Pure
