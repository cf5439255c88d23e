/- The plain statement of the law PathAlike, without program and memory. No condition. -/
import Derived.Test.YtlbkobiphfaafaaMPx6
import Derived.Test.YtlbkobiphfaafaaPlainLimit
set_option linter.unusedVariables false
set_option linter.unusedSimpArgs false
namespace Go.Proofs.Ytlbkobiphfaafaa.Pure
open Go.RowKit Go.Proofs.Ytlbkobiphfaafaa.MP Go.Proofs.YtlbkobiphfaafaaW.PrintWords Go.Proofs.YtlbkobiphfaafaaW.PrintLast

theorem isP_of_has {s : List K} {q : K} (h : hasS s q = true) : isP q = true := by unfold hasS at h; simp at h; exact h.1
/-- What is kept goes on. -/
theorem keep_append : ∀ (A B acc : List K), keepL (A ++ B) acc = keepL B (keepL A acc)
  | [], B, acc => rfl
  | s :: t, B, acc => by
    simp only [List.cons_append, keepL]
    split
    · exact keep_append t B _
    · split
      · exact keep_append t B _
      · exact keep_append t B _
theorem keep_acc : ∀ (S acc : List K), ∃ m, keepL S acc = acc ++ m ∧ m.Sublist S
  | [], acc => ⟨[], by simp [keepL], List.Sublist.refl _⟩
  | s :: t, acc => by
    unfold keepL
    split
    · rename_i h; subst h
      obtain ⟨m, h1, h2⟩ := keep_acc t [s]
      exact ⟨s :: m, by rw [h1]; simp, h2.cons_cons _⟩
    · split
      · obtain ⟨m, h1, h2⟩ := keep_acc t acc
        exact ⟨m, h1, h2.cons _⟩
      · obtain ⟨m, h1, h2⟩ := keep_acc t (acc ++ [s])
        exact ⟨s :: m, by rw [h1]; simp, h2.cons_cons _⟩
theorem keep_sub (S : List K) : (keepL S []).Sublist S := by
  obtain ⟨m, h1, h2⟩ := keep_acc S []
  rw [h1]; simpa using h2
/-- The set of what is kept is kept whole. -/
theorem keep_keep : ∀ (S acc : List K) (m : List K), keepL S acc = acc ++ m → keepL m acc = acc ++ m
  | [], acc, m, h => by
    have : m = [] := by simpa [keepL] using h
    subst this; simp [keepL]
  | s :: t, acc, m, h => by
    unfold keepL at h
    split at h
    · rename_i h0; subst h0
      obtain ⟨m', e, -⟩ := keep_acc t [s]
      have hm : m = s :: m' := by rw [e] at h; simpa using h.symm
      subst hm
      have := keep_keep t [s] m' e
      simp only [keepL, if_true]
      rw [this]; simp
    · rename_i h0
      split at h
      · exact keep_keep t acc m h
      · rename_i h1
        obtain ⟨m', e, -⟩ := keep_acc t (acc ++ [s])
        have hm : m = s :: m' := by rw [e] at h; simpa using h.symm
        subst hm
        have := keep_keep t (acc ++ [s]) m' e
        simp only [keepL]
        rw [if_neg h0, if_neg h1, this]; simp
theorem keep_self (S : List K) : keepL (keepL S []) [] = keepL S [] := by
  obtain ⟨m, e, -⟩ := keep_acc S []
  rw [e]
  simpa using keep_keep S [] m e
theorem under_pre {p d : K} (h : under p d = true) : ∃ t, p = d ++ t := by
  unfold under at h
  simp at h
  refine ⟨p.drop d.length, ?_⟩
  have := List.take_append_drop d.length p
  rw [h.1] at this
  exact this.symm
theorem pre_le (d t : K) : d ≤ d ++ t := by
  induction d with
  | nil => exact List.not_lt.1 (by simp)
  | cons a d ih => simpa [List.cons_le_cons_iff] using ih
/-- One more path that the set has already makes no other set. -/
theorem keep_more {S S' : List K} {q : K} (hS : Rise S) (hS' : Rise S') (hm : ∀ x, x ∈ S' ↔ x = q ∨ x ∈ S) (hq : hasS (keepL S []) q = true) (hne : keepL S [] ≠ []) : keepL S' [] = keepL S [] := by
  by_cases hin : q ∈ S
  · rw [rise_eq hS' hS fun x => by rw [hm]; exact ⟨fun h => h.elim (fun e => e ▸ hin) id, .inr⟩]
  · -- S is what lies ahead of q, and what lies behind it
    have hsplit : ∃ A B, S = A ++ B ∧ (∀ x ∈ A, x < q) ∧ ∀ x ∈ B, q < x := by
      clear hS' hm hq hne
      induction S with
      | nil => exact ⟨[], [], rfl, by simp, by simp⟩
      | cons a t ih =>
        obtain ⟨h1, h2⟩ := List.pairwise_cons.1 hS
        rcases lt_or_eq_or_gt a q with h | h | h
        · obtain ⟨A, B, e, hA, hB⟩ := ih h2 (fun hx => hin (List.mem_cons_of_mem _ hx))
          exact ⟨a :: A, B, by rw [e]; rfl, fun x hx => by
            rcases List.mem_cons.1 hx with rfl | hx
            · exact h
            · exact hA x hx, hB⟩
        · exact absurd (by simp [h]) hin
        · exact ⟨[], a :: t, rfl, by simp, fun x hx => by
            rcases List.mem_cons.1 hx with rfl | hx
            · exact h
            · exact lt_tr h (h1 x hx)⟩
    obtain ⟨A, B, rfl, hA, hB⟩ := hsplit
    have hS2 : S' = A ++ q :: B := by
      refine rise_eq hS' ?_ fun x => ?_
      · obtain ⟨p1, p2, p3⟩ := List.pairwise_append.1 hS
        refine List.pairwise_append.2 ⟨p1, List.pairwise_cons.2 ⟨hB, p2⟩, fun x hx y hy => ?_⟩
        rcases List.mem_cons.1 hy with rfl | hy
        · exact hA x hx
        · exact p3 x hx y hy
      · rw [hm]; simp only [List.mem_append, List.mem_cons]
        constructor
        · rintro (h | h | h) <;> simp [h]
        · rintro (h | h | h) <;> simp [h]
    subst hS2
    rw [keep_append, keep_append]
    have hhas : keepL A [] ≠ [] ∧ hasS (keepL A []) q = true := by
      rw [keep_append] at hq hne
      obtain ⟨m, e, hsub⟩ := keep_acc B (keepL A [])
      rw [e] at hq hne
      have hp := isP_of_has hq
      unfold hasS at hq
      simp only [hp, Bool.true_and, Bool.or_eq_true, List.any_eq_true, List.isEmpty_iff] at hq
      rcases hq with ⟨x, hx, hu⟩ | hq
      · have hxA : x ∈ keepL A [] := by
          rcases List.mem_append.1 hx with h | h
          · exact h
          · obtain ⟨t, ht⟩ := under_pre hu
            have h1 := hB x (hsub.subset h)
            have h2 := pre_le x t
            rw [← ht] at h2
            exact absurd h1 (List.not_lt.2 h2)
        exact ⟨List.ne_nil_of_mem hxA, by unfold hasS; simp only [hp, Bool.true_and, Bool.or_eq_true, List.any_eq_true]; exact .inl ⟨x, hxA, hu⟩⟩
      · exact absurd hq hne
    simp only [keepL]
    rw [if_neg hhas.1, if_pos hhas.2]

theorem limitC_of {l m : List ByteArray} (h : l.length = m.length) (hm : ∀ x, x ∈ keys l ↔ x ∈ keys m) : limitC (keys l) = limitC (keys m) := by
  unfold limitC
  have : (keys l).all isP = (keys m).all isP := by
    rw [Bool.eq_iff_iff, List.all_eq_true, List.all_eq_true]
    exact ⟨fun g x hx => g x ((hm x).2 hx), fun g x hx => g x ((hm x).1 hx)⟩
  rw [this]
  simp [h]
theorem limitC_le {l : List ByteArray} (h : l.length ≤ 16) (hp : ∀ x ∈ keys l, isP x = true) : limitC (keys l) = 0 := by
  unfold limitC
  rw [if_neg (by simpa using h), if_pos (List.all_eq_true.2 hp)]
theorem limitC_all {l : List ByteArray} (h : limitC (keys l) = 0) : l.length ≤ 16 ∧ ∀ x ∈ keys l, isP x = true := by
  unfold limitC at h
  split at h
  · simp at h
  · rename_i h1
    split at h
    · rename_i h2
      exact ⟨by simpa using h1, List.all_eq_true.1 h2⟩
    · simp at h
/-- The set of a set's own paths is that set. -/
theorem limit_again {l s : List ByteArray} (hs : keys s = limitP (keys l) (keys (sd l))) : limitC (keys s) = 0 ∧ limitP (keys s) (keys (sd s)) = keys s := by
  have hlen := limitP_len l
  rw [← hs, List.length_map] at hlen
  by_cases hc : limitC (keys l) = 0
  · obtain ⟨h1, h2⟩ := limitC_all hc
    unfold limitP at hs
    rw [if_pos hc] at hs
    have hsub := keep_sub (keys (sd l))
    rw [← hs] at hsub
    have hr : Rise (keys s) := (sd_rise l).sublist hsub
    have h0 : limitC (keys s) = 0 := limitC_le hlen fun x hx => h2 x ((sd_mem l x).1 (hsub.subset hx))
    refine ⟨h0, ?_⟩
    unfold limitP
    rw [if_pos h0, rise_eq (sd_rise s) hr fun x => sd_mem s x, hs]
    exact keep_self _
  · unfold limitP at hs
    rw [if_neg hc] at hs
    have hs0 : s = [] := by simpa using hs
    subst hs0
    exact ⟨by decide, by
      have : keys (sd []) = [] := rise_eq (sd_rise []) List.Pairwise.nil fun x => sd_mem [] x
      rw [this]; decide⟩
theorem mark_loop {s v : List ByteArray} (hs : s.length ≤ 100) (hv : v.length ≤ 100) (d : Nat) : ∀ (i k : Nat) (x : List ByteArray), x.length - i = d → i ≤ x.length → x.length ≤ 100 → d + 200 < k →
    forebearlaw03_PathAlike.l1 k 0 x i s v = some (decide (keys v = keys s)) := by
  induction d with
  | zero =>
    intro i k x hd hi hx hk
    obtain ⟨k, rfl⟩ : ∃ m, k = m + 1 := ⟨k - 1, by omega⟩
    simp only [forebearlaw03_PathAlike.l1]
    rw [if_neg (by omega)]
    simp only [if_true]
    rw [paths_f v (by omega), paths_f s (by omega)]
    simp only [Option.bind_some]
    rw [same_f (by omega) k (by omega)]; rfl
  | succ d ih =>
    intro i k x hd hi hx hk
    obtain ⟨k, rfl⟩ : ∃ m, k = m + 1 := ⟨k - 1, by omega⟩
    simp only [forebearlaw03_PathAlike.l1]
    rw [if_pos (by omega), if_pos (by omega), wnat (n := x.length) (by omega) (by omega)]
    exact ih (i + 1) k _ (by simp; omega) (by simp; omega) (by simp; omega) (by omega)
theorem back_loop {l s : List ByteArray} {q : ByteArray} {e : Int} {B : Nat} (hl : l.length ≤ 300) (h : ∀ k, B < k → forebearlaw03_PathAlike.l0 k l q e l.reverse (-1) s = some true) :
    ∀ (j k : Nat), j ≤ l.length → B + j < k → forebearlaw03_PathAlike.l0 k l q e (l.drop j).reverse ((j : Int) - 1) s = some true
  | 0, k, _, hk => by simpa using h k (by omega)
  | j + 1, k, hj, hk => by
    obtain ⟨k, rfl⟩ : ∃ m, k = m + 1 := ⟨k - 1, by omega⟩
    have hlt : j < l.length := by omega
    have e1 : ((j + 1 : Nat) : Int) - 1 = (j : Int) := by omega
    rw [e1]
    simp only [forebearlaw03_PathAlike.l0]
    have e2 : wrap64 ((j : Int) - 1) = (j : Int) - 1 := by unfold wrap64; omega
    rw [if_pos (by omega), if_pos (by omega), if_pos (by omega), if_pos (by simp; omega), rdOf_nat l j hlt, e2]
    have := back_loop hl h j k (by omega) (by omega)
    rw [List.drop_eq_getElem_cons hlt, List.reverse_cons] at this
    exact this
theorem PathAlike : forebearlaw03_PathAlike.Pure := by
  intro l q hl hq
  obtain ⟨-, -, hl2⟩ := hl
  obtain ⟨B, hB⟩ : ∃ B : Nat, B = 140737488361000 := ⟨_, rfl⟩
  refine ⟨B, ?_⟩
  unfold forebearlaw03_PathAlike.f
  rw [awake_f B (by omega)]
  simp only [Option.bind_some, if_true]
  by_cases h : (l.length : Int) > 300
  · rw [if_pos h]
  rw [if_neg h]
  have hb : ∀ s ∈ l, s.size < 140737488351233 ∧ s.size ≤ 140737488351232 := fun s hs => ⟨by have := hl2 s hs; omega, hl2 s hs⟩
  obtain ⟨s, hs1, hs2⟩ := limit_f (l := l) 140737488351233 hb B (by omega)
  rw [hs1]
  simp only [Option.bind_some]
  have hmain : ∀ k, 140737488360000 < k → forebearlaw03_PathAlike.l0 k l q (limitC (keys l)) l.reverse (-1) s = some true := by
    intro k hk
    obtain ⟨k, rfl⟩ : ∃ m, k = m + 1 := ⟨k - 1, by omega⟩
    have hmem : ∀ x, x ∈ keys l.reverse ↔ x ∈ keys l := by intro x; simp
    have hbr : ∀ s ∈ l.reverse, s.size < 140737488351233 ∧ s.size ≤ 140737488351232 := fun s hs => hb s (by simpa using hs)
    obtain ⟨t, ht1, ht2⟩ := limit_f (l := l.reverse) 140737488351233 hbr k (by omega)
    have hsl : s.length ≤ 16 := by have := limitP_len l; rw [← hs2, List.length_map] at this; exact this
    have htl : t.length ≤ 16 := by have := limitP_len l.reverse; rw [← ht2, List.length_map] at this; exact this
    have hc := limitC_of (l := l.reverse) (m := l) (by simp) hmem
    have hts : keys t = keys s := by
      rw [ht2, hs2]; unfold limitP
      rw [hc, sd_same hmem]
    obtain ⟨hag1, hag2⟩ := limit_again hs2
    have hsb : ∀ x ∈ s, x.size < 140737488351233 ∧ x.size ≤ 140737488351232 := by
      intro x hx
      have hx' : key x ∈ limitP (keys l) (keys (sd l)) := by rw [← hs2]; exact List.mem_map_of_mem hx
      unfold limitP at hx'
      split at hx'
      · have := (sd_mem l _).1 ((keep_sub _).subset hx')
        obtain ⟨y, hy, e⟩ := List.mem_map.1 this
        rw [← key_inj e]
        exact hb y hy
      · simp at hx'
    obtain ⟨u, hu1, hu2⟩ := limit_f (l := s) 140737488351233 hsb k (by omega)
    have hul : u.length ≤ 16 := by have := limitP_len s; rw [← hu2, List.length_map] at this; exact this
    simp only [forebearlaw03_PathAlike.l0]
    rw [if_neg (by omega), ht1]
    simp only [Option.bind_some]
    rw [paths_f s (by omega)]
    simp only [Option.bind_some]
    rw [hu1]
    simp only [Option.bind_some]
    rw [hc, if_pos rfl, hag1]
    simp only [if_true]
    rw [paths_f t (by omega), paths_f u (by omega)]
    simp only [Option.bind_some]
    rw [same_f (by omega) k (by omega), same_f (by omega) k (by omega), hts, hu2, hag2]
    simp only [Option.bind_some, decide_true, if_true, Bool.not_true]
    obtain ⟨k, rfl⟩ : ∃ m, k = m + 1 := ⟨k - 1, by omega⟩
    simp only [forebearlaw03_PathAlike.j1, Bool.false_eq_true, if_false]
    by_cases h0 : limitC (keys l) = 0
    · rw [if_pos h0]
      have hj2 : ∀ k, 140737488359000 < k → forebearlaw03_PathAlike.j2 k q l.reverse true s = some true := by
        intro k hk
        obtain ⟨k, rfl⟩ : ∃ m, k = m + 1 := ⟨k - 1, by omega⟩
        simp [forebearlaw03_PathAlike.j2]
      by_cases g1 : (l.length : Int) = 0
      · rw [if_pos g1]; exact hj2 k (by omega)
      · rw [if_neg g1]
        by_cases g2 : (l.length : Int) ≥ 16
        · rw [if_pos g2]; exact hj2 k (by omega)
        · rw [if_neg g2, has_f hq (by omega) k (by omega) (by omega)]
          simp only [Option.bind_some]
          by_cases g3 : hasS (keys s) (key q) = true
          · rw [g3]
            obtain ⟨k, rfl⟩ : ∃ m, k = m + 1 := ⟨k - 1, by omega⟩
            simp only [forebearlaw03_PathAlike.j2, Bool.not_true, Bool.false_eq_true, if_false]
            have hbq : ∀ s ∈ l.reverse ++ [q], s.size < 140737488351233 ∧ s.size ≤ 140737488351232 := by
              intro x hx
              rcases List.mem_append.1 hx with hx | hx
              · exact hbr x hx
              · obtain rfl : x = q := by simpa using hx
                exact ⟨by omega, hq⟩
            obtain ⟨v, hv1, hv2⟩ := limit_f (l := l.reverse ++ [q]) 140737488351233 hbq k (by omega)
            have hvl : v.length ≤ 16 := by have := limitP_len (l.reverse ++ [q]); rw [← hv2, List.length_map] at this; exact this
            obtain ⟨-, hall⟩ := limitC_all h0
            have hcq : limitC (keys (l.reverse ++ [q])) = 0 := by
              refine limitC_le (by simp; omega) fun x hx => ?_
              simp at hx
              rcases hx with ⟨a, ha, rfl⟩ | rfl
              · exact hall _ (List.mem_map_of_mem ha)
              · exact isP_of_has g3
            have hkeep : keys v = keys s := by
              rw [hv2, hs2]
              unfold limitP
              rw [if_pos hcq, if_pos h0]
              have hsk : keys s = keepL (keys (sd l)) [] := by rw [hs2]; unfold limitP; rw [if_pos h0]
              refine keep_more (q := key q) (sd_rise l) (sd_rise _) (fun x => ?_) (by rw [← hsk]; exact g3) ?_
              · rw [sd_mem, sd_mem]; simp
                constructor
                · rintro (h | h)
                  · exact .inr h
                  · exact .inl h
                · rintro (h | h)
                  · exact .inr h
                  · exact .inl h
              · intro e
                have hne : keys (sd l) ≠ [] := by
                  intro e2
                  have : key l[0] ∈ keys (sd l) := (sd_mem l _).2 (List.mem_map_of_mem (List.getElem_mem (by omega)))
                  rw [e2] at this
                  simp at this
                match hz : keys (sd l), hne, e with
                | a :: t, _, e =>
                  obtain ⟨m, e2, -⟩ := keep_acc t [a]
                  simp [keepL, e2] at e
            rw [if_pos (by simp; omega), hv1]
            simp only [Option.bind_some]
            rw [paths_f s (by omega)]
            simp only [Option.bind_some]
            rw [hcq]
            have := mark_loop (s := s) (v := v) (by omega) (by omega) s.length 0 k s (by omega) (by omega) (by omega) (by omega)
            rw [show ((0 : Nat) : Int) = 0 from rfl] at this
            rw [this, hkeep]; simp
          · have g3' : hasS (keys s) (key q) = false := by simpa using g3
            rw [g3']; exact hj2 k (by omega)
    · rw [if_neg h0, paths_f s (by omega)]
      have : s = [] := by
        unfold limitP at hs2
        rw [if_neg h0] at hs2
        simpa using hs2
      subst this
      simp
  have := back_loop (by omega) hmain l.length B (Nat.le_refl _) (by omega)
  rw [List.drop_length, List.reverse_nil] at this
  have e : wrap64 ((l.length : Int) - 1) = (l.length : Int) - 1 := by unfold wrap64; omega
  rw [e]
  exact this
end Go.Proofs.Ytlbkobiphfaafaa.Pure
