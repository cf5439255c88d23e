/- The plain statement of the law DiffLongest, without program and memory. No condition. -/
import Derived.Test.YthigjlahanejjaaMDx12
import Derived.Test.YthigjlahanejjaaPlainLongest
set_option linter.unusedVariables false
set_option linter.unusedSimpArgs false
set_option linter.unusedSectionVars false
namespace Go.Proofs.Ythigjlahanejjaa.Pure
open Go.RowKit Go.Proofs.Ythigjlahanejjaa.MD Go.Proofs.YthigjlahanejjaaW.PrintWords Go.Proofs.YthigjlahanejjaaW.PrintLast
theorem rise_at (m n : Nat) : ∀ (ps : List (Nat × Nat)) (a b : Nat), Rises m n ps a b → ∀ (i : Nat) (p q : Nat × Nat), ps[i]? = some p → ps[i + 1]? = some q → p.1 < q.1 ∧ p.2 < q.2
  | [], a, b, _, i, p, q, h, _ => by simp at h
  | x :: ps, a, b, ⟨r1, r2, r3, r4, r5⟩, 0, p, q, h, h' => by
    simp only [List.getElem?_cons_zero, Option.some.injEq] at h
    subst h
    cases ps with
    | nil => simp at h'
    | cons y ps =>
      simp only [Nat.zero_add, List.getElem?_cons_succ, List.getElem?_cons_zero, Option.some.injEq] at h'
      subst h'
      obtain ⟨s1, s2, -⟩ := r5
      omega
  | x :: ps, a, b, ⟨r1, r2, r3, r4, r5⟩, i + 1, p, q, h, h' => rise_at m n ps _ _ r5 i p q (by simpa using h) (by simpa using h')
theorem rd39i (ps : List (Nat × Nat)) (i : Nat) (h : i < ps.length) : rd_T39 (ps.map toS39) (i : Int) = toS39 ps[i] := by
  simp [rd_T39, List.getD_eq_getElem?_getD, h]
theorem mx_is (a b : Nat) : mx (a : Int) (b : Int) = ((max a b : Nat) : Int) := by unfold mx; split <;> omega
section
variable (l0 l1 : List ByteArray) (h0 : l0.length ≤ 256) (h1 : l1.length ≤ 256)
include h0 h1
theorem K_at (l : List ByteArray) (i : Nat) (h : i < l.length) : (K l)[i]'(by rw [K_len]; exact h) = l[i].toList := by simp [K]
theorem front_pair (f q : Nat) (hf : ∀ q, q < f → q < l0.length ∧ q < l1.length ∧ (K l0)[q]? = (K l1)[q]?) (hq : q < f) : ∃ h : q < (pairs l0 l1).length, (pairs l0 l1)[q] = (q, q) := by
  obtain ⟨rest, e⟩ := pm_front (K l0) (K l1) f 0 (fun q _ hq => by
    obtain ⟨a, b, c⟩ := hf q (by omega)
    exact ⟨by rw [K_len]; exact a, by rw [K_len]; exact b, c⟩)
  rw [List.drop_zero, List.drop_zero] at e
  have e' : pairs l0 l1 = (List.range' 0 f).map (fun q => (q, q)) ++ rest := e
  have hl : q < ((List.range' 0 f).map (fun q => (q, q))).length := by simpa using hq
  refine ⟨by rw [e', List.length_append]; omega, ?_⟩
  have : (pairs l0 l1)[q]? = some (q, q) := by
    rw [e', List.getElem?_append_left hl]
    simp [hq]
  exact (List.getElem?_eq_some_iff.1 this).2
theorem long3 (f : Nat) (hf : ∀ q, q < f → q < l0.length ∧ q < l1.length ∧ (K l0)[q]? = (K l1)[q]?) (hff : f ≤ 256) : ∀ (d q k : Nat), q + d = f → d + 1 ≤ k →
    forebearlaw05_DiffLongest.l3 k l1 ((pairs l0 l1).map toS39) (rowF (K l0) (K l1) l1.length l0.length 0) (f : Int) (q : Int) = some true := by
  intro d
  induction d with
  | zero =>
    intro q k hq hk
    obtain ⟨k, rfl⟩ : ∃ k', k = k' + 1 := ⟨k - 1, by omega⟩
    simp only [forebearlaw05_DiffLongest.l3]
    have e : F (K l0) (K l1) l0.length l1.length = L (K l0) (K l1) := by
      have := F_whole (K l0) (K l1)
      rwa [K_len, K_len] at this
    have er : rd (rowF (K l0) (K l1) l1.length l0.length 0) (l1.length : Int) = (L (K l0) (K l1) : Int) := by
      rw [rowF_at _ _ _ _ _ _ (Nat.le_refl _)]
      by_cases c : l1.length ≤ 0
      · have c0 : l1.length = 0 := by omega
        have e0 : L (K l0) (K l1) = 0 := by rw [← e, c0, F_zero]
        rw [e0, c0, F_zero]
      · rw [if_neg c, e]
    have ep : ((pairs l0 l1).map toS39).length = L (K l0) (K l1) := by
      rw [List.length_map]; exact pm_count _ (K l0) (K l1) 0 0 (Nat.le_refl _)
    rw [if_neg (by omega), if_pos (by omega), if_pos (by rw [rowF_len]; omega), er, ep]
    simp
  | succ d ih =>
    intro q k hq hk
    obtain ⟨k, rfl⟩ : ∃ k', k = k' + 1 := ⟨k - 1, by omega⟩
    obtain ⟨hl, e⟩ := front_pair l0 l1 h0 h1 f q hf (by omega)
    simp only [forebearlaw05_DiffLongest.l3]
    rw [rd39i _ _ hl, e, if_pos (by omega), if_neg (by rw [List.length_map]; omega), if_pos (by omega), if_pos (by rw [List.length_map]; omega), if_pos (show (toS39 (q, q)).f0 = (q : Int) from rfl), if_pos (show (toS39 (q, q)).f1 = (q : Int) from rfl), one64 q (by omega)]
    exact ih (q + 1) k (by omega) (by omega)
/-- The end of a round of the outer loop. -/
theorem long2 (ps : List S39) (i : Nat) (hi : i < l0.length) (f : Nat) (good : Nat → Nat → Prop) (hgood : good f i) (hup : ∀ f, good f i → good f (i + 1)) (hup' : good i i → i < l1.length → l0[i].toList = (l1.getD i ByteArray.empty).toList → good (i + 1) (i + 1))
    (hnext : ∀ f k, good f (i + 1) → 1000 + 300 * (l0.length - (i + 1)) ≤ k → forebearlaw05_DiffLongest.l1 k l0 l1 ps (rowF (K l0) (K l1) l1.length (i + 1) 0) (f : Int) ((i + 1 : Nat) : Int) = some true) :
    ∀ (d j k : Nat), j + d = l1.length → 1000 + 300 * (l0.length - (i + 1)) + d + 1 ≤ k →
    forebearlaw05_DiffLongest.l2 k l0 l1 ps (rowF (K l0) (K l1) l1.length i j) (f : Int) (i : Int) (F (K l0) (K l1) i j : Int) (j : Int) = some true := by
  intro d
  induction d with
  | zero =>
    intro j k hj hk
    obtain ⟨k, rfl⟩ : ∃ k', k = k' + 1 := ⟨k - 1, by omega⟩
    have ej : j = l1.length := by omega
    subst ej
    simp only [forebearlaw05_DiffLongest.l2]
    rw [if_neg (by omega), ← rowF_next, one64 i (by omega)]
    by_cases c : f = i
    · subst c
      rw [if_pos rfl]
      by_cases c2 : f < l1.length
      · rw [if_pos (by omega), if_pos (by omega), if_pos (by omega), rdOf_at l0 f hi, rdOf_at l1 f c2]
        by_cases c3 : l0[f].toList = l1[f].toList
        · rw [if_pos c3, one64 f (by omega)]
          exact hnext (f + 1) k (hup' hgood c2 (by simpa [c2] using c3)) (by omega)
        · rw [if_neg c3]
          exact hnext f k (hup f hgood) (by omega)
      · rw [if_neg (by omega)]
        exact hnext f k (hup f hgood) (by omega)
    · rw [if_neg (by omega)]
      exact hnext f k (hup f hgood) (by omega)
  | succ d ih =>
    intro j k hj hk
    obtain ⟨k, rfl⟩ : ∃ k', k = k' + 1 := ⟨k - 1, by omega⟩
    have hjl : j < l1.length := by omega
    have ki : i < (K l0).length := by rw [K_len]; exact hi
    have kj : j < (K l1).length := by rw [K_len]; exact hjl
    obtain ⟨o1, o2⟩ := F_one (K l0) (K l1) i j ki kj
    have lF := F_le (K l0) (K l1) i j
    rw [K_len] at lF
    have a1 : rd (rowF (K l0) (K l1) l1.length i j) (j : Int) = (F (K l0) (K l1) (i + 1) j : Int) := by rw [rowF_at _ _ _ _ _ _ (by omega), if_pos (by omega)]
    have a2 : rd (rowF (K l0) (K l1) l1.length i j) ((j + 1 : Nat) : Int) = (F (K l0) (K l1) i (j + 1) : Int) := by rw [rowF_at _ _ _ _ _ _ (by omega), if_neg (by omega)]
    have ih' := ih (j + 1) k (by omega) (by omega)
    simp only [forebearlaw05_DiffLongest.l2]
    rw [one64 j (by omega), a1, a2, one64 _ (by omega : F (K l0) (K l1) i j < 1000000), mx_is, mx_is, Int.toNat_natCast]
    rw [if_pos (by omega), if_pos (by omega), if_pos (by rw [rowF_len]; omega), if_pos (by omega), if_pos (by rw [rowF_len]; omega), if_pos (by omega), if_pos (by omega), rdOf_at l0 i hi, rdOf_at l1 j hjl]
    by_cases e : l0[i].toList = l1[j].toList
    · have eK : (K l0)[i] = (K l1)[j] := by simpa [K] using e
      have hF := F_same (K l0) (K l1) i j ki kj eK
      have hm : max (max (F (K l0) (K l1) (i + 1) j) (F (K l0) (K l1) i (j + 1))) (F (K l0) (K l1) i j + 1) = F (K l0) (K l1) (i + 1) (j + 1) := by rw [hF]; omega
      rw [if_pos e, hm, rowF_set]
      exact ih'
    · have eK : ¬ (K l0)[i] = (K l1)[j] := by simpa [K] using e
      have hF := F_other (K l0) (K l1) i j ki kj eK
      have hm : max (F (K l0) (K l1) (i + 1) j) (F (K l0) (K l1) i (j + 1)) = F (K l0) (K l1) (i + 1) (j + 1) := by rw [hF]; omega
      rw [if_neg e, hm, rowF_set]
      exact ih'
def Good (f i : Nat) : Prop := f ≤ i ∧ ∀ q, q < f → q < l0.length ∧ q < l1.length ∧ (K l0)[q]? = (K l1)[q]?
theorem long1 : ∀ (d i f k : Nat), i + d = l0.length → Good l0 l1 f i → 1000 + 300 * d ≤ k →
    forebearlaw05_DiffLongest.l1 k l0 l1 ((pairs l0 l1).map toS39) (rowF (K l0) (K l1) l1.length i 0) (f : Int) (i : Int) = some true := by
  intro d
  induction d with
  | zero =>
    intro i f k hi hg hk
    obtain ⟨k, rfl⟩ : ∃ k', k = k' + 1 := ⟨k - 1, by omega⟩
    obtain ⟨g1, g2⟩ := hg
    simp only [forebearlaw05_DiffLongest.l1]
    rw [if_neg (by omega), show i = l0.length from by omega]
    exact long3 l0 l1 h0 h1 f g2 (by omega) f 0 k (by omega) (by omega)
  | succ d ih =>
    intro i f k hi hg hk
    obtain ⟨k, rfl⟩ : ∃ k', k = k' + 1 := ⟨k - 1, by omega⟩
    simp only [forebearlaw05_DiffLongest.l1]
    rw [if_pos (by omega)]
    have z := long2 l0 l1 h0 h1 ((pairs l0 l1).map toS39) i (by omega) f (Good l0 l1) hg (fun f h => ⟨by have := h.1; omega, h.2⟩) (fun h c e => ⟨Nat.le_refl _, fun q hq => by
      by_cases hqi : q = i
      · subst hqi
        have hl : q < l0.length := by omega
        refine ⟨hl, c, ?_⟩
        have e' : l0[q].toList = l1[q].toList := by simpa [c] using e
        simp [K, hl, c, e']
      · exact h.2 q (by omega)⟩) (fun f k hg hk => ih (i + 1) f k (by omega) hg (by omega)) l1.length 0 k (by omega) (by omega)
    rw [F_zero] at z
    exact z
theorem long0 : ∀ (d i k : Nat), i + d = (pairs l0 l1).length → 90000 + d ≤ k →
    forebearlaw05_DiffLongest.l0 k l0 l1 ((pairs l0 l1).map toS39) (i : Int) = some true := by
  have hp := pairs_len l0 l1
  intro d
  induction d with
  | zero =>
    intro i k hi hk
    obtain ⟨k, rfl⟩ : ∃ k', k = k' + 1 := ⟨k - 1, by omega⟩
    simp only [forebearlaw05_DiffLongest.l0]
    rw [if_neg (by rw [List.length_map]; omega), one64 l1.length (by omega), if_pos (by omega), Int.toNat_natCast, if_pos (by omega), ← rowF_first (K l0) (K l1)]
    exact long1 l0 l1 h0 h1 l0.length 0 0 k (by omega) ⟨Nat.le_refl _, fun q hq => by omega⟩ (by omega)
  | succ d ih =>
    intro i k hi hk
    obtain ⟨k, rfl⟩ : ∃ k', k = k' + 1 := ⟨k - 1, by omega⟩
    have hil : i < (pairs l0 l1).length := by omega
    obtain ⟨q1, q2, q3⟩ := pairs_al l0 l1 _ (List.getElem_mem hil)
    have rise := rise_at _ _ _ _ _ (stops_rise l0 l1)
    have ih' := ih (i + 1) k (by omega) (by omega)
    simp only [forebearlaw05_DiffLongest.l0]
    rw [rd39i _ _ hil]
    generalize hpi : (pairs l0 l1)[i] = p at *
    rw [K_len] at q1 q2
    have e0 : (toS39 p).f0 = (p.1 : Int) := rfl
    have e1 : (toS39 p).f1 = (p.2 : Int) := rfl
    have q4 : l0[p.1].toList = l1[p.2].toList := by
      rw [List.getElem?_eq_getElem (by rw [K_len]; exact q1), List.getElem?_eq_getElem (by rw [K_len]; exact q2)] at q3
      have := Option.some.inj q3
      simpa [K] using this
    rw [e0, e1, if_pos (by rw [List.length_map]; omega), if_pos (by omega), if_neg (by omega), if_neg (by omega), if_neg (by omega), if_neg (by omega), if_pos (by omega), if_pos (by omega), if_pos (by omega), if_pos (by omega), rdOf_at l0 p.1 q1, rdOf_at l1 p.2 q2, if_pos q4, one64 i (by omega)]
    by_cases c : i = 0
    · rw [if_neg (by omega)]
      exact ih'
    · obtain ⟨j, rfl⟩ : ∃ j, i = j + 1 := ⟨i - 1, by omega⟩
      have hjl : j < (pairs l0 l1).length := by omega
      have ew : wrap64 (((j + 1 : Nat) : Int) - 1) = (j : Int) := by rw [w64 _ (by omega)]; omega
      obtain ⟨s1, s2⟩ := rise j (pairs l0 l1)[j] p (by rw [stops, List.getElem?_append_left hjl, List.getElem?_eq_getElem hjl]) (by rw [stops, List.getElem?_append_left hil, List.getElem?_eq_getElem hil, hpi])
      rw [ew, rd39i _ _ hjl]
      have e2 : (toS39 (pairs l0 l1)[j]).f0 = ((pairs l0 l1)[j].1 : Int) := rfl
      have e3 : (toS39 (pairs l0 l1)[j]).f1 = ((pairs l0 l1)[j].2 : Int) := rfl
      rw [e2, e3, if_pos (by omega), if_pos (by omega), if_pos (by rw [List.length_map]; omega), if_neg (by omega), if_neg (by omega)]
      exact ih'
end
theorem DiffLongest : forebearlaw05_DiffLongest.Pure := by
  intro l0 l1 _ _
  obtain ⟨B, hB⟩ : ∃ B : Nat, B = 100000 := ⟨_, rfl⟩
  obtain ⟨B1, hB1⟩ : ∃ B1 : Nat, B = B1 + 1 := ⟨B - 1, by omega⟩
  refine ⟨B, ?_⟩
  unfold forebearlaw05_DiffLongest.f
  rw [awake_f B (by omega), Option.bind_some, if_pos rfl]
  by_cases h : l0.length ≤ 256 ∧ l1.length ≤ 256
  · obtain ⟨h0, h1⟩ := h
    have hd : decide ((l1.length : Int) > 256) = false := decide_eq_false (by omega)
    rw [if_neg (by omega), hd, hB1]
    simp only [forebearlaw05_DiffLongest.j0]
    rw [if_neg (by simp), diffMatch_is l0 l1 h0 h1 B1 (by omega), Option.bind_some]
    dsimp only
    rw [if_pos (by trivial)]
    have := long0 l0 l1 h0 h1 (pairs l0 l1).length 0 B1 (by omega) (by have := pairs_len l0 l1; omega)
    exact this
  · have fin : forebearlaw05_DiffLongest.j0 B l0 l1 true = some true := by
      rw [hB1]
      simp only [forebearlaw05_DiffLongest.j0]
      rw [if_pos (by trivial), diffMatch_long l0 l1 h B1 (by omega), Option.bind_some]
      simp
    by_cases c : (l0.length : Int) > 256
    · rw [if_pos c]; exact fin
    · rw [if_neg c, decide_eq_true (by omega)]; exact fin
end Go.Proofs.Ythigjlahanejjaa.Pure
