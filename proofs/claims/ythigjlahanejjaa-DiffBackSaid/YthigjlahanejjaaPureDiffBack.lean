/- The plain statement of the law DiffBack, without program and memory. No condition. -/
import Derived.Test.YthigjlahanejjaaMDx13
import Derived.Test.YthigjlahanejjaaPlainApply
set_option linter.unusedVariables false
set_option linter.unusedSimpArgs false
namespace Go.Proofs.Ythigjlahanejjaa.Pure
open Go.RowKit Go.Proofs.Ythigjlahanejjaa.MD Go.Proofs.YthigjlahanejjaaW.PrintWords Go.Proofs.YthigjlahanejjaaW.PrintLast
def tw (h : H) : H := ⟨h.b, h.a, h.new, h.gone⟩
theorem rd46h (done rest : List H) (h : H) : rd_T46 ((done ++ h :: rest).map toS46) (done.length : Int) = toS46 h := by
  simp [rd_T46, List.getD_eq_getElem?_getD]
theorem back_go (x0 x1 x7 r : List ByteArray) (all : List H) (h7 : K x7 = K x1) (hr : K r = K x0) (l7 : x7.length ≤ 256) (lr : r.length ≤ 256)
    (hap : ∀ k, 2000 ≤ k → diff_Apply.f k x1 ((all.map tw).map toS46) = some (r, 0)) (hl : all.length ≤ 10000) (hsm : ∀ h ∈ all, 0 < h.gone.length + h.new.length ∧ h.gone.length + h.new.length ≤ 1000) :
    ∀ (rest done : List H) (k : Nat), done ++ rest = all → rest.length + 2001 ≤ k →
    forebearlaw05_DiffBack.l0 k x0 x1 ((done ++ rest).map toS46) x7 0 ((done.map tw).map toS46) (done.length : Int) = some true := by
  intro rest
  induction rest with
  | nil =>
    intro done k he hk
    obtain ⟨k, rfl⟩ : ∃ k', k = k' + 1 := ⟨k - 1, by omega⟩
    simp only [List.length_nil] at hk
    have he' : done = all := by rw [← he, List.append_nil]
    simp only [forebearlaw05_DiffBack.l0]
    rw [if_neg (by simp), he', hap k (by omega), Option.bind_some]
    simp only []
    rw [if_pos (by trivial), if_pos (by trivial), Same_is x7 x1 (by omega) k (by omega), Option.bind_some, if_pos (decide_eq_true h7), Same_is r x0 (by omega) k (by omega), Option.bind_some, decide_eq_true hr]
  | cons h rest ih =>
    intro done k he hk
    simp only [List.length_cons] at hk
    obtain ⟨k, rfl⟩ : ∃ k', k = k' + 1 := ⟨k - 1, by omega⟩
    have ih' := ih (done ++ [h]) k (by rw [← he]; simp) (by omega)
    simp only [List.append_assoc, List.singleton_append, List.length_append, List.length_cons, List.length_nil, Nat.zero_add, List.map_append, List.map_cons, List.map_nil] at ih'
    have hlen := congrArg List.length he
    simp only [List.length_append, List.length_cons] at hlen
    obtain ⟨s1, s2⟩ := hsm h (by rw [← he]; simp)
    simp only [forebearlaw05_DiffBack.l0]
    rw [rd46h]
    have e2 : (toS46 h).f2 = h.gone := rfl
    have e3 : (toS46 h).f3 = h.new := rfl
    rw [if_pos (by simp; omega), if_pos (by omega), if_pos (by simp; omega), e2, e3, w64 ((h.gone.length : Int) + (h.new.length : Int)) (by omega), if_neg (by omega), one64 done.length (by omega)]
    rw [← ih']
    simp [toS46, tw]
theorem DiffBack : forebearlaw05_DiffBack.Pure := by
  intro l0 l1 _ _
  obtain ⟨B, hB⟩ : ∃ B : Nat, B = 20000 := ⟨_, rfl⟩
  refine ⟨B, ?_⟩
  unfold forebearlaw05_DiffBack.f
  rw [awake_f B (by omega), Option.bind_some, if_pos rfl]
  by_cases h : l0.length ≤ 256 ∧ l1.length ≤ 256
  · obtain ⟨h0, h1⟩ := h
    have hp := pairs_len l0 l1
    have hal := pairs_al l0 l1
    have hri := stops_rise l0 l1
    have hcount := hs_count l0 l1 (stops l0 l1) 0 0
    have hsome := hs_some l0 l1 (stops l0 l1) 0 0 hri
    have hst : (stops l0 l1).length = (pairs l0 l1).length + 1 := by simp [stops]
    obtain ⟨r, e1, e2⟩ := apply_is l0 l1 h0 h1 (pairs l0 l1) hal hri (by omega) B (by omega)
    have hal' : ∀ p ∈ (pairs l0 l1).map (fun p => (p.2, p.1)), Al (K l1) (K l0) p := by
      intro p hp
      obtain ⟨q, hq, rfl⟩ := List.mem_map.1 hp
      obtain ⟨a1, a2, a3⟩ := hal q hq
      exact ⟨a2, a1, a3.symm⟩
    have hri' := rises_turned _ _ _ _ _ hri
    have htu := hs_turned l0 l1 (stops l0 l1) 0 0
    have est : (stops l0 l1).map (fun p => (p.2, p.1)) = (pairs l0 l1).map (fun p => (p.2, p.1)) ++ [(l1.length, l0.length)] := by simp [stops]
    rw [est] at hri' htu
    have hsmall : ∀ h ∈ hs l0 l1 (stops l0 l1) 0 0, 0 < h.gone.length + h.new.length ∧ h.gone.length + h.new.length ≤ 1000 := by
      intro h hh
      refine ⟨hsome h hh, ?_⟩
      exact small_h l0 l1 h0 h1 (stops l0 l1) 0 0 h hh
    have hap : ∀ k, 2000 ≤ k → ∃ r', diff_Apply.f k l1 (((hs l0 l1 (stops l0 l1) 0 0).map tw).map toS46) = some (r', 0) ∧ K r' = K l0 := by
      intro k hk
      have := apply_is l1 l0 h1 h0 _ hal' hri' (by rw [List.length_map]; omega) k hk
      rw [htu] at this
      exact this
    obtain ⟨r', f1, f2⟩ := hap 2000 (Nat.le_refl _)
    have hap' : ∀ k, 2000 ≤ k → diff_Apply.f k l1 (((hs l0 l1 (stops l0 l1) 0 0).map tw).map toS46) = some (r', 0) := by
      intro k hk
      obtain ⟨r2, g1, g2⟩ := hap k hk
      rw [g1]
      have b1 := hs_big l1 l0 h0 ((pairs l0 l1).map (fun p => (p.2, p.1)) ++ [(l1.length, l0.length)]) 0 0
      rw [htu, List.length_append, List.length_singleton, List.length_map] at b1
      have hl2 : (((hs l0 l1 (stops l0 l1) 0 0).map tw).map toS46).length ≤ 1000 := by rw [List.length_map, List.length_map]; omega
      have b1' : big (((hs l0 l1 (stops l0 l1) 0 0).map tw).map toS46) ≤ 256 * ((pairs l0 l1).length + 1) := b1
      have u1 := ap_is l1 (((hs l0 l1 (stops l0 l1) 0 0).map tw).map toS46) h1 (by omega) (by omega) k (by omega)
      have u2 := ap_is l1 (((hs l0 l1 (stops l0 l1) 0 0).map tw).map toS46) h1 (by omega) (by omega) 2000 (by omega)
      rw [g1] at u1
      rw [f1] at u2
      rw [u1, u2]
    rw [diffHunks_is l0 l1 h0 h1 B (by omega), Option.bind_some]
    simp only []
    rw [if_pos (by trivial)]
    rw [show stops l0 l1 = pairs l0 l1 ++ [(l0.length, l1.length)] from rfl] at hap' hsmall hcount ⊢
    rw [e1, Option.bind_some]
    simp only []
    have lr : r.length ≤ 256 := by rw [← K_len, e2, K_len]; exact h1
    have lr' : r'.length ≤ 256 := by rw [← K_len, f2, K_len]; exact h0
    have := back_go l0 l1 r r' _ e2 f2 lr lr' hap' (by simp at hcount ⊢; omega) hsmall _ [] B rfl (by simp at hcount ⊢; omega)
    simpa using this
  · rw [diffHunks_long l0 l1 h B (by omega), Option.bind_some]
    simp only []
    rw [if_neg (by decide), if_pos (by trivial)]
    by_cases c : (l0.length : Int) > 256
    · rw [if_pos c]
    · rw [if_neg c, decide_eq_true (by omega)]
end Go.Proofs.Ythigjlahanejjaa.Pure
