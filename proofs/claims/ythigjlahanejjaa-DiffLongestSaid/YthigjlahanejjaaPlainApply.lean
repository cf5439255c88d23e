/- What comes of the hunks of two lists done to the first, in plain Lean. No condition. -/
import Derived.Test.YthigjlahanejjaaPlainAwake
set_option linter.unusedVariables false
set_option linter.unusedSimpArgs false
namespace Go.Proofs.Ythigjlahanejjaa.Pure
open Go.RowKit Go.Proofs.Ythigjlahanejjaa.MD Go.Proofs.YthigjlahanejjaaW.PrintWords
/-- A pair's lines are alike. -/
def Al (A B : List Ln) (p : Nat × Nat) : Prop := p.1 < A.length ∧ p.2 < B.length ∧ A[p.1]? = B[p.2]?
theorem pm_al (A B : List Ln) : ∀ (N : Nat) (a b : List Ln) (i j : Nat), a.length + b.length ≤ N → A.drop i = a → B.drop j = b → ∀ p ∈ pm a b i j, Al A B p
  | N, [], b, i, j, _, _, _ => by rw [pm_nil]; simp
  | N, x :: a, [], i, j, _, _, _ => by rw [pm_nil']; simp
  | 0, x :: a, y :: b, i, j, h, _, _ => by simp at h
  | N + 1, x :: a, y :: b, i, j, h, h0, h1 => by
    simp only [List.length_cons] at h
    have t0 : A.drop (i + 1) = a := by rw [← List.drop_drop, h0]; rfl
    have t1 : B.drop (j + 1) = b := by rw [← List.drop_drop, h1]; rfl
    have g0 : A[i]? = some x := by have := congrArg List.head? h0; simpa [List.head?_drop] using this
    have g1 : B[j]? = some y := by have := congrArg List.head? h1; simpa [List.head?_drop] using this
    by_cases e : x = y
    · subst e
      rw [pm_eq]
      intro p hp
      rcases List.mem_cons.1 hp with rfl | hp
      · exact ⟨(List.getElem?_eq_some_iff.1 g0).1, (List.getElem?_eq_some_iff.1 g1).1, g0.trans g1.symm⟩
      · exact pm_al A B N a b (i + 1) (j + 1) (by omega) t0 t1 p hp
    · by_cases g : L (x :: a) b ≤ L a (y :: b)
      · rw [pm_up a b i j e g]
        exact pm_al A B N a (y :: b) (i + 1) j (by simp only [List.length_cons]; omega) t0 h1
      · rw [pm_over a b i j e g]
        exact pm_al A B N (x :: a) b i (j + 1) (by simp only [List.length_cons]; omega) h0 t1
theorem pairs_al (l0 l1 : List ByteArray) : ∀ p ∈ pairs l0 l1, Al (K l0) (K l1) p := pm_al _ _ _ (K l0) (K l1) 0 0 (Nat.le_refl _) rfl rfl
theorem K_app (a b : List ByteArray) : K (a ++ b) = K a ++ K b := by simp [K]
theorem K_take (l : List ByteArray) (i : Nat) : K (l.take i) = (K l).take i := by simp [K]
theorem w64 (x : Int) (h : -4611686018427387904 ≤ x ∧ x ≤ 4611686018427387904) : wrap64 x = x := by unfold wrap64; omega
/-- What one hunk must say, at the place t of the list and behind what is out. -/
def ok (l0 : List ByteArray) (h : S46) (t : Nat) (out : List ByteArray) : Prop :=
  (t : Int) ≤ h.f0 ∧ h.f0 ≤ (l0.length : Int) ∧ (h.f2.length : Int) ≤ (l0.length : Int) - h.f0 ∧ K h.f2 = K ((l0.take (h.f0 + (h.f2.length : Int)).toNat).drop h.f0.toNat) ∧ h.f1 = (out.length : Int) + h.f0 - (t : Int)
open Classical in
/-- Hunks done to a list. -/
noncomputable def ap (l0 : List ByteArray) : List S46 → Nat → List ByteArray → List ByteArray × Int
  | [], t, out => if 256 < (out ++ l0.drop t).length then ([], 4) else (out ++ l0.drop t, 0)
  | h :: hs, t, out => if ok l0 h t out then ap l0 hs (h.f0 + (h.f2.length : Int)).toNat ((out ++ (l0.take h.f0.toNat).drop t) ++ h.f3) else ([], 9)
theorem ok_iff (l0 out : List ByteArray) (a b : Int) (g m : List ByteArray) (t : Nat) : ok l0 ⟨a, b, g, m⟩ t out ↔ (t : Int) ≤ a ∧ a ≤ (l0.length : Int) ∧ (g.length : Int) ≤ (l0.length : Int) - a ∧ K g = K ((l0.take (a + (g.length : Int)).toNat).drop a.toNat) ∧ b = (out.length : Int) + a - (t : Int) := Iff.rfl
open Classical in
theorem ap_one (l0 out : List ByteArray) (xs : List S46) (a b : Int) (g m : List ByteArray) (t i N k : Nat) (hx : rd_T46 xs (i : Int) = ⟨a, b, g, m⟩) (hi : i < N) (hN : N = xs.length) (h0 : l0.length ≤ 256) (ht : t ≤ l0.length)
    (ho : out.length + (l0.length - t) + m.length < 8796093022208) (hk : 300 ≤ k) (hN' : N ≤ 10000) :
    diff_Apply.l0 (k + 1) l0 out (t : Int) xs (N : Int) (i : Int) = if ok l0 ⟨a, b, g, m⟩ t out then diff_Apply.l0 k l0 ((out ++ (l0.take a.toNat).drop t) ++ m) (((a + (g.length : Int)).toNat : Nat) : Int) xs (N : Int) ((i + 1 : Nat) : Int) else some ([], 9) := by
  simp only [diff_Apply.l0]
  rw [if_pos (by omega), if_pos (by omega), if_pos (by omega), hx]
  dsimp only
  by_cases c1 : a < (t : Int)
  · rw [if_pos c1, if_neg (by rw [ok_iff]; omega)]
  rw [if_neg c1]
  by_cases c2 : a > (l0.length : Int)
  · rw [if_pos c2, if_neg (by rw [ok_iff]; omega)]
  rw [if_neg c2, w64 ((l0.length : Int) - a) (by omega)]
  by_cases c3 : (g.length : Int) > (l0.length : Int) - a
  · rw [if_pos c3, if_neg (by rw [ok_iff]; omega)]
  rw [if_neg c3, w64 (a + (g.length : Int)) (by omega), if_pos (by omega), if_pos (by omega), if_pos (by omega), Equal_is g _ (by omega) k (by omega), Option.bind_some]
  by_cases c4 : K g = K ((l0.take (a + (g.length : Int)).toNat).drop a.toNat)
  · rw [if_pos (decide_eq_true c4), w64 ((out.length : Int) + a) (by omega), w64 ((out.length : Int) + a - (t : Int)) (by omega)]
    by_cases c5 : b = (out.length : Int) + a - (t : Int)
    · have z1 : out.length + ((l0.take a.toNat).drop t).length < 8796093022208 := by rw [List.length_drop, List.length_take]; omega
      have z2 : (out ++ (l0.take a.toNat).drop t).length + m.length < 8796093022208 := by rw [List.length_append, List.length_drop, List.length_take]; omega
      have z3 : ((a + (g.length : Int)).toNat : Int) = a + (g.length : Int) := Int.toNat_of_nonneg (by omega)
      rw [if_pos c5, if_pos (by omega), if_pos (by omega), if_pos (by omega), Int.toNat_natCast, if_pos z1, Option.bind_some, if_pos z2, w64 ((i : Int) + 1) (by omega), if_pos ((ok_iff l0 out a b g m t).2 ⟨by omega, by omega, by omega, c4, c5⟩), z3]
      rfl
    · rw [if_neg c5, if_neg (by rw [ok_iff]; rintro ⟨-, -, -, -, h⟩; exact c5 h)]
  · rw [if_neg (by simpa using c4), if_neg (by rw [ok_iff]; rintro ⟨-, -, -, h, -⟩; exact c4 h)]
def big : List S46 → Nat
  | [] => 0
  | h :: hs => h.f3.length + big hs
theorem rd46 (done rest : List S46) (h : S46) : rd_T46 (done ++ h :: rest) (done.length : Int) = h := by
  simp [rd_T46, List.getD_eq_getElem?_getD]
theorem ap_go (l0 : List ByteArray) (h0 : l0.length ≤ 256) : ∀ (rest done : List S46) (t k N : Nat) (out : List ByteArray), t ≤ l0.length → out.length + (l0.length - t) + big rest < 8796093022208 → N = done.length + rest.length → N ≤ 10000 → rest.length + 400 ≤ k →
    diff_Apply.l0 k l0 out (t : Int) (done ++ rest) (N : Int) (done.length : Int) = some (ap l0 rest t out) := by
  intro rest
  induction rest with
  | nil =>
    intro done t k N out ht ho hN hl hk
    obtain ⟨k, rfl⟩ : ∃ k', k = k' + 1 := ⟨k - 1, by omega⟩
    simp only [List.length_nil, big] at hN ho
    have z : out.length + (l0.drop t).length < 8796093022208 := by rw [List.length_drop]; omega
    simp only [diff_Apply.l0, ap]
    rw [if_neg (by omega), if_pos (by omega), if_pos (by omega), Int.toNat_natCast, if_pos z, Option.bind_some]
    split
    · rw [if_pos (by omega)]
    · rw [if_neg (by omega)]
  | cons h rest ih =>
    intro done t k N out ht ho hN hl hk
    simp only [List.length_cons, big] at hN hk ho
    obtain ⟨k, rfl⟩ : ∃ k', k = k' + 1 := ⟨k - 1, by omega⟩
    obtain ⟨a, b, g, m⟩ := h
    simp only at ho
    rw [ap_one l0 out _ a b g m t done.length N k (rd46 done rest _) (by omega) (by simp; omega) h0 ht (by omega) (by omega) hl, ap]
    by_cases c : ok l0 ⟨a, b, g, m⟩ t out
    · rw [if_pos c, if_pos c]
      obtain ⟨c1, c2, c3, c4, c5⟩ := c
      simp only at c1 c2 c3 c4 c5 ⊢
      have e : done ++ (⟨a, b, g, m⟩ : S46) :: rest = (done ++ [⟨a, b, g, m⟩]) ++ rest := by simp
      have e' : done.length + 1 = (done ++ [(⟨a, b, g, m⟩ : S46)]).length := by simp
      rw [e, e']
      refine ih _ _ k N _ (by omega) ?_ (by rw [← e']; omega) hl (by omega)
      rw [List.length_append, List.length_append, List.length_drop, List.length_take]
      generalize l0.length = n at *
      generalize out.length = o at *
      generalize m.length = mm at *
      generalize g.length = gg at *
      generalize big rest = bb at *
      clear ih e e' c4 c5 hN hl hk
      omega
    · rw [if_neg c, if_neg c]
theorem ap_is (l0 : List ByteArray) (hu : List S46) (h0 : l0.length ≤ 256) (hb : 256 + big hu < 8796093022208) (hl : hu.length ≤ 10000) (k : Nat) (hk : hu.length + 400 ≤ k) : diff_Apply.f k l0 hu = some (ap l0 hu 0 []) := by
  unfold diff_Apply.f
  rw [if_neg (by omega)]
  exact ap_go l0 h0 hu [] 0 k _ [] (by omega) (by simp; omega) (by simp) hl hk
theorem ap_long (l0 : List ByteArray) (hu : List S46) (h : ¬ l0.length ≤ 256) (k : Nat) : diff_Apply.f k l0 hu = some ([], 4) := by
  unfold diff_Apply.f
  rw [if_pos (by omega)]
/-- A hunk between two stops says what it must. -/
theorem ok_h (l0 l1 : List ByteArray) (a b t : Nat) (p : Nat × Nat) (out : List ByteArray) (r1 : a ≤ p.1) (r3 : p.1 ≤ l0.length) (ht : t ≤ a) (hb : b ≤ l1.length)
    (hK : K out ++ ((K l0).take a).drop t = (K l1).take b) : ok l0 (toS46 ⟨a, b, (l0.take p.1).drop a, (l1.take p.2).drop b⟩) t out := by
  have hol : out.length + (a - t) = b := by
    have := congrArg List.length hK
    rw [List.length_append, List.length_drop, List.length_take, List.length_take, K_len, K_len, K_len] at this
    omega
  have hgl : ((l0.take p.1).drop a).length = p.1 - a := by rw [List.length_drop, List.length_take]; omega
  refine ⟨?_, ?_, ?_, ?_, ?_⟩ <;> simp only [toS46]
  · omega
  · omega
  · rw [hgl]; omega
  · rw [hgl, Int.toNat_natCast]
    have : ((a : Int) + ((p.1 - a : Nat) : Int)).toNat = p.1 := by omega
    rw [this]
  · omega
theorem step_K (l0 l1 : List ByteArray) (a b t : Nat) (p : Nat × Nat) (out : List ByteArray) (r2 : b ≤ p.2) (hK : K out ++ ((K l0).take a).drop t = (K l1).take b) : K ((out ++ (l0.take a).drop t) ++ (l1.take p.2).drop b) = (K l1).take p.2 := by
  rw [K_app, K_app, K_drop, K_take, hK, K_drop, K_take]
  have : (K l1).take b = ((K l1).take p.2).take b := by rw [List.take_take, Nat.min_eq_left r2]
  rw [this, List.take_append_drop]
theorem ap_end (l0 l1 : List ByteArray) (h1 : l1.length ≤ 256) (t : Nat) (out : List ByteArray) (hK : K out ++ (K l0).drop t = K l1) : ∃ r, ap l0 [] t out = (r, 0) ∧ K r = K l1 := by
  have hr : K (out ++ l0.drop t) = K l1 := by rw [K_app, K_drop]; exact hK
  have hol : (out ++ l0.drop t).length = l1.length := by rw [← K_len, hr, K_len]
  refine ⟨out ++ l0.drop t, ?_, hr⟩
  rw [ap, if_neg (by omega)]
theorem ap_h (l0 l1 : List ByteArray) (a b t : Nat) (p : Nat × Nat) (out : List ByteArray) (rest : List S46) (r1 : a ≤ p.1) (r2 : b ≤ p.2) (r3 : p.1 ≤ l0.length) (r4 : p.2 ≤ l1.length) (ht : t ≤ a)
    (hK : K out ++ ((K l0).take a).drop t = (K l1).take b) : ap l0 (toS46 ⟨a, b, (l0.take p.1).drop a, (l1.take p.2).drop b⟩ :: rest) t out = ap l0 rest p.1 ((out ++ (l0.take a).drop t) ++ (l1.take p.2).drop b) := by
  have hgl : ((l0.take p.1).drop a).length = p.1 - a := by rw [List.length_drop, List.length_take]; omega
  rw [ap, if_pos (ok_h l0 l1 a b t p out r1 r3 ht (by omega) hK)]
  have e0 : (toS46 ⟨a, b, (l0.take p.1).drop a, (l1.take p.2).drop b⟩).f0 = (a : Int) := rfl
  have e2 : (toS46 ⟨a, b, (l0.take p.1).drop a, (l1.take p.2).drop b⟩).f2 = (l0.take p.1).drop a := rfl
  have e3 : (toS46 ⟨a, b, (l0.take p.1).drop a, (l1.take p.2).drop b⟩).f3 = (l1.take p.2).drop b := rfl
  have e : ((a : Int) + ((p.1 - a : Nat) : Int)).toNat = p.1 := by omega
  rw [e0, e2, e3, hgl, e, Int.toNat_natCast]
theorem ap_pairs (l0 l1 : List ByteArray) (h1 : l1.length ≤ 256) : ∀ (ps : List (Nat × Nat)) (a b t : Nat) (out : List ByteArray), (∀ p ∈ ps, Al (K l0) (K l1) p) → Rises l0.length l1.length (ps ++ [(l0.length, l1.length)]) a b → t ≤ a → K out ++ ((K l0).take a).drop t = (K l1).take b →
    ∃ r, ap l0 ((hs l0 l1 (ps ++ [(l0.length, l1.length)]) a b).map toS46) t out = (r, 0) ∧ K r = K l1 := by
  intro ps
  induction ps with
  | nil =>
    intro a b t out hal hr ht hK
    simp only [List.nil_append] at hr ⊢
    obtain ⟨r1, r2, r3, r4, -⟩ := hr
    simp only at r1 r2 r3 r4
    simp only [hs, List.append_nil]
    by_cases c : a < l0.length ∨ b < l1.length
    · rw [if_pos c, List.map_cons, List.map_nil, ap_h l0 l1 a b t (l0.length, l1.length) out [] r1 r2 r3 r4 ht hK]
      have := step_K l0 l1 a b t (l0.length, l1.length) out r2 hK
      refine ap_end l0 l1 h1 l0.length _ ?_
      rw [this, List.drop_eq_nil_of_le (by rw [K_len]; omega), List.append_nil, List.take_of_length_le (by rw [K_len]; omega)]
    · rw [if_neg c, List.map_nil]
      refine ap_end l0 l1 h1 t out ?_
      have ea : a = l0.length := by omega
      have eb : b = l1.length := by omega
      rw [ea, eb, List.take_of_length_le (by rw [K_len]; omega), List.take_of_length_le (by rw [K_len]; omega)] at hK
      exact hK
  | cons p ps ih =>
    intro a b t out hal hr ht hK
    rw [List.cons_append] at hr ⊢
    obtain ⟨r1, r2, r3, r4, r5⟩ := hr
    obtain ⟨q1, q2, q3⟩ := hal p (by simp)
    rw [hs]
    have ext : ∀ (t' : Nat) (out' : List ByteArray), t' ≤ p.1 → K out' ++ ((K l0).take p.1).drop t' = (K l1).take p.2 → K out' ++ ((K l0).take (p.1 + 1)).drop t' = (K l1).take (p.2 + 1) := by
      intro t' out' ht' hK'
      rw [List.take_add_one, List.take_add_one, ← q3, List.drop_append_of_le_length (by rw [List.length_take]; omega), ← List.append_assoc, hK']
    by_cases c : a < p.1 ∨ b < p.2
    · rw [if_pos c, List.singleton_append, List.map_cons, ap_h l0 l1 a b t p out _ r1 r2 r3 r4 ht hK]
      have hs' := step_K l0 l1 a b t p out r2 hK
      exact ih (p.1 + 1) (p.2 + 1) p.1 _ (fun q hq => hal q (List.mem_cons_of_mem _ hq)) r5 (by omega) (ext _ _ (Nat.le_refl _) (by
        rw [hs', List.drop_eq_nil_of_le (by rw [List.length_take]; omega), List.append_nil]))
    · rw [if_neg c]
      have ea : a = p.1 := by omega
      have eb : b = p.2 := by omega
      subst ea eb
      rw [List.nil_append]
      exact ih (p.1 + 1) (p.2 + 1) t out (fun q hq => hal q (List.mem_cons_of_mem _ hq)) r5 (by omega) (ext _ _ ht hK)
theorem hs_big (l0 l1 : List ByteArray) (h1 : l1.length ≤ 256) : ∀ (ps : List (Nat × Nat)) (a b : Nat), big ((hs l0 l1 ps a b).map toS46) ≤ 256 * ps.length
  | [], a, b => by simp [hs, big]
  | p :: ps, a, b => by
    have ih := hs_big l0 l1 h1 ps (p.1 + 1) (p.2 + 1)
    rw [hs]
    by_cases c : a < p.1 ∨ b < p.2
    · rw [if_pos c, List.singleton_append, List.map_cons, big]
      have : (toS46 ⟨a, b, (l0.take p.1).drop a, (l1.take p.2).drop b⟩).f3.length ≤ 256 := by
        show ((l1.take p.2).drop b).length ≤ 256
        rw [List.length_drop, List.length_take]; omega
      rw [List.length_cons]; omega
    · rw [if_neg c, List.nil_append, List.length_cons]; omega
theorem hs_count (l0 l1 : List ByteArray) : ∀ (ps : List (Nat × Nat)) (a b : Nat), (hs l0 l1 ps a b).length ≤ ps.length
  | [], a, b => by simp [hs]
  | p :: ps, a, b => by
    have ih := hs_count l0 l1 ps (p.1 + 1) (p.2 + 1)
    rw [hs]
    split <;> simp <;> omega
theorem apply_is (l0 l1 : List ByteArray) (h0 : l0.length ≤ 256) (h1 : l1.length ≤ 256) (ps : List (Nat × Nat)) (hal : ∀ p ∈ ps, Al (K l0) (K l1) p) (hr : Rises l0.length l1.length (ps ++ [(l0.length, l1.length)]) 0 0) (hl : ps.length ≤ 1000) (k : Nat) (hk : 2000 ≤ k) :
    ∃ r, diff_Apply.f k l0 ((hs l0 l1 (ps ++ [(l0.length, l1.length)]) 0 0).map toS46) = some (r, 0) ∧ K r = K l1 := by
  have b1 := hs_big l0 l1 h1 (ps ++ [(l0.length, l1.length)]) 0 0
  have b2 := hs_count l0 l1 (ps ++ [(l0.length, l1.length)]) 0 0
  rw [List.length_append, List.length_singleton] at b1 b2
  rw [ap_is l0 _ h0 (by omega) (by rw [List.length_map]; omega) k (by rw [List.length_map]; omega)]
  obtain ⟨r, e1, e2⟩ := ap_pairs l0 l1 h1 ps 0 0 0 [] hal hr (Nat.le_refl _) (by simp [K])
  exact ⟨r, by rw [e1], e2⟩
/-- The hunks of the second list and the first are those of the first and the second, turned round. -/
theorem hs_turned (l0 l1 : List ByteArray) : ∀ (ps : List (Nat × Nat)) (a b : Nat), hs l1 l0 (ps.map fun p => (p.2, p.1)) b a = (hs l0 l1 ps a b).map fun h => ⟨h.b, h.a, h.new, h.gone⟩
  | [], a, b => rfl
  | p :: ps, a, b => by
    rw [List.map_cons, hs, hs, hs_turned l0 l1 ps]
    by_cases c : a < p.1 ∨ b < p.2
    · rw [if_pos c, if_pos (by omega)]; rfl
    · rw [if_neg c, if_neg (by omega)]; rfl
theorem rises_turned (m n : Nat) : ∀ (ps : List (Nat × Nat)) (a b : Nat), Rises m n ps a b → Rises n m (ps.map fun p => (p.2, p.1)) b a
  | [], a, b, _ => trivial
  | p :: ps, a, b, ⟨r1, r2, r3, r4, r5⟩ => ⟨r2, r1, r4, r3, rises_turned m n ps _ _ r5⟩
theorem hs_some (l0 l1 : List ByteArray) : ∀ (ps : List (Nat × Nat)) (a b : Nat), Rises l0.length l1.length ps a b → ∀ h ∈ hs l0 l1 ps a b, 0 < h.gone.length + h.new.length
  | [], a, b, _ => by simp [hs]
  | p :: ps, a, b, ⟨r1, r2, r3, r4, r5⟩ => by
    rw [hs]
    intro h hh
    rcases List.mem_append.1 hh with hh | hh
    · by_cases c : a < p.1 ∨ b < p.2
      · rw [if_pos c] at hh
        obtain rfl := List.mem_singleton.1 hh
        simp only [List.length_drop, List.length_take]
        omega
      · rw [if_neg c] at hh; simp at hh
    · exact hs_some l0 l1 ps _ _ r5 h hh
theorem small_h (l0 l1 : List ByteArray) (h0 : l0.length ≤ 256) (h1 : l1.length ≤ 256) : ∀ (ps : List (Nat × Nat)) (a b : Nat), ∀ h ∈ hs l0 l1 ps a b, h.gone.length + h.new.length ≤ 1000
  | [], a, b => by simp [hs]
  | p :: ps, a, b => by
    rw [hs]
    intro h hh
    rcases List.mem_append.1 hh with hh | hh
    · by_cases c : a < p.1 ∨ b < p.2
      · rw [if_pos c] at hh
        obtain rfl := List.mem_singleton.1 hh
        simp only [List.length_drop, List.length_take]
        omega
      · rw [if_neg c] at hh; simp at hh
    · exact small_h l0 l1 h0 h1 ps _ _ h hh
end Go.Proofs.Ythigjlahanejjaa.Pure
