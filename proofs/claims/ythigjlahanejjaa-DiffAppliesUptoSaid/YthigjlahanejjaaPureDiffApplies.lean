/- The plain statement of the law DiffApplies, without program and memory. No condition. -/
import Derived.Test.YthigjlahanejjaaMDx15
import Derived.Test.YthigjlahanejjaaPlainApply
set_option linter.unusedVariables false
set_option linter.unusedSimpArgs false
namespace Go.Proofs.Ythigjlahanejjaa.Pure
open Go.RowKit Go.Proofs.Ythigjlahanejjaa.MD Go.Proofs.YthigjlahanejjaaW.PrintWords Go.Proofs.YthigjlahanejjaaW.PrintLast
def to47 (h : S46) : S47 := ⟨h.f0, h.f1, h.f2, h.f3⟩
theorem rd47o (done rest : List S46) (h : S46) : rd_T47 ((done ++ h :: rest).map to47) (done.length : Int) = to47 h := by
  simp [rd_T47, List.getD_eq_getElem?_getD]
theorem l64 (n : Nat) (h : n < 1000000000) : wrap64 ((n : Int) + 1) = ((n + 1 : Nat) : Int) := by rw [w64 _ (by omega)]; omega
theorem Same2_go (a b : List ByteArray) (hl : a.length = b.length) (ha : a.length ≤ 900000000) : ∀ (d i k : Nat), a.length ≤ i + d → i ≤ a.length → d + 1 ≤ k → forebearref03_Same.l0 k a b (i : Int) = some (decide (K (a.drop i) = K (b.drop i))) := by
  intro d
  induction d with
  | zero =>
    intro i k h hi hk
    obtain ⟨k, rfl⟩ : ∃ k', k = k' + 1 := ⟨k - 1, by omega⟩
    simp only [forebearref03_Same.l0]
    rw [if_neg (by omega), List.drop_eq_nil_of_le (by omega), List.drop_eq_nil_of_le (by omega)]
    simp [K]
  | succ d ih =>
    intro i k h hi hk
    obtain ⟨k, rfl⟩ : ∃ k', k = k' + 1 := ⟨k - 1, by omega⟩
    simp only [forebearref03_Same.l0]
    by_cases hil : i < a.length
    · have hjl : i < b.length := by omega
      have hK0 : K (a.drop i) = a[i].toList :: K (a.drop (i + 1)) := by rw [List.drop_eq_getElem_cons hil]; rfl
      have hK1 : K (b.drop i) = b[i].toList :: K (b.drop (i + 1)) := by rw [List.drop_eq_getElem_cons hjl]; rfl
      rw [if_pos (by omega), if_pos (by omega), if_pos (by omega), rdOf_at a i hil, rdOf_at b i hjl, hK0, hK1]
      by_cases e : a[i].toList = b[i].toList
      · rw [if_pos e, l64 i (by omega), ih (i + 1) k (by omega) (by omega) (by omega), e]
        simp
      · rw [if_neg e]
        simp [e]
    · rw [if_neg (by omega), List.drop_eq_nil_of_le (by omega), List.drop_eq_nil_of_le (by omega)]
      simp [K]
theorem Same2_is (a : List ByteArray) (ha : a.length ≤ 900000000) (k : Nat) (hk : a.length + 1 ≤ k) : forebearref03_Same.f k a a = some true := by
  unfold forebearref03_Same.f
  rw [if_pos rfl]
  have := Same2_go a a rfl ha a.length 0 k (by omega) (by omega) (by omega)
  simpa using this
theorem same2_go : ∀ (ps done : List S46) (k : Nat), done.length + ps.length ≤ 10000 → (∀ h ∈ ps, h.f2.length ≤ 2000000 ∧ h.f3.length ≤ 2000000) → ps.length + 2000100 ≤ k → forebearlaw05_same.l0 k (done ++ ps) ((done ++ ps).map to47) (done.length : Int) = some true := by
  intro ps
  induction ps with
  | nil =>
    intro done k hl hs hk
    obtain ⟨k, rfl⟩ : ∃ k', k = k' + 1 := ⟨k - 1, by omega⟩
    simp only [forebearlaw05_same.l0]
    rw [if_neg (by simp)]
  | cons p ps ih =>
    intro done k hl hs hk
    simp only [List.length_cons] at hl hk
    obtain ⟨k, rfl⟩ : ∃ k', k = k' + 1 := ⟨k - 1, by omega⟩
    have ih' := ih (done ++ [p]) k (by simp; omega) (fun h hh => hs h (List.mem_cons_of_mem _ hh)) (by omega)
    simp only [List.append_assoc, List.singleton_append, List.length_append, List.length_cons, List.length_nil, Nat.zero_add] at ih'
    obtain ⟨s1, s2⟩ := hs p (by simp)
    simp only [forebearlaw05_same.l0]
    rw [if_pos (by simp; omega), if_pos (by omega), if_pos (by simp; omega), rd46, rd47o]
    have e3 : (to47 p).f2 = p.f2 := rfl
    have e4 : (to47 p).f3 = p.f3 := rfl
    rw [if_pos (show p.f0 = (to47 p).f0 from rfl), if_pos (show p.f1 = (to47 p).f1 from rfl), e3, e4, Same2_is _ (by omega) k (by omega), Option.bind_some, if_pos rfl, Same2_is _ (by omega) k (by omega), Option.bind_some, if_pos rfl, one64 done.length (by omega), ih']
theorem same2_is (l : List S46) (hl : l.length ≤ 10000) (hs : ∀ h ∈ l, h.f2.length ≤ 2000000 ∧ h.f3.length ≤ 2000000) (k : Nat) (hk : 2020000 ≤ k) : forebearlaw05_same.f k l (l.map to47) = some true := by
  unfold forebearlaw05_same.f
  rw [if_pos (by simp)]
  exact same2_go l [] k (by simpa using hl) hs (by omega)
theorem ref_l3 (l0 : List ByteArray) (h0 : l0.length ≤ 256) (k : Nat) : ∀ (d t : Nat) (out : List ByteArray), t + d = l0.length → out.length + d < 8796093022208 → forebearref05_Apply.l3 (k + d + 1) l0 out (t : Int) = some (if 256 < (out ++ l0.drop t).length then ([], 4) else (out ++ l0.drop t, 0)) := by
  intro d
  induction d with
  | zero =>
    intro t out ht ho
    simp only [forebearref05_Apply.l3]
    rw [if_neg (by omega), List.drop_eq_nil_of_le (by omega), List.append_nil]
    split
    · rw [if_pos (by omega)]
    · rw [if_neg (by omega)]
  | succ d ih =>
    intro t out ht ho
    have htl : t < l0.length := by omega
    obtain ⟨K1, hKk⟩ : ∃ K1, K1 = k + d + 1 := ⟨_, rfl⟩
    rw [show k + (d + 1) + 1 = K1 + 1 from by omega]
    simp only [forebearref05_Apply.l3]
    rw [if_pos (by omega), if_pos (by omega), if_pos (by omega), one64 t (by omega), hKk, ih (t + 1) _ (by omega) (by rw [List.length_append, List.length_singleton]; omega), rdOf_at l0 t htl, List.drop_eq_getElem_cons htl, List.append_assoc, List.singleton_append]
theorem ref_l1 (l0 : List ByteArray) (h0 : l0.length ≤ 256) (xs : List S47) (i : Int) (a : Nat) (b : Int) (g m : List ByteArray) (ha : a ≤ l0.length) (k : Nat) : ∀ (d t : Nat) (out : List ByteArray), t + d = a → out.length + d < 8796093022208 → forebearref05_Apply.l1 (k + d + 1) l0 xs out i (t : Int) (a : Int) b g m = if b = ((out ++ (l0.take a).drop t).length : Int) then forebearref05_Apply.l2 k l0 xs (out ++ (l0.take a).drop t) i 0 (a : Int) b g m else some ([], 9) := by
  intro d
  induction d with
  | zero =>
    intro t out ht ho
    simp only [forebearref05_Apply.l1]
    rw [if_neg (by omega), List.drop_eq_nil_of_le (by rw [List.length_take]; omega), List.append_nil]
  | succ d ih =>
    intro t out ht ho
    have htl : t < l0.length := by omega
    have htt : t < (l0.take a).length := by rw [List.length_take]; omega
    obtain ⟨K1, hKk⟩ : ∃ K1, K1 = k + d + 1 := ⟨_, rfl⟩
    rw [show k + (d + 1) + 1 = K1 + 1 from by omega]
    simp only [forebearref05_Apply.l1]
    have e : (l0.take a).drop t = l0[t] :: (l0.take a).drop (t + 1) := by rw [List.drop_eq_getElem_cons htt, List.getElem_take]
    rw [if_pos (by omega), if_pos (by omega), if_pos (by omega), if_pos (by omega), one64 t (by omega), hKk, ih (t + 1) _ (by omega) (by rw [List.length_append, List.length_singleton]; omega), rdOf_at l0 t htl, e, List.append_assoc, List.singleton_append]
theorem ref_l2 (l0 : List ByteArray) (h0 : l0.length ≤ 256) (xs : List S47) (i a : Nat) (b : Int) (g m out : List ByteArray) (hi : i < 10000) (hg : g.length ≤ 256) (ho : out.length + m.length < 8796093022208) (k : Nat) : ∀ (d j : Nat), j + d = g.length → a + j ≤ l0.length → forebearref05_Apply.l2 (k + d + 1) l0 xs out (i : Int) (j : Int) (a : Int) b g m = open Classical in if a + g.length ≤ l0.length ∧ K (g.drop j) = K ((l0.take (a + g.length)).drop (a + j)) then forebearref05_Apply.l0 k l0 xs (out ++ m) ((a + g.length : Nat) : Int) ((i + 1 : Nat) : Int) else some ([], 9) := by
  intro d
  induction d with
  | zero =>
    intro j hj ha
    simp only [forebearref05_Apply.l2]
    rw [if_neg (by omega), if_pos ho, w64 ((a : Int) + (g.length : Int)) (by omega), one64 i (by omega), if_pos]
    · rfl
    · refine ⟨by omega, ?_⟩
      rw [List.drop_eq_nil_of_le (by omega), List.drop_eq_nil_of_le (by rw [List.length_take]; omega)]
  | succ d ih =>
    intro j hj ha
    obtain ⟨K1, hKk⟩ : ∃ K1, K1 = k + d + 1 := ⟨_, rfl⟩
    rw [show k + (d + 1) + 1 = K1 + 1 from by omega]
    simp only [forebearref05_Apply.l2]
    have hjl : j < g.length := by omega
    rw [if_pos (by omega), w64 ((a : Int) + (j : Int)) (by omega)]
    by_cases c : a + j = l0.length
    · rw [if_pos (by omega), if_neg (by rintro ⟨h, -⟩; omega)]
    · have hal : a + j < l0.length := by omega
      have ea : (a : Int) + (j : Int) = ((a + j : Nat) : Int) := by omega
      rw [if_neg (by omega), if_pos (by omega), if_pos (by omega), if_pos (by omega), ea, rdOf_at l0 (a + j) hal, rdOf_at g j hjl]
      have hK1 : K (g.drop j) = g[j].toList :: K (g.drop (j + 1)) := by rw [List.drop_eq_getElem_cons hjl]; rfl
      by_cases c2 : a + g.length ≤ l0.length
      · have htt : a + j < (l0.take (a + g.length)).length := by rw [List.length_take]; omega
        have hK0 : K ((l0.take (a + g.length)).drop (a + j)) = l0[a + j].toList :: K ((l0.take (a + g.length)).drop (a + (j + 1))) := by rw [List.drop_eq_getElem_cons htt, List.getElem_take]; rfl
        by_cases e : l0[a + j].toList = g[j].toList
        · rw [if_pos e, one64 j (by omega), hKk, ih (j + 1) (by omega) (by omega), hK0, hK1, e]
          simp [c2]
        · rw [if_neg e, if_neg]
          rintro ⟨-, h⟩
          rw [hK0, hK1] at h
          exact e (List.cons.inj h).1.symm
      · by_cases e : l0[a + j].toList = g[j].toList
        · rw [if_pos e, one64 j (by omega), hKk, ih (j + 1) (by omega) (by omega), if_neg (by rintro ⟨h, -⟩; omega), if_neg (by rintro ⟨h, -⟩; omega)]
        · rw [if_neg e, if_neg (by rintro ⟨h, -⟩; omega)]
open Classical in
theorem ref_one (l0 out : List ByteArray) (xs : List S47) (a b : Int) (g m : List ByteArray) (t i k : Nat) (hx : rd_T47 xs (i : Int) = ⟨a, b, g, m⟩) (hi : i < xs.length) (h0 : l0.length ≤ 256) (ht : t ≤ l0.length)
    (ho : out.length + (l0.length - t) + m.length < 8796093022208) (hN' : xs.length ≤ 10000) :
    ∃ k', k ≤ k' ∧ forebearref05_Apply.l0 (k + 600) l0 xs out (t : Int) (i : Int) = if ok l0 ⟨a, b, g, m⟩ t out then forebearref05_Apply.l0 k' l0 xs ((out ++ (l0.take a.toNat).drop t) ++ m) (((a + (g.length : Int)).toNat : Nat) : Int) ((i + 1 : Nat) : Int) else some ([], 9) := by
  have first : ∀ K' : Nat, forebearref05_Apply.l0 (K' + 2) l0 xs out (t : Int) (i : Int) = if (t : Int) ≤ a ∧ a ≤ (l0.length : Int) ∧ (g.length : Int) ≤ (l0.length : Int) then forebearref05_Apply.l1 K' l0 xs out (i : Int) (t : Int) a b g m else some ([], 9) := by
    intro K'
    simp only [forebearref05_Apply.l0]
    rw [if_pos (by omega), if_pos (by omega), hx]
    simp only [forebearref05_Apply.j1]
    by_cases c1 : a < (t : Int)
    · rw [if_pos c1, if_pos (by trivial), if_neg (by omega)]
    rw [if_neg c1]
    by_cases c2 : a > (l0.length : Int)
    · rw [if_pos c2, if_pos (by trivial), if_neg (by omega)]
    rw [if_neg c2]
    by_cases c3 : (g.length : Int) > (l0.length : Int)
    · rw [decide_eq_true c3, if_pos rfl, if_neg (by omega)]
    · rw [decide_eq_false c3, if_neg (by simp), if_pos (by omega)]
  by_cases c : (t : Int) ≤ a ∧ a ≤ (l0.length : Int) ∧ (g.length : Int) ≤ (l0.length : Int)
  · obtain ⟨c1, c2, c3⟩ := c
    obtain ⟨A, rfl⟩ : ∃ A : Nat, a = (A : Int) := ⟨a.toNat, by omega⟩
    have hgl : g.length ≤ 256 := by omega
    obtain ⟨k', hk'⟩ : ∃ k', k + 600 = ((k' + g.length + 1) + (A - t) + 1) + 2 := ⟨k + 600 - (g.length + 1 + (A - t) + 1 + 2), by omega⟩
    refine ⟨k', by omega, ?_⟩
    have hlen : (out ++ (l0.take A).drop t).length = out.length + (A - t) := by rw [List.length_append, List.length_drop, List.length_take]; omega
    rw [hk', first, if_pos ⟨c1, c2, c3⟩, ref_l1 l0 h0 xs i A b g m (by omega) _ (A - t) t out (by omega) (by omega)]
    by_cases c5 : b = ((out ++ (l0.take A).drop t).length : Int)
    · have z := ref_l2 l0 h0 xs i A b g m (out ++ (l0.take A).drop t) (by omega) hgl (by rw [hlen]; omega) k' g.length 0 (by omega) (by omega)
      rw [if_pos c5]
      rw [show (0 : Int) = ((0 : Nat) : Int) from rfl, z, List.drop_zero, Nat.add_zero]
      have e1 : ((A : Int) + (g.length : Int)).toNat = A + g.length := by omega
      have e2 : (A : Int).toNat = A := by omega
      by_cases c4 : A + g.length ≤ l0.length ∧ K g = K ((l0.take (A + g.length)).drop A)
      · rw [if_pos c4, if_pos, e1, e2]
        refine ⟨c1, c2, ?_, ?_, ?_⟩
        · show (g.length : Int) ≤ (l0.length : Int) - (A : Int)
          omega
        · show K g = K ((l0.take ((A : Int) + (g.length : Int)).toNat).drop (A : Int).toNat)
          rw [e1, e2]; exact c4.2
        · show b = (out.length : Int) + (A : Int) - (t : Int)
          rw [c5, hlen]; omega
      · rw [if_neg c4, if_neg]
        rintro ⟨-, -, q1, q2, -⟩
        simp only [] at q1 q2
        rw [e1, e2] at q2
        exact c4 ⟨by omega, q2⟩
    · rw [if_neg c5, if_neg]
      rintro ⟨-, -, -, -, q⟩
      simp only [] at q
      exact c5 (by rw [q, hlen]; omega)
  · refine ⟨k, Nat.le_refl _, ?_⟩
    rw [show k + 600 = (k + 598) + 2 from by omega, first, if_neg c, if_neg]
    rintro ⟨q1, q2, q3, -, -⟩
    simp only [] at q1 q2 q3
    exact c ⟨q1, q2, by omega⟩
theorem refap_go (l0 : List ByteArray) (h0 : l0.length ≤ 256) : ∀ (rest done : List S46) (t k : Nat) (out : List ByteArray), t ≤ l0.length → out.length + (l0.length - t) + big rest < 8796093022208 → done.length + rest.length ≤ 10000 → 600 * rest.length + 600 ≤ k →
    forebearref05_Apply.l0 k l0 ((done ++ rest).map to47) out (t : Int) (done.length : Int) = some (ap l0 rest t out) := by
  intro rest
  induction rest with
  | nil =>
    intro done t k out ht ho hl hk
    simp only [List.length_nil, big] at hk ho
    obtain ⟨k', hk'⟩ : ∃ k', k = (k' + (l0.length - t) + 1) + 1 := ⟨k - 2 - (l0.length - t), by omega⟩
    rw [hk']
    simp only [forebearref05_Apply.l0, ap]
    rw [if_neg (by simp), ref_l3 l0 h0 k' (l0.length - t) t out (by omega) (by omega)]
  | cons h rest ih =>
    intro done t k out ht ho hl hk
    simp only [List.length_cons, big] at hl hk ho
    obtain ⟨k, rfl⟩ : ∃ k', k = k' + 600 := ⟨k - 600, by omega⟩
    obtain ⟨a, b, g, m⟩ := h
    simp only at ho
    obtain ⟨k', hk', e⟩ := ref_one l0 out ((done ++ ⟨a, b, g, m⟩ :: rest).map to47) a b g m t done.length k (rd47o done rest _) (by simp) h0 ht (by omega) (by simp; omega)
    rw [e, ap]
    by_cases c : ok l0 ⟨a, b, g, m⟩ t out
    · rw [if_pos c, if_pos c]
      obtain ⟨c1, c2, c3, c4, c5⟩ := c
      simp only at c1 c2 c3 c4 c5 ⊢
      have e : done ++ (⟨a, b, g, m⟩ : S46) :: rest = (done ++ [⟨a, b, g, m⟩]) ++ rest := by simp
      have e' : done.length + 1 = (done ++ [(⟨a, b, g, m⟩ : S46)]).length := by simp
      rw [e, e']
      refine ih _ _ k' _ (by omega) ?_ (by rw [← e']; omega) (by omega)
      rw [List.length_append, List.length_append, List.length_drop, List.length_take]
      generalize l0.length = n at *
      generalize out.length = o at *
      generalize m.length = mm at *
      generalize g.length = gg at *
      generalize big rest = bb at *
      clear ih e e' c4 c5 hl hk
      omega
    · rw [if_neg c, if_neg c]
theorem refap_is (l0 : List ByteArray) (hu : List S46) (h0 : l0.length ≤ 256) (hb : 256 + big hu < 8796093022208) (hl : hu.length ≤ 10000) (k : Nat) (hk : 600 * hu.length + 600 ≤ k) : forebearref05_Apply.f k l0 (hu.map to47) = some (ap l0 hu 0 []) := by
  unfold forebearref05_Apply.f
  rw [if_neg (by omega)]
  exact refap_go l0 h0 hu [] 0 k [] (by omega) (by simp; omega) (by simpa using hl) hk
theorem refap_long (l0 : List ByteArray) (xs : List S47) (h : ¬ l0.length ≤ 256) (k : Nat) : forebearref05_Apply.f k l0 xs = some ([], 4) := by
  unfold forebearref05_Apply.f
  rw [if_pos (by omega)]
theorem ap_short (l0 : List ByteArray) : ∀ (hu : List S46) (t : Nat) (out : List ByteArray), (ap l0 hu t out).1.length ≤ 256
  | [], t, out => by
    rw [ap]
    split
    · simp
    · simp only []; omega
  | h :: hu, t, out => by
    rw [ap]
    split
    · exact ap_short l0 hu _ _
    · simp
theorem marks (l0 : List ByteArray) (hu : List S46) (hl : hu.length ≤ 10000) (hs : ∀ h ∈ hu, h.f2.length ≤ 2000000 ∧ h.f3.length ≤ 2000000) (h0 : l0.length ≤ 2000000) : ∀ (d i k : Nat) (got : List ByteArray), i + d = got.length → got.length ≤ 256 → 2020000 + d + 1 ≤ k → forebearlaw05_DiffApplies.l1 k l0 (hu.map to47) hu l0 got (i : Int) = some true := by
  intro d
  induction d with
  | zero =>
    intro i k got hi hg hk
    obtain ⟨k, rfl⟩ : ∃ k', k = k' + 1 := ⟨k - 1, by omega⟩
    simp only [forebearlaw05_DiffApplies.l1]
    rw [if_neg (by omega), Same2_is l0 (by omega) k (by omega), Option.bind_some, if_pos rfl, same2_is hu hl hs k (by omega), Option.bind_some]
  | succ d ih =>
    intro i k got hi hg hk
    obtain ⟨k, rfl⟩ : ∃ k', k = k' + 1 := ⟨k - 1, by omega⟩
    simp only [forebearlaw05_DiffApplies.l1]
    rw [if_pos (by omega), if_pos (by omega), one64 i (by omega), ih (i + 1) k _ (by rw [List.length_set]; omega) (by rw [List.length_set]; omega) (by omega)]
theorem applies_go (l0 : List ByteArray) (all : List S46) (hl : all.length ≤ 300) (hs : ∀ h ∈ all, h.f2.length ≤ 2000000 ∧ h.f3.length ≤ 2000000) (h0 : l0.length ≤ 2000000) (hb : 256 + big all < 8796093022208) :
    ∀ (rest done : List S46) (k : Nat), done ++ rest = all → rest.length + 2200000 ≤ k → forebearlaw05_DiffApplies.l0 k l0 (done ++ rest) (done.map to47) done (done.length : Int) = some true := by
  intro rest
  induction rest with
  | nil =>
    intro done k he hk
    simp only [List.length_nil] at hk
    obtain ⟨k, rfl⟩ : ∃ k', k = k' + 2 := ⟨k - 2, by omega⟩
    have he' : done = all := by rw [← he, List.append_nil]
    subst he'
    simp only [forebearlaw05_DiffApplies.l0]
    rw [if_neg (by simp)]
    simp only [Option.bind_some, List.nil_append, List.length_nil, Nat.zero_add]
    rw [if_pos (by omega)]
    have fin : ∀ got : List ByteArray, got.length ≤ 256 → forebearlaw05_DiffApplies.j1 (k + 1) l0 (done.map to47) done l0 got (!true) = some true := by
      intro got hg
      simp only [forebearlaw05_DiffApplies.j1]
      rw [if_neg (by simp)]
      exact marks l0 done (by omega) hs h0 got.length 0 k got (by omega) hg (by omega)
    have hsame := same2_is done (by omega) hs (k + 1) (by omega)
    by_cases c : l0.length ≤ 256
    · rw [ap_is l0 done c hb (by omega) (k + 1) (by omega), Option.bind_some, refap_is l0 done c hb (by omega) (k + 1) (by omega), Option.bind_some, if_pos rfl, Same2_is _ (by have := ap_short l0 done 0 []; omega) (k + 1) (by have := ap_short l0 done 0 []; omega), Option.bind_some, if_pos rfl, hsame, Option.bind_some]
      exact fin _ (ap_short l0 done 0 [])
    · rw [ap_long l0 done c, Option.bind_some, refap_long l0 _ c, Option.bind_some, if_pos rfl, Same2_is _ (by simp) (k + 1) (by simp), Option.bind_some, if_pos rfl, hsame, Option.bind_some]
      exact fin _ (by simp)
  | cons h rest ih =>
    intro done k he hk
    simp only [List.length_cons] at hk
    obtain ⟨k, rfl⟩ : ∃ k', k = k' + 1 := ⟨k - 1, by omega⟩
    have ih' := ih (done ++ [h]) k (by rw [← he]; simp) (by omega)
    simp only [List.append_assoc, List.singleton_append, List.length_append, List.length_cons, List.length_nil, Nat.zero_add, List.map_append, List.map_cons, List.map_nil] at ih'
    have hlen := congrArg List.length he
    simp only [List.length_append, List.length_cons] at hlen
    obtain ⟨s1, s2⟩ := hs h (by rw [← he]; simp)
    simp only [forebearlaw05_DiffApplies.l0]
    rw [rd46, if_pos (by simp; omega), if_pos (by omega), if_pos (by simp; omega)]
    simp only [Option.bind_some, List.nil_append, List.length_nil, Nat.zero_add]
    rw [if_pos (by omega), if_pos (by omega), if_pos (by omega), one64 done.length (by omega)]
    exact ih'
theorem sum_mem {α : Type} (f : α → Nat) : ∀ (l : List α) (x : α), x ∈ l → f x ≤ (l.map f).sum
  | [], x, h => by simp at h
  | y :: l, x, h => by
    rw [List.map_cons, List.sum_cons]
    rcases List.mem_cons.1 h with rfl | h
    · omega
    · have := sum_mem f l x h; omega
theorem sum_len (f : ByteArray → Nat) (hf : ∀ x, 1 ≤ f x) : ∀ (l : List ByteArray), l.length ≤ (l.map f).sum
  | [] => by simp
  | y :: l => by
    have := sum_len f hf l
    have := hf y
    rw [List.map_cons, List.sum_cons, List.length_cons]; omega
theorem bS_parts (h : S46) : h.f2.length ≤ bS46 h ∧ h.f3.length ≤ bS46 h := by
  have a := sum_len (fun z => z.size + 1) (fun x => by omega) h.f2
  have b := sum_len (fun z => z.size + 1) (fun x => by omega) h.f3
  unfold bS46
  omega
theorem big_sum : ∀ (l : List S46), big l ≤ (l.map fun z => bS46 z).sum
  | [] => by simp [big]
  | h :: l => by
    have := big_sum l
    have := (bS_parts h).2
    rw [List.map_cons, List.sum_cons, big]; omega
theorem DiffApplies : forebearlaw05_DiffApplies.Pure := by
  intro l0 l1 _ _ gu
  obtain ⟨B, hB⟩ : ∃ B : Nat, B = 3000000 := ⟨_, rfl⟩
  refine ⟨B, ?_⟩
  have q0 := sum_len (fun z => z.size + 1) (fun x => by omega) l0
  have q1 := big_sum l1
  have q2 : ∀ h ∈ l1, h.f2.length ≤ 2000000 ∧ h.f3.length ≤ 2000000 := by
    intro h hh
    have a := sum_mem (fun z => bS46 z) l1 h hh
    have b := bS_parts h
    omega
  unfold forebearlaw05_DiffApplies.f
  rw [awake_f B (by omega), Option.bind_some, if_pos rfl]
  by_cases c : (l1.length : Int) > 300
  · rw [if_pos c]
  · rw [if_neg c]
    exact applies_go l0 l1 (by omega) q2 (by omega) (by omega) l1 [] B rfl (by omega)
end Go.Proofs.Ythigjlahanejjaa.Pure
