/- The plain statement of the law TextRuns, without program and memory. No condition. -/
import Derived.Test.YtlbkobiphfaafaaMTx9
import Derived.Test.YtlbkobiphfaafaaPlainRuns
set_option linter.unusedVariables false
set_option linter.unusedSimpArgs false
namespace Go.Proofs.Ytlbkobiphfaafaa.Pure
open Go.RowKit Go.Proofs.Ytlbkobiphfaafaa.MT Go.Proofs.Ytlbkobiphfaafaa.PureT Go.Proofs.Ytlbkobiphfaafaa.Opening Go.Proofs.YtlbkobiphfaafaaW.PrintWords Go.Proofs.YtlbkobiphfaafaaW.PrintLast

def pr9 (x : S49) : Rn := (x.f0, x.f1)
theorem rdT9_nat (l : List S49) (i : Nat) (h : i < l.length) : rd_T49 l (i : Int) = l[i] := by simp [rd_T49, h]
theorem refHas_l0 {l : List Int} (hl : l.length ≤ 100000) (n : Int) (d : Nat) : ∀ (i k : Nat), l.length - i = d → i ≤ l.length → d < k →
    forebearref04_has.l0 k l n i = some (decide (n ∈ l.drop i)) := by
  induction d with
  | zero =>
    intro i k hd hi hk
    obtain ⟨k, rfl⟩ : ∃ m, k = m + 1 := ⟨k - 1, by omega⟩
    simp only [forebearref04_has.l0]
    rw [if_neg (by omega), List.drop_eq_nil_of_le (by omega)]; simp
  | succ d ih =>
    intro i k hd hi hk
    obtain ⟨k, rfl⟩ : ∃ m, k = m + 1 := ⟨k - 1, by omega⟩
    have hlt : i < l.length := by omega
    simp only [forebearref04_has.l0]
    rw [if_pos (by omega), if_pos (by omega), rd_nat l i hlt, List.drop_eq_getElem_cons hlt]
    by_cases h : l[i] = n
    · rw [if_pos h]; simp [h]
    · rw [if_neg h, wnat hlt (by omega), ih (i + 1) k (by omega) (by omega) (by omega)]
      have : ¬ n = l[i] := fun e => h e.symm
      simp only [List.mem_cons, this, false_or]
theorem refHas_f {l : List Int} (hl : l.length ≤ 100000) (n : Int) (k : Nat) (hk : l.length < k) : forebearref04_has.f k l n = some (decide (n ∈ l)) := by
  have := refHas_l0 hl n l.length 0 k (by omega) (by omega) hk
  rw [show ((0 : Nat) : Int) = 0 from rfl] at this
  simpa [forebearref04_has.f] using this
/-- From a on all numbers to b are there, and the next one isn't. -/
def RunEnd (l : List Int) (a b : Int) : Prop := a ≤ b ∧ (∀ n, a ≤ n → n ≤ b → n ∈ l) ∧ b + 1 ∉ l
theorem runEnd_one {l : List Int} {a b c : Int} (h : RunEnd l a b) (g : RunEnd l a c) : b = c := by
  obtain ⟨h1, h2, h3⟩ := h
  obtain ⟨g1, g2, g3⟩ := g
  rcases Int.lt_trichotomy b c with e | e | e
  · exact absurd (g2 (b + 1) (by omega) (by omega)) h3
  · exact e
  · exact absurd (h2 (c + 1) (by omega) (by omega)) g3
theorem runEnd_ex {l : List Int} (hg : ∀ x ∈ l, good x) (d : Nat) : ∀ a, a ∈ l → (9223372036854775807 - a).toNat = d → ∃ b, RunEnd l a b := by
  induction d with
  | zero =>
    intro a ha hd
    have := hg a ha
    refine ⟨a, Int.le_refl _, fun n h1 h2 => ?_, fun h => ?_⟩
    · rw [show n = a by omega]; exact ha
    · have := hg _ h; unfold good at *; omega
  | succ d ih =>
    intro a ha hd
    by_cases h : a + 1 ∈ l
    · obtain ⟨b, h1, h2, h3⟩ := ih (a + 1) h (by omega)
      refine ⟨b, by omega, fun n g1 g2 => ?_, h3⟩
      by_cases e : n = a
      · rw [e]; exact ha
      · exact h2 n (by omega) g2
    · refine ⟨a, Int.le_refl _, fun n h1 h2 => ?_, h⟩
      rw [show n = a by omega]; exact ha
/-- The runs that begin at one of the numbers ahead. -/
def Begun (l : List Int) (i : Nat) (out : List S49) : Prop := out.Pairwise (fun a b => a.f0 < b.f0) ∧ ∀ x, x ∈ out ↔ (x.f0 ∈ l.take i ∧ x.f0 - 1 ∉ l ∧ RunEnd l x.f0 x.f1)
theorem begun_same {l : List Int} {i : Nat} (hlt : i < l.length) {out : List S49} (h : Begun l i out) (hs : l[i] - 1 ∈ l ∨ l[i] ∈ l.take i) : Begun l (i + 1) out := by
  refine ⟨h.1, fun x => ?_⟩
  have htk : l.take (i + 1) = l.take i ++ [l[i]] := by rw [List.take_add_one]; simp [hlt]
  rw [h.2, htk]
  constructor
  · rintro ⟨h1, h2⟩; exact ⟨List.mem_append_left _ h1, h2⟩
  · rintro ⟨h1, h2, h3⟩
    rcases List.mem_append.1 h1 with h1 | h1
    · exact ⟨h1, h2, h3⟩
    · have e : x.f0 = l[i] := by simpa using h1
      rcases hs with hs | hs
      · rw [e] at h2; exact absurd hs h2
      · rw [e] at h2 h3 ⊢; exact ⟨hs, h2, h3⟩
theorem begun_more {l : List Int} {i : Nat} (hlt : i < l.length) {out : List S49} (h : Begun l i out) (h1 : l[i] - 1 ∉ l) (h2 : l[i] ∉ l.take i) {b : Int} (hb : RunEnd l l[i] b) {at_ : Nat} (ha : at_ ≤ out.length)
    (g1 : ∀ x ∈ out.take at_, x.f0 < l[i]) (g2 : ∀ x ∈ out.drop at_, l[i] < x.f0) : Begun l (i + 1) (out.take at_ ++ [(⟨l[i], b⟩ : S49)] ++ out.drop at_) := by
  have htk : l.take (i + 1) = l.take i ++ [l[i]] := by rw [List.take_add_one]; simp [hlt]
  constructor
  · have hp := h.1
    rw [← List.take_append_drop at_ out] at hp
    obtain ⟨p1, p2, p3⟩ := List.pairwise_append.1 hp
    refine List.pairwise_append.2 ⟨List.pairwise_append.2 ⟨p1, by simp, fun x hx y hy => ?_⟩, p2, fun x hx y hy => ?_⟩
    · simp at hy; subst hy; exact g1 x hx
    · rcases List.mem_append.1 hx with hx | hx
      · exact p3 x hx y hy
      · simp at hx; subst hx; exact g2 y hy
  · intro x
    have e : x ∈ out.take at_ ++ [(⟨l[i], b⟩ : S49)] ++ out.drop at_ ↔ x ∈ out ∨ x = ⟨l[i], b⟩ := by
      conv => rhs; rw [← List.take_append_drop at_ out]
      simp only [List.mem_append, List.mem_singleton]
      constructor
      · rintro ((h | h) | h) <;> simp [h]
      · rintro ((h | h) | h) <;> simp [h]
    rw [e, h.2, htk]
    constructor
    · rintro (⟨h1, h2⟩ | rfl)
      · exact ⟨List.mem_append_left _ h1, h2⟩
      · exact ⟨List.mem_append_right _ (List.mem_singleton.2 rfl), h1, hb⟩
    · rintro ⟨q1, q2, q3⟩
      rcases List.mem_append.1 q1 with q1 | q1
      · exact .inl ⟨q1, q2, q3⟩
      · have e : x.f0 = l[i] := by simpa using q1
        right
        rw [e] at q3
        have := runEnd_one q3 hb
        cases x
        simp at e this
        rw [e, this]
theorem place_loop {l : List Int} {i : Nat} (hlt : i < l.length) {out : List S49} (hol : out.length ≤ 100000) (hp : out.Pairwise (fun a b => a.f0 < b.f0)) (hne : ∀ x ∈ out, x.f0 ≠ l[i]) {b : Int} {B : Nat} {R : Option (List S49)}
    (hR : ∀ k at_, B < k → at_ ≤ out.length → (∀ x ∈ out.take at_, x.f0 < l[i]) → (∀ x ∈ out.drop at_, l[i] < x.f0) → forebearref04_Runs.l0 k l (out.take at_ ++ [(⟨l[i], b⟩ : S49)] ++ out.drop at_) ((i + 1 : Nat) : Int) = R) (hil : i ≤ 100000) :
    ∀ (at_ k : Nat), at_ ≤ out.length → (∀ x ∈ out.drop at_, l[i] < x.f0) → B + at_ + 1 < k → forebearref04_Runs.l2 k l out i l[i] at_ l[i] b = R := by
  intro at_
  induction at_ with
  | zero =>
    intro k ha h2 hk
    obtain ⟨k, rfl⟩ : ∃ m, k = m + 1 := ⟨k - 1, by omega⟩
    simp only [forebearref04_Runs.l2]
    rw [if_neg (by omega)]
    try simp only [Option.bind_some]
    rw [if_pos (by omega), if_pos (by omega), Int.toNat_natCast]
    try simp only [Option.bind_some, List.take_zero, List.append_nil, List.length_nil, List.nil_append, List.length_singleton]
    rw [if_pos (by omega)]
    try simp only [Option.bind_some]
    rw [if_pos (by omega)]
    try simp only [Option.bind_some, List.length_singleton]
    rw [if_pos (by simp; omega), wnat (n := 200000) (by omega) (by omega)]
    have := hR k 0 (by omega) (by omega) (by simp) h2
    simpa using this
  | succ at_ ih =>
    intro k ha h2 hk
    obtain ⟨k, rfl⟩ : ∃ m, k = m + 1 := ⟨k - 1, by omega⟩
    have hlt2 : at_ < out.length := by omega
    have e1 : wrap64 (((at_ + 1 : Nat) : Int) - 1) = (at_ : Int) := by unfold wrap64; omega
    simp only [forebearref04_Runs.l2]
    rw [if_pos (by omega), e1, if_pos (by omega), if_pos (by omega), rdT9_nat out at_ hlt2]
    have hd : out.drop at_ = out[at_] :: out.drop (at_ + 1) := List.drop_eq_getElem_cons hlt2
    by_cases h : out[at_].f0 > l[i]
    · rw [if_pos h]
      refine ih k (by omega) (fun x hx => ?_) (by omega)
      rw [hd] at hx
      rcases List.mem_cons.1 hx with rfl | hx
      · exact h
      · exact h2 x hx
    · rw [if_neg h]
      have hlt3 : out[at_].f0 < l[i] := by
        have := hne out[at_] (List.getElem_mem hlt2); omega
      try simp only [Option.bind_some]
      rw [if_pos (by omega), if_pos (by omega), Int.toNat_natCast]
      try simp only [Option.bind_some, List.length_nil, List.nil_append]
      rw [if_pos (by simp; omega)]
      try simp only [Option.bind_some]
      rw [if_pos (by simp; omega)]
      try simp only [Option.bind_some]
      rw [if_pos (by simp; omega), wnat (n := 200000) (by omega) (by omega)]
      refine hR k (at_ + 1) (by omega) ha (fun x hx => ?_) h2
      have htk : out.take (at_ + 1) = out.take at_ ++ [out[at_]] := by rw [List.take_add_one]; simp [hlt2]
      rw [htk] at hx
      rcases List.mem_append.1 hx with hx | hx
      · rw [← List.take_append_drop at_ out] at hp
        have := (List.pairwise_append.1 hp).2.2 x hx out[at_] (by rw [hd]; exact List.mem_cons_self)
        omega
      · have : x = out[at_] := by simpa using hx
        rw [this]; exact hlt3
theorem end_loop {l : List Int} (hl : l.length ≤ 100000) (hg : ∀ x ∈ l, good x) {i : Nat} {n : Int} {out : List S49} {B : Nat} {R : Option (List S49)}
    (hR : ∀ k b, B < k → RunEnd l n b → forebearref04_Runs.j3 k l out i n n b = R) (hB : 100000 < B) (d : Nat) : ∀ (t : Int) (k : Nat), (9223372036854775807 - t).toNat = d → n ≤ t → good t → (∀ m, n ≤ m → m ≤ t → m ∈ l) → B + d + 1 < k →
    forebearref04_Runs.l1 k l out i n n t = R := by
  induction d with
  | zero =>
    intro t k hd h1 hgt h2 hk
    obtain ⟨k, rfl⟩ : ∃ m, k = m + 1 := ⟨k - 1, by omega⟩
    simp only [forebearref04_Runs.l1]
    unfold good at hgt
    rw [if_neg (by omega)]
    exact hR k t (by omega) ⟨h1, h2, fun h => by have := hg _ h; unfold good at this; omega⟩
  | succ d ih =>
    intro t k hd h1 hgt h2 hk
    obtain ⟨k, rfl⟩ : ∃ m, k = m + 1 := ⟨k - 1, by omega⟩
    simp only [forebearref04_Runs.l1]
    have hgt' := hgt
    unfold good at hgt
    have e : wrap64 (t + 1) = t + 1 := by unfold wrap64; omega
    rw [if_pos (by omega), e, refHas_f hl _ k (by omega)]
    simp only [Option.bind_some, decide_eq_true_eq]
    by_cases h : t + 1 ∈ l
    · rw [if_pos h]
      refine ih (t + 1) k (by omega) (by omega) (hg _ h) (fun m g1 g2 => ?_) (by omega)
      by_cases e2 : m = t + 1
      · rw [e2]; exact h
      · exact h2 m g1 (by omega)
    · rw [if_neg h]
      exact hR k t (by omega) ⟨h1, h2, h⟩
theorem refRuns_l0 {l : List Int} (hl : l.length ≤ 1000) (hg : ∀ x ∈ l, good x) (d : Nat) : ∀ (i k : Nat) (out : List S49), l.length - i = d → i ≤ l.length → out.length ≤ i → Begun l i out → 30000000000000000000 * d + 30000000000000000000 < k →
    ∃ r, forebearref04_Runs.l0 k l out i = some r ∧ Begun l l.length r ∧ r.length ≤ l.length := by
  induction d with
  | zero =>
    intro i k out hd hi ho hb hk
    obtain ⟨k, rfl⟩ : ∃ m, k = m + 1 := ⟨k - 1, by omega⟩
    obtain rfl : i = l.length := by omega
    simp only [forebearref04_Runs.l0]
    rw [if_neg (by omega)]
    exact ⟨out, rfl, hb, ho⟩
  | succ d ih =>
    intro i k out hd hi ho hb hk
    obtain ⟨k, rfl⟩ : ∃ m, k = m + 1 := ⟨k - 1, by omega⟩
    have hlt : i < l.length := by omega
    have hgi := hg l[i] (List.getElem_mem hlt)
    have hgi' := hgi
    unfold good at hgi'
    simp only [forebearref04_Runs.l0]
    rw [if_pos (by omega), if_pos (by omega), rd_nat l i hlt]
    have hj1t : ∀ k, 30000000000000000000 * d + 30000000000000000001 < k → (l[i] - 1 ∈ l ∨ l[i] ∈ l.take i) → ∃ r, forebearref04_Runs.j1 k l out i l[i] true = some r ∧ Begun l l.length r ∧ r.length ≤ l.length := by
      intro k hk hs
      obtain ⟨k, rfl⟩ : ∃ m, k = m + 1 := ⟨k - 1, by omega⟩
      simp only [forebearref04_Runs.j1, if_true]
      rw [wnat hlt (by omega)]
      exact ih (i + 1) k out (by omega) (by omega) (by omega) (begun_same hlt hb hs) (by omega)
    have hj1f : ∀ k, 30000000000000000000 * d + 55000000000000000000 < k → l[i] - 1 ∉ l → l[i] ∉ l.take i → ∃ r, forebearref04_Runs.j1 k l out i l[i] false = some r ∧ Begun l l.length r ∧ r.length ≤ l.length := by
      intro k hk n1 n2
      obtain ⟨k, rfl⟩ : ∃ m, k = m + 1 := ⟨k - 1, by omega⟩
      simp only [forebearref04_Runs.j1, Bool.false_eq_true, if_false]
      obtain ⟨b, hbe⟩ := runEnd_ex hg _ l[i] (List.getElem_mem hlt) rfl
      have hne : ∀ x ∈ out, x.f0 ≠ l[i] := fun x hx e => n2 (e ▸ ((hb.2 x).1 hx).1)
      -- where it goes, and what follows
      have hfin : ∀ k at_, 30000000000000000000 * d + 30000000000000000001 < k → at_ ≤ out.length → (∀ x ∈ out.take at_, x.f0 < l[i]) → (∀ x ∈ out.drop at_, l[i] < x.f0) → ∃ r, forebearref04_Runs.l0 k l (out.take at_ ++ [(⟨l[i], b⟩ : S49)] ++ out.drop at_) ((i + 1 : Nat) : Int) = some r ∧ Begun l l.length r ∧ r.length ≤ l.length := by
        intro k at_ hk ha g1 g2
        refine ih (i + 1) k _ (by omega) (by omega) ?_ (begun_more hlt hb n1 n2 hbe ha g1 g2) (by omega)
        have := congrArg List.length (List.take_append_drop at_ out)
        simp at this ⊢; omega
      have huniq : ∀ r r' : List S49, Begun l l.length r → Begun l l.length r' → r = r' := by
        intro r r' h1 h2
        have key : ∀ {a c : List S49}, a.Pairwise (fun x y => x.f0 < y.f0) → c.Pairwise (fun x y => x.f0 < y.f0) → (∀ x, x ∈ a ↔ x ∈ c) → a = c := by
          intro a
          induction a with
          | nil =>
            intro c _ _ h
            cases c with
            | nil => rfl
            | cons y c => exact absurd ((h y).2 (by simp)) (by simp)
          | cons x a iha =>
            intro c ha hc h
            cases c with
            | nil => exact absurd ((h x).1 (by simp)) (by simp)
            | cons y c =>
              obtain ⟨a1, a2⟩ := List.pairwise_cons.1 ha
              obtain ⟨c1, c2⟩ := List.pairwise_cons.1 hc
              have hxy : x = y := by
                rcases List.mem_cons.1 ((h x).1 (by simp)) with e | e
                · exact e
                · rcases List.mem_cons.1 ((h y).2 (by simp)) with f | f
                  · exact f.symm
                  · have := c1 x e; have := a1 y f; omega
              subst hxy
              congr 1
              refine iha a2 c2 fun z => ⟨fun hz => ?_, fun hz => ?_⟩
              · rcases List.mem_cons.1 ((h z).1 (List.mem_cons_of_mem _ hz)) with e | e
                · subst e; have := a1 z hz; omega
                · exact e
              · rcases List.mem_cons.1 ((h z).2 (List.mem_cons_of_mem _ hz)) with e | e
                · subst e; have := c1 z hz; omega
                · exact e
        exact key h1.1 h2.1 fun x => by rw [h1.2, h2.2]
      -- all ways answer one and the same
      have hpl : ∃ at_, at_ ≤ out.length ∧ (∀ x ∈ out.take at_, x.f0 < l[i]) ∧ ∀ x ∈ out.drop at_, l[i] < x.f0 := by
        have : ∀ at_, at_ ≤ out.length → (∀ x ∈ out.drop at_, l[i] < x.f0) → ∃ a, a ≤ out.length ∧ (∀ x ∈ out.take a, x.f0 < l[i]) ∧ ∀ x ∈ out.drop a, l[i] < x.f0 := by
          intro at_
          induction at_ with
          | zero => intro h1 h2; exact ⟨0, h1, by simp, h2⟩
          | succ at_ iha =>
            intro h1 h2
            have hlt2 : at_ < out.length := by omega
            have hd : out.drop at_ = out[at_] :: out.drop (at_ + 1) := List.drop_eq_getElem_cons hlt2
            by_cases h : out[at_].f0 > l[i]
            · refine iha (by omega) (fun x hx => ?_)
              rw [hd] at hx
              rcases List.mem_cons.1 hx with rfl | hx
              · exact h
              · exact h2 x hx
            · refine ⟨at_ + 1, h1, fun x hx => ?_, h2⟩
              have hlt3 : out[at_].f0 < l[i] := by
                have := hne out[at_] (List.getElem_mem hlt2); omega
              have htk : out.take (at_ + 1) = out.take at_ ++ [out[at_]] := by rw [List.take_add_one]; simp [hlt2]
              rw [htk] at hx
              rcases List.mem_append.1 hx with hx | hx
              · have hp := hb.1
                rw [← List.take_append_drop at_ out] at hp
                have := (List.pairwise_append.1 hp).2.2 x hx out[at_] (by rw [hd]; exact List.mem_cons_self)
                omega
              · have : x = out[at_] := by simpa using hx
                rw [this]; exact hlt3
        exact this out.length (Nat.le_refl _) (by simp)
      obtain ⟨at0, p1, p2, p3⟩ := hpl
      obtain ⟨r, hr1, hr2, hr3⟩ := hfin (30000000000000000000 * d + 30000000000000000002) at0 (by omega) p1 p2 p3
      refine ⟨r, ?_, hr2, hr3⟩
      refine end_loop (by omega) hg (B := 30000000000000000000 * d + 31000000000000000000) (fun k b' hk hb' => ?_) (by omega) _ l[i] k rfl (Int.le_refl _) hgi (fun m g1 g2 => by rw [show m = l[i] by omega]; exact List.getElem_mem hlt) (by omega)
      obtain rfl := runEnd_one hb' hbe
      obtain ⟨k, rfl⟩ : ∃ m, k = m + 1 := ⟨k - 1, by omega⟩
      simp only [forebearref04_Runs.j3]
      refine place_loop hlt (by omega) hb.1 hne (B := 30000000000000000000 * d + 30000000000000000001) (fun k at_ hk ha g1 g2 => ?_) (by omega) out.length k (Nat.le_refl _) (by simp) (by omega)
      obtain ⟨r', h1, h2, h3⟩ := hfin k at_ hk ha g1 g2
      rw [h1, huniq r' r h2 hr2]
    have hwp : -9223372036854775808 < l[i] → wrap64 (l[i] - 1) = l[i] - 1 := by intro h; unfold wrap64; omega
    have hrest : ∀ k, 30000000000000000000 * d + 55000000000000000001 < k → l[i] - 1 ∉ l → ∃ r, ((forebearref04_has.f k (l.take (i : Int).toNat) l[i]).bind fun t => forebearref04_Runs.j1 k l out i l[i] t) = some r ∧ Begun l l.length r ∧ r.length ≤ l.length := by
      intro k hk n1
      rw [Int.toNat_natCast, refHas_f (by simp; omega) _ k (by simp; omega)]
      simp only [Option.bind_some]
      by_cases n2 : l[i] ∈ l.take i
      · rw [decide_eq_true n2]; exact hj1t k (by omega) (.inr n2)
      · rw [decide_eq_false n2]; exact hj1f k (by omega) n1 n2
    by_cases hmin : l[i] > -9223372036854775808
    · rw [if_pos hmin, hwp hmin, refHas_f (by omega) _ k (by omega)]
      simp only [Option.bind_some, decide_eq_true_eq]
      by_cases n1 : l[i] - 1 ∈ l
      · rw [if_pos n1]; exact hj1t k (by omega) (.inl n1)
      · rw [if_neg n1, if_pos (by omega)]; exact hrest k (by omega) n1
    · rw [if_neg hmin, if_pos (by omega)]
      refine hrest k (by omega) (fun h => ?_)
      have := hg _ h
      unfold good at this; omega
theorem refRuns_f {l : List Int} (hl : l.length ≤ 1000) (hg : ∀ x ∈ l, good x) (k : Nat) (hk : 30000000000000000000 * 1002 < k) : ∃ r, forebearref04_Runs.f k l = some r ∧ Gaps (r.map pr9) ∧ (∀ n, has (r.map pr9) n ↔ n ∈ l) ∧ r.length ≤ l.length := by
  obtain ⟨r, h1, h2, h3⟩ := refRuns_l0 hl hg l.length 0 k [] (by omega) (by omega) (by simp) ⟨List.Pairwise.nil, by simp⟩ (by omega)
  rw [show ((0 : Nat) : Int) = 0 from rfl] at h1
  refine ⟨r, h1, ⟨fun x hx => ?_, ?_⟩, fun n => ⟨?_, ?_⟩, h3⟩
  · obtain ⟨y, hy, rfl⟩ := List.mem_map.1 hx
    exact ((h2.2 y).1 hy).2.2.1
  · rw [List.pairwise_map]
    refine List.Pairwise.imp_of_mem (fun {a b} ha hb hab => ?_) h2.1
    obtain ⟨-, a2, a3, a4, a5⟩ := (h2.2 a).1 ha
    obtain ⟨b1, b2, b3, b4, b5⟩ := (h2.2 b).1 hb
    simp only [pr9]
    have hbl : b.f0 ∈ l := b4 b.f0 (Int.le_refl _) b3
    apply Classical.byContradiction
    intro hc
    by_cases e : b.f0 = a.f1 + 1
    · rw [e] at hbl; exact a5 hbl
    · exact b2 (a4 (b.f0 - 1) (by omega) (by omega))
  · rintro ⟨x, hx, g1, g2⟩
    obtain ⟨y, hy, rfl⟩ := List.mem_map.1 hx
    exact ((h2.2 y).1 hy).2.2.2.1 n g1 g2
  · have : ∀ (d : Nat) (n : Int), n ∈ l → (n + 9223372036854775808).toNat = d → has (r.map pr9) n := by
      intro d
      induction d with
      | zero =>
        intro n hn hd
        have hgn := hg n hn
        unfold good at hgn
        obtain ⟨b, hb⟩ := runEnd_ex hg _ n hn rfl
        have : (⟨n, b⟩ : S49) ∈ r := (h2.2 _).2 ⟨by simpa using hn, fun h => by have := hg _ h; unfold good at this; simp at this; omega, hb⟩
        exact ⟨(n, b), List.mem_map.2 ⟨_, this, rfl⟩, Int.le_refl _, hb.1⟩
      | succ d ih =>
        intro n hn hd
        by_cases h : n - 1 ∈ l
        · obtain ⟨x, hx, g1, g2⟩ := ih (n - 1) h (by omega)
          refine ⟨x, hx, by omega, ?_⟩
          obtain ⟨y, hy, rfl⟩ := List.mem_map.1 hx
          have := ((h2.2 y).1 hy).2.2.2.2
          simp only [pr9] at *
          apply Classical.byContradiction
          intro hc
          have e : y.f1 + 1 = n := by omega
          rw [e] at this; exact this hn
        · obtain ⟨b, hb⟩ := runEnd_ex hg _ n hn rfl
          have : (⟨n, b⟩ : S49) ∈ r := (h2.2 _).2 ⟨by simpa using hn, h, hb⟩
          exact ⟨(n, b), List.mem_map.2 ⟨_, this, rfl⟩, Int.le_refl _, hb.1⟩
    exact fun hn => this _ n hn rfl
theorem refIn_l0 (n : Int) {l : List S49} (hl : l.length ≤ 100000) (d : Nat) : ∀ (i k : Nat), l.length - i = d → i ≤ l.length → d < k →
    forebearref04_In.l0 k n l i = some ((l.drop i).any fun x => decide (x.f0 ≤ n) && decide (n ≤ x.f1)) := by
  induction d with
  | zero =>
    intro i k hd hi hk
    obtain ⟨k, rfl⟩ : ∃ m, k = m + 1 := ⟨k - 1, by omega⟩
    simp only [forebearref04_In.l0]
    rw [if_neg (by omega), List.drop_eq_nil_of_le (by omega)]; rfl
  | succ d ih =>
    intro i k hd hi hk
    obtain ⟨k, rfl⟩ : ∃ m, k = m + 1 := ⟨k - 1, by omega⟩
    have hlt : i < l.length := by omega
    simp only [forebearref04_In.l0]
    rw [if_pos (by omega), if_pos (by omega), rdT9_nat l i hlt, List.drop_eq_getElem_cons hlt, wnat hlt (by omega), ih (i + 1) k (by omega) (by omega) (by omega)]
    simp only [List.any_cons]
    by_cases h1 : n ≥ l[i].f0
    · rw [if_pos h1]
      by_cases h2 : n ≤ l[i].f1
      · rw [if_pos h2]; simp [h2]; omega
      · rw [if_neg h2]; simp [h2]
    · rw [if_neg h1]
      have : ¬ l[i].f0 ≤ n := by omega
      simp [this]
theorem refIn_f (n : Int) {l : List S49} (hl : l.length ≤ 100000) (k : Nat) (hk : l.length < k) : forebearref04_In.f k n l = some (l.any fun x => decide (x.f0 ≤ n) && decide (n ≤ x.f1)) := by
  have := refIn_l0 n hl l.length 0 k (by omega) (by omega) hk
  rw [show ((0 : Nat) : Int) = 0 from rfl] at this
  simpa [forebearref04_In.f] using this
theorem runs_l1 {l : List Int} (hl : l.length ≤ 1000) {a : List S48} (ha : ∀ n, has (a.map pr) n ↔ n ∈ l) (d : Nat) : ∀ (i k : Nat), l.length - i = d → i ≤ l.length → d < k →
    forebearlaw04_TextRuns.l1 k l l a i = some true := by
  induction d with
  | zero =>
    intro i k hd hi hk
    obtain ⟨k, rfl⟩ : ∃ m, k = m + 1 := ⟨k - 1, by omega⟩
    simp only [forebearlaw04_TextRuns.l1]
    rw [if_neg (by omega)]
  | succ d ih =>
    intro i k hd hi hk
    obtain ⟨k, rfl⟩ : ∃ m, k = m + 1 := ⟨k - 1, by omega⟩
    have hlt : i < l.length := by omega
    simp only [forebearlaw04_TextRuns.l1]
    rw [if_pos (by omega), if_pos (by omega), if_pos (by omega), rd_nat l i hlt]
    simp only [if_true]
    rw [in_f]
    have : a.any (text_In_has l[i]) = true := (any_has _ _).2 ((ha _).2 (List.getElem_mem hlt))
    rw [this]
    simp only [Option.bind_some, if_true]
    rw [wnat hlt (by omega)]
    exact ih (i + 1) k (by omega) (by omega) (by omega)
theorem runs_l0 {l : List Int} (hl : l.length ≤ 1000) {a : List S48} {b : List S49} (hab : a.map pr = b.map pr9) (hal : a.length ≤ 1000) (ha : ∀ n, has (a.map pr) n ↔ n ∈ l) (d : Nat) : ∀ (i k : Nat), a.length - i = d → i ≤ a.length → d + 2000 < k →
    forebearlaw04_TextRuns.l0 k l l a b i = some true := by
  have hbl : a.length = b.length := by have := congrArg List.length hab; simpa using this
  induction d with
  | zero =>
    intro i k hd hi hk
    obtain ⟨k, rfl⟩ : ∃ m, k = m + 1 := ⟨k - 1, by omega⟩
    simp only [forebearlaw04_TextRuns.l0]
    rw [if_neg (by omega)]
    have := runs_l1 hl ha l.length 0 k (by omega) (by omega) (by omega)
    simpa using this
  | succ d ih =>
    intro i k hd hi hk
    obtain ⟨k, rfl⟩ : ∃ m, k = m + 1 := ⟨k - 1, by omega⟩
    have hlt : i < a.length := by omega
    have hlt2 : i < b.length := by omega
    have e : pr a[i] = pr9 b[i] := by
      have := congrArg (fun z => z[i]?) hab
      simpa [hlt, hlt2] using this
    simp only [pr, pr9, Prod.mk.injEq] at e
    simp only [forebearlaw04_TextRuns.l0]
    rw [if_pos (by omega), if_pos (by omega), if_pos (by omega), rdT_nat a i hlt, rdT9_nat b i hlt2, if_pos e.1, if_pos e.2, wnat hlt (by omega)]
    exact ih (i + 1) k (by omega) (by omega) (by omega)
theorem TextRuns : forebearlaw04_TextRuns.Pure := by
  intro l n hl hn
  obtain ⟨-, -, hg⟩ := hl
  have hg' : ∀ x ∈ l, good x := by
    intro x hx
    have := hg x hx
    simp [Lit.wf] at this
    unfold good
    have e1 : IntKind.i64.min = -9223372036854775808 := by decide
    have e2 : IntKind.i64.max = 9223372036854775807 := by decide
    omega
  obtain ⟨B, hB⟩ : ∃ B : Nat, B = 30000000000000000000 * 1005 := ⟨_, rfl⟩
  refine ⟨B, ?_⟩
  unfold forebearlaw04_TextRuns.f
  rw [awake_f B (by omega)]
  simp only [Option.bind_some, if_true]
  by_cases h : (l.length : Int) > 300
  · rw [if_pos h]
  rw [if_neg h, if_pos (by simp; omega)]
  simp only [Option.bind_some, List.nil_append]
  obtain ⟨a, a1, a2, a3, a4⟩ := truns_f (l := l) (by omega) hg' B (by omega)
  obtain ⟨b, b1, b2, b3, b4⟩ := refRuns_f (l := l) (by omega) hg' B (by omega)
  have hab : a.map pr = b.map pr9 := gaps_eq a2 b2 fun n => by rw [a3, b3]
  have hbl : a.length = b.length := by have := congrArg List.length hab; simpa using this
  rw [a1, b1]
  simp only [Option.bind_some]
  rw [if_pos (by omega), in_f, refIn_f n (by omega) B (by omega)]
  simp only [Option.bind_some]
  have e : (a.any (text_In_has n) != b.any fun x => decide (x.f0 ≤ n) && decide (n ≤ x.f1)) = false := by
    have h1 : a.any (text_In_has n) = (a.map pr).any (fun x => decide (x.1 ≤ n) && decide (n ≤ x.2)) := by rw [List.any_map]; rfl
    have h2 : (b.any fun x => decide (x.f0 ≤ n) && decide (n ≤ x.f1)) = (b.map pr9).any (fun x => decide (x.1 ≤ n) && decide (n ≤ x.2)) := by rw [List.any_map]; rfl
    rw [h1, h2, hab]; simp
  rw [e]
  have hj : ∀ k, 5000 < k → forebearlaw04_TextRuns.j0 k l l a b false = some true := by
    intro k hk
    obtain ⟨k, rfl⟩ : ∃ m, k = m + 1 := ⟨k - 1, by omega⟩
    simp only [forebearlaw04_TextRuns.j0, Bool.false_eq_true, if_false]
    have := runs_l0 (l := l) (by omega) hab (by omega) a3 a.length 0 k (by omega) (by omega) (by omega)
    simpa using this
  exact hj B (by omega)
end Go.Proofs.Ytlbkobiphfaafaa.Pure
