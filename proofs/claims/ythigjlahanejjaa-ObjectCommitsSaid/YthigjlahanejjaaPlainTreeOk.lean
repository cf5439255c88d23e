/- Which lists of entries are a tree, and the bytes of it, in plain Lean. No condition. -/
import Derived.Test.YthigjlahanejjaaMOx0
import Derived.Test.YthigjlahanejjaaMOx1
import Derived.Test.YthigjlahanejjaaMOx2
import Derived.Test.YthigjlahanejjaaPlainTree
set_option linter.unusedVariables false
set_option linter.unusedSimpArgs false
namespace Go.Proofs.Ythigjlahanejjaa.Pure
open Go.RowKit Go.Proofs.Ythigjlahanejjaa.MO Go.Proofs.Ythigjlahanejjaa.Opening Go.Proofs.YthigjlahanejjaaW.PrintWords Go.Proofs.YthigjlahanejjaaW.PrintLast Go.Proofs.YthigjlahanejjaaW.PrintMore
theorem cmp_both : ∀ a b : K, (Lib.compareBytes a b < 0 ↔ a < b) ∧ (Lib.compareBytes a b = 0 ↔ a = b)
  | [], [] => by simp [Lib.compareBytes]
  | [], _ :: _ => by simp [Lib.compareBytes]
  | _ :: _, [] => by simp [Lib.compareBytes]
  | a :: s, b :: t => by
    obtain ⟨h1, h2⟩ := cmp_both s t
    unfold Lib.compareBytes
    by_cases c : a < b
    · have ne : a ≠ b := fun e => by subst e; exact absurd c (UInt8.lt_irrefl a)
      simp [c, List.cons_lt_cons_iff, ne]
    · by_cases c2 : b < a
      · have ne : a ≠ b := fun e => by subst e; exact absurd c2 (UInt8.lt_irrefl a)
        simp [c, c2, List.cons_lt_cons_iff, ne]
      · have e : a = b := UInt8.le_antisymm (UInt8.not_lt.1 c2) (UInt8.not_lt.1 c)
        subst e
        simp [List.cons_lt_cons_iff, h1, h2, UInt8.lt_irrefl]
abbrev ks (l : List S67) : List K := l.map keyE
theorem rise_get {l : List S67} (h : Rise (ks l)) (i j : Nat) (hij : i < j) (hj : j < l.length) : keyE (l[i]'(by omega)) < keyE l[j] := by
  have := List.pairwise_iff_getElem.1 h i j (by simp; omega) (by simp; omega) hij
  simpa using this
theorem cmpE_both {l : List S67} {i : Nat} (h : i < l.length) (t : ByteArray) : (cmpE l t i < 0 ↔ keyE l[i] < key t) ∧ (cmpE l t i = 0 ↔ keyE l[i] = key t) := by
  unfold cmpE
  rw [rd67 h]
  exact cmp_both _ _
theorem bsGo_spec {l : List S67} (t : ByteArray) (hR : Rise (ks l)) : ∀ (d lo hi : Nat), lo ≤ hi → hi ≤ l.length → hi - lo ≤ d → (∀ i (h : i < l.length), i < lo → keyE l[i] < key t) → (∀ i (h : i < l.length), hi ≤ i → ¬ keyE l[i] < key t) →
    (∀ i (h : i < l.length), i < bsGo l t d lo hi → keyE l[i] < key t) ∧ (∀ i (h : i < l.length), bsGo l t d lo hi ≤ i → ¬ keyE l[i] < key t) := by
  intro d
  induction d with
  | zero =>
    intro lo hi h1 h2 h3 h4 h5
    have e : lo = hi := by omega
    subst e
    exact ⟨h4, h5⟩
  | succ d ih =>
    intro lo hi h1 h2 h3 h4 h5
    unfold bsGo
    by_cases c : lo < hi
    · rw [if_pos c]
      have hm : (lo + hi) / 2 < l.length := by omega
      by_cases c2 : cmpE l t ((lo + hi) / 2) < 0
      · rw [if_pos c2]
        have hlt := (cmpE_both hm t).1.1 c2
        refine ih _ _ (by omega) h2 (by omega) (fun i h hi' => ?_) h5
        by_cases e : i = (lo + hi) / 2
        · subst e; exact hlt
        · exact lt_tr (rise_get hR i _ (by omega) hm) hlt
      · rw [if_neg c2]
        have hlt : ¬ keyE l[(lo + hi) / 2] < key t := fun h => c2 ((cmpE_both hm t).1.2 h)
        refine ih _ _ (by omega) (by omega) (by omega) h4 (fun i h hi' hh => ?_)
        by_cases e : i = (lo + hi) / 2
        · subst e; exact hlt hh
        · exact hlt (lt_tr (rise_get hR _ i (by omega) h) hh)
    · rw [if_neg c]
      have e : lo = hi := by omega
      subst e
      exact ⟨h4, h5⟩
theorem bsFound_iff {l : List S67} (t : ByteArray) (hR : Rise (ks l)) : bsFound l t = true ↔ key t ∈ ks l := by
  obtain ⟨h1, h2⟩ := bsGo_spec t hR l.length 0 l.length (by omega) (by omega) (by omega) (fun i _ h => by omega) (fun i h h' => by omega)
  unfold bsFound
  rw [Bool.and_eq_true, decide_eq_true_eq, decide_eq_true_eq]
  constructor
  · rintro ⟨a, b⟩
    rw [← (cmpE_both a t).2.1 b]
    exact List.mem_map_of_mem (List.getElem_mem a)
  · intro h
    obtain ⟨x, hx, e⟩ := List.mem_map.1 h
    obtain ⟨i, hi, rfl⟩ := List.getElem_of_mem hx
    have hle : bsPos l t ≤ i := by
      rcases Nat.lt_or_ge i (bsPos l t) with c | c
      · exact absurd (h1 i hi c) (by rw [e]; exact lt_irr _)
      · exact c
    have hlt : bsPos l t < l.length := by omega
    have he : bsPos l t = i := by
      rcases Nat.lt_or_ge (bsPos l t) i with c | c
      · exact absurd (by rw [← e]; exact rise_get hR _ i c hi) (h2 _ hlt (Nat.le_refl _))
      · omega
    exact ⟨hlt, (cmpE_both hlt t).2.2 (by simp only [he]; exact e)⟩
/-! ### The parts of a path -/
theorem mem_cuts : ∀ (t pre d : K), d ∈ cuts pre t ↔ ∃ a b, t = a ++ 47 :: b ∧ d = pre ++ a
  | [], pre, d => by simp [cuts]
  | c :: t, pre, d => by
    have ih := mem_cuts t (pre ++ [c]) d
    unfold cuts
    constructor
    · intro h
      by_cases e : c = 47
      · rw [if_pos e] at h
        rcases List.mem_cons.1 h with h | h
        · exact ⟨[], t, by simp [e], by simp [h]⟩
        · obtain ⟨a, b, h1, h2⟩ := ih.1 h
          exact ⟨c :: a, b, by simp [h1], by simp [h2]⟩
      · rw [if_neg e] at h
        obtain ⟨a, b, h1, h2⟩ := ih.1 h
        exact ⟨c :: a, b, by simp [h1], by simp [h2]⟩
    · rintro ⟨a, b, h1, h2⟩
      cases a with
      | nil =>
        simp only [List.nil_append, List.cons.injEq] at h1
        rw [if_pos h1.1]
        exact List.mem_cons.2 (.inl (by simpa using h2))
      | cons a0 a =>
        simp only [List.cons_append, List.cons.injEq] at h1
        have : d ∈ cuts (pre ++ [c]) t := ih.2 ⟨a, b, h1.2, by rw [h2, h1.1]; simp⟩
        split
        · exact List.mem_cons_of_mem _ this
        · exact this
theorem lt_longer (d : K) (c : UInt8) (b : K) : d < d ++ c :: b := by
  induction d with
  | nil => exact List.nil_lt_cons _ _
  | cons a d ih => rw [List.cons_append, List.cons_lt_cons_iff]; exact .inr ⟨rfl, ih⟩
/-- d is a proper part of p. -/
def Part (p d : K) : Prop := ∃ b, p = d ++ 47 :: b
theorem mem_parts (p d : K) (hp : isP p = true) : (d ∈ partsK p ∧ d ≠ p) ↔ Part p d := by
  unfold partsK
  rw [if_pos hp, List.mem_append, mem_cuts]
  constructor
  · rintro ⟨h | h, hn⟩
    · obtain ⟨a, b, h1, h2⟩ := h
      exact ⟨b, by rw [h1, h2]; rfl⟩
    · exact absurd (List.mem_singleton.1 h) hn
  · rintro ⟨b, h⟩
    refine ⟨.inl ⟨d, b, h, rfl⟩, fun e => ?_⟩
    have := congrArg List.length h
    rw [e] at this
    simp at this
theorem part_lt {p d : K} (h : Part p d) : d < p := by
  obtain ⟨b, h⟩ := h
  rw [h]; exact lt_longer _ _ _
theorem under_iff (p d : K) : under p d = true ↔ p = d ∨ Part p d := by
  unfold under
  rw [Bool.and_eq_true, beq_iff_eq]
  constructor
  · rintro ⟨h1, h2⟩
    have e := List.take_append_drop d.length p
    rw [h1] at e
    cases hd : p.drop d.length with
    | nil => rw [hd, List.append_nil] at e; exact .inl e.symm
    | cons c b =>
      rw [hd] at e h2
      have hc : c = 47 := by simpa using h2
      exact .inr ⟨b, by rw [← e, hc]⟩
  · rintro (h | ⟨b, h⟩)
    · subst h; simp
    · subst h; simp
/-! ### Which lists are a tree -/
def okT (l : List S67) : Prop := Rise (ks l) ∧ ∀ x ∈ l, ∀ d, Part (keyE x) d → d ∉ ks l
theorem rise_of {l : List S67} (h : ∀ i, 0 < i → ∀ h : i < l.length, keyE (l[i - 1]'(by omega)) < keyE l[i]) : Rise (ks l) := by
  have H : ∀ d i, ∀ h : i + d + 1 < l.length, keyE (l[i]'(by omega)) < keyE l[i + d + 1] := by
    intro d
    induction d with
    | zero => intro i hi; exact h (i + 1) (by omega) hi
    | succ d ih => intro i hi; exact lt_tr (ih i (by omega)) (h (i + (d + 1) + 1) (by omega) hi)
  refine List.pairwise_iff_getElem.2 fun i j hi hj hij => ?_
  simp only [List.length_map] at hi hj
  have := H (j - i - 1) i (by omega)
  simp only [List.getElem_map]
  simpa only [show i + (j - i - 1) + 1 = j by omega] using this
theorem rise_take {l : List S67} (h : Rise (ks l)) (i : Nat) : Rise (ks (l.take i)) := by
  have : ks (l.take i) = (ks l).take i := by simp [ks, List.map_take]
  rw [this]
  exact List.Pairwise.sublist (List.take_sublist i _) h
theorem fine_iff (l : List S67) (hp : ∀ x ∈ l, isP (keyE x) = true) : (∀ i, i < l.length → fine l i) ↔ okT l := by
  constructor
  · intro h
    have hR : Rise (ks l) := rise_of fun i h0 hi => by
      have := (h i hi).1 h0 hi
      rw [bytesLess_eq, decide_eq_true_eq, toList_key, toList_key] at this
      exact this
    refine ⟨hR, fun x hx d hd hm => ?_⟩
    obtain ⟨i, hi, rfl⟩ := List.getElem_of_mem hx
    obtain ⟨y, hy, e⟩ := List.mem_map.1 hm
    obtain ⟨j, hj, rfl⟩ := List.getElem_of_mem hy
    have hm2 := (mem_parts _ d (hp _ hx)).2 hd
    have hf := (h i hi).2 hi d hm2.1 hm2.2
    have hji : j < i := by
      rcases Nat.lt_or_ge j i with c | c
      · exact c
      · have hlt := part_lt hd
        rw [← e] at hlt
        rcases Nat.lt_or_eq_of_le c with c | c
        · exact absurd (lt_tr hlt (rise_get hR i j c hj)) (lt_irr _)
        · subst c; exact absurd hlt (lt_irr _)
    have := (bsFound_iff (l := l.take i) ⟨d.toArray⟩ (rise_take hR i)).2 (by
      rw [key_mk, ← e]
      refine List.mem_map_of_mem ?_
      exact List.mem_take_iff_getElem.2 ⟨j, by omega, rfl⟩)
    rw [hf] at this
    exact absurd this (by decide)
  · rintro ⟨hR, hP⟩ i hi
    refine ⟨fun h0 h => ?_, fun h d hd hne => ?_⟩
    · rw [bytesLess_eq, decide_eq_true_eq, toList_key, toList_key]
      exact rise_get hR (i - 1) i (by omega) h
    · have hx := List.getElem_mem h
      have hpart := (mem_parts _ d (hp _ hx)).1 ⟨hd, hne⟩
      rw [Bool.eq_false_iff]
      intro hb
      have hm := (bsFound_iff (l := l.take i) ⟨d.toArray⟩ (rise_take hR i)).1 hb
      rw [key_mk] at hm
      obtain ⟨y, hy, e⟩ := List.mem_map.1 hm
      exact hP _ hx d hpart (List.mem_map.2 ⟨y, List.mem_of_mem_take hy, e⟩)
/-- What the document's two loops look at. -/
theorem pairs_iff (l : List S67) : (∀ i k (hi : i < l.length) (hk : k < l.length), (i < k → keyE l[i] < keyE l[k]) ∧ (i ≠ k → under (keyE l[i]) (keyE l[k]) = false)) ↔ okT l := by
  constructor
  · intro h
    refine ⟨rise_of fun i h0 hi => (h (i - 1) i (by omega) hi).1 (by omega), fun x hx d hd hm => ?_⟩
    obtain ⟨i, hi, rfl⟩ := List.getElem_of_mem hx
    obtain ⟨y, hy, e⟩ := List.mem_map.1 hm
    obtain ⟨j, hj, rfl⟩ := List.getElem_of_mem hy
    by_cases c : i = j
    · subst c
      exact absurd (part_lt hd) (by rw [← e]; exact lt_irr _)
    · have := (h i j hi hj).2 c
      rw [Bool.eq_false_iff] at this
      exact this ((under_iff _ _).2 (.inr (by rw [e]; exact hd)))
  · rintro ⟨hR, hP⟩ i k hi hk
    refine ⟨fun h => rise_get hR i k h hk, fun h => ?_⟩
    rw [Bool.eq_false_iff]
    intro hu
    rcases (under_iff _ _).1 hu with e | e
    · rcases Nat.lt_or_ge i k with c | c
      · exact absurd (rise_get hR i k c hk) (by rw [e]; exact lt_irr _)
      · exact absurd (rise_get hR k i (by omega) hi) (by rw [e]; exact lt_irr _)
    · exact hP _ (List.getElem_mem hi) _ e (List.mem_map_of_mem (List.getElem_mem hk))
noncomputable def okB (l : List S67) : Bool := @decide (okT l) (Classical.propDecidable _)
theorem okB_iff (l : List S67) : okB l = true ↔ okT l := @decide_eq_true_iff _ (Classical.propDecidable _)
noncomputable def treeT (l : List S67) : List Int × Int :=
  if 64 < l.length then ([], 4) else if l.all (fun x => isP (keyE x)) then cond (okB l) (l.flatMap entB, 0) ([], 12) else ([], 2)
/-! ### The program's tree -/
theorem among_app (l : List S67) (i : Nat) (self s : ByteArray) (hs : key s = key self) : ∀ qs : List ByteArray, (∀ d ∈ qs, key d ≠ key self) → amongP l i self (qs ++ [s]) = qs.any (bsFound (l.take i))
  | [], _ => by simp [amongP, toList_key, hs]
  | d :: qs, h => by
    rw [List.cons_append, amongP, if_neg (by rw [toList_key, toList_key]; exact h d (List.mem_cons_self)), among_app l i self s hs qs fun x hx => h x (List.mem_cons_of_mem _ hx), List.any_cons]
theorem among_iff (l : List S67) (i : Nat) (hi : i < l.length) (ps : List ByteArray) (hps : keys ps = partsK (keyE l[i])) :
    amongP l i l[i].f0 ps = false ↔ ∀ d ∈ partsK (keyE l[i]), d ≠ keyE l[i] → bsFound (l.take i) ⟨d.toArray⟩ = false := by
  by_cases hp : isP (keyE l[i]) = true
  · have e : partsK (keyE l[i]) = cuts [] (keyE l[i]) ++ [keyE l[i]] := by unfold partsK; rw [if_pos hp]
    rw [e] at hps
    obtain ⟨qs, r, rfl, hq, hr⟩ := List.map_eq_append_iff.1 hps
    obtain ⟨s, rfl, hs⟩ := List.map_eq_singleton_iff.1 hr
    have hmk : ∀ d : ByteArray, (⟨(key d).toArray⟩ : ByteArray) = d := fun d => key_inj (key_mk _)
    have hne : ∀ d ∈ qs, key d ≠ key l[i].f0 := fun d hd => by
      have : key d ∈ cuts [] (keyE l[i]) := by rw [← hq]; exact List.mem_map_of_mem hd
      obtain ⟨a, b, h1, h2⟩ := (mem_cuts _ _ _).1 this
      intro ee
      have h3 := congrArg List.length h1
      rw [show keyE l[i] = key d from ee.symm, h2] at h3
      simp at h3
    rw [among_app l i _ s hs qs hne, Bool.eq_false_iff, ne_eq, List.any_eq_true]
    constructor
    · intro h d hd hn
      rw [e, List.mem_append] at hd
      rcases hd with hd | hd
      · rw [← hq] at hd
        obtain ⟨x, hx, rfl⟩ := List.mem_map.1 hd
        rw [hmk, Bool.eq_false_iff]
        exact fun hb => h ⟨x, hx, hb⟩
      · exact absurd (List.mem_singleton.1 hd) hn
    · rintro h ⟨x, hx, hb⟩
      have := h (key x) (by rw [e, ← hq]; exact List.mem_append_left _ (List.mem_map_of_mem hx)) (hne x hx)
      rw [hmk, hb] at this
      exact absurd this (by decide)
  · have e : partsK (keyE l[i]) = [] := by unfold partsK; rw [if_neg hp]
    rw [e] at hps
    have : ps = [] := by simpa [keys] using hps
    subst this
    rw [e]
    simp [amongP]
theorem tree_j2 (l : List S67) (hl : l.length ≤ 64) (hs : ∀ x ∈ l, x.f0.size ≤ 140737488351232) (acc : List Int) (i : Nat) (hi : i < l.length) (r : List Int × Int)
    (hr : Ev (fun k => object_Tree.l1 k l acc (l.length : Int) ((i + 1 : Nat) : Int)) r) (b : Bool) :
    ∃ c : Bool, (c = true ↔ b = false ∧ ∀ d ∈ partsK (keyE l[i]), d ≠ keyE l[i] → bsFound (l.take i) ⟨d.toArray⟩ = false) ∧ Ev (fun k => object_Tree.j2 k l acc (i : Int) (l.length : Int) (i : Int) b) (cond c r ([], 12)) := by
  cases b
  · obtain ⟨ps, hps, hev⟩ := parts_ev l[i].f0 (hs _ (List.getElem_mem hi))
    refine ⟨!amongP l i l[i].f0 ps, ?_, ?_⟩
    · rw [Bool.not_eq_true', among_iff l i hi ps hps]; simp
    · refine Ev.step (f := fun k => (path_Parts.f k l[i].f0).bind fun t127 => (object_Tree.l2 k l acc (i : Int) (l.length : Int) (i : Int) t127 (t127.length : Int) 0)) (fun k => ?_) (Ev.bind hev ?_)
      · simp only [object_Tree.j2]
        rw [if_neg (by decide), if_pos (by omega), if_pos (by omega), rd67 hi]
      · have hlen : ps.length ≤ 6 := by
          have := partsK_len (keyE l[i])
          rw [← show keys ps = partsK (keyE l[i]) from hps, List.length_map] at this
          exact this
        have := tree_l2 l hl acc i hi (i : Int) ps hlen r (by rw [wnat hi (by omega)]; exact hr) ps.length 0 (by omega)
        rw [List.drop_zero] at this
        revert this
        cases amongP l i l[i].f0 ps
        · exact id
        · exact id
  · refine ⟨false, by simp, ?_⟩
    refine Ev.step (f := fun _ => some ([], 12)) (fun k => ?_) (Ev.now _)
    simp only [object_Tree.j2]
    rw [if_pos (by trivial)]
theorem tree_l1 (l : List S67) (hl : l.length ≤ 64) (hs : ∀ x ∈ l, x.f0.size ≤ 140737488351232) (acc : List Int) : ∀ (d i : Nat), i + d = l.length →
    ∃ c : Bool, (c = true ↔ ∀ j, i ≤ j → j < l.length → fine l j) ∧ Ev (fun k => object_Tree.l1 k l acc (l.length : Int) (i : Int)) (cond c (acc, 0) ([], 12)) := by
  intro d
  induction d with
  | zero =>
    intro i hi
    refine ⟨true, by simp; intro j h1 h2; omega, ?_⟩
    refine Ev.step (f := fun _ => some (acc, 0)) (fun k => ?_) (Ev.now _)
    simp only [object_Tree.l1]
    rw [if_neg (by omega)]
  | succ d ih =>
    intro i hi
    have hil : i < l.length := by omega
    obtain ⟨c1, h1, e1⟩ := ih (i + 1) (by omega)
    have key1 : ∀ (b c : Bool), (b = false ↔ (0 < i → ∀ h : i < l.length, Op.bytesLess (l[i - 1]'(by omega)).f0.toList l[i].f0.toList = true)) → (c = true ↔ b = false ∧ ∀ d ∈ partsK (keyE l[i]), d ≠ keyE l[i] → bsFound (l.take i) ⟨d.toArray⟩ = false) →
        (((c && c1) = true) ↔ ∀ j, i ≤ j → j < l.length → fine l j) := by
      intro b c hb hc
      rw [Bool.and_eq_true, hc, h1, hb]
      constructor
      · rintro ⟨⟨a1, a2⟩, a3⟩ j hj hjl
        by_cases e : i = j
        · subst e; exact ⟨a1, fun _ => a2⟩
        · exact a3 j (by omega) hjl
      · intro h
        have := h i (Nat.le_refl _) hil
        exact ⟨⟨this.1, this.2 hil⟩, fun j hj hjl => h j (by omega) hjl⟩
    by_cases h0 : 0 < i
    · obtain ⟨c, hc, ec⟩ := tree_j2 l hl hs acc i hil _ e1 (!(Op.bytesLess (l[i - 1]'(by omega)).f0.toList l[i].f0.toList))
      refine ⟨c && c1, key1 _ c ?_ hc, ?_⟩
      · rw [Bool.not_eq_false']
        exact ⟨fun h _ _ => h, fun h => h h0 hil⟩
      · refine Ev.step (fun k => ?_) (r := cond (c && c1) (acc, 0) ([], 12)) (by
          have : cond (c && c1) (acc, (0 : Int)) ([], 12) = cond c (cond c1 (acc, 0) ([], 12)) ([], 12) := by cases c <;> cases c1 <;> rfl
          rw [this]; exact ec)
        simp only [object_Tree.l1]
        rw [if_pos (by omega), if_pos (by omega), wpred h0 (by omega), if_pos (by omega), if_pos (by omega), if_pos (by omega), if_pos (by omega), rd67 hil, rd67 (show i - 1 < l.length by omega)]
    · have hi0 : i = 0 := by omega
      obtain ⟨c, hc, ec⟩ := tree_j2 l hl hs acc i hil _ e1 false
      refine ⟨c && c1, key1 _ c ?_ hc, ?_⟩
      · exact ⟨fun _ h => absurd h h0, fun _ => rfl⟩
      · refine Ev.step (fun k => ?_) (r := cond (c && c1) (acc, 0) ([], 12)) (by
          have : cond (c && c1) (acc, (0 : Int)) ([], 12) = cond c (cond c1 (acc, 0) ([], 12)) ([], 12) := by cases c <;> cases c1 <;> rfl
          rw [this]; exact ec)
        simp only [object_Tree.l1]
        rw [if_pos (by omega), if_neg (by omega)]
theorem tree_ev (l : List S67) (hs : ∀ x ∈ l, x.f0.size ≤ 140737488351232) : Ev (fun k => object_Tree.f k l) (treeT l) := by
  unfold treeT
  by_cases h64 : 64 < l.length
  · rw [if_pos h64]
    refine Ev.congr (f := fun _ => some (([] : List Int), (4 : Int))) (fun k => ?_) (Ev.now _)
    unfold object_Tree.f
    rw [if_pos (by omega)]
  · rw [if_neg h64]
    refine Ev.congr (f := fun k => object_Tree.l0 k l [] l (l.length : Int) 0) (fun k => by unfold object_Tree.f; rw [if_neg (by omega)]) ?_
    obtain ⟨c, hc, ec⟩ := tree_l1 l (by omega) hs (l.flatMap entB) l.length 0 (by omega)
    have := tree_l0 l (by omega) hs _ l.length 0 [] (by omega) (by simp) (by rw [List.drop_zero, List.nil_append]; exact ec)
    rw [List.drop_zero] at this
    by_cases hp : l.all (fun x => isP (keyE x)) = true
    · rw [if_pos hp] at this ⊢
      have hk : okB l = c := by
        have h1 := fine_iff l (fun x hx => List.all_eq_true.1 hp x hx)
        rw [Bool.eq_iff_iff, okB_iff, hc, ← h1]
        exact ⟨fun h j _ hj => h j hj, fun h j hj => h j (Nat.zero_le _) hj⟩
      rw [hk]; exact this
    · rw [if_neg hp] at this ⊢
      exact this
end Go.Proofs.Ythigjlahanejjaa.Pure
