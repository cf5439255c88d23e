/- Plain facts of numbers in runs: the one list of runs that rise with gaps and have just these numbers. No condition. -/
import Derived.Test.YtlbkobiphfaafaaPlainText
set_option linter.unusedVariables false
set_option linter.unusedSimpArgs false
namespace Go.Proofs.Ytlbkobiphfaafaa.PureT
open Go.RowKit Go.Proofs.Ytlbkobiphfaafaa.MT Go.Proofs.Ytlbkobiphfaafaa.Opening Go.Proofs.YtlbkobiphfaafaaW.PrintWords Go.Proofs.YtlbkobiphfaafaaW.PrintLast

abbrev Rn := Int × Int
def pr (x : S48) : Rn := (x.f0, x.f1)
def inside (n : Int) (x : Rn) : Prop := x.1 ≤ n ∧ n ≤ x.2
/-- Runs that rise, with a gap between any two. -/
def Gaps (l : List Rn) : Prop := (∀ x ∈ l, x.1 ≤ x.2) ∧ l.Pairwise (fun a b => a.2 + 1 < b.1)
def has (l : List Rn) (n : Int) : Prop := ∃ x ∈ l, inside n x
theorem gaps_head {a : Rn} {l : List Rn} (h : Gaps (a :: l)) : a.1 ≤ a.2 ∧ Gaps l ∧ ∀ x ∈ l, a.2 + 1 < x.1 := by
  obtain ⟨h1, h2⟩ := h
  obtain ⟨h3, h4⟩ := List.pairwise_cons.1 h2
  exact ⟨h1 a (by simp), ⟨fun x hx => h1 x (List.mem_cons_of_mem _ hx), h4⟩, h3⟩
/-- Two such lists of the same numbers are the same. -/
theorem gaps_eq : ∀ {l m : List Rn}, Gaps l → Gaps m → (∀ n, has l n ↔ has m n) → l = m
  | [], [], _, _, _ => rfl
  | [], b :: m, _, hm, h => by
    obtain ⟨h1, -, -⟩ := gaps_head hm
    obtain ⟨x, hx, -⟩ := (h b.1).2 ⟨b, by simp, Int.le_refl _, h1⟩
    simp at hx
  | a :: l, [], hl, _, h => by
    obtain ⟨h1, -, -⟩ := gaps_head hl
    obtain ⟨x, hx, -⟩ := (h a.1).1 ⟨a, by simp, Int.le_refl _, h1⟩
    simp at hx
  | a :: l, b :: m, hl, hm, h => by
    obtain ⟨a1, a2, a3⟩ := gaps_head hl
    obtain ⟨b1, b2, b3⟩ := gaps_head hm
    have la : ∀ n, has (a :: l) n → a.1 ≤ n := by
      rintro n ⟨x, hx, h1, h2⟩
      rcases List.mem_cons.1 hx with rfl | hx
      · exact h1
      · have := a3 x hx; omega
    have lb : ∀ n, has (b :: m) n → b.1 ≤ n := by
      rintro n ⟨x, hx, h1, h2⟩
      rcases List.mem_cons.1 hx with rfl | hx
      · exact h1
      · have := b3 x hx; omega
    have e1 : a.1 = b.1 := by
      have h1 := lb _ ((h a.1).1 ⟨a, by simp, Int.le_refl _, a1⟩)
      have h2 := la _ ((h b.1).2 ⟨b, by simp, Int.le_refl _, b1⟩)
      omega
    have na : ¬ has (a :: l) (a.2 + 1) := by
      rintro ⟨x, hx, h1, h2⟩
      rcases List.mem_cons.1 hx with rfl | hx
      · omega
      · have := a3 x hx; omega
    have nb : ¬ has (b :: m) (b.2 + 1) := by
      rintro ⟨x, hx, h1, h2⟩
      rcases List.mem_cons.1 hx with rfl | hx
      · omega
      · have := b3 x hx; omega
    have e2 : a.2 = b.2 := by
      rcases Int.lt_trichotomy a.2 b.2 with h1 | h1 | h1
      · exact absurd ((h (a.2 + 1)).2 ⟨b, by simp, by constructor <;> omega⟩) na
      · exact h1
      · exact absurd ((h (b.2 + 1)).1 ⟨a, by simp, by constructor <;> omega⟩) nb
    obtain rfl : a = b := Prod.ext e1 e2
    congr 1
    refine gaps_eq a2 b2 fun n => ⟨fun hn => ?_, fun hn => ?_⟩
    · obtain ⟨x, hx, h1, h2⟩ := hn
      obtain ⟨y, hy, g1, g2⟩ := (h n).1 ⟨x, List.mem_cons_of_mem _ hx, h1, h2⟩
      rcases List.mem_cons.1 hy with rfl | hy
      · have := a3 x hx; omega
      · exact ⟨y, hy, g1, g2⟩
    · obtain ⟨x, hx, h1, h2⟩ := hn
      obtain ⟨y, hy, g1, g2⟩ := (h n).2 ⟨x, List.mem_cons_of_mem _ hx, h1, h2⟩
      rcases List.mem_cons.1 hy with rfl | hy
      · have := b3 x hx; omega
      · exact ⟨y, hy, g1, g2⟩
def good (n : Int) : Prop := -9223372036854775808 ≤ n ∧ n ≤ 9223372036854775807
theorem rd_nat (l : List Int) (i : Nat) (h : i < l.length) : rd l (i : Int) = l[i] := by simp [rd, h]
theorem rdT_nat (l : List S48) (i : Nat) (h : i < l.length) : rd_T48 l (i : Int) = l[i] := by simp [rd_T48, h]
/-- The runs that have been made of what lies ahead, its greatest number the last one's end. -/
theorem truns_l0 {l : List Int} (hl : l.length ≤ 100000) (hg : ∀ x ∈ l, good x) (hs : l.Pairwise (· ≤ ·)) (d : Nat) : ∀ (i k : Nat) (acc : List S48), l.length - i = d → i ≤ l.length → acc.length ≤ i → (acc = [] ↔ i = 0) → Gaps (acc.map pr) →
    (∀ n, has (acc.map pr) n ↔ n ∈ l.take i) → (∀ x, acc.getLast? = some x → ∀ y ∈ l.take i, y ≤ x.f1) → (∀ x, acc.getLast? = some x → x.f1 ∈ l.take i) → d < k →
    ∃ r, text_Runs.l0 k acc l l.length i = some r ∧ Gaps (r.map pr) ∧ (∀ n, has (r.map pr) n ↔ n ∈ l) ∧ r.length ≤ l.length := by
  induction d with
  | zero =>
    intro i k acc hd hi ha h0 h1 h2 h3 h4 hk
    obtain ⟨k, rfl⟩ : ∃ m, k = m + 1 := ⟨k - 1, by omega⟩
    obtain rfl : i = l.length := by omega
    simp only [text_Runs.l0]
    rw [if_neg (by omega)]
    exact ⟨acc, rfl, h1, by simpa using h2, ha⟩
  | succ d ih =>
    intro i k acc hd hi ha h0 h1 h2 h3 h4 hk
    obtain ⟨k, rfl⟩ : ∃ m, k = m + 1 := ⟨k - 1, by omega⟩
    have hlt : i < l.length := by omega
    have htk : l.take (i + 1) = l.take i ++ [l[i]] := by rw [List.take_add_one]; simp [hlt]
    have hge : ∀ y ∈ l.take i, y ≤ l[i] := by
      intro y hy
      have hp : (l.take i ++ l.drop i).Pairwise (· ≤ ·) := by rw [List.take_append_drop]; exact hs
      exact (List.pairwise_append.1 hp).2.2 y hy l[i] (by rw [List.drop_eq_getElem_cons hlt]; exact List.mem_cons_self)
    have hgi := hg l[i] (List.getElem_mem hlt)
    simp only [text_Runs.l0]
    rw [if_pos (by omega), if_pos (by omega), if_pos (by omega), rd_nat l i hlt, wnat hlt (by omega)]
    have hnew : ∀ (hgap : ∀ x ∈ acc.map pr, x.2 + 1 < l[i]), ∃ r, text_Runs.l0 k (acc ++ [(⟨l[i], l[i]⟩ : S48)]) l l.length ((i + 1 : Nat) : Int) = some r ∧ Gaps (r.map pr) ∧ (∀ n, has (r.map pr) n ↔ n ∈ l) ∧ r.length ≤ l.length := by
      intro hgap
      refine ih (i + 1) k _ (by omega) (by omega) (by simp; omega) (by simp) ?_ ?_ ?_ ?_ (by omega)
      · rw [List.map_append]
        refine ⟨fun x hx => ?_, List.pairwise_append.2 ⟨h1.2, by simp, fun x hx y hy => ?_⟩⟩
        · rcases List.mem_append.1 hx with hx | hx
          · exact h1.1 x hx
          · simp [pr] at hx; subst hx; simp
        · simp [pr] at hy; subst hy; exact hgap x hx
      · intro n
        rw [htk, List.mem_append, ← h2, List.map_append]
        constructor
        · rintro ⟨x, hx, g1, g2⟩
          rcases List.mem_append.1 hx with hx | hx
          · exact .inl ⟨x, hx, g1, g2⟩
          · simp [pr] at hx; subst hx; simp at g1 g2; exact .inr (by simp; omega)
        · rintro (⟨x, hx, g⟩ | hx)
          · exact ⟨x, List.mem_append_left _ hx, g⟩
          · have : n = l[i] := by simpa using hx
            subst this
            exact ⟨(l[i], l[i]), by simp [pr], Int.le_refl _, Int.le_refl _⟩
      · intro x hx y hy
        have : x = ⟨l[i], l[i]⟩ := by simpa using hx.symm
        subst this
        rw [htk] at hy
        rcases List.mem_append.1 hy with hy | hy
        · exact hge y hy
        · have : y = l[i] := by simpa using hy
          rw [this]; exact Int.le_refl _
      · intro x hx
        have : x = ⟨l[i], l[i]⟩ := by simpa using hx.symm
        subst this
        show l[i] ∈ _
        rw [htk]; exact List.mem_append_right _ (List.mem_singleton.2 rfl)
    by_cases he : acc = []
    · subst he
      rw [if_neg (by simp [wrap64]), if_pos (by simp)]
      exact hnew (by simp)
    · have hpos : 0 < acc.length := List.length_pos_iff.2 he
      obtain ⟨last, hlast⟩ : ∃ x, acc.getLast? = some x := by
        cases e : acc.getLast? with
        | none => exact absurd (List.getLast?_eq_none_iff.1 e) he
        | some x => exact ⟨x, rfl⟩
      have hli : acc[acc.length - 1]'(by omega) = last := by
        rw [List.getLast?_eq_getElem?, List.getElem?_eq_getElem (by omega)] at hlast
        injection hlast
      have hinit : acc = acc.dropLast ++ [last] := by
        have := List.dropLast_concat_getLast he
        rw [List.getLast?_eq_some_getLast he] at hlast
        injection hlast with hlast
        rw [← hlast]; exact this.symm
      have hm1 := h4 last hlast
      have hm2 := h3 last hlast
      have hle : last.f1 ≤ l[i] := hge _ hm1
      have hgl := hg _ (List.mem_of_mem_take hm1)
      rw [wpred hpos (by omega), if_pos (by omega), if_pos (by omega), if_pos (by omega), rdT_nat acc (acc.length - 1) (by omega), hli, Int.toNat_natCast]
      -- the last run goes on
      have hext : ∀ (hj : last.f1 = l[i] ∨ last.f1 = l[i] - 1), ∃ r, text_Runs.l0 k (acc.set (acc.length - 1) (⟨last.f0, l[i]⟩ : S48)) l l.length ((i + 1 : Nat) : Int) = some r ∧ Gaps (r.map pr) ∧ (∀ n, has (r.map pr) n ↔ n ∈ l) ∧ r.length ≤ l.length := by
        intro hj
        have hset : acc.set (acc.length - 1) (⟨last.f0, l[i]⟩ : S48) = acc.dropLast ++ [(⟨last.f0, l[i]⟩ : S48)] := by
          have e : acc.length - 1 = acc.dropLast.length := by simp
          rw [e]
          conv => lhs; rw [hinit]
          simp
        rw [hset]
        rw [hinit] at h1 h2
        rw [List.map_append] at h1 h2
        have hl1 := h1.1 (pr last) (by simp)
        refine ih (i + 1) k _ (by omega) (by omega) (by simp; omega) (by simp) ?_ ?_ ?_ ?_ (by omega)
        · rw [List.map_append]
          obtain ⟨p1, p2, p3⟩ := List.pairwise_append.1 h1.2
          refine ⟨fun x hx => ?_, List.pairwise_append.2 ⟨p1, by simp, fun x hx y hy => ?_⟩⟩
          · rcases List.mem_append.1 hx with hx | hx
            · exact h1.1 x (List.mem_append_left _ hx)
            · simp [pr] at hx; subst hx; simp [pr] at hl1 ⊢; omega
          · simp [pr] at hy; subst hy
            have := p3 x hx (pr last) (by simp)
            simpa [pr] using this
        · intro n
          rw [htk, List.mem_append, ← h2, List.map_append]
          constructor
          · rintro ⟨x, hx, g1, g2⟩
            rcases List.mem_append.1 hx with hx | hx
            · exact .inl ⟨x, List.mem_append_left _ hx, g1, g2⟩
            · simp [pr] at hx; subst hx
              simp at g1 g2
              by_cases hn : n ≤ last.f1
              · exact .inl ⟨pr last, by simp, by simpa [pr] using g1, by simpa [pr] using hn⟩
              · exact .inr (by simp; omega)
          · rintro (⟨x, hx, g1, g2⟩ | hx)
            · rcases List.mem_append.1 hx with hx | hx
              · exact ⟨x, List.mem_append_left _ hx, g1, g2⟩
              · simp at hx; subst hx
                exact ⟨(last.f0, l[i]), by simp [pr], by simpa [pr] using g1, by simp [pr] at g2 ⊢; omega⟩
            · have : n = l[i] := by simpa using hx
              subst this
              simp [pr] at hl1
              exact ⟨(last.f0, l[i]), by simp [pr], by simp; omega, by simp⟩
        · intro x hx y hy
          have : x = ⟨last.f0, l[i]⟩ := by simpa using hx.symm
          subst this
          rw [htk] at hy
          rcases List.mem_append.1 hy with hy | hy
          · exact hge y hy
          · have : y = l[i] := by simpa using hy
            rw [this]; exact Int.le_refl _
        · intro x hx
          have : x = ⟨last.f0, l[i]⟩ := by simpa using hx.symm
          subst this
          show l[i] ∈ _
          rw [htk]; exact List.mem_append_right _ (List.mem_singleton.2 rfl)
      by_cases c1 : last.f1 = l[i]
      · rw [if_pos c1]; exact hext (.inl c1)
      · rw [if_neg c1]
        have hgt : last.f1 < l[i] := by omega
        have hw : wrap64 (l[i] - 1) = l[i] - 1 := by
          unfold wrap64; obtain ⟨g1, g2⟩ := hgi; obtain ⟨g3, g4⟩ := hgl; omega
        rw [hw]
        by_cases c2 : last.f1 = l[i] - 1
        · rw [if_pos c2, if_pos (by omega)]; exact hext (.inr c2)
        · rw [if_neg c2, if_pos (by omega)]
          refine hnew (fun x hx => ?_)
          rw [hinit, List.map_append] at hx h1
          rcases List.mem_append.1 hx with hx | hx
          · have h5 := (List.pairwise_append.1 h1.2).2.2 x hx (pr last) (by simp)
            have h6 := h1.1 (pr last) (by simp)
            simp [pr] at h5 h6; omega
          · simp at hx; subst hx; simp [pr]; omega
theorem sortI_spec (l : List Int) : (sortI l).Pairwise (· ≤ ·) ∧ (∀ x, x ∈ sortI l ↔ x ∈ l) ∧ (sortI l).length = l.length := by
  unfold sortI
  simp only [List.map_id_fun', id_eq, List.map_id']
  refine ⟨?_, fun x => List.mem_mergeSort, List.length_mergeSort l⟩
  have := List.pairwise_mergeSort (le := fun x y : Int => decide (x ≤ y)) (fun a b c h1 h2 => by simp at *; omega) (fun a b => by simp; omega) l
  simpa using this
theorem truns_f {l : List Int} (hl : l.length ≤ 100000) (hg : ∀ x ∈ l, good x) (k : Nat) (hk : l.length < k) : ∃ r, text_Runs.f k l = some r ∧ Gaps (r.map pr) ∧ (∀ n, has (r.map pr) n ↔ n ∈ l) ∧ r.length ≤ l.length := by
  obtain ⟨s1, s2, s3⟩ := sortI_spec l
  unfold text_Runs.f slices_Clone_int_int.f slices_Sort_int_int.f
  simp only [Option.bind_some, List.length_nil, List.nil_append]
  rw [if_pos (by omega)]
  simp only [Option.bind_some]
  rw [if_pos (by omega)]
  simp only [Option.bind_some]
  obtain ⟨r, h1, h2, h3, h4⟩ := truns_l0 (l := sortI l) (by omega) (fun x hx => hg x ((s2 x).1 hx)) s1 (sortI l).length 0 k [] (by omega) (by omega) (by simp) (by simp) ⟨by simp, by simp⟩ (by simp [has]) (by simp) (by simp) (by omega)
  rw [show ((0 : Nat) : Int) = 0 from rfl] at h1
  rw [s3] at h1
  exact ⟨r, h1, h2, fun n => by rw [h3, s2], by omega⟩
theorem firstOf_any {α : Type} {b : α → Bool} : ∀ (l : List α) (i : Int), 0 ≤ i → ∃ r, firstOf (fun x => some (b x)) l i = some r ∧ decide (0 ≤ r) = l.any b
  | [], i, _ => ⟨-1, rfl, by simp⟩
  | x :: t, i, hi => by
    simp only [firstOf, Option.bind_some, List.any_cons]
    cases e : b x with
    | true => exact ⟨i, rfl, by simp [hi]⟩
    | false =>
      obtain ⟨r, h1, h2⟩ := firstOf_any (b := b) t (i + 1) (by omega)
      exact ⟨r, by simpa using h1, by simpa using h2⟩
theorem in_f (n : Int) (l : List S48) : text_In.f n l = some (l.any (text_In_has n)) := by
  unfold text_In.f
  obtain ⟨r, h1, h2⟩ := firstOf_any (b := text_In_has n) l 0 (by omega)
  rw [h1]; simp only [Option.bind_some]; rw [h2]
theorem any_has (n : Int) (l : List S48) : l.any (text_In_has n) = true ↔ has (l.map pr) n := by
  rw [List.any_eq_true]
  constructor
  · rintro ⟨x, hx, h⟩
    unfold text_In_has at h
    simp at h
    exact ⟨pr x, List.mem_map_of_mem hx, h.1, h.2⟩
  · rintro ⟨y, hy, h1, h2⟩
    obtain ⟨x, hx, rfl⟩ := List.mem_map.1 hy
    exact ⟨x, hx, by unfold text_In_has; simp [pr] at h1 h2; simp [h1, h2]⟩
theorem awake_f (k : Nat) (hk : 100 < k) : forebearlaw04_awake.f k = some true := by
  obtain ⟨r, h1, h2⟩ := lines_f (p := (⟨#[97, 10, 10, 98]⟩ : ByteArray)) (by decide) k (by have : (⟨#[97, 10, 10, 98]⟩ : ByteArray).size = 4 := rfl; omega)
  have h2' : keys r = [[97, 10], [10], [98]] := by rw [h2]; decide
  have hrl : r.length = 3 := by have := congrArg List.length h2'; simpa using this
  obtain ⟨q, g1, g2, g3, g4⟩ := truns_f (l := [4, 1, 2, 1]) (by simp) (by intro x hx; simp at hx; unfold good; omega) k (by simp; omega)
  have hq : q.map pr = [(1, 2), (4, 4)] := by
    refine gaps_eq g2 ⟨by simp, by simp⟩ fun n => ?_
    rw [g3]
    constructor
    · intro hn
      simp at hn
      rcases hn with rfl | rfl | rfl | rfl
      · exact ⟨(4, 4), by simp, by simp [inside]⟩
      · exact ⟨(1, 2), by simp, by simp [inside]⟩
      · exact ⟨(1, 2), by simp, by simp [inside]⟩
      · exact ⟨(1, 2), by simp, by simp [inside]⟩
    · rintro ⟨x, hx, i1, i2⟩
      simp at hx
      rcases hx with rfl | rfl <;> simp at i1 i2 <;> simp <;> omega
  have hql : q.length = 2 := by have := congrArg List.length hq; simpa using this
  match q, hql, hq, g1 with
  | [a, b], _, hq, g1 =>
    simp [pr] at hq
    match r, hrl, h2', h1 with
    | [x, y, z], _, h2', h1 =>
      simp at h2'
      obtain ⟨e1, e2, e3⟩ := h2'
      unfold forebearlaw04_awake.f
      rw [h1]
      simp only [Option.bind_some]
      rw [g1]
      simp only [Option.bind_some]
      obtain ⟨j, j1, j2⟩ := join_f (l := [(⟨#[97]⟩ : ByteArray), (⟨#[98]⟩ : ByteArray)]) (by decide) (by decide)
      have j3 : key j = [97, 98] := by rw [j2]; decide
      rw [j1, in_f]
      simp [rdOf, toList_key, e1, e2, e3, rd_T48, hq, text_In_has, j3]
end Go.Proofs.Ytlbkobiphfaafaa.PureT
