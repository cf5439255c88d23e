/- Plain facts of the document's names, paths and sets of paths: the same functions on lists of bytes as the program's. No condition. -/
import Derived.Test.YtlbkobiphfaafaaPlainLimit
import Derived.Test.YtlbkobiphfaafaaMPx8
set_option linter.unusedVariables false
set_option linter.unusedSimpArgs false
namespace Go.Proofs.Ytlbkobiphfaafaa.Pure
open Go.RowKit Go.Proofs.Ytlbkobiphfaafaa.MP Go.Proofs.Ytlbkobiphfaafaa.Opening Go.Proofs.YtlbkobiphfaafaaW.PrintWords Go.Proofs.YtlbkobiphfaafaaW.PrintLast

def nameK (l : K) : Bool := l.all (fun c => plainI (c.toNat : Int)) && decide (1 ≤ l.length ∧ l.length ≤ 16)
theorem refName_l0 {p : ByteArray} (hp : p.size ≤ 140737488351232) (d : Nat) : ∀ (i k : Nat), p.size - i = d → i ≤ p.size → d < k →
    forebearref03_Name.l0 k p i = some (((key p).drop i).all (fun c => plainI (c.toNat : Int)) && decide (1 ≤ p.size ∧ p.size ≤ 16)) := by
  induction d with
  | zero =>
    intro i k hd hi hk
    obtain ⟨k, rfl⟩ : ∃ m, k = m + 1 := ⟨k - 1, by omega⟩
    simp only [forebearref03_Name.l0]
    rw [if_neg (by omega), List.drop_eq_nil_of_le (by rw [key_len]; omega)]
    by_cases h1 : 1 ≤ p.size
    · rw [if_pos (by omega)]
      simp only [List.all_nil, Bool.true_and, Option.some.injEq]
      rw [Bool.eq_iff_iff, decide_eq_true_eq, decide_eq_true_eq]; omega
    · rw [if_neg (by omega)]; simp [h1]
  | succ d ih =>
    intro i k hd hi hk
    obtain ⟨k, rfl⟩ : ∃ m, k = m + 1 := ⟨k - 1, by omega⟩
    obtain ⟨c, hb, -, hdr⟩ := key_drop (p := p) (i := i) (by omega)
    have hn := ih (i + 1) k (by omega) (by omega) (by omega)
    simp only [forebearref03_Name.l0]
    rw [if_pos (by omega), if_pos (by omega), hb, hdr, wnat (n := p.size) (by omega) (by omega), hn, List.all_cons]
    generalize (c.toNat : Int) = x
    rw [Bool.and_assoc]
    generalize hg : (((key p).drop (i + 1)).all (fun c => plainI (c.toNat : Int)) && decide (1 ≤ p.size ∧ p.size ≤ 16)) = b
    by_cases h : plainI x = true
    · rw [h, Bool.true_and]
      unfold plainI at h
      simp at h
      repeat' split
      all_goals first | rfl | omega
    · have h' : plainI x = false := by simpa using h
      rw [h', Bool.false_and]
      unfold plainI at h'
      simp at h'
      repeat' split
      all_goals first | rfl | omega
theorem refName_f {p : ByteArray} (hp : p.size ≤ 140737488351232) (k : Nat) (hk : p.size < k) : forebearref03_Name.f k p = some (nameK (key p)) := by
  have := refName_l0 hp p.size 0 k (by omega) (by omega) hk
  rw [show ((0 : Nat) : Int) = 0 from rfl] at this
  unfold forebearref03_Name.f nameK
  rw [this, key_len]; simp

/-- What stands between the slashes; 'last': what stands ahead. -/
def sp : K → K → List K
  | last, [] => [last]
  | last, c :: t => if c = 47 then last :: sp [] t else sp (last ++ [c]) t
theorem sp_ne : ∀ (t last : K), sp last t ≠ []
  | [], last => by simp [sp]
  | c :: t, last => by
    unfold sp
    split
    · simp
    · exact sp_ne t _
theorem key_append (a b : ByteArray) : key (a ++ b) = key a ++ key b := by simp [key]
theorem sp_slash (t last : K) : sp last (47 :: t) = last :: sp [] t := by rw [sp, if_pos rfl]
theorem sp_other {c : UInt8} (h : c ≠ 47) (t last : K) : sp last (c :: t) = sp (last ++ [c]) t := by rw [sp, if_neg h]
theorem chk_slash (t : K) (n r : Nat) : chk (47 :: t) n r = (decide (r ≠ 0) && chk t (n + 1) 0) := by rw [chk, if_pos rfl]
theorem chk_other {c : UInt8} (h : c ≠ 47) (t : K) (n r : Nat) : chk (c :: t) n r = (plainI (c.toNat : Int) && (decide (r < 16) && chk t n (r + 1))) := by rw [chk, if_neg h]
theorem key_one (c : UInt8) : key (oneB (c.toNat : Int)) = [c] := by
  simp [oneB, strOfNums, key]
theorem refNames_l0 {p : ByteArray} (hp : p.size ≤ 1000) (d : Nat) : ∀ (i k : Nat) (init : List ByteArray) (last : ByteArray), p.size - i = d → i ≤ p.size → init.length ≤ i → last.size ≤ i → d < k →
    ∃ r, forebearref03_Names.l0 k p (init ++ [last]) i = some r ∧ keys r = keys init ++ sp (key last) ((key p).drop i) := by
  induction d with
  | zero =>
    intro i k init last hd hi h1 h2 hk
    obtain ⟨k, rfl⟩ : ∃ m, k = m + 1 := ⟨k - 1, by omega⟩
    simp only [forebearref03_Names.l0]
    rw [if_neg (by omega), List.drop_eq_nil_of_le (by rw [key_len]; omega)]
    exact ⟨_, rfl, by simp [sp]⟩
  | succ d ih =>
    intro i k init last hd hi h1 h2 hk
    obtain ⟨k, rfl⟩ : ∃ m, k = m + 1 := ⟨k - 1, by omega⟩
    obtain ⟨c, hb, -, hdr⟩ := key_drop (p := p) (i := i) (by omega)
    simp only [forebearref03_Names.l0]
    rw [if_pos (by omega), if_pos (by omega), hb, hdr, wnat (n := p.size) (by omega) (by omega)]
    simp only [sp]
    by_cases hc : c = 47
    · rw [if_pos ((slash_iff c).2 hc), if_pos hc, if_pos (by simp; omega)]
      obtain ⟨r, g1, g2⟩ := ih (i + 1) k (init ++ [last]) (⟨#[]⟩ : ByteArray) (by omega) (by omega) (by simp; omega) (Nat.zero_le _) (by omega)
      exact ⟨r, g1, by rw [g2]; simp [key]⟩
    · rw [if_neg (fun h => hc ((slash_iff c).1 h)), if_neg hc, if_pos (by simp)]
      have e1 : (init ++ [last]).length - 1 = init.length := by simp
      have e2 : (init ++ [last]).getD init.length ByteArray.empty = last := by simp
      rw [e1, e2, if_pos (by omega)]
      have e3 : (init ++ [last]).set init.length (last ++ oneB (c.toNat : Int)) = init ++ [last ++ oneB (c.toNat : Int)] := by simp
      rw [e3]
      have e4 : (last ++ oneB (c.toNat : Int)).size = last.size + 1 := by
        rw [ByteArray.size_append]; rfl
      obtain ⟨r, g1, g2⟩ := ih (i + 1) k init (last ++ oneB (c.toNat : Int)) (by omega) (by omega) (by omega) (by omega) (by omega)
      have e5 : key (last ++ oneB (c.toNat : Int)) = key last ++ [c] := by
        rw [key_append, key_one]
      exact ⟨r, g1, by rw [g2, e5]⟩
theorem refNames_f {p : ByteArray} (hp : p.size ≤ 1000) (k : Nat) (hk : p.size < k) : ∃ r, forebearref03_Names.f k p = some r ∧ keys r = sp [] (key p) := by
  obtain ⟨r, h1, h2⟩ := refNames_l0 hp p.size 0 k [] (⟨#[]⟩ : ByteArray) (by omega) (by omega) (Nat.le_refl _) (Nat.le_refl _) hk
  rw [show ((0 : Nat) : Int) = 0 from rfl] at h1
  exact ⟨r, h1, by rw [h2]; rfl⟩
theorem sp_len : ∀ (t last : K), (sp last t).length = t.count 47 + 1
  | [], last => rfl
  | c :: t, last => by
    unfold sp
    by_cases h : c = 47
    · rw [if_pos h, h, List.count_cons_self, List.length_cons, sp_len t]
    · rw [if_neg h, List.count_cons_of_ne h, sp_len t]
theorem sp_head : ∀ (t last : K), ∃ s r, sp last t = (last ++ s) :: r
  | [], last => ⟨[], [], by simp [sp]⟩
  | c :: t, last => by
    unfold sp
    by_cases h : c = 47
    · rw [if_pos h]; exact ⟨[], _, by simp; rfl⟩
    · rw [if_neg h]
      obtain ⟨s, r, e⟩ := sp_head t (last ++ [c])
      exact ⟨c :: s, r, by rw [e]; simp⟩
theorem chk_sp : ∀ (t last : K) (n : Nat), 1 ≤ n → last.all (fun c => plainI (c.toNat : Int)) = true → last.length ≤ 16 → chk t n last.length = ((sp last t).all nameK && decide (n + (sp last t).length ≤ 7))
  | [], last, n, hn, ha, hl => by
    simp only [chk, sp, List.all_cons, List.all_nil, nameK, ha, Bool.true_and, Bool.and_true, List.length_cons, List.length_nil, Nat.zero_add]
    rw [Bool.eq_iff_iff]; simp only [Bool.and_eq_true, decide_eq_true_eq, ne_eq]
    constructor
    · rintro ⟨h1, h2⟩; exact ⟨⟨by omega, hl⟩, by omega⟩
    · rintro ⟨⟨h1, h2⟩, h3⟩; exact ⟨by omega, by omega⟩
  | c :: t, last, n, hn, ha, hl => by
    by_cases h : c = 47
    · subst h
      have := chk_sp t [] (n + 1) (by omega) rfl (by simp)
      rw [show ([] : K).length = 0 from rfl] at this
      rw [chk_slash, sp_slash, this]
      simp only [List.all_cons, nameK, ha, Bool.true_and, List.length_cons]
      rw [Bool.eq_iff_iff]; simp only [Bool.and_eq_true, decide_eq_true_eq]
      constructor
      · rintro ⟨h1, h2, h3⟩; exact ⟨⟨by omega, h2⟩, by omega⟩
      · rintro ⟨⟨h1, h2⟩, h3⟩; exact ⟨by omega, h2, by omega⟩
    · rw [chk_other h, sp_other h]
      by_cases h1 : plainI (c.toNat : Int) = true
      · by_cases h2 : last.length < 16
        · have := chk_sp t (last ++ [c]) n hn (by simp [h1]; simpa using ha) (by simp; omega)
          rw [List.length_append, List.length_singleton] at this
          rw [h1, this]; simp [h2]
        · obtain ⟨s, r, e⟩ := sp_head t (last ++ [c])
          have : nameK (last ++ [c] ++ s) = false := by
            unfold nameK; simp; omega
          rw [e, List.all_cons, this]; simp [h2]
      · obtain ⟨s, r, e⟩ := sp_head t (last ++ [c])
        have h1' : plainI (c.toNat : Int) = false := by simpa using h1
        have : nameK (last ++ [c] ++ s) = false := by
          unfold nameK; simp [h1']
        rw [e, List.all_cons, this]; simp [h1']
theorem isP_sp (l : K) : isP l = ((sp [] l).all nameK && decide ((sp [] l).length ≤ 6)) := by
  have := chk_sp l [] 1 (by omega) rfl (by simp)
  unfold isP
  rw [show ([] : K).length = 0 from rfl] at this
  rw [this]
  congr 1
  rw [Bool.eq_iff_iff]; simp; omega
theorem chk_bound : ∀ (t : K) (n r : Nat), r ≤ 16 → chk t n r = true → t.length + r ≤ 16 + 17 * (6 - n)
  | [], n, r, hr, h => by simp; omega
  | c :: t, n, r, hr, h => by
    unfold chk at h
    by_cases hc : c = 47
    · rw [if_pos hc] at h
      simp at h
      have h1 := chk_bound t (n + 1) 0 (by omega) h.2
      have h2 := chk_count _ _ _ h.2
      simp at *; omega
    · rw [if_neg hc] at h
      simp at h
      have := chk_bound t n (r + 1) (by omega) h.2.2
      simp; omega
theorem isP_size {l : K} (h : isP l = true) : l.length ≤ 102 := by
  have := chk_bound l 1 0 (by omega) h
  omega
theorem refIs_l0 {s : List ByteArray} (hs : ∀ x ∈ s, x.size ≤ 1000) (hl : s.length ≤ 2000) (d : Nat) : ∀ (i k : Nat), s.length - i = d → i ≤ s.length → d + 1000 < k →
    forebearref03_Is.l0 k s i = some (((keys s).drop i).all nameK && decide (s.length ≤ 6)) := by
  induction d with
  | zero =>
    intro i k hd hi hk
    obtain ⟨k, rfl⟩ : ∃ m, k = m + 1 := ⟨k - 1, by omega⟩
    simp only [forebearref03_Is.l0]
    rw [if_neg (by omega), List.drop_eq_nil_of_le (by simp; omega)]
    simp only [List.all_nil, Bool.true_and, Option.some.injEq]
    rw [Bool.eq_iff_iff, decide_eq_true_eq, decide_eq_true_eq]; omega
  | succ d ih =>
    intro i k hd hi hk
    obtain ⟨k, rfl⟩ : ∃ m, k = m + 1 := ⟨k - 1, by omega⟩
    have hlt : i < s.length := by omega
    have hz := hs s[i] (List.getElem_mem hlt)
    simp only [forebearref03_Is.l0]
    rw [if_pos (by omega), if_pos (by omega), rdOf_nat s i hlt, refName_f (by omega) k (by omega), keys_drop hlt, wnat hlt (by omega)]
    simp only [Option.bind_some, List.all_cons]
    by_cases h : nameK (key s[i]) = true
    · rw [if_pos h, h, ih (i + 1) k (by omega) (by omega) (by omega)]; simp
    · have h' : nameK (key s[i]) = false := by simpa using h
      rw [if_neg h, h']; simp
theorem mem_sp : ∀ (t last x : K), x ∈ sp last t → x.length ≤ last.length + t.length
  | [], last, x, h => by simp [sp] at h; subst h; simp
  | c :: t, last, x, h => by
    unfold sp at h
    by_cases hc : c = 47
    · rw [if_pos hc] at h
      rcases List.mem_cons.1 h with rfl | h
      · simp
      · have := mem_sp t [] x h; simp at *; omega
    · rw [if_neg hc] at h
      have := mem_sp t _ x h; simp at *; omega
theorem refIs_f {p : ByteArray} (k : Nat) (hk : 4000 < k) : forebearref03_Is.f k p = some (isP (key p)) := by
  unfold forebearref03_Is.f
  by_cases h : p.size > 102
  · rw [if_pos (by omega)]
    have : isP (key p) = false := by
      cases e : isP (key p) with
      | false => rfl
      | true => have := isP_size e; rw [key_len] at this; omega
    rw [this]
  · rw [if_neg (by omega)]
    obtain ⟨r, h1, h2⟩ := refNames_f (p := p) (by omega) k (by omega)
    have hr : ∀ x ∈ r, x.size ≤ 1000 := by
      intro x hx
      have : key x ∈ sp [] (key p) := by rw [← h2]; exact List.mem_map_of_mem hx
      have := mem_sp _ _ _ this
      rw [key_len, key_len] at this
      simp at this; omega
    have hl : r.length = (key p).count 47 + 1 := by
      have := congrArg List.length h2
      rw [List.length_map, sp_len] at this; exact this
    have hl2 : (key p).count 47 ≤ p.size := by rw [← key_len]; exact List.count_le_length
    rw [h1]
    simp only [Option.bind_some]
    have := refIs_l0 hr (by omega) r.length 0 k (by omega) (by omega) (by omega)
    rw [show ((0 : Nat) : Int) = 0 from rfl] at this
    rw [this, isP_sp, ← h2]; simp
theorem refUnder_f (p d : ByteArray) : forebearref03_Under.f p d = some (under (key p) (key d)) := by
  unfold forebearref03_Under.f
  by_cases h : d.size ≤ p.size
  · rw [if_neg (by omega), if_pos (by omega), if_pos (by omega)]
    simp only [Int.toNat_natCast, toList_key, key_extract]
    have hl := key_len d
    by_cases e : (key p).take d.size = key d
    · rw [if_pos e]
      unfold under
      rw [hl, e]
      by_cases h0 : d.size = p.size
      · have hz : (key p).drop d.size = [] := List.drop_eq_nil_of_le (by rw [key_len]; omega)
        rw [hz, if_pos (by omega)]; simp
      · obtain ⟨c, hb, hg, hdr⟩ := key_drop (p := p) (i := d.size) (by omega)
        rw [hdr, if_neg (by omega), if_pos (by omega), hb]
        simp only [beq_self_eq_true, Bool.true_and, Option.some.injEq]
        rw [Bool.eq_iff_iff]
        simpa using slash_iff c
    · rw [if_neg e]
      have : under (key p) (key d) = false := by unfold under; rw [hl]; simp [e]
      rw [this]
  · rw [if_pos (by omega)]
    have : under (key p) (key d) = false := by
      unfold under
      have : ((key p).take (key d).length == key d) = false := by
        apply beq_eq_false_iff_ne.2
        intro e
        have := congrArg List.length e
        rw [List.length_take, key_len, key_len] at this
        omega
      rw [this]; rfl
    rw [this]
theorem refIn_l0 {q : ByteArray} {s : List ByteArray} (hs : s.length ≤ 1000) (d : Nat) : ∀ (i k : Nat), s.length - i = d → i ≤ s.length → d < k →
    forebearref03_In.l0 k s q i = some (((keys s).drop i).any (under (key q)) || s.isEmpty) := by
  induction d with
  | zero =>
    intro i k hd hi hk
    obtain ⟨k, rfl⟩ : ∃ m, k = m + 1 := ⟨k - 1, by omega⟩
    simp only [forebearref03_In.l0]
    rw [if_neg (by omega), List.drop_eq_nil_of_le (by simp; omega)]
    cases s <;> simp <;> omega
  | succ d ih =>
    intro i k hd hi hk
    obtain ⟨k, rfl⟩ : ∃ m, k = m + 1 := ⟨k - 1, by omega⟩
    have hlt : i < s.length := by omega
    simp only [forebearref03_In.l0]
    rw [if_pos (by omega), if_pos (by omega), rdOf_nat s i hlt, refUnder_f, keys_drop hlt]
    simp only [Option.bind_some, List.any_cons]
    by_cases h : under (key q) (key s[i]) = true
    · rw [if_pos h, h]; rfl
    · rw [if_neg h, wnat hlt (by omega), ih (i + 1) k (by omega) (by omega) (by omega)]
      simp [h]
theorem refIn_f {q : ByteArray} {s : List ByteArray} (hs : s.length ≤ 1000) (k : Nat) (hk : 4000 < k) : forebearref03_In.f k s q = some (hasS (keys s) (key q)) := by
  unfold forebearref03_In.f hasS
  rw [refIs_f k hk]
  simp only [Option.bind_some]
  by_cases h : isP (key q) = true
  · have := refIn_l0 (q := q) hs s.length 0 k (by omega) (by omega) (by omega)
    rw [show ((0 : Nat) : Int) = 0 from rfl] at this
    rw [if_pos h, h, this]; simp
  · have h' : isP (key q) = false := by simpa using h
    rw [if_neg h, h']; rfl
end Go.Proofs.Ytlbkobiphfaafaa.Pure
