/- Plain facts: the path set of a list of paths, as a function on lists of bytes. No condition. -/
import Derived.Test.YtlbkobiphfaafaaMPx0
import Derived.Test.YtlbkobiphfaafaaMPx1
import Derived.Test.YtlbkobiphfaafaaMPx2
import Derived.Test.YtlbkobiphfaafaaPlainSort
set_option linter.unusedVariables false
set_option linter.unusedSimpArgs false
namespace Go.Proofs.Ytlbkobiphfaafaa.Pure
open Go.RowKit Go.Proofs.Ytlbkobiphfaafaa.MP Go.Proofs.Ytlbkobiphfaafaa.Opening Go.Proofs.YtlbkobiphfaafaaW.PrintWords Go.Proofs.YtlbkobiphfaafaaW.PrintLast

def keepL : List K → List K → List K
  | [], acc => acc
  | s :: t, acc => if acc = [] then keepL t [s] else if hasS acc s then keepL t acc else keepL t (acc ++ [s])
theorem limit_l1 {S : List ByteArray} (hS : S.length ≤ 100000) (M : Nat) (hM : ∀ s ∈ S, s.size < M ∧ s.size ≤ 140737488351232) (d : Nat) : ∀ (i k : Nat) (acc : List ByteArray), S.length - i = d → i ≤ S.length → acc.length ≤ i → d + M + S.length < k →
    ∃ r, path_Limit.l1 k S S.length i acc = some (r, 0) ∧ keys r = keepL ((keys S).drop i) (keys acc) := by
  induction d with
  | zero =>
    intro i k acc hd hi ha hk
    obtain ⟨k, rfl⟩ : ∃ m, k = m + 1 := ⟨k - 1, by omega⟩
    simp only [path_Limit.l1]
    rw [if_neg (by omega), List.drop_eq_nil_of_le (by simp; omega)]
    exact ⟨acc, rfl, rfl⟩
  | succ d ih =>
    intro i k acc hd hi ha hk
    obtain ⟨k, rfl⟩ : ∃ m, k = m + 1 := ⟨k - 1, by omega⟩
    have hlt : i < S.length := by omega
    have hm := hM S[i] (List.getElem_mem hlt)
    simp only [path_Limit.l1]
    rw [if_pos (by omega), if_pos (by omega), if_pos (by omega), rdOf_nat S i hlt, keys_drop hlt, wnat hlt (by omega)]
    simp only [keepL]
    by_cases h0 : acc = []
    · subst h0
      rw [if_pos (by simp), if_pos (by simp), if_pos (by simp)]
      exact ih (i + 1) k [S[i]] (by omega) (by omega) (by simp) (by omega)
    · have h1 : keys acc ≠ [] := by simpa using h0
      have h2 : acc.length ≠ 0 := by simpa using h0
      rw [if_neg (by omega), if_neg h1, has_f hm.2 (by omega) k (by omega) (by omega)]
      simp only [Option.bind_some]
      by_cases h3 : hasS (keys acc) (key S[i]) = true
      · rw [if_pos h3, if_pos h3]
        exact ih (i + 1) k acc (by omega) (by omega) (by omega) (by omega)
      · rw [if_neg h3, if_neg h3, if_pos (by omega)]
        obtain ⟨r, g1, g2⟩ := ih (i + 1) k (acc ++ [S[i]]) (by omega) (by omega) (by simp; omega) (by omega)
        exact ⟨r, g1, by rw [g2]; simp⟩
/-- The error's number, and the set of the paths. -/
def limitC (l : List K) : Int := if l.length > 16 then 4 else if l.all isP then 0 else 2
def limitP (l S : List K) : List K := if limitC l = 0 then keepL S [] else []
theorem limit_l0 {l : List ByteArray} (hl : l.length ≤ 16) (M : Nat) (hM : ∀ s ∈ l, s.size < M ∧ s.size ≤ 140737488351232) (d : Nat) : ∀ (i k : Nat), l.length - i = d → i ≤ l.length → d + l.length + M + l.length + 1 < k →
    ∃ r, path_Limit.l0 k l l l.length i = some (r, code (((keys l).drop i).all isP)) ∧ keys r = cond (((keys l).drop i).all isP) (keepL (keys (sd l)) []) [] := by
  induction d with
  | zero =>
    intro i k hd hi hk
    obtain ⟨k, rfl⟩ : ∃ m, k = m + 1 := ⟨k - 1, by omega⟩
    simp only [path_Limit.l0]
    rw [if_neg (by omega), List.drop_eq_nil_of_le (by simp; omega), sort_f l (by omega)]
    simp only [Option.bind_some, List.all_nil, code, cond_true]
    have hs := sd_len l
    obtain ⟨r, h1, h2⟩ := limit_l1 (S := sd l) (by omega) M (fun s hs => by
      have := (sd_mem l (key s)).1 (List.mem_map_of_mem hs)
      obtain ⟨t, ht, e⟩ := List.mem_map.1 this
      have := hM t ht
      rw [key_inj e] at this
      exact this) (sd l).length 0 k [] (by omega) (by omega) (by simp) (by omega)
    exact ⟨r, h1, h2⟩
  | succ d ih =>
    intro i k hd hi hk
    obtain ⟨k, rfl⟩ : ∃ m, k = m + 1 := ⟨k - 1, by omega⟩
    have hlt : i < l.length := by omega
    have hm := hM l[i] (List.getElem_mem hlt)
    simp only [path_Limit.l0]
    rw [if_pos (by omega), if_pos (by omega), if_pos (by omega), rdOf_nat l i hlt, check_f hm.2 k (by omega), keys_drop hlt]
    simp only [Option.bind_some, List.all_cons]
    by_cases h : isP (key l[i]) = true
    · rw [h, if_pos (by rfl), wnat hlt (by omega)]
      simp only [Bool.true_and]
      exact ih (i + 1) k (by omega) (by omega) (by omega)
    · have h' : isP (key l[i]) = false := by simpa using h
      rw [h', if_neg (by decide)]
      exact ⟨[], by simp [code]⟩
theorem limit_f {l : List ByteArray} (M : Nat) (hM : ∀ s ∈ l, s.size < M ∧ s.size ≤ 140737488351232) (k : Nat) (hk : M + 100 < k) :
    ∃ r, path_Limit.f k l = some (r, limitC (keys l)) ∧ keys r = limitP (keys l) (keys (sd l)) := by
  unfold path_Limit.f limitP limitC
  by_cases h : l.length > 16
  · rw [if_pos (by omega), if_pos (by simpa using h)]
    exact ⟨[], rfl, by simp⟩
  · rw [if_neg (by omega), if_neg (by simpa using h)]
    obtain ⟨r, h1, h2⟩ := limit_l0 (l := l) (by omega) M hM l.length 0 k (by omega) (by omega) (by omega)
    rw [show ((0 : Nat) : Int) = 0 from rfl] at h1
    rw [List.drop_zero] at h1 h2
    refine ⟨r, ?_, ?_⟩
    · rw [h1]; cases (keys l).all isP <;> simp [code]
    · rw [h2]; cases (keys l).all isP <;> simp
theorem paths_f (l : List ByteArray) (h : l.length < 8796093022208) : path_Set_Paths.f l = some l := by simp [path_Set_Paths.f, clone_f l h]
theorem keep_len : ∀ (S acc : List K), (keepL S acc).length ≤ acc.length + S.length
  | [], acc => by simp [keepL]
  | s :: t, acc => by
    unfold keepL
    split
    · have := keep_len t [s]; simp at *; omega
    · split
      · have := keep_len t acc; simp at *; omega
      · have := keep_len t (acc ++ [s]); simp at *; omega
theorem limitP_len (l : List ByteArray) : (limitP (keys l) (keys (sd l))).length ≤ 16 := by
  unfold limitP
  split
  · rename_i h
    unfold limitC at h
    split at h
    · simp at h
    · have h1 := keep_len (keys (sd l)) []
      have h2 := sd_len l
      simp at *; omega
  · simp

/-- What leads to a path: its beginnings that a slash follows. -/
def cuts : K → K → List K
  | _, [] => []
  | pre, c :: t => if c = 47 then pre :: cuts (pre ++ [c]) t else cuts (pre ++ [c]) t
def partsK (l : K) : List K := if isP l then cuts [] l ++ [l] else []
theorem parts_l0 {p : ByteArray} (hp : p.size ≤ 140737488351232) (d : Nat) : ∀ (i k : Nat) (acc : List ByteArray), p.size - i = d → i ≤ p.size → acc.length + ((key p).drop i).count 47 ≤ 100 → d < k →
    ∃ r, path_Parts.l0 k p acc p.size i = some r ∧ keys r = keys acc ++ (cuts ((key p).take i) ((key p).drop i) ++ [key p]) := by
  induction d with
  | zero =>
    intro i k acc hd hi ha hk
    obtain ⟨k, rfl⟩ : ∃ m, k = m + 1 := ⟨k - 1, by omega⟩
    simp only [path_Parts.l0]
    rw [if_neg (by omega), if_pos (by omega), List.drop_eq_nil_of_le (by rw [key_len]; omega)]
    exact ⟨_, rfl, by simp [cuts]⟩
  | succ d ih =>
    intro i k acc hd hi ha hk
    obtain ⟨k, rfl⟩ : ∃ m, k = m + 1 := ⟨k - 1, by omega⟩
    obtain ⟨c, hb, hg, hdr⟩ := key_drop (p := p) (i := i) (by omega)
    have ht : (key p).take (i + 1) = (key p).take i ++ [c] := by
      rw [List.take_add_one, hg]; rfl
    rw [hdr] at ha
    simp only [path_Parts.l0]
    rw [if_pos (by omega), if_pos (by omega), if_pos (by omega), hb, hdr, wnat (n := p.size) (by omega) (by omega)]
    simp only [cuts]
    by_cases hc : c = 47
    · rw [if_pos ((slash_iff c).2 hc), if_pos (by omega), if_pos (by omega), if_pos hc]
      rw [hc, List.count_cons_self] at ha
      obtain ⟨r, h1, h2⟩ := ih (i + 1) k (acc ++ [p.extract 0 i]) (by omega) (by omega) (by simp; omega) (by omega)
      refine ⟨r, h1, ?_⟩
      rw [h2, ht]
      simp [key_extract]
    · rw [if_neg (fun h => hc ((slash_iff c).1 h)), if_neg hc]
      rw [List.count_cons_of_ne hc] at ha
      obtain ⟨r, h1, h2⟩ := ih (i + 1) k acc (by omega) (by omega) (by omega) (by omega)
      exact ⟨r, h1, by rw [h2, ht]⟩
theorem parts_f {p : ByteArray} (hp : p.size ≤ 140737488351232) (k : Nat) (hk : p.size < k) : ∃ r, path_Parts.f k p = some r ∧ keys r = partsK (key p) := by
  unfold path_Parts.f partsK
  rw [check_f hp k hk]
  simp only [Option.bind_some]
  by_cases h : isP (key p) = true
  · have hc := chk_count _ _ _ h
    obtain ⟨r, h1, h2⟩ := parts_l0 hp p.size 0 k [] (by omega) (by omega) (by simp; omega) hk
    rw [show ((0 : Nat) : Int) = 0 from rfl] at h1
    rw [h, if_pos (by rfl)]
    exact ⟨r, h1, by rw [h2]; simp⟩
  · have h' : isP (key p) = false := by simpa using h
    rw [h', if_neg (by decide)]
    exact ⟨[], rfl, by simp⟩
theorem awake_f (k : Nat) (hk : 200 < k) : forebearlaw03_awake.f k = some true := by
  unfold forebearlaw03_awake.f
  obtain ⟨r, h1, h2⟩ := limit_f (l := [(⟨#[98]⟩ : ByteArray), (⟨#[97, 47, 120]⟩ : ByteArray), (⟨#[97]⟩ : ByteArray)]) 10 (by
    intro s hs
    simp at hs
    rcases hs with rfl | rfl | rfl <;> exact ⟨by decide, by decide⟩) k (by omega)
  have hsd : keys (sd [(⟨#[98]⟩ : ByteArray), (⟨#[97, 47, 120]⟩ : ByteArray), (⟨#[97]⟩ : ByteArray)]) = [[97], [97, 47, 120], [98]] := by
    refine rise_eq (sd_rise _) (by unfold Rise; decide) fun x => ?_
    rw [sd_mem]
    simp [keys, key]
    constructor
    · rintro (h | h | h) <;> simp [h]
    · rintro (h | h | h) <;> simp [h]
  rw [hsd] at h2
  have hc : limitC (keys [(⟨#[98]⟩ : ByteArray), (⟨#[97, 47, 120]⟩ : ByteArray), (⟨#[97]⟩ : ByteArray)]) = 0 := by decide
  have hkp : limitP (keys [(⟨#[98]⟩ : ByteArray), (⟨#[97, 47, 120]⟩ : ByteArray), (⟨#[97]⟩ : ByteArray)]) [[97], [97, 47, 120], [98]] = [[97], [98]] := by decide
  rw [hkp] at h2
  have hl : r.length = 2 := by have := congrArg List.length h2; simpa using this
  rw [h1, hc]
  simp only [Option.bind_some, if_true]
  rw [paths_f r (by omega)]
  simp only [Option.bind_some]
  rw [same_f (by omega) k (by omega), h2]
  simp only [Option.bind_some]
  rw [if_pos (by decide), has_f (by decide) (by omega) k (by have : (⟨#[97, 47, 121]⟩ : ByteArray).size = 3 := rfl; omega) (by omega), h2]
  simp only [Option.bind_some]
  rw [if_pos (by decide), has_f (by decide) (by omega) k (by have : (⟨#[97, 98]⟩ : ByteArray).size = 2 := rfl; omega) (by omega), h2]
  simp only [Option.bind_some]
  rw [if_neg (by decide), check_f (by decide) k (by have : (⟨#[97, 47, 47, 98]⟩ : ByteArray).size = 4 := rfl; omega)]
  simp only [Option.bind_some]
  rw [if_pos (by decide)]
  obtain ⟨q, g1, g2⟩ := parts_f (p := (⟨#[97, 47, 98, 46, 99, 47, 100]⟩ : ByteArray)) (by decide) k (by have : (⟨#[97, 47, 98, 46, 99, 47, 100]⟩ : ByteArray).size = 7 := rfl; omega)
  have hq : q.length = 3 := by
    have := congrArg List.length g2
    rw [List.length_map] at this
    rw [this]; decide
  rw [g1]
  simp [hq]
end Go.Proofs.Ytlbkobiphfaafaa.Pure
