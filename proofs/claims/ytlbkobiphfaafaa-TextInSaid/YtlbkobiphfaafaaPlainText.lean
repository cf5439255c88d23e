/- Plain facts of texts and their lines: the program's and the document's, as one function on lists of bytes. No condition. -/
import Derived.Test.YtlbkobiphfaafaaMTx3
import Derived.Test.YtlbkobiphfaafaaAidSort
set_option linter.unusedVariables false
set_option linter.unusedSimpArgs false
namespace Go.Proofs.Ytlbkobiphfaafaa.PureT
open Go.RowKit Go.Proofs.Ytlbkobiphfaafaa.MT Go.Proofs.Ytlbkobiphfaafaa.Opening Go.Proofs.YtlbkobiphfaafaaW.PrintWords Go.Proofs.YtlbkobiphfaafaaW.PrintLast

abbrev K := List UInt8
def key (x : ByteArray) : List UInt8 := x.data.toList
theorem key_inj {x y : ByteArray} (h : key x = key y) : x = y := by
  cases x; cases y
  simp only [key] at h
  rw [Array.toList_inj] at h
  rw [h]
theorem toList_key (x : ByteArray) : x.toList = key x := ByteArray.toList_eq x
theorem key_len (x : ByteArray) : (key x).length = x.size := by simp [key]
theorem key_mk (l : K) : key ⟨l.toArray⟩ = l := by simp [key]
theorem wnat {i n : Nat} (h : i < n) (hn : n ≤ 4611686018427387904) : wrap64 ((i : Int) + 1) = ((i + 1 : Nat) : Int) := by unfold wrap64; omega
theorem wpred {i : Nat} (h : 0 < i) (hn : i ≤ 4611686018427387904) : wrap64 ((i : Int) - 1) = ((i - 1 : Nat) : Int) := by unfold wrap64; omega
theorem key_drop {p : ByteArray} {i : Nat} (h : i < p.size) : ∃ c : UInt8, bt p (i : Int) = (c.toNat : Int) ∧ (key p)[i]? = some c ∧ (key p).drop i = c :: (key p).drop (i + 1) := by
  have h' : i < (key p).length := by rw [key_len]; exact h
  refine ⟨(key p)[i], ?_, by simp, List.drop_eq_getElem_cons h'⟩
  have := bt_at p (i : Int) (by simpa using h)
  rw [← this]
  rfl
theorem key_extract (p : ByteArray) (i j : Nat) : key (p.extract i j) = ((key p).take j).drop i := by
  simp only [key, ByteArray.data_extract, Array.toList_extract, List.extract_eq_take_drop]
  rw [List.drop_take]
theorem key_extract_end (p : ByteArray) (i : Nat) : key (p.extract i p.size) = (key p).drop i := by
  rw [key_extract, List.take_of_length_le (by rw [key_len]; omega)]
theorem byte_eq (c : UInt8) (n : Nat) (hn : n < 256) : ((c.toNat : Int) = (n : Int)) ↔ c = UInt8.ofNat n := by
  constructor
  · intro h
    apply UInt8.toNat_inj.1
    rw [UInt8.toNat_ofNat']
    omega
  · rintro rfl
    rw [UInt8.toNat_ofNat']
    omega
theorem nl_iff (c : UInt8) : ((c.toNat : Int) = 10) ↔ c = 10 := byte_eq c 10 (by omega)
theorem rdOf_nat (l : List ByteArray) (i : Nat) (h : i < l.length) : rdOf ByteArray.empty l (i : Int) = l[i] := by
  simp [rdOf, h]
abbrev keys (l : List ByteArray) : List K := l.map key
theorem keys_drop {l : List ByteArray} {i : Nat} (h : i < l.length) : (keys l).drop i = key l[i] :: (keys l).drop (i + 1) := by
  rw [List.drop_eq_getElem_cons (by simpa using h)]; simp
theorem same_l0 {a b : List ByteArray} (ha : a.length ≤ 140737488351232) (hab : a.length = b.length) (d : Nat) : ∀ (i k : Nat), a.length - i = d → i ≤ a.length → d < k →
    forebearref03_Same.l0 k a b i = some (decide ((keys a).drop i = (keys b).drop i)) := by
  induction d with
  | zero =>
    intro i k hd hi hk
    obtain ⟨k, rfl⟩ : ∃ m, k = m + 1 := ⟨k - 1, by omega⟩
    simp only [forebearref03_Same.l0]
    rw [if_neg (by omega), List.drop_eq_nil_of_le (by simp; omega), List.drop_eq_nil_of_le (by simp; omega)]; simp
  | succ d ih =>
    intro i k hd hi hk
    obtain ⟨k, rfl⟩ : ∃ m, k = m + 1 := ⟨k - 1, by omega⟩
    have hlt : i < a.length := by omega
    have hlt' : i < b.length := by omega
    simp only [forebearref03_Same.l0]
    rw [if_pos (by omega), if_pos (by omega), if_pos (by omega), rdOf_nat a i hlt, rdOf_nat b i hlt', keys_drop hlt, keys_drop hlt', toList_key, toList_key]
    by_cases h : key a[i] = key b[i]
    · rw [if_pos h, wnat hlt (by omega), ih (i + 1) k (by omega) (by omega) (by omega)]
      simp [h]
    · rw [if_neg h]; simp [h]
theorem same_f {a b : List ByteArray} (ha : a.length ≤ 140737488351232) (k : Nat) (hk : a.length < k) : forebearref03_Same.f k a b = some (decide (keys a = keys b)) := by
  unfold forebearref03_Same.f
  by_cases h : a.length = b.length
  · have := same_l0 ha h a.length 0 k (by omega) (by omega) hk
    rw [if_pos (by omega)]
    rw [show ((0 : Nat) : Int) = 0 from rfl] at this
    rw [this]; simp
  · rw [if_neg (by omega)]
    have : keys a ≠ keys b := fun e => h (by have := congrArg List.length e; simpa using this)
    simp [this]

/-- A text's lines; 'cur': what stands ahead of it on the first one. -/
def ln : K → K → List K
  | cur, [] => if cur = [] then [] else [cur]
  | cur, c :: t => if c = 10 then (cur ++ [c]) :: ln [] t else ln (cur ++ [c]) t
theorem ln_nl (cur t : K) : ln cur (10 :: t) = (cur ++ [10]) :: ln [] t := by simp [ln]
theorem ln_other {c : UInt8} (h : c ≠ 10) (cur t : K) : ln cur (c :: t) = ln (cur ++ [c]) t := by rw [ln, if_neg h]
theorem ln_idx : ∀ (l cur : K), (Lib.indexByte l 10 = -1 → l ≠ [] → ln cur l = [cur ++ l]) ∧ ∀ i : Nat, Lib.indexByte l 10 = (i : Int) → i < l.length ∧ ln cur l = (cur ++ l.take (i + 1)) :: ln [] (l.drop (i + 1))
  | [], cur => ⟨fun _ h => absurd rfl h, fun i h => by simp [Lib.indexByte] at h⟩
  | c :: t, cur => by
    by_cases hc : c = 10
    · subst hc
      refine ⟨fun h => by simp [Lib.indexByte] at h, fun i h => ?_⟩
      have : i = 0 := by simp [Lib.indexByte] at h; omega
      subst this
      exact ⟨by simp, by rw [ln_nl]; simp⟩
    · obtain ⟨h1, h2⟩ := ln_idx t (cur ++ [c])
      have hd : Lib.indexByte (c :: t) 10 = if Lib.indexByte t 10 == -1 then -1 else Lib.indexByte t 10 + 1 := by
        conv => lhs; unfold Lib.indexByte
        rw [if_neg (by simpa using hc)]
      have hg := Lib.indexByte_ge t 10
      refine ⟨fun h _ => ?_, fun i h => ?_⟩
      · rw [ln_other hc]
        by_cases h0 : t = []
        · subst h0; simp [ln]
        · rw [hd] at h
          by_cases e : Lib.indexByte t 10 = -1
          · rw [h1 e h0]; simp
          · rw [if_neg (by simpa using e)] at h; omega
      · rw [hd] at h
        by_cases e : Lib.indexByte t 10 = -1
        · rw [if_pos (by simpa using e)] at h; omega
        · rw [if_neg (by simpa using e)] at h
          obtain ⟨g1, g2⟩ := h2 (i - 1) (by omega)
          have hi : i = (i - 1) + 1 := by omega
          refine ⟨by simp; omega, ?_⟩
          rw [ln_other hc, g2, hi]
          simp
theorem ln_len : ∀ (l cur : K), (ln cur l).length ≤ l.length + 1
  | [], cur => by unfold ln; split <;> simp
  | c :: t, cur => by
    by_cases hc : c = 10
    · subst hc; rw [ln_nl]; have := ln_len t []; simp; omega
    · rw [ln_other hc]; have := ln_len t (cur ++ [c]); simp; omega
theorem ln_flat : ∀ (l cur : K), (ln cur l).flatten = cur ++ l
  | [], cur => by
    unfold ln
    split
    · rename_i h; subst h; simp
    · simp
  | c :: t, cur => by
    by_cases hc : c = 10
    · subst hc; rw [ln_nl]; simp [ln_flat t []]
    · rw [ln_other hc, ln_flat t]; simp
theorem lines_l0 (d : Nat) : ∀ (k : Nat) (p : ByteArray) (acc : List ByteArray), p.size ≤ d → p.size ≤ 2000000 → acc.length + p.size ≤ 4000000 → d < k →
    ∃ r, text_Lines.l0 k p acc = some r ∧ keys r = keys acc ++ ln [] (key p) := by
  induction d with
  | zero =>
    intro k p acc hd hp ha hk
    obtain ⟨k, rfl⟩ : ∃ m, k = m + 1 := ⟨k - 1, by omega⟩
    have hz : key p = [] := List.eq_nil_of_length_eq_zero (by rw [key_len]; omega)
    simp only [text_Lines.l0]
    rw [toList_key, hz, if_pos rfl]
    exact ⟨acc, rfl, by simp [ln]⟩
  | succ d ih =>
    intro k p acc hd hp ha hk
    obtain ⟨k, rfl⟩ : ∃ m, k = m + 1 := ⟨k - 1, by omega⟩
    simp only [text_Lines.l0]
    rw [toList_key]
    by_cases h0 : key p = []
    · rw [if_pos h0, h0]
      exact ⟨acc, rfl, by simp [ln]⟩
    · have hpos : 0 < p.size := by rw [← key_len]; exact List.length_pos_iff.2 h0
      rw [if_neg h0]
      have hidx : strings_IndexByte.f p 10 = some (Lib.indexByte (key p) 10) := rfl
      rw [hidx]
      simp only [Option.bind_some]
      obtain ⟨h1, h2⟩ := ln_idx (key p) []
      have hg := Lib.indexByte_ge (key p) 10
      by_cases e : Lib.indexByte (key p) 10 = -1
      · rw [e, show wrap64 (-1 + 1) = 0 by unfold wrap64; omega, if_pos rfl, if_pos (by omega), if_pos (by omega), if_pos (by omega), Int.toNat_natCast]
        obtain ⟨r, g1, g2⟩ := ih k (p.extract p.size p.size) (acc ++ [p.extract 0 p.size]) (by simp) (by simp) (by simp; omega) (by omega)
        refine ⟨r, g1, ?_⟩
        rw [g2, key_extract_end, List.drop_eq_nil_of_le (by rw [key_len]; omega), h1 e h0]
        simp [ln, key_extract_end]
      · obtain ⟨i, hi⟩ : ∃ i : Nat, Lib.indexByte (key p) 10 = (i : Int) := ⟨(Lib.indexByte (key p) 10).toNat, by omega⟩
        obtain ⟨g1, g2⟩ := h2 i hi
        rw [key_len] at g1
        rw [hi, wnat (n := p.size) (by omega) (by omega), if_neg (by omega), if_pos (by omega), if_pos (by omega), if_pos (by omega), Int.toNat_natCast]
        obtain ⟨r, f1, f2⟩ := ih k (p.extract (i + 1) p.size) (acc ++ [p.extract 0 (i + 1)]) (by simp; omega) (by simp; omega) (by simp; omega) (by omega)
        refine ⟨r, f1, ?_⟩
        rw [f2, key_extract_end, g2]
        simp [key_extract]
theorem lines_f {p : ByteArray} (hp : p.size ≤ 2000000) (k : Nat) (hk : p.size < k) : ∃ r, text_Lines.f k p = some r ∧ keys r = ln [] (key p) := by
  obtain ⟨r, h1, h2⟩ := lines_l0 p.size k p [] (Nat.le_refl _) hp (by simp; omega) hk
  exact ⟨r, h1, by simpa using h2⟩
theorem join_f {l : List ByteArray} (h : (keys l).flatten.length ≤ 140737488355328) (h2 : l.length ≤ 140737488355328) : ∃ r, text_Join.f l = some r ∧ key r = (keys l).flatten := by
  have e : ∀ xs : List K, Lib.join xs [] = xs.flatten := by
    intro xs
    cases xs with
    | nil => rfl
    | cons x r =>
      rw [Lib.join_cons, Lib.joinTail]; simp
  have e2 : (⟨#[]⟩ : ByteArray).data.toList = [] := rfl
  unfold text_Join.f strings_Join.f
  rw [e2, e]
  have h' : (List.map (fun x : ByteArray => x.data.toList) l).flatten.length ≤ 140737488355328 := h
  rw [if_pos h', if_pos h2]
  exact ⟨_, rfl, key_mk _⟩
end Go.Proofs.Ytlbkobiphfaafaa.PureT
