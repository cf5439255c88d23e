/- Plain facts of the printed functions of paths: check, under, has, the set, each as a function on lists of bytes. No condition. -/
import Derived.Test.YtlbkobiphfaafaaMPx0
import Derived.Test.YtlbkobiphfaafaaMPx1
import Derived.Test.YtlbkobiphfaafaaMPx2
import Derived.Test.YtlbkobiphfaafaaPlainOrder
import Derived.Sort.Walk0
set_option linter.unusedVariables false
set_option linter.unusedSimpArgs false
namespace Go.Proofs.Ytlbkobiphfaafaa.Pure
open Go.RowKit Go.Proofs.Ytlbkobiphfaafaa.MP Go.Proofs.Ytlbkobiphfaafaa.Opening Go.Proofs.YtlbkobiphfaafaaW.PrintWords Go.Proofs.YtlbkobiphfaafaaW.PrintLast

theorem toList_key (x : ByteArray) : x.toList = key x := ByteArray.toList_eq x
theorem key_len (x : ByteArray) : (key x).length = x.size := by simp [key]
theorem wnat {i n : Nat} (h : i < n) (hn : n ≤ 4611686018427387904) : wrap64 ((i : Int) + 1) = ((i + 1 : Nat) : Int) := by unfold wrap64; omega
theorem wpred {i : Nat} (h : 0 < i) (hn : i ≤ 140737488351232) : wrap64 ((i : Int) - 1) = ((i - 1 : Nat) : Int) := by unfold wrap64; omega
theorem key_drop {p : ByteArray} {i : Nat} (h : i < p.size) : ∃ c : UInt8, bt p (i : Int) = (c.toNat : Int) ∧ (key p)[i]? = some c ∧ (key p).drop i = c :: (key p).drop (i + 1) := by
  have h' : i < (key p).length := by rw [key_len]; exact h
  refine ⟨(key p)[i], ?_, by simp, List.drop_eq_getElem_cons h'⟩
  have := bt_at p (i : Int) (by simpa using h)
  rw [← this]
  rfl
theorem key_extract (p : ByteArray) (i : Nat) : key (p.extract 0 i) = (key p).take i := by
  simp only [key, ByteArray.data_extract, Array.toList_extract]; simp
theorem key_extract_end (p : ByteArray) (i : Nat) : key (p.extract i p.size) = (key p).drop i := by
  simp only [key, ByteArray.data_extract, Array.toList_extract, List.extract_eq_take_drop]
  apply List.take_of_length_le
  rw [List.length_drop]
  have : p.data.toList.length = p.size := by simp
  omega
theorem byte_eq (c : UInt8) (n : Nat) (hn : n < 256) : ((c.toNat : Int) = (n : Int)) ↔ c = UInt8.ofNat n := by
  constructor
  · intro h
    apply UInt8.toNat_inj.1
    rw [UInt8.toNat_ofNat']
    omega
  · rintro rfl
    rw [UInt8.toNat_ofNat']
    omega
theorem slash_iff (c : UInt8) : ((c.toNat : Int) = 47) ↔ c = 47 := byte_eq c 47 (by omega)

def plainI (x : Int) : Bool := (decide (97 ≤ x) && decide (x ≤ 122)) || (decide (48 ≤ x) && decide (x ≤ 57)) || decide (x = 95) || decide (x = 46)
theorem plain_f (x : Int) : path_plain.f x = some (plainI x) := by
  unfold path_plain.f plainI
  by_cases h1 : x ≥ 97 <;> by_cases h2 : x ≤ 122 <;> by_cases h3 : x ≥ 48 <;> by_cases h4 : x ≤ 57 <;> by_cases h5 : x = 95 <;>
    simp [h1, h2, h3, h4, h5] <;> first | omega | rfl | (rw [Bool.eq_iff_iff]; simp; omega)

def chk : K → Nat → Nat → Bool
  | [], n, r => decide (r ≠ 0) && decide (n ≤ 6)
  | c :: t, n, r => if c = 47 then decide (r ≠ 0) && chk t (n + 1) 0 else plainI (c.toNat : Int) && (decide (r < 16) && chk t n (r + 1))
def code (b : Bool) : Int := cond b 0 2
def isP (l : K) : Bool := chk l 1 0

theorem check_l0 {p : ByteArray} (hp : p.size ≤ 140737488351232) (d : Nat) : ∀ (i n r k : Nat), p.size - i = d → i ≤ p.size → n ≤ i + 1 → r ≤ i → d < k →
    path_Check.l0 k p n r p.size i = some (code (chk ((key p).drop i) n r)) := by
  induction d with
  | zero =>
    intro i n r k hd hi hn hr hk
    obtain ⟨k, rfl⟩ : ∃ m, k = m + 1 := ⟨k - 1, by omega⟩
    have hz : (key p).drop i = [] := List.drop_eq_nil_of_le (by rw [key_len]; omega)
    simp only [path_Check.l0]
    rw [if_neg (by omega), hz]
    by_cases h1 : r = 0
    · subst h1; simp [chk, code]
    · rw [if_neg (by omega)]
      by_cases h2 : n ≤ 6
      · rw [if_neg (by omega)]; simp [chk, h1, h2, code]
      · rw [if_pos (by omega)]; simp [chk, h2, code]
  | succ d ih =>
    intro i n r k hd hi hn hr hk
    obtain ⟨k, rfl⟩ : ∃ m, k = m + 1 := ⟨k - 1, by omega⟩
    obtain ⟨c, hb, -, hdr⟩ := key_drop (p := p) (i := i) (by omega)
    simp only [path_Check.l0]
    rw [if_pos (by omega), if_pos (by omega), if_pos (by omega), hb, hdr]
    simp only [chk]
    by_cases hc : c = 47
    · rw [if_pos ((slash_iff c).2 hc), if_pos hc]
      by_cases h1 : r = 0
      · rw [if_pos (by omega)]; simp [h1, code]
      · rw [if_neg (by omega), wnat (n := p.size + 2) (by omega) (by omega), wnat (n := p.size) (by omega) (by omega)]
        refine (ih (i + 1) (n + 1) 0 k (by omega) (by omega) (by omega) (by omega) (by omega)).trans ?_
        simp [h1]
    · rw [if_neg (fun h => hc ((slash_iff c).1 h)), if_neg hc, plain_f]
      simp only [Option.bind_some]
      by_cases h1 : plainI (c.toNat : Int) = true
      · rw [if_pos h1]
        by_cases h2 : r < 16
        · rw [if_pos (by omega), wnat (n := p.size + 2) (by omega) (by omega), wnat (n := p.size) (by omega) (by omega), ih (i + 1) n (r + 1) k (by omega) (by omega) (by omega) (by omega) (by omega)]
          simp [h1, h2]
        · rw [if_neg (by omega)]; simp [h2, code]
      · rw [if_neg h1]; simp [h1, code]
theorem check_f {p : ByteArray} (hp : p.size ≤ 140737488351232) (k : Nat) (hk : p.size < k) : path_Check.f k p = some (code (isP (key p))) := by
  have := check_l0 hp p.size 0 1 0 k (by omega) (by omega) (by omega) (by omega) hk
  simpa [path_Check.f, isP] using this
theorem chk_count : ∀ (l : K) (n r : Nat), chk l n r = true → n + l.count 47 ≤ 6
  | [], n, r, h => by simp [chk] at h; simpa using h.2
  | c :: t, n, r, h => by
    unfold chk at h
    by_cases hc : c = 47
    · rw [if_pos hc] at h
      simp at h
      have := chk_count t (n + 1) 0 h.2
      rw [hc, List.count_cons_self]; omega
    · rw [if_neg hc] at h
      simp at h
      have := chk_count t n (r + 1) h.2.2
      rw [List.count_cons_of_ne hc]; exact this

/-- below: a text is another one, or goes on behind it with a slash. -/
def under (p d : K) : Bool := (p.take d.length == d) && (match p.drop d.length with | [] => true | c :: _ => c == 47)
theorem under_f (p d : ByteArray) (hp : p.size ≤ 140737488351232) : path_Under.f p d = some (under (key p) (key d)) := by
  unfold path_Under.f strings_CutPrefix.f stringslite_CutPrefix.f stringslite_HasPrefix.f
  by_cases h : d.size ≤ p.size
  · rw [if_pos (by omega), if_pos (by omega), if_pos (by omega)]
    simp only [Option.bind_some, Int.toNat_natCast, toList_key, key_extract]
    have hl := key_len d
    by_cases e : (key p).take d.size = key d
    · rw [if_pos (by simpa using e), if_pos (by omega), if_pos (by omega)]
      simp only [Option.bind_some, if_true, toList_key, key_extract_end]
      unfold under
      rw [hl, e]
      by_cases h0 : d.size = p.size
      · have hz : (key p).drop d.size = [] := List.drop_eq_nil_of_le (by rw [key_len]; omega)
        rw [hz, if_pos rfl]; simp
      · obtain ⟨c, hb, hg, hdr⟩ := key_drop (p := p) (i := d.size) (by omega)
        rw [hdr, if_neg (by simp)]
        have hz : (p.extract d.size p.size).size = p.size - d.size := by simp
        rw [if_pos (by rw [hz]; omega)]
        have hb' : bt (p.extract d.size p.size) 0 = (c.toNat : Int) := by
          obtain ⟨c', hb', hg', -⟩ := key_drop (p := p.extract d.size p.size) (i := 0) (by rw [hz]; omega)
          rw [key_extract_end, hdr] at hg'
          simp at hg'
          subst hg'
          exact hb'
        rw [hb']
        simp only [beq_self_eq_true, Bool.true_and, Option.some.injEq]
        rw [Bool.eq_iff_iff]
        simpa using slash_iff c
    · rw [if_neg (by simpa using e)]
      simp only [Option.bind_some, Bool.false_eq_true, if_false]
      have : under (key p) (key d) = false := by unfold under; rw [hl]; simp [e]
      rw [this]
  · rw [if_neg (by omega)]
    simp only [Option.bind_some, Bool.false_eq_true, if_false]
    have : under (key p) (key d) = false := by
      unfold under
      have : ((key p).take (key d).length == key d) = false := by
        apply beq_eq_false_iff_ne.2
        intro e
        have := congrArg List.length e
        rw [List.length_take, key_len, key_len] at this
        omega
      rw [this]; rfl
    rw [this]

theorem rdOf_nat (l : List ByteArray) (i : Nat) (h : i < l.length) : rdOf ByteArray.empty l (i : Int) = l[i] := by
  simp [rdOf, h]
abbrev keys (l : List ByteArray) : List K := l.map key
theorem keys_drop {l : List ByteArray} {i : Nat} (h : i < l.length) : (keys l).drop i = key l[i] :: (keys l).drop (i + 1) := by
  rw [List.drop_eq_getElem_cons (by simpa using h)]; simp

theorem has_l0 {q : ByteArray} (hq : q.size ≤ 140737488351232) {s : List ByteArray} (hs : s.length ≤ 140737488351232) (z : List ByteArray) (d : Nat) : ∀ (i k : Nat), s.length - i = d → i ≤ s.length → d < k →
    path_Set_Has.l0 k q s s.length i z = some (((keys s).drop i).any (under (key q)) || z.isEmpty) := by
  induction d with
  | zero =>
    intro i k hd hi hk
    obtain ⟨k, rfl⟩ : ∃ m, k = m + 1 := ⟨k - 1, by omega⟩
    simp only [path_Set_Has.l0]
    rw [if_neg (by omega), List.drop_eq_nil_of_le (by simp; omega)]
    cases z <;> simp <;> omega
  | succ d ih =>
    intro i k hd hi hk
    obtain ⟨k, rfl⟩ : ∃ m, k = m + 1 := ⟨k - 1, by omega⟩
    have hlt : i < s.length := by omega
    simp only [path_Set_Has.l0]
    rw [if_pos (by omega), if_pos (by omega), if_pos (by omega), rdOf_nat s i hlt, under_f _ _ hq, keys_drop hlt]
    simp only [Option.bind_some, List.any_cons]
    by_cases h : under (key q) (key s[i]) = true
    · rw [if_pos h, h]; rfl
    · rw [if_neg h, wnat hlt (by omega), ih (i + 1) k (by omega) (by omega) (by omega)]
      simp [h]
/-- The set of paths s has q. -/
def hasS (s : List K) (q : K) : Bool := isP q && (s.any (under q) || s.isEmpty)
theorem has_f {q : ByteArray} (hq : q.size ≤ 140737488351232) {s : List ByteArray} (hs : s.length ≤ 140737488351232) (k : Nat) (h1 : q.size < k) (h2 : s.length < k) :
    path_Set_Has.f k s q = some (hasS (keys s) (key q)) := by
  unfold path_Set_Has.f hasS
  rw [check_f hq k h1]
  simp only [Option.bind_some]
  by_cases h : isP (key q) = true
  · have := has_l0 hq hs s s.length 0 k (by omega) (by omega) h2
    simp only [h, code, cond_true, if_true, Bool.true_and]
    rw [show ((0 : Nat) : Int) = 0 from rfl] at this
    rw [this]; simp
  · simp [h, code]

theorem same_l0 {a b : List ByteArray} (ha : a.length ≤ 140737488351232) (hab : a.length = b.length) (d : Nat) : ∀ (i k : Nat), a.length - i = d → i ≤ a.length → d < k →
    forebearref03_Same.l0 k a b i = some (decide ((keys a).drop i = (keys b).drop i)) := by
  induction d with
  | zero =>
    intro i k hd hi hk
    obtain ⟨k, rfl⟩ : ∃ m, k = m + 1 := ⟨k - 1, by omega⟩
    simp only [forebearref03_Same.l0]
    rw [if_neg (by omega), List.drop_eq_nil_of_le (by simp; omega), List.drop_eq_nil_of_le (by simp; omega)]; simp
  | succ d ih =>
    intro i k hd hi hk
    obtain ⟨k, rfl⟩ : ∃ m, k = m + 1 := ⟨k - 1, by omega⟩
    have hlt : i < a.length := by omega
    have hlt' : i < b.length := by omega
    simp only [forebearref03_Same.l0]
    rw [if_pos (by omega), if_pos (by omega), if_pos (by omega), rdOf_nat a i hlt, rdOf_nat b i hlt', keys_drop hlt, keys_drop hlt', toList_key, toList_key]
    by_cases h : key a[i] = key b[i]
    · rw [if_pos h, wnat hlt (by omega), ih (i + 1) k (by omega) (by omega) (by omega)]
      simp [h]
    · rw [if_neg h]; simp [h]
theorem same_f {a b : List ByteArray} (ha : a.length ≤ 140737488351232) (k : Nat) (hk : a.length < k) : forebearref03_Same.f k a b = some (decide (keys a = keys b)) := by
  unfold forebearref03_Same.f
  by_cases h : a.length = b.length
  · have := same_l0 ha h a.length 0 k (by omega) (by omega) hk
    rw [if_pos (by omega)]
    rw [show ((0 : Nat) : Int) = 0 from rfl] at this
    rw [this]; simp
  · rw [if_neg (by omega)]
    have : keys a ≠ keys b := fun e => h (by have := congrArg List.length e; simpa using this)
    simp [this]
theorem clone_f (l : List ByteArray) (h : l.length < 8796093022208) : slices_Clone_string_string.f l = some l := by
  simp [slices_Clone_string_string.f, h]

/-- Sorted, each once. -/
def sd (l : List ByteArray) : List ByteArray := compactS (sortS l)
theorem sort_f (l : List ByteArray) (h : l.length < 4000000000000) : path_Sort.f l = some (sd l) := by
  have hl : (sortS l).length = l.length := by simp [sortS]
  unfold path_Sort.f sd
  rw [clone_f l (by omega)]
  simp only [Option.bind_some, slices_Sort_string_string.f]
  rw [if_pos (by omega)]
  simp only [Option.bind_some]
  rw [if_pos (by omega)]
end Go.Proofs.Ytlbkobiphfaafaa.Pure
