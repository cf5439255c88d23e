/- The plain statement of the law TreeTouches, without program and memory. No condition. -/
import Derived.Test.YtjnefjggmeieaaaMTx0
import Derived.Test.YtjnefjggmeieaaaMTx3
import Derived.Test.YtjnefjggmeieaaaMTx4
import Derived.Test.YtjnefjggmeieaaaMTx5
import Derived.Test.YtjnefjggmeieaaaMTx6
import Derived.Test.YtjnefjggmeieaaaMTx7
import Derived.Test.YtjnefjggmeieaaaMTx8
import Derived.Test.YtjnefjggmeieaaaMTx9
import Derived.Test.YtjnefjggmeieaaaMTx10
import Derived.Test.YtjnefjggmeieaaaMTx12
import Derived.Test.YtjnefjggmeieaaaMTx18
import Derived.Test.YtjnefjggmeieaaaMTx19
import Derived.Sort.Walk0
import Derived.Lib.Bytes
import Derived.Laws.BitsLemmas
set_option linter.unusedVariables false
set_option linter.unusedSimpArgs false
namespace Go.Proofs.Ytjnefjggmeieaaa.Pure
open Go.RowKit Go.Proofs.Ytjnefjggmeieaaa.MT Go.Proofs.Ytjnefjggmeieaaa.Opening Go.Proofs.YtjnefjggmeieaaaW.PrintWords Go.Proofs.YtjnefjggmeieaaaW.PrintLast Go.Proofs.YtjnefjggmeieaaaW.PrintMore

def key (x : ByteArray) : List UInt8 := x.data.toList
theorem key_inj {x y : ByteArray} (h : key x = key y) : x = y := by
  cases x; cases y
  simp only [key] at h
  rw [Array.toList_inj] at h
  rw [h]
abbrev K := List UInt8
theorem lt_irr (a : K) : ¬ a < a := List.lt_irrefl a
theorem lt_tr {a b c : K} (h : a < b) (k : b < c) : a < c := List.lt_trans h k
theorem le_tr {a b c : K} (h : a ≤ b) (k : b ≤ c) : a ≤ c := List.le_trans h k
theorem le_tot (a b : K) : a ≤ b ∨ b ≤ a := List.le_total a b
theorem lt_of_le_ne {a b : K} (h : a ≤ b) (k : a ≠ b) : a < b := by
  rcases Classical.em (a < b) with h1 | h1
  · exact h1
  · exact absurd (List.le_antisymm h (List.not_lt.1 h1)) k
theorem lt_or_eq_or_gt (a b : K) : a < b ∨ a = b ∨ b < a := by
  rcases le_tot a b with h | h
  · by_cases e : a = b
    · exact .inr (.inl e)
    · exact .inl (lt_of_le_ne h e)
  · by_cases e : a = b
    · exact .inr (.inl e)
    · exact .inr (.inr (lt_of_le_ne h (fun x => e x.symm)))
def Rise (l : List K) : Prop := l.Pairwise (· < ·)
/-- Two lists that rise strictly and have the same members are the same. -/
theorem rise_eq : ∀ {l m : List K}, Rise l → Rise m → (∀ x, x ∈ l ↔ x ∈ m) → l = m
  | [], [], _, _, _ => rfl
  | [], b :: m, _, _, h => absurd ((h b).2 (List.mem_cons_self)) (by simp)
  | a :: l, [], _, _, h => absurd ((h a).1 (List.mem_cons_self)) (by simp)
  | a :: l, b :: m, hl, hm, h => by
    obtain ⟨ha, hl'⟩ := List.pairwise_cons.1 hl
    obtain ⟨hb, hm'⟩ := List.pairwise_cons.1 hm
    have hab : a = b := by
      rcases List.mem_cons.1 ((h a).1 (List.mem_cons_self)) with e | e
      · exact e
      · rcases List.mem_cons.1 ((h b).2 (List.mem_cons_self)) with f | f
        · exact f.symm
        · exact absurd (lt_tr (hb a e) (ha b f)) (lt_irr b)
    subst hab
    congr 1
    refine rise_eq hl' hm' (fun x => ?_)
    constructor
    · intro hx
      rcases List.mem_cons.1 ((h x).1 (List.mem_cons_of_mem _ hx)) with e | e
      · subst e; exact absurd (ha x hx) (lt_irr x)
      · exact e
    · intro hx
      rcases List.mem_cons.1 ((h x).2 (List.mem_cons_of_mem _ hx)) with e | e
      · subst e; exact absurd (hb x hx) (lt_irr x)
      · exact e
/-- What is left of a rising list where equal neighbours are one. -/
def dd : List K → List K
  | [] => []
  | [a] => [a]
  | a :: b :: l => if a = b then dd (b :: l) else a :: dd (b :: l)
theorem mem_dd : ∀ (l : List K) (x : K), x ∈ dd l ↔ x ∈ l
  | [], x => Iff.rfl
  | [a], x => Iff.rfl
  | a :: b :: l, x => by
    have ih := mem_dd (b :: l) x
    unfold dd
    split
    · rename_i e
      rw [ih, e]
      simp
    · rw [List.mem_cons, ih, List.mem_cons (a := x) (b := a)]
theorem dd_rise : ∀ {l : List K}, l.Pairwise (· ≤ ·) → Rise (dd l)
  | [], _ => List.Pairwise.nil
  | [a], _ => List.pairwise_singleton _ _
  | a :: b :: l, h => by
    obtain ⟨ha, hl⟩ := List.pairwise_cons.1 h
    have ih := dd_rise hl
    unfold dd
    split
    · exact ih
    · rename_i e
      refine List.pairwise_cons.2 ⟨fun x hx => ?_, ih⟩
      rw [mem_dd] at hx
      have hb := lt_of_le_ne (ha b (List.mem_cons_self)) e
      rcases List.mem_cons.1 hx with rfl | hx
      · exact hb
      · have hbx := (List.pairwise_cons.1 hl).1 x hx
        rcases lt_or_eq_or_gt b x with h1 | h1 | h1
        · exact lt_tr hb h1
        · exact h1 ▸ hb
        · exact absurd h1 (List.not_lt.2 hbx)
theorem toList_key (x : ByteArray) : x.toList = key x := ByteArray.toList_eq x
theorem key_len (x : ByteArray) : (key x).length = x.size := by simp [key]
theorem wnat {i n : Nat} (h : i < n) (hn : n ≤ 4611686018427387904) : wrap64 ((i : Int) + 1) = ((i + 1 : Nat) : Int) := by unfold wrap64; omega
theorem key_drop {p : ByteArray} {i : Nat} (h : i < p.size) : ∃ c : UInt8, bt p (i : Int) = (c.toNat : Int) ∧ (key p)[i]? = some c ∧ (key p).drop i = c :: (key p).drop (i + 1) := by
  have h' : i < (key p).length := by rw [key_len]; exact h
  refine ⟨(key p)[i], ?_, by simp, List.drop_eq_getElem_cons h'⟩
  have := bt_at p (i : Int) (by simpa using h)
  rw [← this]
  rfl
theorem key_extract (p : ByteArray) (i : Nat) : key (p.extract 0 i) = (key p).take i := by
  simp only [key, ByteArray.data_extract, Array.toList_extract]; simp
theorem key_extract_end (p : ByteArray) (i : Nat) : key (p.extract i p.size) = (key p).drop i := by
  simp only [key, ByteArray.data_extract, Array.toList_extract, List.extract_eq_take_drop]
  apply List.take_of_length_le
  rw [List.length_drop]
  have : p.data.toList.length = p.size := by simp
  omega
theorem byte_eq (c : UInt8) (n : Nat) (hn : n < 256) : ((c.toNat : Int) = (n : Int)) ↔ c = UInt8.ofNat n := by
  constructor
  · intro h
    apply UInt8.toNat_inj.1
    rw [UInt8.toNat_ofNat']
    omega
  · rintro rfl
    rw [UInt8.toNat_ofNat']
    omega
theorem slash_iff (c : UInt8) : ((c.toNat : Int) = 47) ↔ c = 47 := byte_eq c 47 (by omega)
def plainI (x : Int) : Bool := (decide (97 ≤ x) && decide (x ≤ 122)) || (decide (48 ≤ x) && decide (x ≤ 57)) || decide (x = 95) || decide (x = 46)
theorem plain_f (x : Int) : path_plain.f x = some (plainI x) := by
  unfold path_plain.f plainI
  by_cases h1 : x ≥ 97 <;> by_cases h2 : x ≤ 122 <;> by_cases h3 : x ≥ 48 <;> by_cases h4 : x ≤ 57 <;> by_cases h5 : x = 95 <;>
    simp [h1, h2, h3, h4, h5] <;> first | omega | rfl | (rw [Bool.eq_iff_iff]; simp; omega)
def chk : K → Nat → Nat → Bool
  | [], n, r => decide (r ≠ 0) && decide (n ≤ 6)
  | c :: t, n, r => if c = 47 then decide (r ≠ 0) && chk t (n + 1) 0 else plainI (c.toNat : Int) && (decide (r < 16) && chk t n (r + 1))
def code (b : Bool) : Int := cond b 0 2
def isP (l : K) : Bool := chk l 1 0
theorem check_l0 {p : ByteArray} (hp : p.size ≤ 140737488351232) (d : Nat) : ∀ (i n r k : Nat), p.size - i = d → i ≤ p.size → n ≤ i + 1 → r ≤ i → d < k →
    path_Check.l0 k p n r p.size i = some (code (chk ((key p).drop i) n r)) := by
  induction d with
  | zero =>
    intro i n r k hd hi hn hr hk
    obtain ⟨k, rfl⟩ : ∃ m, k = m + 1 := ⟨k - 1, by omega⟩
    have hz : (key p).drop i = [] := List.drop_eq_nil_of_le (by rw [key_len]; omega)
    simp only [path_Check.l0]
    rw [if_neg (by omega), hz]
    by_cases h1 : r = 0
    · subst h1; simp [chk, code]
    · rw [if_neg (by omega)]
      by_cases h2 : n ≤ 6
      · rw [if_neg (by omega)]; simp [chk, h1, h2, code]
      · rw [if_pos (by omega)]; simp [chk, h2, code]
  | succ d ih =>
    intro i n r k hd hi hn hr hk
    obtain ⟨k, rfl⟩ : ∃ m, k = m + 1 := ⟨k - 1, by omega⟩
    obtain ⟨c, hb, -, hdr⟩ := key_drop (p := p) (i := i) (by omega)
    simp only [path_Check.l0]
    rw [if_pos (by omega), if_pos (by omega), if_pos (by omega), hb, hdr]
    simp only [chk]
    by_cases hc : c = 47
    · rw [if_pos ((slash_iff c).2 hc), if_pos hc]
      by_cases h1 : r = 0
      · rw [if_pos (by omega)]; simp [h1, code]
      · rw [if_neg (by omega), wnat (n := p.size + 2) (by omega) (by omega), wnat (n := p.size) (by omega) (by omega)]
        refine (ih (i + 1) (n + 1) 0 k (by omega) (by omega) (by omega) (by omega) (by omega)).trans ?_
        simp [h1]
    · rw [if_neg (fun h => hc ((slash_iff c).1 h)), if_neg hc, plain_f]
      simp only [Option.bind_some]
      by_cases h1 : plainI (c.toNat : Int) = true
      · rw [if_pos h1]
        by_cases h2 : r < 16
        · rw [if_pos (by omega), wnat (n := p.size + 2) (by omega) (by omega), wnat (n := p.size) (by omega) (by omega), ih (i + 1) n (r + 1) k (by omega) (by omega) (by omega) (by omega) (by omega)]
          simp [h1, h2]
        · rw [if_neg (by omega)]; simp [h2, code]
      · rw [if_neg h1]; simp [h1, code]
theorem check_f {p : ByteArray} (hp : p.size ≤ 140737488351232) (k : Nat) (hk : p.size < k) : path_Check.f k p = some (code (isP (key p))) := by
  have := check_l0 hp p.size 0 1 0 k (by omega) (by omega) (by omega) (by omega) hk
  simpa [path_Check.f, isP] using this
theorem chk_count : ∀ (l : K) (n r : Nat), chk l n r = true → n + l.count 47 ≤ 6
  | [], n, r, h => by simp [chk] at h; simpa using h.2
  | c :: t, n, r, h => by
    unfold chk at h
    by_cases hc : c = 47
    · rw [if_pos hc] at h
      simp at h
      have := chk_count t (n + 1) 0 h.2
      rw [hc, List.count_cons_self]; omega
    · rw [if_neg hc] at h
      simp at h
      have := chk_count t n (r + 1) h.2.2
      rw [List.count_cons_of_ne hc]; exact this
/-- below: a text is another one, or goes on behind it with a slash. -/
def under (p d : K) : Bool := (p.take d.length == d) && (match p.drop d.length with | [] => true | c :: _ => c == 47)
theorem rdOf_nat (l : List ByteArray) (i : Nat) (h : i < l.length) : rdOf ByteArray.empty l (i : Int) = l[i] := by
  simp [rdOf, h]
abbrev keys (l : List ByteArray) : List K := l.map key
theorem keys_drop {l : List ByteArray} {i : Nat} (h : i < l.length) : (keys l).drop i = key l[i] :: (keys l).drop (i + 1) := by
  rw [List.drop_eq_getElem_cons (by simpa using h)]; simp
/-- The set of paths s has q. -/
def hasS (s : List K) (q : K) : Bool := isP q && (s.any (under q) || s.isEmpty)
theorem clone_f (l : List ByteArray) (h : l.length < 8796093022208) : slices_Clone_string_string.f l = some l := by
  simp [slices_Clone_string_string.f, h]
/-- Sorted, each once. -/
def sd (l : List ByteArray) : List ByteArray := compactS (sortS l)
theorem sort_f (l : List ByteArray) (h : l.length < 4000000000000) : path_Sort.f l = some (sd l) := by
  have hl : (sortS l).length = l.length := by simp [sortS]
  unfold path_Sort.f sd
  rw [clone_f l (by omega)]
  simp only [Option.bind_some, slices_Sort_string_string.f]
  rw [if_pos (by omega)]
  simp only [Option.bind_some]
  rw [if_pos (by omega)]
theorem key_mk (l : K) : key ⟨l.toArray⟩ = l := by simp [key]
theorem keys_mk (l : List K) : keys (l.map fun l => ⟨l.toArray⟩) = l := by
  simp [keys, Function.comp_def, key_mk]
theorem sortS_keys (l : List ByteArray) : keys (sortS l) = (keys l).mergeSort fun x y => decide (x ≤ y) := by
  unfold sortS; rw [keys_mk]; rfl
theorem sorted_merge (l : List K) : (l.mergeSort fun x y => decide (x ≤ y)).Pairwise (· ≤ ·) := by
  have := List.pairwise_mergeSort (le := fun x y : K => decide (x ≤ y)) (fun a b c h1 h2 => by simp at *; exact le_tr h1 h2) (fun a b => by simpa using le_tot a b) l
  simpa using this
theorem getA (l : List K) (j : Nat) : l.toArray[j]! = l.getD j [] := by
  simp only [List.getElem!_toArray, List.getD_eq_getElem?_getD]
  rw [List.getElem!_eq_getElem?_getD]; rfl
theorem compact_one (b : K) (l : List K) : Lib.compact (b :: l) = b :: ((List.range l.length).filter (fun j => decide ((b :: l).getD (j + 1) [] ≠ (b :: l).getD j []))).map (fun j => (b :: l).getD (j + 1) []) := by
  unfold Lib.compact Lib.compactUpTo
  rw [List.length_cons, List.range_succ_eq_map, List.filter_cons_of_pos (by simp [Lib.keeps])]
  rw [List.map_cons, getA, List.filter_map, List.map_map]
  congr 1
  congr 1
  · funext j; simp only [Function.comp_def, getA]
  · congr 1
    funext j
    simp only [Function.comp_def, Lib.keeps, getA]
    simp
theorem compact_two (a b : K) (l : List K) : Lib.compact (a :: b :: l) = if a = b then Lib.compact (b :: l) else a :: Lib.compact (b :: l) := by
  rw [compact_one a (b :: l), compact_one b l, List.length_cons, List.range_succ_eq_map]
  by_cases h : a = b
  · subst h
    rw [if_pos rfl, List.filter_cons_of_neg (by simp), List.filter_map, List.map_map]
    rfl
  · have h' : b ≠ a := fun e => h e.symm
    rw [if_neg h, List.filter_cons_of_pos (by simp [h']), List.map_cons, List.filter_map, List.map_map]
    rfl
theorem compact_eq_dd : ∀ (l : List K), Lib.compact l = dd l
  | [] => rfl
  | [a] => by rw [compact_one]; rfl
  | a :: b :: l => by rw [compact_two, compact_eq_dd (b :: l)]; rfl
theorem sd_keys (l : List ByteArray) : keys (sd l) = dd ((keys l).mergeSort fun x y => decide (x ≤ y)) := by
  unfold sd compactS
  rw [keys_mk, compact_eq_dd, ← sortS_keys]; rfl
theorem sd_rise (l : List ByteArray) : Rise (keys (sd l)) := by rw [sd_keys]; exact dd_rise (sorted_merge _)
theorem sd_mem (l : List ByteArray) (x : K) : x ∈ keys (sd l) ↔ x ∈ keys l := by rw [sd_keys, mem_dd, List.mem_mergeSort]
theorem dd_len : ∀ l : List K, (dd l).length ≤ l.length
  | [] => by simp [dd]
  | [a] => by simp [dd]
  | a :: b :: l => by
    have ih := dd_len (b :: l)
    unfold dd
    split
    · simp at *; omega
    · simp at *; omega
theorem sd_len (l : List ByteArray) : (sd l).length ≤ l.length := by
  have h := dd_len ((keys l).mergeSort fun x y => decide (x ≤ y))
  rw [← sd_keys] at h
  simpa [List.length_mergeSort] using h
/-- The document's list with a text. -/
def ins (s : K) : List K → List K
  | [] => [s]
  | a :: t => if s < a then s :: a :: t else a :: ins s t
theorem refHas_l0 {l : List ByteArray} (hl : l.length ≤ 140737488351232) (q : ByteArray) (d : Nat) : ∀ (i k : Nat), l.length - i = d → i ≤ l.length → d < k →
    forebearref03_Has.l0 k l q i = some (decide (key q ∈ (keys l).drop i)) := by
  induction d with
  | zero =>
    intro i k hd hi hk
    obtain ⟨k, rfl⟩ : ∃ m, k = m + 1 := ⟨k - 1, by omega⟩
    simp only [forebearref03_Has.l0]
    rw [if_neg (by omega), List.drop_eq_nil_of_le (by simp; omega)]; simp
  | succ d ih =>
    intro i k hd hi hk
    obtain ⟨k, rfl⟩ : ∃ m, k = m + 1 := ⟨k - 1, by omega⟩
    have hlt : i < l.length := by omega
    simp only [forebearref03_Has.l0]
    rw [if_pos (by omega), if_pos (by omega), rdOf_nat l i hlt, keys_drop hlt, toList_key, toList_key]
    by_cases h : key l[i] = key q
    · rw [if_pos h]; simp [h]
    · rw [if_neg h, wnat hlt (by omega), ih (i + 1) k (by omega) (by omega) (by omega)]
      have : ¬ key q = key l[i] := fun e => h e.symm
      simp [this]
theorem refHas_f {l : List ByteArray} (hl : l.length ≤ 140737488351232) (q : ByteArray) (k : Nat) (hk : l.length < k) : forebearref03_Has.f k l q = some (decide (key q ∈ keys l)) := by
  have := refHas_l0 hl q l.length 0 k (by omega) (by omega) hk
  rw [show ((0 : Nat) : Int) = 0 from rfl] at this
  simpa [forebearref03_Has.f] using this
theorem refWith_done {l : List ByteArray} (hl : l.length ≤ 1000000) (q : ByteArray) (d : Nat) : ∀ (i k : Nat) (acc : List ByteArray), l.length - i = d → i ≤ l.length → acc.length + (l.length - i) ≤ 1000000 → d < k →
    ∃ r, forebearref03_With.l0 k l q acc true i = some r ∧ keys r = keys acc ++ (keys l).drop i := by
  induction d with
  | zero =>
    intro i k acc hd hi ha hk
    obtain ⟨k, rfl⟩ : ∃ m, k = m + 1 := ⟨k - 1, by omega⟩
    simp only [forebearref03_With.l0]
    rw [if_neg (by omega), List.drop_eq_nil_of_le (by simp; omega)]; simp
  | succ d ih =>
    intro i k acc hd hi ha hk
    obtain ⟨k, rfl⟩ : ∃ m, k = m + 1 := ⟨k - 1, by omega⟩
    have hlt : i < l.length := by omega
    simp only [forebearref03_With.l0]
    rw [if_pos (by omega)]
    simp only [if_true]
    rw [if_pos (by omega), if_pos (by omega), wnat hlt (by omega), rdOf_nat l i hlt]
    obtain ⟨r, h1, h2⟩ := ih (i + 1) k (acc ++ [l[i]]) (by omega) (by omega) (by simp; omega) (by omega)
    exact ⟨r, h1, by rw [h2, keys_drop hlt]; simp⟩
theorem refWith_l0 {l : List ByteArray} (hl : l.length ≤ 1000000) (q : ByteArray) (d : Nat) : ∀ (i k : Nat) (acc : List ByteArray), l.length - i = d → i ≤ l.length → acc.length + (l.length - i) + 1 ≤ 1000000 → d < k →
    ∃ r, forebearref03_With.l0 k l q acc false i = some r ∧ keys r = keys acc ++ ins (key q) ((keys l).drop i) := by
  induction d with
  | zero =>
    intro i k acc hd hi ha hk
    obtain ⟨k, rfl⟩ : ∃ m, k = m + 1 := ⟨k - 1, by omega⟩
    simp only [forebearref03_With.l0]
    rw [if_neg (by omega), List.drop_eq_nil_of_le (by simp; omega), if_neg (by simp), if_pos (by omega)]; simp [ins]
  | succ d ih =>
    intro i k acc hd hi ha hk
    obtain ⟨k, rfl⟩ : ∃ m, k = m + 1 := ⟨k - 1, by omega⟩
    have hlt : i < l.length := by omega
    simp only [forebearref03_With.l0]
    rw [if_pos (by omega), if_neg (by simp), if_pos (by omega), rdOf_nat l i hlt, toList_key, toList_key, bytesLess_eq, keys_drop hlt]
    simp only [ins]
    by_cases h : key q < key l[i]
    · rw [if_pos (by simpa using h), if_pos (by omega), if_pos h]
      simp only [Option.bind_some]
      rw [if_pos (by simp; omega), wnat hlt (by omega)]
      obtain ⟨r, h1, h2⟩ := refWith_done (l := l) hl q d (i + 1) k (acc ++ [q] ++ [l[i]]) (by omega) (by omega) (by simp; omega) (by omega)
      exact ⟨r, h1, by rw [h2]; simp⟩
    · rw [if_neg (by simpa using h), if_pos (by omega), if_neg h, wnat hlt (by omega)]
      obtain ⟨r, h1, h2⟩ := ih (i + 1) k (acc ++ [l[i]]) (by omega) (by omega) (by simp; omega) (by omega)
      exact ⟨r, h1, by rw [h2]; simp⟩
theorem mem_ins (s x : K) : ∀ l : List K, x ∈ ins s l ↔ x = s ∨ x ∈ l
  | [] => by simp [ins]
  | a :: t => by
    unfold ins
    split
    · simp
    · rw [List.mem_cons, mem_ins s x t, List.mem_cons]
      constructor
      · rintro (h | h | h) <;> simp [h]
      · rintro (h | h | h) <;> simp [h]
theorem rise_ins (s : K) : ∀ {l : List K}, Rise l → s ∉ l → Rise (ins s l)
  | [], _, _ => List.pairwise_singleton _ _
  | a :: t, h, hn => by
    obtain ⟨h1, h2⟩ := List.pairwise_cons.1 h
    unfold ins
    split
    · rename_i hlt
      exact List.pairwise_cons.2 ⟨fun x hx => by
        rcases List.mem_cons.1 hx with rfl | hx
        · exact hlt
        · exact lt_tr hlt (h1 x hx), h⟩
    · rename_i hge
      have hlt : a < s := by
        rcases lt_or_eq_or_gt a s with h | h | h
        · exact h
        · exact absurd (by simp [h]) hn
        · exact absurd h hge
      exact List.pairwise_cons.2 ⟨fun x hx => by
        rcases (mem_ins s x t).1 hx with rfl | hx
        · exact hlt
        · exact h1 x hx, rise_ins s h2 (fun hm => hn (List.mem_cons_of_mem _ hm))⟩
theorem refWith_f {l : List ByteArray} (hl : l.length < 1000000) (q : ByteArray) (k : Nat) (hk : l.length < k) (hr : Rise (keys l)) :
    ∃ r, forebearref03_With.f k l q = some r ∧ Rise (keys r) ∧ (∀ x, x ∈ keys r ↔ x = key q ∨ x ∈ keys l) ∧ r.length ≤ l.length + 1 := by
  unfold forebearref03_With.f
  rw [refHas_f (by omega) q k hk]
  simp only [Option.bind_some, decide_eq_true_eq]
  by_cases h : key q ∈ keys l
  · rw [if_pos h]
    exact ⟨l, rfl, hr, fun x => ⟨.inr, fun e => e.elim (fun e => e ▸ h) id⟩, by omega⟩
  · rw [if_neg h]
    obtain ⟨r, h1, h2⟩ := refWith_l0 (l := l) (by omega) q l.length 0 k [] (by omega) (by omega) (by simp; omega) hk
    rw [show ((0 : Nat) : Int) = 0 from rfl] at h1
    refine ⟨r, h1, ?_, ?_, ?_⟩
    · rw [h2]; simpa using rise_ins _ hr h
    · intro x; rw [h2]; simpa using mem_ins (key q) x (keys l)
    · have := congrArg List.length h2
      simp only [List.length_map, List.length_append, List.drop_zero, List.length_nil, Nat.zero_add] at this
      rw [this]
      have : ∀ (s : K) (m : List K), (ins s m).length = m.length + 1 := by
        intro s m
        induction m with
        | nil => rfl
        | cons a t ih => unfold ins; split <;> simp [ih]
      rw [this]; simp
/-- What leads to a path: its beginnings that a slash follows. -/
def cuts : K → K → List K
  | _, [] => []
  | pre, c :: t => if c = 47 then pre :: cuts (pre ++ [c]) t else cuts (pre ++ [c]) t
def partsK (l : K) : List K := if isP l then cuts [] l ++ [l] else []
theorem parts_l0 {p : ByteArray} (hp : p.size ≤ 140737488351232) (d : Nat) : ∀ (i k : Nat) (acc : List ByteArray), p.size - i = d → i ≤ p.size → acc.length + ((key p).drop i).count 47 ≤ 100 → d < k →
    ∃ r, path_Parts.l0 k p acc p.size i = some r ∧ keys r = keys acc ++ (cuts ((key p).take i) ((key p).drop i) ++ [key p]) := by
  induction d with
  | zero =>
    intro i k acc hd hi ha hk
    obtain ⟨k, rfl⟩ : ∃ m, k = m + 1 := ⟨k - 1, by omega⟩
    simp only [path_Parts.l0]
    rw [if_neg (by omega), if_pos (by omega), List.drop_eq_nil_of_le (by rw [key_len]; omega)]
    exact ⟨_, rfl, by simp [cuts]⟩
  | succ d ih =>
    intro i k acc hd hi ha hk
    obtain ⟨k, rfl⟩ : ∃ m, k = m + 1 := ⟨k - 1, by omega⟩
    obtain ⟨c, hb, hg, hdr⟩ := key_drop (p := p) (i := i) (by omega)
    have ht : (key p).take (i + 1) = (key p).take i ++ [c] := by
      rw [List.take_add_one, hg]; rfl
    rw [hdr] at ha
    simp only [path_Parts.l0]
    rw [if_pos (by omega), if_pos (by omega), if_pos (by omega), hb, hdr, wnat (n := p.size) (by omega) (by omega)]
    simp only [cuts]
    by_cases hc : c = 47
    · rw [if_pos ((slash_iff c).2 hc), if_pos (by omega), if_pos (by omega), if_pos hc]
      rw [hc, List.count_cons_self] at ha
      obtain ⟨r, h1, h2⟩ := ih (i + 1) k (acc ++ [p.extract 0 i]) (by omega) (by omega) (by simp; omega) (by omega)
      refine ⟨r, h1, ?_⟩
      rw [h2, ht]
      simp [key_extract]
    · rw [if_neg (fun h => hc ((slash_iff c).1 h)), if_neg hc]
      rw [List.count_cons_of_ne hc] at ha
      obtain ⟨r, h1, h2⟩ := ih (i + 1) k acc (by omega) (by omega) (by omega) (by omega)
      exact ⟨r, h1, by rw [h2, ht]⟩
theorem parts_f {p : ByteArray} (hp : p.size ≤ 140737488351232) (k : Nat) (hk : p.size < k) : ∃ r, path_Parts.f k p = some r ∧ keys r = partsK (key p) := by
  unfold path_Parts.f partsK
  rw [check_f hp k hk]
  simp only [Option.bind_some]
  by_cases h : isP (key p) = true
  · have hc := chk_count _ _ _ h
    obtain ⟨r, h1, h2⟩ := parts_l0 hp p.size 0 k [] (by omega) (by omega) (by simp; omega) hk
    rw [show ((0 : Nat) : Int) = 0 from rfl] at h1
    rw [h, if_pos (by rfl)]
    exact ⟨r, h1, by rw [h2]; simp⟩
  · have h' : isP (key p) = false := by simpa using h
    rw [h', if_neg (by decide)]
    exact ⟨[], rfl, by simp⟩
def nameK (l : K) : Bool := l.all (fun c => plainI (c.toNat : Int)) && decide (1 ≤ l.length ∧ l.length ≤ 16)
theorem refName_l0 {p : ByteArray} (hp : p.size ≤ 140737488351232) (d : Nat) : ∀ (i k : Nat), p.size - i = d → i ≤ p.size → d < k →
    forebearref03_Name.l0 k p i = some (((key p).drop i).all (fun c => plainI (c.toNat : Int)) && decide (1 ≤ p.size ∧ p.size ≤ 16)) := by
  induction d with
  | zero =>
    intro i k hd hi hk
    obtain ⟨k, rfl⟩ : ∃ m, k = m + 1 := ⟨k - 1, by omega⟩
    simp only [forebearref03_Name.l0]
    rw [if_neg (by omega), List.drop_eq_nil_of_le (by rw [key_len]; omega)]
    by_cases h1 : 1 ≤ p.size
    · rw [if_pos (by omega)]
      simp only [List.all_nil, Bool.true_and, Option.some.injEq]
      rw [Bool.eq_iff_iff, decide_eq_true_eq, decide_eq_true_eq]; omega
    · rw [if_neg (by omega)]; simp [h1]
  | succ d ih =>
    intro i k hd hi hk
    obtain ⟨k, rfl⟩ : ∃ m, k = m + 1 := ⟨k - 1, by omega⟩
    obtain ⟨c, hb, -, hdr⟩ := key_drop (p := p) (i := i) (by omega)
    have hn := ih (i + 1) k (by omega) (by omega) (by omega)
    simp only [forebearref03_Name.l0]
    rw [if_pos (by omega), if_pos (by omega), hb, hdr, wnat (n := p.size) (by omega) (by omega), hn, List.all_cons]
    generalize (c.toNat : Int) = x
    rw [Bool.and_assoc]
    generalize hg : (((key p).drop (i + 1)).all (fun c => plainI (c.toNat : Int)) && decide (1 ≤ p.size ∧ p.size ≤ 16)) = b
    by_cases h : plainI x = true
    · rw [h, Bool.true_and]
      unfold plainI at h
      simp at h
      repeat' split
      all_goals first | rfl | omega
    · have h' : plainI x = false := by simpa using h
      rw [h', Bool.false_and]
      unfold plainI at h'
      simp at h'
      repeat' split
      all_goals first | rfl | omega
theorem refName_f {p : ByteArray} (hp : p.size ≤ 140737488351232) (k : Nat) (hk : p.size < k) : forebearref03_Name.f k p = some (nameK (key p)) := by
  have := refName_l0 hp p.size 0 k (by omega) (by omega) hk
  rw [show ((0 : Nat) : Int) = 0 from rfl] at this
  unfold forebearref03_Name.f nameK
  rw [this, key_len]; simp
/-- What stands between the slashes; 'last': what stands ahead. -/
def sp : K → K → List K
  | last, [] => [last]
  | last, c :: t => if c = 47 then last :: sp [] t else sp (last ++ [c]) t
theorem key_append (a b : ByteArray) : key (a ++ b) = key a ++ key b := by simp [key]
theorem sp_slash (t last : K) : sp last (47 :: t) = last :: sp [] t := by rw [sp, if_pos rfl]
theorem sp_other {c : UInt8} (h : c ≠ 47) (t last : K) : sp last (c :: t) = sp (last ++ [c]) t := by rw [sp, if_neg h]
theorem chk_slash (t : K) (n r : Nat) : chk (47 :: t) n r = (decide (r ≠ 0) && chk t (n + 1) 0) := by rw [chk, if_pos rfl]
theorem chk_other {c : UInt8} (h : c ≠ 47) (t : K) (n r : Nat) : chk (c :: t) n r = (plainI (c.toNat : Int) && (decide (r < 16) && chk t n (r + 1))) := by rw [chk, if_neg h]
theorem key_one (c : UInt8) : key (oneB (c.toNat : Int)) = [c] := by
  simp [oneB, strOfNums, key]
theorem refNames_l0 {p : ByteArray} (hp : p.size ≤ 1000) (d : Nat) : ∀ (i k : Nat) (init : List ByteArray) (last : ByteArray), p.size - i = d → i ≤ p.size → init.length ≤ i → last.size ≤ i → d < k →
    ∃ r, forebearref03_Names.l0 k p (init ++ [last]) i = some r ∧ keys r = keys init ++ sp (key last) ((key p).drop i) := by
  induction d with
  | zero =>
    intro i k init last hd hi h1 h2 hk
    obtain ⟨k, rfl⟩ : ∃ m, k = m + 1 := ⟨k - 1, by omega⟩
    simp only [forebearref03_Names.l0]
    rw [if_neg (by omega), List.drop_eq_nil_of_le (by rw [key_len]; omega)]
    exact ⟨_, rfl, by simp [sp]⟩
  | succ d ih =>
    intro i k init last hd hi h1 h2 hk
    obtain ⟨k, rfl⟩ : ∃ m, k = m + 1 := ⟨k - 1, by omega⟩
    obtain ⟨c, hb, -, hdr⟩ := key_drop (p := p) (i := i) (by omega)
    simp only [forebearref03_Names.l0]
    rw [if_pos (by omega), if_pos (by omega), hb, hdr, wnat (n := p.size) (by omega) (by omega)]
    simp only [sp]
    by_cases hc : c = 47
    · rw [if_pos ((slash_iff c).2 hc), if_pos hc, if_pos (by simp; omega)]
      obtain ⟨r, g1, g2⟩ := ih (i + 1) k (init ++ [last]) (⟨#[]⟩ : ByteArray) (by omega) (by omega) (by simp; omega) (Nat.zero_le _) (by omega)
      exact ⟨r, g1, by rw [g2]; simp [key]⟩
    · rw [if_neg (fun h => hc ((slash_iff c).1 h)), if_neg hc, if_pos (by simp)]
      have e1 : (init ++ [last]).length - 1 = init.length := by simp
      have e2 : (init ++ [last]).getD init.length ByteArray.empty = last := by simp
      rw [e1, e2, if_pos (by omega)]
      have e3 : (init ++ [last]).set init.length (last ++ oneB (c.toNat : Int)) = init ++ [last ++ oneB (c.toNat : Int)] := by simp
      rw [e3]
      have e4 : (last ++ oneB (c.toNat : Int)).size = last.size + 1 := by
        rw [ByteArray.size_append]; rfl
      obtain ⟨r, g1, g2⟩ := ih (i + 1) k init (last ++ oneB (c.toNat : Int)) (by omega) (by omega) (by omega) (by omega) (by omega)
      have e5 : key (last ++ oneB (c.toNat : Int)) = key last ++ [c] := by
        rw [key_append, key_one]
      exact ⟨r, g1, by rw [g2, e5]⟩
theorem refNames_f {p : ByteArray} (hp : p.size ≤ 1000) (k : Nat) (hk : p.size < k) : ∃ r, forebearref03_Names.f k p = some r ∧ keys r = sp [] (key p) := by
  obtain ⟨r, h1, h2⟩ := refNames_l0 hp p.size 0 k [] (⟨#[]⟩ : ByteArray) (by omega) (by omega) (Nat.le_refl _) (Nat.le_refl _) hk
  rw [show ((0 : Nat) : Int) = 0 from rfl] at h1
  exact ⟨r, h1, by rw [h2]; rfl⟩
theorem sp_len : ∀ (t last : K), (sp last t).length = t.count 47 + 1
  | [], last => rfl
  | c :: t, last => by
    unfold sp
    by_cases h : c = 47
    · rw [if_pos h, h, List.count_cons_self, List.length_cons, sp_len t]
    · rw [if_neg h, List.count_cons_of_ne h, sp_len t]
theorem sp_head : ∀ (t last : K), ∃ s r, sp last t = (last ++ s) :: r
  | [], last => ⟨[], [], by simp [sp]⟩
  | c :: t, last => by
    unfold sp
    by_cases h : c = 47
    · rw [if_pos h]; exact ⟨[], _, by simp; rfl⟩
    · rw [if_neg h]
      obtain ⟨s, r, e⟩ := sp_head t (last ++ [c])
      exact ⟨c :: s, r, by rw [e]; simp⟩
theorem chk_sp : ∀ (t last : K) (n : Nat), 1 ≤ n → last.all (fun c => plainI (c.toNat : Int)) = true → last.length ≤ 16 → chk t n last.length = ((sp last t).all nameK && decide (n + (sp last t).length ≤ 7))
  | [], last, n, hn, ha, hl => by
    simp only [chk, sp, List.all_cons, List.all_nil, nameK, ha, Bool.true_and, Bool.and_true, List.length_cons, List.length_nil, Nat.zero_add]
    rw [Bool.eq_iff_iff]; simp only [Bool.and_eq_true, decide_eq_true_eq, ne_eq]
    constructor
    · rintro ⟨h1, h2⟩; exact ⟨⟨by omega, hl⟩, by omega⟩
    · rintro ⟨⟨h1, h2⟩, h3⟩; exact ⟨by omega, by omega⟩
  | c :: t, last, n, hn, ha, hl => by
    by_cases h : c = 47
    · subst h
      have := chk_sp t [] (n + 1) (by omega) rfl (by simp)
      rw [show ([] : K).length = 0 from rfl] at this
      rw [chk_slash, sp_slash, this]
      simp only [List.all_cons, nameK, ha, Bool.true_and, List.length_cons]
      rw [Bool.eq_iff_iff]; simp only [Bool.and_eq_true, decide_eq_true_eq]
      constructor
      · rintro ⟨h1, h2, h3⟩; exact ⟨⟨by omega, h2⟩, by omega⟩
      · rintro ⟨⟨h1, h2⟩, h3⟩; exact ⟨by omega, h2, by omega⟩
    · rw [chk_other h, sp_other h]
      by_cases h1 : plainI (c.toNat : Int) = true
      · by_cases h2 : last.length < 16
        · have := chk_sp t (last ++ [c]) n hn (by simp [h1]; simpa using ha) (by simp; omega)
          rw [List.length_append, List.length_singleton] at this
          rw [h1, this]; simp [h2]
        · obtain ⟨s, r, e⟩ := sp_head t (last ++ [c])
          have : nameK (last ++ [c] ++ s) = false := by
            unfold nameK; simp; omega
          rw [e, List.all_cons, this]; simp [h2]
      · obtain ⟨s, r, e⟩ := sp_head t (last ++ [c])
        have h1' : plainI (c.toNat : Int) = false := by simpa using h1
        have : nameK (last ++ [c] ++ s) = false := by
          unfold nameK; simp [h1']
        rw [e, List.all_cons, this]; simp [h1']
theorem isP_sp (l : K) : isP l = ((sp [] l).all nameK && decide ((sp [] l).length ≤ 6)) := by
  have := chk_sp l [] 1 (by omega) rfl (by simp)
  unfold isP
  rw [show ([] : K).length = 0 from rfl] at this
  rw [this]
  congr 1
  rw [Bool.eq_iff_iff]; simp; omega
theorem chk_bound : ∀ (t : K) (n r : Nat), r ≤ 16 → chk t n r = true → t.length + r ≤ 16 + 17 * (6 - n)
  | [], n, r, hr, h => by simp; omega
  | c :: t, n, r, hr, h => by
    unfold chk at h
    by_cases hc : c = 47
    · rw [if_pos hc] at h
      simp at h
      have h1 := chk_bound t (n + 1) 0 (by omega) h.2
      have h2 := chk_count _ _ _ h.2
      simp at *; omega
    · rw [if_neg hc] at h
      simp at h
      have := chk_bound t n (r + 1) (by omega) h.2.2
      simp; omega
theorem isP_size {l : K} (h : isP l = true) : l.length ≤ 102 := by
  have := chk_bound l 1 0 (by omega) h
  omega
theorem refIs_l0 {s : List ByteArray} (hs : ∀ x ∈ s, x.size ≤ 1000) (hl : s.length ≤ 2000) (d : Nat) : ∀ (i k : Nat), s.length - i = d → i ≤ s.length → d + 1000 < k →
    forebearref03_Is.l0 k s i = some (((keys s).drop i).all nameK && decide (s.length ≤ 6)) := by
  induction d with
  | zero =>
    intro i k hd hi hk
    obtain ⟨k, rfl⟩ : ∃ m, k = m + 1 := ⟨k - 1, by omega⟩
    simp only [forebearref03_Is.l0]
    rw [if_neg (by omega), List.drop_eq_nil_of_le (by simp; omega)]
    simp only [List.all_nil, Bool.true_and, Option.some.injEq]
    rw [Bool.eq_iff_iff, decide_eq_true_eq, decide_eq_true_eq]; omega
  | succ d ih =>
    intro i k hd hi hk
    obtain ⟨k, rfl⟩ : ∃ m, k = m + 1 := ⟨k - 1, by omega⟩
    have hlt : i < s.length := by omega
    have hz := hs s[i] (List.getElem_mem hlt)
    simp only [forebearref03_Is.l0]
    rw [if_pos (by omega), if_pos (by omega), rdOf_nat s i hlt, refName_f (by omega) k (by omega), keys_drop hlt, wnat hlt (by omega)]
    simp only [Option.bind_some, List.all_cons]
    by_cases h : nameK (key s[i]) = true
    · rw [if_pos h, h, ih (i + 1) k (by omega) (by omega) (by omega)]; simp
    · have h' : nameK (key s[i]) = false := by simpa using h
      rw [if_neg h, h']; simp
theorem mem_sp : ∀ (t last x : K), x ∈ sp last t → x.length ≤ last.length + t.length
  | [], last, x, h => by simp [sp] at h; subst h; simp
  | c :: t, last, x, h => by
    unfold sp at h
    by_cases hc : c = 47
    · rw [if_pos hc] at h
      rcases List.mem_cons.1 h with rfl | h
      · simp
      · have := mem_sp t [] x h; simp at *; omega
    · rw [if_neg hc] at h
      have := mem_sp t _ x h; simp at *; omega
theorem refIs_f {p : ByteArray} (k : Nat) (hk : 4000 < k) : forebearref03_Is.f k p = some (isP (key p)) := by
  unfold forebearref03_Is.f
  by_cases h : p.size > 102
  · rw [if_pos (by omega)]
    have : isP (key p) = false := by
      cases e : isP (key p) with
      | false => rfl
      | true => have := isP_size e; rw [key_len] at this; omega
    rw [this]
  · rw [if_neg (by omega)]
    obtain ⟨r, h1, h2⟩ := refNames_f (p := p) (by omega) k (by omega)
    have hr : ∀ x ∈ r, x.size ≤ 1000 := by
      intro x hx
      have : key x ∈ sp [] (key p) := by rw [← h2]; exact List.mem_map_of_mem hx
      have := mem_sp _ _ _ this
      rw [key_len, key_len] at this
      simp at this; omega
    have hl : r.length = (key p).count 47 + 1 := by
      have := congrArg List.length h2
      rw [List.length_map, sp_len] at this; exact this
    have hl2 : (key p).count 47 ≤ p.size := by rw [← key_len]; exact List.count_le_length
    rw [h1]
    simp only [Option.bind_some]
    have := refIs_l0 hr (by omega) r.length 0 k (by omega) (by omega) (by omega)
    rw [show ((0 : Nat) : Int) = 0 from rfl] at this
    rw [this, isP_sp, ← h2]; simp
theorem cuts_len2 : ∀ (t pre : K), (cuts pre t).length = t.count 47
  | [], pre => rfl
  | c :: t, pre => by
    unfold cuts
    by_cases h : c = 47
    · rw [if_pos h, h, List.count_cons_self, List.length_cons, cuts_len2 t]
    · rw [if_neg h, List.count_cons_of_ne h, cuts_len2 t]
/-- The names, put together again one by one. -/
def JJ : K → List K → List K
  | _, [] => []
  | pre, n :: r => (pre ++ n) :: JJ (pre ++ n ++ [47]) r
theorem cuts_JJ : ∀ (t pre last : K), cuts (pre ++ last) t ++ [pre ++ last ++ t] = JJ pre (sp last t)
  | [], pre, last => by simp [cuts, sp, JJ]
  | c :: t, pre, last => by
    by_cases h : c = 47
    · subst h
      have := cuts_JJ t (pre ++ last ++ [47]) []
      rw [sp_slash, cuts, if_pos rfl]
      simp only [JJ, ← this]
      simp
    · have := cuts_JJ t pre (last ++ [c])
      rw [sp_other h, cuts, if_neg h, ← this]
      simp
theorem refParts_l0 {s : List ByteArray} (hs : ∀ x ∈ s, x.size ≤ 1000) (hl : s.length ≤ 2000) (d : Nat) : ∀ (i k : Nat) (acc : List ByteArray) (c : ByteArray), s.length - i = d → 1 ≤ i → i ≤ s.length → acc.length ≤ i → c.size ≤ 1001 * i → d < k →
    ∃ r, forebearref03_Parts.l0 k acc s c i = some r ∧ keys r = keys acc ++ JJ (key c ++ [47]) ((keys s).drop i) := by
  induction d with
  | zero =>
    intro i k acc c hd h1 hi ha hc hk
    obtain ⟨k, rfl⟩ : ∃ m, k = m + 1 := ⟨k - 1, by omega⟩
    simp only [forebearref03_Parts.l0]
    rw [if_neg (by omega), List.drop_eq_nil_of_le (by simp; omega)]
    exact ⟨acc, rfl, by simp [JJ]⟩
  | succ d ih =>
    intro i k acc c hd h1 hi ha hc hk
    obtain ⟨k, rfl⟩ : ∃ m, k = m + 1 := ⟨k - 1, by omega⟩
    have hlt : i < s.length := by omega
    have hz := hs s[i] (List.getElem_mem hlt)
    simp only [forebearref03_Parts.l0]
    rw [rdOf_nat s i hlt, if_pos (by omega), if_pos (by omega), if_pos (by omega), if_pos (by omega), if_pos (by omega), if_pos (by omega), wnat hlt (by omega), keys_drop hlt]
    have hsz : (c ++ (⟨#[47]⟩ : ByteArray) ++ s[i]).size = c.size + 1 + s[i].size := by rw [ByteArray.size_append, ByteArray.size_append]; rfl
    obtain ⟨r, g1, g2⟩ := ih (i + 1) k (acc ++ [c ++ (⟨#[47]⟩ : ByteArray) ++ s[i]]) (c ++ (⟨#[47]⟩ : ByteArray) ++ s[i]) (by omega) (by omega) (by omega) (by simp; omega) (by omega) (by omega)
    refine ⟨r, g1, ?_⟩
    rw [g2]
    have hk : key (⟨#[47]⟩ : ByteArray) = [47] := rfl
    simp [JJ, key_append, hk]
theorem refParts_f {p : ByteArray} (k : Nat) (hk : 4000 < k) : ∃ r, forebearref03_Parts.f k p = some r ∧ keys r = partsK (key p) ∧ r.length ≤ 2000 := by
  unfold forebearref03_Parts.f partsK
  rw [refIs_f k hk]
  simp only [Option.bind_some]
  by_cases h : isP (key p) = true
  · have hsz := isP_size h
    rw [key_len] at hsz
    rw [if_pos h, if_pos h]
    obtain ⟨s, h1, h2⟩ := refNames_f (p := p) (by omega) k (by omega)
    rw [h1]
    simp only [Option.bind_some]
    have hr : ∀ x ∈ s, x.size ≤ 1000 := by
      intro x hx
      have : key x ∈ sp [] (key p) := by rw [← h2]; exact List.mem_map_of_mem hx
      have := mem_sp _ _ _ this
      rw [key_len, key_len] at this
      simp at this; omega
    have hl : s.length = (key p).count 47 + 1 := by
      have := congrArg List.length h2
      rw [List.length_map, sp_len] at this; exact this
    have hl2 : (key p).count 47 ≤ p.size := by rw [← key_len]; exact List.count_le_length
    obtain ⟨k, rfl⟩ : ∃ m, k = m + 1 := ⟨k - 1, by omega⟩
    have hlt : 0 < s.length := by omega
    have hz := hr s[0] (List.getElem_mem hlt)
    simp only [forebearref03_Parts.l0]
    have e0 := rdOf_nat s 0 hlt
    rw [show ((0 : Nat) : Int) = 0 from rfl] at e0
    have hsz0 : ((⟨#[]⟩ : ByteArray) ++ s[0]).size = s[0].size := by rw [ByteArray.size_append]; exact Nat.zero_add _
    rw [e0, if_pos (by omega), if_neg (by omega), if_pos (by omega), if_pos (by have : (⟨#[]⟩ : ByteArray).size = 0 := rfl; omega), if_pos (by simp), show wrap64 (0 + 1) = ((1 : Nat) : Int) by unfold wrap64; omega]
    obtain ⟨r, g1, g2⟩ := refParts_l0 hr (by omega) (s.length - 1) 1 k ([] ++ [(⟨#[]⟩ : ByteArray) ++ s[0]]) ((⟨#[]⟩ : ByteArray) ++ s[0]) rfl (by omega) (by omega) (by simp) (by omega) (by omega)
    have hkk : keys r = cuts [] (key p) ++ [key p] := by
      have := cuts_JJ (key p) [] []
      simp only [List.nil_append, List.append_nil] at this
      rw [this, ← h2, g2]
      have e1 : keys s = key s[0] :: (keys s).drop 1 := by
        have := keys_drop hlt
        simpa using this
      rw [e1]
      have : key ((⟨#[]⟩ : ByteArray) ++ s[0]) = key s[0] := by rw [key_append]; rfl
      simp [JJ, this]
    refine ⟨r, g1, hkk, ?_⟩
    have := congrArg List.length hkk
    rw [List.length_map, List.length_append, cuts_len2] at this
    simp at this; omega
  · have h' : isP (key p) = false := by simpa using h
    rw [if_neg h, if_neg h]
    exact ⟨[], rfl, rfl, by simp⟩
theorem under_f (p d : ByteArray) (hp : p.size ≤ 140737488351232) : path_Under.f p d = some (under (key p) (key d)) := by
  unfold path_Under.f strings_CutPrefix.f stringslite_CutPrefix.f stringslite_HasPrefix.f
  by_cases h : d.size ≤ p.size
  · rw [if_pos (by omega), if_pos (by omega), if_pos (by omega)]
    simp only [Option.bind_some, Int.toNat_natCast, toList_key, key_extract]
    have hl := key_len d
    by_cases e : (key p).take d.size = key d
    · rw [if_pos (by simpa using e), if_pos (by omega), if_pos (by omega)]
      simp only [Option.bind_some, if_true, toList_key, key_extract_end]
      unfold under
      rw [hl, e]
      by_cases h0 : d.size = p.size
      · have hz : (key p).drop d.size = [] := List.drop_eq_nil_of_le (by rw [key_len]; omega)
        rw [hz, if_pos rfl]; simp
      · obtain ⟨c, hb, hg, hdr⟩ := key_drop (p := p) (i := d.size) (by omega)
        rw [hdr, if_neg (by simp)]
        have hz : (p.extract d.size p.size).size = p.size - d.size := by simp
        rw [if_pos (by rw [hz]; omega)]
        have hb' : bt (p.extract d.size p.size) 0 = (c.toNat : Int) := by
          obtain ⟨c', hb', hg', -⟩ := key_drop (p := p.extract d.size p.size) (i := 0) (by rw [hz]; omega)
          rw [key_extract_end, hdr] at hg'
          simp at hg'
          subst hg'
          exact hb'
        rw [hb']
        simp only [beq_self_eq_true, Bool.true_and, Option.some.injEq]
        rw [Bool.eq_iff_iff]
        simpa using slash_iff c
    · rw [if_neg (by simpa using e)]
      simp only [Option.bind_some, Bool.false_eq_true, if_false]
      have : under (key p) (key d) = false := by unfold under; rw [hl]; simp [e]
      rw [this]
  · rw [if_neg (by omega)]
    simp only [Option.bind_some, Bool.false_eq_true, if_false]
    have : under (key p) (key d) = false := by
      unfold under
      have : ((key p).take (key d).length == key d) = false := by
        apply beq_eq_false_iff_ne.2
        intro e
        have := congrArg List.length e
        rw [List.length_take, key_len, key_len] at this
        omega
      rw [this]; rfl
    rw [this]
theorem has_l0 {q : ByteArray} (hq : q.size ≤ 140737488351232) {s : List ByteArray} (hs : s.length ≤ 140737488351232) (z : List ByteArray) (d : Nat) : ∀ (i k : Nat), s.length - i = d → i ≤ s.length → d < k →
    path_Set_Has.l0 k q s s.length i z = some (((keys s).drop i).any (under (key q)) || z.isEmpty) := by
  induction d with
  | zero =>
    intro i k hd hi hk
    obtain ⟨k, rfl⟩ : ∃ m, k = m + 1 := ⟨k - 1, by omega⟩
    simp only [path_Set_Has.l0]
    rw [if_neg (by omega), List.drop_eq_nil_of_le (by simp; omega)]
    cases z <;> simp <;> omega
  | succ d ih =>
    intro i k hd hi hk
    obtain ⟨k, rfl⟩ : ∃ m, k = m + 1 := ⟨k - 1, by omega⟩
    have hlt : i < s.length := by omega
    simp only [path_Set_Has.l0]
    rw [if_pos (by omega), if_pos (by omega), if_pos (by omega), rdOf_nat s i hlt, under_f _ _ hq, keys_drop hlt]
    simp only [Option.bind_some, List.any_cons]
    by_cases h : under (key q) (key s[i]) = true
    · rw [if_pos h, h]; rfl
    · rw [if_neg h, wnat hlt (by omega), ih (i + 1) k (by omega) (by omega) (by omega)]
      simp [h]
theorem has_f {q : ByteArray} (hq : q.size ≤ 140737488351232) {s : List ByteArray} (hs : s.length ≤ 140737488351232) (k : Nat) (h1 : q.size < k) (h2 : s.length < k) :
    path_Set_Has.f k s q = some (hasS (keys s) (key q)) := by
  unfold path_Set_Has.f hasS
  rw [check_f hq k h1]
  simp only [Option.bind_some]
  by_cases h : isP (key q) = true
  · have := has_l0 hq hs s s.length 0 k (by omega) (by omega) h2
    simp only [h, code, cond_true, if_true, Bool.true_and]
    rw [show ((0 : Nat) : Int) = 0 from rfl] at this
    rw [this]; simp
  · simp [h, code]
theorem same_l0 {a b : List ByteArray} (ha : a.length ≤ 140737488351232) (hab : a.length = b.length) (d : Nat) : ∀ (i k : Nat), a.length - i = d → i ≤ a.length → d < k →
    forebearref03_Same.l0 k a b i = some (decide ((keys a).drop i = (keys b).drop i)) := by
  induction d with
  | zero =>
    intro i k hd hi hk
    obtain ⟨k, rfl⟩ : ∃ m, k = m + 1 := ⟨k - 1, by omega⟩
    simp only [forebearref03_Same.l0]
    rw [if_neg (by omega), List.drop_eq_nil_of_le (by simp; omega), List.drop_eq_nil_of_le (by simp; omega)]; simp
  | succ d ih =>
    intro i k hd hi hk
    obtain ⟨k, rfl⟩ : ∃ m, k = m + 1 := ⟨k - 1, by omega⟩
    have hlt : i < a.length := by omega
    have hlt' : i < b.length := by omega
    simp only [forebearref03_Same.l0]
    rw [if_pos (by omega), if_pos (by omega), if_pos (by omega), rdOf_nat a i hlt, rdOf_nat b i hlt', keys_drop hlt, keys_drop hlt', toList_key, toList_key]
    by_cases h : key a[i] = key b[i]
    · rw [if_pos h, wnat hlt (by omega), ih (i + 1) k (by omega) (by omega) (by omega)]
      simp [h]
    · rw [if_neg h]; simp [h]
theorem same_f {a b : List ByteArray} (ha : a.length ≤ 140737488351232) (k : Nat) (hk : a.length < k) : forebearref03_Same.f k a b = some (decide (keys a = keys b)) := by
  unfold forebearref03_Same.f
  by_cases h : a.length = b.length
  · have := same_l0 ha h a.length 0 k (by omega) (by omega) hk
    rw [if_pos (by omega)]
    rw [show ((0 : Nat) : Int) = 0 from rfl] at this
    rw [this]; simp
  · rw [if_neg (by omega)]
    have : keys a ≠ keys b := fun e => h (by have := congrArg List.length e; simpa using this)
    simp [this]
def be8 (v : Int) : List Int := [(shr .u64 v 56) % 256, (shr .u64 v 48) % 256, (shr .u64 v 40) % 256, (shr .u64 v 32) % 256, (shr .u64 v 24) % 256, (shr .u64 v 16) % 256, (shr .u64 v 8) % 256, (shr .u64 v 0) % 256]
def entB (x : S38) : List Int := (x.f0.size : Int) % 256 :: (bytesOf x.f0 ++ be8 x.f1)
def keyE (x : S38) : K := key x.f0
theorem parts_ev (p : ByteArray) (hp : p.size ≤ 140737488351232) : ∃ ps, keys ps = partsK (key p) ∧ Ev (fun k => path_Parts.f k p) ps := by
  obtain ⟨r, h1, h2⟩ := parts_f hp (p.size + 1) (by omega)
  refine ⟨r, h2, p.size + 1, fun k hk => ?_⟩
  obtain ⟨r', h1', h2'⟩ := parts_f hp k (by omega)
  have : r' = r := by
    have e : keys r' = keys r := by rw [h2, h2']
    exact (List.map_inj_right (fun _ _ h => key_inj h)).1 e
  rw [← this]; exact h1'
theorem partsK_len (l : K) : (partsK l).length ≤ 6 := by
  unfold partsK
  split
  · rename_i h
    have := chk_count l 1 0 h
    rw [List.length_append, cuts_len2]; simp; omega
  · simp
abbrev ks (l : List S38) : List K := l.map keyE
/-- d is a proper part of p. -/
def Part (p d : K) : Prop := ∃ b, p = d ++ 47 :: b
def okT (l : List S38) : Prop := Rise (ks l) ∧ ∀ x ∈ l, ∀ d, Part (keyE x) d → d ∉ ks l
noncomputable def okB (l : List S38) : Bool := @decide (okT l) (Classical.propDecidable _)
noncomputable def treeT (l : List S38) : List Int × Int :=
  if 64 < l.length then ([], 4) else if l.all (fun x => isP (keyE x)) then cond (okB l) (l.flatMap entB, 0) ([], 12) else ([], 2)
def findE (a : ByteArray) : List S38 → Int × Bool
  | [] => (0, false)
  | x :: l => if x.f0.toList = a.toList then (x.f1, true) else findE a l
def Bytes (l : List Int) : Prop := ∀ y ∈ l, 0 ≤ y ∧ y < 256
theorem Bytes.take {a : List Int} (ha : Bytes a) (n : Nat) : Bytes (a.take n) := fun y hy => ha y (List.mem_of_mem_take hy)
theorem Bytes.drop {a : List Int} (ha : Bytes a) (n : Nat) : Bytes (a.drop n) := fun y hy => ha y (List.mem_of_mem_drop hy)
def keyC (c : S51) : K := key c.f0
def blob (l : List S38) (p : ByteArray) : Int := (findE p l).1
theorem blob_head (x : S38) (l : List S38) (p : ByteArray) (h : key x.f0 = key p) : blob (x :: l) p = x.f1 := by
  unfold blob findE
  rw [if_pos (by rw [toList_key, toList_key]; exact h)]
theorem blob_tail (x : S38) (l : List S38) (p : ByteArray) (h : key x.f0 ≠ key p) : blob (x :: l) p = blob l p := by
  unfold blob
  rw [findE, if_neg (by rw [toList_key, toList_key]; exact h)]
theorem blob_none : ∀ (l : List S38) (p : ByteArray), key p ∉ ks l → blob l p = 0
  | [], p, _ => rfl
  | x :: l, p, h => by
    rw [blob_tail _ _ _ (fun e => h (by simp [keyE, e]))]
    exact blob_none l p (fun hm => h (List.mem_cons_of_mem _ hm))
/-- What mg tells: each path once, rising, with its two blobs. -/
structure MgS (m : List S51) (a b : List S38) : Prop where
  rise : m.Pairwise fun c d => keyC c < keyC d
  of : ∀ c ∈ m, (keyC c ∈ ks a ∨ keyC c ∈ ks b) ∧ c.f1 = blob a c.f0 ∧ c.f2 = blob b c.f0
  all : ∀ k, (k ∈ ks a ∨ k ∈ ks b) → ∃ c ∈ m, keyC c = k
theorem MgS.nil : MgS [] [] [] := ⟨List.Pairwise.nil, fun c hc => by simp at hc, fun k hk => by simp at hk⟩
theorem MgS.left {m : List S51} {x : S38} {a b : List S38} (h : MgS m a b) (ha : ∀ k ∈ ks a, key x.f0 < k) (hb : ∀ k ∈ ks b, key x.f0 < k) : MgS (⟨x.f0, x.f1, 0⟩ :: m) (x :: a) b := by
  have hgt : ∀ c ∈ m, key x.f0 < keyC c := fun c hc => (h.of c hc).1.elim (ha _) (hb _)
  refine ⟨List.pairwise_cons.mpr ⟨fun c hc => hgt c hc, h.rise⟩, fun c hc => ?_, fun k hk => ?_⟩
  · rcases List.mem_cons.mp hc with rfl | hc
    · exact ⟨Or.inl (by simp [keyC, keyE]), (blob_head x a x.f0 rfl).symm, (blob_none b x.f0 (fun hm => lt_irr _ (hb _ hm))).symm⟩
    · obtain ⟨h1, h2, h3⟩ := h.of c hc
      refine ⟨h1.elim (fun h => Or.inl (List.mem_cons_of_mem _ h)) Or.inr, ?_, h3⟩
      rw [blob_tail x a c.f0 (fun e => lt_irr (keyC c) (by have := hgt c hc; rw [e] at this; exact this))]
      exact h2
  · have hk : k = key x.f0 ∨ (k ∈ ks a ∨ k ∈ ks b) := by
      rcases hk with hk | hk
      · rcases List.mem_cons.mp (show k ∈ key x.f0 :: ks a from hk) with e | e
        · exact Or.inl e
        · exact Or.inr (Or.inl e)
      · exact Or.inr (Or.inr hk)
    rcases hk with rfl | hk
    · exact ⟨_, List.mem_cons_self .., rfl⟩
    · obtain ⟨c, hc, e⟩ := h.all k hk
      exact ⟨c, List.mem_cons_of_mem _ hc, e⟩
theorem MgS.right {m : List S51} {y : S38} {a b : List S38} (h : MgS m a b) (ha : ∀ k ∈ ks a, key y.f0 < k) (hb : ∀ k ∈ ks b, key y.f0 < k) : MgS (⟨y.f0, 0, y.f1⟩ :: m) a (y :: b) := by
  have hgt : ∀ c ∈ m, key y.f0 < keyC c := fun c hc => (h.of c hc).1.elim (ha _) (hb _)
  refine ⟨List.pairwise_cons.mpr ⟨fun c hc => hgt c hc, h.rise⟩, fun c hc => ?_, fun k hk => ?_⟩
  · rcases List.mem_cons.mp hc with rfl | hc
    · exact ⟨Or.inr (by simp [keyC, keyE]), (blob_none a y.f0 (fun hm => lt_irr _ (ha _ hm))).symm, (blob_head y b y.f0 rfl).symm⟩
    · obtain ⟨h1, h2, h3⟩ := h.of c hc
      refine ⟨h1.elim Or.inl (fun h => Or.inr (List.mem_cons_of_mem _ h)), h2, ?_⟩
      rw [blob_tail y b c.f0 (fun e => lt_irr (keyC c) (by have := hgt c hc; rw [e] at this; exact this))]
      exact h3
  · have hk : k = key y.f0 ∨ (k ∈ ks a ∨ k ∈ ks b) := by
      rcases hk with hk | hk
      · exact Or.inr (Or.inl hk)
      · rcases List.mem_cons.mp (show k ∈ key y.f0 :: ks b from hk) with e | e
        · exact Or.inl e
        · exact Or.inr (Or.inr e)
    rcases hk with rfl | hk
    · exact ⟨_, List.mem_cons_self .., rfl⟩
    · obtain ⟨c, hc, e⟩ := h.all k hk
      exact ⟨c, List.mem_cons_of_mem _ hc, e⟩
def Nz (l : List S38) : Prop := ∀ x ∈ l, x.f1 ≠ 0
/-- A tree that is right. -/
structure OkL (l : List S38) : Prop where
  len : l.length ≤ 64
  paths : ∀ x ∈ l, isP (keyE x) = true
  rise : Rise (ks l)
  nz : Nz l
  ok : (treeT l).2 = 0
theorem OkL.size {l : List S38} (h : OkL l) : ∀ x ∈ l, x.f0.size ≤ 102 := fun x hx => by have := isP_size (h.paths x hx); rwa [keyE, key_len] at this
theorem has_ev (lim : List ByteArray) (p : ByteArray) (hp : p.size ≤ 140737488351232) (hl : lim.length ≤ 1000) : Ev (fun k => path_Set_Has.f k lim p) (hasS (keys lim) (key p)) := ⟨p.size + lim.length + 1, fun k hk => has_f hp (by omega) k (by omega) (by omega)⟩
theorem dgo_ev (lim : List ByteArray) (hl : lim.length ≤ 1000) : ∀ (m out : List S51), (∀ c ∈ m, c.f0.size ≤ 140737488351232) → out.length + m.length ≤ 1000000 → Ev (fun k => dgo k lim m out) (out ++ m.filter fun c => decide (c.f1 ≠ c.f2) && hasS (keys lim) (key c.f0))
  | [], out, _, _ => by simpa using Ev.congr (fun k => by rw [dgo]) (Ev.now out)
  | c :: m, out, hs, hn => by
    have hs' : ∀ c ∈ m, c.f0.size ≤ 140737488351232 := fun x hx => hs x (List.mem_cons_of_mem _ hx)
    simp only [List.length_cons] at hn
    by_cases e : c.f1 = c.f2
    · rw [List.filter_cons_of_neg (by simp [e])]
      exact Ev.congr (fun k => by rw [dgo, if_pos e]) (dgo_ev lim hl m out hs' (by omega))
    · refine Ev.congr (fun k => by rw [dgo, if_neg e]) (Ev.bind (has_ev lim c.f0 (hs c (List.mem_cons_self ..)) hl) ?_)
      cases h : hasS (keys lim) (key c.f0)
      · rw [List.filter_cons_of_neg (by simp [h])]
        exact Ev.congr (fun k => if_neg (by simp)) (dgo_ev lim hl m out hs' (by omega))
      · rw [List.filter_cons_of_pos (by simp [h, e])]
        refine Ev.congr (fun k => by rw [if_pos rfl, if_pos (by omega)]) ?_
        have := dgo_ev lim hl m (out ++ [c]) hs' (by simp; omega)
        simpa using this
theorem with_ev (s : List ByteArray) (p : ByteArray) (hs : s.length < 1000000) (hr : Rise (keys s)) : ∃ r, Ev (fun k => forebearref03_With.f k s p) r ∧ Rise (keys r) ∧ (∀ x, x ∈ keys r ↔ x = key p ∨ x ∈ keys s) ∧ r.length ≤ s.length + 1 := by
  obtain ⟨r, h1, h2, h3, h4⟩ := refWith_f hs p (s.length + 1) (by omega) hr
  refine ⟨r, ⟨s.length + 1, fun k hk => ?_⟩, h2, h3, h4⟩
  obtain ⟨r', h1', h2', h3', h4'⟩ := refWith_f hs p k (by omega) hr
  show forebearref03_With.f k s p = some r
  rw [h1']
  have : keys r' = keys r := rise_eq h2' h2 (fun x => (h3' x).trans (h3 x).symm)
  have : r' = r := by
    have e : ∀ (u v : List ByteArray), keys u = keys v → u = v := fun u v h => (List.map_inj_right (fun a b h => key_inj h)).mp h
    exact e _ _ this
  rw [this]
theorem keys_inj {u v : List ByteArray} (h : keys u = keys v) : u = v := (List.map_inj_right (fun a b h => key_inj h)).mp h
def d55 (c : S51) : S55 := ⟨c.f0, c.f1, c.f2⟩
theorem rd51 {l : List S51} {i : Nat} (h : i < l.length) : rd_T51 l (i : Int) = l[i] := by
  simp [rd_T51, List.getD_eq_getElem?_getD, h]
theorem rd55 {l : List S55} {i : Nat} (h : i < l.length) : rd_T55 l (i : Int) = l[i] := by
  simp [rd_T55, List.getD_eq_getElem?_getD, h]
def partsC (c : S51) : List K := partsK (key c.f0)
theorem sort_ev (l : List ByteArray) (h : l.length < 4000000000000) : Ev (fun _ => path_Sort.f l) (sd l) := ⟨0, fun _ _ => sort_f l h⟩
theorem touched_l0 (L : List S51) (hL : L.length ≤ 200) (hs : ∀ c ∈ L, c.f0.size ≤ 140737488351232) : ∀ (d i : Nat) (acc : List ByteArray), i + d = L.length → acc.length ≤ 6 * i →
    ∃ ps, Ev (fun k => tree_Touched.l0 k acc L (L.length : Int) (i : Int)) (sd ps) ∧ keys ps = keys acc ++ (L.drop i).flatMap partsC := by
  intro d
  induction d with
  | zero =>
    intro i acc hi ha
    refine ⟨acc, Ev.step (f := fun k => (path_Sort.f acc).bind fun t => some t) (fun k => ?_) (Ev.bind (sort_ev acc (by omega)) (Ev.now _)), ?_⟩
    · simp only [tree_Touched.l0]
      rw [if_neg (by omega)]
    · rw [List.drop_eq_nil_of_le (by omega)]; simp
  | succ d ih =>
    intro i acc hi ha
    have hil : i < L.length := by omega
    obtain ⟨ps1, hk, e1⟩ := parts_ev L[i].f0 (hs _ (List.getElem_mem hil))
    have hl1 : ps1.length ≤ 6 := by
      have := partsK_len (key L[i].f0)
      rw [← hk, keys, List.length_map] at this
      exact this
    obtain ⟨ps, e2, hk2⟩ := ih (i + 1) (acc ++ ps1) (by omega) (by simp; omega)
    refine ⟨ps, Ev.step (f := fun k => (path_Parts.f k L[i].f0).bind fun t161 => (if acc.length + t161.length < 8796093022208 then (tree_Touched.l0 k (acc ++ t161) L (L.length : Int) ((i + 1 : Nat) : Int)) else (none))) (fun k => ?_) (Ev.bind e1 (Ev.congr (fun k => if_pos (by omega)) e2)), ?_⟩
    · simp only [tree_Touched.l0]
      rw [if_pos (by omega), if_pos (by omega), if_pos (by omega), rd51 hil, wnat hil (by omega)]
    · rw [hk2, List.drop_eq_getElem_cons hil, List.flatMap_cons]
      simp [keys, List.append_assoc, partsC, ← hk]
theorem touched_ev (L : List S51) (hL : L.length ≤ 200) (hs : ∀ c ∈ L, c.f0.size ≤ 140737488351232) : ∃ ps, Ev (fun k => tree_Touched.f k L) (sd ps) ∧ keys ps = L.flatMap partsC := by
  obtain ⟨ps, e, hk⟩ := touched_l0 L hL hs L.length 0 [] (by omega) (by simp)
  exact ⟨ps, by simpa [tree_Touched.f] using e, by simpa using hk⟩
def Told (L : List S51) (i : Nat) (s r : List ByteArray) : Prop := Rise (keys r) ∧ (∀ x, x ∈ keys r ↔ x ∈ keys s ∨ ∃ c ∈ L.drop i, x ∈ partsC c) ∧ r.length ≤ 2000
theorem reftouched_l1 (L : List S51) (i : Nat) (s0 : List ByteArray) (ps : List ByteArray) (hp : ps.length ≤ 6) : ∀ (d j : Nat) (s : List ByteArray), j + d = ps.length → Rise (keys s) → s.length ≤ s0.length + j → s0.length ≤ 1200 → (∀ x, x ∈ keys s ↔ x ∈ keys s0 ∨ x ∈ keys (ps.take j)) → (h : i < L.length) →
    (∀ s', Rise (keys s') → s'.length ≤ s0.length + 6 → (∀ x, x ∈ keys s' ↔ x ∈ keys s0 ∨ x ∈ keys ps) → ∃ r, Ev (fun k => forebearref10_Touched.l0 k (L.map d55) s' ((i + 1 : Nat) : Int)) r ∧ Told L (i + 1) s' r) →
    L.length ≤ 200 → ∃ s' r, (∀ x, x ∈ keys s' ↔ x ∈ keys s0 ∨ x ∈ keys ps) ∧ Ev (fun k => forebearref10_Touched.l1 k (L.map d55) s (i : Int) ps (j : Int)) r ∧ Told L (i + 1) s' r := by
  intro d
  induction d with
  | zero =>
    intro j s hj hr hn h0 hm hil hk hL
    obtain ⟨r, e, ht⟩ := hk s hr (by omega) (fun x => by rw [hm, List.take_of_length_le (by omega)])
    refine ⟨s, r, fun x => by rw [hm, List.take_of_length_le (by omega)], Ev.step (f := fun k => forebearref10_Touched.l0 k (L.map d55) s ((i + 1 : Nat) : Int)) (fun k => ?_) e, ht⟩
    simp only [forebearref10_Touched.l1]
    rw [if_neg (by omega), wnat hil (by omega)]
  | succ d ih =>
    intro j s hj hr hn h0 hm hil hk hL
    have hjl : j < ps.length := by omega
    obtain ⟨s1, e1, hr1, hm1, hn1⟩ := with_ev s ps[j] (by omega) hr
    obtain ⟨s', r, hs', e2, ht⟩ := ih (j + 1) s1 (by omega) hr1 (by omega) h0 (fun x => by
      rw [hm1, hm]
      have : ps.take (j + 1) = ps.take j ++ [ps[j]] := by rw [List.take_add_one, List.getElem?_eq_getElem hjl]; rfl
      rw [this]
      simp only [keys, List.map_append, List.mem_append, List.map_cons, List.map_nil, List.mem_singleton]
      constructor
      · rintro (h | h | h)
        · exact Or.inr (Or.inr h)
        · exact Or.inl h
        · exact Or.inr (Or.inl h)
      · rintro (h | h | h)
        · exact Or.inr (Or.inl h)
        · exact Or.inr (Or.inr h)
        · exact Or.inl h) hil hk hL
    refine ⟨s', r, hs', Ev.step (f := fun k => (forebearref03_With.f k s ps[j]).bind fun t => forebearref10_Touched.l1 k (L.map d55) t (i : Int) ps ((j + 1 : Nat) : Int)) (fun k => ?_) (Ev.bind e1 e2), ht⟩
    simp only [forebearref10_Touched.l1]
    rw [if_pos (by omega), if_pos (by omega), rdOf_nat ps j hjl, wnat hjl (by omega)]
theorem refparts_ev (p : ByteArray) : ∃ ps, keys ps = partsK (key p) ∧ Ev (fun k => forebearref03_Parts.f k p) ps := by
  obtain ⟨r, h1, h2, _⟩ := refParts_f (p := p) 4001 (by omega)
  refine ⟨r, h2, 4001, fun k hk => ?_⟩
  obtain ⟨r', h1', h2', _⟩ := refParts_f (p := p) k (by omega)
  show forebearref03_Parts.f k p = some r
  rw [h1', keys_inj (h2'.trans h2.symm)]
theorem reftouched_l0 (L : List S51) (hL : L.length ≤ 200) : ∀ (d i : Nat) (s : List ByteArray), i + d = L.length → Rise (keys s) → s.length ≤ 6 * i →
    ∃ r, Ev (fun k => forebearref10_Touched.l0 k (L.map d55) s (i : Int)) r ∧ Told L i s r := by
  intro d
  induction d with
  | zero =>
    intro i s hi hr hn
    refine ⟨s, Ev.step (f := fun _ => some s) (fun k => ?_) (Ev.now _), hr, fun x => ?_, by omega⟩
    · simp only [forebearref10_Touched.l0]
      rw [if_neg (by rw [List.length_map]; omega)]
    · rw [List.drop_eq_nil_of_le (by omega)]; simp
  | succ d ih =>
    intro i s hi hr hn
    have hil : i < L.length := by omega
    obtain ⟨ps, hk, e1⟩ := refparts_ev L[i].f0
    have hl1 : ps.length ≤ 6 := by
      have := partsK_len (key L[i].f0)
      rw [← hk, keys, List.length_map] at this
      exact this
    obtain ⟨s', r, hs', e2, ht⟩ := reftouched_l1 L i s ps hl1 ps.length 0 s (by omega) hr (by omega) (by omega) (fun x => by simp) hil (fun s' hr' hn' hm' => ih (i + 1) s' (by omega) hr' (by omega)) hL
    refine ⟨r, Ev.step (f := fun k => (forebearref03_Parts.f k L[i].f0).bind fun t => forebearref10_Touched.l1 k (L.map d55) s (i : Int) t ((0 : Nat) : Int)) (fun k => ?_) (Ev.bind e1 e2), ht.1, fun x => ?_, ht.2.2⟩
    · simp only [forebearref10_Touched.l0]
      rw [if_pos (by rw [List.length_map]; omega), if_pos (by omega), rd55 (by rw [List.length_map]; exact hil), List.getElem_map]
      rfl
    · rw [ht.2.1, hs', List.drop_eq_getElem_cons hil, hk]
      simp only [List.mem_cons, partsC, exists_eq_or_imp]
      constructor
      · rintro ((h | h) | h)
        · exact Or.inl h
        · exact Or.inr (Or.inl h)
        · exact Or.inr (Or.inr h)
      · rintro (h | h | h)
        · exact Or.inl (Or.inl h)
        · exact Or.inl (Or.inr h)
        · exact Or.inr h
theorem reftouched_ev (L : List S51) (hL : L.length ≤ 200) {ps : List ByteArray} (hps : keys ps = L.flatMap partsC) : Ev (fun k => forebearref10_Touched.f k (L.map d55)) (sd ps) := by
  obtain ⟨r, e, h1, h2, _⟩ := reftouched_l0 L hL L.length 0 [] (by omega) List.Pairwise.nil (by simp)
  have : r = sd ps := by
    apply keys_inj
    refine rise_eq h1 (sd_rise ps) (fun x => ?_)
    rw [h2, sd_mem, hps]
    simp
  rw [← this]
  simpa [forebearref10_Touched.f] using e
def awA : List S38 := [⟨(⟨#[120]⟩ : ByteArray), 1⟩, ⟨(⟨#[121]⟩ : ByteArray), 2⟩]
def awB : List S38 := [⟨(⟨#[121]⟩ : ByteArray), 3⟩, ⟨(⟨#[122]⟩ : ByteArray), 1⟩]
def awD : List S51 := [⟨(⟨#[120]⟩ : ByteArray), 1, 0⟩, ⟨(⟨#[121]⟩ : ByteArray), 2, 3⟩, ⟨(⟨#[122]⟩ : ByteArray), 0, 1⟩]
theorem aw_mg : mg 4 awA awB = awD := by
  have h1 : pathLt (⟨#[120]⟩ : ByteArray) ⟨#[121]⟩ = true := by decide +kernel
  have h2 : pathLt (⟨#[121]⟩ : ByteArray) ⟨#[121]⟩ = false := by decide +kernel
  simp [mg, awA, awB, awD, h1, h2]
theorem aw_diff : Ev (fun k => tree_Diff.f k awA awB []) awD := by
  refine Ev.congr (fun k => by unfold tree_Diff.f; rw [show awA.length + awB.length = 4 from rfl, aw_mg]) ?_
  have := dgo_ev [] (by simp) awD [] (fun c hc => ?_) (by simp [awD])
  · have e : awD.filter (fun c => decide (c.f1 ≠ c.f2) && hasS (keys []) (key c.f0)) = awD := by
      have h1 : hasS [] (key (⟨#[120]⟩ : ByteArray)) = true := by decide +kernel
      have h2 : hasS [] (key (⟨#[121]⟩ : ByteArray)) = true := by decide +kernel
      have h3 : hasS [] (key (⟨#[122]⟩ : ByteArray)) = true := by decide +kernel
      simp [awD, h1, h2, h3]
    rw [e] at this
    simpa using this
  · simp [awD] at hc
    rcases hc with rfl | rfl | rfl <;> decide
theorem aw_find (l : List S38) (p : ByteArray) (r : Int × Bool) (h : object_Find.f 40 l p = some r) : Ev (fun k => object_Find.f k l p) r := Ev.of (fun k => object_Find.mono l p k) h
theorem aw_moves : tree_Moves.f 0 awA awB = some [⟨(⟨#[120]⟩ : ByteArray), (⟨#[122]⟩ : ByteArray)⟩] := by
  unfold tree_Moves.f
  rw [if_pos ⟨by simp [awA, awB], by decide +kernel, by decide +kernel⟩]
  unfold movesOf
  rw [show awA.length + awB.length = 4 from rfl, aw_mg]
  simp [awD, mv2, addG]
theorem aw_origin : Ev (fun k => tree_Origin.f k awA awB (⟨#[122]⟩ : ByteArray)) ((⟨#[120]⟩ : ByteArray), true) := by
  refine Ev.congr (fun k => by unfold tree_Origin.f; rfl) (Ev.bind (aw_find awB _ (1, true) (by decide +kernel)) ?_)
  refine Ev.congr (fun k => if_pos rfl) (Ev.bind (aw_find awA _ (0, false) (by decide +kernel)) ?_)
  refine Ev.congr (fun k => if_neg (by simp)) (Ev.bind (⟨0, fun k _ => aw_moves⟩ : Ev (fun k => tree_Moves.f k awA awB) _) ?_)
  exact Ev.of (fun k => (tree_Origin.mono_l k) _ _ _ _) (k := 5) (by decide +kernel)
theorem aw_apply : Ev (fun k => tree_Apply.f k awA [⟨(⟨#[120]⟩ : ByteArray), 1, 0⟩]) ([⟨(⟨#[121]⟩ : ByteArray), 2⟩], 0) := by
  refine Ev.congr (fun k => by unfold tree_Apply.f; rw [if_pos ⟨by simp [awA], by decide +kernel, by decide +kernel⟩, ap0]) (Ev.bind (aw_find awA _ (1, true) (by decide +kernel)) ?_)
  refine Ev.congr (fun k => by rw [if_neg (by decide), if_neg (by simp), if_neg (by simp), ap0]) ?_
  have e : ap1 [(⟨#[120]⟩ : ByteArray)] awA [] = [⟨(⟨#[121]⟩ : ByteArray), 2⟩] := by
    have h1 : doneB [(⟨#[120]⟩ : ByteArray)] (⟨#[120]⟩ : ByteArray) = true := by decide +kernel
    have h2 : doneB [(⟨#[120]⟩ : ByteArray)] (⟨#[121]⟩ : ByteArray) = false := by decide +kernel
    simp [ap1, awA, h1, h2]
  rw [e]
  have es : srtE [(⟨(⟨#[121]⟩ : ByteArray), 2⟩ : S38)] = [⟨(⟨#[121]⟩ : ByteArray), 2⟩] := by simp [srtE]
  obtain ⟨r, hr, h0⟩ : ∃ r, object_Tree.f 60 [(⟨(⟨#[121]⟩ : ByteArray), 2⟩ : S38)] = some r ∧ r.2 = 0 := by
    have : (object_Tree.f 60 [(⟨(⟨#[121]⟩ : ByteArray), 2⟩ : S38)]).map (·.2) = some 0 := by decide +kernel
    obtain ⟨r, h1, h2⟩ := Option.map_eq_some_iff.mp this
    exact ⟨r, h1, h2⟩
  refine Ev.congr (fun k => by unfold ap2; rw [if_pos (by simp), es]) (Ev.bind (Ev.of (fun k => object_Tree.mono _ k) hr) ?_)
  exact Ev.congr (fun k => if_neg (by simpa using h0)) (Ev.now _)
theorem aw_touched : ∃ r : List ByteArray, Ev (fun k => tree_Touched.f k [⟨(⟨#[112, 47, 113]⟩ : ByteArray), 0, 0⟩]) r ∧ r.length = 2 := by
  obtain ⟨ps, e, hk⟩ := touched_ev [⟨(⟨#[112, 47, 113]⟩ : ByteArray), 0, 0⟩] (by simp) (fun c hc => by simp at hc; subst hc; decide)
  refine ⟨_, e, ?_⟩
  have hp : [(⟨(⟨#[112, 47, 113]⟩ : ByteArray), 0, 0⟩ : S51)].flatMap partsC = [[112], [112, 47, 113]] := by decide +kernel
  rw [hp] at hk
  have : keys (sd ps) = [[112], [112, 47, 113]] := rise_eq (sd_rise ps) (by unfold Rise; decide +kernel) (fun x => by rw [sd_mem, hk])
  have := congrArg List.length this
  simpa [keys] using this
theorem aw_same : Ev (fun k => tree_Same.f k awA awB []) false :=
  Ev.congr (fun k => by unfold tree_Same.f; rfl) (Ev.bind aw_diff (Ev.now _))
theorem awake_ev : Ev (fun k => forebearlaw10_awake.f k) true := by
  obtain ⟨r, er, hr⟩ := aw_touched
  unfold forebearlaw10_awake.f
  refine Ev.bind (Ev.now awA) (Ev.bind (Ev.now awB) (Ev.bind aw_diff (Ev.bind aw_origin (Ev.bind aw_apply ?_))))
  refine Ev.congr (fun k => by rw [if_pos (by decide), if_pos (by decide), if_pos (by decide +kernel), if_pos (by decide), if_pos (by decide +kernel), if_pos rfl, if_pos (by decide +kernel)]) (Ev.bind er ?_)
  refine Ev.congr (f := fun k => (tree_Same.f k awA awB []).bind fun t205 => some !t205) (fun k => ?_) (Ev.bind aw_same (Ev.now _))
  rw [if_pos (by omega), if_pos rfl, if_pos (by decide)]
def e55 (c : S51) : S55 := ⟨c.f0, 0, 0⟩
def p51 (c : S51) : S51 := ⟨c.f0, 0, 0⟩
theorem touches_l0 (l : List S51) (hl : l.length ≤ 200) (hs : ∀ c ∈ l, c.f0.size ≤ 140737488351232) : ∀ (d i : Nat), i + d = l.length → Ev (fun k => forebearlaw10_TreeTouches.l0 k l ((l.take i).map e55) (i : Int)) true := by
  intro d
  induction d with
  | zero =>
    intro i hi
    obtain ⟨ps, e1, hk⟩ := touched_ev l hl hs
    have e2 := reftouched_ev (l.map p51) (by simpa using hl) (ps := ps) (by rw [hk, List.flatMap_map]; rfl)
    have em : (l.map p51).map d55 = (l.take i).map e55 := by rw [List.take_of_length_le (by omega), List.map_map]; rfl
    rw [em] at e2
    refine Ev.step (f := fun k => (tree_Touched.f k l).bind fun t395 => ((forebearref10_Touched.f k ((l.take i).map e55)).bind fun t398 => ((forebearref03_Same.f k t395 t398).bind fun t401 => (some t401)))) (fun k => ?_) (Ev.bind e1 (Ev.bind e2 (Ev.bind (a := true) ?_ (Ev.now _))))
    · simp only [forebearlaw10_TreeTouches.l0]
      rw [if_neg (by omega)]
    · refine ⟨(sd ps).length + 1, fun k hkk => ?_⟩
      have h1 : (sd ps).length ≤ 1200 := by
        have h1 := sd_len ps
        have h2 : ps.length = (l.flatMap partsC).length := by rw [← hk]; simp [keys]
        have h3 : ∀ l : List S51, (l.flatMap partsC).length ≤ 6 * l.length := by
          intro l
          induction l with
          | nil => simp
          | cons x l ih => rw [List.flatMap_cons, List.length_append, List.length_cons]; have : (partsC x).length ≤ 6 := partsK_len (key x.f0); omega
        have := h3 l
        omega
      show forebearref03_Same.f k (sd ps) (sd ps) = some true
      rw [same_f (by omega) k (by omega)]
      simp
  | succ d ih =>
    intro i hi
    have hil : i < l.length := by omega
    have et : (l.take (i + 1)).map e55 = (l.take i).map e55 ++ [⟨l[i].f0, 0, 0⟩] := by
      rw [List.take_add_one, List.getElem?_eq_getElem hil, List.map_append]; rfl
    refine Ev.step (f := fun k => (forebearref03_Is.f k l[i].f0).bind fun t394 => (if t394 = true then (forebearlaw10_TreeTouches.l0 k l ((l.take (i + 1)).map e55) ((i + 1 : Nat) : Int)) else (some true))) (fun k => ?_) (Ev.bind (⟨4001, fun k hk => refIs_f k (by omega)⟩ : Ev (fun k => forebearref03_Is.f k l[i].f0) _) ?_)
    · simp only [forebearlaw10_TreeTouches.l0]
      rw [if_pos (by omega), if_pos (by omega), if_pos (by rw [List.length_map, List.length_take]; omega), rd51 hil, wnat hil (by omega), et]
    · cases h : isP (key l[i].f0)
      · exact Ev.congr (fun k => if_neg (by simp)) (Ev.now _)
      · exact Ev.congr (fun k => if_pos rfl) (ih (i + 1) (by omega))
theorem TreeTouches : forebearlaw10_TreeTouches.Pure := by
  intro l hl
  apply Ev.rounds
  refine Ev.congr (fun k => by unfold forebearlaw10_TreeTouches.f; rfl) (Ev.bind awake_ev ?_)
  refine Ev.congr (fun k => if_pos rfl) ?_
  by_cases h : (l.length : Int) > 200
  · exact Ev.congr (fun k => if_pos h) (Ev.now _)
  · refine Ev.congr (fun k => if_neg h) ?_
    exact touches_l0 l (by omega) (fun c hc => (hl.2.2 c hc).1) l.length 0 (by omega)
end Go.Proofs.Ytjnefjggmeieaaa.Pure
