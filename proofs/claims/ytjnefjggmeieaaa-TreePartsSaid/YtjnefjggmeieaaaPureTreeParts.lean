/- The plain statement of the law TreeParts, without program and memory. No condition. -/
import Derived.Test.YtjnefjggmeieaaaMTx0
import Derived.Test.YtjnefjggmeieaaaMTx3
import Derived.Test.YtjnefjggmeieaaaMTx4
import Derived.Test.YtjnefjggmeieaaaMTx5
import Derived.Test.YtjnefjggmeieaaaMTx6
import Derived.Test.YtjnefjggmeieaaaMTx7
import Derived.Test.YtjnefjggmeieaaaMTx8
import Derived.Test.YtjnefjggmeieaaaMTx9
import Derived.Test.YtjnefjggmeieaaaMTx10
import Derived.Test.YtjnefjggmeieaaaMTx11
import Derived.Test.YtjnefjggmeieaaaMTx12
import Derived.Test.YtjnefjggmeieaaaMTx20
import Derived.Test.YtjnefjggmeieaaaMTx22
import Derived.Test.YtjnefjggmeieaaaMTx24
import Derived.Sort.Walk0
import Derived.Lib.Bytes
import Derived.Laws.BitsLemmas
set_option linter.unusedVariables false
set_option linter.unusedSimpArgs false
namespace Go.Proofs.Ytjnefjggmeieaaa.Pure
open Go.RowKit Go.Proofs.Ytjnefjggmeieaaa.MT Go.Proofs.Ytjnefjggmeieaaa.Opening Go.Proofs.YtjnefjggmeieaaaW.PrintWords Go.Proofs.YtjnefjggmeieaaaW.PrintLast Go.Proofs.YtjnefjggmeieaaaW.PrintMore

def key (x : ByteArray) : List UInt8 := x.data.toList
theorem key_inj {x y : ByteArray} (h : key x = key y) : x = y := by
  cases x; cases y
  simp only [key] at h
  rw [Array.toList_inj] at h
  rw [h]
abbrev K := List UInt8
theorem lt_irr (a : K) : ¬ a < a := List.lt_irrefl a
theorem lt_tr {a b c : K} (h : a < b) (k : b < c) : a < c := List.lt_trans h k
theorem le_tr {a b c : K} (h : a ≤ b) (k : b ≤ c) : a ≤ c := List.le_trans h k
theorem le_tot (a b : K) : a ≤ b ∨ b ≤ a := List.le_total a b
theorem lt_of_le_ne {a b : K} (h : a ≤ b) (k : a ≠ b) : a < b := by
  rcases Classical.em (a < b) with h1 | h1
  · exact h1
  · exact absurd (List.le_antisymm h (List.not_lt.1 h1)) k
theorem lt_or_eq_or_gt (a b : K) : a < b ∨ a = b ∨ b < a := by
  rcases le_tot a b with h | h
  · by_cases e : a = b
    · exact .inr (.inl e)
    · exact .inl (lt_of_le_ne h e)
  · by_cases e : a = b
    · exact .inr (.inl e)
    · exact .inr (.inr (lt_of_le_ne h (fun x => e x.symm)))
def Rise (l : List K) : Prop := l.Pairwise (· < ·)
/-- Two lists that rise strictly and have the same members are the same. -/
theorem rise_eq : ∀ {l m : List K}, Rise l → Rise m → (∀ x, x ∈ l ↔ x ∈ m) → l = m
  | [], [], _, _, _ => rfl
  | [], b :: m, _, _, h => absurd ((h b).2 (List.mem_cons_self)) (by simp)
  | a :: l, [], _, _, h => absurd ((h a).1 (List.mem_cons_self)) (by simp)
  | a :: l, b :: m, hl, hm, h => by
    obtain ⟨ha, hl'⟩ := List.pairwise_cons.1 hl
    obtain ⟨hb, hm'⟩ := List.pairwise_cons.1 hm
    have hab : a = b := by
      rcases List.mem_cons.1 ((h a).1 (List.mem_cons_self)) with e | e
      · exact e
      · rcases List.mem_cons.1 ((h b).2 (List.mem_cons_self)) with f | f
        · exact f.symm
        · exact absurd (lt_tr (hb a e) (ha b f)) (lt_irr b)
    subst hab
    congr 1
    refine rise_eq hl' hm' (fun x => ?_)
    constructor
    · intro hx
      rcases List.mem_cons.1 ((h x).1 (List.mem_cons_of_mem _ hx)) with e | e
      · subst e; exact absurd (ha x hx) (lt_irr x)
      · exact e
    · intro hx
      rcases List.mem_cons.1 ((h x).2 (List.mem_cons_of_mem _ hx)) with e | e
      · subst e; exact absurd (hb x hx) (lt_irr x)
      · exact e
/-- What is left of a rising list where equal neighbours are one. -/
def dd : List K → List K
  | [] => []
  | [a] => [a]
  | a :: b :: l => if a = b then dd (b :: l) else a :: dd (b :: l)
theorem mem_dd : ∀ (l : List K) (x : K), x ∈ dd l ↔ x ∈ l
  | [], x => Iff.rfl
  | [a], x => Iff.rfl
  | a :: b :: l, x => by
    have ih := mem_dd (b :: l) x
    unfold dd
    split
    · rename_i e
      rw [ih, e]
      simp
    · rw [List.mem_cons, ih, List.mem_cons (a := x) (b := a)]
theorem dd_rise : ∀ {l : List K}, l.Pairwise (· ≤ ·) → Rise (dd l)
  | [], _ => List.Pairwise.nil
  | [a], _ => List.pairwise_singleton _ _
  | a :: b :: l, h => by
    obtain ⟨ha, hl⟩ := List.pairwise_cons.1 h
    have ih := dd_rise hl
    unfold dd
    split
    · exact ih
    · rename_i e
      refine List.pairwise_cons.2 ⟨fun x hx => ?_, ih⟩
      rw [mem_dd] at hx
      have hb := lt_of_le_ne (ha b (List.mem_cons_self)) e
      rcases List.mem_cons.1 hx with rfl | hx
      · exact hb
      · have hbx := (List.pairwise_cons.1 hl).1 x hx
        rcases lt_or_eq_or_gt b x with h1 | h1 | h1
        · exact lt_tr hb h1
        · exact h1 ▸ hb
        · exact absurd h1 (List.not_lt.2 hbx)
theorem toList_key (x : ByteArray) : x.toList = key x := ByteArray.toList_eq x
theorem key_len (x : ByteArray) : (key x).length = x.size := by simp [key]
theorem wnat {i n : Nat} (h : i < n) (hn : n ≤ 4611686018427387904) : wrap64 ((i : Int) + 1) = ((i + 1 : Nat) : Int) := by unfold wrap64; omega
theorem key_drop {p : ByteArray} {i : Nat} (h : i < p.size) : ∃ c : UInt8, bt p (i : Int) = (c.toNat : Int) ∧ (key p)[i]? = some c ∧ (key p).drop i = c :: (key p).drop (i + 1) := by
  have h' : i < (key p).length := by rw [key_len]; exact h
  refine ⟨(key p)[i], ?_, by simp, List.drop_eq_getElem_cons h'⟩
  have := bt_at p (i : Int) (by simpa using h)
  rw [← this]
  rfl
theorem key_extract (p : ByteArray) (i : Nat) : key (p.extract 0 i) = (key p).take i := by
  simp only [key, ByteArray.data_extract, Array.toList_extract]; simp
theorem key_extract_end (p : ByteArray) (i : Nat) : key (p.extract i p.size) = (key p).drop i := by
  simp only [key, ByteArray.data_extract, Array.toList_extract, List.extract_eq_take_drop]
  apply List.take_of_length_le
  rw [List.length_drop]
  have : p.data.toList.length = p.size := by simp
  omega
theorem byte_eq (c : UInt8) (n : Nat) (hn : n < 256) : ((c.toNat : Int) = (n : Int)) ↔ c = UInt8.ofNat n := by
  constructor
  · intro h
    apply UInt8.toNat_inj.1
    rw [UInt8.toNat_ofNat']
    omega
  · rintro rfl
    rw [UInt8.toNat_ofNat']
    omega
theorem slash_iff (c : UInt8) : ((c.toNat : Int) = 47) ↔ c = 47 := byte_eq c 47 (by omega)
def plainI (x : Int) : Bool := (decide (97 ≤ x) && decide (x ≤ 122)) || (decide (48 ≤ x) && decide (x ≤ 57)) || decide (x = 95) || decide (x = 46)
theorem plain_f (x : Int) : path_plain.f x = some (plainI x) := by
  unfold path_plain.f plainI
  by_cases h1 : x ≥ 97 <;> by_cases h2 : x ≤ 122 <;> by_cases h3 : x ≥ 48 <;> by_cases h4 : x ≤ 57 <;> by_cases h5 : x = 95 <;>
    simp [h1, h2, h3, h4, h5] <;> first | omega | rfl | (rw [Bool.eq_iff_iff]; simp; omega)
def chk : K → Nat → Nat → Bool
  | [], n, r => decide (r ≠ 0) && decide (n ≤ 6)
  | c :: t, n, r => if c = 47 then decide (r ≠ 0) && chk t (n + 1) 0 else plainI (c.toNat : Int) && (decide (r < 16) && chk t n (r + 1))
def code (b : Bool) : Int := cond b 0 2
def isP (l : K) : Bool := chk l 1 0
theorem check_l0 {p : ByteArray} (hp : p.size ≤ 140737488351232) (d : Nat) : ∀ (i n r k : Nat), p.size - i = d → i ≤ p.size → n ≤ i + 1 → r ≤ i → d < k →
    path_Check.l0 k p n r p.size i = some (code (chk ((key p).drop i) n r)) := by
  induction d with
  | zero =>
    intro i n r k hd hi hn hr hk
    obtain ⟨k, rfl⟩ : ∃ m, k = m + 1 := ⟨k - 1, by omega⟩
    have hz : (key p).drop i = [] := List.drop_eq_nil_of_le (by rw [key_len]; omega)
    simp only [path_Check.l0]
    rw [if_neg (by omega), hz]
    by_cases h1 : r = 0
    · subst h1; simp [chk, code]
    · rw [if_neg (by omega)]
      by_cases h2 : n ≤ 6
      · rw [if_neg (by omega)]; simp [chk, h1, h2, code]
      · rw [if_pos (by omega)]; simp [chk, h2, code]
  | succ d ih =>
    intro i n r k hd hi hn hr hk
    obtain ⟨k, rfl⟩ : ∃ m, k = m + 1 := ⟨k - 1, by omega⟩
    obtain ⟨c, hb, -, hdr⟩ := key_drop (p := p) (i := i) (by omega)
    simp only [path_Check.l0]
    rw [if_pos (by omega), if_pos (by omega), if_pos (by omega), hb, hdr]
    simp only [chk]
    by_cases hc : c = 47
    · rw [if_pos ((slash_iff c).2 hc), if_pos hc]
      by_cases h1 : r = 0
      · rw [if_pos (by omega)]; simp [h1, code]
      · rw [if_neg (by omega), wnat (n := p.size + 2) (by omega) (by omega), wnat (n := p.size) (by omega) (by omega)]
        refine (ih (i + 1) (n + 1) 0 k (by omega) (by omega) (by omega) (by omega) (by omega)).trans ?_
        simp [h1]
    · rw [if_neg (fun h => hc ((slash_iff c).1 h)), if_neg hc, plain_f]
      simp only [Option.bind_some]
      by_cases h1 : plainI (c.toNat : Int) = true
      · rw [if_pos h1]
        by_cases h2 : r < 16
        · rw [if_pos (by omega), wnat (n := p.size + 2) (by omega) (by omega), wnat (n := p.size) (by omega) (by omega), ih (i + 1) n (r + 1) k (by omega) (by omega) (by omega) (by omega) (by omega)]
          simp [h1, h2]
        · rw [if_neg (by omega)]; simp [h2, code]
      · rw [if_neg h1]; simp [h1, code]
theorem check_f {p : ByteArray} (hp : p.size ≤ 140737488351232) (k : Nat) (hk : p.size < k) : path_Check.f k p = some (code (isP (key p))) := by
  have := check_l0 hp p.size 0 1 0 k (by omega) (by omega) (by omega) (by omega) hk
  simpa [path_Check.f, isP] using this
theorem chk_count : ∀ (l : K) (n r : Nat), chk l n r = true → n + l.count 47 ≤ 6
  | [], n, r, h => by simp [chk] at h; simpa using h.2
  | c :: t, n, r, h => by
    unfold chk at h
    by_cases hc : c = 47
    · rw [if_pos hc] at h
      simp at h
      have := chk_count t (n + 1) 0 h.2
      rw [hc, List.count_cons_self]; omega
    · rw [if_neg hc] at h
      simp at h
      have := chk_count t n (r + 1) h.2.2
      rw [List.count_cons_of_ne hc]; exact this
/-- below: a text is another one, or goes on behind it with a slash. -/
def under (p d : K) : Bool := (p.take d.length == d) && (match p.drop d.length with | [] => true | c :: _ => c == 47)
theorem rdOf_nat (l : List ByteArray) (i : Nat) (h : i < l.length) : rdOf ByteArray.empty l (i : Int) = l[i] := by
  simp [rdOf, h]
abbrev keys (l : List ByteArray) : List K := l.map key
theorem keys_drop {l : List ByteArray} {i : Nat} (h : i < l.length) : (keys l).drop i = key l[i] :: (keys l).drop (i + 1) := by
  rw [List.drop_eq_getElem_cons (by simpa using h)]; simp
/-- The set of paths s has q. -/
def hasS (s : List K) (q : K) : Bool := isP q && (s.any (under q) || s.isEmpty)
theorem clone_f (l : List ByteArray) (h : l.length < 8796093022208) : slices_Clone_string_string.f l = some l := by
  simp [slices_Clone_string_string.f, h]
/-- Sorted, each once. -/
def sd (l : List ByteArray) : List ByteArray := compactS (sortS l)
theorem sort_f (l : List ByteArray) (h : l.length < 4000000000000) : path_Sort.f l = some (sd l) := by
  have hl : (sortS l).length = l.length := by simp [sortS]
  unfold path_Sort.f sd
  rw [clone_f l (by omega)]
  simp only [Option.bind_some, slices_Sort_string_string.f]
  rw [if_pos (by omega)]
  simp only [Option.bind_some]
  rw [if_pos (by omega)]
theorem key_mk (l : K) : key ⟨l.toArray⟩ = l := by simp [key]
theorem keys_mk (l : List K) : keys (l.map fun l => ⟨l.toArray⟩) = l := by
  simp [keys, Function.comp_def, key_mk]
theorem sortS_keys (l : List ByteArray) : keys (sortS l) = (keys l).mergeSort fun x y => decide (x ≤ y) := by
  unfold sortS; rw [keys_mk]; rfl
theorem sorted_merge (l : List K) : (l.mergeSort fun x y => decide (x ≤ y)).Pairwise (· ≤ ·) := by
  have := List.pairwise_mergeSort (le := fun x y : K => decide (x ≤ y)) (fun a b c h1 h2 => by simp at *; exact le_tr h1 h2) (fun a b => by simpa using le_tot a b) l
  simpa using this
theorem getA (l : List K) (j : Nat) : l.toArray[j]! = l.getD j [] := by
  simp only [List.getElem!_toArray, List.getD_eq_getElem?_getD]
  rw [List.getElem!_eq_getElem?_getD]; rfl
theorem compact_one (b : K) (l : List K) : Lib.compact (b :: l) = b :: ((List.range l.length).filter (fun j => decide ((b :: l).getD (j + 1) [] ≠ (b :: l).getD j []))).map (fun j => (b :: l).getD (j + 1) []) := by
  unfold Lib.compact Lib.compactUpTo
  rw [List.length_cons, List.range_succ_eq_map, List.filter_cons_of_pos (by simp [Lib.keeps])]
  rw [List.map_cons, getA, List.filter_map, List.map_map]
  congr 1
  congr 1
  · funext j; simp only [Function.comp_def, getA]
  · congr 1
    funext j
    simp only [Function.comp_def, Lib.keeps, getA]
    simp
theorem compact_two (a b : K) (l : List K) : Lib.compact (a :: b :: l) = if a = b then Lib.compact (b :: l) else a :: Lib.compact (b :: l) := by
  rw [compact_one a (b :: l), compact_one b l, List.length_cons, List.range_succ_eq_map]
  by_cases h : a = b
  · subst h
    rw [if_pos rfl, List.filter_cons_of_neg (by simp), List.filter_map, List.map_map]
    rfl
  · have h' : b ≠ a := fun e => h e.symm
    rw [if_neg h, List.filter_cons_of_pos (by simp [h']), List.map_cons, List.filter_map, List.map_map]
    rfl
theorem compact_eq_dd : ∀ (l : List K), Lib.compact l = dd l
  | [] => rfl
  | [a] => by rw [compact_one]; rfl
  | a :: b :: l => by rw [compact_two, compact_eq_dd (b :: l)]; rfl
theorem sd_keys (l : List ByteArray) : keys (sd l) = dd ((keys l).mergeSort fun x y => decide (x ≤ y)) := by
  unfold sd compactS
  rw [keys_mk, compact_eq_dd, ← sortS_keys]; rfl
theorem sd_rise (l : List ByteArray) : Rise (keys (sd l)) := by rw [sd_keys]; exact dd_rise (sorted_merge _)
theorem sd_mem (l : List ByteArray) (x : K) : x ∈ keys (sd l) ↔ x ∈ keys l := by rw [sd_keys, mem_dd, List.mem_mergeSort]
theorem dd_len : ∀ l : List K, (dd l).length ≤ l.length
  | [] => by simp [dd]
  | [a] => by simp [dd]
  | a :: b :: l => by
    have ih := dd_len (b :: l)
    unfold dd
    split
    · simp at *; omega
    · simp at *; omega
theorem sd_len (l : List ByteArray) : (sd l).length ≤ l.length := by
  have h := dd_len ((keys l).mergeSort fun x y => decide (x ≤ y))
  rw [← sd_keys] at h
  simpa [List.length_mergeSort] using h
def keepL : List K → List K → List K
  | [], acc => acc
  | s :: t, acc => if acc = [] then keepL t [s] else if hasS acc s then keepL t acc else keepL t (acc ++ [s])
/-- The error's number, and the set of the paths. -/
def limitC (l : List K) : Int := if l.length > 16 then 4 else if l.all isP then 0 else 2
def limitP (l S : List K) : List K := if limitC l = 0 then keepL S [] else []
theorem keep_len : ∀ (S acc : List K), (keepL S acc).length ≤ acc.length + S.length
  | [], acc => by simp [keepL]
  | s :: t, acc => by
    unfold keepL
    split
    · have := keep_len t [s]; simp at *; omega
    · split
      · have := keep_len t acc; simp at *; omega
      · have := keep_len t (acc ++ [s]); simp at *; omega
theorem limitP_len (l : List ByteArray) : (limitP (keys l) (keys (sd l))).length ≤ 16 := by
  unfold limitP
  split
  · rename_i h
    unfold limitC at h
    split at h
    · simp at h
    · have h1 := keep_len (keys (sd l)) []
      have h2 := sd_len l
      simp at *; omega
  · simp
/-- What leads to a path: its beginnings that a slash follows. -/
def cuts : K → K → List K
  | _, [] => []
  | pre, c :: t => if c = 47 then pre :: cuts (pre ++ [c]) t else cuts (pre ++ [c]) t
def partsK (l : K) : List K := if isP l then cuts [] l ++ [l] else []
theorem parts_l0 {p : ByteArray} (hp : p.size ≤ 140737488351232) (d : Nat) : ∀ (i k : Nat) (acc : List ByteArray), p.size - i = d → i ≤ p.size → acc.length + ((key p).drop i).count 47 ≤ 100 → d < k →
    ∃ r, path_Parts.l0 k p acc p.size i = some r ∧ keys r = keys acc ++ (cuts ((key p).take i) ((key p).drop i) ++ [key p]) := by
  induction d with
  | zero =>
    intro i k acc hd hi ha hk
    obtain ⟨k, rfl⟩ : ∃ m, k = m + 1 := ⟨k - 1, by omega⟩
    simp only [path_Parts.l0]
    rw [if_neg (by omega), if_pos (by omega), List.drop_eq_nil_of_le (by rw [key_len]; omega)]
    exact ⟨_, rfl, by simp [cuts]⟩
  | succ d ih =>
    intro i k acc hd hi ha hk
    obtain ⟨k, rfl⟩ : ∃ m, k = m + 1 := ⟨k - 1, by omega⟩
    obtain ⟨c, hb, hg, hdr⟩ := key_drop (p := p) (i := i) (by omega)
    have ht : (key p).take (i + 1) = (key p).take i ++ [c] := by
      rw [List.take_add_one, hg]; rfl
    rw [hdr] at ha
    simp only [path_Parts.l0]
    rw [if_pos (by omega), if_pos (by omega), if_pos (by omega), hb, hdr, wnat (n := p.size) (by omega) (by omega)]
    simp only [cuts]
    by_cases hc : c = 47
    · rw [if_pos ((slash_iff c).2 hc), if_pos (by omega), if_pos (by omega), if_pos hc]
      rw [hc, List.count_cons_self] at ha
      obtain ⟨r, h1, h2⟩ := ih (i + 1) k (acc ++ [p.extract 0 i]) (by omega) (by omega) (by simp; omega) (by omega)
      refine ⟨r, h1, ?_⟩
      rw [h2, ht]
      simp [key_extract]
    · rw [if_neg (fun h => hc ((slash_iff c).1 h)), if_neg hc]
      rw [List.count_cons_of_ne hc] at ha
      obtain ⟨r, h1, h2⟩ := ih (i + 1) k acc (by omega) (by omega) (by omega) (by omega)
      exact ⟨r, h1, by rw [h2, ht]⟩
theorem parts_f {p : ByteArray} (hp : p.size ≤ 140737488351232) (k : Nat) (hk : p.size < k) : ∃ r, path_Parts.f k p = some r ∧ keys r = partsK (key p) := by
  unfold path_Parts.f partsK
  rw [check_f hp k hk]
  simp only [Option.bind_some]
  by_cases h : isP (key p) = true
  · have hc := chk_count _ _ _ h
    obtain ⟨r, h1, h2⟩ := parts_l0 hp p.size 0 k [] (by omega) (by omega) (by simp; omega) hk
    rw [show ((0 : Nat) : Int) = 0 from rfl] at h1
    rw [h, if_pos (by rfl)]
    exact ⟨r, h1, by rw [h2]; simp⟩
  · have h' : isP (key p) = false := by simpa using h
    rw [h', if_neg (by decide)]
    exact ⟨[], rfl, by simp⟩
def nameK (l : K) : Bool := l.all (fun c => plainI (c.toNat : Int)) && decide (1 ≤ l.length ∧ l.length ≤ 16)
theorem refName_l0 {p : ByteArray} (hp : p.size ≤ 140737488351232) (d : Nat) : ∀ (i k : Nat), p.size - i = d → i ≤ p.size → d < k →
    forebearref03_Name.l0 k p i = some (((key p).drop i).all (fun c => plainI (c.toNat : Int)) && decide (1 ≤ p.size ∧ p.size ≤ 16)) := by
  induction d with
  | zero =>
    intro i k hd hi hk
    obtain ⟨k, rfl⟩ : ∃ m, k = m + 1 := ⟨k - 1, by omega⟩
    simp only [forebearref03_Name.l0]
    rw [if_neg (by omega), List.drop_eq_nil_of_le (by rw [key_len]; omega)]
    by_cases h1 : 1 ≤ p.size
    · rw [if_pos (by omega)]
      simp only [List.all_nil, Bool.true_and, Option.some.injEq]
      rw [Bool.eq_iff_iff, decide_eq_true_eq, decide_eq_true_eq]; omega
    · rw [if_neg (by omega)]; simp [h1]
  | succ d ih =>
    intro i k hd hi hk
    obtain ⟨k, rfl⟩ : ∃ m, k = m + 1 := ⟨k - 1, by omega⟩
    obtain ⟨c, hb, -, hdr⟩ := key_drop (p := p) (i := i) (by omega)
    have hn := ih (i + 1) k (by omega) (by omega) (by omega)
    simp only [forebearref03_Name.l0]
    rw [if_pos (by omega), if_pos (by omega), hb, hdr, wnat (n := p.size) (by omega) (by omega), hn, List.all_cons]
    generalize (c.toNat : Int) = x
    rw [Bool.and_assoc]
    generalize hg : (((key p).drop (i + 1)).all (fun c => plainI (c.toNat : Int)) && decide (1 ≤ p.size ∧ p.size ≤ 16)) = b
    by_cases h : plainI x = true
    · rw [h, Bool.true_and]
      unfold plainI at h
      simp at h
      repeat' split
      all_goals first | rfl | omega
    · have h' : plainI x = false := by simpa using h
      rw [h', Bool.false_and]
      unfold plainI at h'
      simp at h'
      repeat' split
      all_goals first | rfl | omega
theorem refName_f {p : ByteArray} (hp : p.size ≤ 140737488351232) (k : Nat) (hk : p.size < k) : forebearref03_Name.f k p = some (nameK (key p)) := by
  have := refName_l0 hp p.size 0 k (by omega) (by omega) hk
  rw [show ((0 : Nat) : Int) = 0 from rfl] at this
  unfold forebearref03_Name.f nameK
  rw [this, key_len]; simp
/-- What stands between the slashes; 'last': what stands ahead. -/
def sp : K → K → List K
  | last, [] => [last]
  | last, c :: t => if c = 47 then last :: sp [] t else sp (last ++ [c]) t
theorem key_append (a b : ByteArray) : key (a ++ b) = key a ++ key b := by simp [key]
theorem sp_slash (t last : K) : sp last (47 :: t) = last :: sp [] t := by rw [sp, if_pos rfl]
theorem sp_other {c : UInt8} (h : c ≠ 47) (t last : K) : sp last (c :: t) = sp (last ++ [c]) t := by rw [sp, if_neg h]
theorem chk_slash (t : K) (n r : Nat) : chk (47 :: t) n r = (decide (r ≠ 0) && chk t (n + 1) 0) := by rw [chk, if_pos rfl]
theorem chk_other {c : UInt8} (h : c ≠ 47) (t : K) (n r : Nat) : chk (c :: t) n r = (plainI (c.toNat : Int) && (decide (r < 16) && chk t n (r + 1))) := by rw [chk, if_neg h]
theorem key_one (c : UInt8) : key (oneB (c.toNat : Int)) = [c] := by
  simp [oneB, strOfNums, key]
theorem refNames_l0 {p : ByteArray} (hp : p.size ≤ 1000) (d : Nat) : ∀ (i k : Nat) (init : List ByteArray) (last : ByteArray), p.size - i = d → i ≤ p.size → init.length ≤ i → last.size ≤ i → d < k →
    ∃ r, forebearref03_Names.l0 k p (init ++ [last]) i = some r ∧ keys r = keys init ++ sp (key last) ((key p).drop i) := by
  induction d with
  | zero =>
    intro i k init last hd hi h1 h2 hk
    obtain ⟨k, rfl⟩ : ∃ m, k = m + 1 := ⟨k - 1, by omega⟩
    simp only [forebearref03_Names.l0]
    rw [if_neg (by omega), List.drop_eq_nil_of_le (by rw [key_len]; omega)]
    exact ⟨_, rfl, by simp [sp]⟩
  | succ d ih =>
    intro i k init last hd hi h1 h2 hk
    obtain ⟨k, rfl⟩ : ∃ m, k = m + 1 := ⟨k - 1, by omega⟩
    obtain ⟨c, hb, -, hdr⟩ := key_drop (p := p) (i := i) (by omega)
    simp only [forebearref03_Names.l0]
    rw [if_pos (by omega), if_pos (by omega), hb, hdr, wnat (n := p.size) (by omega) (by omega)]
    simp only [sp]
    by_cases hc : c = 47
    · rw [if_pos ((slash_iff c).2 hc), if_pos hc, if_pos (by simp; omega)]
      obtain ⟨r, g1, g2⟩ := ih (i + 1) k (init ++ [last]) (⟨#[]⟩ : ByteArray) (by omega) (by omega) (by simp; omega) (Nat.zero_le _) (by omega)
      exact ⟨r, g1, by rw [g2]; simp [key]⟩
    · rw [if_neg (fun h => hc ((slash_iff c).1 h)), if_neg hc, if_pos (by simp)]
      have e1 : (init ++ [last]).length - 1 = init.length := by simp
      have e2 : (init ++ [last]).getD init.length ByteArray.empty = last := by simp
      rw [e1, e2, if_pos (by omega)]
      have e3 : (init ++ [last]).set init.length (last ++ oneB (c.toNat : Int)) = init ++ [last ++ oneB (c.toNat : Int)] := by simp
      rw [e3]
      have e4 : (last ++ oneB (c.toNat : Int)).size = last.size + 1 := by
        rw [ByteArray.size_append]; rfl
      obtain ⟨r, g1, g2⟩ := ih (i + 1) k init (last ++ oneB (c.toNat : Int)) (by omega) (by omega) (by omega) (by omega) (by omega)
      have e5 : key (last ++ oneB (c.toNat : Int)) = key last ++ [c] := by
        rw [key_append, key_one]
      exact ⟨r, g1, by rw [g2, e5]⟩
theorem refNames_f {p : ByteArray} (hp : p.size ≤ 1000) (k : Nat) (hk : p.size < k) : ∃ r, forebearref03_Names.f k p = some r ∧ keys r = sp [] (key p) := by
  obtain ⟨r, h1, h2⟩ := refNames_l0 hp p.size 0 k [] (⟨#[]⟩ : ByteArray) (by omega) (by omega) (Nat.le_refl _) (Nat.le_refl _) hk
  rw [show ((0 : Nat) : Int) = 0 from rfl] at h1
  exact ⟨r, h1, by rw [h2]; rfl⟩
theorem sp_len : ∀ (t last : K), (sp last t).length = t.count 47 + 1
  | [], last => rfl
  | c :: t, last => by
    unfold sp
    by_cases h : c = 47
    · rw [if_pos h, h, List.count_cons_self, List.length_cons, sp_len t]
    · rw [if_neg h, List.count_cons_of_ne h, sp_len t]
theorem sp_head : ∀ (t last : K), ∃ s r, sp last t = (last ++ s) :: r
  | [], last => ⟨[], [], by simp [sp]⟩
  | c :: t, last => by
    unfold sp
    by_cases h : c = 47
    · rw [if_pos h]; exact ⟨[], _, by simp; rfl⟩
    · rw [if_neg h]
      obtain ⟨s, r, e⟩ := sp_head t (last ++ [c])
      exact ⟨c :: s, r, by rw [e]; simp⟩
theorem chk_sp : ∀ (t last : K) (n : Nat), 1 ≤ n → last.all (fun c => plainI (c.toNat : Int)) = true → last.length ≤ 16 → chk t n last.length = ((sp last t).all nameK && decide (n + (sp last t).length ≤ 7))
  | [], last, n, hn, ha, hl => by
    simp only [chk, sp, List.all_cons, List.all_nil, nameK, ha, Bool.true_and, Bool.and_true, List.length_cons, List.length_nil, Nat.zero_add]
    rw [Bool.eq_iff_iff]; simp only [Bool.and_eq_true, decide_eq_true_eq, ne_eq]
    constructor
    · rintro ⟨h1, h2⟩; exact ⟨⟨by omega, hl⟩, by omega⟩
    · rintro ⟨⟨h1, h2⟩, h3⟩; exact ⟨by omega, by omega⟩
  | c :: t, last, n, hn, ha, hl => by
    by_cases h : c = 47
    · subst h
      have := chk_sp t [] (n + 1) (by omega) rfl (by simp)
      rw [show ([] : K).length = 0 from rfl] at this
      rw [chk_slash, sp_slash, this]
      simp only [List.all_cons, nameK, ha, Bool.true_and, List.length_cons]
      rw [Bool.eq_iff_iff]; simp only [Bool.and_eq_true, decide_eq_true_eq]
      constructor
      · rintro ⟨h1, h2, h3⟩; exact ⟨⟨by omega, h2⟩, by omega⟩
      · rintro ⟨⟨h1, h2⟩, h3⟩; exact ⟨by omega, h2, by omega⟩
    · rw [chk_other h, sp_other h]
      by_cases h1 : plainI (c.toNat : Int) = true
      · by_cases h2 : last.length < 16
        · have := chk_sp t (last ++ [c]) n hn (by simp [h1]; simpa using ha) (by simp; omega)
          rw [List.length_append, List.length_singleton] at this
          rw [h1, this]; simp [h2]
        · obtain ⟨s, r, e⟩ := sp_head t (last ++ [c])
          have : nameK (last ++ [c] ++ s) = false := by
            unfold nameK; simp; omega
          rw [e, List.all_cons, this]; simp [h2]
      · obtain ⟨s, r, e⟩ := sp_head t (last ++ [c])
        have h1' : plainI (c.toNat : Int) = false := by simpa using h1
        have : nameK (last ++ [c] ++ s) = false := by
          unfold nameK; simp [h1']
        rw [e, List.all_cons, this]; simp [h1']
theorem isP_sp (l : K) : isP l = ((sp [] l).all nameK && decide ((sp [] l).length ≤ 6)) := by
  have := chk_sp l [] 1 (by omega) rfl (by simp)
  unfold isP
  rw [show ([] : K).length = 0 from rfl] at this
  rw [this]
  congr 1
  rw [Bool.eq_iff_iff]; simp; omega
theorem chk_bound : ∀ (t : K) (n r : Nat), r ≤ 16 → chk t n r = true → t.length + r ≤ 16 + 17 * (6 - n)
  | [], n, r, hr, h => by simp; omega
  | c :: t, n, r, hr, h => by
    unfold chk at h
    by_cases hc : c = 47
    · rw [if_pos hc] at h
      simp at h
      have h1 := chk_bound t (n + 1) 0 (by omega) h.2
      have h2 := chk_count _ _ _ h.2
      simp at *; omega
    · rw [if_neg hc] at h
      simp at h
      have := chk_bound t n (r + 1) (by omega) h.2.2
      simp; omega
theorem isP_size {l : K} (h : isP l = true) : l.length ≤ 102 := by
  have := chk_bound l 1 0 (by omega) h
  omega
theorem refIs_l0 {s : List ByteArray} (hs : ∀ x ∈ s, x.size ≤ 1000) (hl : s.length ≤ 2000) (d : Nat) : ∀ (i k : Nat), s.length - i = d → i ≤ s.length → d + 1000 < k →
    forebearref03_Is.l0 k s i = some (((keys s).drop i).all nameK && decide (s.length ≤ 6)) := by
  induction d with
  | zero =>
    intro i k hd hi hk
    obtain ⟨k, rfl⟩ : ∃ m, k = m + 1 := ⟨k - 1, by omega⟩
    simp only [forebearref03_Is.l0]
    rw [if_neg (by omega), List.drop_eq_nil_of_le (by simp; omega)]
    simp only [List.all_nil, Bool.true_and, Option.some.injEq]
    rw [Bool.eq_iff_iff, decide_eq_true_eq, decide_eq_true_eq]; omega
  | succ d ih =>
    intro i k hd hi hk
    obtain ⟨k, rfl⟩ : ∃ m, k = m + 1 := ⟨k - 1, by omega⟩
    have hlt : i < s.length := by omega
    have hz := hs s[i] (List.getElem_mem hlt)
    simp only [forebearref03_Is.l0]
    rw [if_pos (by omega), if_pos (by omega), rdOf_nat s i hlt, refName_f (by omega) k (by omega), keys_drop hlt, wnat hlt (by omega)]
    simp only [Option.bind_some, List.all_cons]
    by_cases h : nameK (key s[i]) = true
    · rw [if_pos h, h, ih (i + 1) k (by omega) (by omega) (by omega)]; simp
    · have h' : nameK (key s[i]) = false := by simpa using h
      rw [if_neg h, h']; simp
theorem mem_sp : ∀ (t last x : K), x ∈ sp last t → x.length ≤ last.length + t.length
  | [], last, x, h => by simp [sp] at h; subst h; simp
  | c :: t, last, x, h => by
    unfold sp at h
    by_cases hc : c = 47
    · rw [if_pos hc] at h
      rcases List.mem_cons.1 h with rfl | h
      · simp
      · have := mem_sp t [] x h; simp at *; omega
    · rw [if_neg hc] at h
      have := mem_sp t _ x h; simp at *; omega
theorem refIs_f {p : ByteArray} (k : Nat) (hk : 4000 < k) : forebearref03_Is.f k p = some (isP (key p)) := by
  unfold forebearref03_Is.f
  by_cases h : p.size > 102
  · rw [if_pos (by omega)]
    have : isP (key p) = false := by
      cases e : isP (key p) with
      | false => rfl
      | true => have := isP_size e; rw [key_len] at this; omega
    rw [this]
  · rw [if_neg (by omega)]
    obtain ⟨r, h1, h2⟩ := refNames_f (p := p) (by omega) k (by omega)
    have hr : ∀ x ∈ r, x.size ≤ 1000 := by
      intro x hx
      have : key x ∈ sp [] (key p) := by rw [← h2]; exact List.mem_map_of_mem hx
      have := mem_sp _ _ _ this
      rw [key_len, key_len] at this
      simp at this; omega
    have hl : r.length = (key p).count 47 + 1 := by
      have := congrArg List.length h2
      rw [List.length_map, sp_len] at this; exact this
    have hl2 : (key p).count 47 ≤ p.size := by rw [← key_len]; exact List.count_le_length
    rw [h1]
    simp only [Option.bind_some]
    have := refIs_l0 hr (by omega) r.length 0 k (by omega) (by omega) (by omega)
    rw [show ((0 : Nat) : Int) = 0 from rfl] at this
    rw [this, isP_sp, ← h2]; simp
theorem cuts_len2 : ∀ (t pre : K), (cuts pre t).length = t.count 47
  | [], pre => rfl
  | c :: t, pre => by
    unfold cuts
    by_cases h : c = 47
    · rw [if_pos h, h, List.count_cons_self, List.length_cons, cuts_len2 t]
    · rw [if_neg h, List.count_cons_of_ne h, cuts_len2 t]
theorem refUnder_f (p d : ByteArray) : forebearref03_Under.f p d = some (under (key p) (key d)) := by
  unfold forebearref03_Under.f
  by_cases h : d.size ≤ p.size
  · rw [if_neg (by omega), if_pos (by omega), if_pos (by omega)]
    simp only [Int.toNat_natCast, toList_key, key_extract]
    have hl := key_len d
    by_cases e : (key p).take d.size = key d
    · rw [if_pos e]
      unfold under
      rw [hl, e]
      by_cases h0 : d.size = p.size
      · have hz : (key p).drop d.size = [] := List.drop_eq_nil_of_le (by rw [key_len]; omega)
        rw [hz, if_pos (by omega)]; simp
      · obtain ⟨c, hb, hg, hdr⟩ := key_drop (p := p) (i := d.size) (by omega)
        rw [hdr, if_neg (by omega), if_pos (by omega), hb]
        simp only [beq_self_eq_true, Bool.true_and, Option.some.injEq]
        rw [Bool.eq_iff_iff]
        simpa using slash_iff c
    · rw [if_neg e]
      have : under (key p) (key d) = false := by unfold under; rw [hl]; simp [e]
      rw [this]
  · rw [if_pos (by omega)]
    have : under (key p) (key d) = false := by
      unfold under
      have : ((key p).take (key d).length == key d) = false := by
        apply beq_eq_false_iff_ne.2
        intro e
        have := congrArg List.length e
        rw [List.length_take, key_len, key_len] at this
        omega
      rw [this]; rfl
    rw [this]
theorem under_f (p d : ByteArray) (hp : p.size ≤ 140737488351232) : path_Under.f p d = some (under (key p) (key d)) := by
  unfold path_Under.f strings_CutPrefix.f stringslite_CutPrefix.f stringslite_HasPrefix.f
  by_cases h : d.size ≤ p.size
  · rw [if_pos (by omega), if_pos (by omega), if_pos (by omega)]
    simp only [Option.bind_some, Int.toNat_natCast, toList_key, key_extract]
    have hl := key_len d
    by_cases e : (key p).take d.size = key d
    · rw [if_pos (by simpa using e), if_pos (by omega), if_pos (by omega)]
      simp only [Option.bind_some, if_true, toList_key, key_extract_end]
      unfold under
      rw [hl, e]
      by_cases h0 : d.size = p.size
      · have hz : (key p).drop d.size = [] := List.drop_eq_nil_of_le (by rw [key_len]; omega)
        rw [hz, if_pos rfl]; simp
      · obtain ⟨c, hb, hg, hdr⟩ := key_drop (p := p) (i := d.size) (by omega)
        rw [hdr, if_neg (by simp)]
        have hz : (p.extract d.size p.size).size = p.size - d.size := by simp
        rw [if_pos (by rw [hz]; omega)]
        have hb' : bt (p.extract d.size p.size) 0 = (c.toNat : Int) := by
          obtain ⟨c', hb', hg', -⟩ := key_drop (p := p.extract d.size p.size) (i := 0) (by rw [hz]; omega)
          rw [key_extract_end, hdr] at hg'
          simp at hg'
          subst hg'
          exact hb'
        rw [hb']
        simp only [beq_self_eq_true, Bool.true_and, Option.some.injEq]
        rw [Bool.eq_iff_iff]
        simpa using slash_iff c
    · rw [if_neg (by simpa using e)]
      simp only [Option.bind_some, Bool.false_eq_true, if_false]
      have : under (key p) (key d) = false := by unfold under; rw [hl]; simp [e]
      rw [this]
  · rw [if_neg (by omega)]
    simp only [Option.bind_some, Bool.false_eq_true, if_false]
    have : under (key p) (key d) = false := by
      unfold under
      have : ((key p).take (key d).length == key d) = false := by
        apply beq_eq_false_iff_ne.2
        intro e
        have := congrArg List.length e
        rw [List.length_take, key_len, key_len] at this
        omega
      rw [this]; rfl
    rw [this]
theorem has_l0 {q : ByteArray} (hq : q.size ≤ 140737488351232) {s : List ByteArray} (hs : s.length ≤ 140737488351232) (z : List ByteArray) (d : Nat) : ∀ (i k : Nat), s.length - i = d → i ≤ s.length → d < k →
    path_Set_Has.l0 k q s s.length i z = some (((keys s).drop i).any (under (key q)) || z.isEmpty) := by
  induction d with
  | zero =>
    intro i k hd hi hk
    obtain ⟨k, rfl⟩ : ∃ m, k = m + 1 := ⟨k - 1, by omega⟩
    simp only [path_Set_Has.l0]
    rw [if_neg (by omega), List.drop_eq_nil_of_le (by simp; omega)]
    cases z <;> simp <;> omega
  | succ d ih =>
    intro i k hd hi hk
    obtain ⟨k, rfl⟩ : ∃ m, k = m + 1 := ⟨k - 1, by omega⟩
    have hlt : i < s.length := by omega
    simp only [path_Set_Has.l0]
    rw [if_pos (by omega), if_pos (by omega), if_pos (by omega), rdOf_nat s i hlt, under_f _ _ hq, keys_drop hlt]
    simp only [Option.bind_some, List.any_cons]
    by_cases h : under (key q) (key s[i]) = true
    · rw [if_pos h, h]; rfl
    · rw [if_neg h, wnat hlt (by omega), ih (i + 1) k (by omega) (by omega) (by omega)]
      simp [h]
theorem has_f {q : ByteArray} (hq : q.size ≤ 140737488351232) {s : List ByteArray} (hs : s.length ≤ 140737488351232) (k : Nat) (h1 : q.size < k) (h2 : s.length < k) :
    path_Set_Has.f k s q = some (hasS (keys s) (key q)) := by
  unfold path_Set_Has.f hasS
  rw [check_f hq k h1]
  simp only [Option.bind_some]
  by_cases h : isP (key q) = true
  · have := has_l0 hq hs s s.length 0 k (by omega) (by omega) h2
    simp only [h, code, cond_true, if_true, Bool.true_and]
    rw [show ((0 : Nat) : Int) = 0 from rfl] at this
    rw [this]; simp
  · simp [h, code]
theorem limit_l1 {S : List ByteArray} (hS : S.length ≤ 100000) (M : Nat) (hM : ∀ s ∈ S, s.size < M ∧ s.size ≤ 140737488351232) (d : Nat) : ∀ (i k : Nat) (acc : List ByteArray), S.length - i = d → i ≤ S.length → acc.length ≤ i → d + M + S.length < k →
    ∃ r, path_Limit.l1 k S S.length i acc = some (r, 0) ∧ keys r = keepL ((keys S).drop i) (keys acc) := by
  induction d with
  | zero =>
    intro i k acc hd hi ha hk
    obtain ⟨k, rfl⟩ : ∃ m, k = m + 1 := ⟨k - 1, by omega⟩
    simp only [path_Limit.l1]
    rw [if_neg (by omega), List.drop_eq_nil_of_le (by simp; omega)]
    exact ⟨acc, rfl, rfl⟩
  | succ d ih =>
    intro i k acc hd hi ha hk
    obtain ⟨k, rfl⟩ : ∃ m, k = m + 1 := ⟨k - 1, by omega⟩
    have hlt : i < S.length := by omega
    have hm := hM S[i] (List.getElem_mem hlt)
    simp only [path_Limit.l1]
    rw [if_pos (by omega), if_pos (by omega), if_pos (by omega), rdOf_nat S i hlt, keys_drop hlt, wnat hlt (by omega)]
    simp only [keepL]
    by_cases h0 : acc = []
    · subst h0
      rw [if_pos (by simp), if_pos (by simp), if_pos (by simp)]
      exact ih (i + 1) k [S[i]] (by omega) (by omega) (by simp) (by omega)
    · have h1 : keys acc ≠ [] := by simpa using h0
      have h2 : acc.length ≠ 0 := by simpa using h0
      rw [if_neg (by omega), if_neg h1, has_f hm.2 (by omega) k (by omega) (by omega)]
      simp only [Option.bind_some]
      by_cases h3 : hasS (keys acc) (key S[i]) = true
      · rw [if_pos h3, if_pos h3]
        exact ih (i + 1) k acc (by omega) (by omega) (by omega) (by omega)
      · rw [if_neg h3, if_neg h3, if_pos (by omega)]
        obtain ⟨r, g1, g2⟩ := ih (i + 1) k (acc ++ [S[i]]) (by omega) (by omega) (by simp; omega) (by omega)
        exact ⟨r, g1, by rw [g2]; simp⟩
theorem limit_l0 {l : List ByteArray} (hl : l.length ≤ 16) (M : Nat) (hM : ∀ s ∈ l, s.size < M ∧ s.size ≤ 140737488351232) (d : Nat) : ∀ (i k : Nat), l.length - i = d → i ≤ l.length → d + l.length + M + l.length + 1 < k →
    ∃ r, path_Limit.l0 k l l l.length i = some (r, code (((keys l).drop i).all isP)) ∧ keys r = cond (((keys l).drop i).all isP) (keepL (keys (sd l)) []) [] := by
  induction d with
  | zero =>
    intro i k hd hi hk
    obtain ⟨k, rfl⟩ : ∃ m, k = m + 1 := ⟨k - 1, by omega⟩
    simp only [path_Limit.l0]
    rw [if_neg (by omega), List.drop_eq_nil_of_le (by simp; omega), sort_f l (by omega)]
    simp only [Option.bind_some, List.all_nil, code, cond_true]
    have hs := sd_len l
    obtain ⟨r, h1, h2⟩ := limit_l1 (S := sd l) (by omega) M (fun s hs => by
      have := (sd_mem l (key s)).1 (List.mem_map_of_mem hs)
      obtain ⟨t, ht, e⟩ := List.mem_map.1 this
      have := hM t ht
      rw [key_inj e] at this
      exact this) (sd l).length 0 k [] (by omega) (by omega) (by simp) (by omega)
    exact ⟨r, h1, h2⟩
  | succ d ih =>
    intro i k hd hi hk
    obtain ⟨k, rfl⟩ : ∃ m, k = m + 1 := ⟨k - 1, by omega⟩
    have hlt : i < l.length := by omega
    have hm := hM l[i] (List.getElem_mem hlt)
    simp only [path_Limit.l0]
    rw [if_pos (by omega), if_pos (by omega), if_pos (by omega), rdOf_nat l i hlt, check_f hm.2 k (by omega), keys_drop hlt]
    simp only [Option.bind_some, List.all_cons]
    by_cases h : isP (key l[i]) = true
    · rw [h, if_pos (by rfl), wnat hlt (by omega)]
      simp only [Bool.true_and]
      exact ih (i + 1) k (by omega) (by omega) (by omega)
    · have h' : isP (key l[i]) = false := by simpa using h
      rw [h', if_neg (by decide)]
      exact ⟨[], by simp [code]⟩
theorem limit_f {l : List ByteArray} (M : Nat) (hM : ∀ s ∈ l, s.size < M ∧ s.size ≤ 140737488351232) (k : Nat) (hk : M + 100 < k) :
    ∃ r, path_Limit.f k l = some (r, limitC (keys l)) ∧ keys r = limitP (keys l) (keys (sd l)) := by
  unfold path_Limit.f limitP limitC
  by_cases h : l.length > 16
  · rw [if_pos (by omega), if_pos (by simpa using h)]
    exact ⟨[], rfl, by simp⟩
  · rw [if_neg (by omega), if_neg (by simpa using h)]
    obtain ⟨r, h1, h2⟩ := limit_l0 (l := l) (by omega) M hM l.length 0 k (by omega) (by omega) (by omega)
    rw [show ((0 : Nat) : Int) = 0 from rfl] at h1
    rw [List.drop_zero] at h1 h2
    refine ⟨r, ?_, ?_⟩
    · rw [h1]; cases (keys l).all isP <;> simp [code]
    · rw [h2]; cases (keys l).all isP <;> simp
theorem paths_f (l : List ByteArray) (h : l.length < 8796093022208) : path_Set_Paths.f l = some l := by simp [path_Set_Paths.f, clone_f l h]
theorem rd67 {l : List S38} {i : Nat} (h : i < l.length) : rd_T38 l (i : Int) = l[i] := by
  simp [rd_T38, List.getD_eq_getElem?_getD, h]
theorem bytes_len (p : ByteArray) : (bytesOf p).length = p.size := by simp [bytesOf]
def be8 (v : Int) : List Int := [(shr .u64 v 56) % 256, (shr .u64 v 48) % 256, (shr .u64 v 40) % 256, (shr .u64 v 32) % 256, (shr .u64 v 24) % 256, (shr .u64 v 16) % 256, (shr .u64 v 8) % 256, (shr .u64 v 0) % 256]
def entB (x : S38) : List Int := (x.f0.size : Int) % 256 :: (bytesOf x.f0 ++ be8 x.f1)
def keyE (x : S38) : K := key x.f0
theorem parts_ev (p : ByteArray) (hp : p.size ≤ 140737488351232) : ∃ ps, keys ps = partsK (key p) ∧ Ev (fun k => path_Parts.f k p) ps := by
  obtain ⟨r, h1, h2⟩ := parts_f hp (p.size + 1) (by omega)
  refine ⟨r, h2, p.size + 1, fun k hk => ?_⟩
  obtain ⟨r', h1', h2'⟩ := parts_f hp k (by omega)
  have : r' = r := by
    have e : keys r' = keys r := by rw [h2, h2']
    exact (List.map_inj_right (fun _ _ h => key_inj h)).1 e
  rw [← this]; exact h1'
theorem partsK_len (l : K) : (partsK l).length ≤ 6 := by
  unfold partsK
  split
  · rename_i h
    have := chk_count l 1 0 h
    rw [List.length_append, cuts_len2]; simp; omega
  · simp
abbrev ks (l : List S38) : List K := l.map keyE
theorem rise_get {l : List S38} (h : Rise (ks l)) (i j : Nat) (hij : i < j) (hj : j < l.length) : keyE (l[i]'(by omega)) < keyE l[j] := by
  have := List.pairwise_iff_getElem.1 h i j (by simp; omega) (by simp; omega) hij
  simpa using this
theorem lt_longer (d : K) (c : UInt8) (b : K) : d < d ++ c :: b := by
  induction d with
  | nil => exact List.nil_lt_cons _ _
  | cons a d ih => rw [List.cons_append, List.cons_lt_cons_iff]; exact .inr ⟨rfl, ih⟩
/-- d is a proper part of p. -/
def Part (p d : K) : Prop := ∃ b, p = d ++ 47 :: b
theorem part_lt {p d : K} (h : Part p d) : d < p := by
  obtain ⟨b, h⟩ := h
  rw [h]; exact lt_longer _ _ _
theorem under_iff (p d : K) : under p d = true ↔ p = d ∨ Part p d := by
  unfold under
  rw [Bool.and_eq_true, beq_iff_eq]
  constructor
  · rintro ⟨h1, h2⟩
    have e := List.take_append_drop d.length p
    rw [h1] at e
    cases hd : p.drop d.length with
    | nil => rw [hd, List.append_nil] at e; exact .inl e.symm
    | cons c b =>
      rw [hd] at e h2
      have hc : c = 47 := by simpa using h2
      exact .inr ⟨b, by rw [← e, hc]⟩
  · rintro (h | ⟨b, h⟩)
    · subst h; simp
    · subst h; simp
def okT (l : List S38) : Prop := Rise (ks l) ∧ ∀ x ∈ l, ∀ d, Part (keyE x) d → d ∉ ks l
theorem rise_of {l : List S38} (h : ∀ i, 0 < i → ∀ h : i < l.length, keyE (l[i - 1]'(by omega)) < keyE l[i]) : Rise (ks l) := by
  have H : ∀ d i, ∀ h : i + d + 1 < l.length, keyE (l[i]'(by omega)) < keyE l[i + d + 1] := by
    intro d
    induction d with
    | zero => intro i hi; exact h (i + 1) (by omega) hi
    | succ d ih => intro i hi; exact lt_tr (ih i (by omega)) (h (i + (d + 1) + 1) (by omega) hi)
  refine List.pairwise_iff_getElem.2 fun i j hi hj hij => ?_
  simp only [List.length_map] at hi hj
  have := H (j - i - 1) i (by omega)
  simp only [List.getElem_map]
  simpa only [show i + (j - i - 1) + 1 = j by omega] using this
/-- What the document's two loops look at. -/
theorem pairs_iff (l : List S38) : (∀ i k (hi : i < l.length) (hk : k < l.length), (i < k → keyE l[i] < keyE l[k]) ∧ (i ≠ k → under (keyE l[i]) (keyE l[k]) = false)) ↔ okT l := by
  constructor
  · intro h
    refine ⟨rise_of fun i h0 hi => (h (i - 1) i (by omega) hi).1 (by omega), fun x hx d hd hm => ?_⟩
    obtain ⟨i, hi, rfl⟩ := List.getElem_of_mem hx
    obtain ⟨y, hy, e⟩ := List.mem_map.1 hm
    obtain ⟨j, hj, rfl⟩ := List.getElem_of_mem hy
    by_cases c : i = j
    · subst c
      exact absurd (part_lt hd) (by rw [← e]; exact lt_irr _)
    · have := (h i j hi hj).2 c
      rw [Bool.eq_false_iff] at this
      exact this ((under_iff _ _).2 (.inr (by rw [e]; exact hd)))
  · rintro ⟨hR, hP⟩ i k hi hk
    refine ⟨fun h => rise_get hR i k h hk, fun h => ?_⟩
    rw [Bool.eq_false_iff]
    intro hu
    rcases (under_iff _ _).1 hu with e | e
    · rcases Nat.lt_or_ge i k with c | c
      · exact absurd (rise_get hR i k c hk) (by rw [e]; exact lt_irr _)
      · exact absurd (rise_get hR k i (by omega) hi) (by rw [e]; exact lt_irr _)
    · exact hP _ (List.getElem_mem hi) _ e (List.mem_map_of_mem (List.getElem_mem hk))
noncomputable def okB (l : List S38) : Bool := @decide (okT l) (Classical.propDecidable _)
theorem okB_iff (l : List S38) : okB l = true ↔ okT l := @decide_eq_true_iff _ (Classical.propDecidable _)
noncomputable def treeT (l : List S38) : List Int × Int :=
  if 64 < l.length then ([], 4) else if l.all (fun x => isP (keyE x)) then cond (okB l) (l.flatMap entB, 0) ([], 12) else ([], 2)
theorem rd107 {l : List S76} {i : Nat} (h : i < l.length) : rd_T76 l (i : Int) = l[i] := by
  simp [rd_T76, List.getD_eq_getElem?_getD, h]
def e107 (x : S38) : S76 := ⟨x.f0, x.f1⟩
theorem entries_l0 (l : List S38) (hl : l.length ≤ 5864062014634) : ∀ (d i : Nat) (acc : List S76), i + d = l.length → acc.length ≤ i → Ev (fun k => forebearlaw08_Entries.l0 k l acc (i : Int)) (acc ++ (l.drop i).map e107) := by
  intro d
  induction d with
  | zero =>
    intro i acc hi ha
    refine Ev.step (f := fun _ => some acc) (fun k => ?_) ?_
    · simp only [forebearlaw08_Entries.l0]
      rw [if_neg (by omega)]
    · rw [List.drop_eq_nil_of_le (by omega)]
      simpa using Ev.now acc
  | succ d ih =>
    intro i acc hi ha
    have hil : i < l.length := by omega
    refine Ev.step (f := fun k => forebearlaw08_Entries.l0 k l (acc ++ [e107 l[i]]) ((i + 1 : Nat) : Int)) (fun k => ?_) ?_
    · simp only [forebearlaw08_Entries.l0]
      rw [if_pos (by omega), if_pos (by omega), if_pos (by omega), rd67 hil, wnat hil (by omega)]; rfl
    · have := ih (i + 1) (acc ++ [e107 l[i]]) (by omega) (by simp; omega)
      rw [List.drop_eq_getElem_cons hil, List.map_cons]
      simpa using this
theorem entries_ev (l : List S38) (hl : l.length ≤ 5864062014634) : Ev (fun k => forebearlaw08_Entries.f k l) (l.map e107) := by
  have := entries_l0 l hl l.length 0 [] (by omega) (by simp)
  simpa [forebearlaw08_Entries.f] using this
def findE (a : ByteArray) : List S38 → Int × Bool
  | [] => (0, false)
  | x :: l => if x.f0.toList = a.toList then (x.f1, true) else findE a l
theorem wrap_u64 (n : Int) : IntKind.u64.wrap n = n % 18446744073709551616 := by simp [IntKind.wrap, IntKind.bits, IntKind.signed]
theorem u64_id {n : Int} (h0 : 0 ≤ n) (h1 : n < 18446744073709551616) : IntKind.u64.wrap n = n := by rw [wrap_u64]; omega
def Bytes (l : List Int) : Prop := ∀ y ∈ l, 0 ≤ y ∧ y < 256
theorem Bytes.take {a : List Int} (ha : Bytes a) (n : Nat) : Bytes (a.take n) := fun y hy => ha y (List.mem_of_mem_take hy)
theorem Bytes.drop {a : List Int} (ha : Bytes a) (n : Nat) : Bytes (a.drop n) := fun y hy => ha y (List.mem_of_mem_drop hy)
theorem u64_range {v : Int} (h : (Lit.int .u64 v).wf = true) : 0 ≤ v ∧ v < 18446744073709551616 := by
  simp only [Lit.wf, IntKind.min, IntKind.max, IntKind.signed, IntKind.bits] at h
  simp at h
  omega
theorem str_bytes (p : ByteArray) : strOfNums (bytesOf p) = p := by
  apply key_inj
  unfold key bytesOf
  rw [strOfNums_data, List.map_map]
  conv => rhs; rw [← List.map_id p.data.toList]
  refine List.map_congr_left fun y hy => ?_
  simp
theorem str_append (a b : List Int) : strOfNums a ++ strOfNums b = strOfNums (a ++ b) := by
  unfold strOfNums
  rw [List.map_append]
  apply ByteArray.ext
  simp
theorem be8_eq (v : Int) : be8 v = [v / 72057594037927936 % 256, v / 281474976710656 % 256, v / 1099511627776 % 256, v / 4294967296 % 256, v / 16777216 % 256, v / 65536 % 256, v / 256 % 256, v % 256] := by
  simp [be8, shr, IntKind.bits]
theorem be8_len (v : Int) : (be8 v).length = 8 := rfl
def low (n : Int) : Nat → List Int
  | 0 => []
  | d + 1 => low (n / 256) d ++ [n % 256]
theorem low8 (n : Int) : low n 8 = be8 n := by
  rw [be8_eq]
  simp only [low, List.nil_append, List.cons_append, List.cons.injEq, and_true]
  omega
theorem refnumber_l0 (m : Nat) (hm : m ≤ 8) : ∀ (d i : Nat) (u : Int), i + d = m → 0 ≤ u → u < 18446744073709551616 → ∀ ds : List Int, ds.length = i →
    Ev (fun k => forebearref07_Number.l0 k u (m : Int) (strOfNums ds) (i : Int)) (strOfNums (low u d ++ ds)) := by
  intro d
  induction d with
  | zero =>
    intro i u hi _ _ ds _
    refine Ev.step (f := fun _ => some (strOfNums ds)) (fun k => ?_) ?_
    · simp only [forebearref07_Number.l0]; rw [if_neg (by omega)]
    · exact Ev.now _
  | succ d ih =>
    intro i u hi h0 hu ds hds
    have hmd : Int.tmod u 256 % 256 = u % 256 := by rw [Int.tmod_eq_emod_of_nonneg h0]; omega
    have hq : IntKind.u64.wrap (Int.tdiv u 256) = u / 256 := by rw [Int.tdiv_eq_ediv_of_nonneg h0, u64_id (by omega) (by omega)]
    refine Ev.step (f := fun k => forebearref07_Number.l0 k (u / 256) (m : Int) (strOfNums (u % 256 :: ds)) ((i + 1 : Nat) : Int)) (fun k => ?_) ?_
    · simp only [forebearref07_Number.l0]
      rw [if_pos (by omega), hmd]
      simp only [Option.bind_some]
      rw [if_pos (by rw [strOfNums_size, strOfNums_size]; simp; omega), hq, wnat (show i < m by omega) (by omega), str_append]
      rfl
    · simp only [low]
      rw [List.append_assoc]
      exact ih (i + 1) (u / 256) (by omega) (by omega) (by omega) _ (by simp [hds])
theorem number8_ev (u : Int) (h0 : 0 ≤ u) (hu : u < 18446744073709551616) : Ev (fun k => forebearref07_Number.f k u 8) (strOfNums (be8 u)) := by
  have h := refnumber_l0 8 (by omega) 8 0 u (by omega) h0 hu [] rfl
  rw [List.append_nil, low8] at h
  exact h
theorem number1_ev (u : Int) (h0 : 0 ≤ u) (hu : u < 18446744073709551616) : Ev (fun k => forebearref07_Number.f k u 1) (strOfNums [u % 256]) := by
  have h := refnumber_l0 1 (by omega) 1 0 u (by omega) h0 hu [] rfl
  rw [List.append_nil] at h
  exact h
theorem treeT_ok {l : List S38} (h : (treeT l).2 = 0) : l.length ≤ 64 ∧ l.all (fun x => isP (keyE x)) = true ∧ okB l = true ∧ (treeT l).1 = l.flatMap entB := by
  unfold treeT at h ⊢
  split at h
  · simp at h
  · rename_i h64
    rw [if_neg h64]
    split at h
    · rename_i hp
      rw [if_pos hp]
      revert h; cases okB l
      · simp
      · intro _
        exact ⟨by omega, hp, rfl, rfl⟩
    · simp at h
theorem rdE {l : List S38} {i : Nat} (h : i < l.length) : rd_T76 (l.map e107) (i : Int) = e107 l[i] := by
  rw [rd107 (by rw [List.length_map]; exact h), List.getElem_map]
theorem entB_str (x : S38) : strOfNums (entB x) = strOfNums [(x.f0.size : Int) % 256] ++ x.f0 ++ strOfNums (be8 x.f1) := by
  have h : strOfNums (entB x) = strOfNums ([(x.f0.size : Int) % 256] ++ bytesOf x.f0 ++ be8 x.f1) := rfl
  rw [h, ← str_append, ← str_append, str_bytes]
/-- What the document's loops look at in the pair i, j. -/
def good (l : List S38) (i j : Nat) : Prop := ∀ (hi : i < l.length) (hj : j < l.length), (i < j → keyE l[i] < keyE l[j]) ∧ (i ≠ j → under (keyE l[i]) (keyE l[j]) = false)
theorem rtree_l2 (l : List S38) (hl : l.length ≤ 64) (acc : ByteArray) (i : Nat) (hi : i < l.length) (r : ByteArray × Int)
    (hr : Ev (fun k => forebearref08_Tree.l1 k (l.map e107) acc ((i + 1 : Nat) : Int)) r) : ∀ (d j : Nat), j + d = l.length →
    ∃ c : Bool, (c = true ↔ ∀ m, j ≤ m → m < l.length → good l i m) ∧ Ev (fun k => forebearref08_Tree.l2 k (l.map e107) acc (i : Int) (j : Int)) (cond c r (⟨#[]⟩, 12)) := by
  intro d
  have hlen : (l.map e107).length = l.length := List.length_map _
  induction d with
  | zero =>
    intro j hj
    refine ⟨true, by simp; intro m h1 h2; omega, ?_⟩
    refine Ev.step (fun k => ?_) hr
    simp only [forebearref08_Tree.l2]
    rw [if_neg (by omega), wnat hi (by omega)]
  | succ d ih =>
    intro j hj
    have hjl : j < l.length := by omega
    obtain ⟨c, hc, ec⟩ := ih (j + 1) (by omega)
    have hspl : ∀ b : Bool, (b = true ↔ good l i j) → (((b && c) = true) ↔ ∀ m, j ≤ m → m < l.length → good l i m) := by
      intro b hb
      rw [Bool.and_eq_true, hb, hc]
      constructor
      · rintro ⟨h1, h2⟩ m hm hml
        by_cases e : j = m
        · subst e; exact h1
        · exact h2 m (by omega) hml
      · intro h
        exact ⟨h j (Nat.le_refl _) hjl, fun m hm hml => h m (by omega) hml⟩
    have hkey : ∀ x : S38, key (e107 x).f0 = keyE x := fun x => rfl
    by_cases hlt : i < j
    · by_cases hb : keyE l[i] < keyE l[j]
      · refine ⟨!(under (keyE l[i]) (keyE l[j])) && c, hspl _ ?_, ?_⟩
        · rw [Bool.not_eq_true']
          exact ⟨fun h _ _ => ⟨fun _ => hb, fun _ => h⟩, fun h => (h hi hjl).2 (by omega)⟩
        · refine Ev.step (f := fun k => if under (keyE l[i]) (keyE l[j]) = true then (some ((⟨#[]⟩ : ByteArray), (12 : Int))) else (forebearref08_Tree.l2 k (l.map e107) acc (i : Int) ((j + 1 : Nat) : Int))) (fun k => ?_) ?_
          · simp only [forebearref08_Tree.l2]
            rw [if_pos (by omega), if_pos (by omega), if_pos (by omega), if_pos (by omega), if_pos (by omega), rdE hi, rdE hjl, if_pos (by rw [bytesLess_eq, decide_eq_true_eq, toList_key, toList_key]; exact hb), if_neg (by omega), refUnder_f, Option.bind_some, wnat hjl (by omega)]
            rfl
          · cases hu : under (keyE l[i]) (keyE l[j])
            · exact Ev.congr (fun k => if_neg (by decide)) (by simpa using ec)
            · exact Ev.congr (fun k => if_pos (by trivial)) (Ev.now _)
      · refine ⟨false && c, hspl _ ?_, ?_⟩
        · exact ⟨fun h => absurd h (by decide), fun h => absurd ((h hi hjl).1 hlt) hb⟩
        · refine Ev.step (f := fun k => some ((⟨#[]⟩ : ByteArray), (12 : Int))) (fun k => ?_) (Ev.now _)
          simp only [forebearref08_Tree.l2]
          rw [if_pos (by omega), if_pos (by omega), if_pos (by omega), if_pos (by omega), if_pos (by omega), rdE hi, rdE hjl, if_neg (by rw [bytesLess_eq, decide_eq_true_eq, toList_key, toList_key]; exact hb)]
    · by_cases he : i = j
      · subst he
        refine ⟨true && c, hspl _ ?_, ?_⟩
        · exact ⟨fun _ _ _ => ⟨fun h => absurd h (Nat.lt_irrefl _), fun h => absurd rfl h⟩, fun _ => rfl⟩
        · rw [Bool.true_and]
          refine Ev.step (fun k => ?_) ec
          simp only [forebearref08_Tree.l2]
          rw [if_pos (by omega), if_neg (by omega), if_pos (by trivial), wnat hjl (by omega)]
      · refine ⟨!(under (keyE l[i]) (keyE l[j])) && c, hspl _ ?_, ?_⟩
        · rw [Bool.not_eq_true']
          exact ⟨fun h _ _ => ⟨fun h2 => absurd h2 hlt, fun _ => h⟩, fun h => (h hi hjl).2 he⟩
        · refine Ev.step (f := fun k => if under (keyE l[i]) (keyE l[j]) = true then (some ((⟨#[]⟩ : ByteArray), (12 : Int))) else (forebearref08_Tree.l2 k (l.map e107) acc (i : Int) ((j + 1 : Nat) : Int))) (fun k => ?_) ?_
          · simp only [forebearref08_Tree.l2]
            rw [if_pos (by omega), if_neg (by omega), if_neg (by omega), if_pos (by omega), if_pos (by omega), if_pos (by omega), rdE hi, rdE hjl, refUnder_f, Option.bind_some, wnat hjl (by omega)]
            rfl
          · cases hu : under (keyE l[i]) (keyE l[j])
            · exact Ev.congr (fun k => if_neg (by decide)) (by simpa using ec)
            · exact Ev.congr (fun k => if_pos (by trivial)) (Ev.now _)
theorem rtree_l1 (l : List S38) (hl : l.length ≤ 64) (acc : ByteArray) : ∀ (d i : Nat), i + d = l.length →
    ∃ c : Bool, (c = true ↔ ∀ n, i ≤ n → n < l.length → ∀ m, m < l.length → good l n m) ∧ Ev (fun k => forebearref08_Tree.l1 k (l.map e107) acc (i : Int)) (cond c (acc, 0) (⟨#[]⟩, 12)) := by
  intro d
  have hlen : (l.map e107).length = l.length := List.length_map _
  induction d with
  | zero =>
    intro i hi
    refine ⟨true, by simp; intro m h1 h2; omega, ?_⟩
    refine Ev.step (f := fun _ => some (acc, 0)) (fun k => ?_) (Ev.now _)
    simp only [forebearref08_Tree.l1]
    rw [if_neg (by omega)]
  | succ d ih =>
    intro i hi
    have hil : i < l.length := by omega
    obtain ⟨c, hc, ec⟩ := ih (i + 1) (by omega)
    obtain ⟨c2, hc2, ec2⟩ := rtree_l2 l hl acc i hil _ ec l.length 0 (by omega)
    refine ⟨c2 && c, ?_, ?_⟩
    · rw [Bool.and_eq_true, hc, hc2]
      constructor
      · rintro ⟨h1, h2⟩ n hn hnl m hm
        by_cases e : i = n
        · subst e; exact h1 m (Nat.zero_le _) hm
        · exact h2 n (by omega) hnl m hm
      · intro h
        exact ⟨fun m _ hm => h i (Nat.le_refl _) hil m hm, fun n hn hnl m hm => h n (by omega) hnl m hm⟩
    · have e : cond (c2 && c) (acc, (0 : Int)) (⟨#[]⟩, 12) = cond c2 (cond c (acc, 0) (⟨#[]⟩, 12)) (⟨#[]⟩, 12) := by cases c2 <;> cases c <;> rfl
      rw [e]
      refine Ev.step (fun k => ?_) ec2
      simp only [forebearref08_Tree.l1]
      rw [if_pos (by omega)]
      rfl
theorem rtree_l0 (l : List S38) (hl : l.length ≤ 64) (hv : ∀ x ∈ l, 0 ≤ x.f1 ∧ x.f1 < 18446744073709551616) (r : ByteArray × Int) : ∀ (d i : Nat) (acc : List Int), i + d = l.length → acc.length ≤ 111 * i →
    Ev (fun k => forebearref08_Tree.l1 k (l.map e107) (strOfNums (acc ++ (l.drop i).flatMap entB)) 0) r →
    Ev (fun k => forebearref08_Tree.l0 k (l.map e107) (strOfNums acc) (i : Int)) (if (l.drop i).all (fun x => isP (keyE x)) then r else (⟨#[]⟩, 2)) := by
  intro d
  have hlen : (l.map e107).length = l.length := List.length_map _
  induction d with
  | zero =>
    intro i acc hi ha he
    rw [List.drop_eq_nil_of_le (by omega)] at he ⊢
    refine Ev.step (f := fun k => forebearref08_Tree.l1 k (l.map e107) (strOfNums acc) 0) (fun k => ?_) (by simpa using he)
    simp only [forebearref08_Tree.l0]
    rw [if_neg (by omega)]
  | succ d ih =>
    intro i acc hi ha he
    have hil : i < l.length := by omega
    obtain ⟨v0, v1⟩ := hv _ (List.getElem_mem hil)
    rw [List.drop_eq_getElem_cons hil] at he ⊢
    refine Ev.step (f := fun k => (forebearref03_Is.f k l[i].f0).bind fun t199 => (if t199 = true then ((forebearref07_Number.f k (IntKind.u64.wrap (l[i].f0.size : Int)) 1).bind fun t201 => (if (strOfNums acc).size + t201.size ≤ 9223372036854775807 then (if (strOfNums acc).size + t201.size + l[i].f0.size ≤ 9223372036854775807 then ((forebearref07_Number.f k l[i].f1 8).bind fun t204 => (if (strOfNums acc).size + t201.size + l[i].f0.size + t204.size ≤ 9223372036854775807 then (forebearref08_Tree.l0 k (l.map e107) (((strOfNums acc ++ t201) ++ l[i].f0) ++ t204) ((i + 1 : Nat) : Int)) else (none))) else (none)) else (none))) else (some ((⟨#[]⟩ : ByteArray), 2)))) (fun k => ?_) (Ev.bind (a := isP (keyE l[i])) ⟨4001, fun k hk => refIs_f k (by omega)⟩ ?_)
    · simp only [forebearref08_Tree.l0]
      rw [if_pos (by omega), if_pos (by omega), rdE hil, wnat hil (by omega)]; rfl
    · cases hP : isP (keyE l[i])
      · rw [List.all_cons, hP]
        exact Ev.congr (fun k => if_neg (by decide)) (Ev.now _)
      · rw [List.all_cons, hP, Bool.true_and]
        have h102 : l[i].f0.size ≤ 102 := by
          have := isP_size hP
          rwa [keyE, key_len] at this
        rw [u64_id (by omega) (by omega)]
        refine Ev.congr (fun k => if_pos rfl) (Ev.bind (number1_ev (l[i].f0.size : Int) (by omega) (by omega)) ?_)
        have s1 := strOfNums_size acc
        have s2 := strOfNums_size [(l[i].f0.size : Int) % 256]
        have s3 := strOfNums_size (be8 l[i].f1)
        rw [be8_len] at s3
        rw [List.length_singleton] at s2
        refine Ev.congr (fun k => by rw [if_pos (by omega), if_pos (by omega)]) (Ev.bind (number8_ev l[i].f1 v0 v1) ?_)
        refine Ev.congr (f := fun k => forebearref08_Tree.l0 k (l.map e107) (strOfNums (acc ++ entB l[i])) ((i + 1 : Nat) : Int)) (fun k => ?_) (ih (i + 1) (acc ++ entB l[i]) (by omega) (by simp [entB, bytes_len, be8]; omega) (by rw [List.append_assoc, ← List.flatMap_cons]; exact he))
        rw [if_pos (by omega), ← str_append, entB_str, ByteArray.append_assoc, ByteArray.append_assoc, ByteArray.append_assoc]
theorem reftree_ev (l : List S38) (hv : ∀ x ∈ l, 0 ≤ x.f1 ∧ x.f1 < 18446744073709551616) : Ev (fun k => forebearref08_Tree.f k (l.map e107)) (strOfNums (treeT l).1, (treeT l).2) := by
  unfold treeT
  have hlen : (l.map e107).length = l.length := List.length_map _
  by_cases h64 : 64 < l.length
  · rw [if_pos h64]
    refine Ev.congr (f := fun _ => some ((⟨#[]⟩ : ByteArray), (4 : Int))) (fun k => ?_) (Ev.now _)
    unfold forebearref08_Tree.f
    rw [if_pos (by omega)]
  · rw [if_neg h64]
    refine Ev.congr (f := fun k => forebearref08_Tree.l0 k (l.map e107) (strOfNums []) 0) (fun k => by unfold forebearref08_Tree.f; rw [if_neg (by omega)]; rfl) ?_
    obtain ⟨c, hc, ec⟩ := rtree_l1 l (by omega) (strOfNums (l.flatMap entB)) l.length 0 (by omega)
    have := rtree_l0 l (by omega) hv _ l.length 0 [] (by omega) (by simp) (by rw [List.drop_zero, List.nil_append]; exact ec)
    rw [List.drop_zero] at this
    by_cases hp : l.all (fun x => isP (keyE x)) = true
    · rw [if_pos hp] at this ⊢
      have hk : okB l = c := by
        rw [Bool.eq_iff_iff, okB_iff, hc, ← pairs_iff]
        exact ⟨fun h n _ hn m hm _ _ => h n m hn hm, fun h n m hn hm => h n (Nat.zero_le _) hn m hm hn hm⟩
      rw [hk]
      revert this
      cases c
      · exact id
      · exact id
    · rw [if_neg hp] at this ⊢
      exact this

theorem under_iffP (p d : K) : under p d = true ↔ ∃ t, p = d ++ t ∧ (t = [] ∨ ∃ s, t = 47 :: s) := by
  unfold under
  constructor
  · intro h
    simp only [Bool.and_eq_true, beq_iff_eq] at h
    obtain ⟨h1, h2⟩ := h
    refine ⟨p.drop d.length, ?_, ?_⟩
    · have := List.take_append_drop d.length p
      rw [h1] at this; exact this.symm
    · cases hz : p.drop d.length with
      | nil => exact .inl rfl
      | cons c s => rw [hz] at h2; exact .inr ⟨s, by simp at h2; rw [h2]⟩
  · rintro ⟨t, rfl, rfl | ⟨s, rfl⟩⟩ <;> simp
theorem under_trans {a b c : K} (h1 : under a b = true) (h2 : under b c = true) : under a c = true := by
  rw [under_iffP] at *
  obtain ⟨t, rfl, ht⟩ := h1
  obtain ⟨s, rfl, hs⟩ := h2
  refine ⟨s ++ t, by simp, ?_⟩
  rcases hs with rfl | ⟨u, rfl⟩
  · simpa using ht
  · exact .inr ⟨u ++ t, rfl⟩
theorem under_lt {a b : K} (h : under a b = true) (hne : b ≠ a) : b < a := by
  rw [under_iffP] at h
  obtain ⟨t, rfl, ht⟩ := h
  have hle : b ≤ b ++ t := by
    clear hne
    induction b with
    | nil => exact List.not_lt.1 (by simp)
    | cons x b ih => simpa [List.cons_le_cons_iff] using ih
  exact lt_of_le_ne hle hne
/-- No other one of the list is above x. -/
def topOf (S : List K) (x : K) : Prop := ∀ y ∈ S, y ≠ x → under x y = false
theorem keep_top {S : List K} (hp : ∀ x : K, x ∈ S → isP x = true) : ∀ (B A acc : List K), S = A ++ B → Rise S → (∀ x, x ∈ acc ↔ x ∈ A ∧ topOf A x) → (acc = [] → A = []) → Rise acc → (∀ x ∈ acc, ∀ y ∈ B, x < y) →
    Rise (keepL B acc) ∧ ∀ x, x ∈ keepL B acc ↔ x ∈ S ∧ topOf S x
  | [], A, acc, hS, hr, hm, hn, hra, hlt => by
    subst hS
    simp only [keepL, List.append_nil]
    exact ⟨hra, hm⟩
  | s :: t, A, acc, hS, hr, hm, hn, hra, hlt => by
    have hS' : S = (A ++ [s]) ++ t := by rw [hS]; simp
    have hr' := hr
    rw [hS] at hr'
    obtain ⟨-, hst, hAs⟩ := List.pairwise_append.1 hr'
    obtain ⟨hs1, hs2⟩ := List.pairwise_cons.1 hst
    have hsA : s ∉ A := fun h => lt_irr s (hAs s h s (by simp))
    -- s is above none of those ahead of it
    have hno : ∀ x ∈ A, under x s = false := by
      intro x hx
      cases e : under x s with
      | false => rfl
      | true =>
        have h1 := hAs x hx s (by simp)
        have h2 := under_lt e (fun e => by subst e; exact hsA hx)
        exact absurd (lt_tr h1 h2) (lt_irr x)
    -- what the kept ones have, all ahead have
    have hany : acc.any (under s) = true ↔ ¬ topOf A s := by
      rw [List.any_eq_true]
      constructor
      · rintro ⟨x, hx, hu⟩ ht
        have hxA := ((hm x).1 hx).1
        have := ht x hxA (fun e => hsA (e ▸ hxA))
        rw [hu] at this; cases this
      · intro ht
        -- the least of those above s
        have : ∃ y ∈ A, under s y = true ∧ topOf A y := by
          have hex : ∃ y ∈ A, under s y = true := by
            apply Classical.byContradiction
            intro hne
            apply ht
            intro y hy _
            cases e : under s y with
            | false => rfl
            | true => exact absurd ⟨y, hy, e⟩ hne
          obtain ⟨y, hy, hu⟩ := hex
          have hwf : ∀ (n : Nat) (y : K), y.length = n → y ∈ A → under s y = true → ∃ z ∈ A, under s z = true ∧ topOf A z := by
            intro n
            induction n using Nat.strongRecOn with
            | _ n ih =>
              intro y hn hy hu
              by_cases htop : topOf A y
              · exact ⟨y, hy, hu, htop⟩
              · have : ∃ z ∈ A, z ≠ y ∧ under y z = true := by
                  apply Classical.byContradiction
                  intro hne
                  apply htop
                  intro z hz hzy
                  cases e : under y z with
                  | false => rfl
                  | true => exact absurd ⟨z, hz, hzy, e⟩ hne
                obtain ⟨z, hz, hzy, hyz⟩ := this
                have hlen : z.length < n := by
                  obtain ⟨u, e, hu2⟩ := (under_iffP y z).1 hyz
                  rcases hu2 with rfl | ⟨v, rfl⟩
                  · exact absurd (by simpa using e.symm) hzy
                  · rw [← hn, e]; simp
                exact ih z.length hlen z rfl hz (under_trans hu hyz)
          exact hwf y.length y rfl hy hu
        obtain ⟨y, hy, hu, htop⟩ := this
        exact ⟨y, (hm y).2 ⟨hy, htop⟩, hu⟩
    have hps := hp s (by rw [hS]; simp)
    -- the relation one step on
    have hstep : ∀ x, (x ∈ A ++ [s] ∧ topOf (A ++ [s]) x) ↔ (x ∈ acc ∨ (x = s ∧ topOf A s)) := by
      intro x
      constructor
      · rintro ⟨h1, h2⟩
        rcases List.mem_append.1 h1 with h | h
        · exact .inl ((hm x).2 ⟨h, fun y hy hne => h2 y (List.mem_append_left _ hy) hne⟩)
        · obtain rfl : x = s := by simpa using h
          exact .inr ⟨rfl, fun y hy hne => h2 y (List.mem_append_left _ hy) hne⟩
      · rintro (h | ⟨rfl, h⟩)
        · obtain ⟨h1, h2⟩ := (hm x).1 h
          refine ⟨List.mem_append_left _ h1, fun y hy hne => ?_⟩
          rcases List.mem_append.1 hy with hy | hy
          · exact h2 y hy hne
          · obtain rfl : y = s := by simpa using hy
            exact hno x h1
        · refine ⟨by simp, fun y hy hne => ?_⟩
          rcases List.mem_append.1 hy with hy | hy
          · exact h y hy hne
          · exact absurd (by simpa using hy) hne
    simp only [keepL]
    by_cases h0 : acc = []
    · rw [if_pos h0]
      have hA := hn h0
      subst hA
      subst h0
      refine keep_top hp t ([] ++ [s]) [s] hS' hr (fun x => ?_) (by simp) (List.pairwise_singleton _ _) (fun x hx y hy => by
        obtain rfl : x = s := by simpa using hx
        exact hs1 y hy)
      rw [hstep]
      simp [topOf]
    · rw [if_neg h0]
      have hh : hasS acc s = acc.any (under s) := by
        unfold hasS
        have : acc.isEmpty = false := by simpa using h0
        rw [hps, this]; simp
      rw [hh]
      by_cases h1 : acc.any (under s) = true
      · rw [if_pos h1]
        refine keep_top hp t (A ++ [s]) acc hS' hr (fun x => ?_) (fun e => absurd e h0) hra (fun x hx y hy => hlt x hx y (List.mem_cons_of_mem _ hy))
        rw [hstep]
        have := hany.1 h1
        simp [this]
      · rw [if_neg h1]
        have htop : topOf A s := Classical.byContradiction fun h => h1 (hany.2 h)
        refine keep_top hp t (A ++ [s]) (acc ++ [s]) hS' hr (fun x => ?_) (by simp) ?_ ?_
        · rw [hstep]; simp [htop]
        · refine List.pairwise_append.2 ⟨hra, List.pairwise_singleton _ _, fun x hx y hy => ?_⟩
          obtain rfl : y = s := by simpa using hy
          exact hlt x hx y (by simp)
        · intro x hx y hy
          rcases List.mem_append.1 hx with hx | hx
          · exact hlt x hx y (List.mem_cons_of_mem _ hy)
          · obtain rfl : x = s := by simpa using hx
            exact hs1 y hy
def keyC (c : S51) : K := key c.f0
def blob (l : List S38) (p : ByteArray) : Int := (findE p l).1
theorem blob_head (x : S38) (l : List S38) (p : ByteArray) (h : key x.f0 = key p) : blob (x :: l) p = x.f1 := by
  unfold blob findE
  rw [if_pos (by rw [toList_key, toList_key]; exact h)]
theorem blob_tail (x : S38) (l : List S38) (p : ByteArray) (h : key x.f0 ≠ key p) : blob (x :: l) p = blob l p := by
  unfold blob
  rw [findE, if_neg (by rw [toList_key, toList_key]; exact h)]
theorem blob_none : ∀ (l : List S38) (p : ByteArray), key p ∉ ks l → blob l p = 0
  | [], p, _ => rfl
  | x :: l, p, h => by
    rw [blob_tail _ _ _ (fun e => h (by simp [keyE, e]))]
    exact blob_none l p (fun hm => h (List.mem_cons_of_mem _ hm))
theorem bless (x y : ByteArray) : Op.bytesLess x.toList y.toList = true ↔ key x < key y := by rw [bytesLess_eq, decide_eq_true_eq, toList_key, toList_key]
theorem plt (x y : ByteArray) : pathLt x y = true ↔ key x < key y := bless x y
/-- What mg tells: each path once, rising, with its two blobs. -/
structure MgS (m : List S51) (a b : List S38) : Prop where
  rise : m.Pairwise fun c d => keyC c < keyC d
  of : ∀ c ∈ m, (keyC c ∈ ks a ∨ keyC c ∈ ks b) ∧ c.f1 = blob a c.f0 ∧ c.f2 = blob b c.f0
  all : ∀ k, (k ∈ ks a ∨ k ∈ ks b) → ∃ c ∈ m, keyC c = k
theorem rise_cons {x : S38} {a : List S38} (h : Rise (ks (x :: a))) : (∀ k ∈ ks a, key x.f0 < k) ∧ Rise (ks a) := by
  have := List.pairwise_cons.mp (show Rise (key x.f0 :: ks a) from h)
  exact this
theorem MgS.nil : MgS [] [] [] := ⟨List.Pairwise.nil, fun c hc => by simp at hc, fun k hk => by simp at hk⟩
theorem MgS.left {m : List S51} {x : S38} {a b : List S38} (h : MgS m a b) (ha : ∀ k ∈ ks a, key x.f0 < k) (hb : ∀ k ∈ ks b, key x.f0 < k) : MgS (⟨x.f0, x.f1, 0⟩ :: m) (x :: a) b := by
  have hgt : ∀ c ∈ m, key x.f0 < keyC c := fun c hc => (h.of c hc).1.elim (ha _) (hb _)
  refine ⟨List.pairwise_cons.mpr ⟨fun c hc => hgt c hc, h.rise⟩, fun c hc => ?_, fun k hk => ?_⟩
  · rcases List.mem_cons.mp hc with rfl | hc
    · exact ⟨Or.inl (by simp [keyC, keyE]), (blob_head x a x.f0 rfl).symm, (blob_none b x.f0 (fun hm => lt_irr _ (hb _ hm))).symm⟩
    · obtain ⟨h1, h2, h3⟩ := h.of c hc
      refine ⟨h1.elim (fun h => Or.inl (List.mem_cons_of_mem _ h)) Or.inr, ?_, h3⟩
      rw [blob_tail x a c.f0 (fun e => lt_irr (keyC c) (by have := hgt c hc; rw [e] at this; exact this))]
      exact h2
  · have hk : k = key x.f0 ∨ (k ∈ ks a ∨ k ∈ ks b) := by
      rcases hk with hk | hk
      · rcases List.mem_cons.mp (show k ∈ key x.f0 :: ks a from hk) with e | e
        · exact Or.inl e
        · exact Or.inr (Or.inl e)
      · exact Or.inr (Or.inr hk)
    rcases hk with rfl | hk
    · exact ⟨_, List.mem_cons_self .., rfl⟩
    · obtain ⟨c, hc, e⟩ := h.all k hk
      exact ⟨c, List.mem_cons_of_mem _ hc, e⟩
theorem MgS.right {m : List S51} {y : S38} {a b : List S38} (h : MgS m a b) (ha : ∀ k ∈ ks a, key y.f0 < k) (hb : ∀ k ∈ ks b, key y.f0 < k) : MgS (⟨y.f0, 0, y.f1⟩ :: m) a (y :: b) := by
  have hgt : ∀ c ∈ m, key y.f0 < keyC c := fun c hc => (h.of c hc).1.elim (ha _) (hb _)
  refine ⟨List.pairwise_cons.mpr ⟨fun c hc => hgt c hc, h.rise⟩, fun c hc => ?_, fun k hk => ?_⟩
  · rcases List.mem_cons.mp hc with rfl | hc
    · exact ⟨Or.inr (by simp [keyC, keyE]), (blob_none a y.f0 (fun hm => lt_irr _ (ha _ hm))).symm, (blob_head y b y.f0 rfl).symm⟩
    · obtain ⟨h1, h2, h3⟩ := h.of c hc
      refine ⟨h1.elim Or.inl (fun h => Or.inr (List.mem_cons_of_mem _ h)), h2, ?_⟩
      rw [blob_tail y b c.f0 (fun e => lt_irr (keyC c) (by have := hgt c hc; rw [e] at this; exact this))]
      exact h3
  · have hk : k = key y.f0 ∨ (k ∈ ks a ∨ k ∈ ks b) := by
      rcases hk with hk | hk
      · exact Or.inr (Or.inl hk)
      · rcases List.mem_cons.mp (show k ∈ key y.f0 :: ks b from hk) with e | e
        · exact Or.inl e
        · exact Or.inr (Or.inr e)
    rcases hk with rfl | hk
    · exact ⟨_, List.mem_cons_self .., rfl⟩
    · obtain ⟨c, hc, e⟩ := h.all k hk
      exact ⟨c, List.mem_cons_of_mem _ hc, e⟩
theorem MgS.both {m : List S51} {x y : S38} {a b : List S38} (h : MgS m a b) (e : key y.f0 = key x.f0) (ha : ∀ k ∈ ks a, key x.f0 < k) (hb : ∀ k ∈ ks b, key x.f0 < k) : MgS (⟨x.f0, x.f1, y.f1⟩ :: m) (x :: a) (y :: b) := by
  have hgt : ∀ c ∈ m, key x.f0 < keyC c := fun c hc => (h.of c hc).1.elim (ha _) (hb _)
  refine ⟨List.pairwise_cons.mpr ⟨fun c hc => hgt c hc, h.rise⟩, fun c hc => ?_, fun k hk => ?_⟩
  · rcases List.mem_cons.mp hc with rfl | hc
    · exact ⟨Or.inl (by simp [keyC, keyE]), (blob_head x a x.f0 rfl).symm, (blob_head y b x.f0 e).symm⟩
    · obtain ⟨h1, h2, h3⟩ := h.of c hc
      have hne : key x.f0 ≠ key c.f0 := fun e => lt_irr (keyC c) (by have := hgt c hc; rw [e] at this; exact this)
      refine ⟨h1.elim (fun h => Or.inl (List.mem_cons_of_mem _ h)) (fun h => Or.inr (List.mem_cons_of_mem _ h)), ?_, ?_⟩
      · rw [blob_tail x a c.f0 hne]; exact h2
      · rw [blob_tail y b c.f0 (by rw [e]; exact hne)]; exact h3
  · have hk : k = key x.f0 ∨ (k ∈ ks a ∨ k ∈ ks b) := by
      rcases hk with hk | hk
      · rcases List.mem_cons.mp (show k ∈ key x.f0 :: ks a from hk) with e | e
        · exact Or.inl e
        · exact Or.inr (Or.inl e)
      · rcases List.mem_cons.mp (show k ∈ key y.f0 :: ks b from hk) with e' | e'
        · exact Or.inl (e'.trans e)
        · exact Or.inr (Or.inr e')
    rcases hk with rfl | hk
    · exact ⟨_, List.mem_cons_self .., rfl⟩
    · obtain ⟨c, hc, e⟩ := h.all k hk
      exact ⟨c, List.mem_cons_of_mem _ hc, e⟩
theorem mg_spec : ∀ (d : Nat) (a b : List S38), Rise (ks a) → Rise (ks b) → a.length + b.length ≤ d → MgS (mg d a b) a b
  | 0, [], [], _, _, _ => MgS.nil
  | 0, x :: a, b, _, _, h => by simp at h
  | 0, [], y :: b, _, _, h => by simp at h
  | d + 1, [], [], _, _, _ => MgS.nil
  | d + 1, x :: a, [], ha, hb, h => by
    obtain ⟨h1, h2⟩ := rise_cons ha
    exact (mg_spec d a [] h2 hb (by simp at h ⊢; omega)).left h1 (by simp)
  | d + 1, [], y :: b, ha, hb, h => by
    obtain ⟨h1, h2⟩ := rise_cons hb
    exact (mg_spec d [] b ha h2 (by simp at h ⊢; omega)).right (by simp) h1
  | d + 1, x :: a, y :: b, ha, hb, h => by
    obtain ⟨h1, h2⟩ := rise_cons ha
    obtain ⟨h3, h4⟩ := rise_cons hb
    simp only [List.length_cons] at h
    rw [mg]
    by_cases c1 : pathLt x.f0 y.f0 = true
    · rw [if_pos c1]
      have c1 := (plt _ _).mp c1
      refine (mg_spec d a (y :: b) h2 hb (by simp; omega)).left h1 (fun k hk => ?_)
      rcases List.mem_cons.mp (show k ∈ key y.f0 :: ks b from hk) with rfl | hk
      · exact c1
      · exact lt_tr c1 (h3 k hk)
    · rw [if_neg c1]
      by_cases c2 : pathLt y.f0 x.f0 = true
      · rw [if_pos c2]
        have c2 := (plt _ _).mp c2
        refine (mg_spec d (x :: a) b ha h4 (by simp; omega)).right (fun k hk => ?_) h3
        rcases List.mem_cons.mp (show k ∈ key x.f0 :: ks a from hk) with rfl | hk
        · exact c2
        · exact lt_tr c2 (h1 k hk)
      · rw [if_neg c2]
        have e : key y.f0 = key x.f0 := by
          rcases lt_or_eq_or_gt (key x.f0) (key y.f0) with h | h | h
          · exact absurd ((plt _ _).mpr h) c1
          · exact h.symm
          · exact absurd ((plt _ _).mpr h) c2
        exact (mg_spec d a b h2 h4 (by omega)).both e h1 (fun k hk => by rw [← e]; exact h3 k hk)
def Nz (l : List S38) : Prop := ∀ x ∈ l, x.f1 ≠ 0
theorem key_mem : ∀ {l : List S38} {k : K}, k ∈ ks l → ∃ x ∈ l, key x.f0 = k
  | l, k, h => by
    obtain ⟨x, hx, e⟩ := List.mem_map.mp h
    exact ⟨x, hx, e⟩
noncomputable def okR (l : List S38) : Bool := l.all (fun x => decide (x.f1 ≠ 0)) && ((treeT l).2 == 0)
theorem is_l0 (l : List S38) (hl : l.length ≤ 5864062014634) (hv : ∀ x ∈ l, 0 ≤ x.f1 ∧ x.f1 < 18446744073709551616) : ∀ (d i : Nat), i + d = l.length → Ev (fun k => forebearref10_Is.l0 k (l.map e107) (i : Int)) ((l.drop i).all (fun x => decide (x.f1 ≠ 0)) && ((treeT l).2 == 0)) := by
  intro d
  induction d with
  | zero =>
    intro i hi
    rw [List.drop_eq_nil_of_le (by omega)]
    refine Ev.step (f := fun k => (forebearref08_Tree.f k (l.map e107)).bind fun t => some (t.2 == 0)) (fun k => ?_) (Ev.bind (reftree_ev l hv) ?_)
    · simp only [forebearref10_Is.l0]
      rw [if_neg (by rw [List.length_map]; omega)]
    · simpa using Ev.now _
  | succ d ih =>
    intro i hi
    have hil : i < l.length := by omega
    rw [List.drop_eq_getElem_cons hil, List.all_cons]
    by_cases c : l[i].f1 = 0
    · refine Ev.step (f := fun _ => some false) (fun k => ?_) (by simpa [c] using Ev.now _)
      simp only [forebearref10_Is.l0]
      rw [if_pos (by rw [List.length_map]; omega), if_pos (by omega), rdE hil, if_pos (show (e107 l[i]).f1 = 0 from c)]
    · refine Ev.step (f := fun k => forebearref10_Is.l0 k (l.map e107) ((i + 1 : Nat) : Int)) (fun k => ?_) (by have := ih (i + 1) (by omega); simpa [c] using this)
      simp only [forebearref10_Is.l0]
      rw [if_pos (by rw [List.length_map]; omega), if_pos (by omega), rdE hil, if_neg (show ¬ (e107 l[i]).f1 = 0 from c), wnat hil (by omega)]
theorem is_ev (l : List S38) (hl : l.length ≤ 5864062014634) (hv : ∀ x ∈ l, 0 ≤ x.f1 ∧ x.f1 < 18446744073709551616) : Ev (fun k => forebearref10_Is.f k (l.map e107)) (okR l) := by
  have := is_l0 l hl hv l.length 0 (by omega)
  simpa [forebearref10_Is.f, okR] using this
theorem right_ev (a b : List S38) (ha : a.length ≤ 5864062014634) (hva : ∀ x ∈ a, 0 ≤ x.f1 ∧ x.f1 < 18446744073709551616) (hb : b.length ≤ 5864062014634) (hvb : ∀ x ∈ b, 0 ≤ x.f1 ∧ x.f1 < 18446744073709551616) : Ev (fun k => forebearlaw10_right.f k a b) (okR a && okR b) := by
  refine Ev.congr (fun k => by unfold forebearlaw10_right.f; rfl) (Ev.bind (entries_ev a ha) (Ev.bind (is_ev a ha hva) ?_))
  cases h : okR a
  · exact Ev.congr (fun k => if_neg (by simp)) (by simpa using Ev.now _)
  · exact Ev.congr (fun k => if_pos rfl) (Ev.bind (entries_ev b hb) (Ev.bind (is_ev b hb hvb) (by simpa using Ev.now _)))
/-- A tree that is right. -/
structure OkL (l : List S38) : Prop where
  len : l.length ≤ 64
  paths : ∀ x ∈ l, isP (keyE x) = true
  rise : Rise (ks l)
  nz : Nz l
  ok : (treeT l).2 = 0
theorem okR_ok {l : List S38} (h : okR l = true) : OkL l := by
  unfold okR at h
  obtain ⟨h1, h2⟩ := Bool.and_eq_true_iff.mp h
  have h2 : (treeT l).2 = 0 := by simpa using h2
  obtain ⟨t1, t2, t3, _⟩ := treeT_ok h2
  exact ⟨t1, fun x hx => by simpa using List.all_eq_true.mp t2 x hx, ((okB_iff l).mp t3).1, fun x hx => by simpa using List.all_eq_true.mp h1 x hx, h2⟩
theorem OkL.size {l : List S38} (h : OkL l) : ∀ x ∈ l, x.f0.size ≤ 102 := fun x hx => by have := isP_size (h.paths x hx); rwa [keyE, key_len] at this
theorem has_ev (lim : List ByteArray) (p : ByteArray) (hp : p.size ≤ 140737488351232) (hl : lim.length ≤ 1000) : Ev (fun k => path_Set_Has.f k lim p) (hasS (keys lim) (key p)) := ⟨p.size + lim.length + 1, fun k hk => has_f hp (by omega) k (by omega) (by omega)⟩
theorem dgo_ev (lim : List ByteArray) (hl : lim.length ≤ 1000) : ∀ (m out : List S51), (∀ c ∈ m, c.f0.size ≤ 140737488351232) → out.length + m.length ≤ 1000000 → Ev (fun k => dgo k lim m out) (out ++ m.filter fun c => decide (c.f1 ≠ c.f2) && hasS (keys lim) (key c.f0))
  | [], out, _, _ => by simpa using Ev.congr (fun k => by rw [dgo]) (Ev.now out)
  | c :: m, out, hs, hn => by
    have hs' : ∀ c ∈ m, c.f0.size ≤ 140737488351232 := fun x hx => hs x (List.mem_cons_of_mem _ hx)
    simp only [List.length_cons] at hn
    by_cases e : c.f1 = c.f2
    · rw [List.filter_cons_of_neg (by simp [e])]
      exact Ev.congr (fun k => by rw [dgo, if_pos e]) (dgo_ev lim hl m out hs' (by omega))
    · refine Ev.congr (fun k => by rw [dgo, if_neg e]) (Ev.bind (has_ev lim c.f0 (hs c (List.mem_cons_self ..)) hl) ?_)
      cases h : hasS (keys lim) (key c.f0)
      · rw [List.filter_cons_of_neg (by simp [h])]
        exact Ev.congr (fun k => if_neg (by simp)) (dgo_ev lim hl m out hs' (by omega))
      · rw [List.filter_cons_of_pos (by simp [h, e])]
        refine Ev.congr (fun k => by rw [if_pos rfl, if_pos (by omega)]) ?_
        have := dgo_ev lim hl m (out ++ [c]) hs' (by simp; omega)
        simpa using this
def difL (a b : List S38) (S : List K) : List S51 := (mg (a.length + b.length) a b).filter fun c => decide (c.f1 ≠ c.f2) && hasS S (key c.f0)
theorem mg_size {a b : List S38} (ha : OkL a) (hb : OkL b) : ∀ c ∈ mg (a.length + b.length) a b, isP (keyC c) = true ∧ c.f0.size ≤ 102 := fun c hc => by
  have h := mg_spec (a.length + b.length) a b ha.rise hb.rise (Nat.le_refl _)
  have : isP (keyC c) = true := by
    rcases (h.of c hc).1 with h | h
    · obtain ⟨x, hx, e⟩ := key_mem h; rw [← e]; exact ha.paths x hx
    · obtain ⟨x, hx, e⟩ := key_mem h; rw [← e]; exact hb.paths x hx
  exact ⟨this, by have h2 := isP_size this; rwa [keyC, key_len] at h2⟩
theorem diff_ev {a b : List S38} (ha : OkL a) (hb : OkL b) (lim : List ByteArray) (hl : lim.length ≤ 1000) : Ev (fun k => tree_Diff.f k a b lim) (difL a b (keys lim)) := by
  have := dgo_ev lim hl (mg (a.length + b.length) a b) [] (fun c hc => by have := (mg_size ha hb c hc).2; omega) (by have := mg_length (a.length + b.length) a b; have := ha.len; have := hb.len; simp; omega)
  exact Ev.congr (fun k => by unfold tree_Diff.f; rfl) (by simpa [difL] using this)
theorem difL_len {a b : List S38} (ha : OkL a) (hb : OkL b) (S : List K) : (difL a b S).length ≤ 128 := by
  have h1 := List.length_filter_le (fun c : S51 => decide (c.f1 ≠ c.f2) && hasS S (key c.f0)) (mg (a.length + b.length) a b)
  have h2 := mg_length (a.length + b.length) a b
  have := ha.len; have := hb.len
  unfold difL
  omega
theorem keys_inj {u v : List ByteArray} (h : keys u = keys v) : u = v := (List.map_inj_right (fun a b h => key_inj h)).mp h
theorem rd51 {l : List S51} {i : Nat} (h : i < l.length) : rd_T51 l (i : Int) = l[i] := by
  simp [rd_T51, List.getD_eq_getElem?_getD, h]
def partsC (c : S51) : List K := partsK (key c.f0)
theorem sort_ev (l : List ByteArray) (h : l.length < 4000000000000) : Ev (fun _ => path_Sort.f l) (sd l) := ⟨0, fun _ _ => sort_f l h⟩
theorem touched_l0 (L : List S51) (hL : L.length ≤ 200) (hs : ∀ c ∈ L, c.f0.size ≤ 140737488351232) : ∀ (d i : Nat) (acc : List ByteArray), i + d = L.length → acc.length ≤ 6 * i →
    ∃ ps, Ev (fun k => tree_Touched.l0 k acc L (L.length : Int) (i : Int)) (sd ps) ∧ keys ps = keys acc ++ (L.drop i).flatMap partsC := by
  intro d
  induction d with
  | zero =>
    intro i acc hi ha
    refine ⟨acc, Ev.step (f := fun k => (path_Sort.f acc).bind fun t => some t) (fun k => ?_) (Ev.bind (sort_ev acc (by omega)) (Ev.now _)), ?_⟩
    · simp only [tree_Touched.l0]
      rw [if_neg (by omega)]
    · rw [List.drop_eq_nil_of_le (by omega)]; simp
  | succ d ih =>
    intro i acc hi ha
    have hil : i < L.length := by omega
    obtain ⟨ps1, hk, e1⟩ := parts_ev L[i].f0 (hs _ (List.getElem_mem hil))
    have hl1 : ps1.length ≤ 6 := by
      have := partsK_len (key L[i].f0)
      rw [← hk, keys, List.length_map] at this
      exact this
    obtain ⟨ps, e2, hk2⟩ := ih (i + 1) (acc ++ ps1) (by omega) (by simp; omega)
    refine ⟨ps, Ev.step (f := fun k => (path_Parts.f k L[i].f0).bind fun t161 => (if acc.length + t161.length < 8796093022208 then (tree_Touched.l0 k (acc ++ t161) L (L.length : Int) ((i + 1 : Nat) : Int)) else (none))) (fun k => ?_) (Ev.bind e1 (Ev.congr (fun k => if_pos (by omega)) e2)), ?_⟩
    · simp only [tree_Touched.l0]
      rw [if_pos (by omega), if_pos (by omega), if_pos (by omega), rd51 hil, wnat hil (by omega)]
    · rw [hk2, List.drop_eq_getElem_cons hil, List.flatMap_cons]
      simp [keys, List.append_assoc, partsC, ← hk]
theorem touched_ev (L : List S51) (hL : L.length ≤ 200) (hs : ∀ c ∈ L, c.f0.size ≤ 140737488351232) : ∃ ps, Ev (fun k => tree_Touched.f k L) (sd ps) ∧ keys ps = L.flatMap partsC := by
  obtain ⟨ps, e, hk⟩ := touched_l0 L hL hs L.length 0 [] (by omega) (by simp)
  exact ⟨ps, by simpa [tree_Touched.f] using e, by simpa using hk⟩
def awA : List S38 := [⟨(⟨#[120]⟩ : ByteArray), 1⟩, ⟨(⟨#[121]⟩ : ByteArray), 2⟩]
def awB : List S38 := [⟨(⟨#[121]⟩ : ByteArray), 3⟩, ⟨(⟨#[122]⟩ : ByteArray), 1⟩]
def awD : List S51 := [⟨(⟨#[120]⟩ : ByteArray), 1, 0⟩, ⟨(⟨#[121]⟩ : ByteArray), 2, 3⟩, ⟨(⟨#[122]⟩ : ByteArray), 0, 1⟩]
theorem aw_mg : mg 4 awA awB = awD := by
  have h1 : pathLt (⟨#[120]⟩ : ByteArray) ⟨#[121]⟩ = true := by decide +kernel
  have h2 : pathLt (⟨#[121]⟩ : ByteArray) ⟨#[121]⟩ = false := by decide +kernel
  simp [mg, awA, awB, awD, h1, h2]
theorem aw_diff : Ev (fun k => tree_Diff.f k awA awB []) awD := by
  refine Ev.congr (fun k => by unfold tree_Diff.f; rw [show awA.length + awB.length = 4 from rfl, aw_mg]) ?_
  have := dgo_ev [] (by simp) awD [] (fun c hc => ?_) (by simp [awD])
  · have e : awD.filter (fun c => decide (c.f1 ≠ c.f2) && hasS (keys []) (key c.f0)) = awD := by
      have h1 : hasS [] (key (⟨#[120]⟩ : ByteArray)) = true := by decide +kernel
      have h2 : hasS [] (key (⟨#[121]⟩ : ByteArray)) = true := by decide +kernel
      have h3 : hasS [] (key (⟨#[122]⟩ : ByteArray)) = true := by decide +kernel
      simp [awD, h1, h2, h3]
    rw [e] at this
    simpa using this
  · simp [awD] at hc
    rcases hc with rfl | rfl | rfl <;> decide
theorem aw_find (l : List S38) (p : ByteArray) (r : Int × Bool) (h : object_Find.f 40 l p = some r) : Ev (fun k => object_Find.f k l p) r := Ev.of (fun k => object_Find.mono l p k) h
theorem aw_moves : tree_Moves.f 0 awA awB = some [⟨(⟨#[120]⟩ : ByteArray), (⟨#[122]⟩ : ByteArray)⟩] := by
  unfold tree_Moves.f
  rw [if_pos ⟨by simp [awA, awB], by decide +kernel, by decide +kernel⟩]
  unfold movesOf
  rw [show awA.length + awB.length = 4 from rfl, aw_mg]
  simp [awD, mv2, addG]
theorem aw_origin : Ev (fun k => tree_Origin.f k awA awB (⟨#[122]⟩ : ByteArray)) ((⟨#[120]⟩ : ByteArray), true) := by
  refine Ev.congr (fun k => by unfold tree_Origin.f; rfl) (Ev.bind (aw_find awB _ (1, true) (by decide +kernel)) ?_)
  refine Ev.congr (fun k => if_pos rfl) (Ev.bind (aw_find awA _ (0, false) (by decide +kernel)) ?_)
  refine Ev.congr (fun k => if_neg (by simp)) (Ev.bind (⟨0, fun k _ => aw_moves⟩ : Ev (fun k => tree_Moves.f k awA awB) _) ?_)
  exact Ev.of (fun k => (tree_Origin.mono_l k) _ _ _ _) (k := 5) (by decide +kernel)
theorem aw_apply : Ev (fun k => tree_Apply.f k awA [⟨(⟨#[120]⟩ : ByteArray), 1, 0⟩]) ([⟨(⟨#[121]⟩ : ByteArray), 2⟩], 0) := by
  refine Ev.congr (fun k => by unfold tree_Apply.f; rw [if_pos ⟨by simp [awA], by decide +kernel, by decide +kernel⟩, ap0]) (Ev.bind (aw_find awA _ (1, true) (by decide +kernel)) ?_)
  refine Ev.congr (fun k => by rw [if_neg (by decide), if_neg (by simp), if_neg (by simp), ap0]) ?_
  have e : ap1 [(⟨#[120]⟩ : ByteArray)] awA [] = [⟨(⟨#[121]⟩ : ByteArray), 2⟩] := by
    have h1 : doneB [(⟨#[120]⟩ : ByteArray)] (⟨#[120]⟩ : ByteArray) = true := by decide +kernel
    have h2 : doneB [(⟨#[120]⟩ : ByteArray)] (⟨#[121]⟩ : ByteArray) = false := by decide +kernel
    simp [ap1, awA, h1, h2]
  rw [e]
  have es : srtE [(⟨(⟨#[121]⟩ : ByteArray), 2⟩ : S38)] = [⟨(⟨#[121]⟩ : ByteArray), 2⟩] := by simp [srtE]
  obtain ⟨r, hr, h0⟩ : ∃ r, object_Tree.f 60 [(⟨(⟨#[121]⟩ : ByteArray), 2⟩ : S38)] = some r ∧ r.2 = 0 := by
    have : (object_Tree.f 60 [(⟨(⟨#[121]⟩ : ByteArray), 2⟩ : S38)]).map (·.2) = some 0 := by decide +kernel
    obtain ⟨r, h1, h2⟩ := Option.map_eq_some_iff.mp this
    exact ⟨r, h1, h2⟩
  refine Ev.congr (fun k => by unfold ap2; rw [if_pos (by simp), es]) (Ev.bind (Ev.of (fun k => object_Tree.mono _ k) hr) ?_)
  exact Ev.congr (fun k => if_neg (by simpa using h0)) (Ev.now _)
theorem aw_touched : ∃ r : List ByteArray, Ev (fun k => tree_Touched.f k [⟨(⟨#[112, 47, 113]⟩ : ByteArray), 0, 0⟩]) r ∧ r.length = 2 := by
  obtain ⟨ps, e, hk⟩ := touched_ev [⟨(⟨#[112, 47, 113]⟩ : ByteArray), 0, 0⟩] (by simp) (fun c hc => by simp at hc; subst hc; decide)
  refine ⟨_, e, ?_⟩
  have hp : [(⟨(⟨#[112, 47, 113]⟩ : ByteArray), 0, 0⟩ : S51)].flatMap partsC = [[112], [112, 47, 113]] := by decide +kernel
  rw [hp] at hk
  have : keys (sd ps) = [[112], [112, 47, 113]] := rise_eq (sd_rise ps) (by unfold Rise; decide +kernel) (fun x => by rw [sd_mem, hk])
  have := congrArg List.length this
  simpa [keys] using this
theorem aw_same : Ev (fun k => tree_Same.f k awA awB []) false :=
  Ev.congr (fun k => by unfold tree_Same.f; rfl) (Ev.bind aw_diff (Ev.now _))
theorem awake_ev : Ev (fun k => forebearlaw10_awake.f k) true := by
  obtain ⟨r, er, hr⟩ := aw_touched
  unfold forebearlaw10_awake.f
  refine Ev.bind (Ev.now awA) (Ev.bind (Ev.now awB) (Ev.bind aw_diff (Ev.bind aw_origin (Ev.bind aw_apply ?_))))
  refine Ev.congr (fun k => by rw [if_pos (by decide), if_pos (by decide), if_pos (by decide +kernel), if_pos (by decide), if_pos (by decide +kernel), if_pos rfl, if_pos (by decide +kernel)]) (Ev.bind er ?_)
  refine Ev.congr (f := fun k => (tree_Same.f k awA awB []).bind fun t205 => some !t205) (fun k => ?_) (Ev.bind aw_same (Ev.now _))
  rw [if_pos (by omega), if_pos rfl, if_pos (by decide)]
theorem limitp_ev (l : List ByteArray) (hs : ∀ s ∈ l, s.size ≤ 140737488351232) : ∃ r, Ev (fun k => path_Limit.f k l) (r, limitC (keys l)) ∧ keys r = limitP (keys l) (keys (sd l)) ∧ r.length ≤ 16 := by
  obtain ⟨r, h1, h2⟩ := limit_f (l := l) 140737488351233 (fun s hs' => by have := hs s hs'; omega) 140737488351500 (by omega)
  refine ⟨r, ⟨140737488351500, fun k hk => ?_⟩, h2, ?_⟩
  · obtain ⟨r', h1', h2'⟩ := limit_f (l := l) 140737488351233 (fun s hs' => by have := hs s hs'; omega) k (by omega)
    show path_Limit.f k l = _
    rw [h1', keys_inj (h2'.trans h2.symm)]
  · have := limitP_len l
    rw [← h2, keys, List.length_map] at this
    exact this
/-- Paths, rising, none above another. -/
structure Apart (s : List K) : Prop where
  rise : Rise s
  path : ∀ x ∈ s, isP x = true
  top : ∀ x ∈ s, ∀ y ∈ s, y ≠ x → under x y = false
theorem limit_apart {l : List ByteArray} (h : limitC (keys l) = 0) : Apart (limitP (keys l) (keys (sd l))) := by
  unfold limitP
  rw [if_pos h]
  have hp : ∀ x, x ∈ keys (sd l) → isP x = true := fun x hx => by
    rw [sd_mem] at hx
    unfold limitC at h
    split at h
    · cases h
    · split at h
      · rename_i h2
        exact List.all_eq_true.mp h2 x hx
      · cases h
  obtain ⟨h1, h2⟩ := keep_top (S := keys (sd l)) hp (keys (sd l)) [] [] rfl (sd_rise l) (by simp) (by simp) List.Pairwise.nil (by simp)
  exact ⟨h1, fun x hx => hp x ((h2 x).mp hx).1, fun x hx y hy hne => ((h2 x).mp hx).2 y ((h2 y).mp hy).1 hne⟩
theorem Apart.sub {s t : List K} (h : Apart s) (ht : t.Sublist s) : Apart t := ⟨h.rise.sublist ht, fun x hx => h.path x (ht.subset hx), fun x hx y hy => h.top x (ht.subset hx) y (ht.subset hy)⟩
theorem limit_self {l : List ByteArray} (hl : l.length ≤ 16) (h : Apart (keys l)) : limitC (keys l) = 0 ∧ limitP (keys l) (keys (sd l)) = keys l := by
  have hc : limitC (keys l) = 0 := by
    unfold limitC
    rw [if_neg (by simp [keys]; omega), if_pos (List.all_eq_true.mpr h.path)]
  refine ⟨hc, ?_⟩
  have hs : keys (sd l) = keys l := rise_eq (sd_rise l) h.rise (fun x => sd_mem l x)
  unfold limitP
  rw [if_pos hc, hs]
  obtain ⟨h1, h2⟩ := keep_top (S := keys l) h.path (keys l) [] [] rfl h.rise (by simp) (by simp) List.Pairwise.nil (by simp)
  exact rise_eq h1 h.rise (fun x => by rw [h2]; exact ⟨fun h => h.1, fun hx => ⟨hx, fun y hy hne => h.top x hx y hy hne⟩⟩)
theorem under_both {q x y : K} (h1 : under q x = true) (h2 : under q y = true) : under x y = true ∨ under y x = true := by
  rw [under_iffP] at h1 h2
  obtain ⟨t, e1, ht⟩ := h1
  obtain ⟨s, e2, hs⟩ := h2
  rw [e1] at e2
  rcases List.append_eq_append_iff.mp e2 with ⟨u, hu1, hu2⟩ | ⟨u, hu1, hu2⟩
  · -- y = x ++ u, t = u ++ s
    refine Or.inr ((under_iffP y x).mpr ⟨u, hu1, ?_⟩)
    rcases ht with rfl | ⟨t', rfl⟩
    · left
      exact (List.append_eq_nil_iff.mp hu2.symm).1
    · cases u with
      | nil => exact Or.inl rfl
      | cons c u =>
        right
        rw [List.cons_append, List.cons.injEq] at hu2
        exact ⟨u, by rw [← hu2.1]⟩
  · refine Or.inl ((under_iffP x y).mpr ⟨u, hu1, ?_⟩)
    rcases hs with rfl | ⟨s', rfl⟩
    · left
      exact (List.append_eq_nil_iff.mp hu2.symm).1
    · cases u with
      | nil => exact Or.inl rfl
      | cons c u =>
        right
        rw [List.cons_append, List.cons.injEq] at hu2
        exact ⟨u, by rw [← hu2.1]⟩
theorem has_parts {s1 s2 : List K} (h : Apart (s1 ++ s2)) (n1 : s1 ≠ []) (n2 : s2 ≠ []) (q : K) : (hasS (s1 ++ s2) q = (hasS s1 q || hasS s2 q)) ∧ (hasS s1 q = true → hasS s2 q = true → False) := by
  have e1 : s1.isEmpty = false := by cases s1 <;> simp at n1 ⊢
  have e2 : s2.isEmpty = false := by cases s2 <;> simp at n2 ⊢
  have e3 : (s1 ++ s2).isEmpty = false := by cases s1 <;> simp at n1 ⊢
  unfold hasS
  rw [e1, e2, e3, List.any_append]
  refine ⟨by cases isP q <;> simp, fun h1 h2 => ?_⟩
  simp only [Bool.or_false, Bool.and_eq_true, List.any_eq_true] at h1 h2
  obtain ⟨_, x, hx, ux⟩ := h1
  obtain ⟨_, y, hy, uy⟩ := h2
  have hlt : x < y := (List.pairwise_append.mp h.rise).2.2 x hx y hy
  have hne : y ≠ x := fun e => by rw [e] at hlt; exact lt_irr _ hlt
  rcases under_both ux uy with h3 | h3
  · rw [h.top x (List.mem_append_left _ hx) y (List.mem_append_right _ hy) hne] at h3
    cases h3
  · rw [h.top y (List.mem_append_right _ hy) x (List.mem_append_left _ hx) (fun e => hne e.symm)] at h3
    cases h3
theorem filter_parts {α : Type} (p q r : α → Bool) : ∀ (l : List α), (∀ x ∈ l, p x = (q x || r x)) → (∀ x ∈ l, q x = true → r x = true → False) → (l.filter p).length = (l.filter q).length + (l.filter r).length
  | [], _, _ => rfl
  | x :: l, h1, h2 => by
    have ih := filter_parts p q r l (fun y hy => h1 y (List.mem_cons_of_mem _ hy)) (fun y hy => h2 y (List.mem_cons_of_mem _ hy))
    have e1 := h1 x (List.mem_cons_self ..)
    have e2 := h2 x (List.mem_cons_self ..)
    cases hq : q x <;> cases hr : r x <;> simp [List.filter_cons, e1, hq, hr] at ih e2 ⊢ <;> omega
def same51 (c d : S51) : Bool := (c.f0.toList == d.f0.toList) && ((c.f1 == d.f1) && (c.f2 == d.f2))
theorem same51_self (c : S51) : same51 c c = true := by simp [same51]
section
variable (W D : List S51) (S S1 S2 : List ByteArray) (hW : W.length ≤ 1000) (hD : D.length ≤ 1000) (hs : S.length ≤ 16) (hs1 : S1.length ≤ 16) (hs2 : S2.length ≤ 16)
  (hsz : ∀ c ∈ W, c.f0.size ≤ 1000000) (hin : ∀ c ∈ W, c ∈ D) (h0 : ∀ c ∈ W, hasS (keys S) (key c.f0) = true) (h12 : ∀ c ∈ W, hasS (keys S1) (key c.f0) ≠ hasS (keys S2) (key c.f0))
include hW hD hs hs1 hs2 hsz h0 h12
theorem lparts_l1 (i : Nat) (hi : i < W.length) (hn : Ev (fun k => forebearlaw10_TreeParts.l0 k W D ((i + 1 : Nat) : Int) S S1 S2) true) : ∀ (d j : Nat) (b : Bool), j + d = D.length → (b || (D.drop j).any (fun c => same51 c W[i])) = true → Ev (fun k => forebearlaw10_TreeParts.l1 k W D (i : Int) b (j : Int) S S1 S2) true := by
  intro d
  induction d with
  | zero =>
    intro j b hj hb
    rw [List.drop_eq_nil_of_le (by omega)] at hb
    have hb : b = true := by simpa using hb
    subst hb
    have hm := List.getElem_mem hi
    refine Ev.step (f := fun k => (path_Set_Has.f k S W[i].f0).bind fun t545 => (if t545 = true then ((path_Set_Has.f k S1 W[i].f0).bind fun t547 => ((path_Set_Has.f k S2 W[i].f0).bind fun t549 => (if (t547 == t549) = true then (some false) else (forebearlaw10_TreeParts.l0 k W D ((i + 1 : Nat) : Int) S S1 S2)))) else (some false))) (fun k => ?_) ?_
    · simp only [forebearlaw10_TreeParts.l1]
      rw [if_neg (by omega)]
      simp only [if_true]
      rw [if_pos (by omega), if_pos (by omega), rd51 hi, wnat hi (by omega)]
    · have hz := hsz _ hm
      refine Ev.bind (has_ev S _ (by omega) (by omega)) ?_
      refine Ev.congr (fun k => if_pos (h0 _ hm)) (Ev.bind (has_ev S1 _ (by omega) (by omega)) (Ev.bind (has_ev S2 _ (by omega) (by omega)) ?_))
      exact Ev.congr (fun k => if_neg (by simpa using h12 _ hm)) hn
  | succ d ih =>
    intro j b hj hb
    have hjl : j < D.length := by omega
    rw [List.drop_eq_getElem_cons hjl, List.any_cons] at hb
    cases b with
    | true =>
      refine Ev.step (f := fun k => forebearlaw10_TreeParts.l1 k W D (i : Int) true ((j + 1 : Nat) : Int) S S1 S2) (fun k => ?_) (ih (j + 1) true (by omega) (by simp))
      simp only [forebearlaw10_TreeParts.l1]
      rw [if_pos (by omega)]
      simp only [if_true]
      rw [wnat hjl (by omega)]
    | false =>
      refine Ev.step (f := fun k => forebearlaw10_TreeParts.l1 k W D (i : Int) (same51 D[j] W[i]) ((j + 1 : Nat) : Int) S S1 S2) (fun k => ?_) (ih (j + 1) (same51 D[j] W[i]) (by omega) (by simpa using hb))
      simp only [forebearlaw10_TreeParts.l1]
      rw [if_pos (by omega), if_neg (by simp), if_pos (by omega), if_pos (by omega), if_pos (by omega), rd51 hjl, rd51 hi, wnat hjl (by omega)]
      rfl
include hin
theorem lparts_l0 : ∀ (d i : Nat), i + d = W.length → Ev (fun k => forebearlaw10_TreeParts.l0 k W D (i : Int) S S1 S2) true := by
  intro d
  induction d with
  | zero =>
    intro i hi
    refine Ev.step (f := fun _ => some true) (fun k => ?_) (Ev.now _)
    simp only [forebearlaw10_TreeParts.l0]
    rw [if_neg (by omega)]
  | succ d ih =>
    intro i hi
    have hil : i < W.length := by omega
    refine Ev.step (f := fun k => forebearlaw10_TreeParts.l1 k W D (i : Int) false ((0 : Nat) : Int) S S1 S2) (fun k => ?_) (lparts_l1 W D S S1 S2 hW hD hs hs1 hs2 hsz h0 h12 i hil (ih (i + 1) (by omega)) D.length 0 false (by omega) ?_)
    · simp only [forebearlaw10_TreeParts.l0]
      rw [if_pos (by omega)]
      rfl
    · rw [Bool.false_or, List.any_eq_true]
      exact ⟨W[i], hin _ (List.getElem_mem hil), same51_self _⟩
end
theorem difL_size {a b : List S38} (ha : OkL a) (hb : OkL b) (S : List K) : ∀ c ∈ difL a b S, c.f0.size ≤ 1000000 := fun c hc => by
  have := (mg_size ha hb c (List.mem_filter.mp hc).1).2
  omega
theorem cut_eq (n : Nat) (h2 : 2 ≤ n) (hn : n ≤ 16) (x : Int) : ∃ c : Nat, wrap64 (1 + (wrap64 (Int.tmod (IntKind.u64.wrap x) (IntKind.u64.wrap (wrap64 ((n : Int) - 1)))))) = (c : Int) ∧ 1 ≤ c ∧ c < n ∧ ¬ (IntKind.u64.wrap (wrap64 ((n : Int) - 1))) = 0 := by
  have e1 : IntKind.u64.wrap (wrap64 ((n : Int) - 1)) = (n : Int) - 1 := by rw [wrap_u64]; unfold wrap64; omega
  rw [e1, wrap_u64]
  have h0 : 0 ≤ x % 18446744073709551616 := Int.emod_nonneg _ (by omega)
  rw [Int.tmod_eq_emod_of_nonneg h0]
  have h3 := Int.emod_nonneg (x % 18446744073709551616) (show (n : Int) - 1 ≠ 0 by omega)
  have h4 := Int.emod_lt_of_pos (x % 18446744073709551616) (show (0 : Int) < (n : Int) - 1 by omega)
  refine ⟨(1 + x % 18446744073709551616 % ((n : Int) - 1)).toNat, ?_, by omega, by omega, by omega⟩
  unfold wrap64
  omega
theorem TreeParts : forebearlaw10_TreeParts.Pure := by
  intro a b l cut ha hb hl hcut
  apply Ev.rounds
  have la : a.length ≤ 5864062014634 := by have := ha.1; omega
  have lb : b.length ≤ 5864062014634 := by have := hb.1; omega
  refine Ev.congr (fun k => by unfold forebearlaw10_TreeParts.f; rfl) (Ev.bind awake_ev ?_)
  obtain ⟨S, el, hk, hn⟩ := limitp_ev l hl.2.2
  have hend : ∀ x11 x508, Ev (fun k => forebearlaw10_TreeParts.j0 k a b cut x11 true x508) true := fun x11 x508 =>
    Ev.step (f := fun _ => some true) (fun k => by simp only [forebearlaw10_TreeParts.j0]; rw [if_pos trivial]) (Ev.now _)
  refine Ev.congr (fun k => if_pos rfl) (Ev.bind el (Ev.bind (⟨0, fun _ _ => paths_f S (by omega)⟩ : Ev (fun _ => path_Set_Paths.f S) S) ?_))
  by_cases h : limitC (keys l) = 0
  · refine Ev.congr (fun k => if_pos h) (Ev.bind (right_ev a b la (fun x hx => u64_range (ha.2.2 x hx).2) lb (fun x hx => u64_range (hb.2.2 x hx).2)) ?_)
    cases hr : okR a && okR b
    · exact Ev.congr (fun k => if_neg (by simp)) (hend _ _)
    · obtain ⟨h1, h2⟩ := Bool.and_eq_true_iff.mp hr
      have ha' := okR_ok h1
      have hb' := okR_ok h2
      refine Ev.congr (fun k => if_pos rfl) ?_
      by_cases hlen : (S.length : Int) < 2
      · simp only [hlen, decide_true]
        exact hend _ _
      · have hA : Apart (keys S) := by rw [hk]; exact limit_apart h
        obtain ⟨c, hc, hc1, hc2, hne⟩ := cut_eq S.length (by omega) hn cut
        have hkt : keys (S.take c) = (keys S).take c := by simp [keys, List.map_take]
        have hkd : keys (S.drop c) = (keys S).drop c := by simp [keys, List.map_drop]
        have hA1 : Apart (keys (S.take c)) := by rw [hkt]; exact hA.sub (List.take_sublist _ _)
        have hA2 : Apart (keys (S.drop c)) := by rw [hkd]; exact hA.sub (List.drop_sublist _ _)
        have hsz : ∀ s ∈ S, s.size ≤ 140737488351232 := fun s hs => by
          have := isP_size (hA.path (key s) (List.mem_map_of_mem (f := key) hs))
          rw [key_len] at this
          omega
        obtain ⟨S1, e1, k1, n1⟩ := limitp_ev (S.take c) (fun s hs => hsz s (List.mem_of_mem_take hs))
        obtain ⟨S2, e2, k2, n2⟩ := limitp_ev (S.drop c) (fun s hs => hsz s (List.mem_of_mem_drop hs))
        obtain ⟨c1, q1⟩ := limit_self (by rw [List.length_take]; omega) hA1
        obtain ⟨c2, q2⟩ := limit_self (by rw [List.length_drop]; omega) hA2
        rw [c1] at e1
        rw [c2] at e2
        have hS1 : S1 = S.take c := keys_inj (k1.trans q1)
        have hS2 : S2 = S.drop c := keys_inj (k2.trans q2)
        subst hS1 hS2
        have hsplit : keys S = keys (S.take c) ++ keys (S.drop c) := by rw [hkt, hkd, List.take_append_drop]
        have hp := fun q => has_parts (s1 := keys (S.take c)) (s2 := keys (S.drop c)) (by rw [← hsplit]; exact hA) (fun e => by have := congrArg List.length e; rw [keys, List.length_map, List.length_take, List.length_nil] at this; omega) (fun e => by have := congrArg List.length e; rw [keys, List.length_map, List.length_drop, List.length_nil] at this; omega) q
        rw [← hsplit] at hp
        have hlw := difL_len ha' hb' (keys S)
        have hl1 := difL_len ha' hb' (keys (S.take c))
        have hl2 := difL_len ha' hb' (keys (S.drop c))
        have hcount : (difL a b (keys (S.take c)) ++ difL a b (keys (S.drop c))).length = (difL a b (keys S)).length := by
          rw [List.length_append]
          refine (filter_parts _ _ _ _ (fun d _ => ?_) (fun d _ h1 h2 => ?_)).symm
          · rw [(hp (key d.f0)).1]
            cases decide (d.f1 ≠ d.f2) <;> simp
          · simp only [Bool.and_eq_true] at h1 h2
            exact (hp (key d.f0)).2 h1.2 h2.2
        simp only [hlen, decide_false]
        refine Ev.step (f := fun k => (path_Limit.f k (S.take c)).bind fun bt520 => ((path_Limit.f k (S.drop c)).bind fun bt525 => (if bt520.2 = 0 then (forebearlaw10_TreeParts.j1 k a b (bt525.2 != 0) S bt520.1 bt525.1) else (forebearlaw10_TreeParts.j1 k a b true S bt520.1 bt525.1)))) (fun k => ?_) (Ev.bind e1 (Ev.bind e2 ?_))
        · simp only [forebearlaw10_TreeParts.j0]
          rw [if_neg (by simp), if_neg hne, hc, if_pos (by omega), if_pos (by omega), Int.toNat_natCast]
        · refine Ev.congr (fun k => if_pos rfl) ?_
          refine Ev.step (f := fun k => (tree_Diff.f k a b S).bind fun t530 => ((tree_Diff.f k a b (S.take c)).bind fun t533 => ((tree_Diff.f k a b (S.drop c)).bind fun t536 => (if t533.length + t536.length < 4398046511104 then ((some (t533 ++ t536 : List (S51))).bind fun y539 => (if (y539.length : Int) = (t530.length : Int) then (forebearlaw10_TreeParts.l0 k t530 y539 0 S (S.take c) (S.drop c)) else (some false))) else (none))))) (fun k => ?_) ?_
          · simp only [forebearlaw10_TreeParts.j1]
            rw [if_neg (by simp)]
          · refine Ev.bind (diff_ev ha' hb' S (by omega)) (Ev.bind (diff_ev ha' hb' (S.take c) (by omega)) (Ev.bind (diff_ev ha' hb' (S.drop c) (by omega)) ?_))
            refine Ev.congr (fun k => by rw [if_pos (by omega)]) (Ev.bind (Ev.now _) ?_)
            refine Ev.congr (fun k => if_pos (by rw [hcount])) ?_
            refine lparts_l0 (difL a b (keys S)) _ S (S.take c) (S.drop c) (by omega) (by rw [hcount]; omega) hn n1 n2 (difL_size ha' hb' _) (fun d hd => ?_) (fun d hd => ?_) (fun d hd => ?_) (difL a b (keys S)).length 0 (by omega)
            · obtain ⟨hm, hf⟩ := List.mem_filter.mp hd
              simp only [Bool.and_eq_true] at hf
              rw [(hp (key d.f0)).1, Bool.or_eq_true] at hf
              rw [List.mem_append]
              rcases hf.2 with h | h
              · exact Or.inl (List.mem_filter.mpr ⟨hm, by simp only [Bool.and_eq_true]; exact ⟨hf.1, h⟩⟩)
              · exact Or.inr (List.mem_filter.mpr ⟨hm, by simp only [Bool.and_eq_true]; exact ⟨hf.1, h⟩⟩)
            · obtain ⟨hm, hf⟩ := List.mem_filter.mp hd
              simp only [Bool.and_eq_true] at hf
              exact hf.2
            · obtain ⟨hm, hf⟩ := List.mem_filter.mp hd
              simp only [Bool.and_eq_true] at hf
              have h1 := (hp (key d.f0)).1
              rw [hf.2] at h1
              have h2 := (hp (key d.f0)).2
              generalize hasS (keys (S.take c)) (key d.f0) = u at h1 h2 ⊢
              generalize hasS (keys (S.drop c)) (key d.f0) = v at h1 h2 ⊢
              clear hf hd
              revert h1 h2
              cases u <;> cases v <;> simp
  · refine Ev.congr (fun k => if_neg h) (hend _ _)
end Go.Proofs.Ytjnefjggmeieaaa.Pure
