/- Plain laws of functions that this seat shares with another. No condition. -/
import Derived.Test.YthigjlahanejjaaMOx0
import Derived.Test.YthigjlahanejjaaMOx1
import Derived.Test.YthigjlahanejjaaAidSort
import Derived.Sort.Walk0
set_option linter.unusedVariables false
set_option linter.unusedSimpArgs false
namespace Go.Proofs.Ythigjlahanejjaa.Pure
open Go.RowKit Go.Proofs.Ythigjlahanejjaa.MO Go.Proofs.Ythigjlahanejjaa.Opening Go.Proofs.YthigjlahanejjaaW.PrintWords Go.Proofs.YthigjlahanejjaaW.PrintLast

def key (x : ByteArray) : List UInt8 := x.data.toList
theorem key_inj {x y : ByteArray} (h : key x = key y) : x = y := by
  cases x; cases y
  simp only [key] at h
  rw [Array.toList_inj] at h
  rw [h]
abbrev K := List UInt8
theorem lt_irr (a : K) : ¬ a < a := List.lt_irrefl a
theorem lt_tr {a b c : K} (h : a < b) (k : b < c) : a < c := List.lt_trans h k
theorem le_tr {a b c : K} (h : a ≤ b) (k : b ≤ c) : a ≤ c := List.le_trans h k
theorem le_tot (a b : K) : a ≤ b ∨ b ≤ a := List.le_total a b
theorem lt_of_le_ne {a b : K} (h : a ≤ b) (k : a ≠ b) : a < b := by
  rcases Classical.em (a < b) with h1 | h1
  · exact h1
  · exact absurd (List.le_antisymm h (List.not_lt.1 h1)) k
theorem lt_or_eq_or_gt (a b : K) : a < b ∨ a = b ∨ b < a := by
  rcases le_tot a b with h | h
  · by_cases e : a = b
    · exact .inr (.inl e)
    · exact .inl (lt_of_le_ne h e)
  · by_cases e : a = b
    · exact .inr (.inl e)
    · exact .inr (.inr (lt_of_le_ne h (fun x => e x.symm)))
def Rise (l : List K) : Prop := l.Pairwise (· < ·)
/-- Two lists that rise strictly and have the same members are the same. -/
theorem rise_eq : ∀ {l m : List K}, Rise l → Rise m → (∀ x, x ∈ l ↔ x ∈ m) → l = m
  | [], [], _, _, _ => rfl
  | [], b :: m, _, _, h => absurd ((h b).2 (List.mem_cons_self)) (by simp)
  | a :: l, [], _, _, h => absurd ((h a).1 (List.mem_cons_self)) (by simp)
  | a :: l, b :: m, hl, hm, h => by
    obtain ⟨ha, hl'⟩ := List.pairwise_cons.1 hl
    obtain ⟨hb, hm'⟩ := List.pairwise_cons.1 hm
    have hab : a = b := by
      rcases List.mem_cons.1 ((h a).1 (List.mem_cons_self)) with e | e
      · exact e
      · rcases List.mem_cons.1 ((h b).2 (List.mem_cons_self)) with f | f
        · exact f.symm
        · exact absurd (lt_tr (hb a e) (ha b f)) (lt_irr b)
    subst hab
    congr 1
    refine rise_eq hl' hm' (fun x => ?_)
    constructor
    · intro hx
      rcases List.mem_cons.1 ((h x).1 (List.mem_cons_of_mem _ hx)) with e | e
      · subst e; exact absurd (ha x hx) (lt_irr x)
      · exact e
    · intro hx
      rcases List.mem_cons.1 ((h x).2 (List.mem_cons_of_mem _ hx)) with e | e
      · subst e; exact absurd (hb x hx) (lt_irr x)
      · exact e
/-- What is left of a rising list where equal neighbours are one. -/
def dd : List K → List K
  | [] => []
  | [a] => [a]
  | a :: b :: l => if a = b then dd (b :: l) else a :: dd (b :: l)
theorem mem_dd : ∀ (l : List K) (x : K), x ∈ dd l ↔ x ∈ l
  | [], x => Iff.rfl
  | [a], x => Iff.rfl
  | a :: b :: l, x => by
    have ih := mem_dd (b :: l) x
    unfold dd
    split
    · rename_i e
      rw [ih, e]
      simp
    · rw [List.mem_cons, ih, List.mem_cons (a := x) (b := a)]
theorem dd_rise : ∀ {l : List K}, l.Pairwise (· ≤ ·) → Rise (dd l)
  | [], _ => List.Pairwise.nil
  | [a], _ => List.pairwise_singleton _ _
  | a :: b :: l, h => by
    obtain ⟨ha, hl⟩ := List.pairwise_cons.1 h
    have ih := dd_rise hl
    unfold dd
    split
    · exact ih
    · rename_i e
      refine List.pairwise_cons.2 ⟨fun x hx => ?_, ih⟩
      rw [mem_dd] at hx
      have hb := lt_of_le_ne (ha b (List.mem_cons_self)) e
      rcases List.mem_cons.1 hx with rfl | hx
      · exact hb
      · have hbx := (List.pairwise_cons.1 hl).1 x hx
        rcases lt_or_eq_or_gt b x with h1 | h1 | h1
        · exact lt_tr hb h1
        · exact h1 ▸ hb
        · exact absurd h1 (List.not_lt.2 hbx)

theorem toList_key (x : ByteArray) : x.toList = key x := ByteArray.toList_eq x
theorem key_len (x : ByteArray) : (key x).length = x.size := by simp [key]
theorem wnat {i n : Nat} (h : i < n) (hn : n ≤ 4611686018427387904) : wrap64 ((i : Int) + 1) = ((i + 1 : Nat) : Int) := by unfold wrap64; omega
theorem wpred {i : Nat} (h : 0 < i) (hn : i ≤ 140737488351232) : wrap64 ((i : Int) - 1) = ((i - 1 : Nat) : Int) := by unfold wrap64; omega
theorem key_drop {p : ByteArray} {i : Nat} (h : i < p.size) : ∃ c : UInt8, bt p (i : Int) = (c.toNat : Int) ∧ (key p)[i]? = some c ∧ (key p).drop i = c :: (key p).drop (i + 1) := by
  have h' : i < (key p).length := by rw [key_len]; exact h
  refine ⟨(key p)[i], ?_, by simp, List.drop_eq_getElem_cons h'⟩
  have := bt_at p (i : Int) (by simpa using h)
  rw [← this]
  rfl
theorem key_extract (p : ByteArray) (i : Nat) : key (p.extract 0 i) = (key p).take i := by
  simp only [key, ByteArray.data_extract, Array.toList_extract]; simp
theorem key_extract_end (p : ByteArray) (i : Nat) : key (p.extract i p.size) = (key p).drop i := by
  simp only [key, ByteArray.data_extract, Array.toList_extract, List.extract_eq_take_drop]
  apply List.take_of_length_le
  rw [List.length_drop]
  have : p.data.toList.length = p.size := by simp
  omega
theorem byte_eq (c : UInt8) (n : Nat) (hn : n < 256) : ((c.toNat : Int) = (n : Int)) ↔ c = UInt8.ofNat n := by
  constructor
  · intro h
    apply UInt8.toNat_inj.1
    rw [UInt8.toNat_ofNat']
    omega
  · rintro rfl
    rw [UInt8.toNat_ofNat']
    omega
theorem slash_iff (c : UInt8) : ((c.toNat : Int) = 47) ↔ c = 47 := byte_eq c 47 (by omega)
def plainI (x : Int) : Bool := (decide (97 ≤ x) && decide (x ≤ 122)) || (decide (48 ≤ x) && decide (x ≤ 57)) || decide (x = 95) || decide (x = 46)
theorem plain_f (x : Int) : path_plain.f x = some (plainI x) := by
  unfold path_plain.f plainI
  by_cases h1 : x ≥ 97 <;> by_cases h2 : x ≤ 122 <;> by_cases h3 : x ≥ 48 <;> by_cases h4 : x ≤ 57 <;> by_cases h5 : x = 95 <;>
    simp [h1, h2, h3, h4, h5] <;> first | omega | rfl | (rw [Bool.eq_iff_iff]; simp; omega)
def chk : K → Nat → Nat → Bool
  | [], n, r => decide (r ≠ 0) && decide (n ≤ 6)
  | c :: t, n, r => if c = 47 then decide (r ≠ 0) && chk t (n + 1) 0 else plainI (c.toNat : Int) && (decide (r < 16) && chk t n (r + 1))
def code (b : Bool) : Int := cond b 0 2
def isP (l : K) : Bool := chk l 1 0
theorem check_l0 {p : ByteArray} (hp : p.size ≤ 140737488351232) (d : Nat) : ∀ (i n r k : Nat), p.size - i = d → i ≤ p.size → n ≤ i + 1 → r ≤ i → d < k →
    path_Check.l0 k p n r p.size i = some (code (chk ((key p).drop i) n r)) := by
  induction d with
  | zero =>
    intro i n r k hd hi hn hr hk
    obtain ⟨k, rfl⟩ : ∃ m, k = m + 1 := ⟨k - 1, by omega⟩
    have hz : (key p).drop i = [] := List.drop_eq_nil_of_le (by rw [key_len]; omega)
    simp only [path_Check.l0]
    rw [if_neg (by omega), hz]
    by_cases h1 : r = 0
    · subst h1; simp [chk, code]
    · rw [if_neg (by omega)]
      by_cases h2 : n ≤ 6
      · rw [if_neg (by omega)]; simp [chk, h1, h2, code]
      · rw [if_pos (by omega)]; simp [chk, h2, code]
  | succ d ih =>
    intro i n r k hd hi hn hr hk
    obtain ⟨k, rfl⟩ : ∃ m, k = m + 1 := ⟨k - 1, by omega⟩
    obtain ⟨c, hb, -, hdr⟩ := key_drop (p := p) (i := i) (by omega)
    simp only [path_Check.l0]
    rw [if_pos (by omega), if_pos (by omega), if_pos (by omega), hb, hdr]
    simp only [chk]
    by_cases hc : c = 47
    · rw [if_pos ((slash_iff c).2 hc), if_pos hc]
      by_cases h1 : r = 0
      · rw [if_pos (by omega)]; simp [h1, code]
      · rw [if_neg (by omega), wnat (n := p.size + 2) (by omega) (by omega), wnat (n := p.size) (by omega) (by omega)]
        refine (ih (i + 1) (n + 1) 0 k (by omega) (by omega) (by omega) (by omega) (by omega)).trans ?_
        simp [h1]
    · rw [if_neg (fun h => hc ((slash_iff c).1 h)), if_neg hc, plain_f]
      simp only [Option.bind_some]
      by_cases h1 : plainI (c.toNat : Int) = true
      · rw [if_pos h1]
        by_cases h2 : r < 16
        · rw [if_pos (by omega), wnat (n := p.size + 2) (by omega) (by omega), wnat (n := p.size) (by omega) (by omega), ih (i + 1) n (r + 1) k (by omega) (by omega) (by omega) (by omega) (by omega)]
          simp [h1, h2]
        · rw [if_neg (by omega)]; simp [h2, code]
      · rw [if_neg h1]; simp [h1, code]
theorem check_f {p : ByteArray} (hp : p.size ≤ 140737488351232) (k : Nat) (hk : p.size < k) : path_Check.f k p = some (code (isP (key p))) := by
  have := check_l0 hp p.size 0 1 0 k (by omega) (by omega) (by omega) (by omega) hk
  simpa [path_Check.f, isP] using this
theorem chk_count : ∀ (l : K) (n r : Nat), chk l n r = true → n + l.count 47 ≤ 6
  | [], n, r, h => by simp [chk] at h; simpa using h.2
  | c :: t, n, r, h => by
    unfold chk at h
    by_cases hc : c = 47
    · rw [if_pos hc] at h
      simp at h
      have := chk_count t (n + 1) 0 h.2
      rw [hc, List.count_cons_self]; omega
    · rw [if_neg hc] at h
      simp at h
      have := chk_count t n (r + 1) h.2.2
      rw [List.count_cons_of_ne hc]; exact this
/-- below: a text is another one, or goes on behind it with a slash. -/
def under (p d : K) : Bool := (p.take d.length == d) && (match p.drop d.length with | [] => true | c :: _ => c == 47)
theorem rdOf_nat (l : List ByteArray) (i : Nat) (h : i < l.length) : rdOf ByteArray.empty l (i : Int) = l[i] := by
  simp [rdOf, h]
abbrev keys (l : List ByteArray) : List K := l.map key
theorem keys_drop {l : List ByteArray} {i : Nat} (h : i < l.length) : (keys l).drop i = key l[i] :: (keys l).drop (i + 1) := by
  rw [List.drop_eq_getElem_cons (by simpa using h)]; simp
/-- The set of paths s has q. -/
def hasS (s : List K) (q : K) : Bool := isP q && (s.any (under q) || s.isEmpty)
/-- Sorted, each once. -/
def sd (l : List ByteArray) : List ByteArray := compactS (sortS l)

theorem key_mk (l : K) : key ⟨l.toArray⟩ = l := by simp [key]
theorem keys_mk (l : List K) : keys (l.map fun l => ⟨l.toArray⟩) = l := by
  simp [keys, Function.comp_def, key_mk]
theorem sortS_keys (l : List ByteArray) : keys (sortS l) = (keys l).mergeSort fun x y => decide (x ≤ y) := by
  unfold sortS; rw [keys_mk]; rfl
theorem sorted_merge (l : List K) : (l.mergeSort fun x y => decide (x ≤ y)).Pairwise (· ≤ ·) := by
  have := List.pairwise_mergeSort (le := fun x y : K => decide (x ≤ y)) (fun a b c h1 h2 => by simp at *; exact le_tr h1 h2) (fun a b => by simpa using le_tot a b) l
  simpa using this
theorem getA (l : List K) (j : Nat) : l.toArray[j]! = l.getD j [] := by
  simp only [List.getElem!_toArray, List.getD_eq_getElem?_getD]
  rw [List.getElem!_eq_getElem?_getD]; rfl
theorem compact_one (b : K) (l : List K) : Lib.compact (b :: l) = b :: ((List.range l.length).filter (fun j => decide ((b :: l).getD (j + 1) [] ≠ (b :: l).getD j []))).map (fun j => (b :: l).getD (j + 1) []) := by
  unfold Lib.compact Lib.compactUpTo
  rw [List.length_cons, List.range_succ_eq_map, List.filter_cons_of_pos (by simp [Lib.keeps])]
  rw [List.map_cons, getA, List.filter_map, List.map_map]
  congr 1
  congr 1
  · funext j; simp only [Function.comp_def, getA]
  · congr 1
    funext j
    simp only [Function.comp_def, Lib.keeps, getA]
    simp
theorem compact_two (a b : K) (l : List K) : Lib.compact (a :: b :: l) = if a = b then Lib.compact (b :: l) else a :: Lib.compact (b :: l) := by
  rw [compact_one a (b :: l), compact_one b l, List.length_cons, List.range_succ_eq_map]
  by_cases h : a = b
  · subst h
    rw [if_pos rfl, List.filter_cons_of_neg (by simp), List.filter_map, List.map_map]
    rfl
  · have h' : b ≠ a := fun e => h e.symm
    rw [if_neg h, List.filter_cons_of_pos (by simp [h']), List.map_cons, List.filter_map, List.map_map]
    rfl
theorem compact_eq_dd : ∀ (l : List K), Lib.compact l = dd l
  | [] => rfl
  | [a] => by rw [compact_one]; rfl
  | a :: b :: l => by rw [compact_two, compact_eq_dd (b :: l)]; rfl
theorem sd_keys (l : List ByteArray) : keys (sd l) = dd ((keys l).mergeSort fun x y => decide (x ≤ y)) := by
  unfold sd compactS
  rw [keys_mk, compact_eq_dd, ← sortS_keys]; rfl
theorem sd_rise (l : List ByteArray) : Rise (keys (sd l)) := by rw [sd_keys]; exact dd_rise (sorted_merge _)
theorem sd_mem (l : List ByteArray) (x : K) : x ∈ keys (sd l) ↔ x ∈ keys l := by rw [sd_keys, mem_dd, List.mem_mergeSort]
theorem dd_len : ∀ l : List K, (dd l).length ≤ l.length
  | [] => by simp [dd]
  | [a] => by simp [dd]
  | a :: b :: l => by
    have ih := dd_len (b :: l)
    unfold dd
    split
    · simp at *; omega
    · simp at *; omega
theorem sd_len (l : List ByteArray) : (sd l).length ≤ l.length := by
  have h := dd_len ((keys l).mergeSort fun x y => decide (x ≤ y))
  rw [← sd_keys] at h
  simpa [List.length_mergeSort] using h
theorem sd_same {l m : List ByteArray} (h : ∀ x, x ∈ keys l ↔ x ∈ keys m) : keys (sd l) = keys (sd m) :=
  rise_eq (sd_rise l) (sd_rise m) fun x => by rw [sd_mem, sd_mem, h]
/-- The document's list with a text. -/
def ins (s : K) : List K → List K
  | [] => [s]
  | a :: t => if s < a then s :: a :: t else a :: ins s t
theorem mem_ins (s x : K) : ∀ l : List K, x ∈ ins s l ↔ x = s ∨ x ∈ l
  | [] => by simp [ins]
  | a :: t => by
    unfold ins
    split
    · simp
    · rw [List.mem_cons, mem_ins s x t, List.mem_cons]
      constructor
      · rintro (h | h | h) <;> simp [h]
      · rintro (h | h | h) <;> simp [h]
theorem rise_ins (s : K) : ∀ {l : List K}, Rise l → s ∉ l → Rise (ins s l)
  | [], _, _ => List.pairwise_singleton _ _
  | a :: t, h, hn => by
    obtain ⟨h1, h2⟩ := List.pairwise_cons.1 h
    unfold ins
    split
    · rename_i hlt
      exact List.pairwise_cons.2 ⟨fun x hx => by
        rcases List.mem_cons.1 hx with rfl | hx
        · exact hlt
        · exact lt_tr hlt (h1 x hx), h⟩
    · rename_i hge
      have hlt : a < s := by
        rcases lt_or_eq_or_gt a s with h | h | h
        · exact h
        · exact absurd (by simp [h]) hn
        · exact absurd h hge
      exact List.pairwise_cons.2 ⟨fun x hx => by
        rcases (mem_ins s x t).1 hx with rfl | hx
        · exact hlt
        · exact h1 x hx, rise_ins s h2 (fun hm => hn (List.mem_cons_of_mem _ hm))⟩

def keepL : List K → List K → List K
  | [], acc => acc
  | s :: t, acc => if acc = [] then keepL t [s] else if hasS acc s then keepL t acc else keepL t (acc ++ [s])
/-- The error's number, and the set of the paths. -/
def limitC (l : List K) : Int := if l.length > 16 then 4 else if l.all isP then 0 else 2
def limitP (l S : List K) : List K := if limitC l = 0 then keepL S [] else []
theorem keep_len : ∀ (S acc : List K), (keepL S acc).length ≤ acc.length + S.length
  | [], acc => by simp [keepL]
  | s :: t, acc => by
    unfold keepL
    split
    · have := keep_len t [s]; simp at *; omega
    · split
      · have := keep_len t acc; simp at *; omega
      · have := keep_len t (acc ++ [s]); simp at *; omega
theorem limitP_len (l : List ByteArray) : (limitP (keys l) (keys (sd l))).length ≤ 16 := by
  unfold limitP
  split
  · rename_i h
    unfold limitC at h
    split at h
    · simp at h
    · have h1 := keep_len (keys (sd l)) []
      have h2 := sd_len l
      simp at *; omega
  · simp
/-- What leads to a path: its beginnings that a slash follows. -/
def cuts : K → K → List K
  | _, [] => []
  | pre, c :: t => if c = 47 then pre :: cuts (pre ++ [c]) t else cuts (pre ++ [c]) t
def partsK (l : K) : List K := if isP l then cuts [] l ++ [l] else []
theorem parts_l0 {p : ByteArray} (hp : p.size ≤ 140737488351232) (d : Nat) : ∀ (i k : Nat) (acc : List ByteArray), p.size - i = d → i ≤ p.size → acc.length + ((key p).drop i).count 47 ≤ 100 → d < k →
    ∃ r, path_Parts.l0 k p acc p.size i = some r ∧ keys r = keys acc ++ (cuts ((key p).take i) ((key p).drop i) ++ [key p]) := by
  induction d with
  | zero =>
    intro i k acc hd hi ha hk
    obtain ⟨k, rfl⟩ : ∃ m, k = m + 1 := ⟨k - 1, by omega⟩
    simp only [path_Parts.l0]
    rw [if_neg (by omega), if_pos (by omega), List.drop_eq_nil_of_le (by rw [key_len]; omega)]
    exact ⟨_, rfl, by simp [cuts]⟩
  | succ d ih =>
    intro i k acc hd hi ha hk
    obtain ⟨k, rfl⟩ : ∃ m, k = m + 1 := ⟨k - 1, by omega⟩
    obtain ⟨c, hb, hg, hdr⟩ := key_drop (p := p) (i := i) (by omega)
    have ht : (key p).take (i + 1) = (key p).take i ++ [c] := by
      rw [List.take_add_one, hg]; rfl
    rw [hdr] at ha
    simp only [path_Parts.l0]
    rw [if_pos (by omega), if_pos (by omega), if_pos (by omega), hb, hdr, wnat (n := p.size) (by omega) (by omega)]
    simp only [cuts]
    by_cases hc : c = 47
    · rw [if_pos ((slash_iff c).2 hc), if_pos (by omega), if_pos (by omega), if_pos hc]
      rw [hc, List.count_cons_self] at ha
      obtain ⟨r, h1, h2⟩ := ih (i + 1) k (acc ++ [p.extract 0 i]) (by omega) (by omega) (by simp; omega) (by omega)
      refine ⟨r, h1, ?_⟩
      rw [h2, ht]
      simp [key_extract]
    · rw [if_neg (fun h => hc ((slash_iff c).1 h)), if_neg hc]
      rw [List.count_cons_of_ne hc] at ha
      obtain ⟨r, h1, h2⟩ := ih (i + 1) k acc (by omega) (by omega) (by omega) (by omega)
      exact ⟨r, h1, by rw [h2, ht]⟩
theorem parts_f {p : ByteArray} (hp : p.size ≤ 140737488351232) (k : Nat) (hk : p.size < k) : ∃ r, path_Parts.f k p = some r ∧ keys r = partsK (key p) := by
  unfold path_Parts.f partsK
  rw [check_f hp k hk]
  simp only [Option.bind_some]
  by_cases h : isP (key p) = true
  · have hc := chk_count _ _ _ h
    obtain ⟨r, h1, h2⟩ := parts_l0 hp p.size 0 k [] (by omega) (by omega) (by simp; omega) hk
    rw [show ((0 : Nat) : Int) = 0 from rfl] at h1
    rw [h, if_pos (by rfl)]
    exact ⟨r, h1, by rw [h2]; simp⟩
  · have h' : isP (key p) = false := by simpa using h
    rw [h', if_neg (by decide)]
    exact ⟨[], rfl, by simp⟩

def nameK (l : K) : Bool := l.all (fun c => plainI (c.toNat : Int)) && decide (1 ≤ l.length ∧ l.length ≤ 16)
/-- What stands between the slashes; 'last': what stands ahead. -/
def sp : K → K → List K
  | last, [] => [last]
  | last, c :: t => if c = 47 then last :: sp [] t else sp (last ++ [c]) t
theorem sp_ne : ∀ (t last : K), sp last t ≠ []
  | [], last => by simp [sp]
  | c :: t, last => by
    unfold sp
    split
    · simp
    · exact sp_ne t _
theorem key_append (a b : ByteArray) : key (a ++ b) = key a ++ key b := by simp [key]
theorem sp_slash (t last : K) : sp last (47 :: t) = last :: sp [] t := by rw [sp, if_pos rfl]
theorem sp_other {c : UInt8} (h : c ≠ 47) (t last : K) : sp last (c :: t) = sp (last ++ [c]) t := by rw [sp, if_neg h]
theorem chk_slash (t : K) (n r : Nat) : chk (47 :: t) n r = (decide (r ≠ 0) && chk t (n + 1) 0) := by rw [chk, if_pos rfl]
theorem chk_other {c : UInt8} (h : c ≠ 47) (t : K) (n r : Nat) : chk (c :: t) n r = (plainI (c.toNat : Int) && (decide (r < 16) && chk t n (r + 1))) := by rw [chk, if_neg h]
theorem key_one (c : UInt8) : key (oneB (c.toNat : Int)) = [c] := by
  simp [oneB, strOfNums, key]
theorem sp_len : ∀ (t last : K), (sp last t).length = t.count 47 + 1
  | [], last => rfl
  | c :: t, last => by
    unfold sp
    by_cases h : c = 47
    · rw [if_pos h, h, List.count_cons_self, List.length_cons, sp_len t]
    · rw [if_neg h, List.count_cons_of_ne h, sp_len t]
theorem sp_head : ∀ (t last : K), ∃ s r, sp last t = (last ++ s) :: r
  | [], last => ⟨[], [], by simp [sp]⟩
  | c :: t, last => by
    unfold sp
    by_cases h : c = 47
    · rw [if_pos h]; exact ⟨[], _, by simp; rfl⟩
    · rw [if_neg h]
      obtain ⟨s, r, e⟩ := sp_head t (last ++ [c])
      exact ⟨c :: s, r, by rw [e]; simp⟩
theorem chk_sp : ∀ (t last : K) (n : Nat), 1 ≤ n → last.all (fun c => plainI (c.toNat : Int)) = true → last.length ≤ 16 → chk t n last.length = ((sp last t).all nameK && decide (n + (sp last t).length ≤ 7))
  | [], last, n, hn, ha, hl => by
    simp only [chk, sp, List.all_cons, List.all_nil, nameK, ha, Bool.true_and, Bool.and_true, List.length_cons, List.length_nil, Nat.zero_add]
    rw [Bool.eq_iff_iff]; simp only [Bool.and_eq_true, decide_eq_true_eq, ne_eq]
    constructor
    · rintro ⟨h1, h2⟩; exact ⟨⟨by omega, hl⟩, by omega⟩
    · rintro ⟨⟨h1, h2⟩, h3⟩; exact ⟨by omega, by omega⟩
  | c :: t, last, n, hn, ha, hl => by
    by_cases h : c = 47
    · subst h
      have := chk_sp t [] (n + 1) (by omega) rfl (by simp)
      rw [show ([] : K).length = 0 from rfl] at this
      rw [chk_slash, sp_slash, this]
      simp only [List.all_cons, nameK, ha, Bool.true_and, List.length_cons]
      rw [Bool.eq_iff_iff]; simp only [Bool.and_eq_true, decide_eq_true_eq]
      constructor
      · rintro ⟨h1, h2, h3⟩; exact ⟨⟨by omega, h2⟩, by omega⟩
      · rintro ⟨⟨h1, h2⟩, h3⟩; exact ⟨by omega, h2, by omega⟩
    · rw [chk_other h, sp_other h]
      by_cases h1 : plainI (c.toNat : Int) = true
      · by_cases h2 : last.length < 16
        · have := chk_sp t (last ++ [c]) n hn (by simp [h1]; simpa using ha) (by simp; omega)
          rw [List.length_append, List.length_singleton] at this
          rw [h1, this]; simp [h2]
        · obtain ⟨s, r, e⟩ := sp_head t (last ++ [c])
          have : nameK (last ++ [c] ++ s) = false := by
            unfold nameK; simp; omega
          rw [e, List.all_cons, this]; simp [h2]
      · obtain ⟨s, r, e⟩ := sp_head t (last ++ [c])
        have h1' : plainI (c.toNat : Int) = false := by simpa using h1
        have : nameK (last ++ [c] ++ s) = false := by
          unfold nameK; simp [h1']
        rw [e, List.all_cons, this]; simp [h1']
theorem isP_sp (l : K) : isP l = ((sp [] l).all nameK && decide ((sp [] l).length ≤ 6)) := by
  have := chk_sp l [] 1 (by omega) rfl (by simp)
  unfold isP
  rw [show ([] : K).length = 0 from rfl] at this
  rw [this]
  congr 1
  rw [Bool.eq_iff_iff]; simp; omega
theorem chk_bound : ∀ (t : K) (n r : Nat), r ≤ 16 → chk t n r = true → t.length + r ≤ 16 + 17 * (6 - n)
  | [], n, r, hr, h => by simp; omega
  | c :: t, n, r, hr, h => by
    unfold chk at h
    by_cases hc : c = 47
    · rw [if_pos hc] at h
      simp at h
      have h1 := chk_bound t (n + 1) 0 (by omega) h.2
      have h2 := chk_count _ _ _ h.2
      simp at *; omega
    · rw [if_neg hc] at h
      simp at h
      have := chk_bound t n (r + 1) (by omega) h.2.2
      simp; omega
theorem isP_size {l : K} (h : isP l = true) : l.length ≤ 102 := by
  have := chk_bound l 1 0 (by omega) h
  omega
theorem mem_sp : ∀ (t last x : K), x ∈ sp last t → x.length ≤ last.length + t.length
  | [], last, x, h => by simp [sp] at h; subst h; simp
  | c :: t, last, x, h => by
    unfold sp at h
    by_cases hc : c = 47
    · rw [if_pos hc] at h
      rcases List.mem_cons.1 h with rfl | h
      · simp
      · have := mem_sp t [] x h; simp at *; omega
    · rw [if_neg hc] at h
      have := mem_sp t _ x h; simp at *; omega
theorem sp_none : ∀ (t last : K), (47 : UInt8) ∉ t → sp last t = [last ++ t]
  | [], last, _ => by simp [sp]
  | c :: t, last, h => by
    have hc : c ≠ 47 := fun e => h (by simp [e])
    rw [sp_other hc, sp_none t _ (fun e => h (List.mem_cons_of_mem _ e))]; simp
theorem name_none {l : K} (h : nameK l = true) : (47 : UInt8) ∉ l := by
  intro hm
  unfold nameK at h
  simp only [Bool.and_eq_true, List.all_eq_true] at h
  have := h.1 47 hm
  simp [plainI] at this
theorem idx_mem : ∀ (l : K) (c : UInt8), 0 ≤ Lib.indexByte l c ↔ c ∈ l
  | [], c => by simp [Lib.indexByte]
  | b :: l, c => by
    have ih := idx_mem l c
    have hg := Lib.indexByte_ge l c
    unfold Lib.indexByte
    by_cases h : b = c
    · subst h; simp
    · have h' : ¬ c = b := fun e => h e.symm
      rw [if_neg (by simpa using h), List.mem_cons]
      by_cases h2 : Lib.indexByte l c = -1
      · rw [if_pos (by simpa using h2), ← ih]; simp [h']; omega
      · rw [if_neg (by simpa using h2), ← ih]; simp [h']; omega
theorem cuts_len2 : ∀ (t pre : K), (cuts pre t).length = t.count 47
  | [], pre => rfl
  | c :: t, pre => by
    unfold cuts
    by_cases h : c = 47
    · rw [if_pos h, h, List.count_cons_self, List.length_cons, cuts_len2 t]
    · rw [if_neg h, List.count_cons_of_ne h, cuts_len2 t]
/-- The names, put together again one by one. -/
def JJ : K → List K → List K
  | _, [] => []
  | pre, n :: r => (pre ++ n) :: JJ (pre ++ n ++ [47]) r
theorem cuts_JJ : ∀ (t pre last : K), cuts (pre ++ last) t ++ [pre ++ last ++ t] = JJ pre (sp last t)
  | [], pre, last => by simp [cuts, sp, JJ]
  | c :: t, pre, last => by
    by_cases h : c = 47
    · subst h
      have := cuts_JJ t (pre ++ last ++ [47]) []
      rw [sp_slash, cuts, if_pos rfl]
      simp only [JJ, ← this]
      simp
    · have := cuts_JJ t pre (last ++ [c])
      rw [sp_other h, cuts, if_neg h, ← this]
      simp
end Go.Proofs.Ythigjlahanejjaa.Pure
