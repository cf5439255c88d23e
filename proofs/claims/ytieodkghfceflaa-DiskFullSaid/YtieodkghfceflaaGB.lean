/- Plain facts of paths: what is a path, what is a name. Plain facts of the document's disk: each call makes what the program's does. Plain facts of the document's disk: a list with a file, without one; a raw write. Plain facts of the document's disk: each call. What stays true of a disk. A disk: the law's own small world. A disk tells what the document's does: Tells. The document's Spoil. A disk beside the document's: the state of the law's calls. A disk beside the document's, and a clone of the disk. No condition. -/
import Derived.Sort.Walk0
import Derived.Test.YtieodkghfceflaaMDx1
import Derived.Test.YtieodkghfceflaaMDx2
import Derived.Test.YtieodkghfceflaaMDx6
import Derived.Test.YtieodkghfceflaaGA
import Derived.Test.YtieodkghfceflaaMDx5
import Derived.Deep.RegionHeld3
import Derived.Test.YtieodkghfceflaaConv
set_option linter.unusedVariables false
set_option linter.unusedSimpArgs false
namespace Go.Proofs.Ytieodkghfceflaa.Pure
open Go.RowKit Go.Proofs.Ytieodkghfceflaa.MD Go.Proofs.Ytieodkghfceflaa.Opening Go.Proofs.YtieodkghfceflaaW.PrintWords Go.Proofs.YtieodkghfceflaaW.PrintLast Go.Proofs.YtieodkghfceflaaW.PrintMore

def key (x : ByteArray) : List UInt8 := x.data.toList
theorem key_inj {x y : ByteArray} (h : key x = key y) : x = y := by
  cases x; cases y
  simp only [key] at h
  rw [Array.toList_inj] at h
  rw [h]
abbrev K := List UInt8
theorem key_len (x : ByteArray) : (key x).length = x.size := by simp [key]
theorem wnat {i n : Nat} (h : i < n) (hn : n ≤ 4611686018427387904) : wrap64 ((i : Int) + 1) = ((i + 1 : Nat) : Int) := by unfold wrap64; omega
theorem key_drop {p : ByteArray} {i : Nat} (h : i < p.size) : ∃ c : UInt8, bt p (i : Int) = (c.toNat : Int) ∧ (key p)[i]? = some c ∧ (key p).drop i = c :: (key p).drop (i + 1) := by
  have h' : i < (key p).length := by rw [key_len]; exact h
  refine ⟨(key p)[i], ?_, by simp, List.drop_eq_getElem_cons h'⟩
  have := bt_at p (i : Int) (by simpa using h)
  rw [← this]
  rfl
theorem byte_eq (c : UInt8) (n : Nat) (hn : n < 256) : ((c.toNat : Int) = (n : Int)) ↔ c = UInt8.ofNat n := by
  constructor
  · intro h
    apply UInt8.toNat_inj.1
    rw [UInt8.toNat_ofNat']
    omega
  · rintro rfl
    rw [UInt8.toNat_ofNat']
    omega
theorem slash_iff (c : UInt8) : ((c.toNat : Int) = 47) ↔ c = 47 := byte_eq c 47 (by omega)
def plainI (x : Int) : Bool := (decide (97 ≤ x) && decide (x ≤ 122)) || (decide (48 ≤ x) && decide (x ≤ 57)) || decide (x = 95) || decide (x = 46)
theorem plain_f (x : Int) : path_plain.f x = some (plainI x) := by
  unfold path_plain.f plainI
  by_cases h1 : x ≥ 97 <;> by_cases h2 : x ≤ 122 <;> by_cases h3 : x ≥ 48 <;> by_cases h4 : x ≤ 57 <;> by_cases h5 : x = 95 <;>
    simp [h1, h2, h3, h4, h5] <;> first | omega | rfl | (rw [Bool.eq_iff_iff]; simp; omega)
def chk : K → Nat → Nat → Bool
  | [], n, r => decide (r ≠ 0) && decide (n ≤ 6)
  | c :: t, n, r => if c = 47 then decide (r ≠ 0) && chk t (n + 1) 0 else plainI (c.toNat : Int) && (decide (r < 16) && chk t n (r + 1))
def code (b : Bool) : Int := cond b 0 2
def isP (l : K) : Bool := chk l 1 0
theorem check_l0 {p : ByteArray} (hp : p.size ≤ 140737488351232) (d : Nat) : ∀ (i n r k : Nat), p.size - i = d → i ≤ p.size → n ≤ i + 1 → r ≤ i → d < k →
    path_Check.l0 k p n r p.size i = some (code (chk ((key p).drop i) n r)) := by
  induction d with
  | zero =>
    intro i n r k hd hi hn hr hk
    obtain ⟨k, rfl⟩ : ∃ m, k = m + 1 := ⟨k - 1, by omega⟩
    have hz : (key p).drop i = [] := List.drop_eq_nil_of_le (by rw [key_len]; omega)
    simp only [path_Check.l0]
    rw [if_neg (by omega), hz]
    by_cases h1 : r = 0
    · subst h1; simp [chk, code]
    · rw [if_neg (by omega)]
      by_cases h2 : n ≤ 6
      · rw [if_neg (by omega)]; simp [chk, h1, h2, code]
      · rw [if_pos (by omega)]; simp [chk, h2, code]
  | succ d ih =>
    intro i n r k hd hi hn hr hk
    obtain ⟨k, rfl⟩ : ∃ m, k = m + 1 := ⟨k - 1, by omega⟩
    obtain ⟨c, hb, -, hdr⟩ := key_drop (p := p) (i := i) (by omega)
    simp only [path_Check.l0]
    rw [if_pos (by omega), if_pos (by omega), if_pos (by omega), hb, hdr]
    simp only [chk]
    by_cases hc : c = 47
    · rw [if_pos ((slash_iff c).2 hc), if_pos hc]
      by_cases h1 : r = 0
      · rw [if_pos (by omega)]; simp [h1, code]
      · rw [if_neg (by omega), wnat (n := p.size + 2) (by omega) (by omega), wnat (n := p.size) (by omega) (by omega)]
        refine (ih (i + 1) (n + 1) 0 k (by omega) (by omega) (by omega) (by omega) (by omega)).trans ?_
        simp [h1]
    · rw [if_neg (fun h => hc ((slash_iff c).1 h)), if_neg hc, plain_f]
      simp only [Option.bind_some]
      by_cases h1 : plainI (c.toNat : Int) = true
      · rw [if_pos h1]
        by_cases h2 : r < 16
        · rw [if_pos (by omega), wnat (n := p.size + 2) (by omega) (by omega), wnat (n := p.size) (by omega) (by omega), ih (i + 1) n (r + 1) k (by omega) (by omega) (by omega) (by omega) (by omega)]
          simp [h1, h2]
        · rw [if_neg (by omega)]; simp [h2, code]
      · rw [if_neg h1]; simp [h1, code]
theorem check_f {p : ByteArray} (hp : p.size ≤ 140737488351232) (k : Nat) (hk : p.size < k) : path_Check.f k p = some (code (isP (key p))) := by
  have := check_l0 hp p.size 0 1 0 k (by omega) (by omega) (by omega) (by omega) hk
  simpa [path_Check.f, isP] using this
def nameK (l : K) : Bool := l.all (fun c => plainI (c.toNat : Int)) && decide (1 ≤ l.length ∧ l.length ≤ 16)
theorem refName_l0 {p : ByteArray} (hp : p.size ≤ 140737488351232) (d : Nat) : ∀ (i k : Nat), p.size - i = d → i ≤ p.size → d < k →
    forebearref03_Name.l0 k p i = some (((key p).drop i).all (fun c => plainI (c.toNat : Int)) && decide (1 ≤ p.size ∧ p.size ≤ 16)) := by
  induction d with
  | zero =>
    intro i k hd hi hk
    obtain ⟨k, rfl⟩ : ∃ m, k = m + 1 := ⟨k - 1, by omega⟩
    simp only [forebearref03_Name.l0]
    rw [if_neg (by omega), List.drop_eq_nil_of_le (by rw [key_len]; omega)]
    by_cases h1 : 1 ≤ p.size
    · rw [if_pos (by omega)]
      simp only [List.all_nil, Bool.true_and, Option.some.injEq]
      rw [Bool.eq_iff_iff, decide_eq_true_eq, decide_eq_true_eq]; omega
    · rw [if_neg (by omega)]; simp [h1]
  | succ d ih =>
    intro i k hd hi hk
    obtain ⟨k, rfl⟩ : ∃ m, k = m + 1 := ⟨k - 1, by omega⟩
    obtain ⟨c, hb, -, hdr⟩ := key_drop (p := p) (i := i) (by omega)
    have hn := ih (i + 1) k (by omega) (by omega) (by omega)
    simp only [forebearref03_Name.l0]
    rw [if_pos (by omega), if_pos (by omega), hb, hdr, wnat (n := p.size) (by omega) (by omega), hn, List.all_cons]
    generalize (c.toNat : Int) = x
    rw [Bool.and_assoc]
    generalize hg : (((key p).drop (i + 1)).all (fun c => plainI (c.toNat : Int)) && decide (1 ≤ p.size ∧ p.size ≤ 16)) = b
    by_cases h : plainI x = true
    · rw [h, Bool.true_and]
      unfold plainI at h
      simp at h
      repeat' split
      all_goals first | rfl | omega
    · have h' : plainI x = false := by simpa using h
      rw [h', Bool.false_and]
      unfold plainI at h'
      simp at h'
      repeat' split
      all_goals first | rfl | omega
theorem refName_f {p : ByteArray} (hp : p.size ≤ 140737488351232) (k : Nat) (hk : p.size < k) : forebearref03_Name.f k p = some (nameK (key p)) := by
  have := refName_l0 hp p.size 0 k (by omega) (by omega) hk
  rw [show ((0 : Nat) : Int) = 0 from rfl] at this
  unfold forebearref03_Name.f nameK
  rw [this, key_len]; simp
/-- What stands between the slashes; 'last': what stands ahead. -/
def sp : K → K → List K
  | last, [] => [last]
  | last, c :: t => if c = 47 then last :: sp [] t else sp (last ++ [c]) t
theorem sp_slash (t last : K) : sp last (47 :: t) = last :: sp [] t := by rw [sp, if_pos rfl]
theorem sp_other {c : UInt8} (h : c ≠ 47) (t last : K) : sp last (c :: t) = sp (last ++ [c]) t := by rw [sp, if_neg h]
theorem chk_slash (t : K) (n r : Nat) : chk (47 :: t) n r = (decide (r ≠ 0) && chk t (n + 1) 0) := by rw [chk, if_pos rfl]
theorem chk_other {c : UInt8} (h : c ≠ 47) (t : K) (n r : Nat) : chk (c :: t) n r = (plainI (c.toNat : Int) && (decide (r < 16) && chk t n (r + 1))) := by rw [chk, if_neg h]
theorem sp_head : ∀ (t last : K), ∃ s r, sp last t = (last ++ s) :: r
  | [], last => ⟨[], [], by simp [sp]⟩
  | c :: t, last => by
    unfold sp
    by_cases h : c = 47
    · rw [if_pos h]; exact ⟨[], _, by simp; rfl⟩
    · rw [if_neg h]
      obtain ⟨s, r, e⟩ := sp_head t (last ++ [c])
      exact ⟨c :: s, r, by rw [e]; simp⟩
theorem chk_sp : ∀ (t last : K) (n : Nat), 1 ≤ n → last.all (fun c => plainI (c.toNat : Int)) = true → last.length ≤ 16 → chk t n last.length = ((sp last t).all nameK && decide (n + (sp last t).length ≤ 7))
  | [], last, n, hn, ha, hl => by
    simp only [chk, sp, List.all_cons, List.all_nil, nameK, ha, Bool.true_and, Bool.and_true, List.length_cons, List.length_nil, Nat.zero_add]
    rw [Bool.eq_iff_iff]; simp only [Bool.and_eq_true, decide_eq_true_eq, ne_eq]
    constructor
    · rintro ⟨h1, h2⟩; exact ⟨⟨by omega, hl⟩, by omega⟩
    · rintro ⟨⟨h1, h2⟩, h3⟩; exact ⟨by omega, by omega⟩
  | c :: t, last, n, hn, ha, hl => by
    by_cases h : c = 47
    · subst h
      have := chk_sp t [] (n + 1) (by omega) rfl (by simp)
      rw [show ([] : K).length = 0 from rfl] at this
      rw [chk_slash, sp_slash, this]
      simp only [List.all_cons, nameK, ha, Bool.true_and, List.length_cons]
      rw [Bool.eq_iff_iff]; simp only [Bool.and_eq_true, decide_eq_true_eq]
      constructor
      · rintro ⟨h1, h2, h3⟩; exact ⟨⟨by omega, h2⟩, by omega⟩
      · rintro ⟨⟨h1, h2⟩, h3⟩; exact ⟨by omega, h2, by omega⟩
    · rw [chk_other h, sp_other h]
      by_cases h1 : plainI (c.toNat : Int) = true
      · by_cases h2 : last.length < 16
        · have := chk_sp t (last ++ [c]) n hn (by simp [h1]; simpa using ha) (by simp; omega)
          rw [List.length_append, List.length_singleton] at this
          rw [h1, this]; simp [h2]
        · obtain ⟨s, r, e⟩ := sp_head t (last ++ [c])
          have : nameK (last ++ [c] ++ s) = false := by
            unfold nameK; simp; omega
          rw [e, List.all_cons, this]; simp [h2]
      · obtain ⟨s, r, e⟩ := sp_head t (last ++ [c])
        have h1' : plainI (c.toNat : Int) = false := by simpa using h1
        have : nameK (last ++ [c] ++ s) = false := by
          unfold nameK; simp [h1']
        rw [e, List.all_cons, this]; simp [h1']
theorem isP_sp (l : K) : isP l = ((sp [] l).all nameK && decide ((sp [] l).length ≤ 6)) := by
  have := chk_sp l [] 1 (by omega) rfl (by simp)
  unfold isP
  rw [show ([] : K).length = 0 from rfl] at this
  rw [this]
  congr 1
  rw [Bool.eq_iff_iff]; simp; omega
theorem sp_none : ∀ (t last : K), (47 : UInt8) ∉ t → sp last t = [last ++ t]
  | [], last, _ => by simp [sp]
  | c :: t, last, h => by
    have hc : c ≠ 47 := fun e => h (by simp [e])
    rw [sp_other hc, sp_none t _ (fun e => h (List.mem_cons_of_mem _ e))]; simp
theorem name_none {l : K} (h : nameK l = true) : (47 : UInt8) ∉ l := by
  intro hm
  unfold nameK at h
  simp only [Bool.and_eq_true, List.all_eq_true] at h
  have := h.1 47 hm
  simp [plainI] at this
theorem idx_mem : ∀ (l : K) (c : UInt8), 0 ≤ Lib.indexByte l c ↔ c ∈ l
  | [], c => by simp [Lib.indexByte]
  | b :: l, c => by
    have ih := idx_mem l c
    have hg := Lib.indexByte_ge l c
    unfold Lib.indexByte
    by_cases h : b = c
    · subst h; simp
    · have h' : ¬ c = b := fun e => h e.symm
      rw [if_neg (by simpa using h), List.mem_cons]
      by_cases h2 : Lib.indexByte l c = -1
      · rw [if_pos (by simpa using h2), ← ih]; simp [h']; omega
      · rw [if_neg (by simpa using h2), ← ih]; simp [h']; omega
theorem contains_slash (p : ByteArray) : strings_Contains.f p (⟨#[47]⟩ : ByteArray) = some (decide ((47 : UInt8) ∈ key p)) := by
  unfold strings_Contains.f strings_Index.f stringslite_Index.f
  simp only [Option.bind_some, Option.some.injEq]
  rw [Bool.eq_iff_iff, decide_eq_true_eq, decide_eq_true_eq]
  exact idx_mem (key p) 47
theorem name_f {p : ByteArray} (hp : p.size ≤ 140737488351232) (k : Nat) (hk : p.size < k) : path_Name.f k p = some (code (nameK (key p))) := by
  unfold path_Name.f
  rw [contains_slash]
  simp only [Option.bind_some, decide_eq_true_eq]
  by_cases h : (47 : UInt8) ∈ key p
  · rw [if_pos h]
    have : nameK (key p) = false := by
      cases e : nameK (key p) with
      | false => rfl
      | true => exact absurd h (name_none e)
    rw [this]; rfl
  · rw [if_neg h, check_f hp k hk, isP_sp, sp_none _ _ h]
    simp

end Go.Proofs.Ytieodkghfceflaa.Pure
namespace Go.Proofs.Ytieodkghfceflaa.Pure
open Go.RowKit Go.Proofs.Ytieodkghfceflaa.MD Go.Proofs.Ytieodkghfceflaa.Opening Go.Proofs.YtieodkghfceflaaW.PrintWords Go.Proofs.YtieodkghfceflaaW.PrintLast Go.Proofs.YtieodkghfceflaaW.PrintMore
abbrev ret (r : DS × Int) : List S76 × Int × Bool × Bool × Int × Int × Int := (r.1.files, r.1.writes, r.1.armed, r.1.dead, r.1.after, r.1.keep, r.2)
theorem rd76 {l : List S76} {i : Nat} (h : i < l.length) : rd_T76 l (i : Int) = l[i] := by
  unfold rd_T76
  simp [List.getD, h]
theorem kB_toList (x : ByteArray) : x.toList = kB x := ByteArray.toList_eq x
theorem wnat1 {i : Nat} (h : i ≤ 1000000000) : wrap64 ((i : Int) + 1) = ((i + 1 : Nat) : Int) := by unfold wrap64; omega
/-- The place of a file. -/
theorem at_l0 {l : List S76} {p : ByteArray} (hl : l.length ≤ 1000000) (a : Int) (b c : Bool) (e g : Int) : ∀ (d i k : Nat), l.length - i = d → i ≤ l.length → d < k →
    ∃ r, forebearref06_At.l0 k p i l a b c e g = some r ∧ ((r = -1 ∧ ∀ x ∈ l.drop i, kB x.f0 ≠ kB p) ∨ ∃ n : Nat, r = n ∧ i ≤ n ∧ ∃ h : n < l.length, kB l[n].f0 = kB p) := by
  intro d
  induction d with
  | zero =>
    intro i k hd hi hk
    obtain ⟨k, rfl⟩ : ∃ k', k = k' + 1 := ⟨k - 1, by omega⟩
    unfold forebearref06_At.l0
    rw [if_neg (by omega)]
    exact ⟨_, rfl, Or.inl ⟨rfl, fun x hx => by rw [List.drop_eq_nil_of_le (by omega)] at hx; cases hx⟩⟩
  | succ d ih =>
    intro i k hd hi hk
    obtain ⟨k, rfl⟩ : ∃ k', k = k' + 1 := ⟨k - 1, by omega⟩
    have hlt : i < l.length := by omega
    unfold forebearref06_At.l0
    rw [if_pos (by omega), if_pos (by omega), rd76 hlt, kB_toList, kB_toList]
    by_cases hx : kB l[i].f0 = kB p
    · rw [if_pos hx]
      exact ⟨_, rfl, Or.inr ⟨i, rfl, Nat.le_refl _, hlt, hx⟩⟩
    · rw [if_neg hx, wnat1 (by omega)]
      obtain ⟨r, hr, h⟩ := ih (i + 1) k (by omega) (by omega) (by omega)
      refine ⟨r, hr, ?_⟩
      rcases h with ⟨h1, h2⟩ | ⟨n, h1, h2, h3⟩
      · refine Or.inl ⟨h1, fun x hxm => ?_⟩
        rw [List.drop_eq_getElem_cons hlt] at hxm
        rcases List.mem_cons.mp hxm with rfl | hxm
        · exact hx
        · exact h2 x hxm
      · exact Or.inr ⟨n, h1, by omega, h3⟩
theorem fileOf_at {l : List S76} (hr : Rise l) {n : Nat} (h : n < l.length) {p : ByteArray} (he : kB l[n].f0 = kB p) : fileOf l p = some (bytesOf l[n].f1) := by
  unfold fileOf
  have : l.find? (fun x => decide (kB x.f0 = kB p)) = some l[n] := by
    rw [List.find?_eq_some_iff_getElem]
    refine ⟨by simpa using he, n, h, rfl, fun j hj => ?_⟩
    have := List.pairwise_iff_getElem.mp hr j n (by omega) h hj
    simp only [decide_eq_true_eq, Bool.not_eq_true', decide_eq_false_iff_not]
    exact fun e => kB_ne this (e.trans he.symm)
  rw [this]
  rfl
theorem at_f {l : List S76} (hr : Rise l) {p : ByteArray} (hl : l.length ≤ 1000000) (a : Int) (b c : Bool) (e g : Int) (k : Nat) (hk : l.length < k) :
    ∃ r, forebearref06_At.f k l a b c e g p = some r ∧ ((r = -1 ∧ fileOf l p = none) ∨ ∃ n : Nat, r = n ∧ ∃ h : n < l.length, fileOf l p = some (bytesOf l[n].f1)) := by
  obtain ⟨r, h1, h2⟩ := at_l0 (p := p) hl a b c e g l.length 0 k (by omega) (by omega) hk
  refine ⟨r, h1, ?_⟩
  rcases h2 with ⟨h2, h3⟩ | ⟨n, h2, _, h3, h4⟩
  · exact Or.inl ⟨h2, fileOf_none.mpr (by simpa using h3)⟩
  · exact Or.inr ⟨n, h2, h3, fileOf_at hr h3 h4⟩
theorem str_back (s : ByteArray) : strOfNums (bytesOf s) = s := by
  apply ByteArray.ext
  apply Array.toList_inj.mp
  rw [strOfNums_data]
  unfold bytesOf
  rw [List.map_map]
  conv => rhs; rw [← List.map_id s.data.toList]
  exact List.map_congr_left fun b _ => by simp
/-- The bytes of a file. -/
theorem data_f {m : DS} (hr : Rise m.files) {p : ByteArray} (hl : m.files.length ≤ 1000000) (a : Int) (b c : Bool) (e g : Int) (k : Nat) (hk : m.files.length < k) :
    forebearref06_Data.f k m.files a b c e g p = some (strOfNums (ownOf m p)) := by
  obtain ⟨r, h1, h2⟩ := at_f hr (p := p) hl a b c e g k hk
  unfold forebearref06_Data.f ownOf
  rw [h1]
  simp only [Option.bind_some]
  rcases h2 with ⟨rfl, h2⟩ | ⟨n, rfl, hn, h2⟩
  · rw [if_neg (by omega), h2]
    rfl
  · rw [if_pos (by omega), if_pos (by omega), if_pos (by omega), h2, rd76 hn]
    exact congrArg some (str_back _).symm
end Go.Proofs.Ytieodkghfceflaa.Pure
namespace Go.Proofs.Ytieodkghfceflaa.Pure
open Go.RowKit Go.Proofs.Ytieodkghfceflaa.MD Go.Proofs.Ytieodkghfceflaa.Opening Go.Proofs.YtieodkghfceflaaW.PrintWords Go.Proofs.YtieodkghfceflaaW.PrintLast Go.Proofs.YtieodkghfceflaaW.PrintMore
theorem rise_drop {l : List S76} (hr : Rise l) {i : Nat} (h : i < l.length) : ∀ y ∈ l.drop (i + 1), kB l[i].f0 < kB y.f0 := by
  have := List.Pairwise.drop (i := i) hr
  rw [List.drop_eq_getElem_cons h] at this
  exact (List.pairwise_cons.mp this).1
theorem without_l0 {l : List S76} {p : ByteArray} (hl : l.length ≤ 1000000) : ∀ (d i k : Nat) (out : List S76), l.length - i = d → i ≤ l.length → out.length ≤ i → d < k →
    forebearref06_without.l0 k l p out i = some (out ++ dropF (l.drop i) p) := by
  intro d
  induction d with
  | zero =>
    intro i k out hd hi ho hk
    obtain ⟨k, rfl⟩ : ∃ k', k = k' + 1 := ⟨k - 1, by omega⟩
    unfold forebearref06_without.l0
    rw [if_neg (by omega), List.drop_eq_nil_of_le (by omega)]
    simp [dropF]
  | succ d ih =>
    intro i k out hd hi ho hk
    obtain ⟨k, rfl⟩ : ∃ k', k = k' + 1 := ⟨k - 1, by omega⟩
    have hlt : i < l.length := by omega
    unfold forebearref06_without.l0
    rw [if_pos (by omega), if_pos (by omega), rd76 hlt, kB_toList, kB_toList, List.drop_eq_getElem_cons hlt, wnat1 (by omega)]
    by_cases hx : kB l[i].f0 = kB p
    · rw [if_pos hx, ih (i + 1) k out (by omega) (by omega) (by omega) (by omega)]
      unfold dropF
      rw [List.filter_cons, if_neg (by rw [decide_eq_true hx]; decide)]
    · rw [if_neg hx, if_pos (by omega), ih (i + 1) k _ (by omega) (by omega) (by simp; omega) (by omega)]
      unfold dropF
      rw [List.filter_cons, if_pos (by rw [decide_eq_false hx]; decide)]
      simp
theorem without_f {l : List S76} {p : ByteArray} (hl : l.length ≤ 1000000) (k : Nat) (hk : l.length < k) : forebearref06_without.f k l p = some (dropF l p) := by
  have := without_l0 (p := p) hl l.length 0 k [] (by omega) (by omega) (by simp) hk
  simpa [forebearref06_without.f] using this
theorem with_l0 {l : List S76} (hr : Rise l) {p s : ByteArray} (hl : l.length ≤ 1000000) : ∀ (d i k : Nat) (out : List S76) (done : Bool), l.length - i = d → i ≤ l.length → out.length ≤ 2 * i → 2 * d + 1 ≤ k → (done = true → ∀ x ∈ l.drop i, kB p < kB x.f0) →
    forebearref06_with.l0 k l out done i p s = some (out ++ if done = true then l.drop i else putF (l.drop i) ⟨p, s⟩) := by
  intro d
  induction d with
  | zero =>
    intro i k out done hd hi ho hk hdn
    obtain ⟨k, rfl⟩ : ∃ k', k = k' + 1 := ⟨k - 1, by omega⟩
    unfold forebearref06_with.l0
    rw [if_neg (by omega), List.drop_eq_nil_of_le (by omega)]
    cases done with
    | true => simp
    | false => rw [if_neg (by simp), if_pos (by omega)]; simp [putF]
  | succ d ih =>
    intro i k out done hd hi ho hk hdn
    obtain ⟨k, rfl⟩ : ∃ k', k = k' + 2 := ⟨k - 2, by omega⟩
    have hlt : i < l.length := by omega
    have hdr := List.drop_eq_getElem_cons hlt
    have hgt := rise_drop hr hlt
    unfold forebearref06_with.l0
    rw [if_pos (by omega)]
    cases done with
    | true =>
      rw [if_pos rfl]
      unfold forebearref06_with.j1
      have hlt' := hdn rfl l[i] (by rw [hdr]; exact List.mem_cons_self)
      rw [if_neg (by simp), if_pos (by omega), if_pos (by omega), rd76 hlt, kB_toList, kB_toList, if_neg (kB_ne hlt'), if_pos (by omega), wnat1 (by omega),
        ih (i + 1) k _ true (by omega) (by omega) (by simp; omega) (by omega) (fun _ x hx => hdn rfl x (by rw [hdr]; exact List.mem_cons_of_mem _ hx))]
      rw [if_pos rfl, if_pos rfl, hdr]
      simp
      exact hdr.symm
    | false =>
      rw [if_neg (by simp), if_pos (by omega)]
      unfold forebearref06_with.j1
      rw [rd76 hlt, kB_toList, kB_toList, bytesLess_eq]
      by_cases h1 : kB l[i].f0 < kB p
      · have hne : ¬ kB p = kB l[i].f0 := fun e => kB_ne h1 e.symm
        have hnl : ¬ kB p < kB l[i].f0 := kB_asymm h1
        rw [decide_eq_true h1, if_neg (by simp), if_pos (by omega), if_pos (by omega), if_neg hne, if_pos (by omega), wnat1 (by omega),
          ih (i + 1) k _ false (by omega) (by omega) (by simp; omega) (by omega) (fun h => by cases h)]
        rw [if_neg (by simp), if_neg (by simp), hdr]
        simp [putF, hnl, hne]
      · rw [decide_eq_false h1, if_pos (by decide), if_pos (by omega)]
        simp only [Option.bind_some]
        rw [if_pos (by omega), if_pos (by omega), wnat1 (by omega)]
        by_cases h2 : kB p = kB l[i].f0
        · have hnl : ¬ kB p < kB l[i].f0 := fun h => kB_ne h h2
          rw [if_pos h2, ih (i + 1) k _ true (by omega) (by omega) (by simp; omega) (by omega) (fun _ x hx => by rw [h2]; exact hgt x hx)]
          rw [if_pos rfl, if_neg (by simp), hdr]
          unfold putF
          rw [if_neg hnl, if_pos h2]
          simp
        · have hlt2 := kB_tri _ _ h1 (fun e => h2 e.symm)
          rw [if_neg h2, if_pos (by simp; omega), ih (i + 1) k _ true (by omega) (by omega) (by simp; omega) (by omega) (fun _ x hx => kB_trans hlt2 (hgt x hx))]
          rw [if_pos rfl, if_neg (by simp), hdr]
          unfold putF
          rw [if_pos hlt2]
          simp
          exact hdr.symm
theorem with_f {l : List S76} (hr : Rise l) {p s : ByteArray} (hl : l.length ≤ 1000000) (k : Nat) (hk : 2 * l.length < k) : forebearref06_with.f k l p s = some (putF l ⟨p, s⟩) := by
  have := with_l0 hr (p := p) (s := s) hl l.length 0 k [] false (by omega) (by omega) (by simp) (by omega) (fun h => by cases h)
  simpa [forebearref06_with.f] using this
/-- A raw write. -/
def tornB (m : DS) : Bool := !m.dead && (m.armed && decide (m.after = 0))
theorem next_f {m : DS} (hk : OkD m) (k : Nat) : forebearref06_next.f (k + 1) m.files m.writes m.armed m.dead m.after m.keep = some ((goD m).1.files, (goD m).1.writes, (goD m).1.armed, (goD m).1.dead, (goD m).1.after, (goD m).1.keep, (goD m).2, tornB m) := by
  obtain ⟨h1, h2, h3, h4, h5, h6⟩ := hk
  have e1 : wrap64 (m.writes + 1) = m.writes + 1 := by unfold wrap64; omega
  unfold forebearref06_next.f goD tornB nextD
  cases hd : m.dead with
  | true => simp [hd]
  | false =>
    cases ha : m.armed with
    | false =>
      unfold forebearref06_next.j0
      simp [ha, e1]
    | true =>
      have e2 : wrap64 (m.after - 1) = m.after - 1 := by have := h4 ha; unfold wrap64; omega
      unfold forebearref06_next.j0
      by_cases h0 : m.after = 0
      · simp [h0]
      · simp [h0, ha, e1, e2]
theorem str_append (x y : ByteArray) : x ++ y = strOfNums (bytesOf x ++ bytesOf y) := by
  apply ByteArray.ext
  apply Array.toList_inj.mp
  rw [strOfNums_data, List.map_append]
  have e : ∀ z : ByteArray, (bytesOf z).map (fun n => UInt8.ofNat n.toNat) = z.data.toList := fun z => by
    have := congrArg (fun s => s.data.toList) (str_back z)
    simpa [strOfNums_data] using this
  rw [e, e]
  simp
theorem bytes_extract (x : ByteArray) (n : Nat) : bytesOf (x.extract 0 n) = (bytesOf x).take n := by
  unfold bytesOf
  rw [← List.map_take]
  congr 1
  simp [ByteArray.data_extract]
theorem size_bytes (x : ByteArray) : x.size = (bytesOf x).length := (bytesOf_length x).symm
theorem lay_f {m : DS} (hk : OkD m) (hr : Rise m.files) {p x y : ByteArray} (hp : p.size ≤ 140737488351232) (hx : x.size ≤ 140737488355328) (hy : y.size ≤ 140737488355328) (k : Nat) (h1 : p.size < k) (h2 : 2000004 < k) :
    forebearref06_lay.f k m.files m.writes m.armed m.dead m.after m.keep p x y = some (if nameK (key p) = true then ret (layD m p (bytesOf x) (bytesOf y)) else ret (m, 2)) := by
  have hl := hk.len
  unfold forebearref06_lay.f
  rw [refName_f hp k h1]
  simp only [Option.bind_some]
  cases hn : nameK (key p) with
  | false => simp
  | true =>
    rw [if_pos rfl, if_pos rfl]
    have hw : wrap64 ((x.size : Int) + (y.size : Int)) = ((x.size + y.size : Nat) : Int) := by unfold wrap64; omega
    rw [hw]
    have key1 : ∀ full : Bool, full = fullD m p (bytesOf x) (bytesOf y) → forebearref06_lay.j0 k p x y full m.files m.writes m.armed m.dead m.after m.keep = some (ret (layD m p (bytesOf x) (bytesOf y))) := by
      intro full hf
      obtain ⟨k, rfl⟩ : ∃ k', k = k' + 1 := ⟨k - 1, by omega⟩
      unfold forebearref06_lay.j0
      obtain ⟨k, rfl⟩ : ∃ k', k = k' + 1 := ⟨k - 1, by omega⟩
      dsimp only
      cases full with
      | true => rw [if_pos rfl]; unfold layD; rw [if_pos hf.symm]
      | false =>
        rw [if_neg (by simp), next_f hk]
        simp only [Option.bind_some]
        unfold layD
        rw [if_neg (show ¬ fullD m p (bytesOf x) (bytesOf y) = true by rw [← hf]; simp)]
        by_cases hd : m.dead = true
        · have e1 : tornB m = false := by simp [tornB, hd]
          have e2 : goD m = (m, false) := by unfold goD; rw [if_pos hd]
          rw [e1, e2, if_neg (by simp), if_neg (by simp), if_pos hd]
        · rw [if_neg hd]
          by_cases ha : m.armed = true ∧ m.after = 0
          · have e1 : tornB m = true := by simp [tornB, hd, ha.1, ha.2]
            have e2 : goD m = ({ m with dead := true, armed := false }, false) := by unfold goD; rw [if_neg hd, if_pos ha]
            rw [e1, e2, if_pos rfl, if_pos ha]
            have h0 := hk.keep
            by_cases hkp : m.keep < (y.size : Int)
            · rw [if_pos hkp, if_pos h0, if_pos (by omega)]
              unfold forebearref06_lay.j1
              dsimp only
              rw [if_pos (by simp; omega), with_f hr (by omega) _ (by omega)]
              simp only [Option.bind_some]
              rw [if_neg (by simp), str_append, bytes_extract]
            · rw [if_neg hkp]
              unfold forebearref06_lay.j1
              dsimp only
              rw [if_pos (by omega), with_f hr (by omega) _ (by omega)]
              simp only [Option.bind_some]
              rw [if_neg (by simp), str_append, List.take_of_length_le (by rw [bytesOf_length]; omega)]
          · have e1 : tornB m = false := by
              unfold tornB
              cases hm : m.armed with
              | false => simp
              | true => simp only [Bool.true_and]; rw [decide_eq_false (fun h => ha ⟨hm, h⟩)]; simp
            have e2 : goD m = (nextD m, true) := by unfold goD; rw [if_neg hd, if_neg ha]
            rw [e1, e2, if_neg (by simp), if_pos rfl, if_neg ha, if_pos (by omega), with_f (l := (nextD m).files) hr (by exact Nat.le_of_lt hl) _ (by have : (nextD m).files.length < 1000000 := hl; omega)]
            simp only [Option.bind_some]
            rw [str_append]
            rfl
    by_cases hbig : x.size + y.size > 262144
    · rw [if_pos (by omega)]
      exact key1 true (by unfold fullD; rw [decide_eq_true (by simpa [bytesOf_length] using hbig)]; rfl)
    · rw [if_neg (by omega)]
      obtain ⟨r, hr1, hr2⟩ := at_f hr (p := p) (by omega) m.writes m.armed m.dead m.after m.keep k (by omega)
      rw [hr1]
      simp only [Option.bind_some]
      have hb : decide ((bytesOf x).length + (bytesOf y).length > 262144) = false := decide_eq_false (by simpa [bytesOf_length] using hbig)
      rcases hr2 with ⟨rfl, h3⟩ | ⟨n, rfl, hn, h3⟩
      · rw [if_pos (by omega)]
        refine key1 _ ?_
        unfold fullD
        rw [hb, h3]
        have e : decide ((m.files.length : Int) ≥ 32) = decide (m.files.length ≥ 32) := decide_eq_decide.mpr (by omega)
        rw [e]
        simp
      · rw [if_neg (by omega)]
        refine key1 _ ?_
        unfold fullD
        rw [hb, h3]
        rfl
end Go.Proofs.Ytieodkghfceflaa.Pure
namespace Go.Proofs.Ytieodkghfceflaa.Pure
open Go.RowKit Go.Proofs.Ytieodkghfceflaa.MD Go.Proofs.Ytieodkghfceflaa.Opening Go.Proofs.YtieodkghfceflaaW.PrintWords Go.Proofs.YtieodkghfceflaaW.PrintLast Go.Proofs.YtieodkghfceflaaW.PrintMore
/-- What a name is answered by. -/
def nm (p : ByteArray) : Int := code (nameK (key p))
theorem nm_true {p : ByteArray} (h : nameK (key p) = true) : nm p = 0 := by unfold nm; rw [h]; rfl
theorem nm_false {p : ByteArray} (h : nameK (key p) = false) : nm p = 2 := by unfold nm; rw [h]; rfl
theorem put_f {m : DS} (hk : OkD m) (hr : Rise m.files) {p y : ByteArray} (hp : p.size ≤ 140737488351232) (hy : y.size ≤ 140737488355328) (k : Nat) (h1 : p.size < k) (h2 : 2000004 < k) :
    forebearref06_Put.f k m.files m.writes m.armed m.dead m.after m.keep p y = some (ret (putD (nm p) m p (bytesOf y))) := by
  unfold forebearref06_Put.f
  rw [lay_f hk hr hp (by decide) hy k h1 h2]
  simp only [Option.bind_some]
  unfold putD
  cases hn : nameK (key p) with
  | false => rw [nm_false hn, if_neg (by simp), if_pos (by decide)]
  | true => rw [nm_true hn, if_pos rfl, if_neg (by decide)]; rfl
theorem append_f {m : DS} (hk : OkD m) (hr : Rise m.files) {p y : ByteArray} (hp : p.size ≤ 140737488351232) (hy : y.size ≤ 140737488355328) (k : Nat) (h1 : p.size < k) (h2 : 2000004 < k) :
    forebearref06_Append.f k m.files m.writes m.armed m.dead m.after m.keep p y = some (ret (appendD (nm p) m p (bytesOf y))) := by
  have hl := hk.len
  have ho := hk.own p
  unfold forebearref06_Append.f
  rw [data_f hr (by omega) _ _ _ _ _ k (by omega)]
  simp only [Option.bind_some]
  rw [lay_f hk hr hp (by rw [strOfNums_size]; omega) hy k h1 h2, bytesOf_str (ownOf_bytes m p)]
  simp only [Option.bind_some]
  unfold appendD
  cases hn : nameK (key p) with
  | false => rw [nm_false hn, if_neg (by simp), if_pos (by decide)]
  | true => rw [nm_true hn, if_pos rfl, if_neg (by decide)]
theorem goD_len {m : DS} (hk : OkD m) : (goD m).1.files.length < 1000000 := by rw [goD_files]; exact hk.len
theorem goD_rise {m : DS} (hr : Rise m.files) : Rise (goD m).1.files := by rw [goD_files]; exact hr
theorem trim_f {m : DS} (hk : OkD m) (hr : Rise m.files) {p : ByteArray} (hp : p.size ≤ 140737488351232) (n : Int) (k : Nat) (h1 : p.size < k) (h2 : 2000004 < k) :
    forebearref06_Trim.f k m.files m.writes m.armed m.dead m.after m.keep p n = some (ret (trimD (nm p) m p n)) := by
  have hl := hk.len
  have ho := hk.own p
  unfold forebearref06_Trim.f trimD thereD
  rw [refName_f hp k h1]
  simp only [Option.bind_some]
  cases hn : nameK (key p) with
  | false => rw [nm_false hn, if_neg (by simp)]; rfl
  | true =>
    rw [nm_true hn, if_pos rfl, if_neg (show ¬ ((0 : Int) ≠ 0) by decide)]
    obtain ⟨r, hr1, hr2⟩ := at_f hr (p := p) (by omega) m.writes m.armed m.dead m.after m.keep k (by omega)
    rw [hr1]
    simp only [Option.bind_some]
    rcases hr2 with ⟨rfl, h3⟩ | ⟨n', rfl, hn', h3⟩
    · rw [if_pos (by omega), h3]
      rfl
    · rw [if_neg (by omega), h3, data_f hr (by omega) _ _ _ _ _ k (by omega)]
      simp only [Option.bind_some, Option.isSome_some, if_true]
      rw [if_neg (show ¬ ((0 : Int) ≠ 0) by decide)]
      have hs : (strOfNums (ownOf m p)).size = (ownOf m p).length := strOfNums_size _
      have key1 : ∀ b : Bool, (b = true ↔ (n < 0 ∨ n > ((ownOf m p).length : Int))) → forebearref06_Trim.j0 k p n (strOfNums (ownOf m p)) b m.files m.writes m.armed m.dead m.after m.keep = some (ret (if n < 0 ∨ n > ((ownOf m p).length : Int) then (m, 3) else if (goD m).2 = false then ((goD m).1, 8) else ({ (goD m).1 with files := putF m.files ⟨p, strOfNums ((ownOf m p).take n.toNat)⟩ }, 0))) := by
        intro b hb
        obtain ⟨k, rfl⟩ : ∃ k', k = k' + 1 := ⟨k - 1, by omega⟩
        unfold forebearref06_Trim.j0
        obtain ⟨k, rfl⟩ : ∃ k', k = k' + 1 := ⟨k - 1, by omega⟩
        dsimp only
        cases b with
        | true => rw [if_pos rfl, if_pos (hb.mp rfl)]
        | false =>
          have hb' : ¬ (n < 0 ∨ n > ((ownOf m p).length : Int)) := fun h => by have := hb.mpr h; cases this
          rw [if_neg (show ¬ (false = true) by simp), if_neg hb', next_f hk]
          simp only [Option.bind_some]
          cases hg : (goD m).2 with
          | false => rw [if_neg (by simp), if_pos rfl]
          | true =>
            rw [if_pos rfl, if_neg (show ¬ (true = false) by simp), if_pos (by omega), if_pos (by rw [hs]; omega), with_f (goD_rise hr) (by have := goD_len hk; omega) _ (by have := goD_len hk; omega)]
            simp only [Option.bind_some]
            have e : (strOfNums (ownOf m p)).extract 0 n.toNat = strOfNums ((ownOf m p).take n.toNat) := by
              rw [← str_back ((strOfNums (ownOf m p)).extract 0 n.toNat), bytes_extract, bytesOf_str (ownOf_bytes m p)]
            rw [e, goD_files]
      by_cases h0 : n < 0
      · rw [if_pos h0]
        exact key1 true (by simp [h0])
      · rw [if_neg h0, hs]
        exact key1 _ (by simp [h0])
theorem remove_f {m : DS} (hk : OkD m) (hr : Rise m.files) {p : ByteArray} (hp : p.size ≤ 140737488351232) (k : Nat) (h1 : p.size < k) (h2 : 2000004 < k) :
    forebearref06_Remove.f k m.files m.writes m.armed m.dead m.after m.keep p = some (ret (removeD (nm p) m p)) := by
  have hl := hk.len
  unfold forebearref06_Remove.f removeD thereD
  rw [refName_f hp k h1]
  simp only [Option.bind_some]
  cases hn : nameK (key p) with
  | false => rw [nm_false hn, if_neg (by simp)]; rfl
  | true =>
    rw [nm_true hn, if_pos rfl, if_neg (show ¬ ((0 : Int) ≠ 0) by decide)]
    obtain ⟨r, hr1, hr2⟩ := at_f hr (p := p) (by omega) m.writes m.armed m.dead m.after m.keep k (by omega)
    rw [hr1]
    simp only [Option.bind_some]
    rcases hr2 with ⟨rfl, h3⟩ | ⟨n', rfl, hn', h3⟩
    · rw [if_pos (by omega), h3]
      rfl
    · obtain ⟨k, rfl⟩ : ∃ k', k = k' + 1 := ⟨k - 1, by omega⟩
      rw [if_neg (by omega), h3, next_f hk]
      simp only [Option.bind_some, Option.isSome_some, if_true]
      rw [if_neg (show ¬ ((0 : Int) ≠ 0) by decide)]
      cases hg : (goD m).2 with
      | false => rw [if_neg (by simp), if_pos rfl]
      | true =>
        rw [if_pos rfl, if_neg (show ¬ (true = false) by simp), without_f (by have := goD_len hk; omega) _ (by have := goD_len hk; omega)]
        simp only [Option.bind_some]
        rw [goD_files]
theorem rename_f {m : DS} (hk : OkD m) (hr : Rise m.files) {p q : ByteArray} (hp : p.size ≤ 140737488351232) (hq : q.size ≤ 140737488351232) (k : Nat) (h1 : p.size < k) (h1q : q.size < k) (h2 : 2000004 < k) :
    forebearref06_Rename.f k m.files m.writes m.armed m.dead m.after m.keep p q = some (ret (renameD (nm p) (nm q) m p q)) := by
  have hl := hk.len
  have key1 : ∀ b : Bool, b = (!nameK (key p) || !nameK (key q)) → forebearref06_Rename.j0 k p q b m.files m.writes m.armed m.dead m.after m.keep = some (ret (renameD (nm p) (nm q) m p q)) := by
    intro b hb
    obtain ⟨k, rfl⟩ : ∃ k', k = k' + 1 := ⟨k - 1, by omega⟩
    unfold forebearref06_Rename.j0 renameD thereD
    obtain ⟨k, rfl⟩ : ∃ k', k = k' + 1 := ⟨k - 1, by omega⟩
    dsimp only
    cases hnq : nameK (key q) with
    | false =>
      rw [hnq] at hb
      rw [if_pos (by rw [hb]; simp), nm_false hnq]
      rfl
    | true =>
      rw [nm_true hnq, if_neg (show ¬ ((0 : Int) ≠ 0) by decide)]
      cases hnp : nameK (key p) with
      | false =>
        rw [hnp] at hb
        rw [if_pos (by rw [hb]; simp), nm_false hnp]
        rfl
      | true =>
        rw [hnp, hnq] at hb
        rw [if_neg (by rw [hb]; simp), nm_true hnp, if_neg (show ¬ ((0 : Int) ≠ 0) by decide)]
        obtain ⟨r, hr1, hr2⟩ := at_f hr (p := p) (by omega) m.writes m.armed m.dead m.after m.keep (k + 1) (by omega)
        rw [hr1]
        simp only [Option.bind_some]
        rcases hr2 with ⟨rfl, h3⟩ | ⟨n', rfl, hn', h3⟩
        · rw [if_pos (by omega), h3]
          rfl
        · rw [if_neg (by omega), h3, data_f hr (by omega) _ _ _ _ _ (k + 1) (by omega), next_f hk]
          simp only [Option.bind_some, Option.isSome_some, if_true]
          rw [if_neg (show ¬ ((0 : Int) ≠ 0) by decide)]
          cases hg : (goD m).2 with
          | false => rw [if_neg (by simp), if_pos rfl]
          | true =>
            have hd := dropF_length_le (goD m).1.files p
            have hl2 := goD_len hk
            rw [if_pos rfl, if_neg (show ¬ (true = false) by simp), without_f (by omega) _ (by omega)]
            simp only [Option.bind_some]
            rw [with_f (dropF_rise (goD_rise hr) p) (by omega) _ (by omega)]
            simp only [Option.bind_some]
            rw [goD_files]
  unfold forebearref06_Rename.f
  rw [refName_f hp k h1]
  simp only [Option.bind_some]
  cases hnp : nameK (key p) with
  | false => rw [if_neg (by simp)]; exact key1 _ (by rw [hnp]; rfl)
  | true =>
    rw [if_pos rfl, refName_f hq k h1q]
    simp only [Option.bind_some]
    exact key1 _ (by rw [hnp]; rfl)
theorem cut_f {m : DS} (a n : Int) (k : Nat) (h : 0 < k) : forebearref06_Cut.f k m.files m.writes m.armed m.dead m.after m.keep a n = some (ret (cutD m a n)) := by
  obtain ⟨k, rfl⟩ : ∃ k', k = k' + 1 := ⟨k - 1, by omega⟩
  have key1 : ∀ b : Bool, (b = true ↔ (a < 0 ∨ n < 0)) → forebearref06_Cut.j0 (k + 1) a n b m.files m.writes m.armed m.dead m.after m.keep = some (ret (cutD m a n)) := by
    intro b hb
    unfold forebearref06_Cut.j0 cutD
    dsimp only
    cases b with
    | true => rw [if_pos rfl, if_pos (hb.mp rfl)]
    | false =>
      have hb' : ¬ (a < 0 ∨ n < 0) := fun h => by have := hb.mpr h; cases this
      rw [if_neg (show ¬ (false = true) by simp), if_neg hb']
      cases hd : m.dead with
      | true => rw [if_pos rfl, if_pos rfl]; simp [ret, hd]
      | false => rw [if_neg (by simp), if_neg (by simp)]
  unfold forebearref06_Cut.f
  by_cases h0 : a < 0
  · rw [if_pos h0]; exact key1 true (by simp [h0])
  · rw [if_neg h0]; exact key1 _ (by simp [h0])
end Go.Proofs.Ytieodkghfceflaa.Pure
namespace Go.Proofs.Ytieodkghfceflaa.Pure
open Go.RowKit Go.Proofs.Ytieodkghfceflaa.MD Go.Proofs.Ytieodkghfceflaa.Opening Go.Proofs.YtieodkghfceflaaW.PrintWords Go.Proofs.YtieodkghfceflaaW.PrintLast Go.Proofs.YtieodkghfceflaaW.PrintMore
structure Inv (c : Nat) (m : DS) : Prop where
  len : m.files.length ≤ 32
  writes : 0 ≤ m.writes ∧ m.writes ≤ c
  keep : 0 ≤ m.keep
  after : m.armed = true → 0 ≤ m.after
  after2 : m.after ≤ 9223372036854775807
  sizes : ∀ x ∈ m.files, x.f1.size ≤ 262144
  rise : Rise m.files
  names : ∀ x ∈ m.files, nameK (key x.f0) = true
theorem Inv.ok {c : Nat} {m : DS} (h : Inv c m) (hc : c ≤ 1000000) : OkD m := ⟨by have := h.len; omega, ⟨h.writes.1, by have := h.writes.2; omega⟩, h.keep, h.after, h.after2, h.sizes⟩
theorem Inv.le {c c' : Nat} {m : DS} (h : Inv c m) (hc : c ≤ c') : Inv c' m := ⟨h.len, ⟨h.writes.1, by have := h.writes.2; omega⟩, h.keep, h.after, h.after2, h.sizes, h.rise, h.names⟩
theorem Inv.new : Inv 0 newD := ⟨by simp [newD], by simp [newD], by simp [newD], by simp [newD], by simp [newD], by simp [newD], List.Pairwise.nil, by simp [newD]⟩
theorem Inv.go {c : Nat} {m : DS} (h : Inv c m) : Inv (c + 1) (goD m).1 := by
  unfold goD
  by_cases hd : m.dead = true
  · rw [if_pos hd]; exact h.le (by omega)
  · rw [if_neg hd]
    by_cases ha : m.armed = true ∧ m.after = 0
    · rw [if_pos ha]
      exact ⟨h.len, ⟨h.writes.1, by have := h.writes.2; simp; omega⟩, h.keep, fun e => by simp at e, h.after2, h.sizes, h.rise, h.names⟩
    · rw [if_neg ha]
      have hw := h.writes
      have h2 := h.after2
      refine ⟨h.len, ⟨by simp [nextD]; omega, by simp [nextD]; omega⟩, h.keep, fun e => ?_, ?_, h.sizes, h.rise, h.names⟩
      · have e' : m.armed = true := e
        have h1 := h.after e'
        have h3 : m.after ≠ 0 := fun h => ha ⟨e', h⟩
        simp only [nextD, e', if_true]
        omega
      · simp only [nextD]
        split <;> omega
theorem Inv.set {c : Nat} {m : DS} (h : Inv c m) {l : List S76} (h1 : l.length ≤ 32) (h2 : Rise l) (h3 : ∀ x ∈ l, x.f1.size ≤ 262144 ∧ nameK (key x.f0) = true) : Inv c { m with files := l } :=
  ⟨h1, h.writes, h.keep, h.after, h.after2, fun x hx => (h3 x hx).1, h2, fun x hx => (h3 x hx).2⟩
theorem Inv.put {c : Nat} {m : DS} (h : Inv c m) {p : ByteArray} {s : List Int} (h1 : (∃ x ∈ m.files, kB p = kB x.f0) ∨ m.files.length < 32) (hs : s.length ≤ 262144) (hn : nameK (key p) = true) : Inv c { m with files := putF m.files ⟨p, strOfNums s⟩ } := by
  refine h.set ?_ (putF_rise _ _ h.rise) (fun x hx => ?_)
  · rw [putF_length _ _ h.rise]
    have := h.len
    rcases h1 with h1 | h1
    · rw [if_pos h1]; exact this
    · split <;> omega
  · rcases (putF_mem _ _ h.rise x).mp hx with rfl | ⟨hx, _⟩
    · exact ⟨by rw [strOfNums_size]; exact hs, hn⟩
    · exact ⟨h.sizes x hx, h.names x hx⟩
theorem fileOf_some {l : List S76} {p : ByteArray} (h : (fileOf l p).isSome = true) : ∃ x ∈ l, kB p = kB x.f0 := by
  unfold fileOf at h
  cases hf : l.find? (fun x => decide (kB x.f0 = kB p)) with
  | none => rw [hf] at h; simp at h
  | some y => exact ⟨y, List.mem_of_find?_eq_some hf, by have := List.find?_some hf; simpa using (of_decide_eq_true this).symm⟩
theorem Inv.named {c : Nat} {m : DS} (h : Inv c m) {p : ByteArray} (hf : (fileOf m.files p).isSome = true) : nameK (key p) = true := by
  obtain ⟨x, hx, e⟩ := fileOf_some hf
  have := h.names x hx
  have e2 : p = x.f0 := kB_inj e
  rw [e2]
  exact this
theorem nm_zero {p : ByteArray} (h : nm p = 0) : nameK (key p) = true := by
  cases hn : nameK (key p) with
  | true => rfl
  | false => rw [nm_false hn] at h; cases h
theorem full_not {m : DS} {p : ByteArray} {a b : List Int} (h : ¬ fullD m p a b = true) : a.length + b.length ≤ 262144 ∧ ((∃ x ∈ m.files, kB p = kB x.f0) ∨ m.files.length < 32) := by
  unfold fullD at h
  simp only [Bool.or_eq_true, Bool.and_eq_true, decide_eq_true_eq, Bool.not_eq_true', not_or, not_and] at h
  refine ⟨by omega, ?_⟩
  cases hf : (fileOf m.files p).isSome with
  | true => exact Or.inl (fileOf_some hf)
  | false => exact Or.inr (by have := h.2 hf; omega)
theorem Inv.lay {c : Nat} {m : DS} (h : Inv c m) {p : ByteArray} (hn : nameK (key p) = true) (own more : List Int) : Inv (c + 1) (layD m p own more).1 := by
  unfold layD
  by_cases hf : fullD m p own more = true
  · rw [if_pos hf]; exact h.le (by omega)
  · rw [if_neg hf]
    obtain ⟨h1, h2⟩ := full_not hf
    have hg := h.go
    by_cases hd : m.dead = true
    · rw [if_pos hd]; exact h.le (by omega)
    · rw [if_neg hd]
      by_cases ha : m.armed = true ∧ m.after = 0
      · rw [if_pos ha]
        have e : goD m = ({ m with dead := true, armed := false }, false) := by unfold goD; rw [if_neg hd, if_pos ha]
        rw [e] at hg
        exact hg.put (p := p) (s := own ++ more.take m.keep.toNat) h2 (by rw [List.length_append, List.length_take]; omega) hn
      · rw [if_neg ha]
        have e : goD m = (nextD m, true) := by unfold goD; rw [if_neg hd, if_neg ha]
        rw [e] at hg
        exact hg.put (p := p) (s := own ++ more) h2 (by rw [List.length_append]; omega) hn
theorem Inv.putD {c : Nat} {m : DS} (h : Inv c m) (p : ByteArray) (more : List Int) : Inv (c + 1) (putD (nm p) m p more).1 := by
  unfold MD.putD
  by_cases h0 : nm p = 0
  · rw [if_neg (by simpa using h0)]; exact h.lay (nm_zero h0) _ _
  · rw [if_pos h0]; exact h.le (by omega)
theorem Inv.appendD {c : Nat} {m : DS} (h : Inv c m) (p : ByteArray) (more : List Int) : Inv (c + 1) (appendD (nm p) m p more).1 := by
  unfold MD.appendD
  by_cases h0 : nm p = 0
  · rw [if_neg (by simpa using h0)]; exact h.lay (nm_zero h0) _ _
  · rw [if_pos h0]; exact h.le (by omega)
theorem there_zero {m : DS} {p : ByteArray} {c : Int} (h : thereD c m p = 0) : c = 0 ∧ (fileOf m.files p).isSome = true := by
  unfold thereD at h
  by_cases h0 : c = 0
  · rw [if_neg (by simpa using h0)] at h
    cases hf : (fileOf m.files p).isSome with
    | true => exact ⟨h0, rfl⟩
    | false => rw [hf, if_neg (by simp)] at h; cases h
  · rw [if_pos h0] at h; exact absurd h h0
theorem Inv.trimD {c : Nat} {m : DS} (h : Inv c m) (hc : c ≤ 1000000) (p : ByteArray) (n : Int) : Inv (c + 1) (trimD (nm p) m p n).1 := by
  unfold MD.trimD
  by_cases h0 : thereD (nm p) m p = 0
  · rw [if_neg (by simpa using h0)]
    obtain ⟨e1, e2⟩ := there_zero h0
    split
    · exact h.le (by omega)
    · split
      · exact h.go
      · have hg := h.go
        have := hg.put (p := p) (s := (ownOf m p).take n.toNat) (Or.inl (by rw [goD_files]; exact fileOf_some e2)) (by have := (h.ok hc).own p; rw [List.length_take]; omega) (nm_zero e1)
        rw [goD_files] at this
        exact this
  · rw [if_pos h0]; exact h.le (by omega)
theorem Inv.removeD {c : Nat} {m : DS} (h : Inv c m) (p : ByteArray) : Inv (c + 1) (removeD (nm p) m p).1 := by
  unfold MD.removeD
  by_cases h0 : thereD (nm p) m p = 0
  · rw [if_neg (by simpa using h0)]
    split
    · exact h.go
    · exact h.go.set (Nat.le_trans (dropF_length_le _ _) h.len) (dropF_rise h.rise p) (fun x hx => ⟨h.sizes x (mem_dropF.mp hx).1, h.names x (mem_dropF.mp hx).1⟩)
  · rw [if_pos h0]; exact h.le (by omega)
theorem Inv.renameD {c : Nat} {m : DS} (h : Inv c m) (hc : c ≤ 1000000) (p q : ByteArray) : Inv (c + 1) (renameD (nm p) (nm q) m p q).1 := by
  unfold MD.renameD
  by_cases hq : nm q = 0
  · rw [if_neg (by simpa using hq)]
    by_cases h0 : thereD (nm p) m p = 0
    · rw [if_neg (by simpa using h0)]
      obtain ⟨e1, e2⟩ := there_zero h0
      split
      · exact h.go
      · have hd := dropF_length m.files p h.rise
        obtain ⟨x, hx, e⟩ := fileOf_some e2
        rw [if_pos ⟨x, hx, e.symm⟩] at hd
        have hl := h.len
        have h1 : Inv (c + 1) { (goD m).1 with files := dropF m.files p } := h.go.set (by omega) (dropF_rise h.rise p) (fun x hx => ⟨h.sizes x (mem_dropF.mp hx).1, h.names x (mem_dropF.mp hx).1⟩)
        exact h1.put (p := q) (s := ownOf m p) (Or.inr (by show (dropF m.files p).length < 32; omega)) ((h.ok hc).own p) (nm_zero hq)
    · rw [if_pos h0]; exact h.le (by omega)
  · rw [if_pos hq]; exact h.le (by omega)
theorem Inv.cutD {c : Nat} {m : DS} (h : Inv c m) (a n : Int) (ha : a ≤ 9223372036854775807) : Inv c (cutD m a n).1 := by
  unfold MD.cutD
  split
  · exact h
  · split
    · exact h
    · exact ⟨h.len, h.writes, by show 0 ≤ n; omega, fun _ => by show 0 ≤ a; omega, ha, h.sizes, h.rise, h.names⟩
theorem Inv.restart {c : Nat} {m : DS} (h : Inv c m) : Inv c { m with dead := false, armed := false } := ⟨h.len, h.writes, h.keep, fun e => by simp at e, h.after2, h.sizes, h.rise, h.names⟩
theorem Inv.spoilD {c : Nat} {m : DS} (h : Inv c m) (hc : c ≤ 1000000) (p : ByteArray) (a mask : Int) : Inv c (spoilD m p a mask).1 := by
  unfold MD.spoilD
  cases hf : (fileOf m.files p).isSome with
  | false => rw [if_pos rfl]; exact h
  | true =>
    rw [if_neg (by simp)]
    split
    · exact h
    · exact h.put (p := p) (Or.inl (fileOf_some hf)) (by rw [List.length_set]; exact (h.ok hc).own p) (h.named hf)
end Go.Proofs.Ytieodkghfceflaa.Pure
namespace Go.Proofs.Ytieodkghfceflaa.MD
open Go.Proofs.Ytieodkghfceflaa.Opening Go.Proofs.Ytieodkghfceflaa.Pure
open Go.RowKit Go.Proofs.YtieodkghfceflaaW.PrintWords Go.Proofs.YtieodkghfceflaaW.PrintLast Go.Proofs.YtieodkghfceflaaW.PrintMore
theorem C_new (w : World) (l : List Int) (h : l.length ≤ 1000000) (o : Nat × Nat) : Kd.C (Kd.int .u8) (w.alloc (.cells (nums .u8 l).toArray 5 o)) (some ⟨w.heap.size, 0, none⟩) l.length l := by
  refine Kd.C_of_reads (d := (0 : Int)) ⟨rfl, by omega, fun _ => ⟨_, rfl, fun j hj => ?_⟩⟩
  rw [add_plain]
  have hb := heap_alloc_new w (.cells (nums .u8 l).toArray 5 o)
  unfold World.cell?
  rw [hb]
  simp [nums, hj]
/-- One part, made on the spot out of a constant. -/
theorem lit_parts (w : World) (l : List Int) (h : l.length ≤ 1000000) : ∃ p1 p3 p2 : World, w.alloc (.cells (nums .u8 l).toArray 5) = p1 ∧ (convert 27 27 (.slice (some ⟨w.heap.size, 0, none⟩) l.length l.length)).run Try.prog p1 = .ok (.slice (some ⟨w.heap.size, 0, none⟩) l.length l.length) p3 ∧ p3.heap.size = w.heap.size + 1 ∧
    p3.alloc (.cells #[.slice (some ⟨w.heap.size, 0, none⟩) l.length l.length] 27) = p2 ∧ PartsV p2 (.slice (some ⟨w.heap.size + 1, 0, none⟩) 1 1) l ∧ Below w.heap.size w p2 := by
  have hc := Lib.run_convert_bytes_const (P := Try.prog) w 27 5 (nums .u8 l).toArray l.length l.length Try.underlying27 Try.underlying5
  refine ⟨_, w.alloc (.cells (nums .u8 l).toArray 5 ((nums .u8 l).toArray.size, (nums .u8 l).toArray.size + 1)), _, rfl, hc, by simp, rfl, ?_, below_alloc (below_alloc (Below.refl _ _) _) _⟩
  have h1 := Kd.C_below (C_new w l h ((nums .u8 l).toArray.size, (nums .u8 l).toArray.size + 1)) (below_alloc (Below.refl _ _) (.cells #[.slice (some ⟨w.heap.size, 0, none⟩) l.length l.length] 27))
  have h2 := heap_alloc_new (w.alloc (.cells (nums .u8 l).toArray 5 ((nums .u8 l).toArray.size, (nums .u8 l).toArray.size + 1))) (.cells #[.slice (some ⟨w.heap.size, 0, none⟩) l.length l.length] 27)
  have e : (w.alloc (.cells (nums .u8 l).toArray 5 ((nums .u8 l).toArray.size, (nums .u8 l).toArray.size + 1))).heap.size = w.heap.size + 1 := by simp
  rw [e] at h2
  exact .one _ _ _ _ h2 h1
def pa : ByteArray := ⟨#[97]⟩
theorem nm_pa : nm pa = 0 := by decide +kernel
def mA1 : DS := ⟨[⟨pa, ⟨#[49, 50]⟩⟩], 1, false, 0, 0, false⟩
def mA2 : DS := ⟨[⟨pa, ⟨#[49, 50]⟩⟩], 1, true, 1, 1, false⟩
def mA3 : DS := ⟨[⟨pa, ⟨#[49, 50, 51]⟩⟩], 2, true, 0, 1, false⟩
def mA4 : DS := ⟨[⟨pa, ⟨#[52]⟩⟩], 2, false, 0, 1, true⟩
theorem eA1 : putD 0 newD pa [49, 50] = (mA1, 0) := by rfl
theorem eA2 : cutD mA1 1 1 = (mA2, 0) := by rfl
theorem eA3 : appendD 0 mA2 pa [51] = (mA3, 0) := by rfl
theorem eA4 : putD 0 mA3 pa [52, 53] = (mA4, 8) := by rfl
theorem eA5 : ownOf mA4 pa = [52] := by rfl
theorem okA {m : DS} (h : m.files.length ≤ 1) (h1 : 0 ≤ m.writes ∧ m.writes ≤ 10) (h2 : 0 ≤ m.keep) (h3 : 0 ≤ m.after ∧ m.after ≤ 10) (h4 : ∀ x ∈ m.files, x.f1.size ≤ 262144) : OkD m := ⟨by omega, ⟨h1.1, by omega⟩, h2, fun _ => h3.1, by omega, h4⟩
theorem ok0 : OkD newD := okA (by decide) (by decide) (by decide) (by decide) (by simp [newD])
theorem ok2 : OkD mA2 := okA (by decide) (by decide) (by decide) (by decide) (by simp [mA2]; decide)
theorem ok3 : OkD mA3 := okA (by decide) (by decide) (by decide) (by decide) (by simp [mA3]; decide)
theorem ok4 : OkD mA4 := okA (by decide) (by decide) (by decide) (by decide) (by simp [mA4]; decide)
theorem name_pa : path_Name.f 10 pa = some 0 := by
  rw [name_f (by decide) 10 (by decide)]
  exact congrArg some nm_pa
set_option maxRecDepth 100000 in
set_option maxHeartbeats 8000000 in
theorem awake_calls (w : World) : Calls Try.prog 7 #[] w fun e w' => e = .returned (.bool true) ∧ Below w.heap.size w w' := by
  have tok1 : True := trivial
  have tok2 : True := trivial
  go_enter Try.func7, Try.ntmps7
  go_wp2_with (first
    | (go_at_call 8; refine (new_calls w (B := w.heap.size) (Nat.le_refl _)).mono ?_; rintro e w1 ⟨d, mb, rfl, hD, hB⟩; have H1 := Aside0.mk hD; have HB1 := Aside0.mk hB; clear hD hB;
        obtain ⟨p1, p3, p2, hp1, hcv, hpz, hp2, hPV, hBP⟩ := lit_parts w1 [49, 50] (by decide); have hp1 : w1.alloc (.cells #[.int .u8 49, .int .u8 50] 5) = p1 := hp1; have hcv : (convert 27 27 (.slice (some ⟨w1.heap.size, 0, none⟩) 2 2)).run Try.prog p1 = .ok (.slice (some ⟨w1.heap.size, 0, none⟩) 2 2) p3 := hcv; have hp2 : p3.alloc (.cells #[.slice (some ⟨w1.heap.size, 0, none⟩) 2 2] 27) = p2 := hp2; have HP2 := Aside0.mk hPV; have HBP := Aside0.mk hBP; clear hPV hBP)
    | (go_at_call 11; have _t := tok1; clear _t; refine (put_calls 10 p2 (H1.out.below HBP.out) HP2.out (by decide) (by decide) (by decide) ok0 0 name_pa).mono ?_; rw [eA1]; rintro e w2 ⟨rfl, hA⟩; have HA2 := Aside0.mk hA; obtain ⟨O2, hD, _, _, hB⟩ := hA; have H2 := Aside0.mk hD; have HB2 := Aside0.mk (HB1.out.trans ((HBP.out.mono HB1.out.size).trans hB)); clear hD hB tok1 hp1 hp2 hpz HP2 HBP hcv)
    | (go_at_call 19; refine (cut_calls w2 H2.out 1 1).mono ?_; rw [eA2]; rintro e w3 ⟨rfl, hA⟩; obtain ⟨O3, hD, _, _, hB⟩ := hA; have H3 := Aside0.mk hD; have HB3 := Aside0.mk (HB2.out.trans hB); clear hD hB;
        obtain ⟨p1, p3, p2, hp1, hcv, hpz, hp2, hPV, hBP⟩ := lit_parts w3 [51] (by decide); have hp1 : w3.alloc (.cells #[.int .u8 51] 5) = p1 := hp1; have hcv : (convert 27 27 (.slice (some ⟨w3.heap.size, 0, none⟩) 1 1)).run Try.prog p1 = .ok (.slice (some ⟨w3.heap.size, 0, none⟩) 1 1) p3 := hcv; have hp2 : p3.alloc (.cells #[.slice (some ⟨w3.heap.size, 0, none⟩) 1 1] 27) = p2 := hp2; have HP2 := Aside0.mk hPV; have HBP := Aside0.mk hBP; clear hPV hBP)
    | (go_at_call 9; refine (append_calls 10 p2 (H3.out.below HBP.out) HP2.out (by decide) (by decide) (by decide) ok2 0 name_pa).mono ?_; rw [eA3]; rintro e w4 ⟨rfl, hA⟩; obtain ⟨O4, hD, _, _, hB⟩ := hA; have H4 := Aside0.mk hD; have HB4 := Aside0.mk (HB3.out.trans ((HBP.out.mono HB3.out.size).trans hB)); clear hD hB hp1 hp2 hpz HP2 HBP hcv;
        obtain ⟨p1, p3, p2, hp1, hcv, hpz, hp2, hPV, hBP⟩ := lit_parts w4 [52, 53] (by decide); have hp1 : w4.alloc (.cells #[.int .u8 52, .int .u8 53] 5) = p1 := hp1; have hcv : (convert 27 27 (.slice (some ⟨w4.heap.size, 0, none⟩) 2 2)).run Try.prog p1 = .ok (.slice (some ⟨w4.heap.size, 0, none⟩) 2 2) p3 := hcv; have hp2 : p3.alloc (.cells #[.slice (some ⟨w4.heap.size, 0, none⟩) 2 2] 27) = p2 := hp2; have HP2 := Aside0.mk hPV; have HBP := Aside0.mk hBP; clear hPV hBP)
    | (go_at_call 11; have _t := tok2; clear _t; refine (put_calls 10 p2 (H4.out.below HBP.out) HP2.out (by decide) (by decide) (by decide) ok3 0 name_pa).mono ?_; rw [eA4]; rintro e w5 ⟨rfl, hA⟩; obtain ⟨O5, hD, _, _, hB⟩ := hA; have H5 := Aside0.mk hD; have HB5 := Aside0.mk (HB4.out.trans ((HBP.out.mono HB4.out.size).trans hB)); clear hD hB tok2 hp1 hp2 hpz HP2 HBP hcv)
    | (go_at_call 13; refine (read_calls w5 H5.out (by decide) ok4).mono ?_; rintro e w6 ⟨v6, rfl, hR, hB⟩; obtain ⟨A6, c6, hv6, _, hC6⟩ := Kd.R_reads hR; have hv6 : v6 = .slice A6 1 c6 := hv6; subst hv6; have hconv : (convert 27 9 (.slice A6 1 c6)).run Try.prog w6 = .ok (.string ⟨#[52]⟩) w6 := Kd.C_string Try.underlying27 Try.underlying5 Try.underlying9 hC6; have H6 := Aside0.mk (H5.out.below hB); have HB6 := Aside0.mk (below_then HB5.out HB5.out.size hB); clear hR hB hC6)
    | (go_at_call 21; refine (dead_calls w6 H6.out).mono ?_; rintro e w7 ⟨rfl, rfl⟩)
    | (go_at_call 23; refine (writes_calls _ H6.out).mono ?_; rintro e w7 ⟨rfl, rfl⟩))
  go_ret
  exact ⟨rfl, HB6.out⟩
end Go.Proofs.Ytieodkghfceflaa.MD
namespace Go.Proofs.Ytieodkghfceflaa.MD
open Go.Proofs.Ytieodkghfceflaa.Opening Go.Proofs.Ytieodkghfceflaa.Pure
open Go.RowKit Go.Proofs.YtieodkghfceflaaW.PrintWords Go.Proofs.YtieodkghfceflaaW.PrintLast Go.Proofs.YtieodkghfceflaaW.PrintMore
/-- An element of an own row: where it lies, and what a store makes. -/
theorem R_scalar_at {α : Type} {enc : α → Value} {h1 : ∀ x, (enc x).oneCell' = true} {e : Nat} {w : World} {base : Nat} {ok : Nat → Prop} {A : Option Addr} {n c : Nat} {l : List α} (h : (Kd.scalar enc h1).R e w base ok (.slice A n c) l) (i : Nat) (hi : i < l.length) :
    ∃ g, A = some ⟨g, 0, none⟩ ∧ base ≤ g ∧ w.cell? ⟨g, i, none⟩ = some (enc l[i]) ∧ w.frozen? ⟨g, i, none⟩ = false ∧ ∀ x, (Kd.scalar enc h1).R e (w.setCell ⟨g, i, none⟩ (enc x)) base ok (.slice A n c) (l.set i x) := by
  have hok := h.1
  have hown := Kd.own_of_R h
  obtain ⟨hxl, hnil | ⟨g, cap, cur, he, hbg, hg, hn, hcm, hcs, htk⟩⟩ := hown
  · exact absurd hnil.2 (by omega)
  · injection he with e1 e2 e3
    subst e1
    subst e2
    subst e3
    have hcq : cur[i]? = some (enc l[i]) := by
      have e1 : (cur.toList.take (l.length * 1))[i]? = some (enc l[i]) := by
        rw [htk]
        simp [encs, hi]
      rw [List.getElem?_take_of_lt (by omega)] at e1
      simpa using e1
    refine ⟨g, rfl, hbg, (blk_cell hg i).trans hcq, blk_frozen hg i, fun x => ?_⟩
    have hb := blk_set hg i (enc x)
    have hown : (w.setCell ⟨g, i, none⟩ (enc x)).ownsRow base e 1 (.slice (some ⟨g, 0, none⟩) l.length c) (l.set i x).length (encs enc (l.set i x)) := by
      rw [List.length_set]
      refine ⟨by simp [encs], Or.inr ⟨g, c, _, rfl, hbg, hb, hn, hcm, by simpa using hcs, ?_⟩⟩
      rw [Array.toList_setIfInBounds, List.take_set, htk]
      simp [encs, List.map_set]
    exact Kd.R_of_own hown hok
def nofile : ByteArray := ⟨#[110, 111, 32, 102, 105, 108, 101]⟩
theorem nofile_none {c : Nat} {m : DS} (h : Inv c m) : fileOf m.files nofile = none := by
  cases hf : fileOf m.files nofile with
  | none => rfl
  | some s =>
    have := h.named (p := nofile) (by rw [hf]; rfl)
    have hn : nameK (key nofile) = false := by decide +kernel
    rw [hn] at this
    cases this
theorem own_at {c : Nat} {m : DS} (h : Inv c m) {i : Nat} (hi : i < m.files.length) : fileOf m.files m.files[i].f0 = some (bytesOf m.files[i].f1) := fileOf_at h.rise hi rfl
theorem f0_small {c : Nat} {m : DS} (h : Inv c m) {i : Nat} (hi : i < m.files.length) : (m.files[i]).f0.size ≤ 140737488355328 := by
  have hn := h.names _ (List.getElem_mem hi)
  unfold nameK at hn
  rw [Bool.and_eq_true, decide_eq_true_eq, key_len] at hn
  omega
set_option maxRecDepth 100000 in
set_option maxHeartbeats 8000000 in
theorem tells_calls (w : World) {B d mb c : Nat} {O : Nat → Prop} {m : DS} (h : IsD w B O d mb m) (hI : Inv c m) (hc : c ≤ 1000000) {A : Option Addr} {cf : Nat} (hC : Kd.C k76 w A m.files.length m.files) (hcf : m.files.length ≤ cf) :
    Calls Try.prog 16 #[.pointer (some ⟨d, 0, none⟩), .agg #[.slice A m.files.length cf, .int .i64 m.writes, .bool m.armed, .bool m.dead, .int .i64 m.after, .int .i64 m.keep]] w fun e w' => e = .returned (.bool true) ∧ Below w.heap.size w w' := by
  have H := Aside0.mk h
  have HI := Aside0.mk hI
  have HC := Aside0.mk hC
  have HCF := Aside0.mk hcf
  have HOK := Aside0.mk (hI.ok hc)
  obtain ⟨nn, hn⟩ : ∃ nn, m.files.length = nn := ⟨_, rfl⟩
  have HN := Aside0.mk hn
  have HN32 : Aside0 (nn ≤ 32) := ⟨by rw [← hn]; exact hI.len⟩
  rw [hn]
  clear h hI hc hC hcf hn
  obtain ⟨w1, hw1⟩ : ∃ w1, w.alloc (.cells #[.slice A nn cf, .int .i64 m.writes, .bool m.armed, .bool m.dead, .int .i64 m.after, .int .i64 m.keep] 39) = w1 := ⟨_, rfl⟩
  have HX : Aside0 (w1.heap[w.heap.size]? = some (.cells #[.slice A nn cf, .int .i64 m.writes, .bool m.armed, .bool m.dead, .int .i64 m.after, .int .i64 m.keep] 39 (0, 0))) := ⟨by rw [← hw1]; exact heap_alloc_new w _⟩
  have HB1 : Aside0 (Below w.heap.size w w1) := ⟨by rw [← hw1]; exact below_alloc (Below.refl _ _) _⟩
  go_enter Try.func16, Try.ntmps16
  go_upto_region 2 with (go_at_call 10; refine (names_calls w1 (H.out.below HB1.out) (by have := HN.out; have := HN32.out; omega)).mono ?_; rintro e w2 ⟨v, rfl, hR, hB⟩; obtain ⟨Al, cl, hv0⟩ := Kd.R_slice hR; have hv : v = .slice Al nn cl := hv0.trans (by rw [List.length_map, HN.out]); clear hv0; subst hv; have HR := Aside0.mk hR; have HB := Aside0.mk hB; clear hR hB)
  obtain ⟨w3, hw3⟩ : ∃ w3, w2.drew = w3 := ⟨_, rfl⟩
  have HB23 : Aside0 (Below w2.heap.size w2 w3) := ⟨by rw [← hw3]; exact below_drew (Below.refl _ _)⟩
  have HB3 := Aside0.mk (below_then (below_then HB1.out HB1.out.size HB.out) (below_then HB1.out HB1.out.size HB.out).size HB23.out)
  have HX3 := Aside0.mk (((below_then HB.out HB.out.size HB23.out).block _ (blk_lt HX.out)).trans HX.out)
  have HR3 := Aside0.mk (Kd.R_below HR.out HB23.out)
  have H3 := Aside0.mk (H.out.below HB3.out)
  have f0 : w3.cell? ⟨w.heap.size, 0, none⟩ = some (.slice A nn cf) := (blk_cell HX3.out 0).trans rfl
  have f1 : w3.cell? ⟨w.heap.size, 1, none⟩ = some (.int .i64 m.writes) := (blk_cell HX3.out 1).trans rfl
  have f3 : w3.cell? ⟨w.heap.size, 3, none⟩ = some (.bool m.dead) := (blk_cell HX3.out 3).trans rfl
  have HS1 : Aside0 (w1.heap.size = w.heap.size + 1) := ⟨by rw [← hw1]; simp⟩
  clear hw1
  go_region_held3 (fun w' => w' = w3)
    (first | rfl | assumption)
    (first | (go_at_call 23; refine (writes_calls _ H3.out).mono ?_; rintro e w7 ⟨rfl, rfl⟩) | (go_at_call 21; refine (dead_calls _ H3.out).mono ?_; rintro e w7 ⟨rfl, rfl⟩))
  clear f0 f1 f3
  go_wp2
  go_loopw [6] (fun s6 wr => ∃ (i : Nat) (L : List ByteArray), s6 = .int .i64 i ∧ Aside0 (i ≤ nn) ∧ Aside0 (L.length = nn) ∧ Aside0 (L.drop i = (m.files.map (·.f0)).drop i) ∧ Aside0 (Kd.R Kd.string 9 wr (w.heap.size + 1) (fun _ => True) (.slice Al nn cl) L) ∧ Aside0 (Below w.heap.size w wr) ∧ Aside0 (wr.heap[w.heap.size]? = some (.cells #[.slice A nn cf, .int .i64 m.writes, .bool m.armed, .bool m.dead, .int .i64 m.after, .int .i64 m.keep] 39 (0, 0)))) (fun s6 wr => nn - (intOf s6).toNat)
  case atStart =>
    exact ⟨0, m.files.map (·.f0), rfl, ⟨by omega⟩, ⟨by rw [List.length_map, HN.out]⟩, ⟨rfl⟩, ⟨Kd.R_lower HR3.out (by have := HS1.out; omega)⟩, HB3, HX3⟩
  case round =>
    obtain ⟨i, L, rfl, HIL, HLN, HLD, HRL, HBL, HXL⟩ := hrel
    have HDr := Aside0.mk (H.out.below HBL.out)
    by_cases hlt : i < nn
    · have hi : i < m.files.length := by rw [HN.out]; exact hlt
      obtain ⟨x, hx⟩ : ∃ x, m.files[i] = x := ⟨_, rfl⟩
      have hLi : i < L.length := by rw [HLN.out]; exact hlt
      have hLx : L[i] = x.f0 := by
        have e := HLD.out
        rw [List.drop_eq_getElem_cons hLi, List.drop_eq_getElem_cons (l := m.files.map (·.f0)) (by simpa using hi)] at e
        have := (List.cons.inj e).1
        rw [this, List.getElem_map, hx]
      obtain ⟨g, hA, hbg, hcl, hfz, hset⟩ := R_scalar_at HRL.out i hLi
      subst hA
      rw [hLx] at hcl
      have HBG := Aside0.mk hbg
      have HPS : Aside0 (x.f0.size ≤ 140737488355328) := ⟨by rw [← hx]; exact f0_small HI.out hi⟩
      have HF : Aside0 (fileOf m.files x.f0 = some (bytesOf x.f1)) := ⟨by rw [← hx]; exact own_at HI.out hi⟩
      have HOW : Aside0 (ownOf m x.f0 = bytesOf x.f1) := ⟨by unfold ownOf; rw [HF.out]; rfl⟩
      obtain ⟨nb, hnb⟩ : ∃ nb, (bytesOf x.f1).length = nb := ⟨_, rfl⟩
      have HNB := Aside0.mk hnb
      have HNB2 : Aside0 (nb ≤ 262144) := ⟨by rw [← HNB.out, ← HOW.out]; exact HOK.out.own _⟩
      obtain ⟨ad, hA, c3, c4⟩ := at_T76 (Kd.C_below HC.out HBL.out) (i : Int) (by omega) (by omega)
      have hrd : rd_T76 m.files (i : Int) = x := by rw [rd76 hi, hx]
      rw [hrd] at c3 c4
      simp only [Int.toNat_natCast] at c3 c4
      subst hA
      have c2 : wr.cell? ⟨w.heap.size, 0, none⟩ = some (.slice (some ad) nn cf) := (blk_cell HXL.out 0).trans rfl
      clear hset hfz hLx hLi hx hrd hnb hbg hi
      go_upto_region 8 with (go_at_call 13; refine (read_calls wr HDr.out HPS.out HOK.out).mono ?_; rintro e w4 ⟨v, rfl, hR, hB⟩; rw [HF.out]; rw [HOW.out] at hR; obtain ⟨Ab, cb, hv0⟩ := Kd.R_slice hR; have hv : v = .slice Ab nb cb := hv0.trans (by rw [HNB.out]); clear hv0; subst hv; have HR4 := Aside0.mk hR; have HB4 := Aside0.mk hB; clear hR hB)
      obtain ⟨w5, hw5⟩ : ∃ w5, w4.drew = w5 := ⟨_, rfl⟩
      have HB5 : Aside0 (Below wr.heap.size wr w5) := ⟨by rw [← hw5]; exact below_drew HB4.out⟩
      have HR5 := Aside0.mk (Kd.R_below HR4.out (by rw [← hw5]; exact below_drew (Below.refl _ _) : Below w4.heap.size w4 w5))
      have d1 := pw_cell_below HB5.out hcl
      have d2 := pw_cell_below HB5.out c2
      have d3 := pw_cell_below HB5.out c3
      have d4 := pw_cell_below HB5.out c4
      have hconv : (convert 27 9 (.slice Ab nb cb)).run Try.prog w5 = .ok (.string x.f1) w5 := by
        have e := (Kd.R_reads' HR5.out).2.2
        have := Kd.C_string (c := cb) Try.underlying27 Try.underlying5 Try.underlying9 e
        rw [HNB.out, str_back] at this
        exact this
      clear hcl c2 c3 c4
      go_region_held3 (fun w' => w' = w5) (first | rfl | assumption) (fail)
      rename_i hheld
      clear hheld d1 d2 d3 d4 hconv
      subst hw5
      obtain ⟨wo, hwo⟩ : ∃ wo, wo = wr := ⟨_, rfl⟩
      subst hwo
      go_wp2
      go_loopw [9] (fun s9 wx => ∃ (k : Nat) (L2 : List Int), s9 = .int .i64 k ∧ Aside0 (k ≤ nb) ∧ Aside0 (L2.length = nb) ∧ Aside0 (Kd.R (Kd.int .u8) 5 wx wo.heap.size (fun _ => True) (.slice Ab nb cb) L2) ∧ Aside0 (Below wo.heap.size wo wx)) (fun s9 wx => nb - (intOf s9).toNat)
      case atStart => exact ⟨0, bytesOf x.f1, rfl, ⟨by omega⟩, HNB, HR5, HB5⟩
      case round =>
        obtain ⟨k, L2, rfl, HK, HL2, HRX, HBX⟩ := hrel
        by_cases hlt2 : k < nb
        · obtain ⟨g2, hA, hbg2, q0, q1, q2⟩ := R_scalar_at HRX.out k (by rw [HL2.out]; exact hlt2)
          subst hA
          obtain ⟨y, hy⟩ : ∃ y, L2[k]'(by rw [HL2.out]; exact hlt2) = y := ⟨_, rfl⟩
          rw [hy] at q0
          have HBG2 := Aside0.mk hbg2
          have HQ2 := Aside0.mk q2
          clear hbg2 q2 hy
          have hkb : k + 1 ≤ 1000000 := (by have := HNB2.out; omega)
          go_wp2
          go_roundw
          case rel => exact ⟨k + 1, L2.set k _, by go_num, ⟨by omega⟩, ⟨by rw [List.length_set]; exact HL2.out⟩, ⟨HQ2.out _⟩, ⟨HBX.out.setCell HBG2.out _⟩⟩
          case measure => simp [intOf]; omega
        · have HRN := Aside0.mk (Kd.R_below HRL.out HBX.out)
          obtain ⟨g3, hA, hbg3, q0, q1, q2⟩ := R_scalar_at HRN.out i (by rw [HLN.out]; exact hlt)
          injection hA with hA
          injection hA with hA
          subst hA
          have HQ2 := Aside0.mk q2
          clear q2 hbg3
          have hkb : i + 1 ≤ 1000000 := (by have := HN32.out; omega)
          go_wp2
          go_roundw
          case rel =>
            refine ⟨i + 1, L.set i ⟨#[109, 97, 114, 107, 101, 100]⟩, by go_num, ⟨by omega⟩, ⟨by rw [List.length_set]; exact HLN.out⟩, ⟨?_⟩, ⟨HQ2.out _⟩, ⟨(below_then HBL.out HBL.out.size HBX.out).setCell (by have := HBG.out; show w.heap.size ≤ g; omega) _⟩, ⟨?_⟩⟩
            · rw [List.drop_set, if_pos (by omega)]
              have e := congrArg (List.drop 1) HLD.out
              simpa [List.drop_drop] using e
            · have e1 := (HBX.out.block _ (blk_lt HXL.out)).trans HXL.out
              exact blk_far e1 (p := ⟨g, i, none⟩) (by have := HBG.out; show w.heap.size ≠ g; omega) _
          case measure => simp [intOf]; omega
    · have HNF : Aside0 (fileOf m.files nofile = none) := ⟨nofile_none HI.out⟩
      have HOW : Aside0 (ownOf m nofile = []) := ⟨by unfold ownOf; rw [HNF.out]; rfl⟩
      go_wp2_with (go_at_call 13; refine (read_calls wr HDr.out (p := nofile) (by decide) HOK.out).mono ?_; rintro e w4 ⟨v, rfl, hR, hB⟩; rw [HNF.out]; rw [HOW.out] at hR; obtain ⟨Ab, cb, hv0⟩ := Kd.R_slice hR; have hv : v = .slice Ab 0 cb := hv0; clear hv0; subst hv; have HB4 := Aside0.mk hB; clear hR hB)
      go_ret
      exact ⟨rfl, below_then HBL.out HBL.out.size HB4.out⟩
end Go.Proofs.Ytieodkghfceflaa.MD
namespace Go.Proofs.Ytieodkghfceflaa.MD
open Go.Proofs.Ytieodkghfceflaa.Opening Go.Proofs.Ytieodkghfceflaa.Pure
open Go.RowKit Go.Proofs.YtieodkghfceflaaW.PrintWords Go.Proofs.YtieodkghfceflaaW.PrintLast Go.Proofs.YtieodkghfceflaaW.PrintMore
theorem blk6 {w : World} {g : Nat} {t : TypeId} {a0 a1 a2 a3 a4 a5 : Value} (h : w.heap[g]? = some (.cells #[a0, a1, a2, a3, a4, a5] t (0, 0))) (b0 b1 b2 b3 b4 b5 : Value) :
    ((((((w.setCell ⟨g, 0, none⟩ (b0)).setCell ⟨g, 1, none⟩ (b1)).setCell ⟨g, 2, none⟩ (b2)).setCell ⟨g, 3, none⟩ (b3)).setCell ⟨g, 4, none⟩ (b4)).setCell ⟨g, 5, none⟩ (b5)).heap[g]? = some (.cells #[b0, b1, b2, b3, b4, b5] t (0, 0)) := by
  have := blk_set (blk_set (blk_set (blk_set (blk_set (blk_set h 0 b0) 1 b1) 2 b2) 3 b3) 4 b4) 5 b5
  simpa using this
theorem below6 {w0 w : World} {B g : Nat} (h : Below B w0 w) (hg : B ≤ g) (b0 b1 b2 b3 b4 b5 : Value) : Below B w0 ((((((w.setCell ⟨g, 0, none⟩ (b0)).setCell ⟨g, 1, none⟩ (b1)).setCell ⟨g, 2, none⟩ (b2)).setCell ⟨g, 3, none⟩ (b3)).setCell ⟨g, 4, none⟩ (b4)).setCell ⟨g, 5, none⟩ (b5)) :=
  (((((h.setCell (p := ⟨g, 0, none⟩) hg _).setCell (p := ⟨g, 1, none⟩) hg _).setCell (p := ⟨g, 2, none⟩) hg _).setCell (p := ⟨g, 3, none⟩) hg _).setCell (p := ⟨g, 4, none⟩) hg _).setCell (p := ⟨g, 5, none⟩) hg _
theorem R_far6 {α : Type} {d : Kd α} {e : TypeId} {w : World} {base g : Nat} {ok : Nat → Prop} {v : Value} {xs : List α} (h : d.R e w base ok v xs) (hok : ∀ k, ok k → k ≠ g) (b0 b1 b2 b3 b4 b5 : Value) : d.R e ((((((w.setCell ⟨g, 0, none⟩ (b0)).setCell ⟨g, 1, none⟩ (b1)).setCell ⟨g, 2, none⟩ (b2)).setCell ⟨g, 3, none⟩ (b3)).setCell ⟨g, 4, none⟩ (b4)).setCell ⟨g, 5, none⟩ (b5)) base ok v xs :=
  Kd.R_far (p := ⟨g, 5, none⟩) (Kd.R_far (p := ⟨g, 4, none⟩) (Kd.R_far (p := ⟨g, 3, none⟩) (Kd.R_far (p := ⟨g, 2, none⟩) (Kd.R_far (p := ⟨g, 1, none⟩) (Kd.R_far (p := ⟨g, 0, none⟩) h hok _) hok _) hok _) hok _) hok _) hok _
theorem bytesWorld_free (w : World) (e : TypeId) (s : ByteArray) {q : Nat} (hq : q < s.size) : (Lib.bytesWorld w e s).frozen? ⟨w.heap.size, q, none⟩ = false := by
  have h1 : s.size ≤ (Lib.bytesCells w e s).size := by simp [Lib.bytesCells]
  unfold World.frozen?
  rw [show (⟨w.heap.size, q, none⟩ : Addr).block = w.heap.size from rfl, Lib.bytesWorld_at_new]
  simp
  omega
theorem byte_at (s : ByteArray) {q : Nat} (hq : q < s.size) : ((s.data.toList.getD q 0).toNat : Int) = (bytesOf s).getD q 0 := by
  have h1 : q < s.data.toList.length := by simpa using hq
  rw [List.getD_eq_getElem?_getD, List.getD_eq_getElem?_getD, bytesOf, List.getElem?_map, List.getElem?_eq_getElem h1]
  rfl
theorem conv_set (w : World) (e : TypeId) (s : ByteArray) (hs : s.size ≤ 9223372036854775807) {q : Nat} (hq : q < s.size) (y : Int) : Kd.C (Kd.int .u8) ((Lib.bytesWorld w e s).setCell ⟨w.heap.size, q, none⟩ (.int .u8 y)) (some ⟨w.heap.size, 0, none⟩) s.size ((bytesOf s).set q y) := by
  have hl : (bytesOf s).length = s.size := bytesOf_length s
  refine Kd.C_of_reads (d := (0 : Int)) ⟨by rw [List.length_set, hl], by omega, fun _ => ⟨_, rfl, fun j hj => ?_⟩⟩
  rw [add_plain]
  have hb := Lib.bytesWorld_at_new w e s
  have hb2 : ((Lib.bytesWorld w e s).setCell ⟨w.heap.size, q, none⟩ (.int .u8 y)).heap[w.heap.size]? = some (.cells ((Lib.bytesCells w e s).setIfInBounds q (.int .u8 y)) e ((Lib.bytesCells w e s).size, (Lib.bytesCells w e s).size + 1)) := by
    have hlt := (Array.getElem?_eq_some_iff.1 hb).1
    have := (Array.getElem?_eq_some_iff.1 hb).2
    unfold World.setCell
    simp [Array.getElem?_modify, hb]
  rw [cell_of_row _ _ _ _ _ _ hb2]
  have hc := (Lib.bytesWorld_cell w e s j hj)
  rw [cell_of_row _ _ _ _ _ _ hb, byte_at s hj] at hc
  have h1 : s.size ≤ (Lib.bytesCells w e s).size := by simp [Lib.bytesCells]
  rw [Array.getElem?_setIfInBounds, List.getD_eq_getElem?_getD, List.getElem?_set]
  by_cases hjq : q = j
  · subst hjq
    rw [if_pos rfl, if_pos (by omega), if_pos rfl, if_pos (by rw [hl]; exact hq)]
    rfl
  · rw [if_neg hjq, if_neg hjq, hc, List.getD_eq_getElem?_getD]
set_option maxRecDepth 100000 in
set_option maxHeartbeats 8000000 in
theorem refspoil_calls (w : World) {N c : Nat} {ok : Nat → Prop} {m : DS} {u : Value} (hR : Kd.R k76 76 w N ok u m.files) (hN : N ≤ w.heap.size) (hI : Inv c m) (hc : c ≤ 1000000) {p : ByteArray} (at_ mask : Int) (hmask : 0 ≤ mask ∧ mask < 256) :
    Calls Try.prog 42 #[.agg #[u, .int .i64 m.writes, .bool m.armed, .bool m.dead, .int .i64 m.after, .int .i64 m.keep], .string p, .int .i64 at_, .int .u8 mask] w fun e w' => ∃ v, e = .returned (.tuple #[.agg #[v, .int .i64 (spoilD m p at_ mask).1.writes, .bool (spoilD m p at_ mask).1.armed, .bool (spoilD m p at_ mask).1.dead, .int .i64 (spoilD m p at_ mask).1.after, .int .i64 (spoilD m p at_ mask).1.keep], .int .i64 (spoilD m p at_ mask).2]) ∧ Kd.R k76 76 w' N (fun k => ok k ∨ w.heap.size ≤ k) v (spoilD m p at_ mask).1.files ∧ Below w.heap.size w w' := by
  obtain ⟨A, cf, hu⟩ := Kd.R_slice hR
  subst hu
  obtain ⟨_, hcf, hC⟩ := Kd.R_reads' hR
  have HR := Aside0.mk hR
  have HC := Aside0.mk hC
  have HCF := Aside0.mk hcf
  have HI := Aside0.mk hI
  have HNN := Aside0.mk hN
  have hlen := hI.len
  have hOK := hI.ok hc
  have HOK := Aside0.mk hOK
  obtain ⟨rr, hat, hcase⟩ := at_f hI.rise (p := p) (by omega) m.writes m.armed m.dead m.after m.keep 1000 (by omega)
  have HAT := fun W h1 => forebearref06_At.calls 1000 A cf m.files m.writes m.armed m.dead m.after m.keep p rr W h1 hcf hat
  have HDT := fun W h1 => forebearref06_Data.calls 1000 A cf m.files m.writes m.armed m.dead m.after m.keep p (strOfNums (ownOf m p)) W h1 hcf (data_f hI.rise (by omega) _ _ _ _ _ 1000 (by omega))
  have HWT := fun T W h1 => forebearref06_with.calls 1000 A cf m.files p T _ W h1 hcf (with_f hI.rise (p := p) (s := T) (by omega) 1000 (by omega))
  obtain ⟨nn, hnn⟩ : ∃ nn, m.files.length = nn := ⟨_, rfl⟩
  have HNL := Aside0.mk hnn
  rw [hnn] at HC HAT HDT HWT HR ⊢
  have HAT := Aside0.mk HAT
  have HDT := Aside0.mk HDT
  have HWT := Aside0.mk HWT
  clear hR hC hcf hI hN hat hc hnn
  obtain ⟨wa, hwa⟩ : ∃ wa, w.alloc (.cells #[.slice A nn cf, .int .i64 m.writes, .bool m.armed, .bool m.dead, .int .i64 m.after, .int .i64 m.keep] 39) = wa := ⟨_, rfl⟩
  obtain ⟨wb, hwb⟩ : ∃ wb, wa.alloc (.cells #[.slice none 0 0, .int .i64 0, .bool false, .bool false, .int .i64 0, .int .i64 0] 39) = wb := ⟨_, rfl⟩
  have HSA : Aside0 (wa.heap.size = w.heap.size + 1) := ⟨by rw [← hwa]; simp⟩
  have HBA : Aside0 (Below w.heap.size w wa) := ⟨by rw [← hwa]; exact below_alloc (Below.refl _ _) _⟩
  have HBAB : Aside0 (Below wa.heap.size wa wb) := ⟨by rw [← hwb]; exact below_alloc (Below.refl _ _) _⟩
  have HSB : Aside0 (wb.heap.size = wa.heap.size + 1) := ⟨by rw [← hwb]; simp⟩
  have HBB : Aside0 (Below w.heap.size w wb) := ⟨below_then HBA.out HBA.out.size HBAB.out⟩
  have HX : Aside0 (wb.heap[w.heap.size]? = some (.cells #[.slice A nn cf, .int .i64 m.writes, .bool m.armed, .bool m.dead, .int .i64 m.after, .int .i64 m.keep] 39 (0, 0))) := ⟨(HBAB.out.block _ (by rw [HSA.out]; omega)).trans (by rw [← hwa]; exact heap_alloc_new w _)⟩
  have HZ : Aside0 (wb.heap[wa.heap.size]? = some (.cells #[.slice none 0 0, .int .i64 0, .bool false, .bool false, .int .i64 0, .int .i64 0] 39 (0, 0))) := ⟨by rw [← hwb]; exact heap_alloc_new wa _⟩
  have x0 : wb.cell? ⟨w.heap.size, 0, none⟩ = some (.slice A nn cf) := (blk_cell HX.out 0).trans rfl
  have xf0 : wb.frozen? ⟨w.heap.size, 0, none⟩ = false := blk_frozen HX.out 0
  have x1 : wb.cell? ⟨w.heap.size, 1, none⟩ = some (.int .i64 m.writes) := (blk_cell HX.out 1).trans rfl
  have xf1 : wb.frozen? ⟨w.heap.size, 1, none⟩ = false := blk_frozen HX.out 1
  have x2 : wb.cell? ⟨w.heap.size, 2, none⟩ = some (.bool m.armed) := (blk_cell HX.out 2).trans rfl
  have xf2 : wb.frozen? ⟨w.heap.size, 2, none⟩ = false := blk_frozen HX.out 2
  have x3 : wb.cell? ⟨w.heap.size, 3, none⟩ = some (.bool m.dead) := (blk_cell HX.out 3).trans rfl
  have xf3 : wb.frozen? ⟨w.heap.size, 3, none⟩ = false := blk_frozen HX.out 3
  have x4 : wb.cell? ⟨w.heap.size, 4, none⟩ = some (.int .i64 m.after) := (blk_cell HX.out 4).trans rfl
  have xf4 : wb.frozen? ⟨w.heap.size, 4, none⟩ = false := blk_frozen HX.out 4
  have x5 : wb.cell? ⟨w.heap.size, 5, none⟩ = some (.int .i64 m.keep) := (blk_cell HX.out 5).trans rfl
  have xf5 : wb.frozen? ⟨w.heap.size, 5, none⟩ = false := blk_frozen HX.out 5
  by_cases hf : (fileOf m.files p).isSome = true
  · have hr0 : decide (rr < 0) = false := by
      rcases hcase with ⟨rfl, h2⟩ | ⟨n, rfl, hn, h2⟩
      · rw [h2] at hf; cases hf
      · exact decide_eq_false (by omega)
    obtain ⟨S, hS⟩ : ∃ S, strOfNums (ownOf m p) = S := ⟨_, rfl⟩
    have hSb : bytesOf S = ownOf m p := by rw [← hS]; exact bytesOf_str (ownOf_bytes m p)
    obtain ⟨L, hL⟩ : ∃ L, S.size = L := ⟨_, rfl⟩
    have hLl : (ownOf m p).length = L := by rw [← hL, ← hSb, bytesOf_length]
    have HSb := Aside0.mk hSb
    have HLL := Aside0.mk hL
    have HLO := Aside0.mk hLl
    have HLB : Aside0 (L ≤ 262144) := ⟨by rw [← hLl]; exact hOK.own p⟩
    rw [hS] at HDT
    by_cases hr : at_ < 0 ∨ at_ ≥ (L : Int)
    · have E : Aside0 (spoilD m p at_ mask = (m, 3)) := ⟨by unfold spoilD; rw [if_neg (by rw [hf]; simp), if_pos (by rw [hLl]; exact hr)]⟩
      clear hS hSb hLl hf hcase hlen hOK
      have key : ∀ _ : True, True := fun h => h
      clear key
      rw [E.out]
      by_cases h0 : at_ < 0
      · have d0 : decide (at_ < 0) = true := decide_eq_true h0
        clear hr h0
        go_enter Try.func42, Try.ntmps42
        go_upto_region 5 with (first | (go_at_call 56; refine (HAT.out wb (Kd.C_below HC.out HBB.out)).mono ?_; rintro e w1 ⟨rfl, hb⟩; have HB1 := Aside0.mk hb; have HX0 := Aside0.mk (blk_below HX.out HB1.out); have x0 : w1.cell? ⟨w.heap.size, 0, none⟩ = some (.slice A nn cf) := (blk_cell HX0.out 0).trans rfl; have x1 : w1.cell? ⟨w.heap.size, 1, none⟩ = some (.int .i64 m.writes) := (blk_cell HX0.out 1).trans rfl; have x2 : w1.cell? ⟨w.heap.size, 2, none⟩ = some (.bool m.armed) := (blk_cell HX0.out 2).trans rfl; have x3 : w1.cell? ⟨w.heap.size, 3, none⟩ = some (.bool m.dead) := (blk_cell HX0.out 3).trans rfl; have x4 : w1.cell? ⟨w.heap.size, 4, none⟩ = some (.int .i64 m.after) := (blk_cell HX0.out 4).trans rfl; have x5 : w1.cell? ⟨w.heap.size, 5, none⟩ = some (.int .i64 m.keep) := (blk_cell HX0.out 5).trans rfl; clear hb) | (go_at_call 54; refine (HDT.out w1 (Kd.C_below HC.out (below_then HBB.out HBB.out.size HB1.out))).mono ?_; rintro e w2 ⟨rfl, hb⟩; have HB2 := Aside0.mk hb; clear hb))
        have HX2 := Aside0.mk (blk_below (blk_below HX.out HB1.out) HB2.out)
        have HZ2 := Aside0.mk (blk_below (blk_below HZ.out HB1.out) HB2.out)
        have HBQ := Aside0.mk (below_then (below_then HBB.out HBB.out.size HB1.out) (below_then HBB.out HBB.out.size HB1.out).size HB2.out)
        have x0 : w2.cell? ⟨w.heap.size, 0, none⟩ = some (.slice A nn cf) := (blk_cell HX2.out 0).trans rfl
        have xf0 : w2.frozen? ⟨w.heap.size, 0, none⟩ = false := blk_frozen HX2.out 0
        have x1 : w2.cell? ⟨w.heap.size, 1, none⟩ = some (.int .i64 m.writes) := (blk_cell HX2.out 1).trans rfl
        have xf1 : w2.frozen? ⟨w.heap.size, 1, none⟩ = false := blk_frozen HX2.out 1
        have x2 : w2.cell? ⟨w.heap.size, 2, none⟩ = some (.bool m.armed) := (blk_cell HX2.out 2).trans rfl
        have xf2 : w2.frozen? ⟨w.heap.size, 2, none⟩ = false := blk_frozen HX2.out 2
        have x3 : w2.cell? ⟨w.heap.size, 3, none⟩ = some (.bool m.dead) := (blk_cell HX2.out 3).trans rfl
        have xf3 : w2.frozen? ⟨w.heap.size, 3, none⟩ = false := blk_frozen HX2.out 3
        have x4 : w2.cell? ⟨w.heap.size, 4, none⟩ = some (.int .i64 m.after) := (blk_cell HX2.out 4).trans rfl
        have xf4 : w2.frozen? ⟨w.heap.size, 4, none⟩ = false := blk_frozen HX2.out 4
        have x5 : w2.cell? ⟨w.heap.size, 5, none⟩ = some (.int .i64 m.keep) := (blk_cell HX2.out 5).trans rfl
        have xf5 : w2.frozen? ⟨w.heap.size, 5, none⟩ = false := blk_frozen HX2.out 5
        have z0 : w2.cell? ⟨wa.heap.size, 0, none⟩ = some (.slice none 0 0) := (blk_cell HZ2.out 0).trans rfl
        have zf0 : w2.frozen? ⟨wa.heap.size, 0, none⟩ = false := blk_frozen HZ2.out 0
        have z1 : w2.cell? ⟨wa.heap.size, 1, none⟩ = some (.int .i64 0) := (blk_cell HZ2.out 1).trans rfl
        have zf1 : w2.frozen? ⟨wa.heap.size, 1, none⟩ = false := blk_frozen HZ2.out 1
        have z2 : w2.cell? ⟨wa.heap.size, 2, none⟩ = some (.bool false) := (blk_cell HZ2.out 2).trans rfl
        have zf2 : w2.frozen? ⟨wa.heap.size, 2, none⟩ = false := blk_frozen HZ2.out 2
        have z3 : w2.cell? ⟨wa.heap.size, 3, none⟩ = some (.bool false) := (blk_cell HZ2.out 3).trans rfl
        have zf3 : w2.frozen? ⟨wa.heap.size, 3, none⟩ = false := blk_frozen HZ2.out 3
        have z4 : w2.cell? ⟨wa.heap.size, 4, none⟩ = some (.int .i64 0) := (blk_cell HZ2.out 4).trans rfl
        have zf4 : w2.frozen? ⟨wa.heap.size, 4, none⟩ = false := blk_frozen HZ2.out 4
        have z5 : w2.cell? ⟨wa.heap.size, 5, none⟩ = some (.int .i64 0) := (blk_cell HZ2.out 5).trans rfl
        have zf5 : w2.frozen? ⟨wa.heap.size, 5, none⟩ = false := blk_frozen HZ2.out 5
        go_wp2
        have HBR := blk6 HZ2.out (.slice A nn cf) (.int .i64 m.writes) (.bool m.armed) (.bool m.dead) (.int .i64 m.after) (.int .i64 m.keep)
        refine bodyPost_ret (results_ct rfl _ _ wa.heap.size 39 #[.slice A nn cf, .int .i64 m.writes, .bool m.armed, .bool m.dead, .int .i64 m.after, .int .i64 m.keep] (0, 0) _ rfl HBR Try.underlying39 rfl (by kernel_rfl)) rfl ?_
        exact ⟨_, rfl, Kd.R_mono (Kd.R_below HR.out (below6 HBQ.out HBA.out.size _ _ _ _ _ _)) (fun k hk => Or.inl hk), below6 HBQ.out HBA.out.size _ _ _ _ _ _⟩
      · have d0 : decide (at_ < 0) = false := decide_eq_false h0
        have d1 : decide (at_ ≥ (L : Int)) = true := decide_eq_true (by omega)
        clear hr h0
        go_enter Try.func42, Try.ntmps42
        go_upto_region 5 with (first | (go_at_call 56; refine (HAT.out wb (Kd.C_below HC.out HBB.out)).mono ?_; rintro e w1 ⟨rfl, hb⟩; have HB1 := Aside0.mk hb; have HX0 := Aside0.mk (blk_below HX.out HB1.out); have x0 : w1.cell? ⟨w.heap.size, 0, none⟩ = some (.slice A nn cf) := (blk_cell HX0.out 0).trans rfl; have x1 : w1.cell? ⟨w.heap.size, 1, none⟩ = some (.int .i64 m.writes) := (blk_cell HX0.out 1).trans rfl; have x2 : w1.cell? ⟨w.heap.size, 2, none⟩ = some (.bool m.armed) := (blk_cell HX0.out 2).trans rfl; have x3 : w1.cell? ⟨w.heap.size, 3, none⟩ = some (.bool m.dead) := (blk_cell HX0.out 3).trans rfl; have x4 : w1.cell? ⟨w.heap.size, 4, none⟩ = some (.int .i64 m.after) := (blk_cell HX0.out 4).trans rfl; have x5 : w1.cell? ⟨w.heap.size, 5, none⟩ = some (.int .i64 m.keep) := (blk_cell HX0.out 5).trans rfl; clear hb) | (go_at_call 54; refine (HDT.out w1 (Kd.C_below HC.out (below_then HBB.out HBB.out.size HB1.out))).mono ?_; rintro e w2 ⟨rfl, hb⟩; have HB2 := Aside0.mk hb; clear hb))
        have HX2 := Aside0.mk (blk_below (blk_below HX.out HB1.out) HB2.out)
        have HZ2 := Aside0.mk (blk_below (blk_below HZ.out HB1.out) HB2.out)
        have HBQ := Aside0.mk (below_then (below_then HBB.out HBB.out.size HB1.out) (below_then HBB.out HBB.out.size HB1.out).size HB2.out)
        have x0 : w2.cell? ⟨w.heap.size, 0, none⟩ = some (.slice A nn cf) := (blk_cell HX2.out 0).trans rfl
        have xf0 : w2.frozen? ⟨w.heap.size, 0, none⟩ = false := blk_frozen HX2.out 0
        have x1 : w2.cell? ⟨w.heap.size, 1, none⟩ = some (.int .i64 m.writes) := (blk_cell HX2.out 1).trans rfl
        have xf1 : w2.frozen? ⟨w.heap.size, 1, none⟩ = false := blk_frozen HX2.out 1
        have x2 : w2.cell? ⟨w.heap.size, 2, none⟩ = some (.bool m.armed) := (blk_cell HX2.out 2).trans rfl
        have xf2 : w2.frozen? ⟨w.heap.size, 2, none⟩ = false := blk_frozen HX2.out 2
        have x3 : w2.cell? ⟨w.heap.size, 3, none⟩ = some (.bool m.dead) := (blk_cell HX2.out 3).trans rfl
        have xf3 : w2.frozen? ⟨w.heap.size, 3, none⟩ = false := blk_frozen HX2.out 3
        have x4 : w2.cell? ⟨w.heap.size, 4, none⟩ = some (.int .i64 m.after) := (blk_cell HX2.out 4).trans rfl
        have xf4 : w2.frozen? ⟨w.heap.size, 4, none⟩ = false := blk_frozen HX2.out 4
        have x5 : w2.cell? ⟨w.heap.size, 5, none⟩ = some (.int .i64 m.keep) := (blk_cell HX2.out 5).trans rfl
        have xf5 : w2.frozen? ⟨w.heap.size, 5, none⟩ = false := blk_frozen HX2.out 5
        have z0 : w2.cell? ⟨wa.heap.size, 0, none⟩ = some (.slice none 0 0) := (blk_cell HZ2.out 0).trans rfl
        have zf0 : w2.frozen? ⟨wa.heap.size, 0, none⟩ = false := blk_frozen HZ2.out 0
        have z1 : w2.cell? ⟨wa.heap.size, 1, none⟩ = some (.int .i64 0) := (blk_cell HZ2.out 1).trans rfl
        have zf1 : w2.frozen? ⟨wa.heap.size, 1, none⟩ = false := blk_frozen HZ2.out 1
        have z2 : w2.cell? ⟨wa.heap.size, 2, none⟩ = some (.bool false) := (blk_cell HZ2.out 2).trans rfl
        have zf2 : w2.frozen? ⟨wa.heap.size, 2, none⟩ = false := blk_frozen HZ2.out 2
        have z3 : w2.cell? ⟨wa.heap.size, 3, none⟩ = some (.bool false) := (blk_cell HZ2.out 3).trans rfl
        have zf3 : w2.frozen? ⟨wa.heap.size, 3, none⟩ = false := blk_frozen HZ2.out 3
        have z4 : w2.cell? ⟨wa.heap.size, 4, none⟩ = some (.int .i64 0) := (blk_cell HZ2.out 4).trans rfl
        have zf4 : w2.frozen? ⟨wa.heap.size, 4, none⟩ = false := blk_frozen HZ2.out 4
        have z5 : w2.cell? ⟨wa.heap.size, 5, none⟩ = some (.int .i64 0) := (blk_cell HZ2.out 5).trans rfl
        have zf5 : w2.frozen? ⟨wa.heap.size, 5, none⟩ = false := blk_frozen HZ2.out 5
        go_wp2
        have HBR := blk6 HZ2.out (.slice A nn cf) (.int .i64 m.writes) (.bool m.armed) (.bool m.dead) (.int .i64 m.after) (.int .i64 m.keep)
        refine bodyPost_ret (results_ct rfl _ _ wa.heap.size 39 #[.slice A nn cf, .int .i64 m.writes, .bool m.armed, .bool m.dead, .int .i64 m.after, .int .i64 m.keep] (0, 0) _ rfl HBR Try.underlying39 rfl (by kernel_rfl)) rfl ?_
        exact ⟨_, rfl, Kd.R_mono (Kd.R_below HR.out (below6 HBQ.out HBA.out.size _ _ _ _ _ _)) (fun k hk => Or.inl hk), below6 HBQ.out HBA.out.size _ _ _ _ _ _⟩
    · obtain ⟨q, rfl⟩ : ∃ q : Nat, at_ = (q : Int) := ⟨at_.toNat, by omega⟩
      have d0 : decide ((q : Int) < 0) = false := decide_eq_false (by omega)
      have d1 : decide ((q : Int) ≥ (L : Int)) = false := decide_eq_false (by omega)
      have hq : q < L := by omega
      have HQ := Aside0.mk hq
      have E : Aside0 (spoilD m p (q : Int) mask = ({ m with files := putF m.files ⟨p, strOfNums ((ownOf m p).set q (xorB ((ownOf m p).getD q 0) mask))⟩ }, 0)) := ⟨by unfold spoilD; rw [if_neg (by rw [hf]; simp), if_neg (by rw [hLl]; exact hr)]; rfl⟩
      rw [E.out]
      clear hS hSb hLl hf hcase hlen hOK hr E
      go_enter Try.func42, Try.ntmps42
      go_upto_region 7 with (first | (go_at_call 56; refine (HAT.out wb (Kd.C_below HC.out HBB.out)).mono ?_; rintro e w1 ⟨rfl, hb⟩; have HB1 := Aside0.mk hb; have HX0 := Aside0.mk (blk_below HX.out HB1.out); have x0 : w1.cell? ⟨w.heap.size, 0, none⟩ = some (.slice A nn cf) := (blk_cell HX0.out 0).trans rfl; have x1 : w1.cell? ⟨w.heap.size, 1, none⟩ = some (.int .i64 m.writes) := (blk_cell HX0.out 1).trans rfl; have x2 : w1.cell? ⟨w.heap.size, 2, none⟩ = some (.bool m.armed) := (blk_cell HX0.out 2).trans rfl; have x3 : w1.cell? ⟨w.heap.size, 3, none⟩ = some (.bool m.dead) := (blk_cell HX0.out 3).trans rfl; have x4 : w1.cell? ⟨w.heap.size, 4, none⟩ = some (.int .i64 m.after) := (blk_cell HX0.out 4).trans rfl; have x5 : w1.cell? ⟨w.heap.size, 5, none⟩ = some (.int .i64 m.keep) := (blk_cell HX0.out 5).trans rfl; clear hb) | (go_at_call 54; refine (HDT.out w1 (Kd.C_below HC.out (below_then HBB.out HBB.out.size HB1.out))).mono ?_; rintro e w2 ⟨rfl, hb⟩; have HB2 := Aside0.mk hb; clear hb; obtain ⟨cv, hcv0⟩ : ∃ cv, grownCap w2 S.size 0 5 = cv := ⟨_, rfl⟩; obtain ⟨wv, hwv⟩ : ∃ wv, Lib.bytesWorld w2 5 S = wv := ⟨_, rfl⟩; have hcv := Lib.run_convert_string_bytes (P := Try.prog) w2 9 27 5 S Try.underlying9 Try.underlying27 Try.underlying5; rw [hcv0, hwv, HLL.out] at hcv))
      obtain ⟨b, hb⟩ : ∃ b, (bytesOf S).getD q 0 = b := ⟨_, rfl⟩
      have hqs : q < S.size := by rw [HLL.out]; exact HQ.out
      have hcell : wv.cell? ⟨w2.heap.size, q, none⟩ = some (.int .u8 b) := by rw [← hwv, ← hb, ← byte_at S hqs]; exact Lib.bytesWorld_cell w2 5 S q hqs
      have hfr : wv.frozen? ⟨w2.heap.size, q, none⟩ = false := by rw [← hwv]; exact bytesWorld_free w2 5 S hqs
      have HB12 := Aside0.mk (below_then HBB.out HBB.out.size HB1.out)
      have HB13 := Aside0.mk (below_then HB12.out HB12.out.size HB2.out)
      have HBW : Aside0 (Below w2.heap.size w2 wv) := ⟨by rw [← hwv]; exact bytesWorld_below w2 5 S⟩
      have HBV := Aside0.mk (below_then HB13.out HB13.out.size HBW.out)
      have HXV := Aside0.mk (blk_below (blk_below (blk_below HX.out HB1.out) HB2.out) HBW.out)
      have HZV := Aside0.mk (blk_below (blk_below (blk_below HZ.out HB1.out) HB2.out) HBW.out)
      have HWV := Aside0.mk hwv
      have HBQ := Aside0.mk hb
      clear hwv hb hcv hqs
      go_upto_region 8 with (fail)
      obtain ⟨y, hy⟩ : ∃ y, bits BinOp.xor IntKind.u8 b mask = y := ⟨_, rfl⟩
      rw [hy]
      obtain ⟨wz, hwz⟩ : ∃ wz, wv.setCell ⟨w2.heap.size, q, none⟩ (.int .u8 y) = wz := ⟨_, rfl⟩
      rw [hwz]
      have hsz : wb.heap.size ≤ w2.heap.size := Nat.le_trans HB1.out.size HB2.out.size
      have hszb : wa.heap.size + 1 ≤ wb.heap.size := blk_lt HZ.out
      have HBZ : Aside0 (Below w.heap.size w wz) := ⟨by rw [← hwz]; exact HBV.out.setCell (p := ⟨w2.heap.size, q, none⟩) HB13.out.size _⟩
      have HXZ : Aside0 (wz.heap[w.heap.size]? = some (.cells #[.slice A nn cf, .int .i64 m.writes, .bool m.armed, .bool m.dead, .int .i64 m.after, .int .i64 m.keep] 39 (0, 0))) := ⟨by rw [← hwz]; exact blk_far HXV.out (p := ⟨w2.heap.size, q, none⟩) (by have := HSA.out; show w.heap.size ≠ w2.heap.size; omega) _⟩
      have HZZ : Aside0 (wz.heap[wa.heap.size]? = some (.cells #[.slice none 0 0, .int .i64 0, .bool false, .bool false, .int .i64 0, .int .i64 0] 39 (0, 0))) := ⟨by rw [← hwz]; exact blk_far HZV.out (p := ⟨w2.heap.size, q, none⟩) (by show wa.heap.size ≠ w2.heap.size; omega) _⟩
      obtain ⟨T, hT⟩ : ∃ T, strOfNums ((bytesOf S).set q y) = T := ⟨_, rfl⟩
      have hconv : (convert 27 9 (.slice (some ⟨w2.heap.size, 0, none⟩) L cv)).run Try.prog wz = .ok (.string T) wz := by
        have := Kd.C_string (c := cv) Try.underlying27 Try.underlying5 Try.underlying9 (conv_set w2 5 S (by rw [HLL.out]; have := HLB.out; omega) (by rw [HLL.out]; exact HQ.out) y)
        rw [HWV.out, hwz, hT, HLL.out] at this
        exact this
      have g0 : wz.cell? ⟨w.heap.size, 0, none⟩ = some (.slice A nn cf) := (blk_cell HXZ.out 0).trans rfl
      have HTT : Aside0 (T = strOfNums ((ownOf m p).set q (xorB ((ownOf m p).getD q 0) mask))) := ⟨by rw [← hT, ← hy, ← HBQ.out, HSb.out]; rfl⟩
      clear hwz hsz hszb hT hy hcell hfr
      go_upto_region 9 with (go_at_call 58; refine (HWT.out T wz (Kd.C_below HC.out HBZ.out)).mono ?_; rintro e w4 ⟨v4, rfl, hR4, hB4⟩; obtain ⟨A4, c4, hv4⟩ := Kd.R_slice hR4; obtain ⟨n4, hn4⟩ : ∃ n4, (putF m.files ⟨p, T⟩).length = n4 := ⟨_, rfl⟩; rw [hn4] at hv4; clear hn4; subst hv4; have HR4 := Aside0.mk hR4; have HB4 := Aside0.mk hB4; have HX4 := Aside0.mk (blk_below HXZ.out hB4); have HZ4 := Aside0.mk (blk_below HZZ.out hB4); have hf4 : w4.frozen? ⟨w.heap.size, 0, none⟩ = false := blk_frozen HX4.out 0; have hg4 : w4.cell? ⟨w.heap.size, 0, none⟩ = some (.slice A nn cf) := (blk_cell HX4.out 0).trans rfl; clear hR4 hB4)
      obtain ⟨w5, hw5⟩ : ∃ w5, w4.setCell ⟨w.heap.size, 0, none⟩ (.slice A4 n4 c4) = w5 := ⟨_, rfl⟩
      rw [hw5]
      have HBW4 := Aside0.mk (below_then HBZ.out HBZ.out.size HB4.out)
      have HB5 : Aside0 (Below w.heap.size w w5) := ⟨by rw [← hw5]; exact HBW4.out.setCell (p := ⟨w.heap.size, 0, none⟩) (Nat.le_refl _) _⟩
      have HX5 : Aside0 (w5.heap[w.heap.size]? = some (.cells #[.slice A4 n4 c4, .int .i64 m.writes, .bool m.armed, .bool m.dead, .int .i64 m.after, .int .i64 m.keep] 39 (0, 0))) := ⟨by
        rw [← hw5]
        have := blk_set HX4.out 0 (.slice A4 n4 c4)
        simpa using this⟩
      have HZ5 : Aside0 (w5.heap[wa.heap.size]? = some (.cells #[.slice none 0 0, .int .i64 0, .bool false, .bool false, .int .i64 0, .int .i64 0] 39 (0, 0))) := ⟨by rw [← hw5]; exact blk_far HZ4.out (p := ⟨w.heap.size, 0, none⟩) (by have := HSA.out; show wa.heap.size ≠ w.heap.size; omega) _⟩
      have HR5 : Aside0 (Kd.R k76 76 w5 wz.heap.size (fun _ => True) (.slice A4 n4 c4) (putF m.files ⟨p, T⟩)) := ⟨by rw [← hw5]; exact Kd.R_mono (Kd.R_far (p := ⟨w.heap.size, 0, none⟩) (Kd.R_bound HR4.out) (fun k hk => by have := hk.2.1; have h2 := blk_lt HXZ.out; show k ≠ w.heap.size; omega) (.slice A4 n4 c4)) (fun k hk => trivial)⟩
      clear hw5 hconv g0
      have x0 : w5.cell? ⟨w.heap.size, 0, none⟩ = some (.slice A4 n4 c4) := (blk_cell HX5.out 0).trans rfl
      have xf0 : w5.frozen? ⟨w.heap.size, 0, none⟩ = false := blk_frozen HX5.out 0
      have x1 : w5.cell? ⟨w.heap.size, 1, none⟩ = some (.int .i64 m.writes) := (blk_cell HX5.out 1).trans rfl
      have xf1 : w5.frozen? ⟨w.heap.size, 1, none⟩ = false := blk_frozen HX5.out 1
      have x2 : w5.cell? ⟨w.heap.size, 2, none⟩ = some (.bool m.armed) := (blk_cell HX5.out 2).trans rfl
      have xf2 : w5.frozen? ⟨w.heap.size, 2, none⟩ = false := blk_frozen HX5.out 2
      have x3 : w5.cell? ⟨w.heap.size, 3, none⟩ = some (.bool m.dead) := (blk_cell HX5.out 3).trans rfl
      have xf3 : w5.frozen? ⟨w.heap.size, 3, none⟩ = false := blk_frozen HX5.out 3
      have x4 : w5.cell? ⟨w.heap.size, 4, none⟩ = some (.int .i64 m.after) := (blk_cell HX5.out 4).trans rfl
      have xf4 : w5.frozen? ⟨w.heap.size, 4, none⟩ = false := blk_frozen HX5.out 4
      have x5 : w5.cell? ⟨w.heap.size, 5, none⟩ = some (.int .i64 m.keep) := (blk_cell HX5.out 5).trans rfl
      have xf5 : w5.frozen? ⟨w.heap.size, 5, none⟩ = false := blk_frozen HX5.out 5
      have z0 : w5.cell? ⟨wa.heap.size, 0, none⟩ = some (.slice none 0 0) := (blk_cell HZ5.out 0).trans rfl
      have zf0 : w5.frozen? ⟨wa.heap.size, 0, none⟩ = false := blk_frozen HZ5.out 0
      have z1 : w5.cell? ⟨wa.heap.size, 1, none⟩ = some (.int .i64 0) := (blk_cell HZ5.out 1).trans rfl
      have zf1 : w5.frozen? ⟨wa.heap.size, 1, none⟩ = false := blk_frozen HZ5.out 1
      have z2 : w5.cell? ⟨wa.heap.size, 2, none⟩ = some (.bool false) := (blk_cell HZ5.out 2).trans rfl
      have zf2 : w5.frozen? ⟨wa.heap.size, 2, none⟩ = false := blk_frozen HZ5.out 2
      have z3 : w5.cell? ⟨wa.heap.size, 3, none⟩ = some (.bool false) := (blk_cell HZ5.out 3).trans rfl
      have zf3 : w5.frozen? ⟨wa.heap.size, 3, none⟩ = false := blk_frozen HZ5.out 3
      have z4 : w5.cell? ⟨wa.heap.size, 4, none⟩ = some (.int .i64 0) := (blk_cell HZ5.out 4).trans rfl
      have zf4 : w5.frozen? ⟨wa.heap.size, 4, none⟩ = false := blk_frozen HZ5.out 4
      have z5 : w5.cell? ⟨wa.heap.size, 5, none⟩ = some (.int .i64 0) := (blk_cell HZ5.out 5).trans rfl
      have zf5 : w5.frozen? ⟨wa.heap.size, 5, none⟩ = false := blk_frozen HZ5.out 5
      go_wp2
      have HBR := blk6 HZ5.out (.slice A4 n4 c4) (.int .i64 m.writes) (.bool m.armed) (.bool m.dead) (.int .i64 m.after) (.int .i64 m.keep)
      refine bodyPost_ret (results_ct rfl _ _ wa.heap.size 39 #[.slice A4 n4 c4, .int .i64 m.writes, .bool m.armed, .bool m.dead, .int .i64 m.after, .int .i64 m.keep] (0, 0) _ rfl HBR Try.underlying39 rfl (by kernel_rfl)) rfl ?_
      refine ⟨_, rfl, ?_, below6 HB5.out HBA.out.size _ _ _ _ _ _⟩
      show Kd.R k76 76 _ N _ (.slice A4 n4 c4) (putF m.files ⟨p, strOfNums ((ownOf m p).set q (xorB ((ownOf m p).getD q 0) mask))⟩)
      rw [← HTT.out]
      have h2 := blk_lt HZZ.out
      exact Kd.R_mono (Kd.R_lower (R_far6 (Kd.R_bound HR5.out) (fun k hk => by have := hk.2.1; omega) _ _ _ _ _ _) (by have := HNN.out; have := HBZ.out.size; omega)) (fun k hk => Or.inr (by have := hk.2.1; have := HBZ.out.size; omega))
  · have hf' : (fileOf m.files p).isSome = false := by simpa using hf
    have hr0 : decide (rr < 0) = true := by
      rcases hcase with ⟨rfl, h2⟩ | ⟨n, rfl, hn, h2⟩
      · rfl
      · rw [h2] at hf'; cases hf'
    have E : Aside0 (spoilD m p at_ mask = (m, 5)) := ⟨by unfold spoilD; rw [if_pos hf']⟩
    rw [E.out]
    clear hf hf' hcase hlen hOK
    go_enter Try.func42, Try.ntmps42
    go_upto_region 2 with (go_at_call 56; refine (HAT.out wb (Kd.C_below HC.out HBB.out)).mono ?_; rintro e w1 ⟨rfl, hb⟩; have HB1 := Aside0.mk hb; have HX0 := Aside0.mk (blk_below HX.out HB1.out); have x0 : w1.cell? ⟨w.heap.size, 0, none⟩ = some (.slice A nn cf) := (blk_cell HX0.out 0).trans rfl; have x1 : w1.cell? ⟨w.heap.size, 1, none⟩ = some (.int .i64 m.writes) := (blk_cell HX0.out 1).trans rfl; have x2 : w1.cell? ⟨w.heap.size, 2, none⟩ = some (.bool m.armed) := (blk_cell HX0.out 2).trans rfl; have x3 : w1.cell? ⟨w.heap.size, 3, none⟩ = some (.bool m.dead) := (blk_cell HX0.out 3).trans rfl; have x4 : w1.cell? ⟨w.heap.size, 4, none⟩ = some (.int .i64 m.after) := (blk_cell HX0.out 4).trans rfl; have x5 : w1.cell? ⟨w.heap.size, 5, none⟩ = some (.int .i64 m.keep) := (blk_cell HX0.out 5).trans rfl; clear hb)
    have HX1 := Aside0.mk (blk_below HX.out HB1.out)
    have HZ1 := Aside0.mk (blk_below HZ.out HB1.out)
    have HBQ := Aside0.mk (below_then HBB.out HBB.out.size HB1.out)
    have x0 : w1.cell? ⟨w.heap.size, 0, none⟩ = some (.slice A nn cf) := (blk_cell HX1.out 0).trans rfl
    have xf0 : w1.frozen? ⟨w.heap.size, 0, none⟩ = false := blk_frozen HX1.out 0
    have x1 : w1.cell? ⟨w.heap.size, 1, none⟩ = some (.int .i64 m.writes) := (blk_cell HX1.out 1).trans rfl
    have xf1 : w1.frozen? ⟨w.heap.size, 1, none⟩ = false := blk_frozen HX1.out 1
    have x2 : w1.cell? ⟨w.heap.size, 2, none⟩ = some (.bool m.armed) := (blk_cell HX1.out 2).trans rfl
    have xf2 : w1.frozen? ⟨w.heap.size, 2, none⟩ = false := blk_frozen HX1.out 2
    have x3 : w1.cell? ⟨w.heap.size, 3, none⟩ = some (.bool m.dead) := (blk_cell HX1.out 3).trans rfl
    have xf3 : w1.frozen? ⟨w.heap.size, 3, none⟩ = false := blk_frozen HX1.out 3
    have x4 : w1.cell? ⟨w.heap.size, 4, none⟩ = some (.int .i64 m.after) := (blk_cell HX1.out 4).trans rfl
    have xf4 : w1.frozen? ⟨w.heap.size, 4, none⟩ = false := blk_frozen HX1.out 4
    have x5 : w1.cell? ⟨w.heap.size, 5, none⟩ = some (.int .i64 m.keep) := (blk_cell HX1.out 5).trans rfl
    have xf5 : w1.frozen? ⟨w.heap.size, 5, none⟩ = false := blk_frozen HX1.out 5
    have z0 : w1.cell? ⟨wa.heap.size, 0, none⟩ = some (.slice none 0 0) := (blk_cell HZ1.out 0).trans rfl
    have zf0 : w1.frozen? ⟨wa.heap.size, 0, none⟩ = false := blk_frozen HZ1.out 0
    have z1 : w1.cell? ⟨wa.heap.size, 1, none⟩ = some (.int .i64 0) := (blk_cell HZ1.out 1).trans rfl
    have zf1 : w1.frozen? ⟨wa.heap.size, 1, none⟩ = false := blk_frozen HZ1.out 1
    have z2 : w1.cell? ⟨wa.heap.size, 2, none⟩ = some (.bool false) := (blk_cell HZ1.out 2).trans rfl
    have zf2 : w1.frozen? ⟨wa.heap.size, 2, none⟩ = false := blk_frozen HZ1.out 2
    have z3 : w1.cell? ⟨wa.heap.size, 3, none⟩ = some (.bool false) := (blk_cell HZ1.out 3).trans rfl
    have zf3 : w1.frozen? ⟨wa.heap.size, 3, none⟩ = false := blk_frozen HZ1.out 3
    have z4 : w1.cell? ⟨wa.heap.size, 4, none⟩ = some (.int .i64 0) := (blk_cell HZ1.out 4).trans rfl
    have zf4 : w1.frozen? ⟨wa.heap.size, 4, none⟩ = false := blk_frozen HZ1.out 4
    have z5 : w1.cell? ⟨wa.heap.size, 5, none⟩ = some (.int .i64 0) := (blk_cell HZ1.out 5).trans rfl
    have zf5 : w1.frozen? ⟨wa.heap.size, 5, none⟩ = false := blk_frozen HZ1.out 5
    go_wp2
    have HBR := blk6 HZ1.out (.slice A nn cf) (.int .i64 m.writes) (.bool m.armed) (.bool m.dead) (.int .i64 m.after) (.int .i64 m.keep)
    refine bodyPost_ret (results_ct rfl _ _ wa.heap.size 39 #[.slice A nn cf, .int .i64 m.writes, .bool m.armed, .bool m.dead, .int .i64 m.after, .int .i64 m.keep] (0, 0) _ rfl HBR Try.underlying39 rfl (by kernel_rfl)) rfl ?_
    exact ⟨_, rfl, Kd.R_mono (Kd.R_below HR.out (below6 HBQ.out HBA.out.size _ _ _ _ _ _)) (fun k hk => Or.inl hk), below6 HBQ.out HBA.out.size _ _ _ _ _ _⟩
end Go.Proofs.Ytieodkghfceflaa.MD
namespace Go.Proofs.Ytieodkghfceflaa.MD
open Go.Proofs.Ytieodkghfceflaa.Opening Go.Proofs.Ytieodkghfceflaa.Pure
open Go.RowKit Go.Proofs.YtieodkghfceflaaW.PrintWords Go.Proofs.YtieodkghfceflaaW.PrintLast Go.Proofs.YtieodkghfceflaaW.PrintMore
/-- A disk and the document's list, apart from each other. -/
def Pair (W : World) (B d mb : Nat) (m : DS) (u : Value) (bm : Nat) : Prop := ∃ O, IsD W B O d mb m ∧ Kd.R k76 76 W B (fun k => ¬ O k) u m.files ∧ ¬ O bm
def Rows5 (W W' : World) : Prop := ∀ (N : Nat) (ok : Nat → Prop) (v : Value) (l : List Int), Kd.R (Kd.int .u8) 5 W N ok v l → Kd.R (Kd.int .u8) 5 W' N ok v l
theorem Rows5.trans {a b c : World} (h : Rows5 a b) (k : Rows5 b c) : Rows5 a c := fun N ok v l hR => k N ok v l (h N ok v l hR)
theorem Rows5.below {W W' : World} (hb : Below W.heap.size W W') : Rows5 W W' := fun N ok v l hR => Kd.R_below hR hb
theorem Rows5.kept {W W' : World} {S : Nat → Prop} (hk : Kept W W' S) (hS : ∀ k cs, W.heap[k]? = some (.cells cs 5 (0, 0)) → ¬ S k) : Rows5 W W' := fun N ok v l hR => by
  refine Kd.R_mono (Kd.R_kept (Kd.R_bound hR) hk ?_) (fun k hk => hk.1)
  rintro k ⟨_, _, _, q, hq, cs, hc⟩
  have : q = 5 := by
    rcases List.mem_cons.1 hq with e | e
    · exact e
    · exact absurd e (by simp [Kd.int, Kd.scalar])
  subst this
  exact hS k cs hc
theorem kept6 (W : World) (g : Nat) (b0 b1 b2 b3 b4 b5 : Value) : Kept W ((((((W.setCell ⟨g, 0, none⟩ (b0)).setCell ⟨g, 1, none⟩ (b1)).setCell ⟨g, 2, none⟩ (b2)).setCell ⟨g, 3, none⟩ (b3)).setCell ⟨g, 4, none⟩ (b4)).setCell ⟨g, 5, none⟩ (b5)) (fun k => k = g) := kept_set (kept_set (kept_set (kept_set (kept_set (kept_set (Kept.refl _ _) _ _) _ _) _ _) _ _) _ _) _ _
theorem R76_own {W : World} {B : Nat} {ok : Nat → Prop} {u : Value} {l : List S76} (h : Kd.R k76 76 W B ok u l) : Kd.R k76 76 W B (fun k => some k = u.ownBlock) u l :=
  ⟨fun k hk => hk.symm, h.2.imp_ (fun x cs hp => by rw [k76_openM hp]; exact k76_mkM _ _ _ x)⟩
theorem R76_typed {W : World} {B : Nat} {ok : Nat → Prop} {u : Value} {l : List S76} (h : Kd.R k76 76 W B ok u l) : Kd.R k76 76 W B (fun k => ok k ∧ B ≤ k ∧ k < W.heap.size ∧ ∃ cs, W.heap[k]? = some (.cells cs 76 (0, 0))) u l := by
  refine Kd.R_mono (Kd.R_bound h) ?_
  rintro k ⟨h1, h2, h3, q, hq, cs, hc⟩
  have : q = 76 := by
    rcases List.mem_cons.1 hq with e | e
    · exact e
    · exact absurd e (by simp [k76, Kd.iso, Kd.pair, Kd.string, Kd.scalar])
  subst this
  exact ⟨h1, h2, h3, cs, hc⟩
structure St (w0 W : World) (O T : Nat → Prop) (d mb bx ba br : Nat) (m mx : DS) (u : Value) (Y : Array Value) (bm : Nat) (XB : Array Value) : Prop where
  isD : IsD W w0.heap.size O d mb m
  row : Kd.R k76 76 W w0.heap.size (fun k => ¬ O k) u mx.files
  hx : W.heap[bx]? = some (.cells #[u, .int .i64 mx.writes, .bool mx.armed, .bool mx.dead, .int .i64 mx.after, .int .i64 mx.keep] 39 (0, 0))
  hy : W.heap[ba]? = some (.cells Y 43 (0, 0))
  hz : W.heap[br]? = some (.cells #[.slice none 0 0, .int .i64 0, .bool false, .bool false, .int .i64 0, .int .i64 0] 39 (0, 0))
  bel : Below w0.heap.size w0 W
  pro : ∀ k, T k → ¬ O k ∧ k < W.heap.size ∧ w0.heap.size ≤ k
  tx : T bx
  ta : T ba
  tr : T br
  ne : bx ≠ br
  hm : W.heap[bm]? = some (.cells XB 39 (0, 0))
  nm1 : bm ≠ bx
  nm2 : bm ≠ br
  no : ¬ O bm
section
variable {w0 W W' : World} {O T : Nat → Prop} {d mb bx ba br : Nat} {m mx m' mx' : DS} {u : Value} {Y : Array Value} {bm : Nat} {XB : Array Value}
theorem IsD.not_dm {B : Nat} (h : IsD W B O d mb m) {k : Nat} {cs : Array Value} {t : TypeId} {o : Nat × Nat} (hb : W.heap[k]? = some (.cells cs t o)) (ht : t ≠ 56) : ¬ (k = d ∨ k = mb) := by
  rintro (e | e)
  · exact h.ne_blk hb ht e
  · exact h.files.ne_cells hb e
theorem St.disk (h : St w0 W O T d mb bx ba br m mx u Y bm XB) (hA : After W W' w0.heap.size O d mb m') : ∃ O', St w0 W' O' T d mb bx ba br m' mx u Y bm XB ∧ Rows5 W W' := by
  obtain ⟨O', hD, hO, hK, hB⟩ := hA
  refine ⟨O', ⟨hD, ?_, blk_kept h.hx hK (h.isD.not_dm h.hx (by decide)), blk_kept h.hy hK (h.isD.not_dm h.hy (by decide)), blk_kept h.hz hK (h.isD.not_dm h.hz (by decide)), h.bel.trans hB, fun k hk => ?_, h.tx, h.ta, h.tr, h.ne, blk_kept h.hm hK (h.isD.not_dm h.hm (by decide)), h.nm1, h.nm2, fun ho => (hO _ ho).elim h.no (fun e => by have := blk_lt h.hm; omega)⟩, Rows5.kept hK fun k cs hc => h.isD.not_dm hc (by decide)⟩
  · refine Kd.R_mono (Kd.R_kept (R76_typed h.row) hK ?_) ?_
    · rintro k ⟨_, _, _, cs, hc⟩
      exact h.isD.not_dm hc (by decide)
    · rintro k ⟨h1, h2, h3, cs, hc⟩ ho
      rcases hO k ho with e | e
      · exact h1 e
      · omega
  · obtain ⟨h1, h2, h3⟩ := h.pro k hk
    refine ⟨fun ho => ?_, Nat.lt_of_lt_of_le h2 hK.1, h3⟩
    rcases hO k ho with e | e
    · exact h1 e
    · omega
theorem St.below (h : St w0 W O T d mb bx ba br m mx u Y bm XB) (hb : Below W.heap.size W W') : St w0 W' O (fun k => T k ∨ (W.heap.size ≤ k ∧ k < W'.heap.size)) d mb bx ba br m mx u Y bm XB := by
  have hl := h.isD.base_lt
  refine ⟨h.isD.below hb, Kd.R_below h.row hb, blk_below h.hx hb, blk_below h.hy hb, blk_below h.hz hb, below_then h.bel hl hb, fun k hk => ?_, Or.inl h.tx, Or.inl h.ta, Or.inl h.tr, h.ne, blk_below h.hm hb, h.nm1, h.nm2, h.no⟩
  rcases hk with hk | hk
  · obtain ⟨h1, h2, h3⟩ := h.pro k hk
    exact ⟨h1, Nat.lt_of_lt_of_le h2 hb.size, h3⟩
  · exact ⟨fun ho => by have := (h.isD.rows k ho).2; omega, hk.2, by omega⟩
theorem St.mono (h : St w0 W O T d mb bx ba br m mx u Y bm XB) {T' : Nat → Prop} (ht : ∀ k, T' k → T k) (h1 : T' bx) (h2 : T' ba) (h3 : T' br) : St w0 W O T' d mb bx ba br m mx u Y bm XB :=
  ⟨h.isD, h.row, h.hx, h.hy, h.hz, h.bel, fun k hk => h.pro k (ht k hk), h1, h2, h3, h.ne, h.hm, h.nm1, h.nm2, h.no⟩
/-- A protected block has been written. -/
theorem St.keep (h : St w0 W O T d mb bx ba br m mx u Y bm XB) {g : Nat} (hK : Kept W W' (fun k => k = g)) (hB : Below w0.heap.size W W') (hg : T g) {cs : Array Value} {t : TypeId} (hc : W.heap[g]? = some (.cells cs t (0, 0))) (h56 : t ≠ 56) (h76 : t ≠ 76) : IsD W' w0.heap.size O d mb m ∧ Kd.R k76 76 W' w0.heap.size (fun k => ¬ O k) u mx.files ∧ Below w0.heap.size w0 W' ∧ (∀ k, T k → ¬ O k ∧ k < W'.heap.size ∧ w0.heap.size ≤ k) := by
  have hn := h.isD.not_dm hc h56
  refine ⟨h.isD.kept hK (fun e => hn (Or.inl e.symm)) (fun e => hn (Or.inr e.symm)) (fun k ho e => (h.pro g hg).1 (e ▸ ho)), ?_, h.bel.trans hB, fun k hk => ⟨(h.pro k hk).1, Nat.lt_of_lt_of_le (h.pro k hk).2.1 hK.1, (h.pro k hk).2.2⟩⟩
  refine Kd.R_mono (Kd.R_kept (R76_typed h.row) hK ?_) (fun k hk => hk.1)
  rintro k ⟨_, _, _, cs', hc'⟩ e
  subst e
  rw [hc] at hc'
  injection hc' with e
  injection e with _ e
  exact h76 e
theorem St.put (h : St w0 W O T d mb bx ba br m mx u Y bm XB) {g : Nat} (hg : T g) {cs : Array Value} (hc : W.heap[g]? = some (.cells cs 5 (0, 0))) (i : Nat) (x : Value) : St w0 (W.setCell ⟨g, i, none⟩ x) O T d mb bx ba br m mx u Y bm XB := by
  have hK : Kept W (W.setCell ⟨g, i, none⟩ x) (fun k => k = g) := kept_set (Kept.refl _ _) _ _
  obtain ⟨h1, h2, h3, h4⟩ := h.keep hK ((Below.refl _ _).setCell (p := ⟨g, i, none⟩) (h.pro g hg).2.2 _) hg hc (by decide) (by decide)
  exact ⟨h1, h2, blk_kept h.hx hK (blk_ne h.hx hc (by decide)), blk_kept h.hy hK (blk_ne h.hy hc (by decide)), blk_kept h.hz hK (blk_ne h.hz hc (by decide)), h3, h4, h.tx, h.ta, h.tr, h.ne, blk_kept h.hm hK (blk_ne h.hm hc (by decide)), h.nm1, h.nm2, h.no⟩
/-- The document's call has answered, and its answer has been stored. -/
theorem St.ref (h : St w0 W O T d mb bx ba br m mx u Y bm XB) {v : Value} (hK : Kept W W' (fun k => some k = u.ownBlock)) (hR : Kd.R k76 76 W' w0.heap.size (fun k => some k = u.ownBlock ∨ W.heap.size ≤ k) v mx'.files) (hB : Below w0.heap.size w0 W') :
    St w0 ((((((W'.setCell ⟨bx, 0, none⟩ (v)).setCell ⟨bx, 1, none⟩ (.int .i64 mx'.writes)).setCell ⟨bx, 2, none⟩ (.bool mx'.armed)).setCell ⟨bx, 3, none⟩ (.bool mx'.dead)).setCell ⟨bx, 4, none⟩ (.int .i64 mx'.after)).setCell ⟨bx, 5, none⟩ (.int .i64 mx'.keep)) O T d mb bx ba br m mx' v Y bm XB ∧ Rows5 W ((((((W'.setCell ⟨bx, 0, none⟩ (v)).setCell ⟨bx, 1, none⟩ (.int .i64 mx'.writes)).setCell ⟨bx, 2, none⟩ (.bool mx'.armed)).setCell ⟨bx, 3, none⟩ (.bool mx'.dead)).setCell ⟨bx, 4, none⟩ (.int .i64 mx'.after)).setCell ⟨bx, 5, none⟩ (.int .i64 mx'.keep)) ∧ W'.heap[bx]? = some (.cells #[u, .int .i64 mx.writes, .bool mx.armed, .bool mx.dead, .int .i64 mx.after, .int .i64 mx.keep] 39 (0, 0)) := by
  have hty : ∀ k, some k = u.ownBlock → ¬ O k ∧ k < W.heap.size ∧ ∃ cs, W.heap[k]? = some (.cells cs 76 (0, 0)) := fun k hk => ⟨h.row.1 k hk.symm, Kd.R_lt h.row k hk.symm, Kd.R_typed h.row k hk.symm⟩
  have hnt : ∀ {k : Nat} {cs : Array Value} {t : TypeId}, W.heap[k]? = some (.cells cs t (0, 0)) → t ≠ 76 → ¬ some k = u.ownBlock := fun hc ht e => by
    obtain ⟨_, _, cs', hc'⟩ := hty _ e
    rw [hc] at hc'
    injection hc' with e
    injection e with _ e
    exact ht e
  have hmb : ¬ some mb = u.ownBlock := fun e => by
    obtain ⟨_, _, cs', hc'⟩ := hty _ e
    exact h.isD.files.ne_cells hc' rfl
  have hx' := blk_kept h.hx hK (hnt h.hx (by decide))
  have hD' := h.isD.kept hK (hnt h.isD.blk (by decide)) hmb (fun k ho e => (hty k e).1 ho)
  have hR' : Kd.R k76 76 W' w0.heap.size (fun k => ¬ O k) v mx'.files := Kd.R_mono hR (fun k hk => by
    rcases hk with hk | hk
    · exact (hty k hk).1
    · exact fun ho => by have := (h.isD.rows k ho).2; omega)
  have K6 := kept6 W' bx v (.int .i64 mx'.writes) (.bool mx'.armed) (.bool mx'.dead) (.int .i64 mx'.after) (.int .i64 mx'.keep)
  have B6 := below6 (Below.refl w0.heap.size W') (h.pro bx h.tx).2.2 v (.int .i64 mx'.writes) (.bool mx'.armed) (.bool mx'.dead) (.int .i64 mx'.after) (.int .i64 mx'.keep)
  have hn := h.isD.not_dm h.hx (by decide)
  refine ⟨⟨hD'.kept K6 (fun e => hn (Or.inl e.symm)) (fun e => hn (Or.inr e.symm)) (fun k ho e => (h.pro bx h.tx).1 (e ▸ ho)), ?_, blk6 hx' _ _ _ _ _ _, blk_kept (blk_kept h.hy hK (hnt h.hy (by decide))) K6 (blk_ne h.hy h.hx (by decide)), blk_kept (blk_kept h.hz hK (hnt h.hz (by decide))) K6 (fun e => h.ne e.symm), hB.trans B6, fun k hk => ⟨(h.pro k hk).1, Nat.lt_of_lt_of_le (h.pro k hk).2.1 (Nat.le_trans hK.1 K6.1), (h.pro k hk).2.2⟩, h.tx, h.ta, h.tr, h.ne, blk_kept (blk_kept h.hm hK (hnt h.hm (by decide))) K6 h.nm1, h.nm1, h.nm2, h.no⟩, ?_, hx'⟩
  · refine Kd.R_mono (Kd.R_kept (R76_typed hR') K6 ?_) (fun k hk => hk.1)
    rintro k ⟨_, _, _, cs', hc'⟩ e
    exact blk_ne hc' hx' (by decide) e
  · exact (Rows5.kept hK fun k cs hc => hnt hc (by decide)).trans (Rows5.kept K6 fun k cs hc e => blk_ne hc hx' (by decide) e)
/-- The answer lies in its own block. -/
theorem St.fin (h : St w0 W O T d mb bx ba br m m u Y bm XB) : Pair ((((((W.setCell ⟨br, 0, none⟩ (u)).setCell ⟨br, 1, none⟩ (.int .i64 m.writes)).setCell ⟨br, 2, none⟩ (.bool m.armed)).setCell ⟨br, 3, none⟩ (.bool m.dead)).setCell ⟨br, 4, none⟩ (.int .i64 m.after)).setCell ⟨br, 5, none⟩ (.int .i64 m.keep)) w0.heap.size d mb m u bm ∧ Below w0.heap.size w0 ((((((W.setCell ⟨br, 0, none⟩ (u)).setCell ⟨br, 1, none⟩ (.int .i64 m.writes)).setCell ⟨br, 2, none⟩ (.bool m.armed)).setCell ⟨br, 3, none⟩ (.bool m.dead)).setCell ⟨br, 4, none⟩ (.int .i64 m.after)).setCell ⟨br, 5, none⟩ (.int .i64 m.keep)) ∧ ((((((W.setCell ⟨br, 0, none⟩ (u)).setCell ⟨br, 1, none⟩ (.int .i64 m.writes)).setCell ⟨br, 2, none⟩ (.bool m.armed)).setCell ⟨br, 3, none⟩ (.bool m.dead)).setCell ⟨br, 4, none⟩ (.int .i64 m.after)).setCell ⟨br, 5, none⟩ (.int .i64 m.keep)).heap[br]? = some (.cells #[u, .int .i64 m.writes, .bool m.armed, .bool m.dead, .int .i64 m.after, .int .i64 m.keep] 39 (0, 0)) ∧ ((((((W.setCell ⟨br, 0, none⟩ (u)).setCell ⟨br, 1, none⟩ (.int .i64 m.writes)).setCell ⟨br, 2, none⟩ (.bool m.armed)).setCell ⟨br, 3, none⟩ (.bool m.dead)).setCell ⟨br, 4, none⟩ (.int .i64 m.after)).setCell ⟨br, 5, none⟩ (.int .i64 m.keep)).heap[bm]? = some (.cells XB 39 (0, 0)) := by
  have K6 := kept6 W br u (.int .i64 m.writes) (.bool m.armed) (.bool m.dead) (.int .i64 m.after) (.int .i64 m.keep)
  have B6 := below6 (Below.refl w0.heap.size W) (h.pro br h.tr).2.2 u (.int .i64 m.writes) (.bool m.armed) (.bool m.dead) (.int .i64 m.after) (.int .i64 m.keep)
  obtain ⟨h1, h2, h3, h4⟩ := h.keep K6 B6 h.tr h.hz (by decide) (by decide)
  exact ⟨⟨O, h1, h2, h.no⟩, h3, blk6 h.hz _ _ _ _ _ _, blk_kept h.hm K6 h.nm2⟩
end
end Go.Proofs.Ytieodkghfceflaa.MD
namespace Go.Proofs.Ytieodkghfceflaa.MD
open Go.Proofs.Ytieodkghfceflaa.Opening Go.Proofs.Ytieodkghfceflaa.Pure
open Go.RowKit Go.Proofs.YtieodkghfceflaaW.PrintWords Go.Proofs.YtieodkghfceflaaW.PrintLast Go.Proofs.YtieodkghfceflaaW.PrintMore
section
variable {w0 W W' : World} {O T O2 : Nat → Prop} {d mb bx ba br d2 mb2 : Nat} {m mx m' mx' m2 m2' : DS} {u : Value} {Y : Array Value} {bm : Nat} {XB : Array Value}
theorem St.stay (h : St w0 W O T d mb bx ba br m mx u Y bm XB) (hb : Below W.heap.size W W') : St w0 W' O T d mb bx ba br m mx u Y bm XB := (h.below hb).mono (fun k hk => Or.inl hk) h.tx h.ta h.tr
theorem St.clone (h : St w0 W O T d mb bx ba br m mx u Y bm XB) (hD : IsD W' w0.heap.size O d2 mb2 m) (hb : Below W.heap.size W W') : St w0 W' O T d2 mb2 bx ba br m mx u Y bm XB :=
  have h2 := h.stay hb
  ⟨hD, h2.row, h2.hx, h2.hy, h2.hz, h2.bel, h2.pro, h2.tx, h2.ta, h2.tr, h2.ne, h2.hm, h2.nm1, h2.nm2, h2.no⟩
/-- The disk, the document's list, and another disk. -/
structure Two (w0 W : World) (O T : Nat → Prop) (d mb bx ba br : Nat) (m mx : DS) (u : Value) (Y : Array Value) (bm : Nat) (XB : Array Value) (O2 : Nat → Prop) (d2 mb2 : Nat) (m2 : DS) : Prop where
  st : St w0 W O T d mb bx ba br m mx u Y bm XB
  isD : IsD W w0.heap.size O2 d2 mb2 m2
  far : d < d2 ∧ mb < d2 ∧ d < mb2 ∧ mb < mb2
  rows : ∀ k, O k → k < d2 ∧ k < mb2
theorem Two.begin (h : St w0 W O T d mb bx ba br m mx u Y bm XB) (hD : IsD W' w0.heap.size O d2 mb2 m) (h1 : W.heap.size ≤ d2) (h2 : W.heap.size ≤ mb2) (hb : Below W.heap.size W W') : Two w0 W' O T d mb bx ba br m mx u Y bm XB O d2 mb2 m := by
  have e1 := blk_lt h.isD.blk
  have e2 := h.isD.files.lt
  exact ⟨h.stay hb, hD, ⟨by omega, by omega, by omega, by omega⟩, fun k ho => by have := (h.isD.rows k ho).2; omega⟩
theorem Two.stay (h : Two w0 W O T d mb bx ba br m mx u Y bm XB O2 d2 mb2 m2) (hb : Below W.heap.size W W') : Two w0 W' O T d mb bx ba br m mx u Y bm XB O2 d2 mb2 m2 := ⟨h.st.stay hb, h.isD.below hb, h.far, h.rows⟩
theorem Two.disk (h : Two w0 W O T d mb bx ba br m mx u Y bm XB O2 d2 mb2 m2) (hA : After W W' w0.heap.size O2 d2 mb2 m2') : ∃ O2', Two w0 W' O T d mb bx ba br m mx u Y bm XB O2' d2 mb2 m2' := by
  obtain ⟨O', hD, hO, hK, hB⟩ := hA
  obtain ⟨f1, f2, f3, f4⟩ := h.far
  have nt : ∀ {k : Nat} {cs : Array Value} {t : TypeId}, W.heap[k]? = some (.cells cs t (0, 0)) → t ≠ 56 → ¬ (k = d2 ∨ k = mb2) := fun hc ht => h.isD.not_dm hc ht
  refine ⟨O', ⟨h.st.isD.kept hK (by omega) (by omega) (fun k ho => by have := h.rows k ho; omega), ?_, blk_kept h.st.hx hK (nt h.st.hx (by decide)), blk_kept h.st.hy hK (nt h.st.hy (by decide)), blk_kept h.st.hz hK (nt h.st.hz (by decide)), h.st.bel.trans hB, fun k hk => ⟨(h.st.pro k hk).1, Nat.lt_of_lt_of_le (h.st.pro k hk).2.1 hK.1, (h.st.pro k hk).2.2⟩, h.st.tx, h.st.ta, h.st.tr, h.st.ne, blk_kept h.st.hm hK (nt h.st.hm (by decide)), h.st.nm1, h.st.nm2, h.st.no⟩, hD, h.far, h.rows⟩
  refine Kd.R_mono (Kd.R_kept (R76_typed h.st.row) hK ?_) (fun k hk => hk.1)
  rintro k ⟨_, _, _, cs, hc⟩
  exact nt hc (by decide)
end
end Go.Proofs.Ytieodkghfceflaa.MD
