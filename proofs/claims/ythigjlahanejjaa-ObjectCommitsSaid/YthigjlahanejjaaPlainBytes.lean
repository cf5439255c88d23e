/- Rows of bytes and numbers of eight bytes, in plain Lean. No condition. -/
import Derived.Test.YthigjlahanejjaaMOx0
import Derived.Test.YthigjlahanejjaaMOx3
import Derived.Test.YthigjlahanejjaaMOx5
import Derived.Test.YthigjlahanejjaaPlainTree
import Derived.Laws.BitsLemmas
set_option linter.unusedVariables false
set_option linter.unusedSimpArgs false
namespace Go.Proofs.Ythigjlahanejjaa.Pure
open Go.RowKit Go.Proofs.Ythigjlahanejjaa.MO Go.Proofs.Ythigjlahanejjaa.Opening Go.Proofs.YthigjlahanejjaaW.PrintWords Go.Proofs.YthigjlahanejjaaW.PrintLast Go.Proofs.YthigjlahanejjaaW.PrintMore
theorem awake8_ev : Ev (fun k => forebearlaw08_awake.f k) true := Ev.of (fun k => forebearlaw08_awake.mono k) (k := 40) (by decide +kernel)
theorem wrap_u64 (n : Int) : IntKind.u64.wrap n = n % 18446744073709551616 := by simp [IntKind.wrap, IntKind.bits, IntKind.signed]
theorem u64_id {n : Int} (h0 : 0 ≤ n) (h1 : n < 18446744073709551616) : IntKind.u64.wrap n = n := by rw [wrap_u64]; omega
def Bytes (l : List Int) : Prop := ∀ y ∈ l, 0 ≤ y ∧ y < 256
theorem Bytes.append {a b : List Int} (ha : Bytes a) (hb : Bytes b) : Bytes (a ++ b) := fun y hy => (List.mem_append.1 hy).elim (ha y) (hb y)
theorem Bytes.take {a : List Int} (ha : Bytes a) (n : Nat) : Bytes (a.take n) := fun y hy => ha y (List.mem_of_mem_take hy)
theorem Bytes.drop {a : List Int} (ha : Bytes a) (n : Nat) : Bytes (a.drop n) := fun y hy => ha y (List.mem_of_mem_drop hy)
theorem bytes_of {l : List Int} (h : ∀ y ∈ l, (Lit.int .u8 y).wf = true) : Bytes l := by
  intro y hy
  have h2 := h y hy
  simp only [Lit.wf, IntKind.min, IntKind.max, IntKind.signed, IntKind.bits] at h2
  simp at h2
  omega
theorem u64_range {v : Int} (h : (Lit.int .u64 v).wf = true) : 0 ≤ v ∧ v < 18446744073709551616 := by
  simp only [Lit.wf, IntKind.min, IntKind.max, IntKind.signed, IntKind.bits] at h
  simp at h
  omega
theorem bytesOf_bytes (p : ByteArray) : Bytes (bytesOf p) := by
  intro y hy
  unfold bytesOf at hy
  obtain ⟨b, _, rfl⟩ := List.mem_map.1 hy
  have := b.toNat_lt
  omega
theorem nums_str (xs : List Int) (h : Bytes xs) : bytesOf (strOfNums xs) = xs := by
  unfold bytesOf
  rw [strOfNums_data, List.map_map]
  conv => rhs; rw [← List.map_id xs]
  refine List.map_congr_left fun y hy => ?_
  obtain ⟨h0, h1⟩ := h y hy
  simp only [Function.comp_apply, id_eq, UInt8.toNat_ofNat']
  omega
theorem str_bytes (p : ByteArray) : strOfNums (bytesOf p) = p := by
  apply key_inj
  unfold key bytesOf
  rw [strOfNums_data, List.map_map]
  conv => rhs; rw [← List.map_id p.data.toList]
  refine List.map_congr_left fun y hy => ?_
  simp
theorem str_append (a b : List Int) : strOfNums a ++ strOfNums b = strOfNums (a ++ b) := by
  unfold strOfNums
  rw [List.map_append]
  apply ByteArray.ext
  simp
theorem str_extract (l : List Int) (a b : Nat) : (strOfNums l).extract a b = strOfNums ((l.take b).drop a) := by
  unfold strOfNums
  apply ByteArray.ext
  simp [ByteArray.data_extract, List.map_take, List.map_drop, List.drop_take]
theorem bt_nat {s : ByteArray} {j : Nat} (h : j < s.size) : bt s (j : Int) = (bytesOf s)[j]'(by rw [bytesOf_length]; exact h) := by
  have : (j : Int).toNat < s.size := by simpa using h
  rw [bt, dif_pos this]
  simp [bytesOf]
  rfl
theorem bt_str (l : List Int) (hb : Bytes l) (i : Nat) (h : i < l.length) : bt (strOfNums l) (i : Int) = l[i] := by
  rw [bt_nat (by rw [strOfNums_size]; exact h)]
  simp only [nums_str l hb]
theorem str_inj {a b : List Int} (ha : Bytes a) (hb : Bytes b) (h : (strOfNums a).toList = (strOfNums b).toList) : a = b := by
  have h2 : (strOfNums a).data.toList = (strOfNums b).data.toList := by rw [← ByteArray.toList_eq, ← ByteArray.toList_eq, h]
  have : bytesOf (strOfNums a) = bytesOf (strOfNums b) := by unfold bytesOf; rw [h2]
  rwa [nums_str _ ha, nums_str _ hb] at this
/-! ### Eight bytes -/
theorem be8_eq (v : Int) : be8 v = [v / 72057594037927936 % 256, v / 281474976710656 % 256, v / 1099511627776 % 256, v / 4294967296 % 256, v / 16777216 % 256, v / 65536 % 256, v / 256 % 256, v % 256] := by
  simp [be8, shr, IntKind.bits]
theorem be8_len (v : Int) : (be8 v).length = 8 := rfl
theorem be8_bytes (v : Int) : Bytes (be8 v) := by
  rw [be8_eq]
  intro y hy
  simp only [List.mem_cons, List.not_mem_nil, or_false] at hy
  omega
def valI (l : List Int) (v : Int) : Int := l.foldl (fun v c => v * 256 + c) v
theorem valI_8 (a b c d e f g h : Int) : valI [a, b, c, d, e, f, g, h] 0 = ((((((a * 256 + b) * 256 + c) * 256 + d) * 256 + e) * 256 + f) * 256 + g) * 256 + h := by
  simp [valI]
theorem val_be8 (v : Int) (h0 : 0 ≤ v) (h1 : v < 18446744073709551616) : valI (be8 v) 0 = v := by
  rw [be8_eq, valI_8]
  omega
theorem be8_val (l : List Int) (hb : Bytes l) (hl : l.length = 8) : be8 (valI l 0) = l := by
  match l, hl with
  | [a, b, c, d, e, f, g, h], _ =>
    have ha := hb a (by simp)
    have hb1 := hb b (by simp)
    have hc := hb c (by simp)
    have hd := hb d (by simp)
    have he := hb e (by simp)
    have hf := hb f (by simp)
    have hg := hb g (by simp)
    have hh := hb h (by simp)
    rw [be8_eq, valI_8]
    simp only [List.cons.injEq, and_true]
    omega
theorem valI_range (l : List Int) (hb : Bytes l) (hl : l.length = 8) : 0 ≤ valI l 0 ∧ valI l 0 < 18446744073709551616 := by
  match l, hl with
  | [a, b, c, d, e, f, g, h], _ =>
    have ha := hb a (by simp)
    have hb1 := hb b (by simp)
    have hc := hb c (by simp)
    have hd := hb d (by simp)
    have he := hb e (by simp)
    have hf := hb f (by simp)
    have hg := hb g (by simp)
    have hh := hb h (by simp)
    rw [valI_8]
    omega
theorem pow_le7 {n : Nat} (h : n ≤ 7) : (256 : Int) ^ n ≤ 72057594037927936 := by
  have h1 : (256 : Nat) ^ n ≤ 256 ^ 7 := Nat.pow_le_pow_right (by decide) h
  have h2 : (256 : Nat) ^ 7 = 72057594037927936 := by decide
  rw [h2] at h1
  have h3 : (((256 : Nat) ^ n : Nat) : Int) ≤ ((72057594037927936 : Nat) : Int) := Int.ofNat_le.2 h1
  rw [Int.natCast_pow] at h3
  exact h3
theorem byteIn_eq {v c : Int} (h0 : 0 ≤ v) (h1 : v < 72057594037927936) (c0 : 0 ≤ c) (c1 : c < 256) : byteIn v c = v * 256 + c := by
  unfold byteIn
  have e : shl .u64 v 8 = v * 256 := by
    unfold shl
    rw [show min (8 : Int).toNat (IntKind.u64).bits = 8 from rfl, u64_id (by omega) (by omega)]
    omega
  rw [e, u64_id (n := c) (by omega) (by omega)]
  exact bits_join .u64 64 (by decide) (fun n h0 h1 => by rw [wrap_u64]; omega) 8 (v * 256) c (by omega) (by omega) (by omega) (by omega) (by omega) (by omega)
theorem fold_in : ∀ (l : List Int) (v : Int) (n : Nat), Bytes l → l.length + n ≤ 8 → 0 ≤ v → v < 256 ^ n → l.foldl byteIn v = valI l v
  | [], v, n, _, _, _, _ => rfl
  | c :: l, v, n, hb, hl, h0, h1 => by
    have hc := hb c (List.mem_cons_self)
    have hp := pow_le7 (n := n) (by simp at hl; omega)
    rw [List.foldl_cons, byteIn_eq h0 (by omega) hc.1 hc.2]
    have := fold_in l (v * 256 + c) (n + 1) (fun y hy => hb y (List.mem_cons_of_mem _ hy)) (by simp at hl; omega) (by omega) (by rw [Int.pow_succ]; omega)
    exact this
/-! ### The document's numbers -/
def low (n : Int) : Nat → List Int
  | 0 => []
  | d + 1 => low (n / 256) d ++ [n % 256]
theorem low8 (n : Int) : low n 8 = be8 n := by
  rw [be8_eq]
  simp only [low, List.nil_append, List.cons_append, List.cons.injEq, and_true]
  omega
end Go.Proofs.Ythigjlahanejjaa.Pure
