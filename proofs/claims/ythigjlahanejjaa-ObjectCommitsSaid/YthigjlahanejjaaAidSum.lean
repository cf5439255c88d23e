/- Plain words for the package sum: the table of half bytes, the check sum of a byte, the digits of an ID; and what the walks of sum.Check and sum.Hex need of their array's cells. No condition. -/
import Derived.Test.YthigjlahanejjaaWWords
import Derived.WalkKit
import Derived.OneCell
import Derived.Laws.BitsLemmas
set_option linter.unusedVariables false
set_option linter.unusedSimpArgs false
namespace Go.Proofs.Ythigjlahanejjaa.Opening
open Go.RowKit Go.Proofs.YthigjlahanejjaaW.PrintWords

def crcTab : List Int := [0, 498536548, 997073096, 651767980, 1994146192, 1802195444, 1303535960, 1342533948, 3988292384, 4027552580, 3604390888, 3412177804, 2607071920, 2262029012, 2685067896, 3183342108]
def tabCells (i : Nat) : Array Value := ((crcTab.take i).map (Value.int .u32) ++ List.replicate (16 - i) (Value.int .u32 0)).toArray
def vstep (v : Int) : Int := Go.bits .xor .u32 (v / 2) (Go.bits .and .u32 3988292384 ((-(Go.bits .and .u32 v 1)) % 4294967296))
def viter : Nat → Int → Int
  | 0, v => v
  | k + 1, v => vstep (viter k v)
theorem viter_tab : ∀ k : Nat, k < 16 → viter 4 (k : Int) = crcTab.getD k 0 := by decide
def crcByte (c x : Int) : Int :=
  let c1 := Go.bits .xor .u32 c (x % 4294967296)
  let c2 := Go.bits .xor .u32 (c1 / 16) (rd crcTab (Go.bits .and .u32 c1 15))
  Go.bits .xor .u32 (c2 / 16) (rd crcTab (Go.bits .and .u32 c2 15))
def crcAll (c : Int) (l : List (List Int)) : Int := l.foldl (fun c p => p.foldl crcByte c) c
theorem and15 (c : Int) : 0 ≤ Go.bits .and .u32 c 15 ∧ Go.bits .and .u32 c 15 < 16 := by
  have h : (BitVec.ofInt 32 c &&& BitVec.ofInt 32 15).toNat ≤ 15 := by
    rw [BitVec.toNat_and]; exact Nat.and_le_right
  have e : Go.bits .and .u32 c 15 = IntKind.u32.wrap ((BitVec.ofInt 32 c &&& BitVec.ofInt 32 15).toNat : Int) := rfl
  rw [e, IntKind.wrap_u32]
  omega
theorem tabCells_set (k : Nat) (hk : k < 16) : (tabCells k).setIfInBounds k (Value.int .u32 (crcTab.getD k 0)) = tabCells (k + 1) := by
  rcases (show k = 0 ∨ k = 1 ∨ k = 2 ∨ k = 3 ∨ k = 4 ∨ k = 5 ∨ k = 6 ∨ k = 7 ∨ k = 8 ∨ k = 9 ∨ k = 10 ∨ k = 11 ∨ k = 12 ∨ k = 13 ∨ k = 14 ∨ k = 15 by omega) with rfl | rfl | rfl | rfl | rfl | rfl | rfl | rfl | rfl | rfl | rfl | rfl | rfl | rfl | rfl | rfl <;> rfl
theorem tabCells_at (k : Nat) (hk : k < 16) : (tabCells k)[k]? = some (Value.int .u32 0) := by
  rcases (show k = 0 ∨ k = 1 ∨ k = 2 ∨ k = 3 ∨ k = 4 ∨ k = 5 ∨ k = 6 ∨ k = 7 ∨ k = 8 ∨ k = 9 ∨ k = 10 ∨ k = 11 ∨ k = 12 ∨ k = 13 ∨ k = 14 ∨ k = 15 by omega) with rfl | rfl | rfl | rfl | rfl | rfl | rfl | rfl | rfl | rfl | rfl | rfl | rfl | rfl | rfl | rfl <;> rfl
theorem tabCells_full (j : Int) (h0 : 0 ≤ j) (h1 : j < 16) : (tabCells 16)[j.toNat]? = some (Value.int .u32 (rd crcTab j)) := by
  rcases (show j = 0 ∨ j = 1 ∨ j = 2 ∨ j = 3 ∨ j = 4 ∨ j = 5 ∨ j = 6 ∨ j = 7 ∨ j = 8 ∨ j = 9 ∨ j = 10 ∨ j = 11 ∨ j = 12 ∨ j = 13 ∨ j = 14 ∨ j = 15 by omega) with rfl | rfl | rfl | rfl | rfl | rfl | rfl | rfl | rfl | rfl | rfl | rfl | rfl | rfl | rfl | rfl <;> rfl
theorem rows_at {α : Type} {d : Kd α} {e : Nat} {w : World} {A : Option Addr} {n : Nat} {xs : List (List α)} (h : Kd.C (Kd.slice e d) w A n xs) (i : Nat) (h1 : i < n) :
    ∃ ad A0 c0, A = some ad ∧ w.cell? (ad.add i) = some (.slice A0 (xs.getD i []).length c0) ∧ (xs.getD i []).length ≤ c0 ∧ d.C w A0 (xs.getD i []).length (xs.getD i []) := by
  obtain ⟨ad, c, he, _, hK, hc0⟩ := Kd.C_get h ([] : List α) i (by omega) (by omega)
  obtain ⟨A0, c0, rfl, l0, g0⟩ := hK
  exact ⟨ad, A0, c0, he, by have hq := hc0 0 _ rfl; rwa [show (Kd.slice e d).sz = 1 from rfl, Nat.mul_one, Nat.add_zero] at hq, l0, g0⟩

/-! ### The digits of an ID -/
def hexDig (d : Int) : Int := if d < 10 then 48 + d else 87 + d
def hexNums (v : Int) : List Int := (List.range 16).map fun i => hexDig (v / 16 ^ (15 - i) % 16)
def rot4 (v : Int) : Int := v * 16 % 18446744073709551616 + v / 1152921504606846976
def rotN : Nat → Int → Int
  | 0, v => v
  | k + 1, v => rot4 (rotN k v)
def hexCells (v : Int) (k : Nat) : Array Value := (((hexNums v).take k).map (Value.int .u8) ++ List.replicate (16 - k) (Value.int .u8 0)).toArray
theorem rot_step (B K a b d : Int) (hB : 0 < B) (hK : 0 < K) (hBK : B * K = 1152921504606846976) (h1 : 0 ≤ a) (h2 : a < K) (h3 : 0 ≤ b) (h4 : b < B) (h5 : 0 ≤ d) (h6 : d < 16) : rot4 ((B * d + b) * K + a) = b * (16 * K) + (16 * a + d) := by
  have e1 : (B * d + b) * K = 1152921504606846976 * d + b * K := by rw [Int.add_mul, Int.mul_right_comm, hBK]
  have e2 : b * (16 * K) = 16 * (b * K) := by rw [Int.mul_left_comm]
  have e3 : b * K ≤ (B - 1) * K := Int.mul_le_mul_of_nonneg_right (by omega) (by omega)
  have e4 : (B - 1) * K = 1152921504606846976 - K := by rw [Int.sub_mul, hBK, Int.one_mul]
  have e5 : 0 ≤ b * K := Int.mul_nonneg h3 (by omega)
  rw [e1, e2]
  generalize b * K = c at *
  unfold rot4
  omega
theorem rot_0 (v : Int) (h0 : 0 ≤ v) (h1 : v < 18446744073709551616) : rot4 (v % 18446744073709551616 * 1 + v / 18446744073709551616) = v % 1152921504606846976 * 16 + v / 1152921504606846976 := by
  have h := rot_step 1152921504606846976 1 (v / 18446744073709551616) (v % 1152921504606846976) (v / 1152921504606846976 % 16) (by omega) (by omega) (by omega) (by omega) (by omega) (by omega) (by omega) (by omega) (by omega)
  rw [show v % 18446744073709551616 * 1 + v / 18446744073709551616 = (1152921504606846976 * (v / 1152921504606846976 % 16) + v % 1152921504606846976) * 1 + v / 18446744073709551616 by omega, h]
  omega
theorem rot_1 (v : Int) (h0 : 0 ≤ v) (h1 : v < 18446744073709551616) : rot4 (v % 1152921504606846976 * 16 + v / 1152921504606846976) = v % 72057594037927936 * 256 + v / 72057594037927936 := by
  have h := rot_step 72057594037927936 16 (v / 1152921504606846976) (v % 72057594037927936) (v / 72057594037927936 % 16) (by omega) (by omega) (by omega) (by omega) (by omega) (by omega) (by omega) (by omega) (by omega)
  rw [show v % 1152921504606846976 * 16 + v / 1152921504606846976 = (72057594037927936 * (v / 72057594037927936 % 16) + v % 72057594037927936) * 16 + v / 1152921504606846976 by omega, h]
  omega
theorem rot_2 (v : Int) (h0 : 0 ≤ v) (h1 : v < 18446744073709551616) : rot4 (v % 72057594037927936 * 256 + v / 72057594037927936) = v % 4503599627370496 * 4096 + v / 4503599627370496 := by
  have h := rot_step 4503599627370496 256 (v / 72057594037927936) (v % 4503599627370496) (v / 4503599627370496 % 16) (by omega) (by omega) (by omega) (by omega) (by omega) (by omega) (by omega) (by omega) (by omega)
  rw [show v % 72057594037927936 * 256 + v / 72057594037927936 = (4503599627370496 * (v / 4503599627370496 % 16) + v % 4503599627370496) * 256 + v / 72057594037927936 by omega, h]
  omega
theorem rot_3 (v : Int) (h0 : 0 ≤ v) (h1 : v < 18446744073709551616) : rot4 (v % 4503599627370496 * 4096 + v / 4503599627370496) = v % 281474976710656 * 65536 + v / 281474976710656 := by
  have h := rot_step 281474976710656 4096 (v / 4503599627370496) (v % 281474976710656) (v / 281474976710656 % 16) (by omega) (by omega) (by omega) (by omega) (by omega) (by omega) (by omega) (by omega) (by omega)
  rw [show v % 4503599627370496 * 4096 + v / 4503599627370496 = (281474976710656 * (v / 281474976710656 % 16) + v % 281474976710656) * 4096 + v / 4503599627370496 by omega, h]
  omega
theorem rot_4 (v : Int) (h0 : 0 ≤ v) (h1 : v < 18446744073709551616) : rot4 (v % 281474976710656 * 65536 + v / 281474976710656) = v % 17592186044416 * 1048576 + v / 17592186044416 := by
  have h := rot_step 17592186044416 65536 (v / 281474976710656) (v % 17592186044416) (v / 17592186044416 % 16) (by omega) (by omega) (by omega) (by omega) (by omega) (by omega) (by omega) (by omega) (by omega)
  rw [show v % 281474976710656 * 65536 + v / 281474976710656 = (17592186044416 * (v / 17592186044416 % 16) + v % 17592186044416) * 65536 + v / 281474976710656 by omega, h]
  omega
theorem rot_5 (v : Int) (h0 : 0 ≤ v) (h1 : v < 18446744073709551616) : rot4 (v % 17592186044416 * 1048576 + v / 17592186044416) = v % 1099511627776 * 16777216 + v / 1099511627776 := by
  have h := rot_step 1099511627776 1048576 (v / 17592186044416) (v % 1099511627776) (v / 1099511627776 % 16) (by omega) (by omega) (by omega) (by omega) (by omega) (by omega) (by omega) (by omega) (by omega)
  rw [show v % 17592186044416 * 1048576 + v / 17592186044416 = (1099511627776 * (v / 1099511627776 % 16) + v % 1099511627776) * 1048576 + v / 17592186044416 by omega, h]
  omega
theorem rot_6 (v : Int) (h0 : 0 ≤ v) (h1 : v < 18446744073709551616) : rot4 (v % 1099511627776 * 16777216 + v / 1099511627776) = v % 68719476736 * 268435456 + v / 68719476736 := by
  have h := rot_step 68719476736 16777216 (v / 1099511627776) (v % 68719476736) (v / 68719476736 % 16) (by omega) (by omega) (by omega) (by omega) (by omega) (by omega) (by omega) (by omega) (by omega)
  rw [show v % 1099511627776 * 16777216 + v / 1099511627776 = (68719476736 * (v / 68719476736 % 16) + v % 68719476736) * 16777216 + v / 1099511627776 by omega, h]
  omega
theorem rot_7 (v : Int) (h0 : 0 ≤ v) (h1 : v < 18446744073709551616) : rot4 (v % 68719476736 * 268435456 + v / 68719476736) = v % 4294967296 * 4294967296 + v / 4294967296 := by
  have h := rot_step 4294967296 268435456 (v / 68719476736) (v % 4294967296) (v / 4294967296 % 16) (by omega) (by omega) (by omega) (by omega) (by omega) (by omega) (by omega) (by omega) (by omega)
  rw [show v % 68719476736 * 268435456 + v / 68719476736 = (4294967296 * (v / 4294967296 % 16) + v % 4294967296) * 268435456 + v / 68719476736 by omega, h]
  omega
theorem rot_8 (v : Int) (h0 : 0 ≤ v) (h1 : v < 18446744073709551616) : rot4 (v % 4294967296 * 4294967296 + v / 4294967296) = v % 268435456 * 68719476736 + v / 268435456 := by
  have h := rot_step 268435456 4294967296 (v / 4294967296) (v % 268435456) (v / 268435456 % 16) (by omega) (by omega) (by omega) (by omega) (by omega) (by omega) (by omega) (by omega) (by omega)
  rw [show v % 4294967296 * 4294967296 + v / 4294967296 = (268435456 * (v / 268435456 % 16) + v % 268435456) * 4294967296 + v / 4294967296 by omega, h]
  omega
theorem rot_9 (v : Int) (h0 : 0 ≤ v) (h1 : v < 18446744073709551616) : rot4 (v % 268435456 * 68719476736 + v / 268435456) = v % 16777216 * 1099511627776 + v / 16777216 := by
  have h := rot_step 16777216 68719476736 (v / 268435456) (v % 16777216) (v / 16777216 % 16) (by omega) (by omega) (by omega) (by omega) (by omega) (by omega) (by omega) (by omega) (by omega)
  rw [show v % 268435456 * 68719476736 + v / 268435456 = (16777216 * (v / 16777216 % 16) + v % 16777216) * 68719476736 + v / 268435456 by omega, h]
  omega
theorem rot_10 (v : Int) (h0 : 0 ≤ v) (h1 : v < 18446744073709551616) : rot4 (v % 16777216 * 1099511627776 + v / 16777216) = v % 1048576 * 17592186044416 + v / 1048576 := by
  have h := rot_step 1048576 1099511627776 (v / 16777216) (v % 1048576) (v / 1048576 % 16) (by omega) (by omega) (by omega) (by omega) (by omega) (by omega) (by omega) (by omega) (by omega)
  rw [show v % 16777216 * 1099511627776 + v / 16777216 = (1048576 * (v / 1048576 % 16) + v % 1048576) * 1099511627776 + v / 16777216 by omega, h]
  omega
theorem rot_11 (v : Int) (h0 : 0 ≤ v) (h1 : v < 18446744073709551616) : rot4 (v % 1048576 * 17592186044416 + v / 1048576) = v % 65536 * 281474976710656 + v / 65536 := by
  have h := rot_step 65536 17592186044416 (v / 1048576) (v % 65536) (v / 65536 % 16) (by omega) (by omega) (by omega) (by omega) (by omega) (by omega) (by omega) (by omega) (by omega)
  rw [show v % 1048576 * 17592186044416 + v / 1048576 = (65536 * (v / 65536 % 16) + v % 65536) * 17592186044416 + v / 1048576 by omega, h]
  omega
theorem rot_12 (v : Int) (h0 : 0 ≤ v) (h1 : v < 18446744073709551616) : rot4 (v % 65536 * 281474976710656 + v / 65536) = v % 4096 * 4503599627370496 + v / 4096 := by
  have h := rot_step 4096 281474976710656 (v / 65536) (v % 4096) (v / 4096 % 16) (by omega) (by omega) (by omega) (by omega) (by omega) (by omega) (by omega) (by omega) (by omega)
  rw [show v % 65536 * 281474976710656 + v / 65536 = (4096 * (v / 4096 % 16) + v % 4096) * 281474976710656 + v / 65536 by omega, h]
  omega
theorem rot_13 (v : Int) (h0 : 0 ≤ v) (h1 : v < 18446744073709551616) : rot4 (v % 4096 * 4503599627370496 + v / 4096) = v % 256 * 72057594037927936 + v / 256 := by
  have h := rot_step 256 4503599627370496 (v / 4096) (v % 256) (v / 256 % 16) (by omega) (by omega) (by omega) (by omega) (by omega) (by omega) (by omega) (by omega) (by omega)
  rw [show v % 4096 * 4503599627370496 + v / 4096 = (256 * (v / 256 % 16) + v % 256) * 4503599627370496 + v / 4096 by omega, h]
  omega
theorem rot_14 (v : Int) (h0 : 0 ≤ v) (h1 : v < 18446744073709551616) : rot4 (v % 256 * 72057594037927936 + v / 256) = v % 16 * 1152921504606846976 + v / 16 := by
  have h := rot_step 16 72057594037927936 (v / 256) (v % 16) (v / 16 % 16) (by omega) (by omega) (by omega) (by omega) (by omega) (by omega) (by omega) (by omega) (by omega)
  rw [show v % 256 * 72057594037927936 + v / 256 = (16 * (v / 16 % 16) + v % 16) * 72057594037927936 + v / 256 by omega, h]
  omega
theorem rot_15 (v : Int) (h0 : 0 ≤ v) (h1 : v < 18446744073709551616) : rot4 (v % 16 * 1152921504606846976 + v / 16) = v % 1 * 18446744073709551616 + v / 1 := by
  have h := rot_step 1 1152921504606846976 (v / 16) (v % 1) (v / 1 % 16) (by omega) (by omega) (by omega) (by omega) (by omega) (by omega) (by omega) (by omega) (by omega)
  rw [show v % 16 * 1152921504606846976 + v / 16 = (1 * (v / 1 % 16) + v % 1) * 1152921504606846976 + v / 16 by omega, h]
  omega
theorem rotN_0 (v : Int) : rotN 0 v = v % 18446744073709551616 * 1 + v / 18446744073709551616 ∨ True := .inr trivial
theorem rotN_1 (v : Int) (h0 : 0 ≤ v) (h1 : v < 18446744073709551616) : rotN 1 v = v % 1152921504606846976 * 16 + v / 1152921504606846976 := by
  have h := rot_0 v h0 h1
  rw [show v % 18446744073709551616 * 1 + v / 18446744073709551616 = v by omega] at h
  exact h
theorem rotN_2 (v : Int) (h0 : 0 ≤ v) (h1 : v < 18446744073709551616) : rotN 2 v = v % 72057594037927936 * 256 + v / 72057594037927936 := by
  show rot4 (rotN 1 v) = _
  rw [rotN_1 v h0 h1, rot_1 v h0 h1]
theorem rotN_3 (v : Int) (h0 : 0 ≤ v) (h1 : v < 18446744073709551616) : rotN 3 v = v % 4503599627370496 * 4096 + v / 4503599627370496 := by
  show rot4 (rotN 2 v) = _
  rw [rotN_2 v h0 h1, rot_2 v h0 h1]
theorem rotN_4 (v : Int) (h0 : 0 ≤ v) (h1 : v < 18446744073709551616) : rotN 4 v = v % 281474976710656 * 65536 + v / 281474976710656 := by
  show rot4 (rotN 3 v) = _
  rw [rotN_3 v h0 h1, rot_3 v h0 h1]
theorem rotN_5 (v : Int) (h0 : 0 ≤ v) (h1 : v < 18446744073709551616) : rotN 5 v = v % 17592186044416 * 1048576 + v / 17592186044416 := by
  show rot4 (rotN 4 v) = _
  rw [rotN_4 v h0 h1, rot_4 v h0 h1]
theorem rotN_6 (v : Int) (h0 : 0 ≤ v) (h1 : v < 18446744073709551616) : rotN 6 v = v % 1099511627776 * 16777216 + v / 1099511627776 := by
  show rot4 (rotN 5 v) = _
  rw [rotN_5 v h0 h1, rot_5 v h0 h1]
theorem rotN_7 (v : Int) (h0 : 0 ≤ v) (h1 : v < 18446744073709551616) : rotN 7 v = v % 68719476736 * 268435456 + v / 68719476736 := by
  show rot4 (rotN 6 v) = _
  rw [rotN_6 v h0 h1, rot_6 v h0 h1]
theorem rotN_8 (v : Int) (h0 : 0 ≤ v) (h1 : v < 18446744073709551616) : rotN 8 v = v % 4294967296 * 4294967296 + v / 4294967296 := by
  show rot4 (rotN 7 v) = _
  rw [rotN_7 v h0 h1, rot_7 v h0 h1]
theorem rotN_9 (v : Int) (h0 : 0 ≤ v) (h1 : v < 18446744073709551616) : rotN 9 v = v % 268435456 * 68719476736 + v / 268435456 := by
  show rot4 (rotN 8 v) = _
  rw [rotN_8 v h0 h1, rot_8 v h0 h1]
theorem rotN_10 (v : Int) (h0 : 0 ≤ v) (h1 : v < 18446744073709551616) : rotN 10 v = v % 16777216 * 1099511627776 + v / 16777216 := by
  show rot4 (rotN 9 v) = _
  rw [rotN_9 v h0 h1, rot_9 v h0 h1]
theorem rotN_11 (v : Int) (h0 : 0 ≤ v) (h1 : v < 18446744073709551616) : rotN 11 v = v % 1048576 * 17592186044416 + v / 1048576 := by
  show rot4 (rotN 10 v) = _
  rw [rotN_10 v h0 h1, rot_10 v h0 h1]
theorem rotN_12 (v : Int) (h0 : 0 ≤ v) (h1 : v < 18446744073709551616) : rotN 12 v = v % 65536 * 281474976710656 + v / 65536 := by
  show rot4 (rotN 11 v) = _
  rw [rotN_11 v h0 h1, rot_11 v h0 h1]
theorem rotN_13 (v : Int) (h0 : 0 ≤ v) (h1 : v < 18446744073709551616) : rotN 13 v = v % 4096 * 4503599627370496 + v / 4096 := by
  show rot4 (rotN 12 v) = _
  rw [rotN_12 v h0 h1, rot_12 v h0 h1]
theorem rotN_14 (v : Int) (h0 : 0 ≤ v) (h1 : v < 18446744073709551616) : rotN 14 v = v % 256 * 72057594037927936 + v / 256 := by
  show rot4 (rotN 13 v) = _
  rw [rotN_13 v h0 h1, rot_13 v h0 h1]
theorem rotN_15 (v : Int) (h0 : 0 ≤ v) (h1 : v < 18446744073709551616) : rotN 15 v = v % 16 * 1152921504606846976 + v / 16 := by
  show rot4 (rotN 14 v) = _
  rw [rotN_14 v h0 h1, rot_14 v h0 h1]
theorem rotN_16 (v : Int) (h0 : 0 ≤ v) (h1 : v < 18446744073709551616) : rotN 16 v = v := by
  show rot4 (rotN 15 v) = _
  rw [rotN_15 v h0 h1, rot_15 v h0 h1]
  omega
theorem rotN_digit (v : Int) (h0 : 0 ≤ v) (h1 : v < 18446744073709551616) (k : Nat) (hk : k < 16) : 0 ≤ rotN (k + 1) v ∧ rotN (k + 1) v < 18446744073709551616 ∧ hexDig (rotN (k + 1) v % 16) = (hexNums v).getD k 0 := by
  rcases (show k = 0 ∨ k = 1 ∨ k = 2 ∨ k = 3 ∨ k = 4 ∨ k = 5 ∨ k = 6 ∨ k = 7 ∨ k = 8 ∨ k = 9 ∨ k = 10 ∨ k = 11 ∨ k = 12 ∨ k = 13 ∨ k = 14 ∨ k = 15 by omega) with rfl | rfl | rfl | rfl | rfl | rfl | rfl | rfl | rfl | rfl | rfl | rfl | rfl | rfl | rfl | rfl
  · rw [show rotN (0 + 1) v = v % 1152921504606846976 * 16 + v / 1152921504606846976 from rotN_1 v h0 h1]; exact ⟨by omega, by omega, congrArg hexDig (show (v % 1152921504606846976 * 16 + v / 1152921504606846976) % 16 = v / 1152921504606846976 % 16 by omega)⟩
  · rw [show rotN (1 + 1) v = v % 72057594037927936 * 256 + v / 72057594037927936 from rotN_2 v h0 h1]; exact ⟨by omega, by omega, congrArg hexDig (show (v % 72057594037927936 * 256 + v / 72057594037927936) % 16 = v / 72057594037927936 % 16 by omega)⟩
  · rw [show rotN (2 + 1) v = v % 4503599627370496 * 4096 + v / 4503599627370496 from rotN_3 v h0 h1]; exact ⟨by omega, by omega, congrArg hexDig (show (v % 4503599627370496 * 4096 + v / 4503599627370496) % 16 = v / 4503599627370496 % 16 by omega)⟩
  · rw [show rotN (3 + 1) v = v % 281474976710656 * 65536 + v / 281474976710656 from rotN_4 v h0 h1]; exact ⟨by omega, by omega, congrArg hexDig (show (v % 281474976710656 * 65536 + v / 281474976710656) % 16 = v / 281474976710656 % 16 by omega)⟩
  · rw [show rotN (4 + 1) v = v % 17592186044416 * 1048576 + v / 17592186044416 from rotN_5 v h0 h1]; exact ⟨by omega, by omega, congrArg hexDig (show (v % 17592186044416 * 1048576 + v / 17592186044416) % 16 = v / 17592186044416 % 16 by omega)⟩
  · rw [show rotN (5 + 1) v = v % 1099511627776 * 16777216 + v / 1099511627776 from rotN_6 v h0 h1]; exact ⟨by omega, by omega, congrArg hexDig (show (v % 1099511627776 * 16777216 + v / 1099511627776) % 16 = v / 1099511627776 % 16 by omega)⟩
  · rw [show rotN (6 + 1) v = v % 68719476736 * 268435456 + v / 68719476736 from rotN_7 v h0 h1]; exact ⟨by omega, by omega, congrArg hexDig (show (v % 68719476736 * 268435456 + v / 68719476736) % 16 = v / 68719476736 % 16 by omega)⟩
  · rw [show rotN (7 + 1) v = v % 4294967296 * 4294967296 + v / 4294967296 from rotN_8 v h0 h1]; exact ⟨by omega, by omega, congrArg hexDig (show (v % 4294967296 * 4294967296 + v / 4294967296) % 16 = v / 4294967296 % 16 by omega)⟩
  · rw [show rotN (8 + 1) v = v % 268435456 * 68719476736 + v / 268435456 from rotN_9 v h0 h1]; exact ⟨by omega, by omega, congrArg hexDig (show (v % 268435456 * 68719476736 + v / 268435456) % 16 = v / 268435456 % 16 by omega)⟩
  · rw [show rotN (9 + 1) v = v % 16777216 * 1099511627776 + v / 16777216 from rotN_10 v h0 h1]; exact ⟨by omega, by omega, congrArg hexDig (show (v % 16777216 * 1099511627776 + v / 16777216) % 16 = v / 16777216 % 16 by omega)⟩
  · rw [show rotN (10 + 1) v = v % 1048576 * 17592186044416 + v / 1048576 from rotN_11 v h0 h1]; exact ⟨by omega, by omega, congrArg hexDig (show (v % 1048576 * 17592186044416 + v / 1048576) % 16 = v / 1048576 % 16 by omega)⟩
  · rw [show rotN (11 + 1) v = v % 65536 * 281474976710656 + v / 65536 from rotN_12 v h0 h1]; exact ⟨by omega, by omega, congrArg hexDig (show (v % 65536 * 281474976710656 + v / 65536) % 16 = v / 65536 % 16 by omega)⟩
  · rw [show rotN (12 + 1) v = v % 4096 * 4503599627370496 + v / 4096 from rotN_13 v h0 h1]; exact ⟨by omega, by omega, congrArg hexDig (show (v % 4096 * 4503599627370496 + v / 4096) % 16 = v / 4096 % 16 by omega)⟩
  · rw [show rotN (13 + 1) v = v % 256 * 72057594037927936 + v / 256 from rotN_14 v h0 h1]; exact ⟨by omega, by omega, congrArg hexDig (show (v % 256 * 72057594037927936 + v / 256) % 16 = v / 256 % 16 by omega)⟩
  · rw [show rotN (14 + 1) v = v % 16 * 1152921504606846976 + v / 16 from rotN_15 v h0 h1]; exact ⟨by omega, by omega, congrArg hexDig (show (v % 16 * 1152921504606846976 + v / 16) % 16 = v / 16 % 16 by omega)⟩
  · rw [show rotN (15 + 1) v = v from rotN_16 v h0 h1]; exact ⟨by omega, by omega, congrArg hexDig (show (v) % 16 = v / 1 % 16 by omega)⟩

theorem and15u64 (v : Int) (h0 : 0 ≤ v) (h1 : v < 18446744073709551616) : Go.bits .and .u64 v 15 = v % 16 := by
  have h := bits_mask .u64 64 (by decide) (fun n a b => by
    simp [IntKind.wrap, IntKind.bits, IntKind.signed]
    omega) 4 (by decide) v h0 h1
  simpa using h
theorem hexDig_bt : ∀ d : Int, 0 ≤ d → d < 16 → bt ⟨#[48, 49, 50, 51, 52, 53, 54, 55, 56, 57, 97, 98, 99, 100, 101, 102]⟩ d = hexDig d := by
  intro d h0 h1
  rcases (show d = 0 ∨ d = 1 ∨ d = 2 ∨ d = 3 ∨ d = 4 ∨ d = 5 ∨ d = 6 ∨ d = 7 ∨ d = 8 ∨ d = 9 ∨ d = 10 ∨ d = 11 ∨ d = 12 ∨ d = 13 ∨ d = 14 ∨ d = 15 by omega) with rfl | rfl | rfl | rfl | rfl | rfl | rfl | rfl | rfl | rfl | rfl | rfl | rfl | rfl | rfl | rfl <;> rfl
theorem hexCells_set (v : Int) (k : Nat) (hk : k < 16) : (hexCells v k).setIfInBounds k (Value.int .u8 ((hexNums v).getD k 0)) = hexCells v (k + 1) := by
  rcases (show k = 0 ∨ k = 1 ∨ k = 2 ∨ k = 3 ∨ k = 4 ∨ k = 5 ∨ k = 6 ∨ k = 7 ∨ k = 8 ∨ k = 9 ∨ k = 10 ∨ k = 11 ∨ k = 12 ∨ k = 13 ∨ k = 14 ∨ k = 15 by omega) with rfl | rfl | rfl | rfl | rfl | rfl | rfl | rfl | rfl | rfl | rfl | rfl | rfl | rfl | rfl | rfl <;> rfl
theorem hexCells_at (v : Int) (k : Nat) (hk : k < 16) : (hexCells v k)[k]? = some (Value.int .u8 0) := by
  rcases (show k = 0 ∨ k = 1 ∨ k = 2 ∨ k = 3 ∨ k = 4 ∨ k = 5 ∨ k = 6 ∨ k = 7 ∨ k = 8 ∨ k = 9 ∨ k = 10 ∨ k = 11 ∨ k = 12 ∨ k = 13 ∨ k = 14 ∨ k = 15 by omega) with rfl | rfl | rfl | rfl | rfl | rfl | rfl | rfl | rfl | rfl | rfl | rfl | rfl | rfl | rfl | rfl <;> rfl
theorem hexCells_full (v : Int) (k : Nat) (hk : k < 16) : (hexCells v 16)[k]? = some (Value.int .u8 ((hexNums v).getD k 0)) := by
  rcases (show k = 0 ∨ k = 1 ∨ k = 2 ∨ k = 3 ∨ k = 4 ∨ k = 5 ∨ k = 6 ∨ k = 7 ∨ k = 8 ∨ k = 9 ∨ k = 10 ∨ k = 11 ∨ k = 12 ∨ k = 13 ∨ k = 14 ∨ k = 15 by omega) with rfl | rfl | rfl | rfl | rfl | rfl | rfl | rfl | rfl | rfl | rfl | rfl | rfl | rfl | rfl | rfl <;> rfl
theorem hex_row {T : TypeId} (w : World) (g : Nat) (v : Int) (hb : w.heap[g]? = some (.cells (hexCells v 16) T (0, 0))) : Kd.C (Kd.int .u8) w (some ⟨g, 0, none⟩) 16 (hexNums v) := by
  have hl : (hexNums v).length = 16 := rfl
  refine ⟨hl, by omega, fun _ => ⟨_, rfl, fun j p hj => ⟨[.int .u8 p], rfl, rfl, fun i u hu => ?_⟩⟩⟩
  have hjl : j < 16 := by have := (List.getElem?_eq_some_iff.1 hj).1; omega
  have hi : i = 0 := by
    have := (List.getElem?_eq_some_iff.1 hu).1
    simp at this
    omega
  subst hi
  simp only [List.getElem?_cons_zero, Option.some.injEq] at hu
  subst hu
  rw [add_plain, show j * (Kd.int .u8).sz + 0 = j from by show j * 1 + 0 = j; omega, blk_cell hb, hexCells_full v j hjl]
  rw [show (hexNums v).getD j 0 = p from by rw [List.getD_eq_getElem?_getD, hj]; rfl]
end Go.Proofs.Ythigjlahanejjaa.Opening
