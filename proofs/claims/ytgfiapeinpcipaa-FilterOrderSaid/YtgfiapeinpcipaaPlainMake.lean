/- What the program makes of changed paths, in plain Lean. No condition. -/
import Derived.Test.YtgfiapeinpcipaaPlainPos
set_option linter.unusedVariables false
set_option linter.unusedSimpArgs false
namespace Go.Proofs.Ytgfiapeinpcipaa.Pure
open Go.RowKit Go.Proofs.Ytgfiapeinpcipaa.MF Go.Proofs.Ytgfiapeinpcipaa.Opening Go.Proofs.YtgfiapeinpcipaaW.PrintWords Go.Proofs.YtgfiapeinpcipaaW.PrintLast Go.Proofs.YtgfiapeinpcipaaW.PrintMore
/-! ### Lists of texts by their bytes -/
theorem keys_inj : ∀ {l m : List ByteArray}, keys l = keys m → l = m
  | [], [], _ => rfl
  | [], _ :: _, h => by simp [keys] at h
  | _ :: _, [], h => by simp [keys] at h
  | x :: l, y :: m, h => by
    have h' : key x :: keys l = key y :: keys m := h
    rw [key_inj (List.cons.inj h').1, keys_inj (List.cons.inj h').2]
theorem mem_keys (l : List ByteArray) (x : ByteArray) : key x ∈ keys l ↔ x ∈ l := by
  constructor
  · intro h
    obtain ⟨y, hy, e⟩ := List.mem_map.1 h
    rwa [← key_inj e]
  · intro h; exact List.mem_map.2 ⟨x, h, rfl⟩
theorem mem_sd (l : List ByteArray) (x : ByteArray) : x ∈ sd l ↔ x ∈ l := by rw [← mem_keys, sd_mem, mem_keys]
theorem rise_ext {l m : List ByteArray} (hl : Rise (keys l)) (hm : Rise (keys m)) (h : ∀ x, x ∈ l ↔ x ∈ m) : l = m := by
  refine keys_inj (rise_eq hl hm fun k => ?_)
  constructor
  · intro hk
    obtain ⟨y, hy, rfl⟩ := List.mem_map.1 hk
    exact (mem_keys m y).2 ((h y).1 hy)
  · intro hk
    obtain ⟨y, hy, rfl⟩ := List.mem_map.1 hk
    exact (mem_keys l y).2 ((h y).2 hy)
theorem sd_ext {l m : List ByteArray} (h : ∀ x, x ∈ l ↔ x ∈ m) : sd l = sd m := rise_ext (sd_rise l) (sd_rise m) fun x => by rw [mem_sd, mem_sd, h]
def ofK (l : K) : ByteArray := ⟨l.toArray⟩
theorem key_ofK (l : K) : key (ofK l) = l := key_mk l
theorem keys_ofK (l : List K) : keys (l.map ofK) = l := keys_mk l
def partsB (p : ByteArray) : List ByteArray := (partsK (key p)).map ofK
def isB (p : ByteArray) : Bool := isP (key p)
theorem parts_is (p : ByteArray) (hp : p.size ≤ 140737488351232) : Ev (fun k => path_Parts.f k p) (partsB p) := by
  refine ⟨p.size + 1, fun k hk => ?_⟩
  obtain ⟨r, e, hr⟩ := parts_f hp k (by omega)
  dsimp only
  rw [e, keys_inj (hr.trans (keys_ofK _).symm)]; rfl
theorem refparts_is (p : ByteArray) : Ev (fun k => forebearref03_Parts.f k p) (partsB p) := by
  refine ⟨4001, fun k hk => ?_⟩
  obtain ⟨r, e, hr, _⟩ := refParts_f (p := p) k (by omega)
  dsimp only
  rw [e, keys_inj (hr.trans (keys_ofK _).symm)]; rfl
theorem cuts_len : ∀ (a b : K), (cuts a b).length = b.count 47 := by
  intro a b
  induction b generalizing a with
  | nil => simp [cuts]
  | cons c b ih =>
    rw [cuts]
    by_cases h : c = 47
    · rw [if_pos h, List.length_cons, ih, h]; simp
    · rw [if_neg h, ih]
      rw [List.count_cons_of_ne (by simpa using h)]
theorem partsK_len (l : K) : (partsK l).length ≤ 6 := by
  unfold partsK
  by_cases h : isP l = true
  · rw [if_pos h, List.length_append, cuts_len, List.length_singleton]
    have := chk_count l 1 0 h
    omega
  · rw [if_neg h]; simp
theorem partsB_len (p : ByteArray) : (partsB p).length ≤ 6 := by rw [partsB, List.length_map]; exact partsK_len _
theorem partsB_some (p : ByteArray) : 0 < (partsB p).length ↔ isB p = true := by
  unfold partsB partsK isB
  rw [List.length_map]
  by_cases h : isP (key p) = true
  · rw [if_pos h]; simp [h]
  · rw [if_neg h]; simp [h]
theorem partsB_none (p : ByteArray) (h : ¬ isB p = true) : partsB p = [] := by
  have := mt (partsB_some p).1 h
  exact List.length_eq_zero_iff.1 (by omega)
theorem cuts_size : ∀ (b a x : K), x ∈ cuts a b → x.length ≤ a.length + b.length := by
  intro b
  induction b with
  | nil => intro a x h; simp [cuts] at h
  | cons c b ih =>
    intro a x h
    rw [cuts] at h
    have hn : ∀ x, x ∈ cuts (a ++ [c]) b → x.length ≤ a.length + (c :: b).length := by
      intro x hx
      have := ih _ _ hx
      simp only [List.length_append, List.length_cons, List.length_nil] at this ⊢
      omega
    split at h
    · rcases List.mem_cons.1 h with rfl | h
      · simp only [List.length_append, List.length_cons, List.length_nil]; omega
      · exact hn _ h
    · exact hn _ h
theorem partsB_size (p : ByteArray) : ∀ x ∈ partsB p, x.size ≤ 102 := by
  intro x hx
  obtain ⟨y, hy, rfl⟩ := List.mem_map.1 hx
  rw [← key_len, key_ofK]
  unfold partsK at hy
  by_cases h : isP (key p) = true
  · rw [if_pos h] at hy
    have hs := isP_size h
    rcases List.mem_append.1 hy with hy | hy
    · have := cuts_size _ _ _ hy
      simp only [List.length_nil] at this
      omega
    · rw [List.mem_singleton.1 hy]; exact hs
  · rw [if_neg h] at hy; simp at hy
/-! ### The bytes of a filter -/
def byteN (g : Nat → Bool) : Int := (g 0).toInt + (g 1).toInt * 2 + (g 2).toInt * 4 + (g 3).toInt * 8 + (g 4).toInt * 16 + (g 5).toInt * 32 + (g 6).toInt * 64 + (g 7).toInt * 128
theorem byte_or8 : ∀ (b0 b1 b2 b3 b4 b5 b6 b7 : Bool) (j : Fin 8), Go.bits .or .u8 (b0.toInt + b1.toInt * 2 + b2.toInt * 4 + b3.toInt * 8 + b4.toInt * 16 + b5.toInt * 32 + b6.toInt * 64 + b7.toInt * 128) (shl .u8 1 (j.val : Int)) =
    (b0 || j.val == 0).toInt + (b1 || j.val == 1).toInt * 2 + (b2 || j.val == 2).toInt * 4 + (b3 || j.val == 3).toInt * 8 + (b4 || j.val == 4).toInt * 16 + (b5 || j.val == 5).toInt * 32 + (b6 || j.val == 6).toInt * 64 + (b7 || j.val == 7).toInt * 128 := by decide +kernel
theorem byte_or (g : Nat → Bool) (j : Nat) (h : j < 8) : Go.bits .or .u8 (byteN g) (shl .u8 1 (j : Int)) = byteN fun q => g q || j == q :=
  byte_or8 (g 0) (g 1) (g 2) (g 3) (g 4) (g 5) (g 6) (g 7) ⟨j, h⟩
theorem byte_at8 : ∀ (b0 b1 b2 b3 b4 b5 b6 b7 : Bool), (let v := b0.toInt + b1.toInt * 2 + b2.toInt * 4 + b3.toInt * 8 + b4.toInt * 16 + b5.toInt * 32 + b6.toInt * 64 + b7.toInt * 128
    0 ≤ v ∧ v < 256 ∧ (v / 2 ^ 0 % 2 = 1 ↔ b0 = true) ∧ (v / 2 ^ 1 % 2 = 1 ↔ b1 = true) ∧ (v / 2 ^ 2 % 2 = 1 ↔ b2 = true) ∧ (v / 2 ^ 3 % 2 = 1 ↔ b3 = true) ∧ (v / 2 ^ 4 % 2 = 1 ↔ b4 = true) ∧ (v / 2 ^ 5 % 2 = 1 ↔ b5 = true) ∧ (v / 2 ^ 6 % 2 = 1 ↔ b6 = true) ∧ (v / 2 ^ 7 % 2 = 1 ↔ b7 = true)) := by decide +kernel
theorem byteN_range (g : Nat → Bool) : 0 ≤ byteN g ∧ byteN g < 256 := by
  have h := byte_at8 (g 0) (g 1) (g 2) (g 3) (g 4) (g 5) (g 6) (g 7)
  exact ⟨h.1, h.2.1⟩
theorem byteN_bit (g : Nat → Bool) (j : Nat) (h : j < 8) : byteN g / 2 ^ j % 2 = 1 ↔ g j = true := by
  obtain ⟨_, _, h0, h1, h2, h3, h4, h5, h6, h7⟩ := byte_at8 (g 0) (g 1) (g 2) (g 3) (g 4) (g 5) (g 6) (g 7)
  match j, h with
  | 0, _ => exact h0
  | 1, _ => exact h1
  | 2, _ => exact h2
  | 3, _ => exact h3
  | 4, _ => exact h4
  | 5, _ => exact h5
  | 6, _ => exact h6
  | 7, _ => exact h7
theorem byteN_congr (g g' : Nat → Bool) (h : ∀ q, q < 8 → g q = g' q) : byteN g = byteN g' := by
  unfold byteN
  rw [h 0 (by omega), h 1 (by omega), h 2 (by omega), h 3 (by omega), h 4 (by omega), h 5 (by omega), h 6 (by omega), h 7 (by omega)]
/-- A filter of w bytes in which these positions are set. -/
def rowS (S : Nat → Bool) (w : Nat) : List Int := 1 :: (List.range w).map fun b => byteN fun q => S (8 * b + q)
theorem rowS_len (S : Nat → Bool) (w : Nat) : (rowS S w).length = w + 1 := by simp [rowS]
theorem rowS_at (S : Nat → Bool) (w b : Nat) (h : b < w) : (rowS S w)[b + 1]'(by rw [rowS_len]; omega) = byteN fun q => S (8 * b + q) := by simp [rowS]
theorem rowS_bytes (S : Nat → Bool) (w : Nat) : ∀ y ∈ rowS S w, 0 ≤ y ∧ y < 256 := by
  intro y hy
  rcases List.mem_cons.1 hy with rfl | hy
  · omega
  · obtain ⟨b, _, rfl⟩ := List.mem_map.1 hy
    exact byteN_range _
theorem rowS_none (w : Nat) : rowS (fun _ => false) w = 1 :: List.replicate w 0 := by
  unfold rowS
  congr 1
  refine List.ext_getElem (by simp) fun i h1 h2 => ?_
  simp [byteN]
theorem rowS_set (S : Nat → Bool) (w i : Nat) (h : i < 8 * w) : (rowS S w).set (1 + i / 8) (Go.bits .or .u8 (rd (rowS S w) ((1 + i / 8 : Nat) : Int)) (shl .u8 1 ((i % 8 : Nat) : Int))) = rowS (fun q => S q || i == q) w := by
  have hb : i / 8 < w := by omega
  have e : rd (rowS S w) ((1 + i / 8 : Nat) : Int) = byteN fun q => S (8 * (i / 8) + q) := by
    rw [rd_nat (by rw [rowS_len]; omega)]
    have := rowS_at S w (i / 8) hb
    simpa [Nat.add_comm] using this
  rw [e, byte_or _ _ (by omega)]
  refine List.ext_getElem (by simp [rowS_len]) fun q h1 h2 => ?_
  rw [List.getElem_set]
  by_cases c : 1 + i / 8 = q
  · subst c
    rw [if_pos rfl]
    have := rowS_at (fun q => S q || i == q) w (i / 8) hb
    have e2 : (rowS (fun q => S q || i == q) w)[1 + i / 8]'h2 = (rowS (fun q => S q || i == q) w)[i / 8 + 1]'(by rw [rowS_len]; omega) := by congr 1; omega
    rw [e2, this]
    refine byteN_congr _ _ fun q hq => ?_
    have hx : (i % 8 == q) = (i == 8 * (i / 8) + q) := by
      rw [Bool.eq_iff_iff, beq_iff_eq, beq_iff_eq]
      omega
    rw [hx]
  · rw [if_neg c]
    cases q with
    | zero => simp [rowS]
    | succ b =>
      have hb2 : b < w := by rw [rowS_len] at h2; omega
      rw [rowS_at S w b hb2, rowS_at _ w b hb2]
      refine byteN_congr _ _ fun q hq => ?_
      have hx : (i == 8 * b + q) = false := by
        rw [beq_eq_false_iff_ne]
        omega
      rw [hx, Bool.or_false]
theorem rowS_bits (S : Nat → Bool) (w : Nat) (h : 1 ≤ w) : bitsN (rowS S w) = ((8 * w : Nat) : Int) := by
  unfold bitsN
  rw [rowS_len, if_neg (by omega), if_pos (by simp [rowS, rd])]
  omega
theorem rowS_bit (S : Nat → Bool) (w : Nat) (x : Int) (h0 : 0 ≤ x) (h1 : x < 8 * (w : Int)) : bitAt (rowS S w) x = S x.toNat := by
  obtain ⟨i, rfl⟩ : ∃ i : Nat, x = (i : Int) := ⟨x.toNat, by omega⟩
  have hb : i / 8 < w := by omega
  unfold bitAt
  have e0 : (1 : Int) + (i : Int) / 8 = ((1 + i / 8 : Nat) : Int) := by omega
  have e1 : ((i : Int) % 8).toNat = i % 8 := by omega
  have e : rd (rowS S w) ((1 + i / 8 : Nat) : Int) = byteN fun q => S (8 * (i / 8) + q) := by
    rw [rd_nat (by rw [rowS_len]; omega)]
    have := rowS_at S w (i / 8) hb
    simpa [Nat.add_comm] using this
  rw [e0, e1, e, Int.toNat_natCast]
  have hx := byteN_bit (fun q => S (8 * (i / 8) + q)) (i % 8) (by omega)
  have e2 : 8 * (i / 8) + i % 8 = i := by omega
  rw [e2] at hx
  by_cases c : S i = true
  · rw [c]; exact decide_eq_true (hx.2 c)
  · rw [Bool.not_eq_true] at c
    rw [c]; exact decide_eq_false (fun h => by have := hx.1 h; rw [c] at this; cases this)
end Go.Proofs.Ytgfiapeinpcipaa.Pure
