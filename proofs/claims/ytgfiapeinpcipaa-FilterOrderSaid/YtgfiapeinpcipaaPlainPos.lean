/- Positions, bits and Maybe of a filter, the program's and the document's, in plain Lean. No condition. -/
import Derived.Test.YtgfiapeinpcipaaPlainPaths
import Derived.Test.YtgfiapeinpcipaaPlainSum
import Derived.Test.YtgfiapeinpcipaaMFx9
import Derived.Lib.Bytes
set_option linter.unusedVariables false
set_option linter.unusedSimpArgs false
namespace Go.Proofs.Ytgfiapeinpcipaa.Pure
open Go.RowKit Go.Proofs.Ytgfiapeinpcipaa.MF Go.Proofs.Ytgfiapeinpcipaa.Opening Go.Proofs.YtgfiapeinpcipaaW.PrintWords Go.Proofs.YtgfiapeinpcipaaW.PrintLast Go.Proofs.YtgfiapeinpcipaaW.PrintMore
def SPR (a b : Int) : Int := (sum_Spread.f a b).getD 0
theorem spr (a b : Int) : sum_Spread.f a b = some (SPR a b) := by unfold SPR sum_Spread.f; rfl
theorem spr_ref (a b : Int) : forebearref01_Spread.f a b = some (SPR a b) := by
  have e : forebearref01_Spread.f a b = sum_Spread.f a b := by
    unfold forebearref01_Spread.f sum_Spread.f
    rw [tdiv_u64 _ 1073741824 (by decide), tdiv_u64 _ 134217728 (by decide), tdiv_u64 _ 2147483648 (by decide)]
  rw [e, spr]
theorem spr_pos (a b : Int) : 0 ≤ SPR a b := by
  unfold SPR sum_Spread.f
  exact u64_lo _
theorem bytes_len (p : ByteArray) : (bytesOf p).length = p.size := by simp [bytesOf]
/-- The number i of a text's positions in m bits. -/
def posI (id m : Int) (i : Nat) : Int := SPR id i % m
theorem pos_range (id m : Int) (i : Nat) (hm : 1 ≤ m) : 0 ≤ posI id m i ∧ posI id m i < m := ⟨Int.emod_nonneg _ (by omega), Int.emod_lt_of_pos _ (by omega)⟩
def idP (l : List Int) : Int := idOf 9 [l]
def posL (id m : Int) : List Int := if m < 1 then [] else [posI id m 0, posI id m 1, posI id m 2]
theorem mod_is (s m : Int) (hs : 0 ≤ s) (h1 : 1 ≤ m) (h2 : m < 9223372036854775808) : wrap64 (Int.tmod s (IntKind.u64.wrap m)) = s % m := by
  have e : IntKind.u64.wrap m = m := u64_id (by omega) (by omega)
  rw [e, Int.tmod_eq_emod_of_nonneg hs]
  have := Int.emod_lt_of_pos s (show 0 < m by omega)
  have := Int.emod_nonneg s (show m ≠ 0 by omega)
  unfold wrap64; omega
theorem id_is (p : ByteArray) (hp : p.size ≤ 140737488351232) : Ev (fun k => (conv9_25.f p).bind fun t => sum_ID_v1_1.f k 9 t) (idP (bytesOf p)) := by
  have hl : (bytesOf p).length ≤ 9223372036854775807 := by rw [bytes_len]; omega
  refine Ev.congr (f := fun k => sum_ID.f k 9 [bytesOf p]) (fun k => ?_) (id_ev 9 [bytesOf p] (by simp) (by simpa using hl))
  show (convOf p).bind _ = _
  unfold convOf
  rw [if_pos (by omega)]; rfl
theorem refid_is (p : ByteArray) (hp : p.size ≤ 140737488351232) : Ev (fun k => (conv9_25.f p).bind fun t => forebearref01_ID.f k 9 t) (idP (bytesOf p)) := by
  have hl : (bytesOf p).length ≤ 9223372036854775807 := by rw [bytes_len]; omega
  refine Ev.congr (f := fun k => forebearref01_ID.f k 9 (bytesOf p)) (fun k => ?_) (refid_ev 9 (bytesOf p) hl)
  show (convOf p).bind _ = _
  unfold convOf
  rw [if_pos (by omega)]; rfl
theorem pos_step (id m : Int) (h1 : 1 ≤ m) (h2 : m < 9223372036854775808) (x : List Int) (hx : x.length = 3) (j : Nat) (hj : j < 3) (k : Nat) : filter_Positions.l0 (k + 1) m id x 3 (j : Int) = filter_Positions.l0 k m id (x.set j (posI id m j)) 3 ((j + 1 : Nat) : Int) := by
  simp only [filter_Positions.l0]
  rw [if_pos (by omega), spr, Option.bind_some, if_neg (by rw [u64_id (by omega) (by omega)]; omega), if_pos (by omega), if_pos (by omega), mod_is _ _ (spr_pos _ _) h1 h2, wnat hj (by omega)]
  rfl
theorem positions_ev (p : ByteArray) (hp : p.size ≤ 140737488351232) (m : Int) (hm : m < 9223372036854775808) : Ev (fun k => filter_Positions.f k p m) (posL (idP (bytesOf p)) m) := by
  unfold filter_Positions.f posL
  by_cases h1 : m < 1
  · refine Ev.congr (f := fun _ => some []) (fun k => ?_) (by rw [if_pos h1]; exact Ev.now [])
    rw [if_pos h1]
  · rw [if_neg h1]
    obtain ⟨K, hK⟩ := id_is p hp
    refine ⟨K + 4, fun k hk => ?_⟩
    dsimp only
    rw [if_neg h1]
    have e := hK k (by omega)
    dsimp only at e
    generalize idP (bytesOf p) = id at *
    rcases hc : conv9_25.f p with _ | t
    · rw [hc] at e; simp at e
    · rw [hc] at e
      rw [Option.bind_some] at e ⊢
      rw [e, Option.bind_some, if_pos (by omega), Option.bind_some]
      obtain ⟨k', rfl⟩ : ∃ k', k = k' + 4 := ⟨k - 4, by omega⟩
      have s0 := pos_step id m (by omega) hm [0, 0, 0] rfl 0 (by omega) (k' + 3)
      have s1 := pos_step id m (by omega) hm [posI id m 0, 0, 0] rfl 1 (by omega) (k' + 2)
      have s2 := pos_step id m (by omega) hm [posI id m 0, posI id m 1, 0] rfl 2 (by omega) (k' + 1)
      have s3 : filter_Positions.l0 (k' + 1) m id [posI id m 0, posI id m 1, posI id m 2] 3 ((3 : Nat) : Int) = some [posI id m 0, posI id m 1, posI id m 2] := by
        simp only [filter_Positions.l0]
        rw [if_neg (by omega)]
      exact s0.trans (s1.trans (s2.trans s3))
theorem refpos_step (id m : Int) (h1 : 1 ≤ m) (h2 : m < 9223372036854775808) (x : List Int) (hx : x.length ≤ 3) (j : Nat) (hj : j < 3) (k : Nat) : forebearref11_Positions.l0 (k + 1) m x id (j : Int) = forebearref11_Positions.l0 k m (x ++ [posI id m j]) id ((j + 1 : Nat) : Int) := by
  simp only [forebearref11_Positions.l0]
  rw [if_pos (by omega), if_pos (by omega), spr_ref, Option.bind_some, if_neg (by rw [u64_id (by omega) (by omega)]; omega), if_pos (by omega), mod_is _ _ (spr_pos _ _) h1 h2, wnat hj (by omega)]
  rfl
theorem refpositions_ev (p : ByteArray) (hp : p.size ≤ 140737488351232) (m : Int) (hm : m < 9223372036854775808) : Ev (fun k => forebearref11_Positions.f k p m) (posL (idP (bytesOf p)) m) := by
  unfold forebearref11_Positions.f posL
  obtain ⟨K, hK⟩ := refid_is p hp
  refine ⟨K + 4, fun k hk => ?_⟩
  dsimp only
  have e := hK k (by omega)
  dsimp only at e
  generalize idP (bytesOf p) = id at *
  rcases hc : conv9_25.f p with _ | t
  · rw [hc] at e; simp at e
  · rw [hc] at e
    rw [Option.bind_some] at e ⊢
    rw [e, Option.bind_some]
    obtain ⟨k', rfl⟩ : ∃ k', k = k' + 4 := ⟨k - 4, by omega⟩
    by_cases h1 : m < 1
    · rw [if_pos h1]
      simp only [forebearref11_Positions.l0]
      rw [if_pos (by omega), if_neg (by omega)]
    · rw [if_neg h1]
      have s0 := refpos_step id m (by omega) hm [] (by simp) 0 (by omega) (k' + 3)
      have s1 := refpos_step id m (by omega) hm [posI id m 0] (by simp) 1 (by omega) (k' + 2)
      have s2 := refpos_step id m (by omega) hm [posI id m 0, posI id m 1] (by simp) 2 (by omega) (k' + 1)
      have s3 : forebearref11_Positions.l0 (k' + 1) m [posI id m 0, posI id m 1, posI id m 2] id ((3 : Nat) : Int) = some [posI id m 0, posI id m 1, posI id m 2] := by
        simp only [forebearref11_Positions.l0]
        rw [if_neg (by omega)]
      exact s0.trans (s1.trans (s2.trans s3))
theorem posL_range (id m : Int) : ∀ x ∈ posL id m, 0 ≤ x ∧ x < m := by
  intro x hx
  unfold posL at hx
  by_cases h : m < 1
  · rw [if_pos h] at hx; simp at hx
  · rw [if_neg h] at hx
    simp only [List.mem_cons, List.not_mem_nil, or_false] at hx
    rcases hx with rfl | rfl | rfl <;> exact pos_range _ _ _ (by omega)
theorem posL_len (id m : Int) (h : 1 ≤ m) : (posL id m).length = 3 := by unfold posL; rw [if_neg (by omega)]; rfl
theorem posL_le (id m : Int) : (posL id m).length ≤ 3 := by unfold posL; split <;> simp
/-- How many bits. -/
def bitsN (l : List Int) : Int := if l.length < 2 then 0 else if rd l 0 = 1 then 8 * ((l.length : Int) - 1) else 0
theorem bits_f (l : List Int) (h : l.length ≤ 140737488355328) : filter_Bits.f l = some (bitsN l) := by
  unfold filter_Bits.f bitsN
  by_cases c : l.length < 2
  · rw [if_pos (by omega), if_pos c]
  · rw [if_neg (by omega), if_neg c, if_pos (by omega)]
    by_cases c2 : rd l 0 = 1
    · rw [if_pos c2, if_pos c2]
      have : wrap64 ((l.length : Int) - 1) = (l.length : Int) - 1 := by unfold wrap64; omega
      rw [this]
      have : wrap64 (8 * ((l.length : Int) - 1)) = 8 * ((l.length : Int) - 1) := by unfold wrap64; omega
      rw [this]
    · rw [if_neg c2, if_neg c2]
/-- The bit i of a filter. -/
def bitAt (l : List Int) (i : Int) : Bool := decide (rd l (1 + i / 8) / 2 ^ (i % 8).toNat % 2 = 1)
def mayL (l : List Int) (ps : List Int) : Bool := ps.all (bitAt l)
theorem byte_bit : ∀ (b : Fin 256) (j : Fin 8), (Go.bits .and .u8 (shr .u8 (b.val : Int) (j.val : Int)) 1 = 0) ↔ ¬ ((b.val : Int) / 2 ^ j.val % 2 = 1) := by decide +kernel
theorem may_l0 (l : List Int) (hl : ∀ y ∈ l, 0 ≤ y ∧ y < 256) (hs : l.length ≤ 140737488355328) (ps : List Int) (hr : ∀ x ∈ ps, 0 ≤ x ∧ x < 8 * ((l.length : Int) - 1)) (hp : ps.length ≤ 100) : ∀ (d i k : Nat), i + d = ps.length → d + 1 ≤ k → filter_Maybe.l0 k l ps (ps.length : Int) (i : Int) = some (mayL l (ps.drop i)) := by
  intro d
  induction d with
  | zero =>
    intro i k hi hk
    obtain ⟨k, rfl⟩ : ∃ k', k = k' + 1 := ⟨k - 1, by omega⟩
    simp only [filter_Maybe.l0]
    rw [if_neg (by omega), List.drop_eq_nil_of_le (by omega)]; rfl
  | succ d ih =>
    intro i k hi hk
    obtain ⟨k, rfl⟩ : ∃ k', k = k' + 1 := ⟨k - 1, by omega⟩
    have hil : i < ps.length := by omega
    obtain ⟨r0, r1⟩ := hr _ (List.getElem_mem hil)
    simp only [filter_Maybe.l0]
    rw [rd_nat hil]
    rw [List.drop_eq_getElem_cons hil]
    generalize ps[i] = x at *
    have d0 : Int.tdiv x 8 = x / 8 := Int.tdiv_eq_ediv_of_nonneg r0
    have m0 : Int.tmod x 8 = x % 8 := Int.tmod_eq_emod_of_nonneg r0
    have w0 : wrap64 (x / 8) = x / 8 := by unfold wrap64; omega
    have w1 : wrap64 (1 + x / 8) = 1 + x / 8 := by unfold wrap64; omega
    rw [d0, m0, w0, w1, if_pos (by omega), if_pos (by omega), if_pos (by omega), if_pos (by omega), if_pos (by omega), if_pos (by omega), wnat hil (by omega), ih (i + 1) k (by omega) (by omega)]
    have hb : 0 ≤ rd l (1 + x / 8) ∧ rd l (1 + x / 8) < 256 := by
      have hlt : (1 + x / 8).toNat < l.length := by omega
      have : rd l (1 + x / 8) = l[(1 + x / 8).toNat] := by simp [rd, hlt]
      rw [this]; exact hl _ (List.getElem_mem hlt)
    have key := byte_bit ⟨(rd l (1 + x / 8)).toNat, by omega⟩ ⟨(x % 8).toNat, by omega⟩
    have e1 : (((rd l (1 + x / 8)).toNat : Nat) : Int) = rd l (1 + x / 8) := by omega
    have e2 : (((x % 8).toNat : Nat) : Int) = x % 8 := by omega
    simp only [e1, e2] at key
    show (if _ then _ else _) = some (bitAt l x && mayL l (ps.drop (i + 1)))
    by_cases c : rd l (1 + x / 8) / 2 ^ (x % 8).toNat % 2 = 1
    · rw [if_neg (fun h => key.1 h c)]
      simp [bitAt, c]
    · rw [if_pos (key.2 c)]
      simp [bitAt, c]
theorem bitsN_lt (l : List Int) (h : l.length ≤ 140737488355328) : bitsN l < 9223372036854775808 := by unfold bitsN; split; omega; split <;> omega
theorem bitsN_le (l : List Int) : bitsN l ≤ 8 * ((l.length : Int) - 1) ∨ bitsN l = 0 := by unfold bitsN; split; exact .inr rfl; split; exact .inl (by omega); exact .inr rfl
theorem pos_in (l : List Int) (id : Int) : ∀ x ∈ posL id (bitsN l), 0 ≤ x ∧ x < 8 * ((l.length : Int) - 1) := by
  intro x hx
  have := posL_range _ _ x hx
  rcases bitsN_le l with h | h <;> omega
theorem maybe_ev (l : List Int) (hl : ∀ y ∈ l, 0 ≤ y ∧ y < 256) (hs : l.length ≤ 140737488355328) (p : ByteArray) (hp : p.size ≤ 140737488351232) : Ev (fun k => filter_Maybe.f k l p) (mayL l (posL (idP (bytesOf p)) (bitsN l))) := by
  unfold filter_Maybe.f
  rw [bits_f l hs]
  simp only [Option.bind_some]
  refine Ev.bind (positions_ev p hp _ (bitsN_lt l hs)) ⟨10, fun k hk => ?_⟩
  have h3 := posL_le (idP (bytesOf p)) (bitsN l)
  have := may_l0 l hl hs (posL (idP (bytesOf p)) (bitsN l)) (pos_in l _) (by omega) (posL (idP (bytesOf p)) (bitsN l)).length 0 k (by omega) (by omega)
  simpa using this
/-- The document's halves. -/
theorem halves (b : Nat) (h : b < 256) : (Int.tdiv (b : Int) 2) % 256 = ((b / 2 : Nat) : Int) := by
  rw [Int.tdiv_eq_ediv_of_nonneg (by omega)]; omega
theorem refmay_l1 (x0 : ByteArray) (ps : List Int) (i : Nat) (hi : i < ps.length) (hx : 0 ≤ ps[i]) (hp : ps.length ≤ 100) : ∀ (d j : Nat) (b : Nat) (k : Nat), b < 256 → j + d = (ps[i] % 8).toNat →
    forebearref11_Maybe.l1 (k + d + 1) x0 ps (i : Int) (b : Int) (j : Int) = if b / 2 ^ d % 2 = 1 then forebearref11_Maybe.l0 k x0 ps ((i + 1 : Nat) : Int) else some false := by
  have m0 : Int.tmod ps[i] 8 = ps[i] % 8 := Int.tmod_eq_emod_of_nonneg hx
  intro d
  induction d with
  | zero =>
    intro j b k hb hj
    simp only [forebearref11_Maybe.l1]
    rw [rd_nat hi, m0, if_pos (by omega), if_pos (by omega), if_neg (by omega), wnat hi (by omega)]
    have e : Int.tmod (b : Int) 2 = ((b % 2 : Nat) : Int) := by rw [Int.tmod_eq_emod_of_nonneg (by omega)]; omega
    rw [e, Nat.pow_zero, Nat.div_one]
    by_cases c : b % 2 = 1
    · rw [if_neg (by omega), if_pos c]
    · rw [if_pos (by omega), if_neg c]
  | succ d ih =>
    intro j b k hb hj
    obtain ⟨K1, hK⟩ : ∃ K1, K1 = k + d + 1 := ⟨_, rfl⟩
    have hh := halves b hb
    have g0 : (0 : Int) ≤ (i : Int) := by omega
    have g1 : (i : Int) < (ps.length : Int) := by omega
    have g2 : (j : Int) < ps[i] % 8 := by omega
    have ih' := ih (j + 1) (b / 2) k (by omega) (by omega)
    rw [show k + (d + 1) + 1 = K1 + 1 from by omega]
    simp only [forebearref11_Maybe.l1]
    have wj : wrap64 ((j : Int) + 1) = ((j + 1 : Nat) : Int) := by unfold wrap64; omega
    rw [rd_nat hi, m0, if_pos g0, if_pos g1, if_pos g2, hh, wj, hK, ih']
    rw [Nat.div_div_eq_div_mul, Nat.pow_succ, Nat.mul_comm]
theorem str_bt (l : List Int) (hl : ∀ y ∈ l, 0 ≤ y ∧ y < 256) (i : Nat) (h : i < l.length) : bt (strOfNums l) (i : Int) = l[i] := by
  have hs : i < (strOfNums l).size := by rw [strOfNums_size]; exact h
  obtain ⟨a, b⟩ := hl _ (List.getElem_mem h)
  have e := bt_at (strOfNums l) (i : Int) (by simpa using hs)
  rw [← e]
  have e2 : (strOfNums l)[(i : Int).toNat]'(by simpa using hs) = UInt8.ofNat (l[i]).toNat := by
    simp [strOfNums, ByteArray.getElem_eq_getElem_data]
  rw [e2, UInt8.toNat_ofNat']
  omega
theorem refmay_l0 (l : List Int) (hl : ∀ y ∈ l, 0 ≤ y ∧ y < 256) (hs : l.length ≤ 140737488355328) (ps : List Int) (hr : ∀ x ∈ ps, 0 ≤ x ∧ x < 8 * ((l.length : Int) - 1)) (hp : ps.length ≤ 100) : ∀ (d i : Nat), i + d = ps.length → Ev (fun k => forebearref11_Maybe.l0 k (strOfNums l) ps (i : Int)) (mayL l (ps.drop i)) := by
  intro d
  induction d with
  | zero =>
    intro i hi
    refine Ev.step (f := fun _ => some true) (fun k => ?_) ?_
    · simp only [forebearref11_Maybe.l0]
      rw [if_neg (by omega)]
    · rw [List.drop_eq_nil_of_le (by omega)]; exact Ev.now true
  | succ d ih =>
    intro i hi
    have hil : i < ps.length := by omega
    obtain ⟨r0, r1⟩ := hr _ (List.getElem_mem hil)
    obtain ⟨K, hK⟩ := ih (i + 1) (by omega)
    have hlt : (1 + ps[i] / 8).toNat < l.length := by omega
    obtain ⟨b0, b1⟩ := hl _ (List.getElem_mem hlt)
    have hb : bt (strOfNums l) (1 + ps[i] / 8) = ((l[(1 + ps[i] / 8).toNat].toNat : Nat) : Int) := by
      have := str_bt l hl (1 + ps[i] / 8).toNat hlt
      rw [show (((1 + ps[i] / 8).toNat : Nat) : Int) = 1 + ps[i] / 8 from by omega] at this
      rw [this]; omega
    have hrd : rd l (1 + ps[i] / 8) = ((l[(1 + ps[i] / 8).toNat].toNat : Nat) : Int) := by
      have : rd l (1 + ps[i] / 8) = l[(1 + ps[i] / 8).toNat] := by simp [rd, hlt]
      rw [this]; omega
    have d0 : Int.tdiv ps[i] 8 = ps[i] / 8 := Int.tdiv_eq_ediv_of_nonneg r0
    have w0 : wrap64 (ps[i] / 8) = ps[i] / 8 := by unfold wrap64; omega
    have w1 : wrap64 (1 + ps[i] / 8) = 1 + ps[i] / 8 := by unfold wrap64; omega
    have g2 : (0 : Int) ≤ 1 + ps[i] / 8 := by omega
    have g3 : 1 + ps[i] / 8 < ((strOfNums l).size : Int) := by rw [strOfNums_size]; omega
    generalize hb' : l[(1 + ps[i] / 8).toNat].toNat = b at *
    have z := refmay_l1 (strOfNums l) ps i hil r0 hp (ps[i] % 8).toNat 0 b
    refine Ev.step (f := fun k => forebearref11_Maybe.l1 k (strOfNums l) ps (i : Int) (b : Int) 0) (fun k => ?_) ⟨K + (ps[i] % 8).toNat + 1, fun k hk => ?_⟩
    · simp only [forebearref11_Maybe.l0]
      rw [rd_nat hil, if_pos (by omega), if_pos (by omega), d0, w0, w1, if_pos g2, if_pos g3, hb]
    · obtain ⟨k', rfl⟩ : ∃ k', k = k' + (ps[i] % 8).toNat + 1 := ⟨k - (ps[i] % 8).toNat - 1, by omega⟩
      have hbl : b < 256 := by omega
      have e := z k' hbl (by omega)
      have hk' := hK k' (by omega)
      dsimp only at hk' ⊢
      rw [show ((0 : Nat) : Int) = 0 from rfl] at e
      rw [e, hk', List.drop_eq_getElem_cons hil]
      have hbit : bitAt l ps[i] = decide (b / 2 ^ (ps[i] % 8).toNat % 2 = 1) := by
        unfold bitAt
        rw [hrd]
        refine decide_eq_decide.2 ?_
        have : ((b : Int) / 2 ^ (ps[i] % 8).toNat % 2) = ((b / 2 ^ (ps[i] % 8).toNat % 2 : Nat) : Int) := by push_cast; rfl
        rw [this]; omega
      show _ = some (bitAt l ps[i] && mayL l (ps.drop (i + 1)))
      rw [hbit]
      by_cases c : b / 2 ^ (ps[i] % 8).toNat % 2 = 1
      · rw [if_pos c, decide_eq_true c, Bool.true_and]
      · rw [if_neg c, decide_eq_false c, Bool.false_and]
theorem refbits_f (l : List Int) (hl : ∀ y ∈ l, 0 ≤ y ∧ y < 256) (h : l.length ≤ 140737488355328) : forebearref11_Bits.f (strOfNums l) = some (bitsN l) := by
  unfold forebearref11_Bits.f bitsN
  rw [strOfNums_size]
  by_cases c : l.length < 2
  · rw [if_pos (by omega), if_pos c]
  · have e : bt (strOfNums l) 0 = rd l 0 := by
      have := str_bt l hl 0 (by omega)
      rw [show (0 : Int) = ((0 : Nat) : Int) from rfl, this, rd_nat (by omega)]
    rw [if_neg (by omega), if_neg c, if_pos (by omega), e]
    by_cases c2 : rd l 0 = 1
    · rw [if_pos c2, if_pos c2]
      have : wrap64 ((l.length : Int) - 1) = (l.length : Int) - 1 := by unfold wrap64; omega
      rw [this]
      have : wrap64 (8 * ((l.length : Int) - 1)) = 8 * ((l.length : Int) - 1) := by unfold wrap64; omega
      rw [this]
    · rw [if_neg c2, if_neg c2]
theorem refmaybe_ev (l : List Int) (hl : ∀ y ∈ l, 0 ≤ y ∧ y < 256) (hs : l.length ≤ 140737488355328) (p : ByteArray) (hp : p.size ≤ 140737488351232) : Ev (fun k => forebearref11_Maybe.f k (strOfNums l) p) (mayL l (posL (idP (bytesOf p)) (bitsN l))) := by
  unfold forebearref11_Maybe.f
  rw [refbits_f l hl hs]
  simp only [Option.bind_some]
  refine Ev.bind (refpositions_ev p hp _ (bitsN_lt l hs)) ?_
  have h3 := posL_le (idP (bytesOf p)) (bitsN l)
  have := refmay_l0 l hl hs (posL (idP (bytesOf p)) (bitsN l)) (pos_in l _) (by omega) (posL (idP (bytesOf p)) (bitsN l)).length 0 (by omega)
  simpa using this
end Go.Proofs.Ytgfiapeinpcipaa.Pure
