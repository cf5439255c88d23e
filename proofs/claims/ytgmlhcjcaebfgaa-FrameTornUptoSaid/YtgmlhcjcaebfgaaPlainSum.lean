/- Plain facts of the package sum's functions and of their references: numbers of 64 and of 32 bits, the check sum's table against its bits. No condition. -/
import Derived.Test.YtgmlhcjcaebfgaaMAx0
import Derived.Test.YtgmlhcjcaebfgaaMAx1
import Derived.Test.YtgmlhcjcaebfgaaMAx2
import Derived.Laws.BitsLemmas
namespace Go.Proofs.Ytgmlhcjcaebfgaa.Pure
open Go.RowKit Go.Proofs.Ytgmlhcjcaebfgaa.Opening Go.Proofs.Ytgmlhcjcaebfgaa.MA Go.Proofs.YtgmlhcjcaebfgaaW.PrintWords Go.Proofs.YtgmlhcjcaebfgaaW.PrintLast Go.Proofs.YtgmlhcjcaebfgaaW.PrintMore

theorem wrap_u64 (n : Int) : IntKind.u64.wrap n = n % 18446744073709551616 := by simp [IntKind.wrap, IntKind.bits, IntKind.signed]
theorem u64_lo (n : Int) : 0 ≤ IntKind.u64.wrap n := by rw [wrap_u64]; omega
theorem u64_hi (n : Int) : IntKind.u64.wrap n < 18446744073709551616 := by rw [wrap_u64]; omega
theorem u64_id {n : Int} (h0 : 0 ≤ n) (h1 : n < 18446744073709551616) : IntKind.u64.wrap n = n := by rw [wrap_u64]; omega
theorem u32_lo (n : Int) : 0 ≤ IntKind.u32.wrap n := by rw [IntKind.wrap_u32]; omega
theorem u32_hi (n : Int) : IntKind.u32.wrap n < 4294967296 := by rw [IntKind.wrap_u32]; omega
theorem tdiv_u64 (n c : Int) (hc : 0 < c) : IntKind.u64.wrap (Int.tdiv (IntKind.u64.wrap n) c) = IntKind.u64.wrap n / c := by
  have h0 := u64_lo n
  have h1 := u64_hi n
  rw [Int.tdiv_eq_ediv_of_nonneg h0]
  refine u64_id (Int.ediv_nonneg h0 (by omega)) ?_
  exact Int.lt_of_le_of_lt (Int.ediv_le_self _ h0) h1
theorem wrap_succ {i : Nat} (h : i < 9223372036854775807) : wrap64 ((i : Int) + 1) = ((i + 1 : Nat) : Int) := by unfold wrap64; omega
theorem rd_nat {p : List Int} {j : Nat} (h : j < p.length) : rd p (j : Int) = p[j] := by simp [rd, h]
theorem rdL_nat {p : List (List Int)} {j : Nat} (h : j < p.length) : rd_L1 p (j : Int) = p[j] := by simp [rd_L1, h]
theorem u8_range {l : List Int} (h : ∀ y ∈ l, (Lit.int .u8 y).wf = true) : ∀ y ∈ l, 0 ≤ y ∧ y < 256 := by
  intro y hy
  have h2 := h y hy
  simp only [Lit.wf, IntKind.min, IntKind.max, IntKind.signed, IntKind.bits] at h2
  simp at h2
  omega

/-! ### The ID -/
def fnv (h : Int) (p : List Int) : Int := p.foldl (fun h c => IntKind.u64.wrap ((Go.bits .xor .u64 h (IntKind.u64.wrap c)) * 1099511628211)) h
theorem id_l1 (ps : List (List Int)) (n i : Int) (p : List Int) (hp : p.length ≤ 9223372036854775807) (r : Int) : ∀ (d j : Nat) (h : Int), j + d = p.length →
    Ev (fun k => sum_ID.l0 k (fnv h (p.drop j)) ps n (wrap64 (i + 1))) r → Ev (fun k => sum_ID.l1 k h ps n i p (p.length : Int) (j : Int)) r := by
  intro d
  induction d with
  | zero =>
    intro j h hj he
    refine Ev.step (f := fun k => sum_ID.l0 k h ps n (wrap64 (i + 1))) (fun k => ?_) ?_
    · simp only [sum_ID.l1]; rw [if_neg (by omega)]
    · rw [List.drop_eq_nil_of_le (by omega)] at he; exact he
  | succ d ih =>
    intro j h hj he
    have hlt : j < p.length := by omega
    refine Ev.step (f := fun k => sum_ID.l1 k (IntKind.u64.wrap ((Go.bits .xor .u64 h (IntKind.u64.wrap p[j])) * 1099511628211)) ps n i p (p.length : Int) ((j + 1 : Nat) : Int)) (fun k => ?_) ?_
    · simp only [sum_ID.l1]; rw [if_pos (by omega), if_pos (by omega), if_pos (by omega), wrap_succ (by omega), rd_nat hlt]
    · refine ih (j + 1) _ (by omega) ?_
      rw [List.drop_eq_getElem_cons hlt] at he
      exact he
theorem id_l0 (ps : List (List Int)) (hps : ps.length ≤ 9223372036854775807) (hp : ∀ p ∈ ps, p.length ≤ 9223372036854775807) : ∀ (d i : Nat) (h : Int), i + d = ps.length →
    Ev (fun k => sum_ID.l0 k h ps (ps.length : Int) (i : Int)) ((ps.drop i).foldl fnv h) := by
  intro d
  induction d with
  | zero =>
    intro i h hi
    refine Ev.step (f := fun _ => some h) (fun k => ?_) ?_
    · simp only [sum_ID.l0]; rw [if_neg (by omega)]
    · rw [List.drop_eq_nil_of_le (by omega)]; exact Ev.now h
  | succ d ih =>
    intro i h hi
    have hlt : i < ps.length := by omega
    refine Ev.step (f := fun k => sum_ID.l1 k h ps (ps.length : Int) (i : Int) ps[i] (ps[i].length : Int) ((0 : Nat) : Int)) (fun k => ?_) ?_
    · simp only [sum_ID.l0]; rw [if_pos (by omega), if_pos (by omega), if_pos (by omega), rdL_nat hlt]; rfl
    · refine id_l1 ps _ _ ps[i] (hp _ (List.getElem_mem hlt)) _ ps[i].length 0 h (by omega) ?_
      rw [wrap_succ (by omega), List.drop_eq_getElem_cons hlt]
      exact ih (i + 1) (fnv h ps[i]) (by omega)
def idOf (a : Int) (ps : List (List Int)) : Int := ps.foldl fnv (IntKind.u64.wrap ((Go.bits .xor .u64 14695981039346656037 (a % 256)) * 1099511628211))
theorem id_ev (a : Int) (ps : List (List Int)) (hps : ps.length ≤ 9223372036854775807) (hp : ∀ p ∈ ps, p.length ≤ 9223372036854775807) : Ev (fun k => sum_ID.f k a ps) (idOf a ps) := by
  have h := id_l0 ps hps hp ps.length 0 (IntKind.u64.wrap ((Go.bits .xor .u64 14695981039346656037 (a % 256)) * 1099511628211)) (by omega)
  rw [List.drop_zero] at h
  exact h
theorem fnv_append (h : Int) (p q : List Int) : fnv h (p ++ q) = fnv (fnv h p) q := by unfold fnv; rw [List.foldl_append]
theorem idOf_flatten (a : Int) (ps : List (List Int)) : idOf a ps = idOf a [ps.flatten] := by
  unfold idOf
  have : ∀ (ps : List (List Int)) (h : Int), ps.foldl fnv h = fnv h ps.flatten := by
    intro ps
    induction ps with
    | nil => intro h; rfl
    | cons p ps ih => intro h; rw [List.foldl_cons, ih, List.flatten_cons, fnv_append]
  rw [this]
  rfl
theorem refid_l0 (p : List Int) (hp : p.length ≤ 9223372036854775807) : ∀ (d j : Nat) (h : Int), j + d = p.length →
    Ev (fun k => forebearref01_ID.l0 k p h (j : Int)) (fnv h (p.drop j)) := by
  intro d
  induction d with
  | zero =>
    intro j h hj
    refine Ev.step (f := fun _ => some h) (fun k => ?_) ?_
    · simp only [forebearref01_ID.l0]; rw [if_neg (by omega)]
    · rw [List.drop_eq_nil_of_le (by omega)]; exact Ev.now h
  | succ d ih =>
    intro j h hj
    have hlt : j < p.length := by omega
    refine Ev.step (f := fun k => forebearref01_ID.l0 k p (IntKind.u64.wrap ((Go.bits .xor .u64 h (IntKind.u64.wrap p[j])) * 1099511628211)) ((j + 1 : Nat) : Int)) (fun k => ?_) ?_
    · simp only [forebearref01_ID.l0]; rw [if_pos (by omega), if_pos (by omega), wrap_succ (by omega), rd_nat hlt]
    · rw [List.drop_eq_getElem_cons hlt]
      exact ih (j + 1) _ (by omega)
theorem and255 (a : Int) : IntKind.u64.wrap (Go.bits .and .i64 a 255) = a % 256 := by
  have h : (BitVec.ofInt 64 a &&& BitVec.ofInt 64 255).toNat = (a % 256).toNat := by
    rw [BitVec.toNat_and, show (BitVec.ofInt 64 255).toNat = 2 ^ 8 - 1 from rfl, Nat.and_two_pow_sub_one_eq_mod, BitVec.toNat_ofInt]
    omega
  have e : Go.bits .and .i64 a 255 = IntKind.i64.wrap ((BitVec.ofInt 64 a &&& BitVec.ofInt 64 255).toNat : Int) := rfl
  rw [e, h, IntKind.wrap_i64, wrap_u64]
  omega
theorem refid_ev (a : Int) (p : List Int) (hp : p.length ≤ 9223372036854775807) : Ev (fun k => forebearref01_ID.f k a p) (idOf a [p]) := by
  have h := refid_l0 p hp p.length 0 (IntKind.u64.wrap ((Go.bits .xor .u64 14695981039346656037 (a % 256)) * 1099511628211)) (by omega)
  rw [List.drop_zero] at h
  refine Ev.congr (fun k => ?_) h
  unfold forebearref01_ID.f
  rw [and255]
  rfl
theorem awake_ev : Ev (fun k => forebearlaw01_awake.f k) true := Ev.of (fun k => forebearlaw01_awake.mono k) (k := 40) (by decide +kernel)
/-! ### The check sum: four bits at a time against one -/
theorem bits_xor_nat {k : IntKind} {j : Nat} (hj : k.bits = j) (hk : ∀ n : Int, 0 ≤ n → n < 2 ^ j → k.wrap n = n) (a b : Nat) (ha : a < 2 ^ j) (hb : b < 2 ^ j) : Go.bits .xor k a b = ((a ^^^ b : Nat) : Int) := by
  subst hj
  have ha' : a % 2 ^ k.bits = a := Nat.mod_eq_of_lt ha
  have hb' : b % 2 ^ k.bits = b := Nat.mod_eq_of_lt hb
  have e : Go.bits .xor k a b = k.wrap ((BitVec.ofInt k.bits a ^^^ BitVec.ofInt k.bits b).toNat : Int) := rfl
  rw [e, BitVec.ofInt_natCast, BitVec.ofInt_natCast, BitVec.toNat_xor, BitVec.toNat_ofNat, BitVec.toNat_ofNat, ha', hb']
  exact hk _ (Int.natCast_nonneg _) (by exact_mod_cast Nat.xor_lt_two_pow ha hb)
theorem xor_u32 (a b : Nat) (ha : a < 4294967296) (hb : b < 4294967296) : Go.bits .xor .u32 (a : Int) (b : Int) = ((a ^^^ b : Nat) : Int) :=
  bits_xor_nat (k := .u32) (j := 32) rfl (fun n h0 h1 => by rw [IntKind.wrap_u32]; omega) a b ha hb
theorem xor_u64 (a b : Nat) (ha : a < 18446744073709551616) (hb : b < 18446744073709551616) : Go.bits .xor .u64 (a : Int) (b : Int) = ((a ^^^ b : Nat) : Int) :=
  bits_xor_nat (k := .u64) (j := 64) rfl (fun n h0 h1 => by rw [wrap_u64]; omega) a b ha hb
theorem and15_u32 (a : Nat) (ha : a < 4294967296) : Go.bits .and .u32 (a : Int) 15 = ((a % 16 : Nat) : Int) := by
  have h := bits_mask .u32 32 (by decide) (fun n h0 h1 => by rw [IntKind.wrap_u32]; omega) 4 (by decide) (a : Int) (by omega) (by omega)
  simpa using h
/-- One bit. -/
def nb (c : Nat) : Nat := if c % 2 = 1 then c / 2 ^^^ 3988292384 else c / 2
theorem nb_xor (a b : Nat) : nb (a ^^^ b) = nb a ^^^ nb b := by
  unfold nb
  rw [Nat.xor_div_two]
  rcases Nat.mod_two_eq_zero_or_one a with ha | ha <;> rcases Nat.mod_two_eq_zero_or_one b with hb | hb
  · rw [if_neg (by rw [Nat.xor_mod_two_eq_one]; simp [ha, hb]), if_neg (by omega), if_neg (by omega)]
  · rw [if_pos (by rw [Nat.xor_mod_two_eq_one]; simp [ha, hb]), if_neg (by omega), if_pos (by omega), Nat.xor_assoc]
  · rw [if_pos (by rw [Nat.xor_mod_two_eq_one]; simp [ha, hb]), if_pos (by omega), if_neg (by omega), Nat.xor_assoc, Nat.xor_assoc, Nat.xor_comm (b / 2)]
  · rw [if_neg (by rw [Nat.xor_mod_two_eq_one]; simp [ha, hb]), if_pos (by omega), if_pos (by omega), Nat.xor_assoc, ← Nat.xor_assoc 3988292384, Nat.xor_comm 3988292384, Nat.xor_assoc (b / 2), Nat.xor_self, Nat.xor_zero]
theorem nb_lt {c : Nat} (h : c < 4294967296) : nb c < 4294967296 := by
  unfold nb
  split
  · exact Nat.xor_lt_two_pow (n := 32) (by omega) (by omega)
  · omega
def nb4 (c : Nat) : Nat := nb (nb (nb (nb c)))
theorem nb4_xor (a b : Nat) : nb4 (a ^^^ b) = nb4 a ^^^ nb4 b := by unfold nb4; rw [nb_xor, nb_xor, nb_xor, nb_xor]
theorem nb_even (h : Nat) : nb (2 * h) = h := by unfold nb; rw [if_neg (by omega)]; omega
theorem nb4_high (h : Nat) : nb4 (16 * h) = h := by
  unfold nb4
  rw [show 16 * h = 2 * (2 * (2 * (2 * h))) by omega, nb_even, nb_even, nb_even, nb_even]
theorem split16 (c : Nat) : c = (16 * (c / 16)) ^^^ (c % 16) := by
  apply Nat.eq_of_testBit_eq
  intro j
  have h1 : c = 2 ^ 4 * (c / 16) + c % 16 := by omega
  have h2 : c % 16 < 2 ^ 4 := by omega
  rw [Nat.testBit_xor]
  conv => lhs; rw [h1]
  rw [Nat.testBit_two_pow_mul_add _ h2, show 16 * (c / 16) = 2 ^ 4 * (c / 16) from rfl, Nat.testBit_two_pow_mul]
  by_cases hj : j < 4
  · rw [if_pos hj]
    simp [show ¬ (4 ≤ j) by omega]
  · rw [if_neg hj, Nat.testBit_lt_two_pow (show c % 16 < 2 ^ j from Nat.lt_of_lt_of_le h2 (Nat.pow_le_pow_right (by decide) (by omega)))]
    simp [show 4 ≤ j by omega]
theorem nb4_split (c : Nat) : nb4 c = c / 16 ^^^ nb4 (c % 16) := by
  conv => lhs; rw [split16 c]
  rw [nb4_xor, nb4_high]
theorem tab_nb4 : ∀ n : Nat, n < 16 → rd crcTab (n : Int) = (nb4 n : Int) := by decide
theorem nb4_lt {c : Nat} (h : c < 4294967296) : nb4 c < 4294967296 := nb_lt (nb_lt (nb_lt (nb_lt h)))
/-- A byte, both ways. -/
def nb8 (c : Nat) : Nat := nb4 (nb4 c)
theorem nb8_lt {c : Nat} (h : c < 4294967296) : nb8 c < 4294967296 := nb4_lt (nb4_lt h)
theorem half_nat (c : Nat) (hc : c < 4294967296) : Go.bits .xor .u32 ((c : Int) / 16) (rd crcTab (Go.bits .and .u32 (c : Int) 15)) = (nb4 c : Int) := by
  rw [and15_u32 c hc, tab_nb4 _ (by omega), show (c : Int) / 16 = ((c / 16 : Nat) : Int) by omega, xor_u32 _ _ (by omega) (nb4_lt (by omega)), ← nb4_split]
theorem crcByte_nat (c x : Nat) (hc : c < 4294967296) : crcByte (c : Int) (x : Int) = (nb8 (c ^^^ x % 4294967296) : Int) := by
  unfold crcByte
  have hx : (x : Int) % 4294967296 = ((x % 4294967296 : Nat) : Int) := by omega
  have hlt : c ^^^ x % 4294967296 < 4294967296 := Nat.xor_lt_two_pow (n := 32) hc (by omega)
  simp only [hx]
  rw [xor_u32 _ _ hc (by omega)]
  rw [half_nat _ hlt, half_nat _ (nb4_lt hlt)]
  rfl
theorem xor_max (c : Nat) (hc : c < 4294967296) : 4294967295 ^^^ c = 4294967295 - c := by
  apply Nat.eq_of_testBit_eq
  intro i
  rw [Nat.testBit_xor, show 4294967295 - c = 2 ^ 32 - (c + 1) by omega, Nat.testBit_two_pow_sub_succ (show c < 2 ^ 32 from hc), show 4294967295 = 2 ^ 32 - 1 from rfl, Nat.testBit_two_pow_sub_one]
  by_cases hi : i < 32
  · simp [hi]
  · rw [Nat.testBit_lt_two_pow (show c < 2 ^ i from Nat.lt_of_lt_of_le hc (show 2 ^ 32 ≤ 2 ^ i from Nat.pow_le_pow_right (by decide) (by omega)))]
    simp [hi]
/-- The bytes' numbers. -/
def crcN (c : Nat) (p : List Int) : Nat := p.foldl (fun c x => nb8 (c ^^^ x.toNat % 4294967296)) c
theorem crcN_lt : ∀ (p : List Int) (c : Nat), c < 4294967296 → crcN c p < 4294967296
  | [], c, h => h
  | x :: p, c, h => crcN_lt p _ (nb8_lt (Nat.xor_lt_two_pow (n := 32) h (by omega)))
theorem crcN_append (c : Nat) (p q : List Int) : crcN c (p ++ q) = crcN (crcN c p) q := by unfold crcN; rw [List.foldl_append]
theorem foldl_crcByte : ∀ (p : List Int) (c : Nat), c < 4294967296 → (∀ y ∈ p, 0 ≤ y ∧ y < 256) → p.foldl crcByte (c : Int) = (crcN c p : Int)
  | [], c, _, _ => rfl
  | x :: p, c, h, hp => by
    have hx := (hp x (by simp)).1
    obtain ⟨m, rfl⟩ := Int.eq_ofNat_of_zero_le hx
    rw [List.foldl_cons, crcByte_nat c m h, foldl_crcByte p _ (nb8_lt (Nat.xor_lt_two_pow (n := 32) h (by omega))) (fun y hy => hp y (by simp [hy]))]
    rfl
theorem crcAll_nat : ∀ (ps : List (List Int)) (c : Nat), c < 4294967296 → (∀ p ∈ ps, ∀ y ∈ p, 0 ≤ y ∧ y < 256) → crcAll (c : Int) ps = (crcN c ps.flatten : Int)
  | [], c, _, _ => rfl
  | p :: ps, c, h, hp => by
    rw [crcAll, List.foldl_cons, foldl_crcByte p c h (hp p (by simp))]
    have := crcAll_nat ps (crcN c p) (crcN_lt p c h) (fun q hq => hp q (by simp [hq]))
    rw [crcAll] at this
    rw [this, List.flatten_cons, crcN_append]
def checkOf (p : List Int) : Int := ((4294967295 - crcN 4294967295 p : Nat) : Int)
theorem check_eq (ps : List (List Int)) (hp : ∀ p ∈ ps, ∀ y ∈ p, 0 ≤ y ∧ y < 256) : sum_Check.f ps = some (checkOf ps.flatten) := by
  unfold sum_Check.f checkOf
  have h := crcAll_nat ps 4294967295 (by decide) hp
  rw [show ((4294967295 : Nat) : Int) = 4294967295 from rfl] at h
  have hlt := crcN_lt ps.flatten 4294967295 (by decide)
  rw [h, show IntKind.u32.max = ((4294967295 : Nat) : Int) from rfl, xor_u32 _ _ (by decide) hlt, xor_max _ hlt]
theorem refbits (p : List Int) (r i : Int) (c : Nat) (hc : c < 4294967296) (j : Nat) (hj : j < 8) (h : Ev (fun k => forebearref01_Check.l1 k p (nb c : Int) i ((j + 1 : Nat) : Int)) r) : Ev (fun k => forebearref01_Check.l1 k p (c : Int) i (j : Int)) r := by
  refine Ev.step (fun k => ?_) h
  simp only [forebearref01_Check.l1]
  rw [if_pos (by omega), wrap_succ (by omega), Int.tmod_eq_emod_of_nonneg (by omega), Int.tdiv_eq_ediv_of_nonneg (by omega), show (c : Int) / 2 % 4294967296 = ((c / 2 : Nat) : Int) by omega]
  unfold nb
  by_cases h1 : c % 2 = 1
  · rw [if_pos (by omega), if_pos h1, show (3988292384 : Int) = ((3988292384 : Nat) : Int) from rfl, xor_u32 _ _ (by omega) (by decide)]
  · rw [if_neg (by omega), if_neg h1]
theorem refcheck_l0 (p : List Int) (hp : p.length ≤ 9223372036854775807) (hb : ∀ y ∈ p, 0 ≤ y ∧ y < 256) : ∀ (d j : Nat) (c : Nat), c < 4294967296 → j + d = p.length →
    Ev (fun k => forebearref01_Check.l0 k p (c : Int) (j : Int)) ((4294967295 - crcN c (p.drop j) : Nat) : Int) := by
  intro d
  induction d with
  | zero =>
    intro j c hc hj
    refine Ev.step (f := fun _ => some ((4294967295 - c : Nat) : Int)) (fun k => ?_) ?_
    · simp only [forebearref01_Check.l0]; rw [if_neg (by omega)]; congr 1; omega
    · rw [List.drop_eq_nil_of_le (by omega)]; exact Ev.now _
  | succ d ih =>
    intro j c hc hj
    have hlt : j < p.length := by omega
    obtain ⟨h0, h1⟩ := hb p[j] (List.getElem_mem hlt)
    obtain ⟨m, hm⟩ := Int.eq_ofNat_of_zero_le h0
    have hx : c ^^^ m % 4294967296 < 4294967296 := Nat.xor_lt_two_pow (n := 32) hc (by omega)
    refine Ev.step (f := fun k => forebearref01_Check.l1 k p ((c ^^^ m % 4294967296 : Nat) : Int) (j : Int) ((0 : Nat) : Int)) (fun k => ?_) ?_
    · simp only [forebearref01_Check.l0]; rw [if_pos (by omega), if_pos (by omega), rd_nat hlt, hm, show (m : Int) % 4294967296 = ((m % 4294967296 : Nat) : Int) by omega, xor_u32 _ _ hc (by omega)]; rfl
    · have l := fun {c : Nat} (h : c < 4294967296) => nb_lt h
      refine refbits p _ _ _ hx 0 (by decide) (refbits p _ _ _ (l hx) 1 (by decide) (refbits p _ _ _ (l (l hx)) 2 (by decide) (refbits p _ _ _ (l (l (l hx))) 3 (by decide) (refbits p _ _ _ (l (l (l (l hx)))) 4 (by decide) (refbits p _ _ _ (l (l (l (l (l hx))))) 5 (by decide) (refbits p _ _ _ (l (l (l (l (l (l hx)))))) 6 (by decide) (refbits p _ _ _ (l (l (l (l (l (l (l hx))))))) 7 (by decide) ?_)))))))
      refine Ev.step (f := fun k => forebearref01_Check.l0 k p ((nb8 (c ^^^ m % 4294967296) : Nat) : Int) ((j + 1 : Nat) : Int)) (fun k => ?_) ?_
      · simp only [forebearref01_Check.l1]; rw [if_neg (by omega), wrap_succ (by omega)]; rfl
      · rw [List.drop_eq_getElem_cons hlt]
        have h3 : crcN c (p[j] :: p.drop (j + 1)) = crcN (nb8 (c ^^^ m % 4294967296)) (p.drop (j + 1)) := by rw [hm]; rfl
        rw [h3]
        exact ih (j + 1) _ (nb8_lt hx) (by omega)
theorem refcheck_ev (p : List Int) (hp : p.length ≤ 9223372036854775807) (hb : ∀ y ∈ p, 0 ≤ y ∧ y < 256) : Ev (fun k => forebearref01_Check.f k p) (checkOf p) := by
  have h := refcheck_l0 p hp hb p.length 0 4294967295 (by decide) (by omega)
  rw [List.drop_zero] at h
  exact h
end Go.Proofs.Ytgmlhcjcaebfgaa.Pure
