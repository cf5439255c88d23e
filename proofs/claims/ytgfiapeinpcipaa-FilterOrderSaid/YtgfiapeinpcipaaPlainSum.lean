/- Plain laws of functions that this seat shares with another. No condition. -/
import Derived.Laws.BitsLemmas
import Derived.Test.YtgfiapeinpcipaaMFx1
import Derived.Test.YtgfiapeinpcipaaMFx5
set_option linter.unusedVariables false
set_option linter.unusedSimpArgs false
namespace Go.Proofs.Ytgfiapeinpcipaa.Pure
open Go.RowKit Go.Proofs.Ytgfiapeinpcipaa.MF Go.Proofs.Ytgfiapeinpcipaa.Opening Go.Proofs.YtgfiapeinpcipaaW.PrintWords Go.Proofs.YtgfiapeinpcipaaW.PrintLast

theorem wrap_u64 (n : Int) : IntKind.u64.wrap n = n % 18446744073709551616 := by simp [IntKind.wrap, IntKind.bits, IntKind.signed]
theorem u64_lo (n : Int) : 0 ≤ IntKind.u64.wrap n := by rw [wrap_u64]; omega
theorem u64_hi (n : Int) : IntKind.u64.wrap n < 18446744073709551616 := by rw [wrap_u64]; omega
theorem u64_id {n : Int} (h0 : 0 ≤ n) (h1 : n < 18446744073709551616) : IntKind.u64.wrap n = n := by rw [wrap_u64]; omega
theorem u32_lo (n : Int) : 0 ≤ IntKind.u32.wrap n := by rw [IntKind.wrap_u32]; omega
theorem u32_hi (n : Int) : IntKind.u32.wrap n < 4294967296 := by rw [IntKind.wrap_u32]; omega
theorem tdiv_u64 (n c : Int) (hc : 0 < c) : IntKind.u64.wrap (Int.tdiv (IntKind.u64.wrap n) c) = IntKind.u64.wrap n / c := by
  have h0 := u64_lo n
  have h1 := u64_hi n
  rw [Int.tdiv_eq_ediv_of_nonneg h0]
  refine u64_id (Int.ediv_nonneg h0 (by omega)) ?_
  exact Int.lt_of_le_of_lt (Int.ediv_le_self _ h0) h1
theorem wrap_succ {i : Nat} (h : i < 9223372036854775807) : wrap64 ((i : Int) + 1) = ((i + 1 : Nat) : Int) := by unfold wrap64; omega
theorem rd_nat {p : List Int} {j : Nat} (h : j < p.length) : rd p (j : Int) = p[j] := by simp [rd, h]
theorem rdL_nat {p : List (List Int)} {j : Nat} (h : j < p.length) : rd_L2 p (j : Int) = p[j] := by simp [rd_L2, h]
theorem u8_range {l : List Int} (h : ∀ y ∈ l, (Lit.int .u8 y).wf = true) : ∀ y ∈ l, 0 ≤ y ∧ y < 256 := by
  intro y hy
  have h2 := h y hy
  simp only [Lit.wf, IntKind.min, IntKind.max, IntKind.signed, IntKind.bits] at h2
  simp at h2
  omega

/-! ### The ID -/
def fnv (h : Int) (p : List Int) : Int := p.foldl (fun h c => IntKind.u64.wrap ((Go.bits .xor .u64 h (IntKind.u64.wrap c)) * 1099511628211)) h
theorem id_l1 (ps : List (List Int)) (n i : Int) (p : List Int) (hp : p.length ≤ 9223372036854775807) (r : Int) : ∀ (d j : Nat) (h : Int), j + d = p.length →
    Ev (fun k => sum_ID.l0 k (fnv h (p.drop j)) ps n (wrap64 (i + 1))) r → Ev (fun k => sum_ID.l1 k h ps n i p (p.length : Int) (j : Int)) r := by
  intro d
  induction d with
  | zero =>
    intro j h hj he
    refine Ev.step (f := fun k => sum_ID.l0 k h ps n (wrap64 (i + 1))) (fun k => ?_) ?_
    · simp only [sum_ID.l1]; rw [if_neg (by omega)]
    · rw [List.drop_eq_nil_of_le (by omega)] at he; exact he
  | succ d ih =>
    intro j h hj he
    have hlt : j < p.length := by omega
    refine Ev.step (f := fun k => sum_ID.l1 k (IntKind.u64.wrap ((Go.bits .xor .u64 h (IntKind.u64.wrap p[j])) * 1099511628211)) ps n i p (p.length : Int) ((j + 1 : Nat) : Int)) (fun k => ?_) ?_
    · simp only [sum_ID.l1]; rw [if_pos (by omega), if_pos (by omega), if_pos (by omega), wrap_succ (by omega), rd_nat hlt]
    · refine ih (j + 1) _ (by omega) ?_
      rw [List.drop_eq_getElem_cons hlt] at he
      exact he
theorem id_l0 (ps : List (List Int)) (hps : ps.length ≤ 9223372036854775807) (hp : ∀ p ∈ ps, p.length ≤ 9223372036854775807) : ∀ (d i : Nat) (h : Int), i + d = ps.length →
    Ev (fun k => sum_ID.l0 k h ps (ps.length : Int) (i : Int)) ((ps.drop i).foldl fnv h) := by
  intro d
  induction d with
  | zero =>
    intro i h hi
    refine Ev.step (f := fun _ => some h) (fun k => ?_) ?_
    · simp only [sum_ID.l0]; rw [if_neg (by omega)]
    · rw [List.drop_eq_nil_of_le (by omega)]; exact Ev.now h
  | succ d ih =>
    intro i h hi
    have hlt : i < ps.length := by omega
    refine Ev.step (f := fun k => sum_ID.l1 k h ps (ps.length : Int) (i : Int) ps[i] (ps[i].length : Int) ((0 : Nat) : Int)) (fun k => ?_) ?_
    · simp only [sum_ID.l0]; rw [if_pos (by omega), if_pos (by omega), if_pos (by omega), rdL_nat hlt]; rfl
    · refine id_l1 ps _ _ ps[i] (hp _ (List.getElem_mem hlt)) _ ps[i].length 0 h (by omega) ?_
      rw [wrap_succ (by omega), List.drop_eq_getElem_cons hlt]
      exact ih (i + 1) (fnv h ps[i]) (by omega)
def idOf (a : Int) (ps : List (List Int)) : Int := ps.foldl fnv (IntKind.u64.wrap ((Go.bits .xor .u64 14695981039346656037 (a % 256)) * 1099511628211))
theorem id_ev (a : Int) (ps : List (List Int)) (hps : ps.length ≤ 9223372036854775807) (hp : ∀ p ∈ ps, p.length ≤ 9223372036854775807) : Ev (fun k => sum_ID.f k a ps) (idOf a ps) := by
  have h := id_l0 ps hps hp ps.length 0 (IntKind.u64.wrap ((Go.bits .xor .u64 14695981039346656037 (a % 256)) * 1099511628211)) (by omega)
  rw [List.drop_zero] at h
  exact h
theorem fnv_append (h : Int) (p q : List Int) : fnv h (p ++ q) = fnv (fnv h p) q := by unfold fnv; rw [List.foldl_append]
theorem idOf_flatten (a : Int) (ps : List (List Int)) : idOf a ps = idOf a [ps.flatten] := by
  unfold idOf
  have : ∀ (ps : List (List Int)) (h : Int), ps.foldl fnv h = fnv h ps.flatten := by
    intro ps
    induction ps with
    | nil => intro h; rfl
    | cons p ps ih => intro h; rw [List.foldl_cons, ih, List.flatten_cons, fnv_append]
  rw [this]
  rfl
theorem refid_l0 (p : List Int) (hp : p.length ≤ 9223372036854775807) : ∀ (d j : Nat) (h : Int), j + d = p.length →
    Ev (fun k => forebearref01_ID.l0 k p h (j : Int)) (fnv h (p.drop j)) := by
  intro d
  induction d with
  | zero =>
    intro j h hj
    refine Ev.step (f := fun _ => some h) (fun k => ?_) ?_
    · simp only [forebearref01_ID.l0]; rw [if_neg (by omega)]
    · rw [List.drop_eq_nil_of_le (by omega)]; exact Ev.now h
  | succ d ih =>
    intro j h hj
    have hlt : j < p.length := by omega
    refine Ev.step (f := fun k => forebearref01_ID.l0 k p (IntKind.u64.wrap ((Go.bits .xor .u64 h (IntKind.u64.wrap p[j])) * 1099511628211)) ((j + 1 : Nat) : Int)) (fun k => ?_) ?_
    · simp only [forebearref01_ID.l0]; rw [if_pos (by omega), if_pos (by omega), wrap_succ (by omega), rd_nat hlt]
    · rw [List.drop_eq_getElem_cons hlt]
      exact ih (j + 1) _ (by omega)
theorem and255 (a : Int) : IntKind.u64.wrap (Go.bits .and .i64 a 255) = a % 256 := by
  have h : (BitVec.ofInt 64 a &&& BitVec.ofInt 64 255).toNat = (a % 256).toNat := by
    rw [BitVec.toNat_and, show (BitVec.ofInt 64 255).toNat = 2 ^ 8 - 1 from rfl, Nat.and_two_pow_sub_one_eq_mod, BitVec.toNat_ofInt]
    omega
  have e : Go.bits .and .i64 a 255 = IntKind.i64.wrap ((BitVec.ofInt 64 a &&& BitVec.ofInt 64 255).toNat : Int) := rfl
  rw [e, h, IntKind.wrap_i64, wrap_u64]
  omega
theorem refid_ev (a : Int) (p : List Int) (hp : p.length ≤ 9223372036854775807) : Ev (fun k => forebearref01_ID.f k a p) (idOf a [p]) := by
  have h := refid_l0 p hp p.length 0 (IntKind.u64.wrap ((Go.bits .xor .u64 14695981039346656037 (a % 256)) * 1099511628211)) (by omega)
  rw [List.drop_zero] at h
  refine Ev.congr (fun k => ?_) h
  unfold forebearref01_ID.f
  rw [and255]
  rfl
end Go.Proofs.Ytgfiapeinpcipaa.Pure
