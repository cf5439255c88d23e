/- Plain facts of the reference's frames: what its sealing and opening come to, over the same lists of bytes. No condition. -/
import Derived.Test.YtgmlhcjcaebfgaaMAx0
import Derived.Test.YtgmlhcjcaebfgaaMAx14
import Derived.Test.YtgmlhcjcaebfgaaPlainFrame
namespace Go.Proofs.Ytgmlhcjcaebfgaa.Pure
open Go.RowKit Go.Proofs.Ytgmlhcjcaebfgaa.Opening Go.Proofs.Ytgmlhcjcaebfgaa.MA Go.Proofs.YtgmlhcjcaebfgaaW.PrintWords Go.Proofs.YtgmlhcjcaebfgaaW.PrintLast Go.Proofs.YtgmlhcjcaebfgaaW.PrintMore

theorem nums_str (xs : List Int) (h : Bytes xs) : bytesOf (strOfNums xs) = xs := by
  unfold bytesOf
  rw [strOfNums_data, List.map_map]
  conv => rhs; rw [← List.map_id xs]
  refine List.map_congr_left fun y hy => ?_
  obtain ⟨h0, h1⟩ := h y hy
  simp only [Function.comp_apply, id_eq, UInt8.toNat_ofNat']
  omega
theorem strOfNums_append (a b : List Int) : strOfNums a ++ strOfNums b = strOfNums (a ++ b) := by
  unfold strOfNums
  rw [List.map_append]
  apply ByteArray.ext
  simp
theorem strOfNums_extract (l : List Int) (a b : Nat) : (strOfNums l).extract a b = strOfNums ((l.take b).drop a) := by
  unfold strOfNums
  apply ByteArray.ext
  simp [ByteArray.data_extract, List.map_take, List.map_drop, List.drop_take]
theorem bt_nat {s : ByteArray} {j : Nat} (h : j < s.size) : bt s (j : Int) = (bytesOf s)[j]'(by rw [bytesOf_length]; exact h) := by
  have : (j : Int).toNat < s.size := by simpa using h
  rw [bt, dif_pos this]
  simp [bytesOf]
  rfl
theorem bt_str (l : List Int) (hb : Bytes l) (i : Nat) (h : i < l.length) : bt (strOfNums l) (i : Int) = l[i] := by
  rw [bt_nat (by rw [strOfNums_size]; exact h)]
  simp only [nums_str l hb]
theorem str_inj {a b : List Int} (ha : Bytes a) (hb : Bytes b) (h : (strOfNums a).toList = (strOfNums b).toList) : a = b := by
  have h2 : (strOfNums a).data.toList = (strOfNums b).data.toList := by rw [← ByteArray.toList_eq, ← ByteArray.toList_eq, h]
  have : bytesOf (strOfNums a) = bytesOf (strOfNums b) := by unfold bytesOf; rw [h2]
  rwa [nums_str _ ha, nums_str _ hb] at this
/-! ### The reference's numbers -/
def low (n : Nat) : Nat → List Int
  | 0 => []
  | d + 1 => low (n / 256) d ++ [((n % 256 : Nat) : Int)]
theorem low4 (n : Nat) : low n 4 = four n := by
  simp only [low, four, List.nil_append, List.cons_append, List.cons.injEq, and_true]
  omega
theorem low1 (n : Nat) (h : n < 256) : low n 1 = [(n : Int)] := by
  simp only [low, List.nil_append, List.cons.injEq, and_true]
  omega
theorem refnumber_l0 (m : Nat) (hm : m ≤ 4) : ∀ (d i u : Nat), i + d = m → u < 18446744073709551616 → ∀ ds : List Int, ds.length = i →
    Ev (fun k => forebearref07_Number.l0 k (u : Int) (m : Int) (strOfNums ds) (i : Int)) (strOfNums (low u d ++ ds)) := by
  intro d
  induction d with
  | zero =>
    intro i u hi _ ds _
    refine Ev.step (f := fun _ => some (strOfNums ds)) (fun k => ?_) ?_
    · simp only [forebearref07_Number.l0]; rw [if_neg (by omega)]
    · exact Ev.now _
  | succ d ih =>
    intro i u hi hu ds hds
    have hm : Int.tmod (u : Int) 256 % 256 = ((u % 256 : Nat) : Int) := by rw [Int.tmod_eq_emod_of_nonneg (by omega)]; omega
    have hq : IntKind.u64.wrap (Int.tdiv (u : Int) 256) = ((u / 256 : Nat) : Int) := by rw [Int.tdiv_eq_ediv_of_nonneg (by omega), u64_id (by omega) (by omega)]; omega
    refine Ev.step (f := fun k => forebearref07_Number.l0 k ((u / 256 : Nat) : Int) (m : Int) (strOfNums (((u % 256 : Nat) : Int) :: ds)) ((i + 1 : Nat) : Int)) (fun k => ?_) ?_
    · simp only [forebearref07_Number.l0]
      rw [if_pos (by omega), hm]
      simp only [Option.bind_some]
      rw [if_pos (by rw [strOfNums_size, strOfNums_size]; simp; omega), hq, wrap_succ (by omega), strOfNums_append]
      rfl
    · simp only [low]
      rw [List.append_assoc]
      exact ih (i + 1) (u / 256) (by omega) (by omega) _ (by simp [hds])
theorem refnumber_ev (u m : Nat) (hm : m ≤ 4) (hu : u < 18446744073709551616) : Ev (fun k => forebearref07_Number.f k (u : Int) (m : Int)) (strOfNums (low u m)) := by
  have h := refnumber_l0 m hm m 0 u (by omega) hu [] rfl
  rw [List.append_nil] at h
  exact h
theorem conv_str (l : List Int) (hb : Bytes l) (hl : l.length ≤ 9223372036854775807) : conv9_45.f (strOfNums l) = some l := by
  unfold conv9_45.f convOf
  rw [if_pos (by rw [strOfNums_size]; exact hl), nums_str l hb]
/-- The reference seals as the program does. -/
theorem refseal_ev (kind : Int) (body : List Int) (hb : Bytes body) : Ev (fun k => forebearref07_Seal.f k kind (strOfNums body)) (strOfNums (sealOf kind body).1, (sealOf kind body).2) := by
  have bad : kind < 0 ∨ kind > 255 → Ev (fun k => forebearref07_Seal.j0 k true kind (strOfNums body)) (strOfNums (sealOf kind body).1, (sealOf kind body).2) := fun h => by
    refine Ev.step (f := fun _ => some ((⟨#[]⟩ : ByteArray), (3 : Int))) (fun k => ?_) ?_
    · simp only [forebearref07_Seal.j0]; rw [if_pos trivial]
    · unfold sealOf; rw [if_pos h]; exact Ev.now _
  by_cases h0 : kind < 0
  · refine Ev.congr (fun k => ?_) (bad (.inl h0))
    unfold forebearref07_Seal.f
    rw [if_pos h0]
  · by_cases h1 : kind > 255
    · refine Ev.congr (fun k => ?_) (bad (.inr h1))
      unfold forebearref07_Seal.f
      rw [if_neg h0, decide_eq_true h1]
    · refine Ev.congr (f := fun k => forebearref07_Seal.j0 k false kind (strOfNums body)) (fun k => by unfold forebearref07_Seal.f; rw [if_neg h0, decide_eq_false h1]) ?_
      have hsz := strOfNums_size body
      by_cases h2 : body.length > 8192
      · refine Ev.step (f := fun _ => some ((⟨#[]⟩ : ByteArray), (4 : Int))) (fun k => ?_) ?_
        · simp only [forebearref07_Seal.j0]; rw [if_neg (by decide), if_pos (by omega)]
        · unfold sealOf; rw [if_neg (by omega), if_pos h2]; exact Ev.now _
      · have hh := headBody_bytes (kind := kind.toNat) (by omega) hb
        have hl := headBody_len kind.toNat body
        refine Ev.step (fun k => by simp only [forebearref07_Seal.j0]; rw [if_neg (by decide), if_neg (by omega)]) ?_
        rw [hsz, u64_id (by omega) (by omega)]
        refine Ev.bind (refnumber_ev body.length 4 (by omega) (by omega)) ?_
        rw [u64_id (by omega) (by omega), show kind = (kind.toNat : Int) by omega]
        refine Ev.bind (refnumber_ev kind.toNat 1 (by omega) (by omega)) ?_
        rw [low4, low1 _ (by omega)]
        have e1 : strOfNums (four body.length) ++ strOfNums [(kind.toNat : Int)] ++ strOfNums body = strOfNums (headBody kind.toNat body) := by
          rw [strOfNums_append, strOfNums_append]; rfl
        have s4 := strOfNums_size (four body.length)
        have s1 := strOfNums_size [(kind.toNat : Int)]
        rw [four_len] at s4
        rw [List.length_singleton] at s1
        refine Ev.congr (fun k => if_pos (by omega)) ?_
        refine Ev.congr (fun k => if_pos (by omega)) ?_
        rw [e1, conv_str _ hh (by omega)]
        refine Ev.bind (Ev.now _) ?_
        refine Ev.bind (refcheck_ev _ (by omega) hh) ?_
        have hc := checkN_lt (headBody kind.toNat body)
        rw [checkOf_nat, u64_id (by omega) (by omega)]
        refine Ev.bind (refnumber_ev _ 4 (by omega) (by omega)) ?_
        rw [low4]
        have s5 := strOfNums_size (four (checkN (headBody kind.toNat body)))
        rw [four_len] at s5
        refine Ev.congr (fun k => if_pos (by omega)) ?_
        rw [strOfNums_append]
        unfold sealOf
        rw [if_neg (by omega), if_neg h2]
        exact Ev.now _
end Go.Proofs.Ytgmlhcjcaebfgaa.Pure
