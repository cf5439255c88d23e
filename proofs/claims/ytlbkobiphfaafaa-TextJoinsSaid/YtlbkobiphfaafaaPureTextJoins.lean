/- The plain statement of the law TextJoins, without program and memory. No condition. -/
import Derived.Test.YtlbkobiphfaafaaMTx6
import Derived.Test.YtlbkobiphfaafaaPlainRuns
set_option linter.unusedVariables false
set_option linter.unusedSimpArgs false
namespace Go.Proofs.Ytlbkobiphfaafaa.Pure
open Go.RowKit Go.Proofs.Ytlbkobiphfaafaa.MT Go.Proofs.Ytlbkobiphfaafaa.PureT Go.Proofs.Ytlbkobiphfaafaa.Opening Go.Proofs.YtlbkobiphfaafaaW.PrintWords Go.Proofs.YtlbkobiphfaafaaW.PrintLast

/-- Some bytes that are no line end, and one line end. -/
def isLine (x : K) : Bool := decide (x[x.length - 1]? = some 10) && (x.take (x.length - 1)).all (fun c => c != 10)
theorem isLine_form {x : K} (h : isLine x = true) : ∃ t, x = t ++ [10] ∧ ∀ c ∈ t, c ≠ 10 := by
  unfold isLine at h
  simp only [Bool.and_eq_true, decide_eq_true_eq, List.all_eq_true] at h
  refine ⟨x.take (x.length - 1), ?_, fun c hc => by simpa using h.2 c hc⟩
  have hlt := (List.getElem?_eq_some_iff.1 h.1).1
  have := List.take_append_drop (x.length - 1) x
  rw [List.drop_eq_getElem_cons hlt, (List.getElem?_eq_some_iff.1 h.1).2, List.drop_eq_nil_of_le (by omega)] at this
  exact this.symm
theorem ln_line : ∀ (t cur r : K), (∀ c ∈ t, c ≠ 10) → ln cur (t ++ 10 :: r) = (cur ++ t ++ [10]) :: ln [] r
  | [], cur, r, _ => by rw [List.nil_append, ln_nl]; simp
  | c :: t, cur, r, h => by
    rw [List.cons_append, ln_other (h c (by simp)), ln_line t _ r (fun d hd => h d (List.mem_cons_of_mem _ hd))]; simp
theorem ln_lines : ∀ (l : List K), l.all isLine = true → ln [] l.flatten = l
  | [], _ => rfl
  | x :: l, h => by
    simp only [List.all_cons, Bool.and_eq_true] at h
    obtain ⟨t, rfl, ht⟩ := isLine_form h.1
    rw [List.flatten_cons]
    have : t ++ [10] ++ l.flatten = t ++ 10 :: l.flatten := by simp
    rw [this, ln_line t [] _ ht, ln_lines l h.2]; simp
theorem key_append (a b : ByteArray) : key (a ++ b) = key a ++ key b := by simp [key]
theorem joins_l1 {l : List ByteArray} {all : ByteArray} {i : Nat} (hi : i < l.length) (hll : l.length ≤ 300) (hs : l[i].size ≤ 100000) {B : Nat} (d : Nat) : ∀ (j k : Nat) (b : Bool), l[i].size - 1 - j = d → j ≤ l[i].size - 1 → B + d + 1 < k →
    (∀ k, B < k → forebearlaw04_TextJoins.l0 k l all (b && (((key l[i]).take (l[i].size - 1)).drop j).all (fun c => c != 10)) ((i + 1 : Nat) : Int) = some true) →
    forebearlaw04_TextJoins.l1 k l all b i l[i].size j = some true := by
  have hw : wrap64 ((l[i].size : Int) - 1) = (l[i].size : Int) - 1 := by unfold wrap64; omega
  induction d with
  | zero =>
    intro j k b hd hj hk h
    obtain ⟨k, rfl⟩ : ∃ m, k = m + 1 := ⟨k - 1, by omega⟩
    simp only [forebearlaw04_TextJoins.l1]
    rw [hw, if_neg (by omega), wnat hi (by omega)]
    have := h k (by omega)
    rw [List.drop_eq_nil_of_le (by simp; omega)] at this
    simpa using this
  | succ d ih =>
    intro j k b hd hj hk h
    obtain ⟨k, rfl⟩ : ∃ m, k = m + 1 := ⟨k - 1, by omega⟩
    obtain ⟨c, hb, hg, -⟩ := key_drop (p := l[i]) (i := j) (by omega)
    have hdr : ((key l[i]).take (l[i].size - 1)).drop j = c :: ((key l[i]).take (l[i].size - 1)).drop (j + 1) := by
      have hlt : j < ((key l[i]).take (l[i].size - 1)).length := by simp [key_len]; omega
      rw [List.drop_eq_getElem_cons hlt]
      congr 1
      have := (List.getElem?_eq_some_iff.1 hg).2
      simpa using this
    rw [hdr] at h
    simp only [List.all_cons] at h
    simp only [forebearlaw04_TextJoins.l1]
    rw [hw, if_pos (by omega), wnat (i := j) (n := l[i].size) (by omega) (by omega)]
    cases b with
    | true =>
      simp only [if_true]
      rw [if_pos (by omega), if_pos (by omega), if_pos (by omega), rdOf_nat l i hi, if_pos (by omega), hb]
      refine ih (j + 1) k _ (by omega) (by omega) (by omega) (fun k hk => ?_)
      have := h k hk
      have e : ((c.toNat : Int) != 10) = (c != 10) := by
        rw [Bool.eq_iff_iff]; simp only [bne_iff_ne, ne_eq]
        rw [nl_iff]
      rw [e]
      simpa using this
    | false =>
      simp only [Bool.false_eq_true, if_false]
      refine ih (j + 1) k false (by omega) (by omega) (by omega) (fun k hk => ?_)
      have := h k hk
      simpa using this
theorem joins_l0 {l : List ByteArray} (hll : l.length ≤ 300) (d : Nat) : ∀ (i k : Nat) (all : ByteArray), l.length - i = d → i ≤ l.length → all.size ≤ 100000 → key all = ((keys l).take i).flatten → 200000 * d + 1000000 < k →
    forebearlaw04_TextJoins.l0 k l all (((keys l).take i).all isLine) i = some true := by
  induction d with
  | zero =>
    intro i k all hd hi ha hka hk
    obtain ⟨k, rfl⟩ : ∃ m, k = m + 1 := ⟨k - 1, by omega⟩
    obtain rfl : i = l.length := by omega
    rw [List.take_of_length_le (by simp)] at hka ⊢
    simp only [forebearlaw04_TextJoins.l0]
    rw [if_neg (by omega)]
    obtain ⟨q, g1, g2⟩ := join_f (l := l) (by rw [← hka, key_len]; omega) (by omega)
    rw [g1]
    simp only [Option.bind_some]
    rw [toList_key, toList_key, g2, ← hka, if_pos rfl]
    by_cases hp : (keys l).all isLine = true
    · rw [if_pos hp]
      obtain ⟨r, h1, h2⟩ := lines_f (p := all) (by omega) k (by omega)
      have hkr : keys r = keys l := by rw [h2, hka, ln_lines _ hp]
      have hrl : r.length = l.length := by have := congrArg List.length hkr; simpa using this
      rw [h1]
      simp only [Option.bind_some]
      rw [same_f (by omega) k (by omega), hkr]; simp
    · rw [if_neg hp]
  | succ d ih =>
    intro i k all hd hi ha hka hk
    obtain ⟨k, rfl⟩ : ∃ m, k = m + 1 := ⟨k - 1, by omega⟩
    have hlt : i < l.length := by omega
    have hw : wrap64 (100000 - (all.size : Int)) = 100000 - (all.size : Int) := by unfold wrap64; omega
    have htk : (keys l).take (i + 1) = (keys l).take i ++ [key l[i]] := by
      rw [List.take_add_one]; simp [hlt]
    simp only [forebearlaw04_TextJoins.l0]
    rw [if_pos (by omega), if_pos (by omega), rdOf_nat l i hlt, hw]
    by_cases hbig : (l[i].size : Int) > 100000 - (all.size : Int)
    · rw [if_pos hbig]
    · rw [if_neg hbig, if_pos (by omega)]
      have hsz : (all ++ l[i]).size = all.size + l[i].size := ByteArray.size_append
      have hnext : ∀ k, 200000 * d + 1000000 < k → forebearlaw04_TextJoins.l0 k l (all ++ l[i]) (((keys l).take (i + 1)).all isLine) ((i + 1 : Nat) : Int) = some true := by
        intro k hk
        refine ih (i + 1) k (all ++ l[i]) (by omega) (by omega) (by omega) ?_ hk
        rw [key_append, hka, htk]; simp
      have hj1 : ∀ (k : Nat) (b : Bool), 200000 * d + 1150000 < k → (b && ((key l[i]).take (l[i].size - 1)).all (fun c => c != 10)) = ((keys l).take (i + 1)).all isLine → forebearlaw04_TextJoins.j1 k l (all ++ l[i]) b i l[i].size = some true := by
        intro k b hk hb
        obtain ⟨k, rfl⟩ : ∃ m, k = m + 1 := ⟨k - 1, by omega⟩
        simp only [forebearlaw04_TextJoins.j1]
        have := joins_l1 (all := all ++ l[i]) hlt hll (by omega) (B := 200000 * d + 1000000) (l[i].size - 1) 0 k b (by omega) (by omega) (by omega) (fun k hk => by
          rw [List.drop_zero, hb]; exact hnext k hk)
        simpa using this
      have hall : ((keys l).take (i + 1)).all isLine = (((keys l).take i).all isLine && isLine (key l[i])) := by rw [htk]; simp
      by_cases hp : ((keys l).take i).all isLine = true
      · rw [if_pos hp]
        by_cases h0 : (l[i].size : Int) > 0
        · rw [if_pos h0, wpred (by omega) (by omega), if_pos (by omega), if_pos (by omega)]
          refine hj1 k _ (by omega) ?_
          obtain ⟨c, hb, hg, -⟩ := key_drop (p := l[i]) (i := l[i].size - 1) (by omega)
          rw [hb, hall, hp, Bool.true_and]
          unfold isLine
          rw [key_len, hg]
          congr 1
          rw [Bool.eq_iff_iff, beq_iff_eq, decide_eq_true_eq, nl_iff]
          simp
        · rw [if_neg h0]
          refine hj1 k false (by omega) ?_
          have : isLine (key l[i]) = false := by
            unfold isLine
            have : key l[i] = [] := List.eq_nil_of_length_eq_zero (by rw [key_len]; omega)
            rw [this]; rfl
          rw [hall, this]; simp
      · rw [if_neg hp]
        refine hj1 k false (by omega) ?_
        have hp' : ((keys l).take i).all isLine = false := by simpa using hp
        rw [hall, hp']; simp
theorem TextJoins : forebearlaw04_TextJoins.Pure := by
  intro l hl
  obtain ⟨B, hB⟩ : ∃ B : Nat, B = 200000 * 400 := ⟨_, rfl⟩
  refine ⟨B, ?_⟩
  unfold forebearlaw04_TextJoins.f
  rw [awake_f B (by omega)]
  simp only [Option.bind_some, if_true]
  by_cases h : (l.length : Int) > 300
  · rw [if_pos h]
  rw [if_neg h]
  have := joins_l0 (l := l) (by omega) l.length 0 B (⟨#[]⟩ : ByteArray) (by omega) (by omega) (by decide) rfl (by omega)
  simpa using this
end Go.Proofs.Ytlbkobiphfaafaa.Pure
