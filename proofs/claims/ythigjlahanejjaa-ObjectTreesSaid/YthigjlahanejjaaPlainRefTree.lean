/- The document's tree of entries, and its reading, in plain Lean. No condition. -/
import Derived.Test.YthigjlahanejjaaPlainValue
import Derived.Test.YthigjlahanejjaaPlainReadTree
import Derived.Test.YthigjlahanejjaaPlainFind
import Derived.Test.YthigjlahanejjaaMOx9
import Derived.Test.YthigjlahanejjaaMOx11
set_option linter.unusedVariables false
set_option linter.unusedSimpArgs false
namespace Go.Proofs.Ythigjlahanejjaa.Pure
open Go.RowKit Go.Proofs.Ythigjlahanejjaa.MO Go.Proofs.Ythigjlahanejjaa.Opening Go.Proofs.YthigjlahanejjaaW.PrintWords Go.Proofs.YthigjlahanejjaaW.PrintLast Go.Proofs.YthigjlahanejjaaW.PrintMore
theorem rdE {l : List S67} {i : Nat} (h : i < l.length) : rd_T107 (l.map e107) (i : Int) = e107 l[i] := by
  rw [rd107 (by rw [List.length_map]; exact h), List.getElem_map]
theorem entB_str (x : S67) : strOfNums (entB x) = strOfNums [(x.f0.size : Int) % 256] ++ x.f0 ++ strOfNums (be8 x.f1) := by
  have h : strOfNums (entB x) = strOfNums ([(x.f0.size : Int) % 256] ++ bytesOf x.f0 ++ be8 x.f1) := rfl
  rw [h, ← str_append, ← str_append, str_bytes]
/-- What the document's loops look at in the pair i, j. -/
def good (l : List S67) (i j : Nat) : Prop := ∀ (hi : i < l.length) (hj : j < l.length), (i < j → keyE l[i] < keyE l[j]) ∧ (i ≠ j → under (keyE l[i]) (keyE l[j]) = false)
theorem rtree_l2 (l : List S67) (hl : l.length ≤ 64) (acc : ByteArray) (i : Nat) (hi : i < l.length) (r : ByteArray × Int)
    (hr : Ev (fun k => forebearref08_Tree.l1 k (l.map e107) acc ((i + 1 : Nat) : Int)) r) : ∀ (d j : Nat), j + d = l.length →
    ∃ c : Bool, (c = true ↔ ∀ m, j ≤ m → m < l.length → good l i m) ∧ Ev (fun k => forebearref08_Tree.l2 k (l.map e107) acc (i : Int) (j : Int)) (cond c r (⟨#[]⟩, 12)) := by
  intro d
  have hlen : (l.map e107).length = l.length := List.length_map _
  induction d with
  | zero =>
    intro j hj
    refine ⟨true, by simp; intro m h1 h2; omega, ?_⟩
    refine Ev.step (fun k => ?_) hr
    simp only [forebearref08_Tree.l2]
    rw [if_neg (by omega), wnat hi (by omega)]
  | succ d ih =>
    intro j hj
    have hjl : j < l.length := by omega
    obtain ⟨c, hc, ec⟩ := ih (j + 1) (by omega)
    have hspl : ∀ b : Bool, (b = true ↔ good l i j) → (((b && c) = true) ↔ ∀ m, j ≤ m → m < l.length → good l i m) := by
      intro b hb
      rw [Bool.and_eq_true, hb, hc]
      constructor
      · rintro ⟨h1, h2⟩ m hm hml
        by_cases e : j = m
        · subst e; exact h1
        · exact h2 m (by omega) hml
      · intro h
        exact ⟨h j (Nat.le_refl _) hjl, fun m hm hml => h m (by omega) hml⟩
    have hkey : ∀ x : S67, key (e107 x).f0 = keyE x := fun x => rfl
    by_cases hlt : i < j
    · by_cases hb : keyE l[i] < keyE l[j]
      · refine ⟨!(under (keyE l[i]) (keyE l[j])) && c, hspl _ ?_, ?_⟩
        · rw [Bool.not_eq_true']
          exact ⟨fun h _ _ => ⟨fun _ => hb, fun _ => h⟩, fun h => (h hi hjl).2 (by omega)⟩
        · refine Ev.step (f := fun k => if under (keyE l[i]) (keyE l[j]) = true then (some ((⟨#[]⟩ : ByteArray), (12 : Int))) else (forebearref08_Tree.l2 k (l.map e107) acc (i : Int) ((j + 1 : Nat) : Int))) (fun k => ?_) ?_
          · simp only [forebearref08_Tree.l2]
            rw [if_pos (by omega), if_pos (by omega), if_pos (by omega), if_pos (by omega), if_pos (by omega), rdE hi, rdE hjl, if_pos (by rw [bytesLess_eq, decide_eq_true_eq, toList_key, toList_key]; exact hb), if_neg (by omega), refUnder_f, Option.bind_some, wnat hjl (by omega)]
            rfl
          · cases hu : under (keyE l[i]) (keyE l[j])
            · exact Ev.congr (fun k => if_neg (by decide)) (by simpa using ec)
            · exact Ev.congr (fun k => if_pos (by trivial)) (Ev.now _)
      · refine ⟨false && c, hspl _ ?_, ?_⟩
        · exact ⟨fun h => absurd h (by decide), fun h => absurd ((h hi hjl).1 hlt) hb⟩
        · refine Ev.step (f := fun k => some ((⟨#[]⟩ : ByteArray), (12 : Int))) (fun k => ?_) (Ev.now _)
          simp only [forebearref08_Tree.l2]
          rw [if_pos (by omega), if_pos (by omega), if_pos (by omega), if_pos (by omega), if_pos (by omega), rdE hi, rdE hjl, if_neg (by rw [bytesLess_eq, decide_eq_true_eq, toList_key, toList_key]; exact hb)]
    · by_cases he : i = j
      · subst he
        refine ⟨true && c, hspl _ ?_, ?_⟩
        · exact ⟨fun _ _ _ => ⟨fun h => absurd h (Nat.lt_irrefl _), fun h => absurd rfl h⟩, fun _ => rfl⟩
        · rw [Bool.true_and]
          refine Ev.step (fun k => ?_) ec
          simp only [forebearref08_Tree.l2]
          rw [if_pos (by omega), if_neg (by omega), if_pos (by trivial), wnat hjl (by omega)]
      · refine ⟨!(under (keyE l[i]) (keyE l[j])) && c, hspl _ ?_, ?_⟩
        · rw [Bool.not_eq_true']
          exact ⟨fun h _ _ => ⟨fun h2 => absurd h2 hlt, fun _ => h⟩, fun h => (h hi hjl).2 he⟩
        · refine Ev.step (f := fun k => if under (keyE l[i]) (keyE l[j]) = true then (some ((⟨#[]⟩ : ByteArray), (12 : Int))) else (forebearref08_Tree.l2 k (l.map e107) acc (i : Int) ((j + 1 : Nat) : Int))) (fun k => ?_) ?_
          · simp only [forebearref08_Tree.l2]
            rw [if_pos (by omega), if_neg (by omega), if_neg (by omega), if_pos (by omega), if_pos (by omega), if_pos (by omega), rdE hi, rdE hjl, refUnder_f, Option.bind_some, wnat hjl (by omega)]
            rfl
          · cases hu : under (keyE l[i]) (keyE l[j])
            · exact Ev.congr (fun k => if_neg (by decide)) (by simpa using ec)
            · exact Ev.congr (fun k => if_pos (by trivial)) (Ev.now _)
theorem rtree_l1 (l : List S67) (hl : l.length ≤ 64) (acc : ByteArray) : ∀ (d i : Nat), i + d = l.length →
    ∃ c : Bool, (c = true ↔ ∀ n, i ≤ n → n < l.length → ∀ m, m < l.length → good l n m) ∧ Ev (fun k => forebearref08_Tree.l1 k (l.map e107) acc (i : Int)) (cond c (acc, 0) (⟨#[]⟩, 12)) := by
  intro d
  have hlen : (l.map e107).length = l.length := List.length_map _
  induction d with
  | zero =>
    intro i hi
    refine ⟨true, by simp; intro m h1 h2; omega, ?_⟩
    refine Ev.step (f := fun _ => some (acc, 0)) (fun k => ?_) (Ev.now _)
    simp only [forebearref08_Tree.l1]
    rw [if_neg (by omega)]
  | succ d ih =>
    intro i hi
    have hil : i < l.length := by omega
    obtain ⟨c, hc, ec⟩ := ih (i + 1) (by omega)
    obtain ⟨c2, hc2, ec2⟩ := rtree_l2 l hl acc i hil _ ec l.length 0 (by omega)
    refine ⟨c2 && c, ?_, ?_⟩
    · rw [Bool.and_eq_true, hc, hc2]
      constructor
      · rintro ⟨h1, h2⟩ n hn hnl m hm
        by_cases e : i = n
        · subst e; exact h1 m (Nat.zero_le _) hm
        · exact h2 n (by omega) hnl m hm
      · intro h
        exact ⟨fun m _ hm => h i (Nat.le_refl _) hil m hm, fun n hn hnl m hm => h n (by omega) hnl m hm⟩
    · have e : cond (c2 && c) (acc, (0 : Int)) (⟨#[]⟩, 12) = cond c2 (cond c (acc, 0) (⟨#[]⟩, 12)) (⟨#[]⟩, 12) := by cases c2 <;> cases c <;> rfl
      rw [e]
      refine Ev.step (fun k => ?_) ec2
      simp only [forebearref08_Tree.l1]
      rw [if_pos (by omega)]
      rfl
theorem rtree_l0 (l : List S67) (hl : l.length ≤ 64) (hv : ∀ x ∈ l, 0 ≤ x.f1 ∧ x.f1 < 18446744073709551616) (r : ByteArray × Int) : ∀ (d i : Nat) (acc : List Int), i + d = l.length → acc.length ≤ 111 * i →
    Ev (fun k => forebearref08_Tree.l1 k (l.map e107) (strOfNums (acc ++ (l.drop i).flatMap entB)) 0) r →
    Ev (fun k => forebearref08_Tree.l0 k (l.map e107) (strOfNums acc) (i : Int)) (if (l.drop i).all (fun x => isP (keyE x)) then r else (⟨#[]⟩, 2)) := by
  intro d
  have hlen : (l.map e107).length = l.length := List.length_map _
  induction d with
  | zero =>
    intro i acc hi ha he
    rw [List.drop_eq_nil_of_le (by omega)] at he ⊢
    refine Ev.step (f := fun k => forebearref08_Tree.l1 k (l.map e107) (strOfNums acc) 0) (fun k => ?_) (by simpa using he)
    simp only [forebearref08_Tree.l0]
    rw [if_neg (by omega)]
  | succ d ih =>
    intro i acc hi ha he
    have hil : i < l.length := by omega
    obtain ⟨v0, v1⟩ := hv _ (List.getElem_mem hil)
    rw [List.drop_eq_getElem_cons hil] at he ⊢
    refine Ev.step (f := fun k => (forebearref03_Is.f k l[i].f0).bind fun t199 => (if t199 = true then ((forebearref07_Number.f k (IntKind.u64.wrap (l[i].f0.size : Int)) 1).bind fun t201 => (if (strOfNums acc).size + t201.size ≤ 9223372036854775807 then (if (strOfNums acc).size + t201.size + l[i].f0.size ≤ 9223372036854775807 then ((forebearref07_Number.f k l[i].f1 8).bind fun t204 => (if (strOfNums acc).size + t201.size + l[i].f0.size + t204.size ≤ 9223372036854775807 then (forebearref08_Tree.l0 k (l.map e107) (((strOfNums acc ++ t201) ++ l[i].f0) ++ t204) ((i + 1 : Nat) : Int)) else (none))) else (none)) else (none))) else (some ((⟨#[]⟩ : ByteArray), 2)))) (fun k => ?_) (Ev.bind (a := isP (keyE l[i])) ⟨4001, fun k hk => refIs_f k (by omega)⟩ ?_)
    · simp only [forebearref08_Tree.l0]
      rw [if_pos (by omega), if_pos (by omega), rdE hil, wnat hil (by omega)]; rfl
    · cases hP : isP (keyE l[i])
      · rw [List.all_cons, hP]
        exact Ev.congr (fun k => if_neg (by decide)) (Ev.now _)
      · rw [List.all_cons, hP, Bool.true_and]
        have h102 : l[i].f0.size ≤ 102 := by
          have := isP_size hP
          rwa [keyE, key_len] at this
        rw [u64_id (by omega) (by omega)]
        refine Ev.congr (fun k => if_pos rfl) (Ev.bind (number1_ev (l[i].f0.size : Int) (by omega) (by omega)) ?_)
        have s1 := strOfNums_size acc
        have s2 := strOfNums_size [(l[i].f0.size : Int) % 256]
        have s3 := strOfNums_size (be8 l[i].f1)
        rw [be8_len] at s3
        rw [List.length_singleton] at s2
        refine Ev.congr (fun k => by rw [if_pos (by omega), if_pos (by omega)]) (Ev.bind (number8_ev l[i].f1 v0 v1) ?_)
        refine Ev.congr (f := fun k => forebearref08_Tree.l0 k (l.map e107) (strOfNums (acc ++ entB l[i])) ((i + 1 : Nat) : Int)) (fun k => ?_) (ih (i + 1) (acc ++ entB l[i]) (by omega) (by simp [entB, bytes_len, be8]; omega) (by rw [List.append_assoc, ← List.flatMap_cons]; exact he))
        rw [if_pos (by omega), ← str_append, entB_str, ByteArray.append_assoc, ByteArray.append_assoc, ByteArray.append_assoc]
theorem reftree_ev (l : List S67) (hv : ∀ x ∈ l, 0 ≤ x.f1 ∧ x.f1 < 18446744073709551616) : Ev (fun k => forebearref08_Tree.f k (l.map e107)) (strOfNums (treeT l).1, (treeT l).2) := by
  unfold treeT
  have hlen : (l.map e107).length = l.length := List.length_map _
  by_cases h64 : 64 < l.length
  · rw [if_pos h64]
    refine Ev.congr (f := fun _ => some ((⟨#[]⟩ : ByteArray), (4 : Int))) (fun k => ?_) (Ev.now _)
    unfold forebearref08_Tree.f
    rw [if_pos (by omega)]
  · rw [if_neg h64]
    refine Ev.congr (f := fun k => forebearref08_Tree.l0 k (l.map e107) (strOfNums []) 0) (fun k => by unfold forebearref08_Tree.f; rw [if_neg (by omega)]; rfl) ?_
    obtain ⟨c, hc, ec⟩ := rtree_l1 l (by omega) (strOfNums (l.flatMap entB)) l.length 0 (by omega)
    have := rtree_l0 l (by omega) hv _ l.length 0 [] (by omega) (by simp) (by rw [List.drop_zero, List.nil_append]; exact ec)
    rw [List.drop_zero] at this
    by_cases hp : l.all (fun x => isP (keyE x)) = true
    · rw [if_pos hp] at this ⊢
      have hk : okB l = c := by
        rw [Bool.eq_iff_iff, okB_iff, hc, ← pairs_iff]
        exact ⟨fun h n _ hn m hm _ _ => h n m hn hm, fun h n m hn hm => h n (Nat.zero_le _) hn m hm hn hm⟩
      rw [hk]
      revert this
      cases c
      · exact id
      · exact id
    · rw [if_neg hp] at this ⊢
      exact this
/-! ### The document's reading -/
theorem rdT_cons (d : Nat) (c : Int) (t : List Int) (out : List S67) : rdT (d + 1) (c :: t) out = if 64 < out.length then some out else if t.length < c.toNat + 8 then none else rdT d (t.drop (c.toNat + 8)) (out ++ [⟨strOfNums (t.take c.toNat), valI ((t.drop c.toNat).take 8) 0⟩]) := rfl
theorem idx_w {i n : Int} (h0 : 0 ≤ i) (h1 : i ≤ 4611686018427387000) (n0 : 0 ≤ n) (n1 : n < 256) : wrap64 (i + n) = i + n ∧ wrap64 (i + n + 9) = i + n + 9 ∧ wrap64 (i + 1) = i + 1 ∧ wrap64 (i + 1 + n) = i + 1 + n :=
  ⟨w64 _ (by omega), w64 _ (by omega), w64 _ (by omega), w64 _ (by omega)⟩
theorem w64b {c : Int} (c0 : 0 ≤ c) (c1 : c < 256) : wrap64 c = c := w64 c (by omega)
theorem refread_l0 (L : List Int) (hb : Bytes L) (hL : L.length ≤ 4611686018427387000) : ∀ (d i : Nat) (out : List S67), (L.drop i).length < d → i ≤ L.length → out.length ≤ 65 → (∀ x ∈ out, 0 ≤ x.f1 ∧ x.f1 < 18446744073709551616) →
    ∃ r, Ev (fun k => forebearref08_ReadTree.l0 k (strOfNums L) (out.map e107) (i : Int)) r ∧ r = (match rdT d (L.drop i) out with
      | none => (([] : List S67).map e107, (9 : Int))
      | some o => if (treeT o).2 = 0 then (o.map e107, 0) else (([] : List S67).map e107, 9)) := by
  intro d
  have hsz := strOfNums_size L
  induction d with
  | zero => intro i out h; omega
  | succ d ih =>
    intro i out hd hi ho hv
    have hlen : (out.map e107).length = out.length := List.length_map _
    by_cases hil : i < L.length
    · have hc := hb _ (List.getElem_mem hil)
      have hbt := bt_str L hb i hil
      rw [List.drop_eq_getElem_cons hil]
      generalize hcc : L[i] = c at hc hbt
      obtain ⟨c0, c1⟩ := hc
      have hdl : (L.drop (i + 1)).length = L.length - (i + 1) := List.length_drop ..
      by_cases hfew : (L.drop (i + 1)).length < c.toNat + 8
      · refine ⟨([], 9), ?_, ?_⟩
        · refine Ev.step (f := fun _ => some (([] : List S107), (9 : Int))) (fun k => ?_) (Ev.now _)
          have g0 : (i : Int) < ((strOfNums L).size : Int) := by omega
          have g1 : (0 : Int) ≤ (i : Int) := by omega
          have g2 : (i : Int) + c + 9 > ((strOfNums L).size : Int) := by omega
          obtain ⟨w1, w2, w3, w4⟩ := idx_w (i := (i : Int)) (n := c) (by omega) (by omega) c0 c1
          have hw : wrap64 (bt (strOfNums L) (i : Int)) = c := by rw [hbt]; exact w64b c0 c1
          simp only [forebearref08_ReadTree.l0]
          rw [if_pos g0, if_pos g1, hw, w1, w2, if_pos g2]
        · unfold rdT
          by_cases h64 : 64 < out.length
          · rw [if_pos h64]
            have : (treeT out).2 = 4 := by unfold treeT; rw [if_pos h64]
            simp only [this]
            rfl
          · rw [if_neg h64, if_pos hfew]; rfl
      · by_cases h64 : 64 < out.length
        · refine ⟨([], 9), ?_, ?_⟩
          · refine Ev.step (f := fun _ => some (([] : List S107), (9 : Int))) (fun k => ?_) (Ev.now _)
            have g0 : (i : Int) < ((strOfNums L).size : Int) := by omega
            have g1 : (0 : Int) ≤ (i : Int) := by omega
            have g2 : ¬ (i : Int) + c + 9 > ((strOfNums L).size : Int) := by omega
            have g3 : ((out.map e107).length : Int) > 64 := by omega
            obtain ⟨w1, w2, w3, w4⟩ := idx_w (i := (i : Int)) (n := c) (by omega) (by omega) c0 c1
            have hw : wrap64 (bt (strOfNums L) (i : Int)) = c := by rw [hbt]; exact w64b c0 c1
            simp only [forebearref08_ReadTree.l0]
            rw [if_pos g0, if_pos g1, hw, w1, w2, if_neg g2, if_pos g3]
          · unfold rdT
            rw [if_pos h64]
            have : (treeT out).2 = 4 := by unfold treeT; rw [if_pos h64]
            simp only [this]
            rfl
        · have hi2 : i + 1 + c.toNat + 8 ≤ L.length := by omega
          obtain ⟨n, rfl⟩ : ∃ n : Nat, c = (n : Int) := ⟨c.toNat, by omega⟩
          simp only [Int.toNat_natCast] at hi2 hfew
          have e1 : (strOfNums L).extract (i + 1) (i + 1 + n) = strOfNums ((L.drop (i + 1)).take n) := by
            rw [str_extract, List.drop_take, show i + 1 + n - (i + 1) = n by omega]
          have e2 : (strOfNums L).extract (i + 1 + n) (i + n + 9) = strOfNums (((L.drop (i + 1)).drop n).take 8) := by
            rw [str_extract, List.drop_take, List.drop_drop, show i + n + 9 - (i + 1 + n) = 8 by omega]
          have hl8 : (((L.drop (i + 1)).drop n).take 8).length = 8 := by rw [List.length_take, List.length_drop, hdl]; omega
          have hb8 : Bytes (((L.drop (i + 1)).drop n).take 8) := ((hb.drop _).drop _).take _
          have hvr := valI_range _ hb8 hl8
          obtain ⟨r, hr, er⟩ := ih (i + n + 9) (out ++ [⟨strOfNums ((L.drop (i + 1)).take n), valI (((L.drop (i + 1)).drop n).take 8) 0⟩]) (by rw [List.length_drop] at hd ⊢; omega) (by omega) (by simp; omega) (by
            intro x hx
            rcases List.mem_append.1 hx with hx | hx
            · exact hv x hx
            · obtain rfl := List.mem_singleton.1 hx; exact hvr)
          refine ⟨r, ?_, ?_⟩
          · refine Ev.step (f := fun k => (forebearref07_Value.f k (strOfNums (((L.drop (i + 1)).drop n).take 8))).bind fun t218 => (if (out.map e107).length < 5864062014805 then (forebearref08_ReadTree.l0 k (strOfNums L) (out.map e107 ++ [(⟨strOfNums ((L.drop (i + 1)).take n), t218⟩ : S107)]) ((i + n + 9 : Nat) : Int)) else (none))) (fun k => ?_) (Ev.bind (refvalue_ev _ hb8 hl8) ?_)
            · have g0 : (i : Int) < ((strOfNums L).size : Int) := by omega
              have g1 : (0 : Int) ≤ (i : Int) := by omega
              have g2 : ¬ (i : Int) + (n : Int) + 9 > ((strOfNums L).size : Int) := by omega
              have g3 : ¬ ((out.map e107).length : Int) > 64 := by omega
              have g4 : (0 : Int) ≤ (i : Int) + 1 := by omega
              have g5 : (i : Int) + 1 ≤ (i : Int) + 1 + (n : Int) := by omega
              have g6 : (i : Int) + 1 + (n : Int) ≤ ((strOfNums L).size : Int) := by omega
              have g7 : (0 : Int) ≤ (i : Int) + 1 + (n : Int) := by omega
              have g8 : (i : Int) + 1 + (n : Int) ≤ (i : Int) + (n : Int) + 9 := by omega
              have g9 : (i : Int) + (n : Int) + 9 ≤ ((strOfNums L).size : Int) := by omega
              have t1 : ((i : Int) + 1 + (n : Int)).toNat = i + 1 + n := by omega
              have t2 : ((i : Int) + (n : Int) + 9).toNat = i + n + 9 := by omega
              have t3 : ((i : Int) + 1).toNat = i + 1 := by omega
              have t4 : (i : Int) + (n : Int) + 9 = ((i + n + 9 : Nat) : Int) := by omega
              obtain ⟨w1, w2, w3, w4⟩ := idx_w (i := (i : Int)) (n := (n : Int)) (by omega) (by omega) c0 c1
              have hw : wrap64 (bt (strOfNums L) (i : Int)) = (n : Int) := by rw [hbt]; exact w64b c0 c1
              simp only [forebearref08_ReadTree.l0]
              rw [if_pos g0, if_pos g1, hw, w1, w2, w3, w4, if_neg g2, if_neg g3, if_pos g4, if_pos g5, if_pos g6, if_pos g7, if_pos g8, if_pos g9, t1, t2, t3, e1, e2, t4]
            · refine Ev.congr (fun k => if_pos (by omega)) ?_
              rw [List.map_append] at hr
              exact hr
          · rw [er, rdT_cons, if_neg h64, if_neg (by simpa using hfew)]
            simp only [Int.toNat_natCast, List.drop_drop]
            rw [show i + 1 + (n + 8) = i + n + 9 by omega]
    · have hdn : L.drop i = [] := List.drop_eq_nil_of_le (by omega)
      rw [hdn]
      refine ⟨_, ?_, rfl⟩
      refine Ev.step (f := fun k => (forebearref08_Tree.f k (out.map e107)).bind fun bt222 => (if bt222.2 = 0 then (some (out.map e107, 0)) else (some (([] : List (S107)), 9)))) (fun k => ?_) (Ev.bind (reftree_ev out hv) ?_)
      · simp only [forebearref08_ReadTree.l0]
        rw [if_neg (by omega)]
      · unfold rdT
        by_cases h : (treeT out).2 = 0
        · simp only [if_pos h]; exact Ev.now _
        · simp only [if_neg h]; exact Ev.now _
theorem refread_ev (L : List Int) (hb : Bytes L) (hL : L.length ≤ 4611686018427387000) : Ev (fun k => forebearref08_ReadTree.f k (strOfNums L)) ((readT L).1.map e107, (readT L).2) := by
  obtain ⟨r, hr, er⟩ := refread_l0 L hb hL (L.length + 1) 0 [] (by simp) (by omega) (by simp) (by simp)
  have : r = ((readT L).1.map e107, (readT L).2) := by
    rw [er, List.drop_zero]
    unfold readT
    cases rdT (L.length + 1) L [] with
    | none => rfl
    | some o =>
      by_cases h : (treeT o).2 = 0
      · simp only [if_pos h]
      · simp only [if_neg h]
  rw [← this]
  exact hr
/-! ### Lists of entries compared -/
theorem same_l0 (l : List S107) (hl : l.length ≤ 4611686018427387000) : ∀ (d i : Nat), i + d = l.length → Ev (fun k => forebearref08_SameTree.l0 k l l (i : Int)) true := by
  intro d
  induction d with
  | zero =>
    intro i hi
    refine Ev.step (f := fun _ => some true) (fun k => ?_) (Ev.now _)
    simp only [forebearref08_SameTree.l0]
    rw [if_neg (by omega)]
  | succ d ih =>
    intro i hi
    have hil : i < l.length := by omega
    refine Ev.step (f := fun k => forebearref08_SameTree.l0 k l l ((i + 1 : Nat) : Int)) (fun k => ?_) (ih (i + 1) (by omega))
    simp only [forebearref08_SameTree.l0]
    rw [if_pos (by omega), if_pos (by omega), if_pos (by omega), if_neg (by simp), wnat hil (by omega)]
theorem same_ev (l : List S107) (hl : l.length ≤ 4611686018427387000) : Ev (fun k => forebearref08_SameTree.f k l l) true := by
  refine Ev.congr (fun k => ?_) (same_l0 l hl l.length 0 (by omega))
  unfold forebearref08_SameTree.f
  rw [if_pos rfl]; rfl
theorem treeT_ok {l : List S67} (h : (treeT l).2 = 0) : l.length ≤ 64 ∧ l.all (fun x => isP (keyE x)) = true ∧ okB l = true ∧ (treeT l).1 = l.flatMap entB := by
  unfold treeT at h ⊢
  split at h
  · simp at h
  · rename_i h64
    rw [if_neg h64]
    split at h
    · rename_i hp
      rw [if_pos hp]
      revert h; cases okB l
      · simp
      · intro _
        exact ⟨by omega, hp, rfl, rfl⟩
    · simp at h
theorem readT_len (l : List Int) : (readT l).1.length ≤ 64 := by
  unfold readT
  cases rdT (l.length + 1) l [] with
  | none => simp
  | some o =>
    by_cases h : (treeT o).2 = 0
    · simp only [if_pos h]; exact (treeT_ok h).1
    · simp only [if_neg h]; simp
end Go.Proofs.Ythigjlahanejjaa.Pure
