/- What is found among entries, in plain Lean. No condition. -/
import Derived.Test.YthigjlahanejjaaPlainTree
import Derived.Test.YthigjlahanejjaaMOx7
import Derived.Test.YthigjlahanejjaaMOx10
import Derived.Test.YthigjlahanejjaaMOx13
import Derived.Lib.Bytes
set_option linter.unusedVariables false
set_option linter.unusedSimpArgs false
namespace Go.Proofs.Ythigjlahanejjaa.Pure
open Go.RowKit Go.Proofs.Ythigjlahanejjaa.MO Go.Proofs.Ythigjlahanejjaa.Opening Go.Proofs.YthigjlahanejjaaW.PrintWords Go.Proofs.YthigjlahanejjaaW.PrintLast Go.Proofs.YthigjlahanejjaaW.PrintMore
theorem rd107 {l : List S107} {i : Nat} (h : i < l.length) : rd_T107 l (i : Int) = l[i] := by
  simp [rd_T107, List.getD_eq_getElem?_getD, h]
def e107 (x : S67) : S107 := ⟨x.f0, x.f1⟩
theorem entries_l0 (l : List S67) (hl : l.length ≤ 5864062014634) : ∀ (d i : Nat) (acc : List S107), i + d = l.length → acc.length ≤ i → Ev (fun k => forebearlaw08_Entries.l0 k l acc (i : Int)) (acc ++ (l.drop i).map e107) := by
  intro d
  induction d with
  | zero =>
    intro i acc hi ha
    refine Ev.step (f := fun _ => some acc) (fun k => ?_) ?_
    · simp only [forebearlaw08_Entries.l0]
      rw [if_neg (by omega)]
    · rw [List.drop_eq_nil_of_le (by omega)]
      simpa using Ev.now acc
  | succ d ih =>
    intro i acc hi ha
    have hil : i < l.length := by omega
    refine Ev.step (f := fun k => forebearlaw08_Entries.l0 k l (acc ++ [e107 l[i]]) ((i + 1 : Nat) : Int)) (fun k => ?_) ?_
    · simp only [forebearlaw08_Entries.l0]
      rw [if_pos (by omega), if_pos (by omega), if_pos (by omega), rd67 hil, wnat hil (by omega)]; rfl
    · have := ih (i + 1) (acc ++ [e107 l[i]]) (by omega) (by simp; omega)
      rw [List.drop_eq_getElem_cons hil, List.map_cons]
      simpa using this
theorem entries_ev (l : List S67) (hl : l.length ≤ 5864062014634) : Ev (fun k => forebearlaw08_Entries.f k l) (l.map e107) := by
  have := entries_l0 l hl l.length 0 [] (by omega) (by simp)
  simpa [forebearlaw08_Entries.f] using this
def findE (a : ByteArray) : List S67 → Int × Bool
  | [] => (0, false)
  | x :: l => if x.f0.toList = a.toList then (x.f1, true) else findE a l
theorem find_l0 (l : List S67) (hl : l.length ≤ 5864062014634) (a : ByteArray) : ∀ (d i : Nat), i + d = l.length → Ev (fun k => object_Find.l0 k a l (l.length : Int) (i : Int)) (findE a (l.drop i)) := by
  intro d
  induction d with
  | zero =>
    intro i hi
    refine Ev.step (f := fun _ => some (0, false)) (fun k => ?_) ?_
    · simp only [object_Find.l0]
      rw [if_neg (by omega)]
    · rw [List.drop_eq_nil_of_le (by omega)]
      exact Ev.now _
  | succ d ih =>
    intro i hi
    have hil : i < l.length := by omega
    rw [List.drop_eq_getElem_cons hil, findE]
    by_cases c : l[i].f0.toList = a.toList
    · rw [if_pos c]
      refine Ev.step (f := fun _ => some (l[i].f1, true)) (fun k => ?_) (Ev.now _)
      simp only [object_Find.l0]
      rw [if_pos (by omega), if_pos (by omega), if_pos (by omega), rd67 hil, if_pos c]
    · rw [if_neg c]
      refine Ev.step (f := fun k => object_Find.l0 k a l (l.length : Int) ((i + 1 : Nat) : Int)) (fun k => ?_) (ih (i + 1) (by omega))
      simp only [object_Find.l0]
      rw [if_pos (by omega), if_pos (by omega), if_pos (by omega), rd67 hil, if_neg c, wnat hil (by omega)]
theorem find_ev (l : List S67) (hl : l.length ≤ 5864062014634) (a : ByteArray) : Ev (fun k => object_Find.f k l a) (findE a l) := by
  have := find_l0 l hl a l.length 0 (by omega)
  simpa [object_Find.f] using this
theorem reffind_l0 (l : List S67) (hl : l.length ≤ 5864062014634) (a : ByteArray) : ∀ (d i : Nat), i + d = l.length → Ev (fun k => forebearref08_Find.l0 k (l.map e107) a (i : Int)) (findE a (l.drop i)) := by
  intro d
  induction d with
  | zero =>
    intro i hi
    refine Ev.step (f := fun _ => some (0, false)) (fun k => ?_) ?_
    · simp only [forebearref08_Find.l0]
      rw [if_neg (by rw [List.length_map]; omega)]
    · rw [List.drop_eq_nil_of_le (by omega)]
      exact Ev.now _
  | succ d ih =>
    intro i hi
    have hil : i < l.length := by omega
    have hil' : i < (l.map e107).length := by rw [List.length_map]; exact hil
    rw [List.drop_eq_getElem_cons hil, findE]
    have e : (rd_T107 (l.map e107) (i : Int)) = e107 l[i] := by rw [rd107 hil', List.getElem_map]
    by_cases c : l[i].f0.toList = a.toList
    · rw [if_pos c]
      refine Ev.step (f := fun _ => some (l[i].f1, true)) (fun k => ?_) (Ev.now _)
      simp only [forebearref08_Find.l0]
      rw [if_pos (by omega), if_pos (by omega), e, if_pos (show (e107 l[i]).f0.toList = a.toList from c)]; rfl
    · rw [if_neg c]
      refine Ev.step (f := fun k => forebearref08_Find.l0 k (l.map e107) a ((i + 1 : Nat) : Int)) (fun k => ?_) (ih (i + 1) (by omega))
      simp only [forebearref08_Find.l0]
      rw [if_pos (by omega), if_pos (by omega), e, if_neg (show ¬ (e107 l[i]).f0.toList = a.toList from c), wnat hil (by omega)]
theorem reffind_ev (l : List S67) (hl : l.length ≤ 5864062014634) (a : ByteArray) : Ev (fun k => forebearref08_Find.f k (l.map e107) a) (findE a l) := by
  have := reffind_l0 l hl a l.length 0 (by omega)
  simpa [forebearref08_Find.f] using this
end Go.Proofs.Ythigjlahanejjaa.Pure
