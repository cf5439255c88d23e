/- The plain statement of the law ObjectTrees, without program and memory. No condition. -/
import Derived.Test.YthigjlahanejjaaMOx12
import Derived.Test.YthigjlahanejjaaPlainRefTree
namespace Go.Proofs.Ythigjlahanejjaa.Pure
open Go.RowKit Go.Proofs.Ythigjlahanejjaa.MO Go.Proofs.YthigjlahanejjaaW.PrintWords Go.Proofs.YthigjlahanejjaaW.PrintLast
theorem trees_l0 (l : List S67) (hl : l.length ≤ 5864062014634) (b : List Int) (x6 : List Int) (x7 : Int) (x11 : List S67) (hx : x11.length ≤ 64) (x12 : Int) : ∀ (d i : Nat), i + d = l.length →
    Ev (fun k => forebearlaw08_ObjectTrees.l0 k l b l x6 x7 (strOfNums x6) x7 b x11 x12 (x11.map e107) x12 (i : Int)) true := by
  intro d
  induction d with
  | zero =>
    intro i hi
    refine Ev.step (f := fun k => (forebearlaw08_Entries.f k x11).bind fun t258 => ((forebearref08_SameTree.f k t258 (x11.map e107)).bind fun t261 => (if t261 = true then (some ((strOfNums b).toList == (strOfNums b).toList)) else (some false)))) (fun k => ?_) (Ev.bind (entries_ev x11 (by omega)) (Ev.bind (same_ev _ (by simp; omega)) ?_))
    · simp only [forebearlaw08_ObjectTrees.l0]
      rw [if_neg (by omega), if_pos (by trivial), if_pos (by trivial)]
      simp only [if_true]
    · exact Ev.congr (fun k => by rw [if_pos rfl, beq_self_eq_true]) (Ev.now _)
  | succ d ih =>
    intro i hi
    have hil : i < l.length := by omega
    refine Ev.step (f := fun k => forebearlaw08_ObjectTrees.l0 k l b l x6 x7 (strOfNums x6) x7 b x11 x12 (x11.map e107) x12 ((i + 1 : Nat) : Int)) (fun k => ?_) (ih (i + 1) (by omega))
    simp only [forebearlaw08_ObjectTrees.l0]
    rw [if_pos (by omega), if_pos (by omega), if_pos (by omega), if_neg (by simp), wnat hil (by omega)]
theorem ObjectTrees : forebearlaw08_ObjectTrees.Pure := by
  intro l b hl hb
  apply Ev.rounds
  have hlen : l.length ≤ 5864062014634 := by have := hl.1; omega
  have hbb := bytes_of hb.2.2
  refine Ev.congr (fun k => by unfold forebearlaw08_ObjectTrees.f; rfl) (Ev.bind awake8_ev ?_)
  refine Ev.congr (fun k => if_pos rfl) ?_
  by_cases h : (b.length : Int) > 100000
  · exact Ev.congr (fun k => if_pos h) (Ev.now _)
  · refine Ev.congr (fun k => if_neg h) ?_
    simp only [Option.bind_some, List.nil_append]
    refine Ev.congr (fun k => if_pos (by simp; omega)) ?_
    refine Ev.bind (tree_ev l fun x hx => (hl.2.2 x hx).1) ?_
    refine Ev.bind (entries_ev l hlen) ?_
    refine Ev.bind (reftree_ev l fun x hx => u64_range (hl.2.2 x hx).2) ?_
    refine Ev.congr (fun k => if_pos (by simp; omega)) ?_
    refine Ev.bind (readtree_ev b hbb) ?_
    refine Ev.bind (refread_ev b hbb (by omega)) ?_
    exact trees_l0 l hlen b (treeT l).1 (treeT l).2 (readT b).1 (readT_len b) (readT b).2 l.length 0 (by omega)
end Go.Proofs.Ythigjlahanejjaa.Pure
