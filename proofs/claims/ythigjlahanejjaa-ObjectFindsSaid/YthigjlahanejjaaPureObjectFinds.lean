/- The plain statement of the law ObjectFinds, without program and memory. No condition. -/
import Derived.Test.YthigjlahanejjaaMOx14
import Derived.Test.YthigjlahanejjaaPlainFind
import Derived.Test.YthigjlahanejjaaPlainTreeOk
import Derived.Test.YthigjlahanejjaaPlainAwakeO
namespace Go.Proofs.Ythigjlahanejjaa.Pure
open Go.RowKit Go.Proofs.Ythigjlahanejjaa.MO Go.Proofs.YthigjlahanejjaaW.PrintWords Go.Proofs.YthigjlahanejjaaW.PrintLast
theorem finds_own : ∀ (l : List S67), Rise (ks l) → ∀ x ∈ l, findE x.f0 l = (x.f1, true)
  | [], _, x, hx => by simp at hx
  | y :: l, hR, x, hx => by
    unfold findE
    rcases List.mem_cons.1 hx with e | hx
    · subst e; rw [if_pos rfl]
    · have h1 := List.rel_of_pairwise_cons hR (List.mem_map_of_mem (f := keyE) hx)
      rw [if_neg (fun e => by rw [toList_key, toList_key] at e; exact absurd h1 (by rw [show keyE y = keyE x from e]; exact lt_irr _))]
      exact finds_own l (List.Pairwise.of_cons hR) x hx
theorem finds_l0 (l : List S67) (hl : l.length ≤ 5864062014634) (hR : Rise (ks l)) : ∀ (d i : Nat), i + d = l.length → Ev (fun k => forebearlaw08_ObjectFinds.l0 k l (i : Int)) true := by
  intro d
  induction d with
  | zero =>
    intro i hi
    refine Ev.step (f := fun _ => some true) (fun k => ?_) (Ev.now _)
    simp only [forebearlaw08_ObjectFinds.l0]
    rw [if_neg (by omega)]
  | succ d ih =>
    intro i hi
    have hil : i < l.length := by omega
    refine Ev.step (f := fun k => (object_Find.f k l l[i].f0).bind fun bt279 => (if bt279.2 = true then (if bt279.1 = l[i].f1 then (forebearlaw08_ObjectFinds.l0 k l ((i + 1 : Nat) : Int)) else (some false)) else (some false))) (fun k => ?_) (Ev.bind (find_ev l hl l[i].f0) ?_)
    · simp only [forebearlaw08_ObjectFinds.l0]
      rw [if_pos (by omega), if_pos (by omega), rd67 hil, wnat hil (by omega)]
    · rw [finds_own l hR _ (List.getElem_mem hil)]
      exact Ev.congr (fun k => by rw [if_pos rfl, if_pos rfl]) (ih (i + 1) (by omega))
theorem ObjectFinds : forebearlaw08_ObjectFinds.Pure := by
  intro l a hl ha
  apply Ev.rounds
  have hlen : l.length ≤ 5864062014634 := by have := hl.1; omega
  refine Ev.congr (fun k => by unfold forebearlaw08_ObjectFinds.f; rfl) (Ev.bind awake8_ev ?_)
  refine Ev.congr (fun k => if_pos rfl) (Ev.bind (find_ev l hlen a) (Ev.bind (entries_ev l hlen) (Ev.bind (reffind_ev l hlen a) ?_)))
  refine Ev.congr (fun k => if_pos rfl) ?_
  refine Ev.step (f := fun k => (object_Tree.f k l).bind fun bt274 => (if bt274.2 = 0 then (forebearlaw08_ObjectFinds.l0 k l 0) else (some true))) (fun k => ?_) (Ev.bind (tree_ev l fun x hx => (hl.2.2 x hx).1) ?_)
  · simp only [forebearlaw08_ObjectFinds.j0]
    rw [if_neg (by simp)]
  · by_cases h : (treeT l).2 = 0
    · refine Ev.congr (fun k => if_pos h) (finds_l0 l hlen ?_ l.length 0 (by omega))
      have hb : okB l = true := by
        unfold treeT at h
        split at h
        · simp at h
        · split at h
          · revert h; cases okB l
            · simp
            · simp
          · simp at h
      exact ((okB_iff l).1 hb).1
    · exact Ev.congr (fun k => if_neg h) (Ev.now _)
end Go.Proofs.Ythigjlahanejjaa.Pure
