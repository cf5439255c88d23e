/- The program's reading of a tree, in plain Lean. No condition. -/
import Derived.Test.YthigjlahanejjaaMOx0
import Derived.Test.YthigjlahanejjaaMOx2
import Derived.Test.YthigjlahanejjaaMOx3
import Derived.Test.YthigjlahanejjaaPlainBytes
import Derived.Test.YthigjlahanejjaaPlainTreeOk
set_option linter.unusedVariables false
set_option linter.unusedSimpArgs false
namespace Go.Proofs.Ythigjlahanejjaa.Pure
open Go.RowKit Go.Proofs.Ythigjlahanejjaa.MO Go.Proofs.Ythigjlahanejjaa.Opening Go.Proofs.YthigjlahanejjaaW.PrintWords Go.Proofs.YthigjlahanejjaaW.PrintLast Go.Proofs.YthigjlahanejjaaW.PrintMore
def rdT : Nat → List Int → List S67 → Option (List S67)
  | 0, _, _ => none
  | _ + 1, [], out => some out
  | d + 1, c :: t, out => if 64 < out.length then some out else if t.length < c.toNat + 8 then none else rdT d (t.drop (c.toNat + 8)) (out ++ [⟨strOfNums (t.take c.toNat), valI ((t.drop c.toNat).take 8) 0⟩])
theorem rt_bad (l : List Int) (out : List S67) : Ev (fun k => rtGo k l true out) (out, true) := by
  refine Ev.step (f := fun _ => some (out, true)) (fun k => ?_) (Ev.now _)
  unfold rtGo
  by_cases h : 0 < l.length
  · rw [if_pos h, if_pos rfl]
  · rw [if_neg h]
theorem take_good {l : List Int} {n : Int} (h : n ≤ l.length) : takeR l false n = (l.take n.toNat, l.drop n.toNat, false) := by
  unfold takeR; rw [if_neg (by decide), if_neg (by omega)]
theorem take_few {l : List Int} {n : Int} (h : (l.length : Int) < n) : takeR l false n = ([], l, true) := by
  unfold takeR; rw [if_neg (by decide), if_pos h]
theorem take_bad (l : List Int) (n : Int) : takeR l true n = ([], l, true) := by
  unfold takeR; rw [if_pos rfl]
theorem one_cons (c : Int) (t : List Int) (h0 : 0 ≤ c) (h1 : c < 256) : oneR (c :: t) false = c := by
  unfold oneR
  rw [take_good (by simp; omega)]
  simp [rd]
  exact w64 c (by omega)
theorem eight_good {l : List Int} (hb : Bytes l) (h : 8 ≤ l.length) : eightR l false = valI (l.take 8) 0 := by
  unfold eightR
  rw [take_good (by omega)]
  exact fold_in _ 0 0 (hb.take 8) (by simp; omega) (by decide) (by decide)
theorem rt_ev : ∀ (d : Nat) (l : List Int) (out : List S67), l.length < d → Bytes l → ∃ o b, Ev (fun k => rtGo k l false out) (o, b) ∧ rdT d l out = cond b none (some o) := by
  intro d
  induction d with
  | zero => intro l out h; omega
  | succ d ih =>
    intro l out hl hb
    cases l with
    | nil =>
      refine ⟨out, false, ?_, rfl⟩
      refine Ev.step (f := fun _ => some (out, false)) (fun k => ?_) (Ev.now _)
      unfold rtGo
      rw [if_neg (by decide)]
    | cons c t =>
      obtain ⟨c0, c1⟩ := hb c (List.mem_cons_self)
      have hbt : Bytes t := fun y hy => hb y (List.mem_cons_of_mem _ hy)
      unfold rdT
      by_cases h64 : 64 < out.length
      · refine ⟨out, false, ?_, by rw [if_pos h64]; rfl⟩
        refine Ev.step (f := fun _ => some (out, false)) (fun k => ?_) (Ev.now _)
        unfold rtGo
        rw [if_pos (by simp), if_neg (by decide), if_neg (by omega)]
      · rw [if_neg h64]
        have t1 : takeR (c :: t) false 1 = ([c], t, false) := by rw [take_good (by simp; omega)]; rfl
        have hone := one_cons c t c0 c1
        by_cases hs : t.length < c.toNat + 8
        · rw [if_pos hs]
          by_cases hs2 : t.length < c.toNat
          · have t2 : takeR t false c = ([], t, true) := take_few (by omega)
            refine ⟨out ++ [⟨strOfNums [], eightR t true⟩], true, ?_, rfl⟩
            refine Ev.step (fun k => ?_) (rt_bad t (out ++ [⟨strOfNums [], eightR t true⟩]))
            conv => lhs; unfold rtGo
            rw [if_pos (by simp), if_neg (by decide), if_pos (by omega), hone, if_pos c0, t1]
            simp only [t2, take_bad]
          · have t2 : takeR t false c = (t.take c.toNat, t.drop c.toNat, false) := take_good (by omega)
            have t3 : takeR (t.drop c.toNat) false 8 = ([], t.drop c.toNat, true) := take_few (by rw [List.length_drop]; omega)
            refine ⟨out ++ [⟨strOfNums (t.take c.toNat), eightR (t.drop c.toNat) false⟩], true, ?_, rfl⟩
            refine Ev.step (fun k => ?_) (rt_bad (t.drop c.toNat) (out ++ [⟨strOfNums (t.take c.toNat), eightR (t.drop c.toNat) false⟩]))
            conv => lhs; unfold rtGo
            rw [if_pos (by simp), if_neg (by decide), if_pos (by omega), hone, if_pos c0, t1]
            simp only [t2, t3]
        · rw [if_neg hs]
          have t2 : takeR t false c = (t.take c.toNat, t.drop c.toNat, false) := take_good (by omega)
          have t3 : takeR (t.drop c.toNat) false 8 = ((t.drop c.toNat).take 8, t.drop (c.toNat + 8), false) := by
            rw [take_good (by rw [List.length_drop]; omega), show (8 : Int).toNat = 8 from rfl, List.drop_drop]
          have t4 := eight_good (hbt.drop c.toNat) (by rw [List.length_drop]; omega)
          obtain ⟨o, b, ho, hr⟩ := ih (t.drop (c.toNat + 8)) (out ++ [⟨strOfNums (t.take c.toNat), valI ((t.drop c.toNat).take 8) 0⟩]) (by rw [List.length_drop]; simp at hl; omega) (hbt.drop _)
          refine ⟨o, b, ?_, hr⟩
          refine Ev.step (fun k => ?_) ho
          conv => lhs; unfold rtGo
          rw [if_pos (by simp), if_neg (by decide), if_pos (by omega), hone, if_pos c0, t1]
          simp only [t2, t3, t4]
theorem rdT_small : ∀ (d : Nat) (l : List Int) (out o : List S67), Bytes l → (∀ x ∈ out, x.f0.size ≤ 255) → rdT d l out = some o → ∀ x ∈ o, x.f0.size ≤ 255 := by
  intro d
  induction d with
  | zero => intro l out o _ _ h; cases h
  | succ d ih =>
    intro l out o hb ho h
    cases l with
    | nil => obtain rfl := Option.some.inj h; exact ho
    | cons c t =>
      have hc := hb c (List.mem_cons_self)
      unfold rdT at h
      split at h
      · obtain rfl := Option.some.inj h; exact ho
      · split at h
        · cases h
        · refine ih _ _ _ (fun y hy => hb y (List.mem_cons_of_mem _ (List.mem_of_mem_drop hy))) ?_ h
          intro x hx
          rcases List.mem_append.1 hx with hx | hx
          · exact ho x hx
          · obtain rfl := List.mem_singleton.1 hx
            simp only [strOfNums_size, List.length_take]; omega
noncomputable def readT (l : List Int) : List S67 × Int := match rdT (l.length + 1) l [] with
  | none => ([], 9)
  | some o => if (treeT o).2 = 0 then (o, 0) else ([], 9)
theorem readtree_ev (l : List Int) (hb : Bytes l) : Ev (fun k => object_ReadTree.f k l) (readT l) := by
  obtain ⟨o, b, ho, hr⟩ := rt_ev (l.length + 1) l [] (by omega) hb
  unfold readT
  rw [hr]
  refine Ev.congr (fun k => by unfold object_ReadTree.f; rfl) (Ev.bind ho ?_)
  cases b
  · refine Ev.congr (f := fun k => (object_Tree.f k o).bind fun b => if b.2 = 0 then some (o, 0) else some ([], 9)) (fun k => if_neg (by simp)) (Ev.bind (tree_ev o fun x hx => ?_) ?_)
    · have := rdT_small _ _ _ _ hb (by simp) hr x hx
      omega
    · simp only [cond_false]
      by_cases h : (treeT o).2 = 0
      · simp only [if_pos h]; exact Ev.now _
      · simp only [if_neg h]; exact Ev.now _
  · exact Ev.congr (fun k => if_pos (by trivial)) (Ev.now _)
end Go.Proofs.Ythigjlahanejjaa.Pure
