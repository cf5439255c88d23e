/- The document's tree of entries, and its reading, in plain Lean. No condition. -/
import Derived.Test.YthigjlahanejjaaMOx0
import Derived.Test.YthigjlahanejjaaMOx6
import Derived.Test.YthigjlahanejjaaPlainReadTree
import Derived.Test.YthigjlahanejjaaPlainFind
set_option linter.unusedVariables false
set_option linter.unusedSimpArgs false
namespace Go.Proofs.Ythigjlahanejjaa.Pure
open Go.RowKit Go.Proofs.Ythigjlahanejjaa.MO Go.Proofs.Ythigjlahanejjaa.Opening Go.Proofs.YthigjlahanejjaaW.PrintWords Go.Proofs.YthigjlahanejjaaW.PrintLast Go.Proofs.YthigjlahanejjaaW.PrintMore
/-! ### The document's reading -/
theorem rdT_cons (d : Nat) (c : Int) (t : List Int) (out : List S67) : rdT (d + 1) (c :: t) out = if 64 < out.length then some out else if t.length < c.toNat + 8 then none else rdT d (t.drop (c.toNat + 8)) (out ++ [⟨strOfNums (t.take c.toNat), valI ((t.drop c.toNat).take 8) 0⟩]) := rfl
theorem idx_w {i n : Int} (h0 : 0 ≤ i) (h1 : i ≤ 4611686018427387000) (n0 : 0 ≤ n) (n1 : n < 256) : wrap64 (i + n) = i + n ∧ wrap64 (i + n + 9) = i + n + 9 ∧ wrap64 (i + 1) = i + 1 ∧ wrap64 (i + 1 + n) = i + 1 + n :=
  ⟨w64 _ (by omega), w64 _ (by omega), w64 _ (by omega), w64 _ (by omega)⟩
theorem w64b {c : Int} (c0 : 0 ≤ c) (c1 : c < 256) : wrap64 c = c := w64 c (by omega)
/-! ### Lists of entries compared -/
theorem same_l0 (l : List S107) (hl : l.length ≤ 4611686018427387000) : ∀ (d i : Nat), i + d = l.length → Ev (fun k => forebearref08_SameTree.l0 k l l (i : Int)) true := by
  intro d
  induction d with
  | zero =>
    intro i hi
    refine Ev.step (f := fun _ => some true) (fun k => ?_) (Ev.now _)
    simp only [forebearref08_SameTree.l0]
    rw [if_neg (by omega)]
  | succ d ih =>
    intro i hi
    have hil : i < l.length := by omega
    refine Ev.step (f := fun k => forebearref08_SameTree.l0 k l l ((i + 1 : Nat) : Int)) (fun k => ?_) (ih (i + 1) (by omega))
    simp only [forebearref08_SameTree.l0]
    rw [if_pos (by omega), if_pos (by omega), if_pos (by omega), if_neg (by simp), wnat hil (by omega)]
theorem same_ev (l : List S107) (hl : l.length ≤ 4611686018427387000) : Ev (fun k => forebearref08_SameTree.f k l l) true := by
  refine Ev.congr (fun k => ?_) (same_l0 l hl l.length 0 (by omega))
  unfold forebearref08_SameTree.f
  rw [if_pos rfl]; rfl
theorem treeT_ok {l : List S67} (h : (treeT l).2 = 0) : l.length ≤ 64 ∧ l.all (fun x => isP (keyE x)) = true ∧ okB l = true ∧ (treeT l).1 = l.flatMap entB := by
  unfold treeT at h ⊢
  split at h
  · simp at h
  · rename_i h64
    rw [if_neg h64]
    split at h
    · rename_i hp
      rw [if_pos hp]
      revert h; cases okB l
      · simp
      · intro _
        exact ⟨by omega, hp, rfl, rfl⟩
    · simp at h
theorem readT_len (l : List Int) : (readT l).1.length ≤ 64 := by
  unfold readT
  cases rdT (l.length + 1) l [] with
  | none => simp
  | some o =>
    by_cases h : (treeT o).2 = 0
    · simp only [if_pos h]; exact (treeT_ok h).1
    · simp only [if_neg h]; simp
end Go.Proofs.Ythigjlahanejjaa.Pure
