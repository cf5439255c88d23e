/- The plain statement of the law ObjectBack, without program and memory. No condition. -/
import Derived.Test.YthigjlahanejjaaMOx0
import Derived.Test.YthigjlahanejjaaMOx9
import Derived.Test.YthigjlahanejjaaPlainBackC
import Derived.Test.YthigjlahanejjaaPlainRefTree
set_option linter.unusedVariables false
set_option linter.unusedSimpArgs false
namespace Go.Proofs.Ythigjlahanejjaa.Pure
open Go.RowKit Go.Proofs.Ythigjlahanejjaa.MO Go.Proofs.YthigjlahanejjaaW.PrintWords Go.Proofs.YthigjlahanejjaaW.PrintLast
/-! ### Trees written and read back -/
theorem rdT_of : ∀ (l : List S67) (out : List S67) (d : Nat), (l.flatMap entB).length < d → out.length + l.length ≤ 64 → (∀ x ∈ l, x.f0.size ≤ 102 ∧ U64 x.f1) → rdT d (l.flatMap entB) out = some (out ++ l)
  | [], out, d, hd, _, _ => by
    obtain ⟨d, rfl⟩ : ∃ d', d = d' + 1 := ⟨d - 1, by omega⟩
    rw [List.append_nil]; rfl
  | x :: l, out, d, hd, hl, hx => by
    obtain ⟨d, rfl⟩ : ∃ d', d = d' + 1 := ⟨d - 1, by omega⟩
    obtain ⟨h1, h2⟩ := hx x (List.mem_cons_self)
    have hc : (x.f0.size : Int) % 256 = (x.f0.size : Int) := by omega
    have e : (x :: l).flatMap entB = (x.f0.size : Int) :: (bytesOf x.f0 ++ (be8 x.f1 ++ l.flatMap entB)) := by
      rw [List.flatMap_cons, entB, hc, List.cons_append, List.append_assoc]
    rw [e] at hd ⊢
    rw [List.length_cons, List.length_append, List.length_append, bytes_len, be8_len] at hd
    have hdr : (bytesOf x.f0 ++ (be8 x.f1 ++ l.flatMap entB)).drop (x.f0.size + 8) = l.flatMap entB := by
      rw [← List.drop_drop, List.drop_left' (bytes_len x.f0), List.drop_left' (be8_len x.f1)]
    rw [rdT_cons, if_neg (by rw [List.length_cons] at hl; omega), Int.toNat_natCast, if_neg (by rw [List.length_append, List.length_append, bytes_len, be8_len]; omega), List.take_left' (bytes_len x.f0), List.drop_left' (bytes_len x.f0), List.take_left' (be8_len x.f1), hdr, val_be8 _ h2.1 h2.2, str_bytes]
    have := rdT_of l (out ++ [x]) d (by omega) (by rw [List.length_append, List.length_singleton]; rw [List.length_cons] at hl; omega) fun y hy => hx y (List.mem_cons_of_mem _ hy)
    rw [this, List.append_assoc]; rfl
theorem readT_of {l : List S67} (h : (treeT l).2 = 0) (hv : ∀ x ∈ l, U64 x.f1) : readT (treeT l).1 = (l, 0) := by
  obtain ⟨h1, h2, h3, h4⟩ := treeT_ok h
  rw [h4]
  unfold readT
  have := rdT_of l [] ((l.flatMap entB).length + 1) (by omega) (by simpa using h1) (fun x hx => ⟨by
    have := isP_size (List.all_eq_true.1 h2 x hx)
    rwa [keyE, key_len] at this, hv x hx⟩)
  rw [this, List.nil_append]
  simp only [if_pos h]
theorem rdT_back : ∀ (d : Nat) (l : List Int) (out o : List S67), Bytes l → rdT d l out = some o → o.length ≤ 64 → ∃ o2, o = out ++ o2 ∧ o2.flatMap entB = l := by
  intro d
  induction d with
  | zero => intro l out o _ h; cases h
  | succ d ih =>
    intro l out o hb h ho
    cases l with
    | nil => obtain rfl := Option.some.inj h; exact ⟨[], by simp, rfl⟩
    | cons c t =>
      obtain ⟨c0, c1⟩ := hb c (List.mem_cons_self)
      have hbt : Bytes t := fun y hy => hb y (List.mem_cons_of_mem _ hy)
      rw [rdT_cons] at h
      split at h
      · obtain rfl := Option.some.inj h; omega
      · split at h
        · cases h
        · rename_i h2
          obtain ⟨o2, e1, e2⟩ := ih _ _ _ (hbt.drop _) h ho
          refine ⟨⟨strOfNums (t.take c.toNat), valI ((t.drop c.toNat).take 8) 0⟩ :: o2, by rw [e1, List.append_assoc]; rfl, ?_⟩
          rw [List.flatMap_cons, e2, entB]
          simp only []
          rw [strOfNums_size, nums_str _ (hbt.take _), be8_val _ ((hbt.drop _).take _) (by rw [List.length_take, List.length_drop]; omega), List.length_take, Nat.min_eq_left (by omega), show ((c.toNat : Nat) : Int) % 256 = c by omega]
          have e : (t.drop c.toNat).take 8 ++ t.drop (c.toNat + 8) = t.drop c.toNat := by
            rw [← List.drop_drop, List.take_append_drop]
          rw [List.cons_append, List.append_assoc, e, List.take_append_drop]
theorem readT_back {l : List Int} (hb : Bytes l) (h : (readT l).2 = 0) : treeT (readT l).1 = (l, 0) := by
  unfold readT at h ⊢
  revert h
  cases hr : rdT (l.length + 1) l [] with
  | none => intro h; simp at h
  | some o =>
    by_cases h0 : (treeT o).2 = 0
    · intro _
      simp only [if_pos h0]
      obtain ⟨h1, h2, h3, h4⟩ := treeT_ok h0
      obtain ⟨o2, e1, e2⟩ := rdT_back _ _ _ _ hb hr h1
      rw [List.nil_append] at e1
      subst e1
      rw [← e2, ← h4, ← h0]
    · intro h; simp only [if_neg h0] at h; simp at h
theorem readT_no {l : List Int} (h : ¬ (readT l).2 = 0) : readT l = ([], 9) := by
  unfold readT at h ⊢
  revert h
  cases hr : rdT (l.length + 1) l [] with
  | none => intro h; rfl
  | some o =>
    by_cases h0 : (treeT o).2 = 0
    · intro h; simp only [if_pos h0] at h; exact absurd trivial h
    · intro _; simp only [if_neg h0]
theorem readT_size {l : List Int} (hb : Bytes l) : ∀ x ∈ (readT l).1, x.f0.size ≤ 140737488351232 := by
  intro x hx
  unfold readT at hx
  revert hx
  cases hr : rdT (l.length + 1) l [] with
  | none => intro hx; simp at hx
  | some o =>
    by_cases h0 : (treeT o).2 = 0
    · intro hx
      simp only [if_pos h0] at hx
      have := rdT_small _ _ _ _ hb (by simp) hr x hx
      omega
    · intro hx; simp only [if_neg h0] at hx; simp at hx
theorem tree_bytes {l : List S67} (h : (treeT l).2 = 0) : Bytes (treeT l).1 := by
  rw [(treeT_ok h).2.2.2]
  intro y hy
  obtain ⟨x, _, hx⟩ := List.mem_flatMap.1 hy
  unfold entB at hx
  rcases List.mem_cons.1 hx with e | hx
  · rw [e]; omega
  · exact ((bytesOf_bytes _).append (be8_bytes _)) y hx
/-! ### The law -/
theorem back_j2 (l : List Int) (hb : Bytes l) : Ev (fun k => forebearlaw08_ObjectBack.j2 k l) true := by
  by_cases h : formC l ∧ (commitT (rawC l).1 (rawC l).2.1 (rawC l).2.2.1 (rawC l).2.2.2).2 = 0
  · have hr : readC l = ((rawC l).1, (rawC l).2.1, (rawC l).2.2.1, (rawC l).2.2.2, 0) := by unfold readC; rw [if_pos h]
    have hback := rc_back hb h.1 h.2
    refine Ev.step (fun k => by simp only [forebearlaw08_ObjectBack.j2]; rfl) (Ev.bind (readcommit_ev l hb) ?_)
    rw [hr]
    refine Ev.congr (fun k => if_pos rfl) (Ev.bind (commit_ev _ _ _ _) ?_)
    refine Ev.congr (fun k => if_pos h.2) ?_
    simp only [hback, beq_self_eq_true]
    exact Ev.now _
  · have hr : readC l = noC := by unfold readC; rw [if_neg h]
    refine Ev.step (fun k => by simp only [forebearlaw08_ObjectBack.j2]; rfl) (Ev.bind (readcommit_ev l hb) ?_)
    rw [hr]
    refine Ev.congr (fun k => by rw [if_neg (by decide), if_pos rfl]) (Ev.bind (lawcommit_ev _ _ _ _ (by simp)) ?_)
    exact Ev.bind (samecommit_ev _ _ _ _ (by simp)) (Ev.now _)
theorem back_j1 (l : List Int) (hb : Bytes l) : Ev (fun k => forebearlaw08_ObjectBack.j1 k l) true := by
  refine Ev.step (fun k => by simp only [forebearlaw08_ObjectBack.j1]; rfl) (Ev.bind (readtree_ev l hb) ?_)
  by_cases h : (readT l).2 = 0
  · refine Ev.congr (fun k => if_pos h) (Ev.bind (tree_ev _ (readT_size hb)) ?_)
    rw [readT_back hb h]
    refine Ev.congr (fun k => by rw [if_pos rfl, if_pos rfl]) (back_j2 l hb)
  · rw [readT_no h]
    refine Ev.congr (fun k => by rw [if_neg (by decide), if_pos (by simp), if_pos rfl]) (back_j2 l hb)
theorem back_j0 (t : Int) (ps : List Int) (d : Int) (n : ByteArray) (ht : U64 t) (hp : ∀ p ∈ ps, U64 p) (hps : ps.length ≤ 17592186043904) (l : List Int) (hb : Bytes l) : Ev (fun k => forebearlaw08_ObjectBack.j0 k l t ps d n) true := by
  refine Ev.step (fun k => by simp only [forebearlaw08_ObjectBack.j0]; rfl) (Ev.bind (commit_ev t ps d n) ?_)
  by_cases h : (commitT t ps d n).2 = 0
  · refine Ev.congr (fun k => if_pos h) (Ev.bind (readcommit_ev _ (commit_bytes h)) ?_)
    rw [readC_of h ht hp]
    refine Ev.congr (fun k => if_pos rfl) (Ev.bind (lawcommit_ev t ps d n hps) (Ev.bind (lawcommit_ev t ps d n hps) (Ev.bind (samecommit_ev t ps d n hps) ?_)))
    exact Ev.congr (fun k => if_pos rfl) (back_j1 l hb)
  · exact Ev.congr (fun k => if_neg h) (back_j1 l hb)
theorem ObjectBack : forebearlaw08_ObjectBack.Pure := by
  intro l c b hl hc hb
  apply Ev.rounds
  have hlen : l.length ≤ 5864062014634 := by have := hl.1; omega
  have hbb := bytes_of hb.2.2
  have hj := back_j0 c.f0 c.f1 c.f2 c.f3 (u64_range hc.1) (fun p hp => u64_range (hc.2.1.2.2 p hp)) (by have := hc.2.1.1; omega) b hbb
  refine Ev.congr (fun k => by unfold forebearlaw08_ObjectBack.f; rfl) (Ev.bind awake8_ev ?_)
  refine Ev.congr (fun k => if_pos rfl) (Ev.bind (tree_ev l fun x hx => (hl.2.2 x hx).1) ?_)
  by_cases h : (treeT l).2 = 0
  · refine Ev.congr (fun k => if_pos h) (Ev.bind (readtree_ev _ (tree_bytes h)) ?_)
    rw [readT_of h fun x hx => u64_range (hl.2.2 x hx).2]
    refine Ev.congr (fun k => if_pos rfl) (Ev.bind (entries_ev l hlen) (Ev.bind (entries_ev l hlen) (Ev.bind (same_ev _ (by rw [List.length_map]; omega)) ?_)))
    exact Ev.congr (fun k => if_pos rfl) hj
  · exact Ev.congr (fun k => if_neg h) hj
end Go.Proofs.Ythigjlahanejjaa.Pure
