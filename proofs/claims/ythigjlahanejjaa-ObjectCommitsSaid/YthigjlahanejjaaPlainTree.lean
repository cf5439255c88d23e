/- What is written of entries, and what is found among them, in plain Lean. No condition. -/
import Derived.Test.YthigjlahanejjaaMOx0
import Derived.Test.YthigjlahanejjaaMOx1
import Derived.Test.YthigjlahanejjaaMOx2
import Derived.Test.YthigjlahanejjaaPlainPaths
import Derived.Lib.Bytes
set_option linter.unusedVariables false
set_option linter.unusedSimpArgs false
namespace Go.Proofs.Ythigjlahanejjaa.Pure
open Go.RowKit Go.Proofs.Ythigjlahanejjaa.MO Go.Proofs.Ythigjlahanejjaa.Opening Go.Proofs.YthigjlahanejjaaW.PrintWords Go.Proofs.YthigjlahanejjaaW.PrintLast Go.Proofs.YthigjlahanejjaaW.PrintMore
theorem w64 (x : Int) (h : -4611686018427387904 ≤ x ∧ x ≤ 4611686018427387904) : wrap64 x = x := by unfold wrap64; omega
theorem rd67 {l : List S67} {i : Nat} (h : i < l.length) : rd_T67 l (i : Int) = l[i] := by
  simp [rd_T67, List.getD_eq_getElem?_getD, h]
theorem bytes_len (p : ByteArray) : (bytesOf p).length = p.size := by simp [bytesOf]
/-! ### The bytes of a tree -/
def be8 (v : Int) : List Int := [(shr .u64 v 56) % 256, (shr .u64 v 48) % 256, (shr .u64 v 40) % 256, (shr .u64 v 32) % 256, (shr .u64 v 24) % 256, (shr .u64 v 16) % 256, (shr .u64 v 8) % 256, (shr .u64 v 0) % 256]
theorem eight_step (l : List Int) (v : Int) (x : Nat) (hx : x ≤ 56) (hl : l.length < 140737488355328) (k : Nat) : object_eight.l0 (k + 1) l v (x : Int) = object_eight.l0 k (l ++ [(shr .u64 v (x : Int)) % 256]) v ((x : Int) - 8) := by
  simp only [object_eight.l0]
  rw [if_pos (by omega), if_pos (by omega), if_pos hl, w64 _ (by omega)]
theorem eight_f (l : List Int) (v : Int) (hl : l.length < 140737488355000) (k : Nat) (hk : 9 ≤ k) : object_eight.f k l v = some (l ++ be8 v) := by
  obtain ⟨k, rfl⟩ : ∃ k', k = k' + 9 := ⟨k - 9, by omega⟩
  unfold object_eight.f
  have s0 := eight_step l v 56 (by omega) (by omega) (k + 8)
  have s1 := eight_step (l ++ [(shr .u64 v 56) % 256]) v 48 (by omega) (by simp; omega) (k + 7)
  have s2 := eight_step (l ++ [(shr .u64 v 56) % 256] ++ [(shr .u64 v 48) % 256]) v 40 (by omega) (by simp; omega) (k + 6)
  have s3 := eight_step (l ++ [(shr .u64 v 56) % 256] ++ [(shr .u64 v 48) % 256] ++ [(shr .u64 v 40) % 256]) v 32 (by omega) (by simp; omega) (k + 5)
  have s4 := eight_step (l ++ [(shr .u64 v 56) % 256] ++ [(shr .u64 v 48) % 256] ++ [(shr .u64 v 40) % 256] ++ [(shr .u64 v 32) % 256]) v 24 (by omega) (by simp; omega) (k + 4)
  have s5 := eight_step (l ++ [(shr .u64 v 56) % 256] ++ [(shr .u64 v 48) % 256] ++ [(shr .u64 v 40) % 256] ++ [(shr .u64 v 32) % 256] ++ [(shr .u64 v 24) % 256]) v 16 (by omega) (by simp; omega) (k + 3)
  have s6 := eight_step (l ++ [(shr .u64 v 56) % 256] ++ [(shr .u64 v 48) % 256] ++ [(shr .u64 v 40) % 256] ++ [(shr .u64 v 32) % 256] ++ [(shr .u64 v 24) % 256] ++ [(shr .u64 v 16) % 256]) v 8 (by omega) (by simp; omega) (k + 2)
  have s7 := eight_step (l ++ [(shr .u64 v 56) % 256] ++ [(shr .u64 v 48) % 256] ++ [(shr .u64 v 40) % 256] ++ [(shr .u64 v 32) % 256] ++ [(shr .u64 v 24) % 256] ++ [(shr .u64 v 16) % 256] ++ [(shr .u64 v 8) % 256]) v 0 (by omega) (by simp; omega) (k + 1)
  refine s0.trans (s1.trans (s2.trans (s3.trans (s4.trans (s5.trans (s6.trans (s7.trans ?_)))))))
  simp only [object_eight.l0]
  rw [if_neg (by omega)]
  simp [be8]
def entB (x : S67) : List Int := (x.f0.size : Int) % 256 :: (bytesOf x.f0 ++ be8 x.f1)
def keyE (x : S67) : K := key x.f0
theorem check_ev (p : ByteArray) (hp : p.size ≤ 140737488351232) : Ev (fun k => path_Check.f k p) (code (isP (key p))) := ⟨p.size + 1, fun k hk => check_f hp k (by omega)⟩
theorem tree_l0 (l : List S67) (hl : l.length ≤ 64) (hs : ∀ x ∈ l, x.f0.size ≤ 140737488351232) (r : List Int × Int) : ∀ (d i : Nat) (acc : List Int), i + d = l.length → acc.length ≤ 111 * i →
    Ev (fun k => object_Tree.l1 k l (acc ++ (l.drop i).flatMap entB) (l.length : Int) 0) r →
    Ev (fun k => object_Tree.l0 k l acc l (l.length : Int) (i : Int)) (if (l.drop i).all (fun x => isP (keyE x)) then r else ([], 2)) := by
  intro d
  induction d with
  | zero =>
    intro i acc hi ha he
    rw [List.drop_eq_nil_of_le (by omega)] at he ⊢
    refine Ev.step (f := fun k => object_Tree.l1 k l acc (l.length : Int) 0) (fun k => ?_) (by simpa using he)
    simp only [object_Tree.l0]
    rw [if_neg (by omega)]
  | succ d ih =>
    intro i acc hi ha he
    have hil : i < l.length := by omega
    have hsz := hs _ (List.getElem_mem hil)
    rw [List.drop_eq_getElem_cons hil] at he ⊢
    refine Ev.step (f := fun k => (path_Check.f k l[i].f0).bind fun t114 => (if t114 = 0 then (if acc.length < 140737488355328 then ((some (acc ++ [(l[i].f0.size : Int) % 256] : List Int)).bind fun y115 => (if y115.length + l[i].f0.size < 140737488355328 then ((object_eight.f k (y115 ++ bytesOf l[i].f0) l[i].f1).bind fun t121 => (object_Tree.l0 k l t121 l (l.length : Int) ((i + 1 : Nat) : Int))) else (none))) else (none)) else (some (([] : List Int), 2)))) (fun k => ?_) (Ev.bind (check_ev l[i].f0 hsz) ?_)
    · simp only [object_Tree.l0]
      rw [if_pos (by omega), if_pos (by omega), if_pos (by omega), rd67 hil, wnat hil (by omega)]
    · have hkey : isP (key l[i].f0) = isP (keyE l[i]) := rfl
      rw [hkey]
      cases hP : isP (keyE l[i])
      · refine Ev.congr (f := fun _ => some ([], 2)) (fun k => by rw [if_neg (by decide)]) ?_
        rw [List.all_cons, hP]
        exact Ev.now _
      · have h102 : l[i].f0.size ≤ 102 := by
          have := isP_size hP
          rwa [keyE, key_len] at this
        refine Ev.congr (f := fun k => (object_eight.f k ((acc ++ [(l[i].f0.size : Int) % 256]) ++ bytesOf l[i].f0) l[i].f1).bind fun t121 => (object_Tree.l0 k l t121 l (l.length : Int) ((i + 1 : Nat) : Int))) (fun k => ?_) (Ev.bind (a := ((acc ++ [(l[i].f0.size : Int) % 256]) ++ bytesOf l[i].f0) ++ be8 l[i].f1) ⟨9, fun k hk => eight_f _ _ (by simp [bytes_len]; omega) k hk⟩ ?_)
        · rw [if_pos (by decide), if_pos (by omega), Option.bind_some, if_pos (by rw [List.length_append]; simp; omega)]
        · have e : ((acc ++ [(l[i].f0.size : Int) % 256]) ++ bytesOf l[i].f0) ++ be8 l[i].f1 = acc ++ entB l[i] := by simp [entB]
          rw [e]
          have := ih (i + 1) (acc ++ entB l[i]) (by omega) (by simp [entB, bytes_len, be8]; omega) (by rw [List.append_assoc, ← List.flatMap_cons]; exact he)
          rw [List.all_cons, hP, Bool.true_and]
          exact this
theorem parts_ev (p : ByteArray) (hp : p.size ≤ 140737488351232) : ∃ ps, keys ps = partsK (key p) ∧ Ev (fun k => path_Parts.f k p) ps := by
  obtain ⟨r, h1, h2⟩ := parts_f hp (p.size + 1) (by omega)
  refine ⟨r, h2, p.size + 1, fun k hk => ?_⟩
  obtain ⟨r', h1', h2'⟩ := parts_f hp k (by omega)
  have : r' = r := by
    have e : keys r' = keys r := by rw [h2, h2']
    exact (List.map_inj_right (fun _ _ h => key_inj h)).1 e
  rw [← this]; exact h1'
theorem partsK_len (l : K) : (partsK l).length ≤ 6 := by
  unfold partsK
  split
  · rename_i h
    have := chk_count l 1 0 h
    rw [List.length_append, cuts_len2]; simp; omega
  · simp
/-- A part of the path that stands among the entries ahead of it. -/
def amongP (l : List S67) (i : Nat) (self : ByteArray) : List ByteArray → Bool
  | [] => false
  | d :: t => if d.toList = self.toList then false else (bsFound (l.take i) d || amongP l i self t)
theorem tree_l2 (l : List S67) (hl : l.length ≤ 64) (acc : List Int) (i : Nat) (hi : i < l.length) (x42 : Int) (ps : List ByteArray) (hps : ps.length ≤ 6) (r : List Int × Int)
    (hr : Ev (fun k => object_Tree.l1 k l acc (l.length : Int) (wrap64 (x42 + 1))) r) : ∀ (d j : Nat), j + d = ps.length →
    Ev (fun k => object_Tree.l2 k l acc (i : Int) (l.length : Int) x42 ps (ps.length : Int) (j : Int)) (if amongP l i l[i].f0 (ps.drop j) then ([], 12) else r) := by
  intro d
  induction d with
  | zero =>
    intro j hj
    rw [List.drop_eq_nil_of_le (by omega), amongP, if_neg (by decide)]
    refine Ev.step (fun k => ?_) hr
    simp only [object_Tree.l2]
    rw [if_neg (by omega)]
  | succ d ih =>
    intro j hj
    have hjl : j < ps.length := by omega
    rw [List.drop_eq_getElem_cons hjl, amongP]
    by_cases c : ps[j].toList = l[i].f0.toList
    · rw [if_pos c, if_neg (by decide)]
      refine Ev.step (fun k => ?_) hr
      simp only [object_Tree.l2]
      rw [if_pos (by omega), if_pos (by omega), if_pos (by omega), if_pos (by omega), if_pos (by omega), rdOf_nat _ _ hjl, rd67 hi, if_pos c]
    · rw [if_neg c]
      refine Ev.step (f := fun k => (if bsFound (l.take i) ps[j] = true then (some (([] : List Int), (12 : Int))) else (object_Tree.l2 k l acc (i : Int) (l.length : Int) x42 ps (ps.length : Int) ((j + 1 : Nat) : Int)))) (fun k => ?_) ?_
      · simp only [object_Tree.l2]
        rw [if_pos (by omega), if_pos (by omega), if_pos (by omega), if_pos (by omega), if_pos (by omega), rdOf_nat _ _ hjl, rd67 hi, if_neg c, if_pos (by omega), wnat hjl (by omega)]
        unfold api_Entry_string.f
        rw [if_pos (by simp; omega), Option.bind_some, Int.toNat_natCast]
      · cases hb : bsFound (l.take i) ps[j]
        · rw [Bool.false_or]
          exact Ev.congr (fun k => if_neg (by decide)) (ih (j + 1) (by omega))
        · rw [Bool.true_or, if_pos rfl]
          exact Ev.congr (fun k => if_pos (by trivial)) (Ev.now _)
/-- Nothing is wrong with the entry i. -/
def fine (l : List S67) (i : Nat) : Prop := (0 < i → ∀ h : i < l.length, Op.bytesLess (l[i - 1]'(by omega)).f0.toList l[i].f0.toList = true) ∧
  ∀ h : i < l.length, ∀ d ∈ partsK (keyE l[i]), d ≠ keyE l[i] → bsFound (l.take i) ⟨d.toArray⟩ = false
end Go.Proofs.Ythigjlahanejjaa.Pure
