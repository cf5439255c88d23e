/- A table of rows of whole numbers, the call's own, told block by block: its head, each row's block, no two alike. No condition. -/
import Derived.Test.YtieodkghfceflaaWMore
import Derived.Test.YtieodkghfceflaaWApart
set_option linter.unusedVariables false
namespace Go.Proofs.Ytieodkghfceflaa.Opening
open Go.RowKit Go.Proofs.YtieodkghfceflaaW.PrintWords
def rowVal (r : List Int) (g : Option Nat) : Value := match g with
  | none => .slice none 0 0
  | some g => .slice (some ⟨g, 0, none⟩) r.length r.length
structure Tab (k : IntKind) (eT eR : Nat) (w : World) (B T : Nat) (rows : List (List Int)) (gs : List (Option Nat)) : Prop where
  len : gs.length = rows.length
  head : w.heap[T]? = some (.cells (List.zipWith rowVal rows gs).toArray eT (0, 0))
  row : ∀ (j g : Nat), gs[j]? = some (some g) → w.heap[g]? = some (.cells (nums k (rows.getD j [])).toArray eR (0, 0)) ∧ B ≤ g ∧ g ≠ T
  nil : ∀ j : Nat, gs[j]? = some none → rows.getD j [] = []
  base : B ≤ T
  inj : ∀ (i j g : Nat), gs[i]? = some (some g) → gs[j]? = some (some g) → i = j
namespace Tab
variable {k : IntKind} {eT eR B T : Nat} {w w1 : World} {rows : List (List Int)} {gs : List (Option Nat)}
theorem step (h : Tab k eT eR w B T rows gs) (hT : w1.heap[T]? = w.heap[T]?) (hg : ∀ g, some g ∈ gs → w1.heap[g]? = w.heap[g]?) : Tab k eT eR w1 B T rows gs :=
  ⟨h.len, hT.trans h.head, fun j g hj => ⟨(hg g (List.mem_of_getElem? hj)).trans (h.row j g hj).1, (h.row j g hj).2⟩, h.nil, h.base, h.inj⟩
theorem lt_T (h : Tab k eT eR w B T rows gs) : T < w.heap.size := (Array.getElem?_eq_some_iff.1 h.head).1
theorem lt_g (h : Tab k eT eR w B T rows gs) {g : Nat} (hg : some g ∈ gs) : g < w.heap.size := by
  obtain ⟨j, hj⟩ := List.mem_iff_getElem?.1 hg
  exact (Array.getElem?_eq_some_iff.1 (h.row j g hj).1).1
theorem below (h : Tab k eT eR w B T rows gs) (hb : Below w.heap.size w w1) : Tab k eT eR w1 B T rows gs :=
  h.step (hb.block _ h.lt_T) (fun g hg => hb.block _ (h.lt_g hg))
theorem alloc (h : Tab k eT eR w B T rows gs) (o : Obj) : Tab k eT eR (w.alloc o) B T rows gs := h.below (below_alloc (Below.refl _ _) o)
theorem drew (h : Tab k eT eR w B T rows gs) : Tab k eT eR w.drew B T rows gs := h.below (below_drew (Below.refl _ _))
theorem drewN (h : Tab k eT eR w B T rows gs) (n : Nat) : Tab k eT eR (w.drewN n) B T rows gs := h.below (pw_below_drewN (Below.refl _ _) n)
theorem far (h : Tab k eT eR w B T rows gs) {p : Addr} (hT : p.block ≠ T) (hg : some p.block ∉ gs) (u : Value) : Tab k eT eR (w.setCell p u) B T rows gs :=
  h.step (Below.heap_setCell w p u T (fun e => hT e.symm)) (fun g hm => Below.heap_setCell w p u g (fun e => hg (e ▸ hm)))
theorem cell (h : Tab k eT eR w B T rows gs) (i : Nat) (hi : i < rows.length) : w.cell? ⟨T, i, none⟩ = some (rowVal rows[i] (gs[i]'(by rw [h.len]; exact hi))) ∧ w.frozen? ⟨T, i, none⟩ = false := by
  refine ⟨?_, blk_frozen h.head i⟩
  have hl := h.len
  rw [blk_cell h.head i, List.getElem?_toArray, List.getElem?_zipWith, List.getElem?_eq_getElem hi, List.getElem?_eq_getElem (by omega)]
theorem put (h : Tab k eT eR w B T rows gs) (i : Nat) (hi : i < rows.length) {g : Nat} {r : List Int} (hr : w.heap[g]? = some (.cells (nums k r).toArray eR (0, 0))) (hB : B ≤ g) (hT : g ≠ T) (hg : some g ∉ gs) :
    Tab k eT eR (w.setCell ⟨T, i, none⟩ (.slice (some ⟨g, 0, none⟩) r.length r.length)) B T (rows.set i r) (gs.set i (some g)) := by
  have hl := h.len
  have hne : ∀ b, b ≠ T → (w.setCell ⟨T, i, none⟩ (.slice (some ⟨g, 0, none⟩) r.length r.length)).heap[b]? = w.heap[b]? := fun b hb => Below.heap_setCell w ⟨T, i, none⟩ _ b hb
  refine ⟨by simp [hl], ?_, fun j b hj => ?_, fun j hj => ?_, h.base, fun a b c ha hb => ?_⟩
  · have : (w.setCell ⟨T, i, none⟩ (.slice (some ⟨g, 0, none⟩) r.length r.length)).heap[T]? = (w.heap[T]?).map (fun o => match o with
        | .cells c elem frozen => .cells (if (none : Option Nat).isSome then c else c.setIfInBounds i (.slice (some ⟨g, 0, none⟩) r.length r.length)) elem frozen
        | o => o) := by
      simp only [World.setCell, Array.getElem?_modify, if_true]
      cases w.heap[T]? with
      | none => rfl
      | some o => cases o <;> rfl
    rw [this, h.head]
    simp only [Option.map_some, Option.isSome_none, Bool.false_eq_true, if_false, Option.some.injEq, Obj.cells.injEq, and_true]
    rw [List.setIfInBounds_toArray]
    congr 1
    apply List.ext_getElem?
    intro j
    rw [List.getElem?_set, List.getElem?_zipWith, List.getElem?_zipWith, List.getElem?_set, List.getElem?_set]
    by_cases e : i = j
    · subst e
      simp [hi, hl, rowVal]
    · simp [e]
  · by_cases e : j = i
    · subst e
      have hjl : j < gs.length := by omega
      simp [hjl] at hj
      subst hj
      refine ⟨?_, hB, hT⟩
      rw [hne g hT, hr]
      simp [hi]
    · have e' : i ≠ j := fun x => e x.symm
      rw [List.getElem?_set_ne e'] at hj
      obtain ⟨h1, h2, h3⟩ := h.row j b hj
      refine ⟨?_, h2, h3⟩
      rw [hne b h3, h1]
      simp [List.getElem?_set_ne e']
  · by_cases e : j = i
    · subst e
      have hjl : j < gs.length := by omega
      simp [hjl] at hj
    · have e' : i ≠ j := fun x => e x.symm
      rw [List.getElem?_set_ne e'] at hj
      have := h.nil j hj
      simpa [List.getElem?_set_ne e'] using this
  · by_cases e1 : a = i
    · by_cases e2 : b = i
      · rw [e1, e2]
      · subst e1
        have hal : a < gs.length := by omega
        simp [hal] at ha
        subst ha
        have e' : a ≠ b := fun x => e2 x.symm
        rw [List.getElem?_set_ne e'] at hb
        exact absurd (List.mem_of_getElem? hb) hg
    · have e' : i ≠ a := fun x => e1 x.symm
      rw [List.getElem?_set_ne e'] at ha
      by_cases e2 : b = i
      · subst e2
        have hbl : b < gs.length := by omega
        simp [hbl] at hb
        subst hb
        exact absurd (List.mem_of_getElem? ha) hg
      · have e2' : i ≠ b := fun x => e2 x.symm
        rw [List.getElem?_set_ne e2'] at hb
        exact h.inj a b c ha hb
theorem made (w : World) (k : IntKind) (eT eR B n : Nat) (hB : B ≤ w.heap.size) : Tab k eT eR (w.alloc (.cells (madeCells #[.slice none 0 0] n) eT)) B w.heap.size (List.replicate n []) (List.replicate n none) := by
  refine ⟨by simp, ?_, fun j g hj => ?_, fun j hj => ?_, hB, fun i j g hi hj => ?_⟩
  · rw [heap_alloc_new]
    congr 2
    apply Array.ext'
    rw [List.toList_toArray]
    apply List.ext_getElem
    · simp [madeCells]
    · intro i h1 h2
      simp [madeCells, Nat.mod_one, rowVal]
  · rw [List.getElem?_replicate] at hj; split at hj <;> simp at hj
  · simp [List.getD_eq_getElem?_getD, List.getElem?_replicate]; split <;> rfl
  · rw [List.getElem?_replicate] at hi; split at hi <;> simp at hi
theorem out (h : Tab k eT eR w B T rows gs) (hn : rows.length ≤ 9223372036854775807) (hr : ∀ r ∈ rows, r.length ≤ 9223372036854775807) :
    Kd.S (Kd.slice eR (Kd.int k)) eT w B (fun _ => True) (.slice (some ⟨T, 0, none⟩) rows.length rows.length) rows := by
  have hl := h.len
  refine ⟨fun b => gs.idxOf (some b), fun _ _ => trivial, List.zipWith rowVal rows gs, ⟨by simp [Kd.tag, Kd.slice, hl], .inr ⟨T, rows.length, (List.zipWith rowVal rows gs).toArray, by simp, h.base, h.head, by simp, by simpa [maxLen] using hn, by simp [Kd.tag, Kd.slice, hl], ?_⟩⟩, ?_⟩
  · rw [List.toList_toArray, List.take_of_length_le]
    simp [Kd.tag, Kd.slice, hl]
  · refine ⟨by simp [Kd.tag, Kd.slice, hl], fun j p hj => ?_⟩
    rw [List.getElem?_zipIdx] at hj
    obtain ⟨r, hrj, hp⟩ := Option.map_eq_some_iff.1 hj
    subst hp
    have hjl : j < rows.length := (List.getElem?_eq_some_iff.1 hrj).1
    have hrr : rows[j] = r := (List.getElem?_eq_some_iff.1 hrj).2
    have hcs : ((List.zipWith rowVal rows gs).drop (j * (Kd.tag (fun b => gs.idxOf (some b)) (Kd.slice eR (Kd.int k))).sz)).take (Kd.tag (fun b => gs.idxOf (some b)) (Kd.slice eR (Kd.int k))).sz = [rowVal r (gs[j]'(by omega))] := by
      have hsz : (Kd.tag (fun b => gs.idxOf (some b)) (Kd.slice eR (Kd.int k))).sz = 1 := rfl
      rw [hsz, Nat.mul_one, List.drop_eq_getElem_cons (by simp; omega)]
      simp [hrr]
    rw [hcs]
    refine ⟨rowVal r (gs[j]'(by omega)), rfl, ?_⟩
    have hgd : rows.getD j [] = r := by simp [List.getD_eq_getElem?_getD, hrj]
    cases hg : gs[j]'(by omega) with
    | none =>
      have hgj : gs[j]? = some none := by rw [List.getElem?_eq_getElem (by omega), hg]
      have := h.nil j hgj
      rw [hgd] at this
      subst this
      exact Kd.R_nil _ _ _ _ _
    | some g =>
      have hgj : gs[j]? = some (some g) := by rw [List.getElem?_eq_getElem (by omega), hg]
      obtain ⟨h1, h2, h3⟩ := h.row j g hgj
      rw [hgd] at h1
      have hix : gs.idxOf (some g) = j := by
        have hm : some g ∈ gs := List.mem_of_getElem? hgj
        have hlt : gs.idxOf (some g) < gs.length := List.idxOf_lt_length_of_mem hm
        have he : gs[gs.idxOf (some g)]? = some (some g) := by rw [List.getElem?_eq_getElem hlt, List.getElem_idxOf hlt]
        exact h.inj _ _ _ he hgj
      refine Kd.R_of_own (h1 := fun _ => rfl) (enc := Value.int k) ?_ (fun b hb => ?_)
      · refine ⟨by simp [encs], .inr ⟨g, r.length, (nums k r).toArray, rfl, h2, h1, Nat.le_refl _, ?_, by simp [nums], ?_⟩⟩
        · have := hr r (List.mem_of_getElem? hrj); simpa [maxLen] using this
        · rw [List.toList_toArray, List.take_of_length_le (by simp [nums])]; rfl
      · simp only [rowVal, Value.ownBlock, Option.some.injEq] at hb
        subst hb
        simp [Value.ownBlock, hix, h3]
end Tab
end Go.Proofs.Ytieodkghfceflaa.Opening
