/- A map of any elements, told as a function from its keys: what is looked up, stored, taken out. No condition. -/
import Derived.Maps.Own
import Derived.Maps.OwnOps
import Derived.Maps.OwnSet
import Derived.Test.YtieodkghfceflaaWWords
set_option linter.unusedVariables false
set_option linter.unusedSimpArgs false
namespace Go.Proofs.Ytieodkghfceflaa.Opening
open Go.RowKit Go.Maps Go.Proofs.YtieodkghfceflaaW.PrintWords
def rawR (v : Value) : Option (DataW Value × List MemPlace) := some (.held v, [])
def MapAt (P : Program) (k : TypeId) (w : World) (b n : Nat) (f : Lit → Option Value) : Prop :=
  ∃ D : DataW Value, w.ownsMap P k rawR b n D ∧ (∀ kl, has D kl = (f kl).isSome) ∧ ∀ kl v, f kl = some v → ∀ z, D.atKey kl z = .held v
section
variable {P : Program} {k t e : TypeId} {w w' : World} {b n : Nat} {f : Lit → Option Value}
theorem MapAt.made (w : World) (P : Program) (k : TypeId) : MapAt P k (w.alloc (.map #[] 0)) w.heap.size 0 (fun _ => none) :=
  ⟨.map [], World.ownsMap_made w P k rawR, fun _ => rfl, fun _ _ h => by cases h⟩
theorem MapAt.lt (h : MapAt P k w b n f) : b < w.heap.size := by
  obtain ⟨D, hD, _⟩ := h
  exact hD.lt
theorem MapAt.block (h : MapAt P k w b n f) (hb : w'.heap[b]? = w.heap[b]?) : MapAt P k w' b n f := by
  obtain ⟨D, ⟨es, clock, h1, h2⟩, h3⟩ := h
  exact ⟨D, ⟨es, clock, hb.trans h1, h2⟩, h3⟩
theorem MapAt.below (h : MapAt P k w b n f) (hb : Below w.heap.size w w') : MapAt P k w' b n f := h.block (hb.block b h.lt)
theorem MapAt.kept {row : Option Nat} (h : MapAt P k w b n f) (hg : w.grownBy w' row) (hne : some b ≠ row) : MapAt P k w' b n f := h.block (hg.block b h.lt hne)
theorem MapAt.mono (h : MapAt P k w b n f) {n' : Nat} (hn : n ≤ n') : MapAt P k w b n' f := by
  obtain ⟨D, hD, h2⟩ := h
  exact ⟨D, hD.mono hn, h2⟩
theorem MapAt.atKey {D : DataW Value} {kl : Lit} (h1 : has D kl = (f kl).isSome) (h2 : ∀ v, f kl = some v → ∀ z, D.atKey kl z = .held v) (z : Value) : D.atKey kl (.held z) = .held ((f kl).getD z) := by
  cases hf : f kl with
  | none => rw [hf] at h1; rw [atKey_of_not_has h1]; rfl
  | some v => rw [h2 v hf]; rfl
theorem MapAt.blk (h : MapAt P k w b n f) : ∃ es clock, w.heap[b]? = some (.map es clock) := by
  obtain ⟨D, ⟨es, clock, h1, h2⟩, h3⟩ := h
  exact ⟨es, clock, h1⟩
theorem MapAt.ne_cells (h : MapAt P k w b n f) {g : Nat} {cs : Array Value} {t : TypeId} {o : Nat × Nat} (hb : w.heap[g]? = some (.cells cs t o)) : g ≠ b := by
  rintro rfl
  obtain ⟨es, clock, h1⟩ := h.blk
  rw [hb] at h1
  cases h1
theorem MapAt.look (h : MapAt P k w b n f) (K : Keyed P k) (ht : P.underlying t = some (.map k e)) {z : Value} (hz : (zeroValue e).run P w = .ok z w) {key : Value} {kl : Lit} (hkey : keyOf P k key = some kl) :
    (Instr.lookup t (.map (some b)) key false).run P w = .ok ((f kl).getD z) w := by
  obtain ⟨D, hD, h1, h2⟩ := h
  obtain ⟨v, ps, hrun, hv⟩ := hD.lookup K ht hz (zd := .held z) (zp := []) rfl hkey
  rw [MapAt.atKey (h1 kl) (h2 kl)] at hv
  injection hv with hv
  injection hv with hv _
  injection hv with hv
  rw [hrun, hv]
theorem MapAt.look_ok (h : MapAt P k w b n f) (K : Keyed P k) (ht : P.underlying t = some (.map k e)) {z : Value} (hz : (zeroValue e).run P w = .ok z w) {key : Value} {kl : Lit} (hkey : keyOf P k key = some kl) :
    (Instr.lookup t (.map (some b)) key true).run P w = .ok (.tuple #[(f kl).getD z, .bool (f kl).isSome]) w := by
  obtain ⟨D, hD, h1, h2⟩ := h
  obtain ⟨v, ps, hrun, hv⟩ := hD.look_ok K ht hz (zd := .held z) (zp := []) rfl hkey
  rw [MapAt.atKey (h1 kl) (h2 kl)] at hv
  injection hv with hv
  injection hv with hv _
  injection hv with hv
  rw [hrun, hv, h1]
theorem MapAt.store (h : MapAt P k w b n f) (K : Keyed P k) (ht : P.underlying t = some (.map k e)) (hn : n < maxLen) {key : Value} {kl : Lit} (hkey : keyOf P k key = some kl) (hkl : WideAt.IsKeyLit kl) (v : Value) :
    ∃ w', (Instr.mapUpdate t (.map (some b)) key v).run P w = .ok () w' ∧ MapAt P k w' b (n + 1) (fun x => if x.sameKey kl = true then some v else f x) ∧ w.grownBy w' (some b) := by
  obtain ⟨D, hD, h1, h2⟩ := h
  obtain ⟨w', hrun, hD', hg⟩ := hD.update K ht hn (d := .held v) (ps := []) hkey rfl
  have hM : IsMap D := hD.isMap
  refine ⟨w', hrun, ⟨_, hD', fun x => ?_, fun x u hu z => ?_⟩, hg⟩
  · by_cases hx : x = kl
    · subst hx; rw [has_put_same hM hkl]; simp [WideAt.sameKey_self hkl]
    · rw [has_put_other hx, h1]; simp [sameKey_ne hx]
  · by_cases hx : x = kl
    · subst hx
      rw [atKey_put_same hM hkl]
      simp [WideAt.sameKey_self hkl] at hu
      rw [hu]
    · rw [atKey_put_other hx]
      exact h2 x u (by simpa [sameKey_ne hx] using hu) z
theorem MapAt.drop (h : MapAt P k w b n f) (K : Keyed P k) (ht : P.underlying t = some (.map k e)) {key : Value} {kl : Lit} (hkey : keyOf P k key = some kl) (hkl : WideAt.IsKeyLit kl) (ty : TypeId) :
    ∃ w', (Builtin.delete_ #[t, k] ty #[.map (some b), key]).run P w = .ok (.tuple #[]) w' ∧ MapAt P k w' b n (fun x => if x.sameKey kl = true then none else f x) ∧ w.mapTurned w' b := by
  obtain ⟨D, hD, h1, h2⟩ := h
  obtain ⟨w', hrun, hD', hg⟩ := hD.drop K ht hkey ty
  refine ⟨w', hrun, ⟨_, hD', fun x => ?_, fun x u hu z => ?_⟩, hg⟩
  · by_cases hx : x = kl
    · subst hx; rw [has_del_same]; simp [WideAt.sameKey_self hkl]
    · rw [has_del_other hx, h1]; simp [sameKey_ne hx]
  · by_cases hx : x = kl
    · subst hx; simp [WideAt.sameKey_self hkl] at hu
    · rw [atKey_del_other hx]
      exact h2 x u (by simpa [sameKey_ne hx] using hu) z
end
section
variable {P : Program} {ops : Array Oper} {rest : List Oper} {o : Oper} {a : Act} {Q : Exit → Act → World → Prop} {w : World} {k e : TypeId} {b n : Nat} {f : Lit → Option Value}
theorem MapAt.wp_store (h : MapAt P k w b n f) (hg : o.guard = none) (m x y : Operand) (t : TypeId) (hop : o.op = Op.mapUpdate t m x y) (K : Keyed P k) (ht : P.underlying t = some (.map k e)) (hm : a.eval m = .map (some b)) (hn : n < maxLen)
    (key val : Value) (kl : Lit) (hx : a.eval x = key) (hy : a.eval y = val) (hkey : keyOf P k key = some kl) (hkl : WideAt.IsKeyLit kl)
    (hK : ∀ w', MapAt P k w' b (n + 1) (fun x => if x.sameKey kl = true then some val else f x) → w.grownBy w' (some b) → wpList P ops Q rest (a.put o.dst undef) w') : wpList P ops Q (o :: rest) a w := by
  refine wpList_plain hg fun K' hK' => ?_
  obtain ⟨w', hrun, r1, r2⟩ := h.store K ht hn hkey hkl val
  unfold Oper.wp
  simp [execOp, hop, hm, hx, hy, hrun, Result.andThen]
  exact hK' _ _ (hK w' r1 r2)
end
end Go.Proofs.Ytieodkghfceflaa.Opening
