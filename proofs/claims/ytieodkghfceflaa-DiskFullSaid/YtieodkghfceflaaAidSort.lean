/- A row of one's own that the library has sorted in place: it holds what it was told to. No condition. -/
import Derived.Test.YtieodkghfceflaaWMore
import Derived.Sort.Row
import Derived.Sort.Grow
import Derived.Sort.EncStr
import Derived.Lib.RowBridge
import Derived.Shelf.Slices.CompactS
namespace Go.Proofs.Ytieodkghfceflaa.Opening
open Go.Sort Go.RowKit Go.Proofs.YtieodkghfceflaaW.PrintWords
theorem own_put {α : Type} [Inhabited α] (enc : α → Value) {w : World} {base e n g cap : Nat} {xs : List Value} (h : w.ownsRow base e 1 (.slice (some ⟨g, 0, none⟩) n cap) n xs) (d : Array α) (hd : d.size = n) (q : Nat) (os : Array Obj) :
    (grow (putRow enc (Sort.ahead w q) g 0 d) os).ownsRow base e 1 (.slice (some ⟨g, 0, none⟩) n cap) n (d.toList.map enc) := by
  obtain ⟨_, h | ⟨g', cap', cur, he, hb, hc, hn, hm, hz, _⟩⟩ := h
  · cases h.1
  · injection he with h1 h2 h3
    injection h1 with h1
    injection h1 with h1
    subst h1
    subst h3
    refine ⟨by simp [hd], .inr ⟨g, cap, putCells enc 0 d cur, rfl, hb, ?_, hn, hm, by simp [putCells, hz], ?_⟩⟩
    · have hlt : g < w.heap.size := (Array.getElem?_eq_some_iff.1 hc).1
      have : (putRow enc (Sort.ahead w q) g 0 d).heap[g]? = some (.cells (putCells enc 0 d cur) e (0, 0)) := by
        simp only [putRow, mapBlock, Sort.heap_ahead, Array.getElem?_modify, if_true, hc, Option.map_some, onCells]
      simp only [grow]
      rw [Array.getElem?_append_left (by simpa [putRow, mapBlock] using hlt)]
      exact this
    · apply List.ext_getElem?
      intro i
      simp only [putCells, List.getElem?_take, Nat.mul_one]
      by_cases hi : i < n
      · rw [if_pos hi]
        have hic : i < cur.size := by omega
        simp [hic, hi, hd]
      · rw [if_neg hi]
        rw [List.getElem?_eq_none (by simp only [List.length_map, Array.length_toList, hd]; omega)]
theorem own_holds {α : Type} [Inhabited α] (enc : α → Value) {w : World} {base e n g cap : Nat} (ys : List α) (h : w.ownsRow base e 1 (.slice (some ⟨g, 0, none⟩) n cap) n (ys.map enc)) : Holds enc w g 0 ys.toArray ∧ g < w.heap.size ∧ ys.length = n ∧ n ≤ cap := by
  obtain ⟨hl, h | ⟨g', cap', cur, he, hb, hc, hn, hm, hz, ht⟩⟩ := h
  · cases h.1
  · injection he with h1 h2 h3
    injection h1 with h1
    injection h1 with h1
    subst h1
    subst h3
    rw [List.length_map, Nat.mul_one] at hl
    refine ⟨fun j hj => ?_, (Array.getElem?_eq_some_iff.1 hc).1, hl, hn⟩
    have hj' : j < ys.length := by simpa using hj
    have hjc : j < cur.size := by omega
    have hv : cur[j]? = some (enc ys[j]) := by
      have := congrArg (fun l => l[j]?) ht
      simp only [List.getElem?_take, Nat.mul_one] at this
      rw [if_pos (by omega)] at this
      simpa [hj'] using this
    rw [Nat.zero_add]
    constructor
    · rw [blk_cell hc j, hv]
      simp [hj']
    · exact blk_frozen hc j
theorem grown_kept {α : Type} [Inhabited α] (enc : α → Value) {w : World} {g : Nat} (d : Array α) (q : Nat) (os : Array Obj) {S : Nat → Prop} (hg : S g) : Kept w (grow (putRow enc (Sort.ahead w q) g 0 d) os) S := by
  refine ⟨by simp [grow, putRow, mapBlock], fun i hi hn => ?_⟩
  have hne : g ≠ i := fun e => hn (e ▸ hg)
  simp only [grow]
  rw [Array.getElem?_append_left (by simpa [putRow, mapBlock] using hi)]
  simp only [putRow, mapBlock, Sort.heap_ahead, Array.getElem?_modify, if_neg hne]
theorem grown_below {α : Type} [Inhabited α] (enc : α → Value) {w0 w : World} {g : Nat} (d : Array α) (q : Nat) (os : Array Obj) (hb : Below w0.heap.size w0 w) (hg : w0.heap.size ≤ g) : Below w0.heap.size w0 (grow (putRow enc (Sort.ahead w q) g 0 d) os) := by
  have hk := grown_kept enc (w := w) d q os (S := fun k => k = g) rfl
  exact ⟨hb.os, hb.tape, hb.output, Nat.le_trans hb.size hk.1, fun k hlt => (hk.2 k (Nat.lt_of_lt_of_le hlt hb.size) (by omega)).trans (hb.block k hlt)⟩
theorem sort_calls {α β : Type} [Inhabited β] {enc : α → Value} {h1 : ∀ x, (enc x).oneCell' = true} (encB : β → Value) (fw : α → β) (back : β → α) (he : ∀ x, encB (fw x) = enc x) (hb : ∀ y, enc (back y) = encB y) {P : Program} {f : FuncId} {e : TypeId} (sorted : List β → List β)
    (hlen : ∀ ys, (sorted ys).length = ys.length) (hnil : sorted [] = [])
    (hsome : ∀ (g cap : Nat) (ys : List β) (w : World), Holds encB w g 0 ys.toArray → g < w.heap.size → ys.length < 4611686018427387904 → Calls P f #[.slice (some ⟨g, 0, none⟩) ys.length cap] w fun e w' => e = .returned (.tuple #[]) ∧ ∃ n os, w' = grow (putRow encB (Sort.ahead w n) g 0 (sorted ys).toArray) os)
    (hnone : ∀ (p : Option Addr) (cap : Nat) (w : World), Calls P f #[.slice p 0 cap] w fun e w' => e = .returned (.tuple #[]) ∧ w' = w)
    (P0 : Nat → Prop) (u : Value) (l0 : List α) (w0 w : World) (hB : Below w0.heap.size w0 w) (ho : (Kd.scalar enc h1).R e w w0.heap.size P0 u l0) (hsz : l0.length < 4611686018427387904) :
    Calls P f #[u] w fun x w' => x = .returned (.tuple #[]) ∧ (Kd.scalar enc h1).R e w' w0.heap.size (fun k => P0 k ∨ w.heap.size ≤ k) u ((sorted (l0.map fw)).map back) ∧ Below w0.heap.size w0 w' ∧ Kept w w' (fun k => P0 k) := by
  by_cases hl : 0 < l0.length
  · obtain ⟨g, cap, rfl, hb0, hg, _⟩ := Kd.R_form ho hl
    have how := Kd.own_of_R ho
    have henc : encs enc l0 = (l0.map fw).map encB := by simp [encs, he]
    rw [henc] at how
    obtain ⟨hH, hgl, _, hcap⟩ := own_holds encB (l0.map fw) how
    have hP : P0 g := ho.1 g (by simp [Value.ownBlock])
    have hc := hsome g cap (l0.map fw) w hH hgl (by simpa using hsz)
    rw [List.length_map] at hc
    refine hc.mono ?_
    rintro x w' ⟨rfl, n, os, rfl⟩
    have hput := own_put encB how (sorted (l0.map fw)).toArray (by simp [hlen]) n os
    refine ⟨rfl, ?_, grown_below encB _ n os hB hb0, grown_kept encB _ n os hP⟩
    have hle : ((sorted (l0.map fw)).map back).length = l0.length := by simp [hlen]
    refine Kd.R_of_own ?_ (fun k hk => .inl (ho.1 k hk))
    rw [hle]
    have e2 : encs enc ((sorted (l0.map fw)).map back) = (sorted (l0.map fw)).toArray.toList.map encB := by simp [encs, hb]
    rw [e2]
    exact hput
  · obtain rfl : l0 = [] := List.eq_nil_of_length_eq_zero (by omega)
    obtain ⟨A, c, rfl⟩ := Kd.R_slice ho
    refine (hnone A c w).mono ?_
    rintro x w' ⟨rfl, rfl⟩
    rw [List.map_nil, hnil, List.map_nil]
    exact ⟨rfl, Kd.R_mono ho (fun k hk => .inl hk), hB, Kept.refl _ _⟩
def sortS (xs : List ByteArray) : List ByteArray := ((xs.map fun x => x.data.toList).mergeSort fun x y => decide (x ≤ y)).map fun l => ⟨l.toArray⟩
theorem sortS_calls {P : Program} {f : FuncId} {e : TypeId}
    (hsome : ∀ (g cap : Nat) (ys : List (List UInt8)) (w : World), Holds encStr w g 0 ys.toArray → g < w.heap.size → ys.length < 4611686018427387904 → Calls P f #[.slice (some ⟨g, 0, none⟩) ys.length cap] w fun e w' => e = .returned (.tuple #[]) ∧ ∃ n os, w' = grow (putRow encStr (Sort.ahead w n) g 0 (ys.mergeSort fun x y => decide (x ≤ y)).toArray) os)
    (hnone : ∀ (p : Option Addr) (cap : Nat) (w : World), Calls P f #[.slice p 0 cap] w fun e w' => e = .returned (.tuple #[]) ∧ w' = w)
    (P0 : Nat → Prop) (u : Value) (l0 : List ByteArray) (w0 w : World) (hB : Below w0.heap.size w0 w) (ho : Kd.string.R e w w0.heap.size P0 u l0) (hsz : l0.length < 4611686018427387904) :
    Calls P f #[u] w fun x w' => x = .returned (.tuple #[]) ∧ Kd.string.R e w' w0.heap.size (fun k => P0 k ∨ w.heap.size ≤ k) u (sortS l0) ∧ Below w0.heap.size w0 w' ∧ Kept w w' (fun k => P0 k) :=
  sort_calls (enc := Value.string) (h1 := fun _ => rfl) encStr (fun x => x.data.toList) (fun l => ⟨l.toArray⟩) (fun _ => rfl) (fun _ => rfl) (fun ys => ys.mergeSort fun x y => decide (x ≤ y)) (fun ys => List.length_mergeSort ys) (by simp) hsome hnone P0 u l0 w0 w hB ho hsz
end Go.Proofs.Ytieodkghfceflaa.Opening
