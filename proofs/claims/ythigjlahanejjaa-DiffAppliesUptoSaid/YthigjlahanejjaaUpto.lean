/- What an argument's reading says where its bulk is bounded: as Open, and a plain measure of the datum that is at most the reading's bulk. No condition of its own. -/
import Derived.Test.YthigjlahanejjaaOpen
import Derived.Test.YthigjlahanejjaaRows
namespace Go.Proofs.Ythigjlahanejjaa.Opening
open Go.ChangeShapes Go.WideShapes Go.Proofs.YthigjlahanejjaaW.PrintWords

theorem bulk_one {H : Type} (d : DataW H) : 1 ≤ Rows.uptoBulk d := by
  cases d with
  | lit l => cases l <;> simp [Rows.uptoBulk]
  | nil => simp [Rows.uptoBulk]
  | ptr d => simp [Rows.uptoBulk]
  | slice elems spare => simp [Rows.uptoBulk]
  | agg parts => simp [Rows.uptoBulk]
  | iface t d => simp [Rows.uptoBulk]
  | map entries => simp [Rows.uptoBulk]
  | held h => simp [Rows.uptoBulk]
theorem bulk_string {H : Type} (s : ByteArray) : s.size + 1 ≤ Rows.uptoBulk (DataW.lit (H := H) (.string s.data.toList)) := by
  rw [Rows.uptoBulk, Array.length_toList]
  exact Nat.le_refl _
/-- A list's bulk, each part at least what is said of it. -/
theorem bulk_all {H α : Type} {b : α → Nat} : ∀ (ds : List (DataW H)) (xs : List α), xs.length = ds.length → (∀ (i : Nat) (d : DataW H) (x : α), ds[i]? = some d → xs[i]? = some x → b x ≤ Rows.uptoBulk d) → (xs.map b).sum ≤ Rows.uptoBulkAll ds
  | [], [], _, _ => by simp
  | [], _ :: _, h, _ => by simp at h
  | _ :: _, [], h, _ => by simp at h
  | d :: ds, x :: xs, h, hb => by
    have h0 := hb 0 d x rfl rfl
    have h1 := bulk_all ds xs (by simpa using h) (fun i d' x' hd hx => hb (i + 1) d' x' (by simpa using hd) (by simpa using hx))
    simp only [List.map_cons, List.sum_cons, Rows.uptoBulkAll]
    omega

def OpnU {α : Type} (P : Program) (t : TypeId) (d : Kd α) (g : α → Prop) (b : α → Nat) : Prop :=
  ∀ {H : Type} {enc : TypeId × Value → H} {w : World} {base : Nat} {spare : Nat → Bool} {held : Bool} {fuel : Nat} {cs : List Value} {x : DataW H × List MemPlace},
    DataW.trod enc P w base spare held fuel t cs = some x → ((x.1.weights P t).all (· ≤ reachBytes)) = true → ∃ a, d.K w a cs ∧ g a ∧ b a ≤ Rows.uptoBulk x.1
section
variable {P : Program} {t e : TypeId}
theorem opnu_int {k : IntKind} (ht : P.underlying t = some (.int k)) : OpnU P t (Kd.int k) (fun n => (Lit.int k n).wf = true) (fun _ => 1) := by
  intro H enc w base spare held fuel cs x h _
  obtain ⟨n, rfl, _, hw⟩ := DataW.trod_int ht h
  exact ⟨n, rfl, hw, bulk_one _⟩
theorem opnu_bool (ht : P.underlying t = some .bool) : OpnU P t Kd.bool (fun _ => True) (fun _ => 1) := by
  intro H enc w base spare held fuel cs x h _
  obtain ⟨b, rfl, _⟩ := DataW.trod_bool ht h
  exact ⟨b, rfl, trivial, bulk_one _⟩
theorem opnu_string (ht : P.underlying t = some .string) : OpnU P t Kd.string (fun s => s.size ≤ 140737488351232) (fun s => s.size + 1) := by
  intro H enc w base spare held fuel cs x h hw
  obtain ⟨s, rfl, rfl, _⟩ := DataW.trod_string ht h
  refine ⟨s, rfl, ?_, bulk_string s⟩
  simp only [DataW.weights, List.all_cons, List.all_nil, Bool.and_true, reachBytes, Array.length_toList] at hw
  exact of_decide_eq_true hw
theorem opnu_slice {α : Type} {d : Kd α} {g : α → Prop} {b : α → Nat} {B : Nat} (ht : P.underlying t = some (.slice e)) (hc : P.cellsOf e = d.sz) (hB : P.bytesOf e = B) (he : OpnU P e d g b) :
    OpnU P t (Kd.slice e d) (fun xs => xs.length * B ≤ 140737488351232 ∧ xs.length ≤ 9223372036854775807 ∧ ∀ x ∈ xs, g x) (fun xs => (xs.map b).sum + 1) := by
  intro H enc w base spare held fuel cs x h hw
  rcases DataW.trod_slice ht h with ⟨rfl, rfl⟩ | ⟨a, len, cap, elems, rest, n, _, rfl, rfl, hb, hl, hm, hlen, hel, _, _⟩
  · exact ⟨[], ⟨none, 0, rfl, Nat.le_refl _, rfl, by simp, fun h => absurd h (by simp)⟩, ⟨by simp, by simp, fun x hx => by simp at hx⟩, bulk_one _⟩
  · simp only [DataW.weights, ht, List.all_cons, List.all_append, Bool.and_eq_true] at hw
    obtain ⟨hsum, hwe, _⟩ := hw
    replace hsum := of_decide_eq_true hsum
    have each : ∀ i y, elems[i]? = some y → ∃ (z : α), (∃ c, w.cells? base (a.add (i * P.cellsOf e)) (P.cellsOf e) = some c ∧ d.K w z c) ∧ g z ∧ b z ≤ Rows.uptoBulk y.1 := by
      intro i y hy
      have hi : i < len := by have := (List.getElem?_eq_some_iff.1 hy).1; omega
      have hb' := hel i hi
      rw [hy, Option.bind_eq_some_iff] at hb'
      obtain ⟨c, hcs, hy'⟩ := hb'
      have hmem : y.1 ∈ elems.map (·.1) := List.mem_map.2 ⟨y, List.mem_of_getElem? hy, rfl⟩
      obtain ⟨z, hz, hg, hbz⟩ := he hy' (weightsAll_mem _ hwe _ hmem)
      exact ⟨z, ⟨c, hcs, hz⟩, hg, hbz⟩
    obtain ⟨ys, hyl, hys⟩ := choose_list (R := fun (i : Nat) (z : α) => (∃ c, w.cells? base (a.add (i * P.cellsOf e)) (P.cellsOf e) = some c ∧ d.K w z c) ∧ g z ∧ ∀ y, elems[i]? = some y → b z ≤ Rows.uptoBulk y.1) (List.range len) (fun i hi => by
      have hi' : i < elems.length := by have := List.mem_range.1 hi; omega
      obtain ⟨z, h1, h2, h3⟩ := each i _ (List.getElem?_eq_getElem hi')
      exact ⟨z, h1, h2, fun y hy => by rw [List.getElem?_eq_getElem hi'] at hy; injection hy with hy; subst hy; exact h3⟩)
    have hyl' : ys.length = len := by rw [hyl, List.length_range]
    have hget : ∀ i z, ys[i]? = some z → (∃ c, w.cells? base (a.add (i * P.cellsOf e)) (P.cellsOf e) = some c ∧ d.K w z c) ∧ g z ∧ ∀ y, elems[i]? = some y → b z ≤ Rows.uptoBulk y.1 := by
      intro i z hz
      have hi : i < len := by have := (List.getElem?_eq_some_iff.1 hz).1; omega
      exact hys i i z (by simp [hi]) hz
    refine ⟨ys, ⟨some a, cap, by rw [hyl'], by omega, rfl, by simp only [maxLen] at hm; omega, fun _ => ⟨a, rfl, fun j p hj => ?_⟩⟩, ⟨?_, by simp only [maxLen] at hm; omega, fun x hx => ?_⟩, ?_⟩
    · obtain ⟨⟨c, hcs, hk⟩, _⟩ := hget j p hj
      rw [hc] at hcs
      have hcc := World.cells?_some hcs
      refine ⟨c, d.K_len hk, hk, fun i u hu => ?_⟩
      have hi : i < c.length := (List.getElem?_eq_some_iff.1 hu).1
      have h2 := hcc.2.2 i (by rw [← d.K_len hk]; exact hi)
      rw [← addr_add_add, h2, hu]
    · rw [hyl']
      simp only [List.length_map] at hsum
      refine Nat.le_trans (Nat.mul_le_mul_right _ ?_) (show _ ≤ 140737488351232 from hB ▸ hsum)
      omega
    · obtain ⟨i, hi⟩ := List.getElem?_of_mem hx
      exact (hget i x hi).2.1
    · have := bulk_all (b := b) (elems.map (·.1)) ys (by rw [List.length_map, hyl']; omega) (fun i d' x' hd hx => by
        rw [List.getElem?_map] at hd
        obtain ⟨y, hy, rfl⟩ := Option.map_eq_some_iff.1 hd
        exact (hget i x' hx).2.2 y hy)
      simp only [Rows.uptoBulk]
      omega

def OpnFU {α : Type} (P : Program) (fs : List Field) (off : Nat) (d : Kd α) (g : α → Prop) (b : α → Nat) : Prop :=
  ∀ {H : Type} {enc : TypeId × Value → H} {w : World} {base : Nat} {spare : Nat → Bool} {held : Bool} {n : Nat} {cs : List Value} {xs : List (DataW H × List MemPlace)},
    xs.length = fs.length → (∀ (i : Nat) (f : Field), fs[i]? = some f → DataW.trod enc P w base spare held n f.type ((cs.drop f.offset).take (P.cellsOf f.type)) = xs[i]?) →
    cs.length = off + d.sz → ((DataW.weightsEach P (fs.map (·.type)) (xs.map (·.1))).all (· ≤ reachBytes)) = true → ∃ a, d.K w a (cs.drop off) ∧ g a ∧ b a ≤ Rows.uptoBulkAll (xs.map (·.1))
theorem opnFu_one {α : Type} {d : Kd α} {g : α → Prop} {b : α → Nat} {f : Field} {off : Nat} (ho : f.offset = off) (hc : P.cellsOf f.type = d.sz) (h : OpnU P f.type d g b) : OpnFU P [f] off d g b := by
  intro H enc w base spare held n cs xs hl hx hcs hw
  match xs, hl with
  | [y], _ =>
    have h0 := hx 0 f rfl
    simp only [List.getElem?_cons_zero] at h0
    simp only [List.map_cons, List.map_nil, DataW.weightsEach, List.append_nil] at hw
    obtain ⟨a, hk, hg, hb⟩ := h h0 hw
    refine ⟨a, ?_, hg, by simp only [List.map_cons, List.map_nil, Rows.uptoBulkAll]; omega⟩
    rw [ho, List.take_of_length_le (by rw [List.length_drop, hcs, hc]; omega)] at hk
    exact hk
theorem opnFu_cons {α β : Type} {d : Kd α} {d' : Kd β} {g : α → Prop} {g' : β → Prop} {b : α → Nat} {b' : β → Nat} {f : Field} {fs : List Field} {off : Nat} (ho : f.offset = off) (hc : P.cellsOf f.type = d.sz) (h : OpnU P f.type d g b) (h' : OpnFU P fs (off + d.sz) d' g' b') :
    OpnFU P (f :: fs) off (Kd.pair d d') (fun x => g x.1 ∧ g' x.2) (fun x => b x.1 + b' x.2) := by
  intro H enc w base spare held n cs xs hl hx hcs hw
  match xs, hl with
  | y :: ys, hl =>
    have h0 := hx 0 f rfl
    simp only [List.getElem?_cons_zero] at h0
    simp only [List.map_cons, DataW.weightsEach, List.all_append, Bool.and_eq_true] at hw
    obtain ⟨a, hk, hg, hb⟩ := h h0 hw.1
    have hcs' : cs.length = off + d.sz + d'.sz := by rw [hcs]; show off + (d.sz + d'.sz) = _; omega
    obtain ⟨c, hk', hg', hb'⟩ := h' (xs := ys) (by simpa using hl) (fun i f' hf => by simpa using hx (i + 1) f' (by simpa using hf)) hcs' hw.2
    refine ⟨(a, c), ⟨(cs.drop off).take d.sz, cs.drop (off + d.sz), ?_, ?_, hk'⟩, ⟨hg, hg'⟩, by simp only [List.map_cons, Rows.uptoBulkAll]; omega⟩
    · rw [← List.drop_drop, List.take_append_drop]
    · rw [← hc]; rw [ho] at hk; exact hk
theorem opnu_struct {α β : Type} {d : Kd α} {fs : Array Field} {g : α → Prop} {b : α → Nat} (f : β → α) (f' : α → β) (hf : ∀ x, f (f' x) = x) (ht : P.underlying t = some (.struct fs)) (hc : P.cellsOf t = d.sz) (h : OpnFU P fs.toList 0 d g b) :
    OpnU P t (Kd.iso d f) (fun x => g (f x)) (fun x => b (f x) + 1) := by
  intro H enc w base spare held fuel cs x hx hw
  obtain ⟨xs, n, _, rfl, hl, hlen, hff⟩ := DataW.trod_struct ht hx
  simp only [DataW.weights, ht] at hw
  obtain ⟨a, hk, hg, hb⟩ := h (by simpa using hlen) (fun i fl hfl => hff i fl (by simpa using hfl)) (by rw [hl, hc, Nat.zero_add]) hw
  refine ⟨f' a, ?_, by show g (f (f' a)); rw [hf]; exact hg, by show b (f (f' a)) + 1 ≤ _; rw [hf]; simp only [Rows.uptoBulk]; omega⟩
  show d.K w (f (f' a)) cs
  rw [hf]
  exact hk
end
end Go.Proofs.Ythigjlahanejjaa.Opening
