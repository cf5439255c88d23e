/- What an argument's reading says, kind by kind: the value's cells hold a plain datum of the print's kinds, every part in its range, every string and slice within the reach. No condition of its own. -/
import Derived.Test.YtieodkghfceflaaWWords
import Derived.ChangeArms
import Derived.ChangeSlices
import Derived.SizedLaws
import Derived.WideShapes
namespace Go.Proofs.Ytieodkghfceflaa.Opening
open Go.ChangeShapes Go.WideShapes Go.Proofs.YtieodkghfceflaaW.PrintWords

/-- Whatever reads as a datum of type t, its weights within the reach: its cells are those of some a of the kind d, with g a. -/
def Opn {α : Type} (P : Program) (t : TypeId) (d : Kd α) (g : α → Prop) : Prop :=
  ∀ {H : Type} {enc : TypeId × Value → H} {w : World} {base : Nat} {spare : Nat → Bool} {held : Bool} {fuel : Nat} {cs : List Value} {x : DataW H × List MemPlace},
    DataW.trod enc P w base spare held fuel t cs = some x → ((x.1.weights P t).all (· ≤ reachBytes)) = true → ∃ a, d.K w a cs ∧ g a

section
variable {P : Program} {t e : TypeId}

theorem opn_int {k : IntKind} (ht : P.underlying t = some (.int k)) : Opn P t (Kd.int k) (fun n => (Lit.int k n).wf = true) := by
  intro H enc w base spare held fuel cs x h _
  obtain ⟨n, rfl, _, hw⟩ := DataW.trod_int ht h
  exact ⟨n, rfl, hw⟩
theorem opn_bool (ht : P.underlying t = some .bool) : Opn P t Kd.bool (fun _ => True) := by
  intro H enc w base spare held fuel cs x h _
  obtain ⟨b, rfl, _⟩ := DataW.trod_bool ht h
  exact ⟨b, rfl, trivial⟩
theorem opn_string (ht : P.underlying t = some .string) : Opn P t Kd.string (fun s => s.size ≤ 140737488351232) := by
  intro H enc w base spare held fuel cs x h hw
  obtain ⟨s, rfl, rfl, _⟩ := DataW.trod_string ht h
  refine ⟨s, rfl, ?_⟩
  simp only [DataW.weights, List.all_cons, List.all_nil, Bool.and_true, reachBytes, Array.length_toList] at hw
  exact of_decide_eq_true hw

theorem weightsAll_mem {H : Type} {p : Nat → Bool} : ∀ (l : List (DataW H)), (DataW.weightsAll P e l).all p = true → ∀ d ∈ l, (d.weights P e).all p = true
  | [], _, d, hd => absurd hd (by simp)
  | x :: r, h, d, hd => by
    simp only [DataW.weightsAll, List.all_append, Bool.and_eq_true] at h
    rcases List.mem_cons.1 hd with rfl | hd
    · exact h.1
    · exact weightsAll_mem r h.2 d hd

theorem choose_list {α β : Type} {R : α → β → Prop} : ∀ (l : List α), (∀ x ∈ l, ∃ y, R x y) → ∃ ys : List β, ys.length = l.length ∧ ∀ (i : Nat) (x : α) (y : β), l[i]? = some x → ys[i]? = some y → R x y
  | [], _ => ⟨[], rfl, fun i x y h => by simp at h⟩
  | a :: r, h => by
    obtain ⟨y, hy⟩ := h a (by simp)
    obtain ⟨ys, hl, hr⟩ := choose_list r (fun x hx => h x (by simp [hx]))
    refine ⟨y :: ys, by simp [hl], fun i x z h1 h2 => ?_⟩
    cases i with
    | zero => simp only [List.getElem?_cons_zero, Option.some.injEq] at h1 h2; subst h1; subst h2; exact hy
    | succ i => simp only [List.getElem?_cons_succ] at h1 h2; exact hr i x z h1 h2

theorem addr_add_add (a : Addr) (m n : Nat) : (a.add m).add n = a.add (m + n) := by
  unfold Addr.add
  by_cases h1 : m = 0 <;> by_cases h2 : n = 0 <;> simp [h1, h2, Nat.add_assoc]
theorem opn_slice {α : Type} {d : Kd α} {g : α → Prop} {B : Nat} (ht : P.underlying t = some (.slice e)) (hc : P.cellsOf e = d.sz) (hB : P.bytesOf e = B) (he : Opn P e d g) :
    Opn P t (Kd.slice e d) (fun xs => xs.length * B ≤ 140737488351232 ∧ xs.length ≤ 9223372036854775807 ∧ ∀ x ∈ xs, g x) := by
  intro H enc w base spare held fuel cs x h hw
  rcases DataW.trod_slice ht h with ⟨rfl, rfl⟩ | ⟨a, len, cap, elems, rest, n, _, rfl, rfl, hb, hl, hm, hlen, hel, _, _⟩
  · exact ⟨[], ⟨none, 0, rfl, Nat.le_refl _, rfl, by simp, fun h => absurd h (by simp)⟩, by simp, by simp, fun x hx => by simp at hx⟩
  · simp only [DataW.weights, ht, List.all_cons, List.all_append, Bool.and_eq_true] at hw
    obtain ⟨hsum, hwe, _⟩ := hw
    replace hsum := of_decide_eq_true hsum
    have each : ∀ i y, elems[i]? = some y → ∃ (z : α), (∃ c, w.cells? base (a.add (i * P.cellsOf e)) (P.cellsOf e) = some c ∧ d.K w z c) ∧ g z := by
      intro i y hy
      have hi : i < len := by have := (List.getElem?_eq_some_iff.1 hy).1; omega
      have hb' := hel i hi
      rw [hy, Option.bind_eq_some_iff] at hb'
      obtain ⟨c, hcs, hy'⟩ := hb'
      have hmem : y.1 ∈ elems.map (·.1) := List.mem_map.2 ⟨y, List.mem_of_getElem? hy, rfl⟩
      obtain ⟨z, hz, hg⟩ := he hy' (weightsAll_mem _ hwe _ hmem)
      exact ⟨z, ⟨c, hcs, hz⟩, hg⟩
    obtain ⟨ys, hyl, hys⟩ := choose_list (R := fun (i : Nat) (z : α) => (∃ c, w.cells? base (a.add (i * P.cellsOf e)) (P.cellsOf e) = some c ∧ d.K w z c) ∧ g z) (List.range len) (fun i hi => by
      have hi' : i < elems.length := by have := List.mem_range.1 hi; omega
      exact each i _ (List.getElem?_eq_getElem hi'))
    have hyl' : ys.length = len := by rw [hyl, List.length_range]
    have hget : ∀ i z, ys[i]? = some z → (∃ c, w.cells? base (a.add (i * P.cellsOf e)) (P.cellsOf e) = some c ∧ d.K w z c) ∧ g z := by
      intro i z hz
      have hi : i < len := by have := (List.getElem?_eq_some_iff.1 hz).1; omega
      exact hys i i z (by simp [hi]) hz
    refine ⟨ys, ⟨some a, cap, by rw [hyl'], by omega, rfl, by simp only [maxLen] at hm; omega, fun _ => ⟨a, rfl, fun j p hj => ?_⟩⟩, ?_, by simp only [maxLen] at hm; omega, fun x hx => ?_⟩
    · obtain ⟨⟨c, hcs, hk⟩, _⟩ := hget j p hj
      rw [hc] at hcs
      have hcc := World.cells?_some hcs
      refine ⟨c, d.K_len hk, hk, fun i u hu => ?_⟩
      have hi : i < c.length := (List.getElem?_eq_some_iff.1 hu).1
      have h2 := hcc.2.2 i (by rw [← d.K_len hk]; exact hi)
      rw [← addr_add_add, h2, hu]
    · rw [hyl']
      simp only [List.length_map] at hsum
      refine Nat.le_trans (Nat.mul_le_mul_right _ ?_) (show _ ≤ 140737488351232 from hB ▸ hsum)
      omega
    · obtain ⟨i, hi⟩ := List.getElem?_of_mem hx
      exact (hget i x hi).2

/-- The fields from one on, laid one behind the other. -/
def OpnF {α : Type} (P : Program) (fs : List Field) (off : Nat) (d : Kd α) (g : α → Prop) : Prop :=
  ∀ {H : Type} {enc : TypeId × Value → H} {w : World} {base : Nat} {spare : Nat → Bool} {held : Bool} {n : Nat} {cs : List Value} {xs : List (DataW H × List MemPlace)},
    xs.length = fs.length → (∀ (i : Nat) (f : Field), fs[i]? = some f → DataW.trod enc P w base spare held n f.type ((cs.drop f.offset).take (P.cellsOf f.type)) = xs[i]?) →
    cs.length = off + d.sz → ((DataW.weightsEach P (fs.map (·.type)) (xs.map (·.1))).all (· ≤ reachBytes)) = true → ∃ a, d.K w a (cs.drop off) ∧ g a

theorem opnF_one {α : Type} {d : Kd α} {g : α → Prop} {f : Field} {off : Nat} (ho : f.offset = off) (hc : P.cellsOf f.type = d.sz) (h : Opn P f.type d g) : OpnF P [f] off d g := by
  intro H enc w base spare held n cs xs hl hx hcs hw
  match xs, hl with
  | [y], _ =>
    have h0 := hx 0 f rfl
    simp only [List.getElem?_cons_zero] at h0
    simp only [List.map_cons, List.map_nil, DataW.weightsEach, List.append_nil] at hw
    obtain ⟨a, hk, hg⟩ := h h0 hw
    refine ⟨a, ?_, hg⟩
    rw [ho, List.take_of_length_le (by rw [List.length_drop, hcs, hc]; omega)] at hk
    exact hk
theorem opnF_cons {α β : Type} {d : Kd α} {d' : Kd β} {g : α → Prop} {g' : β → Prop} {f : Field} {fs : List Field} {off : Nat} (ho : f.offset = off) (hc : P.cellsOf f.type = d.sz) (h : Opn P f.type d g) (h' : OpnF P fs (off + d.sz) d' g') :
    OpnF P (f :: fs) off (Kd.pair d d') (fun x => g x.1 ∧ g' x.2) := by
  intro H enc w base spare held n cs xs hl hx hcs hw
  match xs, hl with
  | y :: ys, hl =>
    have h0 := hx 0 f rfl
    simp only [List.getElem?_cons_zero] at h0
    simp only [List.map_cons, DataW.weightsEach, List.all_append, Bool.and_eq_true] at hw
    obtain ⟨a, hk, hg⟩ := h h0 hw.1
    have hcs' : cs.length = off + d.sz + d'.sz := by rw [hcs]; show off + (d.sz + d'.sz) = _; omega
    obtain ⟨b, hk', hg'⟩ := h' (xs := ys) (by simpa using hl) (fun i f' hf => by simpa using hx (i + 1) f' (by simpa using hf)) hcs' hw.2
    refine ⟨(a, b), ⟨(cs.drop off).take d.sz, cs.drop (off + d.sz), ?_, ?_, hk'⟩, hg, hg'⟩
    · rw [← List.drop_drop, List.take_append_drop]
    · rw [← hc]; rw [ho] at hk; exact hk
theorem opn_struct {α β : Type} {d : Kd α} {fs : Array Field} {g : α → Prop} (f : β → α) (f' : α → β) (hf : ∀ x, f (f' x) = x) (ht : P.underlying t = some (.struct fs)) (hc : P.cellsOf t = d.sz) (h : OpnF P fs.toList 0 d g) :
    Opn P t (Kd.iso d f) (fun x => g (f x)) := by
  intro H enc w base spare held fuel cs x hx hw
  obtain ⟨xs, n, _, rfl, hl, hlen, hff⟩ := DataW.trod_struct ht hx
  simp only [DataW.weights, ht] at hw
  obtain ⟨a, hk, hg⟩ := h (by simpa using hlen) (fun i fl hfl => hff i fl (by simpa using hfl)) (by rw [hl, hc, Nat.zero_add]) hw
  refine ⟨f' a, ?_, by show g (f (f' a)); rw [hf]; exact hg⟩
  show d.K w (f (f' a)) cs
  rw [hf]
  exact hk
end

/-- Of an argument: its own weights out of those of all. -/
theorem weights_at {H : Type} {P : Program} {p : Nat → Bool} : ∀ (ts : List TypeId) (ds : List (DataW H)) (j : Nat) (t : TypeId) (d : DataW H), (DataW.weightsEach P ts ds).all p = true → ts[j]? = some t → ds[j]? = some d → (d.weights P t).all p = true
  | [], _, j, t, d, _, ht, _ => by simp at ht
  | _ :: _, [], j, t, d, _, _, hd => by simp at hd
  | t0 :: ts, d0 :: ds, j, t, d, h, ht, hd => by
    simp only [DataW.weightsEach, List.all_append, Bool.and_eq_true] at h
    cases j with
    | zero => simp only [List.getElem?_cons_zero, Option.some.injEq] at ht hd; subst ht; subst hd; exact h.1
    | succ j => exact weights_at ts ds j t d h.2 (by simpa using ht) (by simpa using hd)
end Go.Proofs.Ytieodkghfceflaa.Opening
