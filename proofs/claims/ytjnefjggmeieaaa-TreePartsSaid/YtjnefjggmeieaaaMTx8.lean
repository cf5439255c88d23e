/- Laid by this claim's own program (myprint) out of the translation: functions that the laws of the group T reach, each as a plain function, with the proof that the Go code comes to it. No condition. -/
import Derived.Test.YtjnefjggmeieaaaMTx0
import Derived.Test.YtjnefjggmeieaaaMTx4
import Derived.Test.YtjnefjggmeieaaaMTx5
import Derived.Test.YtjnefjggmeieaaaMTx6
import Derived.Test.YtjnefjggmeieaaaMTx7
namespace Go.Proofs.Ytjnefjggmeieaaa.MT
open Go.Proofs.Ytjnefjggmeieaaa.Opening
open Go.RowKit Go.Proofs.YtjnefjggmeieaaaW.PrintWords Go.Proofs.YtjnefjggmeieaaaW.PrintLast Go.Proofs.YtjnefjggmeieaaaW.PrintMore
attribute [local go_sem] max2_int min2_int max_two min_two max_three min_three max_four min_four   -- for this text's walks alone
set_option linter.unusedVariables false
set_option linter.unusedSimpArgs false

/-! ### tree_Apply: function 16 -/
set_option linter.unusedVariables false
set_option linter.unusedSimpArgs false
section
open Go.Sort
theorem own_putK {w : World} {base e s n g cap : Nat} {xs : List Value} (h : w.ownsRow base e s (.slice (some ⟨g, 0, none⟩) n cap) n xs) (F : Array Value) (hF : F.size = n * s) (q : Nat) (os : Array Obj) :
    (grow (putRow id (Sort.ahead w q) g 0 F) os).ownsRow base e s (.slice (some ⟨g, 0, none⟩) n cap) n F.toList := by
  obtain ⟨_, h | ⟨g', cap', cur, he, hb, hc, hn, hm, hz, _⟩⟩ := h
  · cases h.1
  · injection he with h1 h2 h3
    injection h1 with h1
    injection h1 with h1
    subst h1
    subst h3
    have hle : n * s ≤ cap * s := Nat.mul_le_mul_right _ hn
    refine ⟨by simp [hF], .inr ⟨g, cap, putCells id 0 F cur, rfl, hb, ?_, hn, hm, by simp [putCells, hz], ?_⟩⟩
    · have hlt : g < w.heap.size := (Array.getElem?_eq_some_iff.1 hc).1
      have : (putRow id (Sort.ahead w q) g 0 F).heap[g]? = some (.cells (putCells id 0 F cur) e (0, 0)) := by
        simp only [putRow, mapBlock, Sort.heap_ahead, Array.getElem?_modify, if_true, hc, Option.map_some, onCells]
      simp only [grow]
      rw [Array.getElem?_append_left (by simpa [putRow, mapBlock] using hlt)]
      exact this
    · apply List.ext_getElem?
      intro i
      simp only [putCells, List.getElem?_take]
      by_cases hi : i < n * s
      · rw [if_pos hi]
        have hic : i < cur.size := by omega
        simp [hic, hi, hF]
      · rw [if_neg hi]
        rw [List.getElem?_eq_none (by simp only [Array.length_toList, hF]; omega)]
theorem own_holdsK {w : World} {base e s n g cap : Nat} {F : Array Value} (h : w.ownsRow base e s (.slice (some ⟨g, 0, none⟩) n cap) n F.toList) : Holds id w g 0 F ∧ g < w.heap.size ∧ n ≤ cap := by
  obtain ⟨hl, h | ⟨g', cap', cur, he, hb, hc, hn, hm, hz, ht⟩⟩ := h
  · cases h.1
  · injection he with h1 h2 h3
    injection h1 with h1
    injection h1 with h1
    subst h1
    subst h3
    have hle : n * s ≤ cap * s := Nat.mul_le_mul_right _ hn
    refine ⟨fun j hj => ?_, (Array.getElem?_eq_some_iff.1 hc).1, hn⟩
    have hl' : F.size = n * s := by simpa using hl
    have hjc : j < cur.size := by omega
    have hv : cur[j]? = some F[j] := by
      have := congrArg (fun l => l[j]?) ht
      simp only [List.getElem?_take] at this
      rw [if_pos (by omega)] at this
      simpa [hj] using this
    rw [Nat.zero_add]
    constructor
    · rw [blk_cell hc j, hv]
      simp [hj]
    · exact blk_frozen hc j
def enc38 (x : S38) : List Value := [.string x.f0, .int .u64 x.f1]
instance : Inhabited S38 := ⟨z38⟩
theorem flat38 (xs : List S38) (t : Nat) (h : t < xs.length * 2) : (Go.Sort.flatK enc38 2 xs.toArray).toList[t]? = (enc38 (xs[t / 2]'(by omega)))[t % 2]? := by
  have h1 := Go.Sort.get_flatK enc38 2 xs.toArray t (by simpa using h)
  have hs : t < (Go.Sort.flatK enc38 2 xs.toArray).size := by simpa using h
  have hj : t / 2 < xs.length := by omega
  have e : xs.toArray[t / 2]! = xs[t / 2] := by rw [getElem!_pos xs.toArray (t / 2) (by simpa using hj)]; simp
  rw [getElem!_pos _ t hs, e] at h1
  rw [Array.getElem?_toList, Array.getElem?_eq_getElem hs, h1]
  rcases Nat.mod_two_eq_zero_or_one t with h | h <;> rw [h] <;> rfl
theorem reps38 {W : World} {base : Nat} {ok : Nat → Prop} {xs : List S38} {inner : List Value} (h : Reps (k38.M W base ok) 2 xs inner) : inner = (Go.Sort.flatK enc38 2 xs.toArray).toList := by
  obtain ⟨hl, h⟩ := h
  apply List.ext_getElem?
  intro t
  by_cases ht : t < xs.length * 2
  · rw [flat38 xs t ht]
    have hj : t / 2 < xs.length := by omega
    have := k38_openM (h (t / 2) _ (List.getElem?_eq_getElem hj))
    have he : enc38 xs[t / 2] = ((inner.drop (t / 2 * 2)).take 2) := this.symm
    rw [he, List.getElem?_take, if_pos (by omega), List.getElem?_drop]
    congr 1
    omega
  · rw [List.getElem?_eq_none (by omega), List.getElem?_eq_none (by simp; omega)]
theorem reps38_mk (W : World) (base : Nat) (ok : Nat → Prop) (xs : List S38) : Reps (k38.M W base ok) 2 xs (Go.Sort.flatK enc38 2 xs.toArray).toList := by
  refine ⟨by simp, fun j p hj => ?_⟩
  obtain ⟨hl, hp⟩ := List.getElem?_eq_some_iff.1 hj
  have e : (((Go.Sort.flatK enc38 2 xs.toArray).toList.drop (j * 2)).take 2) = enc38 p := by
    apply List.ext_getElem?
    intro i
    rw [List.getElem?_take]
    by_cases hi : i < 2
    · rw [if_pos hi, List.getElem?_drop, flat38 xs _ (by omega)]
      have h1 : (j * 2 + i) / 2 = j := by omega
      have h2 : (j * 2 + i) % 2 = i := by omega
      simp only [h1, h2, hp]
    · rw [if_neg hi, List.getElem?_eq_none (by simp [enc38]; omega)]
  rw [e]
  exact k38_mkM W base ok p
def cmp38 (x y : S38) : Int := Lib.compareBytes x.f0.data.toList y.f0.data.toList
theorem cmp_both38 : ∀ a b : List UInt8, (Lib.compareBytes a b < 0 ↔ a < b) ∧ (Lib.compareBytes a b = 0 ↔ a = b)
  | [], [] => by simp [Lib.compareBytes]
  | [], _ :: _ => by simp [Lib.compareBytes]
  | _ :: _, [] => by simp [Lib.compareBytes]
  | a :: s, b :: t => by
    obtain ⟨h1, h2⟩ := cmp_both38 s t
    unfold Lib.compareBytes
    by_cases c : a < b
    · have ne : a ≠ b := fun e => by subst e; exact absurd c (UInt8.lt_irrefl a)
      simp [c, List.cons_lt_cons_iff, ne]
    · by_cases c2 : b < a
      · have ne : a ≠ b := fun e => by subst e; exact absurd c2 (UInt8.lt_irrefl a)
        simp [c, c2, List.cons_lt_cons_iff, ne]
      · have e : a = b := UInt8.le_antisymm (UInt8.not_lt.1 c2) (UInt8.not_lt.1 c)
        subst e
        simp [List.cons_lt_cons_iff, h1, h2, UInt8.lt_irrefl]
theorem lt38 (x y : S38) : ltOf cmp38 x y = decide (x.f0.data.toList < y.f0.data.toList) := by
  unfold ltOf cmp38
  exact decide_eq_decide.mpr (cmp_both38 _ _).1
theorem swo38 : SWO (ltOf cmp38) where
  irrefl x := by rw [lt38]; simp [List.lt_irrefl]
  trans x y z h1 h2 := by rw [lt38] at *; simp at *; exact List.lt_trans h1 h2
  ntrans x y z h1 h2 := by rw [lt38] at *; simp at *; exact List.le_trans h2 h1
theorem closure37 (x y : S38) (w : World) : Calls Try.prog 37 #[.agg #[.string x.f0, .int .u64 x.f1], .agg #[.string y.f0, .int .u64 y.f1]] w fun e w' => e = .returned (.int .i64 (cmp38 x y)) ∧ w' = grow w #[.cells #[.string x.f0, .int .u64 x.f1] 38 (0, 0), .cells #[.string y.f0, .int .u64 y.f1] 38 (0, 0)] := by
  go_enter Try.func37, Try.ntmps37
  go_wp2_with (go_at_call 38; refine (Go.Proofs.Any.strings_Compare Go.Proofs.Ytjnefjggmeieaaa.Shelf.lays106 x.f0 y.f0 _).mono ?_; rintro e w' ⟨rfl, rfl⟩)
  go_ret
  refine ⟨rfl, ?_⟩
  rw [alloc_eq_grow, alloc_eq_grow, grow_grow]
  rfl
theorem cmpLays38 (blk off size : Nat) (w : World) : CmpLays Try.prog 37 #[] enc38 2 cmp38 blk off size w :=
  fun _ _ _ _ x y => (closure37 x y _).mono fun e w' ⟨he, hw⟩ => ⟨he, 0, _, hw⟩
/-- Entries in the order of their paths. -/
def srtE (l : List S38) : List S38 := l.mergeSort fun x y => decide (x.f0.data.toList ≤ y.f0.data.toList)
theorem srtE_unique {l l' : List S38} (hp : l'.Perm l) (hd : l.Pairwise fun x y => x.f0 ≠ y.f0) (hs : l'.Pairwise fun x y => x.f0.data.toList ≤ y.f0.data.toList) : l' = srtE l := by
  have h2 : (srtE l).Pairwise fun x y => x.f0.data.toList ≤ y.f0.data.toList := by
    have := List.pairwise_mergeSort (le := fun x y : S38 => decide (x.f0.data.toList ≤ y.f0.data.toList)) (fun a b c h1 h2 => by simp at *; exact List.le_trans h1 h2) (fun a b => by simp only [Bool.or_eq_true, decide_eq_true_eq]; exact List.le_total _ _) l
    exact this.imp (fun h => of_decide_eq_true h)
  have hps : (srtE l).Perm l := List.mergeSort_perm _ _
  refine List.Perm.eq_of_pairwise (fun a b ha hb h3 h4 => ?_) hs h2 (hp.trans hps.symm)
  have e : a.f0.data.toList = b.f0.data.toList := List.le_antisymm h3 h4
  have e : a.f0 = b.f0 := by
    have := Array.toList_inj.mp e
    exact ByteArray.ext this
  by_cases hab : a = b
  · exact hab
  · exfalso
    obtain ⟨i, hi, rfl⟩ := List.getElem_of_mem (hp.mem_iff.mp ha)
    obtain ⟨j, hj, rfl⟩ := List.getElem_of_mem (hps.mem_iff.mp hb)
    rcases Nat.lt_trichotomy i j with h | h | h
    · exact List.pairwise_iff_getElem.mp hd i j hi hj h e
    · subst h
      exact hab rfl
    · exact List.pairwise_iff_getElem.mp hd j i hj hi h e.symm
theorem sortE_calls (P0 : Nat → Prop) (u : Value) (l0 : List S38) (w0 w : World) (hB : Below w0.heap.size w0 w) (ho : Kd.R k38 38 w w0.heap.size P0 u l0) (hd : l0.Pairwise fun x y => x.f0 ≠ y.f0) (hsz : l0.length < 4611686018427387904) :
    Calls Try.prog 36 #[u, .func (.func 37) #[] #[]] w fun e w' => e = .returned (.tuple #[]) ∧ Kd.R k38 38 w' w0.heap.size P0 u (srtE l0) ∧ Below w0.heap.size w0 w' ∧ Kept w w' (fun k => u.ownBlock = some k) := by
  by_cases hl : 0 < l0.length
  · obtain ⟨g, cap, rfl, hb0, hg, _⟩ := Kd.R_form ho hl
    obtain ⟨hok, inner, how, hr⟩ := ho
    obtain rfl := reps38 hr
    obtain ⟨hH, hgl, hcap⟩ := own_holdsK how
    have eg : ∀ args w, (callFunc 37 args).run Try.prog w = .ok (.enter 37 args) w := enters_of Try.func37 (by kernel_rfl) rfl
    have hcon := AnyQ.slices_SortFunc Shelf.laysF6 2 Try.isAgg38 Try.sizeOf38 enc38 (fun _ => rfl) (fun x v hv => by simp [enc38] at hv; rcases hv with rfl | rfl <;> rfl) cmp38 swo38 37 #[] g 0 cap l0.toArray w eg (cmpLays38 g 0 l0.toArray.size w) hH hgl (by simpa using hsz)
    have hsz' : l0.toArray.size = l0.length := by simp
    rw [hsz'] at hcon
    refine hcon.mono ?_
    rintro e w' ⟨rfl, d', n, os, hp, hs, rfl⟩
    have hds : d'.size = l0.length := by rw [hp.1]; simp
    have hperm : d'.toList.Perm l0 := by
      have := hp.2.2
      rw [← hsz'] at this
      have e1 : d'.extract 0 l0.toArray.size = d' := by rw [hsz', ← hds]; exact Array.extract_size
      have e2 : l0.toArray.extract 0 l0.toArray.size = l0.toArray := Array.extract_size
      rw [e1, e2] at this
      exact this
    have hsrt : d'.toList = srtE l0 := by
      refine srtE_unique hperm hd (List.pairwise_iff_getElem.mpr fun i j hi hj hij => ?_)
      have := hs i j (Nat.zero_le _) hij (by simpa [hds] using hj)
      rw [getElem!_pos d' i (by simpa using hi), getElem!_pos d' j (by simpa using hj), lt38] at this
      simpa using this
    have hd' : d' = (srtE l0).toArray := by rw [← hsrt]
    subst hd'
    have hlen : (srtE l0).length = l0.length := by simpa using hds
    have hput := own_putK how (Go.Sort.flatK enc38 2 (srtE l0).toArray) (by simp [hlen]; rfl) n os
    refine ⟨rfl, ⟨hok, _, ?_, reps38_mk _ _ _ _⟩, ?_, ?_⟩
    · rw [hlen]; exact hput
    · exact grown_below id _ n os hB hb0
    · exact grown_kept id _ n os rfl
  · obtain rfl : l0 = [] := List.eq_nil_of_length_eq_zero (by omega)
    obtain ⟨A, c, rfl⟩ := Kd.R_slice ho
    refine (AnyF.slices_SortFunc_none Shelf.laysF6 A c _ w).mono ?_
    rintro x w' ⟨rfl, rfl⟩
    have e : srtE [] = [] := by simp [srtE]
    rw [e]
    exact ⟨rfl, ho, hB, Kept.refl _ _⟩
end
theorem law9 : Maps.Keyed Try.prog 9 := Maps.string_keyed Try.underlying9
theorem zero4 (w : World) : (zeroValue 4).run Try.prog w = .ok (.bool false) w := by kernel_rfl
theorem key9 {s : ByteArray} (hs : s.size ≤ 1000000) : keyOf Try.prog 9 (.string s) = some (.string s.data.toList) := WideMaps.keyOf_string_mk Try.underlying9 (by unfold maxLen; omega)
/-- The paths that have been done. -/
def doneF (D : List ByteArray) : Lit → Option Value
  | .string l => if D.any (fun p => decide (p.data.toList = l)) = true then some (.bool true) else none
  | _ => none
def doneB (D : List ByteArray) (p : ByteArray) : Bool := D.any (fun q => decide (q.data.toList = p.data.toList))
theorem doneF_get (D : List ByteArray) (p : ByteArray) : (doneF D (.string p.data.toList)).getD (.bool false) = .bool (doneB D p) := by
  show (if doneB D p = true then some (Value.bool true) else none).getD (.bool false) = .bool (doneB D p)
  cases doneB D p <;> rfl
theorem doneF_put (D : List ByteArray) (p : ByteArray) : (fun x : Lit => if x.sameKey (.string p.data.toList) = true then some (Value.bool true) else doneF D x) = doneF (p :: D) := by
  funext x
  cases x with
  | string l =>
    unfold doneF
    by_cases h : l = p.data.toList
    · subst h
      rw [if_pos (WideAt.sameKey_self (a := .string p.data.toList) trivial)]
      simp
    · rw [Maps.sameKey_ne (by simpa using h)]
      have : ¬ p.data.toList = l := fun e => h e.symm
      simp [this]
  | _ => simp [doneF, Lit.sameKey]
/-- The second round: what was not done. -/
def ap1 (D : List ByteArray) : List S38 → List S38 → List S38
  | [], out => out
  | x :: l, out => if doneB D x.f0 = true then ap1 D l out else ap1 D l (out ++ [x])
def ap2 (k : Nat) (out : List S38) : Option (List S38 × Int) :=
  if out.Pairwise (fun x y => x.f0 ≠ y.f0) then (object_Tree.f k (srtE out)).bind fun t => if t.2 ≠ 0 then some ([], t.2) else some (srtE out, 0) else none
/-- The first round: the changes. -/
def ap0 (k : Nat) (l0 : List S38) : List S51 → List ByteArray → List S38 → Option (List S38 × Int)
  | [], D, out => ap2 k (ap1 D l0 out)
  | c :: l, D, out => (object_Find.f k l0 c.f0).bind fun t => if doneB D c.f0 = true then some ([], 9) else if t.1 ≠ c.f1 then some ([], 9) else if c.f2 ≠ 0 then ap0 k l0 l (c.f0 :: D) (out ++ [⟨c.f0, c.f2⟩]) else ap0 k l0 l (c.f0 :: D) out
def tree_Apply.f (k : Nat) (l0 : List S38) (l1 : List S51) : Option (List S38 × Int) :=
  if l0.length + l1.length ≤ 1000000 ∧ l0.all (fun x => decide (x.f0.size ≤ 1000000)) = true ∧ l1.all (fun x => decide (x.f0.size ≤ 1000000)) = true then ap0 k l0 l1 [] [] else none
theorem ap2_mono (k : Nat) (out : List S38) : LeO (ap2 k out) (ap2 (k + 1) out) := by
  unfold ap2
  exact LeO.ite (LeO.bind (object_Tree.mono _ k) (fun t => LeO.refl _)) (LeO.refl _)
theorem ap0_mono (k : Nat) (l0 : List S38) : ∀ l D out, LeO (ap0 k l0 l D out) (ap0 (k + 1) l0 l D out)
  | [], D, out => ap2_mono k _
  | c :: l, D, out => by
    unfold ap0
    exact LeO.bind (object_Find.mono _ _ k) (fun t => LeO.ite (LeO.refl _) (LeO.ite (LeO.refl _) (LeO.ite (ap0_mono k l0 l _ _) (ap0_mono k l0 l _ _))))
theorem tree_Apply.mono : ∀ a0 a1 k, LeO (tree_Apply.f k a0 a1) (tree_Apply.f (k + 1) a0 a1) := fun a0 a1 k => by
  unfold tree_Apply.f
  exact LeO.ite (ap0_mono k a0 a1 _ _) (LeO.refl _)
structure ApSt (B mb : Nat) (D : List ByteArray) (v : Value) (out : List S38) (W : World) : Prop where
  map : MapAt Try.prog 9 W mb D.length (doneF D)
  base : B ≤ mb
  row : Kd.R k38 38 W B (fun _ => True) v out
section
variable {B mb : Nat} {D : List ByteArray} {v : Value} {out : List S38} {W W' : World}
theorem ApSt.below (h : ApSt B mb D v out W) (hb : Below W.heap.size W W') : ApSt B mb D v out W' := ⟨h.map.below hb, h.base, Kd.R_below h.row hb⟩
theorem ApSt.put {p : ByteArray} (h : ApSt B mb D v out W) (hM : MapAt Try.prog 9 W' mb (D.length + 1) (fun x => if x.sameKey (.string p.data.toList) = true then some (.bool true) else doneF D x)) (hg : W.grownBy W' (some mb)) : ApSt B mb (p :: D) v out W' :=
  ⟨by rw [doneF_put] at hM; exact hM, h.base, Kd.R_grown2 h.row rfl hg (fun k hk => by cases hk; exact h.map.ne_row h.row)⟩
theorem ApSt.push {v1 : Value} {out1 : List S38} (h : ApSt B mb D v out W) (hR : Kd.R k38 38 W' B (fun _ => True) v1 out1) (hg : W.grownBy W' v.ownBlock) : ApSt B mb D v1 out1 W' :=
  ⟨h.map.kept hg (h.map.ne_row h.row), h.base, hR⟩
end
theorem box3 {W : World} {b : Nat} {z0 z1 z2 u0 u1 u2 : Value} {t : TypeId} (h : W.heap[b]? = some (.cells #[z0, z1, z2] t (0, 0))) : (((W.setCell ⟨b, 0, none⟩ u0).setCell ⟨b, 1, none⟩ u1).setCell ⟨b, 2, none⟩ u2).heap[b]? = some (.cells #[u0, u1, u2] t (0, 0)) := by
  have h1 := blk_set h 0 u0
  have h2 := blk_set h1 1 u1
  have h3 := blk_set h2 2 u2
  simpa using h3
theorem box2 {W : World} {b : Nat} {z0 z1 u0 u1 : Value} {t : TypeId} (h : W.heap[b]? = some (.cells #[z0, z1] t (0, 0))) : ((W.setCell ⟨b, 0, none⟩ u0).setCell ⟨b, 1, none⟩ u1).heap[b]? = some (.cells #[u0, u1] t (0, 0)) := by
  have h1 := blk_set h 0 u0
  have h2 := blk_set h1 1 u1
  simpa using h2
set_option maxHeartbeats 8000000 in
set_option maxRecDepth 100000 in
theorem tree_Apply.calls (k : Nat) (A0 : Option Addr) (c0 : Nat) (l0 : List S38) (A1 : Option Addr) (c1 : Nat) (l1 : List S51) (r1 : List S38) (r2 : Int) (w : World)
    (hr0 : Kd.C k38 w A0 l0.length l0) (hc0 : l0.length ≤ c0) (hr1 : Kd.C k51 w A1 l1.length l1) (hc1 : l1.length ≤ c1) (h : tree_Apply.f k l0 l1 = some (r1, r2)) :
    Calls Try.prog 16 #[.slice A0 l0.length c0, .slice A1 l1.length c1] w fun e w' => ∃ v0_ : Value, e = .returned (.tuple #[v0_, .int .i64 r2]) ∧ Kd.R k38 38 w' w.heap.size (fun _ => True) v0_ r1 ∧ Below w.heap.size w w' := by
  have HR0 := Aside0.mk hr0
  have HR1 := Aside0.mk hr1
  have HC0 := Aside0.mk hc0
  have HC1 := Aside0.mk hc1
  unfold tree_Apply.f at h
  split at h
  case isFalse => cases h
  rename_i hg
  obtain ⟨hln, hp0, hp1⟩ := hg
  have HLN := Aside0.mk hln
  have HP0 : Aside0 (∀ x ∈ l0, x.f0.size ≤ 1000000) := ⟨fun x hx => by simpa using List.all_eq_true.mp hp0 x hx⟩
  have HP1 : Aside0 (∀ x ∈ l1, x.f0.size ≤ 1000000) := ⟨fun x hx => by simpa using List.all_eq_true.mp hp1 x hx⟩
  have H := Aside0.mk h
  clear hr0 hr1 hc0 hc1 hln hp0 hp1 h
  obtain ⟨wm, hwm⟩ : ∃ wm, w.alloc (.map #[] 0) = wm := ⟨_, rfl⟩
  have HBM : Aside0 (Below w.heap.size w wm) := ⟨by rw [← hwm]; exact below_alloc (Below.refl _ _) _⟩
  have HSM : Aside0 (ApSt w.heap.size w.heap.size [] (.slice none 0 0) [] wm) := ⟨⟨by rw [← hwm, show doneF [] = fun _ => none from by funext x; cases x <;> rfl]; exact MapAt.made w Try.prog 9, Nat.le_refl _, Kd.R_nil _ _ _ _ _⟩⟩
  have hmm := @run_makeMap Try.prog
  go_enter Try.func16, Try.ntmps16
  go_wp2
  clear hmm hwm
  go_loopg [6, 19] (l1.length + 1) (fun kq v6 v19 wr => ∃ (i : Nat) (D : List ByteArray) (out : List S38), v19 = .int .i64 (i : Int) ∧ Aside0 (i + kq = l1.length + 1) ∧ Aside0 (i ≤ l1.length) ∧ Aside0 (D.length = i) ∧ Aside0 (out.length ≤ i) ∧ Aside0 (ap0 k l0 (l1.drop i) D out = some (r1, r2)) ∧ Aside0 (ApSt w.heap.size w.heap.size D v6 out wr) ∧ Aside0 (Below w.heap.size w wr))
  case atStart => exact ⟨0, [], [], rfl, ⟨by omega⟩, ⟨by omega⟩, ⟨rfl⟩, ⟨Nat.le_refl _⟩, ⟨H.out⟩, HSM, HBM⟩
  case round =>
    clear H HSM HBM
    obtain ⟨i, D, out, rfl, HK, HI, HDL, HOL, H, HS, HB⟩ := hrel
    obtain ⟨Ao, co, ev⟩ := Kd.R_slice HS.out.row
    subst ev
    cases gk with
    | zero => exact absurd HK.out (by have := HI.out; omega)
    | succ k1 =>
    by_cases hi : i < l1.length
    · have hil : i < l1.length := hi
      obtain ⟨c, hc⟩ : ∃ c, l1[i] = c := ⟨_, rfl⟩
      have hdr : l1.drop i = c :: l1.drop (i + 1) := by rw [List.drop_eq_getElem_cons hil, hc]
      have HPC : Aside0 (c.f0.size ≤ 1000000) := ⟨HP1.out c (hc ▸ List.getElem_mem hil)⟩
      obtain ⟨ad, e1, hcz0, hcz1, hcz2⟩ := at_T51 HR1.out (i : Int) (by omega) (by omega)
      have erd : rd_T51 l1 (i : Int) = c := by rw [← hc]; simp [rd_T51, List.getD_eq_getElem?_getD, hil]
      rw [erd] at hcz0 hcz1 hcz2
      rw [Int.toNat_natCast] at hcz0 hcz1 hcz2
      subst e1
      replace hcz0 := (HB.out.cell (World.block_lt_of_cell? w _ hcz0)).trans hcz0
      replace hcz1 := (HB.out.cell (World.block_lt_of_cell? w _ hcz1)).trans hcz1
      replace hcz2 := (HB.out.cell (World.block_lt_of_cell? w _ hcz2)).trans hcz2
      have h' := H.out
      rw [hdr, ap0] at h'
      obtain ⟨⟨id, ok⟩, hf, h'⟩ := Option.bind_eq_some_iff.mp h'
      have HF := Aside0.mk hf
      clear hf hc erd hdr H
      obtain ⟨w1, hw1⟩ : ∃ w1, wr.alloc (.cells #[.string ⟨#[]⟩, .int .u64 0, .int .u64 0] 51) = w1 := ⟨_, rfl⟩
      have hz : w1.heap[wr.heap.size]? = some (.cells #[.string ⟨#[]⟩, .int .u64 0, .int .u64 0] 51 (0, 0)) := by rw [← hw1]; exact heap_alloc_new wr _
      obtain ⟨w2, hw2⟩ : ∃ w2, ((w1.setCell ⟨wr.heap.size, 0, none⟩ (.string c.f0)).setCell ⟨wr.heap.size, 1, none⟩ (.int .u64 c.f1)).setCell ⟨wr.heap.size, 2, none⟩ (.int .u64 c.f2) = w2 := ⟨_, rfl⟩
      have HX2 : Aside0 (w2.heap[wr.heap.size]? = some (.cells #[.string c.f0, .int .u64 c.f1, .int .u64 c.f2] 51 (0, 0))) := ⟨by rw [← hw2]; exact box3 hz⟩
      have hb12 : Below wr.heap.size wr w2 := by
        rw [← hw2, ← hw1]
        exact (((below_alloc (Below.refl _ _) _).setCell (Nat.le_refl _) _).setCell (Nat.le_refl _) _).setCell (Nat.le_refl _) _
      have HB2 : Aside0 (Below w.heap.size w w2) := ⟨below_then HB.out HB.out.size hb12⟩
      have HS2 := Aside0.mk (HS.out.below hb12)
      have hz0 : w1.cell? ⟨wr.heap.size, 0, none⟩ = some (.string ⟨#[]⟩) := (blk_cell hz 0).trans rfl
      have hz1 : w1.cell? ⟨wr.heap.size, 1, none⟩ = some (.int .u64 0) := (blk_cell hz 1).trans rfl
      have hz2 : w1.cell? ⟨wr.heap.size, 2, none⟩ = some (.int .u64 0) := (blk_cell hz 2).trans rfl
      have hfz0 : w1.frozen? ⟨wr.heap.size, 0, none⟩ = false := blk_frozen hz 0
      have hfz1 : w1.frozen? ⟨wr.heap.size, 1, none⟩ = false := blk_frozen hz 1
      have hfz2 : w1.frozen? ⟨wr.heap.size, 2, none⟩ = false := blk_frozen hz 2
      have hx0 : w2.cell? ⟨wr.heap.size, 0, none⟩ = some (.string c.f0) := (blk_cell HX2.out 0).trans rfl
      have hx1 : w2.cell? ⟨wr.heap.size, 1, none⟩ = some (.int .u64 c.f1) := (blk_cell HX2.out 1).trans rfl
      have hx2 : w2.cell? ⟨wr.heap.size, 2, none⟩ = some (.int .u64 c.f2) := (blk_cell HX2.out 2).trans rfl
      have hw64 : IntKind.i64.wrap ((i : Int) + 1) = (i : Int) + 1 := by rw [i64_w]; have h2 := HLN.out; unfold wrap64; omega
      have hsum : Value.int .i64 ((i : Int) + 1) = .int .i64 ((i + 1 : Nat) : Int) := by simp
      have HSUM := Aside0.mk hsum
      clear hz hb12 hil hsum
      cases hd : doneB D c.f0 with
      | true =>
        have HDG : Aside0 ((doneF D (.string c.f0.data.toList)).getD (.bool false) = .bool true) := ⟨hd ▸ doneF_get D c.f0⟩
        rw [hd, if_pos rfl] at h'
        cases h'
        clear hd
        go_wp2_with (first | (go_at_call 34; refine (object_Find.calls k A0 c0 l0 c.f0 id ok w2 (Kd.C_below HR0.out HB2.out) HC0.out HF.out).mono ?_; rintro e w3 ⟨rfl, hb⟩; have HB3 := Aside0.mk (below_then HB2.out HB2.out.size hb); have HX3 := Aside0.mk ((hb.block _ (blk_lt HX2.out)).trans HX2.out); have HS3 := Aside0.mk (HS2.out.below hb); have HM3 := Aside0.mk HS3.out.map; have hy0 : w3.cell? ⟨wr.heap.size, 0, none⟩ = some (.string c.f0) := (blk_cell HX3.out 0).trans rfl; have hy1 : w3.cell? ⟨wr.heap.size, 1, none⟩ = some (.int .u64 c.f1) := (blk_cell HX3.out 1).trans rfl; have hy2 : w3.cell? ⟨wr.heap.size, 2, none⟩ = some (.int .u64 c.f2) := (blk_cell HX3.out 2).trans rfl; clear hb hx0 hx1 hx2 hz0 hz1 hz2 hw1 hw2) | (at_lookup; refine MapAt.wp_look HM3.out rfl _ _ 80 rfl law9 Try.underlying80 (zero4 _) rfl _ _ rfl (key9 HPC.out) _ HDG.out ?_))
        go_ret2
        exact ⟨_, rfl, Kd.R_nil _ _ _ _ _, HB3.out⟩
      | false =>
        have HDG : Aside0 ((doneF D (.string c.f0.data.toList)).getD (.bool false) = .bool false) := ⟨hd ▸ doneF_get D c.f0⟩
        rw [hd, if_neg (by simp)] at h'
        clear hd
        by_cases hid : id = c.f1
        · have hne : (id != c.f1) = false := by simpa using hid
          rw [if_neg (by simpa using hid)] at h'
          clear hid
          by_cases h2 : c.f2 = 0
          · have hq : (c.f2 != 0) = false := by simpa using h2
            rw [if_neg (by simpa using h2)] at h'
            have H' := Aside0.mk h'
            clear h2 h'
            go_wp2_with (first | (go_at_call 34; refine (object_Find.calls k A0 c0 l0 c.f0 id ok w2 (Kd.C_below HR0.out HB2.out) HC0.out HF.out).mono ?_; rintro e w3 ⟨rfl, hb⟩; have HB3 := Aside0.mk (below_then HB2.out HB2.out.size hb); have HX3 := Aside0.mk ((hb.block _ (blk_lt HX2.out)).trans HX2.out); have HS3 := Aside0.mk (HS2.out.below hb); have HM3 := Aside0.mk HS3.out.map; have hy0 : w3.cell? ⟨wr.heap.size, 0, none⟩ = some (.string c.f0) := (blk_cell HX3.out 0).trans rfl; have hy1 : w3.cell? ⟨wr.heap.size, 1, none⟩ = some (.int .u64 c.f1) := (blk_cell HX3.out 1).trans rfl; have hy2 : w3.cell? ⟨wr.heap.size, 2, none⟩ = some (.int .u64 c.f2) := (blk_cell HX3.out 2).trans rfl; clear hb hx0 hx1 hx2 hz0 hz1 hz2 hw1 hw2) | (at_lookup; refine MapAt.wp_look HM3.out rfl _ _ 80 rfl law9 Try.underlying80 (zero4 _) rfl _ _ rfl (key9 HPC.out) _ HDG.out ?_) | (at_mapUpdate; refine MapAt.wp_store HM3.out rfl _ _ _ 80 rfl law9 Try.underlying80 rfl (by have h1 := HDL.out; have h2 := HLN.out; unfold maxLen; omega) _ _ _ rfl rfl (key9 HPC.out) trivial ?_; intro w4 hM hG; have HS4 := Aside0.mk (HS3.out.put hM hG); have HB4 := Aside0.mk (pw_below_grown HB3.out _ HB3.out.size hG (fun k hk => by cases hk; exact Nat.le_refl _)); have HX4 := Aside0.mk (blk_grown HX3.out hG (fun h => HM3.out.ne_cells HX3.out (Option.some.inj h))); have hv0 : w4.cell? ⟨wr.heap.size, 0, none⟩ = some (.string c.f0) := (blk_cell HX4.out 0).trans rfl; have hv2 : w4.cell? ⟨wr.heap.size, 2, none⟩ = some (.int .u64 c.f2) := (blk_cell HX4.out 2).trans rfl; clear hM hG hy0 hy1 hy2))
            go_roundg k1
            case measure => have := HK.out; omega
            case rel => exact ⟨i + 1, c.f0 :: D, out, HSUM.out, ⟨by have := HK.out; omega⟩, ⟨by omega⟩, ⟨by have := HDL.out; simp; omega⟩, ⟨by have := HOL.out; omega⟩, H', HS4, HB4⟩
          · have hq : (c.f2 != 0) = true := by simpa using h2
            rw [if_pos (by simpa using h2)] at h'
            have H' := Aside0.mk h'
            clear h2 h'
            go_wp2_with (first | (go_at_call 34; refine (object_Find.calls k A0 c0 l0 c.f0 id ok w2 (Kd.C_below HR0.out HB2.out) HC0.out HF.out).mono ?_; rintro e w3 ⟨rfl, hb⟩; have HB3 := Aside0.mk (below_then HB2.out HB2.out.size hb); have HX3 := Aside0.mk ((hb.block _ (blk_lt HX2.out)).trans HX2.out); have HS3 := Aside0.mk (HS2.out.below hb); have HM3 := Aside0.mk HS3.out.map; have hy0 : w3.cell? ⟨wr.heap.size, 0, none⟩ = some (.string c.f0) := (blk_cell HX3.out 0).trans rfl; have hy1 : w3.cell? ⟨wr.heap.size, 1, none⟩ = some (.int .u64 c.f1) := (blk_cell HX3.out 1).trans rfl; have hy2 : w3.cell? ⟨wr.heap.size, 2, none⟩ = some (.int .u64 c.f2) := (blk_cell HX3.out 2).trans rfl; clear hb hx0 hx1 hx2 hz0 hz1 hz2 hw1 hw2) | (at_lookup; refine MapAt.wp_look HM3.out rfl _ _ 80 rfl law9 Try.underlying80 (zero4 _) rfl _ _ rfl (key9 HPC.out) _ HDG.out ?_) | (at_mapUpdate; refine MapAt.wp_store HM3.out rfl _ _ _ 80 rfl law9 Try.underlying80 rfl (by have h1 := HDL.out; have h2 := HLN.out; unfold maxLen; omega) _ _ _ rfl rfl (key9 HPC.out) trivial ?_; intro w4 hM hG; have HS4 := Aside0.mk (HS3.out.put hM hG); have HB4 := Aside0.mk (pw_below_grown HB3.out _ HB3.out.size hG (fun k hk => by cases hk; exact Nat.le_refl _)); have HX4 := Aside0.mk (blk_grown HX3.out hG (fun h => HM3.out.ne_cells HX3.out (Option.some.inj h))); have hv0 : w4.cell? ⟨wr.heap.size, 0, none⟩ = some (.string c.f0) := (blk_cell HX4.out 0).trans rfl; have hv2 : w4.cell? ⟨wr.heap.size, 2, none⟩ = some (.int .u64 c.f2) := (blk_cell HX4.out 2).trans rfl; clear hM hG hy0 hy1 hy2) | (at_builtin; refine Kd.R_append k38 (w0 := w) (W := w4) w.heap.size rfl (.tmp 46) (.tmp 52) 22 38 (.agg #[(.string ⟨#[]⟩), (.int .u64 0)]) 24 rfl Try.underlying22 info38 rfl (by decide) (by omega) (.slice Ao out.length co) out (⟨c.f0, c.f2⟩ : S38) [.string c.f0, .int .u64 c.f2] (fun _ => True) (fun _ => False) rfl rfl ?aP (fun _ hk => hk.elim) ?aF ?aO ?aB ?aS ?aL ?_; (case aP => exact k38_mkM _ _ _ (⟨c.f0, c.f2⟩ : S38)); (case aF => exact fun _ _ => trivial); (case aO => exact HS4.out.row); (case aB => exact HB4.out); (case aS => exact HB4.out.size); (case aL => have h1 := HOL.out; have h2 := HLN.out; omega); intro v5 w5 hr hb hg hat; have HS5 := Aside0.mk (HS4.out.push hr hg); have HB5 := Aside0.mk hb; clear hr hb hg hat))
            go_roundg k1
            case measure => have := HK.out; omega
            case rel => exact ⟨i + 1, c.f0 :: D, out ++ [⟨c.f0, c.f2⟩], HSUM.out, ⟨by have := HK.out; omega⟩, ⟨by omega⟩, ⟨by have := HDL.out; simp; omega⟩, ⟨by have := HOL.out; simp; omega⟩, H', HS5, HB5⟩
        · have hne : (id != c.f1) = true := by simpa using hid
          rw [if_pos hid] at h'
          cases h'
          clear hid
          go_wp2_with (first | (go_at_call 34; refine (object_Find.calls k A0 c0 l0 c.f0 id ok w2 (Kd.C_below HR0.out HB2.out) HC0.out HF.out).mono ?_; rintro e w3 ⟨rfl, hb⟩; have HB3 := Aside0.mk (below_then HB2.out HB2.out.size hb); have HX3 := Aside0.mk ((hb.block _ (blk_lt HX2.out)).trans HX2.out); have HS3 := Aside0.mk (HS2.out.below hb); have HM3 := Aside0.mk HS3.out.map; have hy0 : w3.cell? ⟨wr.heap.size, 0, none⟩ = some (.string c.f0) := (blk_cell HX3.out 0).trans rfl; have hy1 : w3.cell? ⟨wr.heap.size, 1, none⟩ = some (.int .u64 c.f1) := (blk_cell HX3.out 1).trans rfl; have hy2 : w3.cell? ⟨wr.heap.size, 2, none⟩ = some (.int .u64 c.f2) := (blk_cell HX3.out 2).trans rfl; clear hb hx0 hx1 hx2 hz0 hz1 hz2 hw1 hw2) | (at_lookup; refine MapAt.wp_look HM3.out rfl _ _ 80 rfl law9 Try.underlying80 (zero4 _) rfl _ _ rfl (key9 HPC.out) _ HDG.out ?_))
          go_ret2
          exact ⟨_, rfl, Kd.R_nil _ _ _ _ _, HB3.out⟩
    · have hie : i = l1.length := by have := HI.out; omega
      have h' := H.out
      rw [hie, List.drop_length, ap0] at h'
      unfold ap2 at h'
      split at h'
      case isFalse => cases h'
      rename_i hpw
      obtain ⟨O, hO⟩ : ∃ O, ap1 D l0 out = O := ⟨_, rfl⟩
      rw [hO] at h' hpw
      obtain ⟨⟨tb, te⟩, ht, h'⟩ := Option.bind_eq_some_iff.mp h'
      have HT := Aside0.mk ht
      have HPW := Aside0.mk hpw
      have HE := Aside0.mk h'
      have HO := Aside0.mk hO
      have HIE := Aside0.mk hie
      clear h' hpw ht hO hie H
      have hi0 : decide ((i : Int) < (l1.length : Int)) = false := by simpa using hi
      go_wp2
      clear hi0 hi
      go_loopg [6, 57] (l0.length + 1) (fun kq v6 v57 wr => ∃ (j : Nat) (out2 : List S38), v57 = .int .i64 (j : Int) ∧ Aside0 (j + kq = l0.length + 1) ∧ Aside0 (j ≤ l0.length) ∧ Aside0 (out2.length ≤ i + j) ∧ Aside0 (ap1 D (l0.drop j) out2 = O) ∧ Aside0 (ApSt w.heap.size w.heap.size D v6 out2 wr) ∧ Aside0 (Below w.heap.size w wr))
      case atStart => exact ⟨0, out, rfl, ⟨by omega⟩, ⟨by omega⟩, ⟨by have := HOL.out; omega⟩, ⟨HO.out⟩, HS, HB⟩
      case round =>
        clear HO HS HB HK HOL
        obtain ⟨j, out2, rfl, HK2, HJ, HOL2, HO2, HS, HB⟩ := hrel
        obtain ⟨Ao2, co2, ev⟩ := Kd.R_slice HS.out.row
        subst ev
        cases gk with
        | zero => exact absurd HK2.out (by have := HJ.out; omega)
        | succ k2 =>
        by_cases hj : j < l0.length
        · have hil : j < l0.length := hj
          obtain ⟨x, hx⟩ : ∃ x, l0[j] = x := ⟨_, rfl⟩
          have hdr : l0.drop j = x :: l0.drop (j + 1) := by rw [List.drop_eq_getElem_cons hil, hx]
          have HPC : Aside0 (x.f0.size ≤ 1000000) := ⟨HP0.out x (hx ▸ List.getElem_mem hil)⟩
          obtain ⟨ad, e1, hcz0, hcz1⟩ := at_T38 HR0.out (j : Int) (by omega) (by omega)
          have erd : rd_T38 l0 (j : Int) = x := by rw [← hx]; simp [rd_T38, List.getD_eq_getElem?_getD, hil]
          rw [erd] at hcz0 hcz1
          rw [Int.toNat_natCast] at hcz0 hcz1
          subst e1
          replace hcz0 := (HB.out.cell (World.block_lt_of_cell? w _ hcz0)).trans hcz0
          replace hcz1 := (HB.out.cell (World.block_lt_of_cell? w _ hcz1)).trans hcz1
          have h' := HO2.out
          rw [hdr, ap1] at h'
          clear hx erd hdr HO2
          obtain ⟨w1, hw1⟩ : ∃ w1, wr.alloc (.cells #[.string ⟨#[]⟩, .int .u64 0] 38) = w1 := ⟨_, rfl⟩
          have hz : w1.heap[wr.heap.size]? = some (.cells #[.string ⟨#[]⟩, .int .u64 0] 38 (0, 0)) := by rw [← hw1]; exact heap_alloc_new wr _
          obtain ⟨w2, hw2⟩ : ∃ w2, (w1.setCell ⟨wr.heap.size, 0, none⟩ (.string x.f0)).setCell ⟨wr.heap.size, 1, none⟩ (.int .u64 x.f1) = w2 := ⟨_, rfl⟩
          have HX2 : Aside0 (w2.heap[wr.heap.size]? = some (.cells #[.string x.f0, .int .u64 x.f1] 38 (0, 0))) := ⟨by rw [← hw2]; exact box2 hz⟩
          have hb12 : Below wr.heap.size wr w2 := by
            rw [← hw2, ← hw1]
            exact ((below_alloc (Below.refl _ _) _).setCell (Nat.le_refl _) _).setCell (Nat.le_refl _) _
          have HB2 : Aside0 (Below w.heap.size w w2) := ⟨below_then HB.out HB.out.size hb12⟩
          have HS2 := Aside0.mk (HS.out.below hb12)
          have HM2 := Aside0.mk HS2.out.map
          have hz0 : w1.cell? ⟨wr.heap.size, 0, none⟩ = some (.string ⟨#[]⟩) := (blk_cell hz 0).trans rfl
          have hz1 : w1.cell? ⟨wr.heap.size, 1, none⟩ = some (.int .u64 0) := (blk_cell hz 1).trans rfl
          have hfz0 : w1.frozen? ⟨wr.heap.size, 0, none⟩ = false := blk_frozen hz 0
          have hfz1 : w1.frozen? ⟨wr.heap.size, 1, none⟩ = false := blk_frozen hz 1
          have hx0 : w2.cell? ⟨wr.heap.size, 0, none⟩ = some (.string x.f0) := (blk_cell HX2.out 0).trans rfl
          have hx1 : w2.cell? ⟨wr.heap.size, 1, none⟩ = some (.int .u64 x.f1) := (blk_cell HX2.out 1).trans rfl
          have hw64 : IntKind.i64.wrap ((j : Int) + 1) = (j : Int) + 1 := by rw [i64_w]; have h2 := HLN.out; unfold wrap64; omega
          have hsum : Value.int .i64 ((j : Int) + 1) = .int .i64 ((j + 1 : Nat) : Int) := by simp
          have HSUM := Aside0.mk hsum
          clear hz hb12 hil hsum
          cases hd : doneB D x.f0 with
          | true =>
            have HDG : Aside0 ((doneF D (.string x.f0.data.toList)).getD (.bool false) = .bool true) := ⟨hd ▸ doneF_get D x.f0⟩
            rw [hd, if_pos rfl] at h'
            have H' := Aside0.mk h'
            clear hd h'
            go_wp2_with (at_lookup; refine MapAt.wp_look HM2.out rfl _ _ 80 rfl law9 Try.underlying80 (zero4 _) rfl _ _ rfl (key9 HPC.out) _ HDG.out ?_)
            go_roundg k2
            case measure => have := HK2.out; omega
            case rel => exact ⟨j + 1, out2, HSUM.out, ⟨by have := HK2.out; omega⟩, ⟨by omega⟩, ⟨by have := HOL2.out; omega⟩, H', HS2, HB2⟩
          | false =>
            have HDG : Aside0 ((doneF D (.string x.f0.data.toList)).getD (.bool false) = .bool false) := ⟨hd ▸ doneF_get D x.f0⟩
            rw [hd, if_neg (by simp)] at h'
            have H' := Aside0.mk h'
            clear hd h'
            go_wp2_with (first | (at_lookup; refine MapAt.wp_look HM2.out rfl _ _ 80 rfl law9 Try.underlying80 (zero4 _) rfl _ _ rfl (key9 HPC.out) _ HDG.out ?_) | (at_builtin; refine Kd.R_append k38 (w0 := w) (W := w2) w.heap.size rfl (.tmp 66) (.tmp 68) 22 38 (.agg #[(.string ⟨#[]⟩), (.int .u64 0)]) 24 rfl Try.underlying22 info38 rfl (by decide) (by omega) (.slice Ao2 out2.length co2) out2 x [.string x.f0, .int .u64 x.f1] (fun _ => True) (fun _ => False) rfl rfl ?aP (fun _ hk => hk.elim) ?aF ?aO ?aB ?aS ?aL ?_; (case aP => exact k38_mkM _ _ _ x); (case aF => exact fun _ _ => trivial); (case aO => exact HS2.out.row); (case aB => exact HB2.out); (case aS => exact HB2.out.size); (case aL => have h1 := HOL2.out; have h3 := HI.out; have h2 := HLN.out; omega); intro v5 w5 hr hb hg hat; have HS5 := Aside0.mk (HS2.out.push hr hg); have HB5 := Aside0.mk hb; clear hr hb hg hat))
            go_roundg k2
            case measure => have := HK2.out; omega
            case rel => exact ⟨j + 1, out2 ++ [x], HSUM.out, ⟨by have := HK2.out; omega⟩, ⟨by omega⟩, ⟨by have := HOL2.out; simp; omega⟩, H', HS5, HB5⟩
        · have hje : j = l0.length := by have := HJ.out; omega
          have hO2 := HO2.out
          rw [hje, List.drop_length, ap1] at hO2
          subst hO2
          clear HO2
          have HJE := Aside0.mk hje
          have HOB : Aside0 (out2.length < 4611686018427387904) := ⟨by have h1 := HOL2.out; have h2 := HLN.out; have h3 := HIE.out; omega⟩
          have hj0 : decide ((j : Int) < (l0.length : Int)) = false := by simpa using hj
          clear hje
          have hsl : (srtE out2).length = out2.length := List.length_mergeSort _
          have HSL := Aside0.mk hsl
          clear hsl
          have htok : True := trivial
          by_cases hte : te = 0
          · have hq : (te != 0) = false := by simpa using hte
            have hr := HE.out
            rw [if_neg (by simpa using hte)] at hr
            cases hr
            clear HE hte
            go_wp2_with (first | (go_at_call 36; refine (sortE_calls (fun _ => True) (.slice Ao2 out2.length co2) out2 w wr HB.out HS.out.row HPW.out HOB.out).mono ?_; rintro e w5 ⟨rfl, hr5, hb5, _⟩; have HR5 := Aside0.mk hr5; have HB5 := Aside0.mk hb5; clear hr5 hb5) | (go_at_call 39; have h39 := object_Tree.calls k Ao2 co2 (srtE out2) tb te w5 (Kd.R_reads' HR5.out).2.2 (by rw [HSL.out]; exact (Kd.R_reads' HS.out.row).2.1) HT.out; rw [HSL.out] at h39; refine h39.mono ?_; clear h39; rintro e w6 ⟨v6, rfl, _, hb6⟩; have HBT := Aside0.mk hb6; have HB6 := Aside0.mk (below_then HB5.out HB5.out.size hb6); clear hb6))
            go_ret2
            exact ⟨_, rfl, Kd.R_below HR5.out HBT.out, HB6.out⟩
          · have hq : (te != 0) = true := by simpa using hte
            have hr := HE.out
            rw [if_pos (by simpa using hte)] at hr
            obtain ⟨rfl, rfl⟩ := Prod.mk.inj (Option.some.inj hr)
            clear HE hte
            go_wp2_with (first | (go_at_call 36; refine (sortE_calls (fun _ => True) (.slice Ao2 out2.length co2) out2 w wr HB.out HS.out.row HPW.out HOB.out).mono ?_; rintro e w5 ⟨rfl, hr5, hb5, _⟩; have HR5 := Aside0.mk hr5; have HB5 := Aside0.mk hb5; clear hr5 hb5) | (go_at_call 39; have h39 := object_Tree.calls k Ao2 co2 (srtE out2) tb te w5 (Kd.R_reads' HR5.out).2.2 (by rw [HSL.out]; exact (Kd.R_reads' HS.out.row).2.1) HT.out; rw [HSL.out] at h39; refine h39.mono ?_; clear h39; rintro e w6 ⟨v6, rfl, _, hb6⟩; have HBT := Aside0.mk hb6; have HB6 := Aside0.mk (below_then HB5.out HB5.out.size hb6); clear hb6))
            go_ret2
            exact ⟨_, rfl, Kd.R_nil _ _ _ _ _, HB6.out⟩

/-! ### slices_Clone_string_string: function 49 -/
def slices_Clone_string_string.f (l0 : List ByteArray) : Option (List ByteArray) := (some (([] : List ByteArray) : List ByteArray)).bind fun y158 => (if y158.length + l0.length < 8796093022208 then (some (y158 ++ l0)) else (none))
set_option maxHeartbeats 8000000 in
set_option maxRecDepth 100000 in
theorem slices_Clone_string_string.calls (A0 : Option Addr) (c0 : Nat) (l0 : List ByteArray) (r : List ByteArray) (w : World) (hr0 : Kd.C Kd.string w A0 l0.length l0) (hc0 : l0.length ≤ c0) (h : slices_Clone_string_string.f l0 = some r) :
    Calls Try.prog 49 #[.slice A0 l0.length c0] w fun e w' => ∃ v0_ : Value, e = .returned (v0_) ∧ Kd.R Kd.string 9 w' w.heap.size (fun _ => True) v0_ r ∧ Below w.heap.size w w' := by
  cases A0 with
  | none =>
    have hl := hr0.2.2
    have hn : l0 = [] := by
      rcases l0 with _ | ⟨x, l0⟩
      · rfl
      · obtain ⟨_, h2, _⟩ := hl (by simp)
        cases h2
    subst hn
    clear hl hr0 hc0
    have hq := fun W => Lib.run_eql_slice_nil (P := Try.prog) W 34 9 none 0 c0 0 0 Try.underlying34
    obtain rfl : [] = r := by simpa [slices_Clone_string_string.f] using h
    clear h
    go_enter Try.func49, Try.ntmps49
    go_wp2
    go_ret
    exact ⟨_, rfl, Kd.R_nil _ _ _ _ _, Below.refl _ _⟩
  | some ad0_ =>
  have hq_ := fun (W : World) (n_ : Nat) => Lib.run_eql_slice_nil (P := Try.prog) W 34 9 (some ad0_) n_ c0 0 0 Try.underlying34
  have HR0 := Aside0.mk hr0
  have HC0 := Aside0.mk hc0
  clear hr0 hc0
  have HB := Aside0.mk (Below.refl w.heap.size w)
  have H : ((some (([] : List ByteArray) : List ByteArray)).bind fun y158 => (if y158.length + l0.length < 8796093022208 then (some (y158 ++ l0)) else (none))) = some r := h
  clear h
  obtain ⟨y158, hy158⟩ : ∃ y_ : List ByteArray, y_ = (([] : List ByteArray)) := ⟨_, rfl⟩
  replace H : (if y158.length + l0.length < 8796093022208 then (some (y158 ++ l0)) else (none)) = some r := by first | (rw [hy158]; with_reducible exact H) | (have H2_ := (Option.bind_some _ _).symm.trans H; rw [hy158]; with_reducible exact H2_) | (have H2_ := (Option.bind_some _ _).symm.trans H; with_reducible exact H2_) | with_reducible exact H | (rw [hy158]; exact H) | exact H
  have Ny158 := Aside0.mk hy158
  clear hy158
  by_cases c2 : y158.length + l0.length < 8796093022208
  · rw [if_pos c2] at H
    have LMc2 := Aside0.mk c2
    clear c2
    obtain ⟨y161, hy161⟩ : ∃ y_ : List ByteArray, y_ = (y158 ++ l0) := ⟨_, rfl⟩
    replace H : (some y161) = some r := by first | (rw [hy161]; with_reducible exact H) | (have H2_ := (Option.bind_some _ _).symm.trans H; rw [hy161]; with_reducible exact H2_) | (have H2_ := (Option.bind_some _ _).symm.trans H; with_reducible exact H2_) | with_reducible exact H | (rw [hy161]; exact H) | exact H
    have Ny161 := Aside0.mk hy161
    clear hy161
    obtain rfl := Option.some.inj H
    go_enter Try.func49, Try.ntmps49
    go_wp2_with (first | ((with_reducible refine gate_dst (N := 5) rfl ?_); refine Kd.R_lit Kd.string _ 9 ?hg (N := 5) ?hd (xs := ([] : List ByteArray)) (inner := []) (ok := fun _ => True) (okp := fun _ => True) ?hr ?hp (fun _ hk => hk) trivial (Below.refl _ _) (Nat.le_refl _) (by simp) ?_; (case hd => rfl); (case hg => rfl); (case hr => first | (go_simp; done) | (go_simp; rfl)); (case hp => exact (Reps.none _ _)); intro v159 w3 ho4 hb hg_ hnew_; clear hg_ hnew_; (first | rw [← Ny158.out] at ho4 | (simp only [Int.reduceToNat] at ho4; rw [← Ny158.out] at ho4)); have n0_ := Aside0.mk (Kd.R_lower ho4 (below_size (by repeat (first | (with_reducible first | exact HB.out | apply below_alloc | apply pw_below_drewN | apply below_drew1) | exact HB.out)))); have n1_ := Aside0.mk (below_step (by repeat (first | (with_reducible first | exact HB.out | apply below_alloc | apply pw_below_drewN | apply below_drew1) | exact HB.out)) hb); clear HB; have HO160 := n0_; have HB := n1_; clear n0_ n1_; clear hb ho4) | ((with_reducible refine gate_builtin (b := .append) (xs := #[.tmp 5, .tmp 6]) rfl ?_); at_builtin; refine Kd.R_append_rows Kd.string (w0 := w) w.heap.size rfl (.tmp 5) (.tmp 6) 34 9 (.string ⟨#[]⟩) 16 rfl Try.underlying34 info9 rfl (by decide) (by omega) v159 y158 l0 _ _ _ (fun _ => True) (fun _ => False) rfl rfl ?aO ?aR (fun _ _ h => h) (fun _ h => h.elim) ?aF ?aB ?aS ?aL ?_; (case aR => repeat (first | exact (Kd.C_below HR0.out HB.out) | (with_reducible refine Kd.C_alloc ?_ _) | (with_reducible refine Kd.C_drewN ?_ _) | (with_reducible refine Kd.C_drew ?_))); (case aB => exact (by repeat (first | (with_reducible first | exact HB.out | apply below_alloc | apply pw_below_drewN | apply below_drew1) | exact HB.out))); (case aF => exact (fun _ _ => trivial)); (case aO => exact (by (with_reducible repeat (first | apply Kd.R_alloc | apply Kd.R_drewN | apply Kd.R_drew)); exact HO160.out)); (case aS => exact (below_size (by repeat (first | (with_reducible first | exact HB.out | apply below_alloc | apply pw_below_drewN | apply below_drew1) | exact HB.out)))); (case aL => have := LMc2.out; omega); intro v162 w5 ho hb hg hat; rw [← Ny161.out] at ho; have n0_ := Aside0.mk (hb); have n1_ := Aside0.mk (ho); clear HB; clear HO160; have HB := n0_; have HO163 := n1_; clear n0_ n1_; clear ho hb hg hat))
    go_ret
    exact ⟨_, by first | rfl | (simp [errW_none, errW_some] <;> rfl) | (simp [*, errW_none, errW_some] <;> rfl), by (with_reducible repeat (first | apply Kd.R_alloc | apply Kd.R_drewN | apply Kd.R_drew)); exact HO163.out, by repeat (first | (with_reducible first | exact HB.out | apply below_alloc | apply pw_below_drewN | apply below_drew1) | exact HB.out)⟩
  · rw [if_neg c2] at H
    exact absurd H (by simp)

/-! ### slices_Sort_string_string: function 59 -/
def slices_Sort_string_string.f (l0 : List ByteArray) : Option (List ByteArray) := if l0.length < 4611686018427387904 then some (sortS l0) else none
theorem slices_Sort_string_string.calls (P0_ : Nat → Prop) (u9000_ : Value) (l0 : List ByteArray) (r : List ByteArray) (w0 w : World) (hB : Below w0.heap.size w0 w) (ho0 : Kd.R Kd.string 9 w w0.heap.size P0_ u9000_ l0) (h : slices_Sort_string_string.f l0 = some r) :
    Calls Try.prog 59 #[u9000_] w fun e w' => e = .returned (.tuple #[]) ∧ Kd.R Kd.string 9 w' w0.heap.size (fun k_ => (P0_ k_ ∨ w.heap.size ≤ k_)) u9000_ r ∧ Below w0.heap.size w0 w' ∧ Kept w w' (fun k_ => P0_ k_) := by
  unfold slices_Sort_string_string.f at h
  split at h
  · rename_i hsz
    obtain rfl := Option.some.inj h
    exact sortS_calls (fun g cap ys w hH hg hs => Go.Proofs.Any.slices_Sort_string Go.Proofs.Ytjnefjggmeieaaa.Shelf.lays190 g 0 cap ys w hH hg hs) (fun p cap w => Go.Proofs.Any.slices_Sort_string_none Go.Proofs.Ytjnefjggmeieaaa.Shelf.lays190 p cap w) P0_ u9000_ l0 w0 w hB ho0 hsz
  · cases h

/-! ### path_Sort: function 43 -/
def path_Sort.f (l0 : List ByteArray) : Option (List ByteArray) := (slices_Clone_string_string.f l0).bind fun a => (slices_Sort_string_string.f a).bind fun b => if b.length ≤ 9223372036854775807 then some (compactS b) else none
theorem path_Sort.calls (A0 : Option Addr) (c0 : Nat) (l0 : List ByteArray) (r : List ByteArray) (w : World) (hr0 : Kd.C Kd.string w A0 l0.length l0) (hc0 : l0.length ≤ c0) (h : path_Sort.f l0 = some r) :
    Calls Try.prog 43 #[.slice A0 l0.length c0] w fun e w' => ∃ v0_ : Value, e = .returned (v0_) ∧ Kd.R Kd.string 9 w' w.heap.size (fun _ => True) v0_ r ∧ Below w.heap.size w w' := by
  obtain ⟨a, ha, h⟩ := Option.bind_eq_some_iff.1 h
  obtain ⟨b, hb, h⟩ := Option.bind_eq_some_iff.1 h
  split at h
  · rename_i hsz
    obtain rfl := Option.some.inj h
    clear h
    have HA := Aside0.mk ha
    have HB := Aside0.mk hb
    have HR := Aside0.mk hr0
    have HC := Aside0.mk hc0
    have HZ := Aside0.mk hsz
    clear ha hb hr0 hc0 hsz
    go_enter Try.func43, Try.ntmps43
    go_wp2_with (go_at_call 49; refine (slices_Clone_string_string.calls A0 c0 l0 a _ HR.out HC.out HA.out).mono ?_; rintro e w1 ⟨v1, rfl, hR1, hB1⟩; have HR1 := Aside0.mk hR1; have HB1 := Aside0.mk hB1; clear hR1 hB1)
    go_wp2_with (go_at_call 59; refine (slices_Sort_string_string.calls (fun _ => True) v1 a b w _ HB1.out HR1.out HB.out).mono ?_; rintro e w2 ⟨rfl, hR2, hB2, _⟩; have HR2 := Aside0.mk (Kd.R_mono hR2 (ok' := fun _ => True) (fun _ _ => trivial)); have HB2 := Aside0.mk hB2; clear hR2 hB2)
    go_wp2_with (go_at_call 60; refine (compact_after (fun g cap ys w hH h1 h2 => Go.Proofs.Any.slices_Compact_string Go.Proofs.Ytjnefjggmeieaaa.Shelf.lays194 g 0 cap ys w hH h1 h2) (fun p cap w => Go.Proofs.Any.slices_Compact_string_empty Go.Proofs.Ytjnefjggmeieaaa.Shelf.lays194 p cap w) (fun ys => Lib.compact_length_le ys) rfl v1 b w _ HB2.out HR2.out HZ.out).mono ?_; rintro e w3 ⟨v3, rfl, hR3, hB3⟩; have HR3 := Aside0.mk hR3; have HB3 := Aside0.mk hB3; clear hR3 hB3)
    go_ret
    exact ⟨_, rfl, HR3.out, HB3.out⟩
  · cases h

/-! ### tree_Touched: function 20 -/
def tree_Touched.l0 : Nat → List ByteArray → List (S51) → Int → Int → Option (List ByteArray)
  | 0, _, _, _, _ => none
  | k + 1, x3, x6, x7, x8 => if x8 < x7 then (if 0 ≤ x8 then (if x8 < (x6.length : Int) then ((path_Parts.f k ((rd_T51 x6 x8).f0)).bind fun t166 => (if x3.length + t166.length < 8796093022208 then (tree_Touched.l0 k (x3 ++ t166) x6 x7 (wrap64 (x8 + 1))) else (none))) else (none)) else (none)) else ((path_Sort.f x3).bind fun t172 => (some t172))
def tree_Touched.f (k : Nat) (l0 : List (S51)) : Option (List ByteArray) := tree_Touched.l0 k ([] : List ByteArray) l0 (l0.length : Int) 0
theorem tree_Touched.mono_l : ∀ k, (∀ y0 y1 y2 y3, LeO (tree_Touched.l0 k y0 y1 y2 y3) (tree_Touched.l0 (k + 1) y0 y1 y2 y3))
  | 0 => fun _ _ _ _ r h => by simp [tree_Touched.l0] at h
  | k + 1 => by
    have ih0 := tree_Touched.mono_l k
    · intro y0 y1 y2 y3
      unfold tree_Touched.l0
      repeat' first
      | (with_reducible exact ih0 _ _ _ _)
      | (with_reducible exact path_Parts.mono _ _)
      | (with_reducible exact LeO.refl _)
      | (with_reducible exact LeO.none _)
      | (with_reducible refine LeO.ite ?_ ?_)
      | (with_reducible refine LeO.bind ?_ (fun _ => ?_))
      | exact ih0 _ _ _ _
      | exact path_Parts.mono _ _
      | exact LeO.none _
      | refine LeO.ite ?_ ?_
      | refine LeO.bind ?_ (fun _ => ?_)
theorem tree_Touched.mono : ∀ a0 k, LeO (tree_Touched.f k a0) (tree_Touched.f (k + 1) a0) := by
  intro a0 k
  have ih0 := tree_Touched.mono_l k
  unfold tree_Touched.f
  repeat' first
      | (with_reducible exact ih0 _ _ _ _)
      | (with_reducible exact path_Parts.mono _ _)
      | (with_reducible exact LeO.refl _)
      | (with_reducible exact LeO.none _)
      | (with_reducible refine LeO.ite ?_ ?_)
      | (with_reducible refine LeO.bind ?_ (fun _ => ?_))
      | exact ih0 _ _ _ _
      | exact path_Parts.mono _ _
      | exact LeO.none _
      | refine LeO.ite ?_ ?_
      | refine LeO.bind ?_ (fun _ => ?_)
set_option maxHeartbeats 8000000 in
set_option maxRecDepth 100000 in
theorem tree_Touched.calls (k : Nat) (A0 : Option Addr) (c0 : Nat) (l0 : List (S51)) (r : List ByteArray) (w : World) (hr0 : Kd.C k51 w A0 l0.length l0) (hc0 : l0.length ≤ c0) (h : tree_Touched.f k l0 = some r) :
    Calls Try.prog 20 #[.slice A0 l0.length c0] w fun e w' => ∃ v0_ : Value, e = .returned (v0_) ∧ Kd.R Kd.string 9 w' w.heap.size (fun _ => True) v0_ r ∧ Below w.heap.size w w' := by
  have hu51 := Try.underlying51
  have HR0 := Aside0.mk hr0
  have HC0 := Aside0.mk hc0
  clear hr0 hc0
  have HB := Aside0.mk (Below.refl w.heap.size w)
  have H : (tree_Touched.l0 k ([] : List ByteArray) l0 (l0.length : Int) 0) = some r := h
  clear h
  have H' := Aside0.mk H
  clear H
  go_enter Try.func20, Try.ntmps20
  go_wp2
  go_loopg [3, 8] k (fun kq v3 v8 w' => ∃ (x3_1 : List ByteArray) (x8_1 : Int), v8 = .int .i64 x8_1 ∧ Aside0 (tree_Touched.l0 kq x3_1 l0 (l0.length : Int) x8_1 = some r) ∧ Aside0 (kq ≤ k) ∧ Aside0 (Kd.R Kd.string 9 w' w.heap.size (fun _ => True) v3 x3_1) ∧ Aside0 (Below w.heap.size w w'))
  case atStart => exact ⟨(([] : List ByteArray)), (0), (by first | rfl | (simp; done) | (simp [*]; done)), H', ⟨Nat.le_refl _⟩, ⟨by first | exact Kd.R_nil _ _ _ _ _ | exact Kd.N_nil _ _ _ _ _ | exact Kd.V_nil _ _ _ _ _ | exact Kd.Q_nil _ _ _ _ _ | exact Kd.S_nil _ _ _ _ _⟩, ⟨by repeat (first | (with_reducible first | exact HB.out | apply below_alloc | apply pw_below_drewN | apply below_drew1) | exact HB.out)⟩⟩
  case round =>
    clear H'
    obtain ⟨x3_1, x8_1, rfl, HA, HK1, HO_3, HB⟩ := hrel
    cases gk with
    | zero => exact absurd HA.out (by simp [tree_Touched.l0])
    | succ k1 =>
      have H := HA.out
      clear HA
      simp only [tree_Touched.l0] at H
      by_cases c2 : x8_1 < (l0.length : Int)
      · rw [if_pos c2] at H
        have c2b0 : decide (x8_1 < (l0.length : Int)) = true := decide_eq_true c2
        clear c2
        by_cases c3 : 0 ≤ x8_1
        · rw [if_pos c3] at H
          have c3b0 : decide (0 ≤ x8_1) = true := decide_eq_true c3
          clear c3
          by_cases c4 : x8_1 < (l0.length : Int)
          · rw [if_pos c4] at H
            have c4b0 : decide (x8_1 < (l0.length : Int)) = true := decide_eq_true c4
            clear c4
            replace H := Option.bind_eq_some_iff.mp H
            obtain ⟨t166, A50, H⟩ := H
            replace H : (if x3_1.length + t166.length < 8796093022208 then (tree_Touched.l0 k1 (x3_1 ++ t166) l0 (l0.length : Int) (wrap64 (x8_1 + 1))) else (none)) = some r := H
            have A5 := Aside0.mk A50
            clear A50
            by_cases c6 : x3_1.length + t166.length < 8796093022208
            · rw [if_pos c6] at H
              have LMc6 := Aside0.mk c6
              clear c6
              obtain ⟨y169, hy169⟩ : ∃ y_ : List ByteArray, y_ = (x3_1 ++ t166) := ⟨_, rfl⟩
              replace H : (tree_Touched.l0 k1 y169 l0 (l0.length : Int) (wrap64 (x8_1 + 1))) = some r := by first | (rw [hy169]; with_reducible exact H) | (have H2_ := (Option.bind_some _ _).symm.trans H; rw [hy169]; with_reducible exact H2_) | (have H2_ := (Option.bind_some _ _).symm.trans H; with_reducible exact H2_) | with_reducible exact H | (rw [hy169]; exact H) | exact H
              have Ny169 := Aside0.mk hy169
              clear hy169
              have H' := Aside0.mk H
              clear H
              have p164 : 0 ≤ (x8_1 : Int) := of_decide_eq_true (by first | (with_reducible assumption) | assumption)
              have q164 : x8_1 < (l0.length : Int) := of_decide_eq_true (by first | (with_reducible assumption) | assumption)
              obtain ⟨ad164, e164, hx164_0, hx164_1, hx164_2⟩ := at_T51 HR0.out x8_1 p164 q164
              cases e164
              try replace hx164_0 := (HB.out.cell (World.block_lt_of_cell? w _ hx164_0)).trans hx164_0
              try replace hx164_1 := (HB.out.cell (World.block_lt_of_cell? w _ hx164_1)).trans hx164_1
              try replace hx164_2 := (HB.out.cell (World.block_lt_of_cell? w _ hx164_2)).trans hx164_2
              replace p164 := eq_true p164
              replace q164 := eq_true q164
              go_wp2_with (first | ((with_reducible refine gate_dst (N := 5) rfl ?_); refine box_event ?hg (N := 5) ?hd (cs := #[.string (⟨#[]⟩ : ByteArray), .int .u64 0, .int .u64 0]) (t := 51) ?hr ?_; (case hd => rfl); (case hg => rfl); (case hr => first | (go_simp; done) | (go_simp; rfl)); intro gb165 hg w7 hbox hb; have n0_ := Aside0.mk (Kd.R_below (by (with_reducible repeat (first | apply Kd.R_alloc | apply Kd.R_drewN | apply Kd.R_drew)); exact HO_3.out) hb); have n1_ := Aside0.mk (below_step (by repeat (first | (with_reducible first | exact HB.out | apply below_alloc | apply pw_below_drewN | apply below_drew1) | exact HB.out)) hb); have n2_ := Aside0.mk (hbox); have n3_ := Aside0.mk ((by rw [hg]; exact (below_size (by repeat (first | (with_reducible first | exact HB.out | apply below_alloc | apply pw_below_drewN | apply below_drew1) | exact HB.out))) : w.heap.size ≤ gb165)); have n4_ := Aside0.mk ((by rw [hg]; exact (below_size (by repeat (first | (with_reducible first | exact HB.out | apply below_alloc | apply pw_below_drewN | apply below_drew1) | exact HB.out))) : w.heap.size ≤ gb165)); clear HO_3; clear HB; have HO_3 := n0_; have HB := n1_; have BK165 := n2_; have GW165 := n3_; have GE165 := n4_; clear n0_ n1_ n2_ n3_ n4_; clear hb hbox hg; have hcz8_0 : w7.cell? ⟨gb165, 0, none⟩ = some (.string (⟨#[]⟩ : ByteArray)) := (blk_cell BK165.out 0).trans rfl; have hcz8_1 : w7.cell? ⟨gb165, 1, none⟩ = some (.int .u64 0) := (blk_cell BK165.out 1).trans rfl; have hcz8_2 : w7.cell? ⟨gb165, 2, none⟩ = some (.int .u64 0) := (blk_cell BK165.out 2).trans rfl; have hfz8_0 := blk_frozen BK165.out 0; have hfz8_1 := blk_frozen BK165.out 1; have hfz8_2 := blk_frozen BK165.out 2) | ((with_reducible refine gate_callee (f := 42) rfl ?_); refine goesL_ (some 15) rfl rfl Try.func42 (by kernel_rfl) rfl #[.string ((rd_T51 l0 x8_1).f0)] rfl (by (try simp only [List.map_toArray, List.map_cons, List.map_nil]); first | done | rfl | (simp only [List.length_drop, List.length_take]; rfl)) ?_; (with_reducible refine (path_Parts.calls k1 ((rd_T51 l0 x8_1).f0) t166 _ A5.out).mono ?_); rintro e w9 ⟨v167, rfl, ho0, hb⟩; refine ⟨_, rfl, ?_⟩; have n0_ := Aside0.mk (Kd.R_elder' (by (with_reducible repeat (first | apply Kd.R_alloc | apply Kd.R_drewN | apply Kd.R_drew)); exact (Kd.R_mono (Kd.R_far (p := ⟨gb165, 2, none⟩) (Kd.R_far (p := ⟨gb165, 1, none⟩) (Kd.R_far (p := ⟨gb165, 0, none⟩) (Kd.R_types HO_3.out BK165.out (by decide)) (fun _ hk => hk.2) (.string ((rd_T51 l0 x8_1).f0))) (fun _ hk => hk.2) (.int .u64 ((rd_T51 l0 x8_1).f1))) (fun _ hk => hk.2) (.int .u64 ((rd_T51 l0 x8_1).f2))) (fun _ h_ => h_.1))) (Kd.R_base ho0) hb); have n1_ := Aside0.mk (Kd.R_lower (Kd.R_new' ho0 (Kd.R_lt (by (with_reducible repeat (first | apply Kd.R_alloc | apply Kd.R_drewN | apply Kd.R_drew)); exact (Kd.R_mono (Kd.R_far (p := ⟨gb165, 2, none⟩) (Kd.R_far (p := ⟨gb165, 1, none⟩) (Kd.R_far (p := ⟨gb165, 0, none⟩) (Kd.R_types HO_3.out BK165.out (by decide)) (fun _ hk => hk.2) (.string ((rd_T51 l0 x8_1).f0))) (fun _ hk => hk.2) (.int .u64 ((rd_T51 l0 x8_1).f1))) (fun _ hk => hk.2) (.int .u64 ((rd_T51 l0 x8_1).f2))) (fun _ h_ => h_.1))))) (below_size (by repeat (first | (with_reducible first | exact HB.out | apply below_alloc | apply pw_below_drewN | apply below_drew1 | refine below_set ?_ GE165.out) | exact HB.out)))); have n2_ := Aside0.mk (blk_below (g := gb165) (o := .cells #[.string ((rd_T51 l0 x8_1).f0), .int .u64 ((rd_T51 l0 x8_1).f1), .int .u64 ((rd_T51 l0 x8_1).f2)] 51 (0, 0)) (by (with_reducible repeat (first | refine blk_drewN ?_ _ | refine blk_drew ?_ | refine blk_alloc ?_ _)); refine blk_put (cs := #[.string ((rd_T51 l0 x8_1).f0), .int .u64 ((rd_T51 l0 x8_1).f1), .int .u64 0]) ?_ 2 _ rfl; (with_reducible repeat (first | refine blk_drewN ?_ _ | refine blk_drew ?_ | refine blk_alloc ?_ _)); refine blk_put (cs := #[.string ((rd_T51 l0 x8_1).f0), .int .u64 0, .int .u64 0]) ?_ 1 _ rfl; (with_reducible repeat (first | refine blk_drewN ?_ _ | refine blk_drew ?_ | refine blk_alloc ?_ _)); refine blk_put (cs := #[.string (⟨#[]⟩ : ByteArray), .int .u64 0, .int .u64 0]) ?_ 0 _ rfl; (with_reducible repeat (first | refine blk_drewN ?_ _ | refine blk_drew ?_ | refine blk_alloc ?_ _)); exact BK165.out) hb); have n3_ := Aside0.mk (below_step (by repeat (first | (with_reducible first | exact HB.out | apply below_alloc | apply pw_below_drewN | apply below_drew1 | refine below_set ?_ GE165.out) | exact HB.out)) hb); clear HO_3; clear BK165; clear HB; have HO_3 := n0_; have HO168 := n1_; have BK165 := n2_; have HB := n3_; clear n0_ n1_ n2_ n3_; (try clear hb); (try clear hb2); (try clear hk); (try clear hi); (try clear ho0); obtain ⟨Ao11, co11, eo11⟩ := Kd.R_slice HO168.out; subst eo11) | ((with_reducible refine gate_builtin (b := .append) (xs := #[.tmp 12, .tmp 15]) rfl ?_); at_builtin; refine Kd.R_append_rows Kd.string (w0 := w) w.heap.size rfl (.tmp 12) (.tmp 15) 34 9 (.string ⟨#[]⟩) 16 rfl Try.underlying34 info9 rfl (by decide) (by omega) u3 x3_1 t166 _ _ _ (fun k_ => some k_ ≠ (.slice Ao11 t166.length co11 : Value).ownBlock) (fun _ => False) rfl rfl ?aO ?aR (fun _ _ h => h) (fun _ h => h.elim) ?aF ?aB ?aS ?aL ?_; (case aR => repeat (first | exact (Kd.R_reads' HO168.out).2.2 | (with_reducible refine Kd.C_alloc ?_ _) | (with_reducible refine Kd.C_drewN ?_ _) | (with_reducible refine Kd.C_drew ?_))); (case aB => exact (by repeat (first | (with_reducible first | exact HB.out | apply below_alloc | apply pw_below_drewN | apply below_drew1 | refine below_set ?_ GE165.out) | exact HB.out))); (case aF => exact (fun k_ hk => Kd.fresh' (Kd.R_lt (by (with_reducible repeat (first | apply Kd.R_alloc | apply Kd.R_drewN | apply Kd.R_drew)); exact HO168.out)) k_ hk)); (case aO => exact (by (with_reducible repeat (first | apply Kd.R_alloc | apply Kd.R_drewN | apply Kd.R_drew)); exact Kd.R_mono HO_3.out (fun _ hk => hk.2))); (case aS => exact (below_size (by repeat (first | (with_reducible first | exact HB.out | apply below_alloc | apply pw_below_drewN | apply below_drew1 | refine below_set ?_ GE165.out) | exact HB.out)))); (case aL => have := LMc6.out; omega); intro v170 w10 ho hb hg hat; rw [← Ny169.out] at ho; have n0_ := Aside0.mk (blk_grown (g := gb165) (o := .cells #[.string ((rd_T51 l0 x8_1).f0), .int .u64 ((rd_T51 l0 x8_1).f1), .int .u64 ((rd_T51 l0 x8_1).f2)] 51 (0, 0)) (by (with_reducible repeat (first | refine blk_drewN ?_ _ | refine blk_drew ?_ | refine blk_alloc ?_ _)); exact BK165.out) hg (Kd.R_ne HO_3.out BK165.out (by decide))); have n1_ := Aside0.mk (Kd.R_after (ok := (fun _ => True)) (by (with_reducible repeat (first | apply Kd.R_alloc | apply Kd.R_drewN | apply Kd.R_drew)); exact HO168.out) hg hat); have n2_ := Aside0.mk (hb); have n3_ := Aside0.mk (ho); clear BK165; clear HO168; clear HB; clear HO_3; have BK165 := n0_; have HO168 := n1_; have HB := n2_; have HO171 := n3_; clear n0_ n1_ n2_ n3_; clear ho hb hg hat))
              go_roundg k1
              case measure => have := HK1.out; omega
              case rel => exact ⟨(y169), (wrap64 (x8_1 + 1)), (by first | rfl | (simp; done) | (simp [*]; done)), H', ⟨by have := HK1.out; omega⟩, ⟨by (with_reducible repeat (first | apply Kd.R_alloc | apply Kd.R_drewN | apply Kd.R_drew)); exact Kd.R_mono HO171.out (fun _ hk => trivial)⟩, ⟨by repeat (first | (with_reducible first | exact HB.out | apply below_alloc | apply pw_below_drewN | apply below_drew1 | refine below_set ?_ GE165.out) | exact HB.out)⟩⟩
            · rw [if_neg c6] at H
              exact absurd H (by simp)
          · rw [if_neg c4] at H
            exact absurd H (by simp)
        · rw [if_neg c3] at H
          exact absurd H (by simp)
      · rw [if_neg c2] at H
        have c2b0 : decide (x8_1 < (l0.length : Int)) = false := decide_eq_false c2
        clear c2
        replace H := Option.bind_eq_some_iff.mp H
        obtain ⟨t172, A120, H⟩ := H
        replace H : (some t172) = some r := H
        have A12 := Aside0.mk A120
        clear A120
        obtain rfl := Option.some.inj H
        obtain ⟨Ao13, co13, eo13⟩ := Kd.R_slice HO_3.out
        subst eo13
        go_wp2_with (first | ((with_reducible refine gate_callee (f := 43) rfl ?_); refine goesL_ (some 19) rfl rfl Try.func43 (by kernel_rfl) rfl #[.slice Ao13 x3_1.length co13] rfl (by (try simp only [List.map_toArray, List.map_cons, List.map_nil]); first | done | rfl | (simp only [List.length_drop, List.length_take]; rfl)) ?_; (with_reducible refine (path_Sort.calls _ _ x3_1 t172 _ ?side1 ?side2 A12.out).mono ?_); (case side1 => repeat (first | exact (Kd.R_reads' HO_3.out).2.2 | (with_reducible refine Kd.C_alloc ?_ _) | (with_reducible refine Kd.C_drewN ?_ _) | (with_reducible refine Kd.C_drew ?_))); (case side2 => exact (Kd.R_reads' HO_3.out).2.1); rintro e w14 ⟨v173, rfl, ho0, hb⟩; refine ⟨_, rfl, ?_⟩; have n0_ := Aside0.mk (Kd.R_elder' (by (with_reducible repeat (first | apply Kd.R_alloc | apply Kd.R_drewN | apply Kd.R_drew)); exact HO_3.out) (Kd.R_base ho0) hb); have n1_ := Aside0.mk (Kd.R_lower (Kd.R_new' ho0 (Kd.R_lt (by (with_reducible repeat (first | apply Kd.R_alloc | apply Kd.R_drewN | apply Kd.R_drew)); exact HO_3.out))) (below_size (by repeat (first | (with_reducible first | exact HB.out | apply below_alloc | apply pw_below_drewN | apply below_drew1) | exact HB.out)))); have n2_ := Aside0.mk (below_step (by repeat (first | (with_reducible first | exact HB.out | apply below_alloc | apply pw_below_drewN | apply below_drew1) | exact HB.out)) hb); clear HO_3; clear HB; have HO_3 := n0_; have HO174 := n1_; have HB := n2_; clear n0_ n1_ n2_; (try clear hb); (try clear hb2); (try clear hk); (try clear hi); (try clear ho0)))
        go_ret
        exact ⟨_, by first | rfl | (simp [errW_none, errW_some] <;> rfl) | (simp [*, errW_none, errW_some] <;> rfl), by (with_reducible repeat (first | apply Kd.R_alloc | apply Kd.R_drewN | apply Kd.R_drew)); exact Kd.R_mono HO174.out (fun _ hk => trivial), by repeat (first | (with_reducible first | exact HB.out | apply below_alloc | apply pw_below_drewN | apply below_drew1) | exact HB.out)⟩

/-! ### tree_Same: function 26 -/
def tree_Same.f (k : Nat) (l0 : List (S38)) (l1 : List (S38)) (l2_0 : List ByteArray) : Option (Bool) := (tree_Diff.f k l0 l1 l2_0).bind fun t176 => (some ((t176.length : Int) == 0))
theorem tree_Same.mono : ∀ a0 a1 a2 k, LeO (tree_Same.f k a0 a1 a2) (tree_Same.f (k + 1) a0 a1 a2) := by
  intro a0 a1 a2 k
  unfold tree_Same.f
  repeat' first
      | (with_reducible exact tree_Diff.mono _ _ _ _)
      | (with_reducible exact LeO.refl _)
      | (with_reducible exact LeO.none _)
      | (with_reducible refine LeO.ite ?_ ?_)
      | (with_reducible refine LeO.bind ?_ (fun _ => ?_))
      | exact tree_Diff.mono _ _ _ _
      | exact LeO.none _
      | refine LeO.ite ?_ ?_
      | refine LeO.bind ?_ (fun _ => ?_)
set_option maxHeartbeats 8000000 in
set_option maxRecDepth 100000 in
theorem tree_Same.calls (k : Nat) (A0 : Option Addr) (c0 : Nat) (l0 : List (S38)) (A1 : Option Addr) (c1 : Nat) (l1 : List (S38)) (A2_0 : Option Addr) (c2_0 : Nat) (l2_0 : List ByteArray) (r : Bool) (w : World) (hr0 : Kd.C k38 w A0 l0.length l0) (hc0 : l0.length ≤ c0) (hr1 : Kd.C k38 w A1 l1.length l1) (hc1 : l1.length ≤ c1) (hr2_0 : Kd.C Kd.string w A2_0 l2_0.length l2_0) (hc2_0 : l2_0.length ≤ c2_0) (h : tree_Same.f k l0 l1 l2_0 = some r) :
    Calls Try.prog 26 #[.slice A0 l0.length c0, .slice A1 l1.length c1, .agg #[.slice A2_0 l2_0.length c2_0]] w fun e w' => e = .returned (.bool r) ∧ Below w.heap.size w w' := by
  have hu46 := Try.underlying46
  have HR0 := Aside0.mk hr0
  have HC0 := Aside0.mk hc0
  clear hr0 hc0
  have HR1 := Aside0.mk hr1
  have HC1 := Aside0.mk hc1
  clear hr1 hc1
  have HR2_0 := Aside0.mk hr2_0
  have HC2_0 := Aside0.mk hc2_0
  clear hr2_0 hc2_0
  have HB := Aside0.mk (Below.refl w.heap.size w)
  have H : ((tree_Diff.f k l0 l1 l2_0).bind fun t176 => (some ((t176.length : Int) == 0))) = some r := h
  clear h
  replace H := Option.bind_eq_some_iff.mp H
  obtain ⟨t176, A40, H⟩ := H
  replace H : (some ((t176.length : Int) == 0)) = some r := H
  have A4 := Aside0.mk A40
  clear A40
  obtain rfl := Option.some.inj H
  go_enter Try.func26, Try.ntmps26
  go_wp2_with (first | ((with_reducible refine gate_dst (N := 5) rfl ?_); refine box_event ?hg (N := 5) ?hd (cs := #[.slice A2_0 l2_0.length c2_0]) (t := 46) ?hr ?_; (case hd => rfl); (case hg => rfl); (case hr => first | (go_simp; done) | (go_simp; rfl)); intro gb175 hg w5 hbox hb; have n0_ := Aside0.mk (below_step (by repeat (first | (with_reducible first | exact HB.out | apply below_alloc | apply pw_below_drewN | apply below_drew1) | exact HB.out)) hb); have n1_ := Aside0.mk (hbox); have n2_ := Aside0.mk ((by rw [hg]; exact (below_size (by repeat (first | (with_reducible first | exact HB.out | apply below_alloc | apply pw_below_drewN | apply below_drew1) | exact HB.out))) : w.heap.size ≤ gb175)); have n3_ := Aside0.mk ((by rw [hg]; exact (below_size (by repeat (first | (with_reducible first | exact HB.out | apply below_alloc | apply pw_below_drewN | apply below_drew1) | exact HB.out))) : w.heap.size ≤ gb175)); clear HB; have HB := n0_; have BK175 := n1_; have GW175 := n2_; have GE175 := n3_; clear n0_ n1_ n2_ n3_; clear hb hbox hg; have hcz6_0 : w5.cell? ⟨gb175, 0, none⟩ = some (.slice A2_0 l2_0.length c2_0) := (blk_cell BK175.out 0).trans rfl; have hfz6_0 := blk_frozen BK175.out 0) | ((with_reducible refine gate_callee (f := 15) rfl ?_); refine goesL_ (some 10) rfl rfl Try.func15 (by kernel_rfl) rfl #[.slice A0 l0.length c0, .slice A1 l1.length c1, .agg #[.slice A2_0 l2_0.length c2_0]] rfl (by (try simp only [List.map_toArray, List.map_cons, List.map_nil]); first | done | rfl | (simp only [List.length_drop, List.length_take]; rfl)) ?_; (with_reducible refine (tree_Diff.calls k _ _ l0 _ _ l1 _ _ l2_0 t176 _ ?side1 ?side2 ?side3 ?side4 ?side5 ?side6 A4.out).mono ?_); (case side1 => repeat (first | exact (Kd.C_below HR0.out HB.out) | (with_reducible refine Kd.C_alloc ?_ _) | (with_reducible refine Kd.C_drewN ?_ _) | (with_reducible refine Kd.C_drew ?_))); (case side2 => exact HC0.out); (case side3 => repeat (first | exact (Kd.C_below HR1.out HB.out) | (with_reducible refine Kd.C_alloc ?_ _) | (with_reducible refine Kd.C_drewN ?_ _) | (with_reducible refine Kd.C_drew ?_))); (case side4 => exact HC1.out); (case side5 => repeat (first | exact (Kd.C_below HR2_0.out HB.out) | (with_reducible refine Kd.C_alloc ?_ _) | (with_reducible refine Kd.C_drewN ?_ _) | (with_reducible refine Kd.C_drew ?_))); (case side6 => exact HC2_0.out); rintro e w7 ⟨v177, rfl, ho0, hb⟩; refine ⟨_, rfl, ?_⟩; have n0_ := Aside0.mk (Kd.R_lower ho0 (below_size (by repeat (first | (with_reducible first | exact HB.out | apply below_alloc | apply pw_below_drewN | apply below_drew1 | refine below_set ?_ GE175.out) | exact HB.out)))); have n1_ := Aside0.mk (blk_below (g := gb175) (o := .cells #[.slice A2_0 l2_0.length c2_0] 46 (0, 0)) (by (with_reducible repeat (first | refine blk_drewN ?_ _ | refine blk_drew ?_ | refine blk_alloc ?_ _)); exact BK175.out) hb); have n2_ := Aside0.mk (below_step (by repeat (first | (with_reducible first | exact HB.out | apply below_alloc | apply pw_below_drewN | apply below_drew1 | refine below_set ?_ GE175.out) | exact HB.out)) hb); clear BK175; clear HB; have HO178 := n0_; have BK175 := n1_; have HB := n2_; clear n0_ n1_ n2_; (try clear hb); (try clear hb2); (try clear hk); (try clear hi); (try clear ho0); obtain ⟨Ao8, co8, eo8⟩ := Kd.R_slice HO178.out; subst eo8))
  go_ret
  exact ⟨by first | rfl | (simp [errW_none, errW_some] <;> rfl) | (simp [*, errW_none, errW_some] <;> rfl), by repeat (first | (with_reducible first | exact HB.out | apply below_alloc | apply pw_below_drewN | apply below_drew1 | refine below_set ?_ GE175.out) | exact HB.out)⟩

end Go.Proofs.Ytjnefjggmeieaaa.MT
