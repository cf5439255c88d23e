/- The queue's calls, walked by hand. No condition. -/
import Derived.Test.YtpobioiagafpgaaPQueuePlaysx
import Derived.Test.YtpobioiagafpgaaPlainHeap
import Derived.BigRegion
import Derived.RegionTactic
import Derived.StillTailTactics
import Derived.Deep.RegionLaw
set_option linter.unusedVariables false
set_option linter.unusedSimpArgs false
namespace Go.Proofs.Ytpobioiagafpgaa.PQueuePlays
open Go.RowKit Go.Proofs.YtpobioiagafpgaaW.PrintWords Go.Proofs.YtpobioiagafpgaaW.PrintLast Go.Proofs.YtpobioiagafpgaaW.PrintMore
open Go.Proofs.Ytpobioiagafpgaa.Pure
def lt31 (x y : S31) : Bool := decide (x.f0 > y.f0) || (decide (x.f0 = y.f0) && decide (x.f1 < y.f1))
/-- The queue in block b: its row is v, its items are l. -/
structure IsQ (w : World) (B b : Nat) (v : Value) (l : List S31) : Prop where
  blk : w.heap[b]? = some (.cells #[v] 46 (0, 0))
  base : B ≤ b
  row : Kd.R k31 31 w B (fun _ => True) v l
  len : l.length ≤ 1000000
/-- The blocks of a queue. -/
def QS (b : Nat) (v : Value) (k : Nat) : Prop := k = b ∨ some k = v.ownBlock
theorem info31 : (Try.prog.info? 31).map (fun i => (i.zero, i.size, i.bytes)) = some (some (.agg #[(.int .i64 0), (.int .u64 0)]), 2, 16) := by kernel_rfl
theorem IsQ.below {w w1 : World} {B b : Nat} {v : Value} {l : List S31} (h : IsQ w B b v l) (hb : Below w.heap.size w w1) : IsQ w1 B b v l :=
  ⟨(hb.block b (blk_lt h.blk)).trans h.blk, h.base, Kd.R_below h.row hb, h.len⟩
theorem IsQ.alloc {w : World} {B b : Nat} {v : Value} {l : List S31} (h : IsQ w B b v l) (o : Obj) : IsQ (w.alloc o) B b v l := h.below (below_alloc (Below.refl _ _) o)
theorem IsQ.drew {w : World} {B b : Nat} {v : Value} {l : List S31} (h : IsQ w B b v l) : IsQ w.drew B b v l := h.below (below_drew (Below.refl _ _))
theorem IsQ.ne {w : World} {B b : Nat} {v : Value} {l : List S31} (h : IsQ w B b v l) : some b ≠ v.ownBlock := Kd.R_ne h.row h.blk (by decide)
/-- Item i of a queue's row: its cells. -/
theorem q_at {W : World} {B g n cap : Nat} {ok : Nat → Prop} {xs : List S31} (h : Kd.R k31 31 W B ok (.slice (some ⟨g, 0, none⟩) n cap) xs) (i : Nat) (hi : i < n) :
    W.cell? ⟨g, i * 2, none⟩ = some (.int .i64 (xs.getD i z31).f0) ∧ W.cell? ⟨g, i * 2 + 1, none⟩ = some (.int .u64 (xs.getD i z31).f1) ∧ W.frozen? ⟨g, i * 2, none⟩ = false ∧ W.frozen? ⟨g, i * 2 + 1, none⟩ = false := by
  obtain ⟨c, hl, hM, hc, hf⟩ := Kd.R_elem h z31 (i : Int) (by omega) (by omega)
  obtain rfl := k31_openM hM
  exact ⟨hc 0 _ rfl, hc 1 _ rfl, hf 0, hf 1⟩
/-- An item is put into a queue's row. -/
theorem q_put {W : World} {B g n cap : Nat} {ok : Nat → Prop} {xs : List S31} (h : Kd.R k31 31 W B ok (.slice (some ⟨g, 0, none⟩) n cap) xs) (i : Nat) (hi : i < n) (x : S31) :
    Kd.R k31 31 ((W.setCell ⟨g, i * 2, none⟩ (.int .i64 x.f0)).setCell ⟨g, i * 2 + 1, none⟩ (.int .u64 x.f1)) B ok (.slice (some ⟨g, 0, none⟩) n cap) (xs.set i x) ∧
      W.grownBy ((W.setCell ⟨g, i * 2, none⟩ (.int .i64 x.f0)).setCell ⟨g, i * 2 + 1, none⟩ (.int .u64 x.f1)) (some g) := by
  obtain ⟨c, hl, hM, hc, hf⟩ := Kd.R_elem h z31 (i : Int) (by omega) (by omega)
  have hl2 : c.length = 2 := hl
  have := Kd.R_seg h (i : Int) (by omega) (by omega) (c := c) (seg := [.int .i64 x.f0, .int .u64 x.f1]) (j := 0) (x' := x) (okp := fun _ => False) hl hc (Nat.le_refl 2) (by
    show k31.M W B _ x (c.take 0 ++ [.int .i64 x.f0, .int .u64 x.f1] ++ c.drop 2)
    rw [List.drop_eq_nil_of_le (by omega)]
    exact k31_mkM _ _ _ x) (fun _ hk => hk.elim)
  exact this
theorem IsQ.put {W : World} {B b g n cap : Nat} {l : List S31} (h : IsQ W B b (.slice (some ⟨g, 0, none⟩) n cap) l) (i : Nat) (hi : i < n) (x : S31) :
    IsQ ((W.setCell ⟨g, i * 2, none⟩ (.int .i64 x.f0)).setCell ⟨g, i * 2 + 1, none⟩ (.int .u64 x.f1)) B b (.slice (some ⟨g, 0, none⟩) n cap) (l.set i x) ∧
      W.grownBy ((W.setCell ⟨g, i * 2, none⟩ (.int .i64 x.f0)).setCell ⟨g, i * 2 + 1, none⟩ (.int .u64 x.f1)) (some g) := by
  obtain ⟨h1, h2⟩ := q_put h.row i hi x
  exact ⟨⟨blk_grown h.blk h2 h.ne, h.base, h1, by rw [List.length_set]; exact h.len⟩, h2⟩
/-- Two items of a queue's row change places. -/
theorem IsQ.swap {w W : World} {B b g n cap : Nat} {v : Value} {l : List S31} (h : IsQ W B b (.slice (some ⟨g, 0, none⟩) n cap) l) (hB : Below B w W) (hK : Kept w W (QS b v)) (hg : B ≤ g) (hv : QS b v g ∨ w.heap.size ≤ g) (i q : Nat) (hi : i < n) (hq : q < n) {y u : S31} (hy : l.getD i z31 = y) (hu : l.getD q z31 = u) :
    let W' := ((((W.setCell ⟨g, i * 2, none⟩ (.int .i64 u.f0)).setCell ⟨g, i * 2 + 1, none⟩ (.int .u64 u.f1)).setCell ⟨g, q * 2, none⟩ (.int .i64 y.f0)).setCell ⟨g, q * 2 + 1, none⟩ (.int .u64 y.f1))
    IsQ W' B b (.slice (some ⟨g, 0, none⟩) n cap) (sw z31 l i q) ∧ Kept w W' (QS b v) ∧ Below B w W' := by
  intro W'
  obtain ⟨h1, g1⟩ := h.put i hi u
  obtain ⟨h2, g2⟩ := h1.put q hq y
  have hr : ∀ k, some g = some k → QS b v k ∨ w.heap.size ≤ k := fun k hk => by injection hk with hk; rw [← hk]; exact hv
  have hr2 : ∀ k, some g = some k → B ≤ k := fun k hk => by injection hk with hk; omega
  refine ⟨?_, Kept.of_grown g2 (Kept.of_grown g1 hK hr) hr, ?_⟩
  · subst hy; subst hu; exact h2
  · exact ⟨hB.os, hB.tape, hB.output, Nat.le_trans hB.size (Nat.le_trans g1.size g2.size), fun k hk => ((Below.heap_setCell _ _ _ _ (by show k ≠ g; omega)).trans ((Below.heap_setCell _ _ _ _ (by show k ≠ g; omega)).trans ((Below.heap_setCell _ _ _ _ (by show k ≠ g; omega)).trans (Below.heap_setCell _ _ _ _ (by show k ≠ g; omega))))).trans (hB.block k hk)⟩
theorem ahead_f (x y : S31) : queue_Item_ahead.f x.f0 x.f1 y.f0 y.f1 = some (lt31 x y) := by
  unfold queue_Item_ahead.f lt31
  by_cases c1 : x.f0 > y.f0
  · rw [if_pos c1]; simp [c1]
  · rw [if_neg c1]
    by_cases c2 : x.f0 = y.f0
    · rw [if_pos c2]; simp [c1, c2]
    · rw [if_neg c2]; simp [c1, c2]
/-- A queue stays where its blocks stay. -/
theorem IsQ.kept {w w1 : World} {B b : Nat} {v : Value} {l : List S31} {S : Nat → Prop} (h : IsQ w B b v l) (hk : Kept w w1 S) (hS : ∀ k, QS b v k → ¬ S k) : IsQ w1 B b v l :=
  ⟨blk_kept h.blk hk (hS b (.inl rfl)), h.base, Kd.R_mono (Kd.R_kept (Kd.R_tight rfl h.row) hk (fun k e => hS k (.inr e))) (fun _ _ => trivial), h.len⟩
/-- The queue's row gets shorter. -/
theorem IsQ.cut {W : World} {B b g m c : Nat} {l : List S31} {n : Nat} (h : IsQ W B b (.slice (some ⟨g, 0, none⟩) n c) l) (hm : m ≤ l.length) : IsQ (W.setCell ⟨b, 0, none⟩ (.slice (some ⟨g, 0, none⟩) m c)) B b (.slice (some ⟨g, 0, none⟩) m c) (l.take m) := by
  have h1 := Kd.R_take h.row hm
  refine ⟨?_, h.base, Kd.R_set h1 h.blk (by decide) 0 _, by rw [List.length_take]; have := h.len; omega⟩
  have := blk_set h.blk 0 (.slice (some ⟨g, 0, none⟩) m c)
  simpa using this
theorem grown_drew {W W2 : World} {r : Option Nat} (h : W.grownBy W2 r) : W.grownBy W2.drew r := ⟨h.os, h.tape, h.output, h.size, h.block⟩
def bestN (M : List S31) (i : Nat) : Nat → Nat
  | 0 => i
  | 1 => best1 z31 lt31 M i
  | _ => best z31 lt31 M i
theorem best_far {M : List S31} {i m p : Nat} (hm : M.length = m) (hp : bestN M i 2 = p) (hne : p ≠ i) : i < p ∧ p < m ∧ best z31 lt31 M i = p := by
  have h : best z31 lt31 M i = p := hp
  have := best_range (lt := lt31) z31 M i
  rw [h, hm] at this
  omega
theorem down_stop {M : List S31} {i d p : Nat} (hp : bestN M i 2 = p) (h : p = i) : downGo z31 lt31 d M i = M := by
  have h2 : best z31 lt31 M i = i := by rw [← h]; rw [h] at hp ⊢; exact hp
  cases d with
  | zero => rfl
  | succ d => simp only [downGo]; rw [if_pos h2]
theorem down_go {M : List S31} {i d p : Nat} (hb : best z31 lt31 M i = p) (hne : p ≠ i) (hd : 0 < d) : downGo z31 lt31 d M i = downGo z31 lt31 (d - 1) (sw z31 M i p) p := by
  obtain ⟨e, rfl⟩ : ∃ e, d = e + 1 := ⟨d - 1, by omega⟩
  simp only [downGo]
  rw [if_neg (by rw [hb]; exact hne), hb]; rfl
theorem pop_fin {w wr : World} {B b g m c1 h2 : Nat} {M : List S31} {S : Nat → Prop} {cs : Array Value} {u1 u2 : Value} (HQ : IsQ wr B b (.slice (some ⟨g, 0, none⟩) m c1) M) (hh2 : wr.heap[h2]? = some (.cells cs 31 (0, 0))) (hg : g ≠ h2) (hK : Kept w wr S) (hB : Below B w wr) (hBh : B ≤ h2) (hwh : w.heap.size ≤ h2) :
    IsQ ((wr.setCell ⟨h2, 0, none⟩ u1).setCell ⟨h2, 1, none⟩ u2) B b (.slice (some ⟨g, 0, none⟩) m c1) M ∧ Kept w ((wr.setCell ⟨h2, 0, none⟩ u1).setCell ⟨h2, 1, none⟩ u2) S ∧ Below B w ((wr.setCell ⟨h2, 0, none⟩ u1).setCell ⟨h2, 1, none⟩ u2) := by
  have hk2 : Kept wr ((wr.setCell ⟨h2, 0, none⟩ u1).setCell ⟨h2, 1, none⟩ u2) (fun k => k = h2) := ((Kept.refl wr (fun k => k = h2)).setCell (p := ⟨h2, 0, none⟩) (.inl rfl) u1).setCell (p := ⟨h2, 1, none⟩) (.inl rfl) u2
  refine ⟨HQ.kept hk2 ?_, (hK.setCell (.inr hwh) _).setCell (.inr hwh) _, (hB.setCell hBh _).setCell hBh _⟩
  have hne : b ≠ h2 := blk_ne HQ.blk hh2 (by decide)
  intro k hk e
  have e' : k = h2 := e
  rcases hk with hk | hk
  · exact hne (by rw [← hk]; exact e')
  · have hkg : k = g := Option.some.inj hk
    exact hg (by rw [← hkg]; exact e')
theorem foldl_len (l : List S31) : ∀ xs : List S31, (xs.foldl (push z31 lt31) l).length = l.length + xs.length := by
  intro xs
  induction xs generalizing l with
  | nil => rfl
  | cons x xs ih => rw [List.foldl_cons, ih, push_len]; simp; omega
theorem push_take {l : List S31} {xs : List S31} {k : Nat} {x : S31} {L : List S31} (hx : rd_T31 xs (k : Int) = x) (hk : k < xs.length) (hL : (xs.take k).foldl (push z31 lt31) l = L) : (xs.take (k + 1)).foldl (push z31 lt31) l = push z31 lt31 L x := by
  rw [List.take_succ_eq_append_getElem hk, List.foldl_append, hL]
  have : xs[k] = x := by rw [← hx]; simp [rd_T31, hk]
  rw [this]; rfl
theorem upGo_zero (d : Nat) (M : List S31) : upGo z31 lt31 d M 0 = M := by cases d <;> simp [upGo]
theorem upGo_stop {d i : Nat} {M : List S31} {y u : S31} (hy : M.getD i z31 = y) (hu : M.getD (par i) z31 = u) (h : lt31 y u = false) : upGo z31 lt31 d M i = M := by
  cases d with
  | zero => rfl
  | succ d => simp only [upGo, hy, hu, h]; simp
theorem upGo_go {d i q : Nat} {M : List S31} {y u : S31} (hd : i < d) (h0 : 0 < i) (hy : M.getD i z31 = y) (hu : M.getD q z31 = u) (hq : (i - 1) / 2 = q) (h : lt31 y u = true) : upGo z31 lt31 d M i = upGo z31 lt31 (d - 1) (sw z31 M i q) q := by
  obtain ⟨e, rfl⟩ : ∃ e, d = e + 1 := ⟨d - 1, by omega⟩
  subst hq
  simp only [upGo]
  rw [if_pos h0, hy, show par i = (i - 1) / 2 from rfl, hu, if_pos h]; rfl
theorem push_fin {w wa w1 : World} {B b : Nat} {v v' : Value} {L : List S31} {x : S31} {A1 : Option Addr} {c1 : Nat} (HQ : IsQ wa B b v' L) (hB : Below B w wa) (hK : Kept w wa (QS b v)) (hV : v'.ownBlock = v.ownBlock ∨ ∃ k, v'.ownBlock = some k ∧ w.heap.size ≤ k)
    (ho : Kd.R k31 31 w1 B (fun _ => True) (.slice A1 (L ++ [x]).length c1) (L ++ [x])) (hb : Below B w w1) (hg : wa.drew.grownBy w1 v'.ownBlock) (hat : (Value.slice A1 (L ++ [x]).length c1).ownBlock = v'.ownBlock ∨ ∃ b, (Value.slice A1 (L ++ [x]).length c1).ownBlock = some b ∧ wa.drew.heap.size ≤ b) (hl : L.length < 1000000) :
    Aside0 (IsQ (w1.setCell ⟨b, 0, none⟩ (.slice A1 (L.length + 1) c1)) B b (.slice A1 (L.length + 1) c1) (L ++ [x])) ∧ Aside0 (Kept w (w1.setCell ⟨b, 0, none⟩ (.slice A1 (L.length + 1) c1)) (QS b v)) ∧ Aside0 (Below B w (w1.setCell ⟨b, 0, none⟩ (.slice A1 (L.length + 1) c1))) ∧
      Aside0 ((Value.slice A1 (L.length + 1) c1).ownBlock = v.ownBlock ∨ ∃ k, (Value.slice A1 (L.length + 1) c1).ownBlock = some k ∧ w.heap.size ≤ k) := by
  have el : (L ++ [x]).length = L.length + 1 := by simp
  rw [el] at ho hat
  have hb1 : w1.heap[b]? = some (.cells #[v'] 46 (0, 0)) := blk_grown HQ.drew.blk hg HQ.ne
  have hro : ∀ k, v'.ownBlock = some k → QS b v k ∨ w.heap.size ≤ k := by
    intro k hk
    rcases hV with h | ⟨k', h, h2⟩
    · exact .inl (.inr (by rw [← h, hk]))
    · rw [hk] at h; injection h with h; exact .inr (by omega)
  refine ⟨⟨⟨?_, HQ.base, ?_, by rw [el]; omega⟩⟩, ⟨?_⟩, ⟨hb.setCell HQ.base _⟩, ⟨?_⟩⟩
  · have := blk_set hb1 0 (.slice A1 (L.length + 1) c1)
    simpa using this
  · exact Kd.R_set ho hb1 (by decide) 0 _
  · exact (Kept.of_grown hg hK.drew hro).setCell (.inl (.inl rfl)) _
  · rcases hat with h | ⟨k, h, h2⟩
    · rw [h]; exact hV
    · exact .inr ⟨k, h, Nat.le_trans hK.1 h2⟩
set_option maxHeartbeats 2000000 in
set_option maxRecDepth 100000 in
theorem push_calls (B b : Nat) (v : Value) (l : List S31) (A : Option Addr) (c : Nat) (xs : List S31) (w : World) (hq : IsQ w B b v l) (hB : B ≤ w.heap.size)
    (hr : ∀ W', Kept w W' (QS b v) → Kd.C k31 W' A xs.length xs) (hc : xs.length ≤ c) (hl : l.length + xs.length ≤ 1000000) :
    Calls Try.prog 9 #[.pointer (some ⟨b, 0, none⟩), .slice A xs.length c] w fun e w' => ∃ v', e = .returned (.tuple #[]) ∧ IsQ w' B b v' (xs.foldl (push z31 lt31) l) ∧ Kept w w' (QS b v) ∧ Below B w w' ∧ (v'.ownBlock = v.ownBlock ∨ ∃ k, v'.ownBlock = some k ∧ w.heap.size ≤ k) := by
  have HQ := Aside0.mk hq
  have HR := Aside0.mk hr
  have HB := Aside0.mk hB
  have HC := Aside0.mk hc
  have HL := Aside0.mk hl
  clear hq hr hB hc hl
  go_enter Try.func9, Try.ntmps9
  go_wp2
  go_loopw [10] (fun i wr => ∃ (k : Nat) (v' : Value), Aside0 (k ≤ xs.length) ∧ i = .int .i64 k ∧ Aside0 (IsQ wr B b v' ((xs.take k).foldl (push z31 lt31) l)) ∧ Aside0 (Kept w wr (QS b v)) ∧ Aside0 (Below B w wr) ∧ Aside0 (v'.ownBlock = v.ownBlock ∨ ∃ k, v'.ownBlock = some k ∧ w.heap.size ≤ k)) (fun i wr => xs.length - (intOf i).toNat)
  case atStart => exact ⟨0, v, ⟨Nat.zero_le _⟩, rfl, HQ, ⟨Kept.refl _ _⟩, ⟨Below.refl _ _⟩, ⟨.inl rfl⟩⟩
  case round =>
    obtain ⟨k, v', HK, rfl, HQ', HKW, HBW, HV⟩ := hrel
    by_cases hlt : k < xs.length
    · obtain ⟨ad, rfl, hx0, hx1⟩ := at_T31 (HR.out wr HKW.out) (k : Int) (by omega) (by omega)
      obtain ⟨x, hx⟩ : ∃ x, rd_T31 xs (k : Int) = x := ⟨_, rfl⟩
      rw [hx] at hx0 hx1
      simp only [Int.toNat_natCast] at hx0 hx1
      have HX := Aside0.mk hx
      clear hx
      obtain ⟨wa, hwa⟩ : ∃ wa, wr.alloc (.cells #[.int .i64 x.f0, .int .u64 x.f1] 31) = wa := ⟨_, rfl⟩
      generalize hL : (xs.take k).foldl (push z31 lt31) l = L at *
      have HLL := Aside0.mk hL
      have HLEN2 : Aside0 (L.length = l.length + k) := ⟨by rw [← hL, foldl_len, List.length_take]; omega⟩
      have HQa : Aside0 (IsQ wa B b v' L) := ⟨by rw [← hwa]; exact HQ'.out.alloc _⟩
      have hb0 : wa.cell? ⟨b, 0, none⟩ = some v' := (blk_cell HQa.out.blk 0).trans rfl
      have hbf : wa.frozen? ⟨b, 0, none⟩ = false := blk_frozen HQa.out.blk 0
      have hy0 : wa.cell? ⟨wr.heap.size, 0, none⟩ = some (.int .i64 x.f0) := by rw [← hwa]; exact (blk_cell (heap_alloc_new wr _) 0).trans rfl
      have hy1 : wa.cell? ⟨wr.heap.size, 1, none⟩ = some (.int .u64 x.f1) := by rw [← hwa]; exact (blk_cell (heap_alloc_new wr _) 1).trans rfl
      have HBa : Aside0 (Below B w wa) := ⟨by rw [← hwa]; exact HBW.out.alloc (Nat.le_trans HB.out HBW.out.size) _⟩
      have HKa : Aside0 (Kept w wa (QS b v)) := ⟨by rw [← hwa]; exact HKW.out.alloc _⟩
      have HBS : Aside0 (B ≤ wa.heap.size) := ⟨Nat.le_trans HB.out HBa.out.size⟩
      have HWA := Aside0.mk hwa
      have hb0a : (wa.alloc (.cells #[.int .i64 x.f0, .int .u64 x.f1] 31)).cell? ⟨b, 0, none⟩ = some v' := (blk_cell (HQa.out.alloc _).blk 0).trans rfl
      clear hL
      go_wp2
      obtain ⟨sz, hsz⟩ : ∃ sz, wr.heap.size = sz := ⟨_, rfl⟩
      rw [hsz] at hy0 hy1 ⊢
      have HSZ := Aside0.mk hsz
      clear hx0 hx1 hsz hwa
      go_cut [10] (fun s10 wx => ∃ v1 : Value, s10 = .int .i64 (k : Int) ∧ Aside0 (IsQ wx B b v1 (L ++ [x])) ∧ Aside0 (Kept w wx (QS b v)) ∧ Aside0 (Below B w wx) ∧ Aside0 (v1.ownBlock = v.ownBlock ∨ ∃ k, v1.ownBlock = some k ∧ w.heap.size ≤ k))
      case first =>
        go_region_law (refine Kd.R_append_step k31 (w0 := w) (W := wa.drew) B (by rfl) (.tmp 18) (.tmp 20) 25 31 (.agg #[(.int .i64 0), (.int .u64 0)]) 16 rfl Try.underlying25 info31 rfl (by decide) (by omega) v' L x [.int .i64 x.f0, .int .u64 x.f1] (fun _ => True) (fun _ => False) rfl rfl ?aP (fun _ hk => hk.elim) ?aF ?aO ?aB ?aS ?aL ?_; (case aP => exact k31_mkM _ _ _ x); (case aF => exact fun _ _ => trivial); (case aO => exact HQa.out.drew.row); (case aB => exact below_drew HBa.out); (case aS => exact HBS.out); (case aL => have := HQa.out.len; omega); intro v1 w1 ho hb hg hat; obtain ⟨A1, c1, e1⟩ := Kd.R_slice ho; subst e1; have HO1 := Aside0.mk ho; have HB1 := Aside0.mk hb; have HG1 := Aside0.mk hg; have HA1 := Aside0.mk hat; have hb1 : w1.cell? ⟨b, 0, none⟩ = some v' := (blk_cell (blk_grown HQa.out.drew.blk hg HQa.out.ne) 0).trans rfl; have hf1 : w1.frozen? ⟨b, 0, none⟩ = false := blk_frozen (blk_grown HQa.out.drew.blk hg HQa.out.ne) 0; clear ho hb hg hat)
        all_goals
          go_wp2
          go_meet
          case rel => exact ⟨_, rfl, push_fin HQa.out HBa.out HKa.out HV.out HO1.out HB1.out HG1.out HA1.out (by have h1 := HLEN2.out; have := HL.out; omega)⟩
      case rest =>
        obtain ⟨v1, rfl, HQ1, HK1, HB1, HV1⟩ := hcut
        clear hy0 hy1 hbf hb0 hb0a
        obtain ⟨g, c1, rfl, hgB, hgl, _⟩ := Kd.R_form HQ1.out.row (by simp)
        have hb0 : wc.cell? ⟨b, 0, none⟩ = some (.slice (some ⟨g, 0, none⟩) (L ++ [x]).length c1) := (blk_cell HQ1.out.blk 0).trans rfl
        have hlen : (L ++ [x]).length = L.length + 1 := by simp
        rw [hlen] at hb0 HQ1
        have hl1 : L.length < 1000000 := by have := HQ1.out.len; omega
        have HGB := Aside0.mk hgB
        have HGV : Aside0 (QS b v g ∨ w.heap.size ≤ g) := by
          refine ⟨?_⟩
          rcases HV1.out with h | ⟨k', h, h2⟩
          · exact .inl (.inr (by rw [← h]; rfl))
          · have h' : g = k' := Option.some.inj h
            exact .inr (by omega)
        have hltk : k < xs.length := by omega
        have hk6 : k < 1000000 := by have := HL.out; omega
        clear hgB hgl
        obtain ⟨n, hn⟩ : ∃ n, L.length = n := ⟨_, rfl⟩
        obtain ⟨P, hP⟩ : ∃ P, push z31 lt31 L x = P := ⟨_, rfl⟩
        have HP := Aside0.mk (hP)
        have HN := Aside0.mk hn
        have HLEN := Aside0.mk hlen
        rw [hn] at hb0 hl1 HQ1
        clear hP hlen
        go_wp2
        clear hn hb0
        go_loopw [6] (fun s6 wx => ∃ (d i : Nat) (M : List S31), s6 = .int .i64 i ∧ Aside0 (i < d) ∧ Aside0 (i < n + 1) ∧ Aside0 (M.length = n + 1) ∧ Aside0 (upGo z31 lt31 d M i = P) ∧ Aside0 (IsQ wx B b (.slice (some ⟨g, 0, none⟩) (n + 1) c1) M) ∧ Aside0 (Kept w wx (QS b v)) ∧ Aside0 (Below B w wx)) (fun s6 wx => (intOf s6).toNat)
        case atStart => exact ⟨n + 1, n, L ++ [x], rfl, ⟨by omega⟩, ⟨by omega⟩, ⟨by rw [HLEN.out, HN.out]⟩, ⟨by rw [← HP.out, ← HN.out]; rfl⟩, HQ1, HK1, HB1⟩
        case round =>
          obtain ⟨d, i, M, rfl, HD, HI, HM, HU, HQi, HKi, HBi⟩ := hrel
          have hin : i < n + 1 := HI.out
          have hb0 : wr.cell? ⟨b, 0, none⟩ = some (.slice (some ⟨g, 0, none⟩) (n + 1) c1) := (blk_cell HQi.out.blk 0).trans rfl
          have hbf : wr.frozen? ⟨b, 0, none⟩ = false := blk_frozen HQi.out.blk 0
          by_cases hi0 : 0 < i
          · have hp : (i - 1) / 2 < i := by omega
            obtain ⟨ha0, ha1, hf0, hf1⟩ := q_at HQi.out.row i hin
            obtain ⟨hc0, hc1, hg0, hg1⟩ := q_at HQi.out.row ((i - 1) / 2) (by omega)
            obtain ⟨y, hy⟩ : ∃ y, M.getD i z31 = y := ⟨_, rfl⟩
            obtain ⟨u, hu⟩ : ∃ u, M.getD ((i - 1) / 2) z31 = u := ⟨_, rfl⟩
            rw [hy] at ha0 ha1
            rw [hu] at hc0 hc1
            obtain ⟨q, hq⟩ : ∃ q, (i - 1) / 2 = q := ⟨_, rfl⟩
            rw [hq] at hc0 hc1 hg0 hg1 hp hu
            have hq7 : ((i : Int) - 1) / 2 = (q : Int) := by omega
            have hqn : q < n + 1 := by omega
            have HQE := Aside0.mk hq
            have HUE := Aside0.mk hu
            have HYE := Aside0.mk hy
            clear hq hu hy
            go_wp2
            simp only [hq7]
            clear hq7
            have hii : (i : Int) < (n : Int) + 1 := by omega
            have hqq : (q : Int) < (n : Int) + 1 := by omega
            have hi00 : 0 ≤ (i : Int) := by omega
            have hq00 : 0 ≤ (q : Int) := by omega
            go_still_tail 14, (by kernel_rfl)
            change wpList _ _ _ _ _ wr.drew
            cases hlt : lt31 y u <;> have HLT := Aside0.mk hlt <;> clear hlt
            · go_wp2_with (go_at_call 15; refine (queue_Item_ahead.calls y.f0 y.f1 u.f0 u.f1 false _ (by rw [ahead_f, HLT.out])).mono ?_; rintro e w7 ⟨rfl, hb7⟩)
              have HQ7 : Aside0 (IsQ w7 B b (.slice (some ⟨g, 0, none⟩) (n + 1) c1) M) := ⟨HQi.out.drew.below hb7⟩
              have HB7 : Aside0 (Below B w w7) := ⟨below_then (below_drew HBi.out) (Nat.le_trans HB.out HBi.out.size) hb7⟩
              have HK7 : Aside0 (Kept w w7 (QS b v)) := ⟨HKi.out.drew.below hb7⟩
              go_roundw
              case rel => exact ⟨k + 1, .slice (some ⟨g, 0, none⟩) (n + 1) c1, ⟨by omega⟩, by go_num, ⟨by rw [push_take HX.out hltk HLL.out, HP.out, ← HU.out, upGo_stop HYE.out (by rw [show par i = (i - 1) / 2 from rfl, HQE.out]; exact HUE.out) HLT.out]; exact HQ7.out⟩, HK7, HB7, HV1⟩
              case measure => simp [intOf]; omega
            · go_wp2_with (go_at_call 15; refine (queue_Item_ahead.calls y.f0 y.f1 u.f0 u.f1 true _ (by rw [ahead_f, HLT.out])).mono ?_; rintro e w7 ⟨rfl, hb7⟩)
              have HQ7 : Aside0 (IsQ w7 B b (.slice (some ⟨g, 0, none⟩) (n + 1) c1) M) := ⟨HQi.out.drew.below hb7⟩
              have HB7 : Aside0 (Below B w w7) := ⟨below_then (below_drew HBi.out) (Nat.le_trans HB.out HBi.out.size) hb7⟩
              have HK7 : Aside0 (Kept w w7 (QS b v)) := ⟨HKi.out.drew.below hb7⟩
              clear ha0 ha1 hf0 hf1 hc0 hc1 hg0 hg1 hb0 hbf hb7
              have hb0 : w7.cell? ⟨b, 0, none⟩ = some (.slice (some ⟨g, 0, none⟩) (n + 1) c1) := (blk_cell HQ7.out.blk 0).trans rfl
              obtain ⟨ha0, ha1, hf0, hf1⟩ := q_at HQ7.out.row i hin
              obtain ⟨hc0, hc1, hg0, hg1⟩ := q_at HQ7.out.row q (by omega)
              rw [HYE.out] at ha0 ha1
              rw [HUE.out] at hc0 hc1
              have n1 : ¬ q * 2 = i * 2 := by omega
              have n2 : ¬ q * 2 = i * 2 + 1 := by omega
              have n3 : ¬ q * 2 + 1 = i * 2 := by omega
              have n4 : ¬ q = i := by omega
              go_region
              go_wp2
              go_roundw
              case rel =>
                obtain ⟨s1, s2, s3⟩ := HQ7.out.swap HB7.out HK7.out HGB.out HGV.out i q hin (by omega) HYE.out HUE.out
                exact ⟨d - 1, q, sw z31 M i q, rfl, ⟨by have := HD.out; omega⟩, ⟨by omega⟩, ⟨by rw [sw_len]; exact HM.out⟩, ⟨by rw [← HU.out, upGo_go HD.out hi0 HYE.out HUE.out HQE.out HLT.out]⟩, ⟨s1.drew⟩, ⟨s2.drew⟩, ⟨below_drew s3⟩⟩
              case measure => simp [intOf]; omega
          · have hi1 : i = 0 := by omega
            subst hi1
            go_wp2
            go_roundw
            case rel => exact ⟨k + 1, .slice (some ⟨g, 0, none⟩) (n + 1) c1, ⟨by omega⟩, by go_num, ⟨by rw [push_take HX.out hltk HLL.out, HP.out, ← HU.out, upGo_zero]; exact HQi.out⟩, HKi, HBi, HV1⟩
            case measure => simp [intOf]; omega
    · have hk9 : k = xs.length := by have := HK.out; omega
      have hk6 : k ≤ 1000000 := by have := HL.out; omega
      have HQ2 := HQ'.out
      rw [hk9, List.take_length] at HQ2
      have HQ3 := Aside0.mk HQ2
      clear HQ2 hk9
      go_wp2
      go_end0
      exact ⟨v', rfl, HQ3.out, HKW.out, HBW.out, HV.out⟩
theorem best_lt {M : List S31} {i kk m : Nat} (hm : M.length = m) (hk : kk < 2) (h : 2 * i + 1 + kk < m) : bestN M i kk < m := by
  rcases (show kk = 0 ∨ kk = 1 by omega) with rfl | rfl
  · show i < m; omega
  · show best1 z31 lt31 M i < m
    unfold best1
    split
    · split <;> omega
    · omega
theorem best_step {M : List S31} {i kk m p : Nat} (hm : M.length = m) (hk : kk < 2) (hp : bestN M i kk = p) : bestN M i (kk + 1) = if 2 * i + 1 + kk < m then (if lt31 (M.getD (2 * i + 1 + kk) z31) (M.getD p z31) then 2 * i + 1 + kk else p) else p := by
  subst hp
  rcases (show kk = 0 ∨ kk = 1 by omega) with rfl | rfl
  · show best1 z31 lt31 M i = _
    unfold best1
    rw [hm]; rfl
  · show best z31 lt31 M i = _
    unfold best
    rw [hm]; rfl
set_option maxHeartbeats 8000000 in
set_option maxRecDepth 100000 in
theorem pop_calls (B b : Nat) (v : Value) (l : List S31) (w : World) (hq : IsQ w B b v l) (hB : B ≤ w.heap.size) :
    Calls Try.prog 11 #[.pointer (some ⟨b, 0, none⟩)] w fun e w' => ∃ v', e = .returned (.tuple #[.agg #[.int .i64 (l.getD 0 z31).f0, .int .u64 (l.getD 0 z31).f1], .bool (decide (0 < l.length))]) ∧ IsQ w' B b v' (popL z31 lt31 l) ∧ Kept w w' (QS b v) ∧ Below B w w' ∧ v'.ownBlock = v.ownBlock := by
  have HQ := Aside0.mk hq
  have HB := Aside0.mk hB
  clear hq hB
  rcases l with _ | ⟨f, l'⟩
  · obtain ⟨A, c, rfl⟩ := Kd.R_slice HQ.out.row
    obtain ⟨w1, hw1⟩ : ∃ w1, w.alloc (.cells #[.int .i64 0, .int .u64 0] 31) = w1 := ⟨_, rfl⟩
    have HQ1 : Aside0 (IsQ w1 B b (.slice A 0 c) []) := ⟨by rw [← hw1]; exact HQ.out.alloc _⟩
    have HB1 : Aside0 (Below B w w1) := ⟨by rw [← hw1]; exact (Below.refl _ _).alloc HB.out _⟩
    have HK1 : Aside0 (Kept w w1 (QS b (.slice A 0 c))) := ⟨by rw [← hw1]; exact (Kept.refl _ _).alloc _⟩
    have hh2 : w1.heap[w.heap.size]? = some (.cells #[.int .i64 0, .int .u64 0] 31 (0, 0)) := by rw [← hw1]; exact heap_alloc_new w _
    have HH2 := Aside0.mk hh2
    obtain ⟨h2, hh⟩ : ∃ h2, w.heap.size = h2 := ⟨_, rfl⟩
    rw [hh] at hh2
    have hb0 : w1.cell? ⟨b, 0, none⟩ = some (.slice A 0 c) := (blk_cell HQ1.out.blk 0).trans rfl
    have hr0 : w1.cell? ⟨h2, 0, none⟩ = some (.int .i64 0) := (blk_cell hh2 0).trans rfl
    have hr1 : w1.cell? ⟨h2, 1, none⟩ = some (.int .u64 0) := (blk_cell hh2 1).trans rfl
    have hf0 : w1.frozen? ⟨h2, 0, none⟩ = false := blk_frozen hh2 0
    have hf1 : w1.frozen? ⟨h2, 1, none⟩ = false := blk_frozen hh2 1
    clear hh2
    go_enter Try.func11, Try.ntmps11
    go_wp2
    have HB2 : Aside0 (Below w.heap.size w w1) := ⟨by rw [← hw1]; exact below_alloc (Below.refl _ _) _⟩
    exact bodyPost_ret (v := .tuple #[.agg #[.int .i64 0, .int .u64 0], .bool false]) (by simp [results, Try.results11, go_sem, hr0, hr1]) rfl ⟨.slice A 0 c, rfl,
      HQ.out.kept (S := fun _ => False) ((((Kept.of_below HB2.out _).setCell (.inr (Nat.le_of_eq hh)) _).setCell (.inr (Nat.le_of_eq hh)) _)) (fun _ _ h => h), (HK1.out.setCell (.inr (Nat.le_of_eq hh)) _).setCell (.inr (Nat.le_of_eq hh)) _, (HB1.out.setCell (by show B ≤ h2; have := HB.out; omega) _).setCell (by show B ≤ h2; have := HB.out; omega) _, rfl⟩
  · obtain ⟨l, hl⟩ : ∃ l, f :: l' = l := ⟨_, rfl⟩
    have hf : l.getD 0 z31 = f := by rw [← hl]; rfl
    have hln : l.length = l'.length + 1 := by rw [← hl]; rfl
    rw [hl] at HQ ⊢
    rw [hf]
    have HF := Aside0.mk hf
    obtain ⟨g, c1, rfl, hgB, hgl, _⟩ := Kd.R_form HQ.out.row (by omega)
    obtain ⟨m, hm⟩ : ∃ m, l'.length = m := ⟨_, rfl⟩
    rw [hm] at hln
    have HLN := Aside0.mk hln
    have HM := Aside0.mk hm
    have HGB := Aside0.mk hgB
    have HGL := Aside0.mk hgl
    rw [hln] at HQ ⊢
    obtain ⟨w1, hw1⟩ : ∃ w1, w.alloc (.cells #[.int .i64 0, .int .u64 0] 31) = w1 := ⟨_, rfl⟩
    have HQ1 : Aside0 (IsQ w1 B b (.slice (some ⟨g, 0, none⟩) (m + 1) c1) l) := ⟨by rw [← hw1]; exact HQ.out.alloc _⟩
    have HB1 : Aside0 (Below B w w1) := ⟨by rw [← hw1]; exact (Below.refl _ _).alloc HB.out _⟩
    have HK1 : Aside0 (Kept w w1 (QS b (.slice (some ⟨g, 0, none⟩) (m + 1) c1))) := ⟨by rw [← hw1]; exact (Kept.refl _ _).alloc _⟩
    have hh2 : w1.heap[w.heap.size]? = some (.cells #[.int .i64 0, .int .u64 0] 31 (0, 0)) := by rw [← hw1]; exact heap_alloc_new w _
    obtain ⟨h2, hh⟩ : ∃ h2, w.heap.size = h2 := ⟨_, rfl⟩
    rw [hh] at hh2
    have HH2 := Aside0.mk hh2
    have HHS := Aside0.mk hh
    have hb0 : w1.cell? ⟨b, 0, none⟩ = some (.slice (some ⟨g, 0, none⟩) (m + 1) c1) := (blk_cell HQ1.out.blk 0).trans rfl
    obtain ⟨ha0, ha1, _, _⟩ := q_at HQ1.out.row 0 (by omega)
    rw [hf] at ha0 ha1
    simp only [Nat.zero_mul, Nat.zero_add] at ha0 ha1
    have hz0 : (w1.alloc (.cells #[.int .i64 0, .int .u64 0] 31)).cell? ⟨b, 0, none⟩ = some (.slice (some ⟨g, 0, none⟩) (m + 1) c1) := (blk_cell (HQ1.out.alloc _).blk 0).trans rfl
    have hy0 : (w1.alloc (.cells #[.int .i64 f.f0, .int .u64 f.f1] 31)).cell? ⟨b, 0, none⟩ = some (.slice (some ⟨g, 0, none⟩) (m + 1) c1) := (blk_cell (HQ1.out.alloc _).blk 0).trans rfl
    obtain ⟨hz1, hz2, _, _⟩ := q_at (HQ1.out.alloc (.cells #[.int .i64 0, .int .u64 0] 31)).row 0 (by omega)
    rw [hf] at hz1 hz2
    simp only [Nat.zero_mul, Nat.zero_add] at hz1 hz2
    have hm6 : m < 1000000 := by have := HQ.out.len; omega
    clear hf hl hln hm hgB hgl hh2
    go_enter Try.func11, Try.ntmps11
    go_wp2
    go_cut [4, 5] (fun s4 s5 wx => ∃ h4 : Nat, s4 = .pointer (some ⟨h4, 0, none⟩) ∧ s5 = .int .i64 m ∧ Aside0 (h2 < h4) ∧ Aside0 (wx.heap[h4]? = some (.cells #[.int .i64 f.f0, .int .u64 f.f1] 31 (0, 0))) ∧ Aside0 (Below w1.heap.size w1 wx))
    case first =>
      go_region
      all_goals
        go_wp2
        go_meet
        case rel =>
          refine ⟨w1.heap.size, rfl, rfl, ⟨blk_lt HH2.out⟩, ?_, ?_⟩
          · exact ⟨heap_alloc_new w1 _⟩
          · exact ⟨below_drew (below_alloc (Below.refl _ _) _)⟩
    case rest =>
      obtain ⟨h4, rfl, rfl, H24, HH4, HBx⟩ := hcut
      have HQ3 : Aside0 (IsQ wc B b (.slice (some ⟨g, 0, none⟩) (m + 1) c1) l) := ⟨HQ1.out.below HBx.out⟩
      have HB3 : Aside0 (Below B w wc) := ⟨below_then HB1.out (Nat.le_trans HB.out HB1.out.size) HBx.out⟩
      have HK3 : Aside0 (Kept w wc (QS b (.slice (some ⟨g, 0, none⟩) (m + 1) c1))) := ⟨HK1.out.below HBx.out⟩
      have HH23 : Aside0 (wc.heap[h2]? = some (.cells #[.int .i64 0, .int .u64 0] 31 (0, 0))) := ⟨(HBx.out.block h2 (blk_lt HH2.out)).trans HH2.out⟩
      have HW1 : Aside0 (w.heap.size < w1.heap.size) := ⟨by have := blk_lt HH2.out; have := HHS.out; omega⟩
      clear hb0 ha0 ha1 hz0 hy0 hz1 hz2 HBx HH2 HQ1 HB1 HK1
      have hb0 : wc.cell? ⟨b, 0, none⟩ = some (.slice (some ⟨g, 0, none⟩) (m + 1) c1) := (blk_cell HQ3.out.blk 0).trans rfl
      obtain ⟨ha0, ha1, hf0, hf1⟩ := q_at HQ3.out.row 0 (by omega)
      obtain ⟨hc0, hc1, _, _⟩ := q_at HQ3.out.row m (by omega)
      obtain ⟨u, hu⟩ : ∃ u, l.getD m z31 = u := ⟨_, rfl⟩
      rw [hu] at hc0 hc1
      have HU := Aside0.mk hu
      simp only [Nat.zero_mul, Nat.zero_add] at ha0 ha1 hf0 hf1
      have hmm : (m : Int) < (m : Int) + 1 := by omega
      have hm0 : 0 ≤ (m : Int) := by omega
      clear hu
      go_upto_region 4 with (fail)
      go_cut [5] (fun s5 wx => s5 = .int .i64 m ∧ Aside0 (IsQ wx B b (.slice (some ⟨g, 0, none⟩) (m + 1) c1) (l.set 0 u)) ∧ Aside0 (Kept w wx (QS b (.slice (some ⟨g, 0, none⟩) (m + 1) c1))) ∧ Aside0 (Below B w wx) ∧
          Aside0 (wx.heap[h4]? = some (.cells #[.int .i64 f.f0, .int .u64 f.f1] 31 (0, 0))) ∧ Aside0 (wx.heap[h2]? = some (.cells #[.int .i64 0, .int .u64 0] 31 (0, 0))))
      case first =>
        go_region
        all_goals
          go_wp2
          go_meet
          case rel =>
            obtain ⟨q1, q2⟩ := HQ3.out.put 0 (by omega) u
            have hg2 : h2 ≠ g := by have := HGL.out; have := HHS.out; omega
            have hg4 : h4 ≠ g := by have := HGL.out; have := HHS.out; have := H24.out; omega
            exact ⟨rfl, ⟨q1.drew⟩, ⟨Kept.of_grown (grown_drew q2) HK3.out (fun k hk => .inl (.inr hk.symm))⟩, ⟨below_drew ((HB3.out.setCell HGB.out _).setCell HGB.out _)⟩, ⟨blk_grown HH4.out (grown_drew q2) (fun e => hg4 (Option.some.inj e))⟩, ⟨blk_grown HH23.out (grown_drew q2) (fun e => hg2 (Option.some.inj e))⟩⟩
      case rest =>
        obtain ⟨rfl, HQ4, HK4, HB4, HH44, HH24⟩ := hcut
        clear ha0 ha1 hf0 hf1 hc0 hc1 hb0
        have hb0 : wc.cell? ⟨b, 0, none⟩ = some (.slice (some ⟨g, 0, none⟩) (m + 1) c1) := (blk_cell HQ4.out.blk 0).trans rfl
        have hbf : wc.frozen? ⟨b, 0, none⟩ = false := blk_frozen HQ4.out.blk 0
        have hmc : m ≤ c1 := by have := (Kd.R_reads' HQ4.out.row).2.1; omega
        have hmci : (m : Int) ≤ (c1 : Int) := by omega
        have HML : Aside0 ((l.set 0 u).length = m + 1) := ⟨by rw [List.length_set]; exact HLN.out⟩
        obtain ⟨P, hP⟩ : ∃ P, popL z31 lt31 l = P := ⟨_, rfl⟩
        have HP := Aside0.mk hP
        clear hP
        go_wp2
        go_loopw [6] (fun s6 wx => ∃ (d i : Nat) (M : List S31), s6 = .int .i64 i ∧ Aside0 (m < i + d + 1) ∧ Aside0 (i ≤ m) ∧ Aside0 (M.length = m) ∧ Aside0 (downGo z31 lt31 d M i = P) ∧ Aside0 (IsQ wx B b (.slice (some ⟨g, 0, none⟩) m c1) M) ∧ Aside0 (Kept w wx (QS b (.slice (some ⟨g, 0, none⟩) (m + 1) c1))) ∧ Aside0 (Below B w wx) ∧
          Aside0 (wx.heap[h4]? = some (.cells #[.int .i64 f.f0, .int .u64 f.f1] 31 (0, 0))) ∧ Aside0 (wx.heap[h2]? = some (.cells #[.int .i64 0, .int .u64 0] 31 (0, 0)))) (fun s6 wx => m - (intOf s6).toNat)
        case atStart => 
          have hb2 : h2 ≠ b := blk_ne HH24.out HQ4.out.blk (by decide)
          have hb4 : h4 ≠ b := blk_ne HH44.out HQ4.out.blk (by decide)
          exact ⟨m + 1, 0, (l.set 0 u).take m, rfl, ⟨by omega⟩, ⟨by omega⟩, ⟨by rw [List.length_take, HML.out]; omega⟩, ⟨by rw [← HP.out, ← HU.out]; unfold popL; rw [HLN.out]; rfl⟩, ⟨HQ4.out.cut (by rw [HML.out]; omega)⟩, ⟨HK4.out.setCell (.inl (.inl rfl)) _⟩, ⟨HB4.out.setCell HQ4.out.base _⟩, ⟨blk_far HH44.out (p := ⟨b, 0, none⟩) hb4 _⟩, ⟨blk_far HH24.out (p := ⟨b, 0, none⟩) hb2 _⟩⟩
        case round =>
          obtain ⟨d, i, M, rfl, HD, HI, HML2, HU2, HQi, HKi, HBi, HH4i, HH2i⟩ := hrel
          have him : i ≤ m := HI.out
          clear hb0 hbf
          obtain ⟨wl, hwl⟩ : ∃ wl, wr.alloc (.cells #[.int .i64 (2 * (i : Int) + 1), .int .i64 (2 * (i : Int) + 2)] 3) = wl := ⟨_, rfl⟩
          obtain ⟨hL, hhL⟩ : ∃ hL, wr.heap.size = hL := ⟨_, rfl⟩
          have HWL := Aside0.mk hwl
          have HHL := Aside0.mk hhL
          have HLB : Aside0 (wl.heap[hL]? = some (.cells #[.int .i64 (2 * (i : Int) + 1), .int .i64 (2 * (i : Int) + 2)] 3 (0, 0))) := ⟨by rw [← hwl, ← hhL]; exact heap_alloc_new wr _⟩
          have HQl : Aside0 (IsQ wl B b (.slice (some ⟨g, 0, none⟩) m c1) M) := ⟨by rw [← hwl]; exact HQi.out.alloc _⟩
          have HKl : Aside0 (Kept w wl (QS b (.slice (some ⟨g, 0, none⟩) (m + 1) c1))) := ⟨by rw [← hwl]; exact HKi.out.alloc _⟩
          have HBl : Aside0 (Below B w wl) := ⟨by rw [← hwl]; exact HBi.out.alloc (Nat.le_trans HB.out HBi.out.size) _⟩
          have HH4l : Aside0 (wl.heap[h4]? = some (.cells #[.int .i64 f.f0, .int .u64 f.f1] 31 (0, 0))) := ⟨by rw [← hwl]; exact blk_alloc HH4i.out _⟩
          have HH2l : Aside0 (wl.heap[h2]? = some (.cells #[.int .i64 0, .int .u64 0] 31 (0, 0))) := ⟨by rw [← hwl]; exact blk_alloc HH2i.out _⟩
          go_wp2
          clear hwl hhL
          go_loopw [7, 59] (fun s7 s59 wx => ∃ kk : Nat, s59 = .int .i64 kk ∧ Aside0 (kk ≤ 2) ∧ s7 = .int .i64 (bestN M i kk : Nat) ∧ Aside0 (Below wl.heap.size wl wx)) (fun s7 s59 wx => 2 - (intOf s59).toNat)
          case atStart => exact ⟨0, rfl, ⟨by omega⟩, rfl, ⟨Below.refl _ _⟩⟩
          case round =>
            obtain ⟨kk, rfl, HKK, rfl, HBk⟩ := hrel
            by_cases hk2 : kk < 2
            · obtain ⟨p, hp⟩ : ∃ p, bestN M i kk = p := ⟨_, rfl⟩
              obtain ⟨K, hK⟩ : ∃ K, 2 * i + 1 + kk = K := ⟨_, rfl⟩
              rw [hp]
              have hlc : wr.cell? ⟨hL, kk, none⟩ = some (.int .i64 K) := by
                rw [blk_cell ((HBk.out.block hL (blk_lt HLB.out)).trans HLB.out)]
                rcases (show kk = 0 ∨ kk = 1 by omega) with rfl | rfl
                · show some (Value.int .i64 (2 * (i : Int) + 1)) = _
                  rw [← hK]; rfl
                · show some (Value.int .i64 (2 * (i : Int) + 2)) = _
                  rw [← hK]; congr 2
              have HPE := Aside0.mk hp
              have HKE := Aside0.mk hK
              have HQk : Aside0 (IsQ wr B b (.slice (some ⟨g, 0, none⟩) m c1) M) := ⟨HQl.out.below HBk.out⟩
              have hb0 : wr.cell? ⟨b, 0, none⟩ = some (.slice (some ⟨g, 0, none⟩) m c1) := (blk_cell HQk.out.blk 0).trans rfl
              clear hp hK
              by_cases hkm : K < m
              · have hkmb : decide ((K : Int) < (m : Int)) = true := decide_eq_true (by omega)
                have hpm : p < m := by have := best_lt HML2.out hk2 (by rw [HKE.out]; exact hkm); rw [HPE.out] at this; exact this
                obtain ⟨ha0, ha1, _, _⟩ := q_at HQk.out.row K hkm
                obtain ⟨hc0, hc1, _, _⟩ := q_at HQk.out.row p hpm
                obtain ⟨y, hy⟩ : ∃ y, M.getD K z31 = y := ⟨_, rfl⟩
                obtain ⟨x, hx⟩ : ∃ x, M.getD p z31 = x := ⟨_, rfl⟩
                rw [hy] at ha0 ha1
                rw [hx] at hc0 hc1
                have HYE := Aside0.mk hy
                have HXE := Aside0.mk hx
                clear hy hx
                go_wp2
                have hii : (K : Int) < (m : Int) := by omega
                have hpp : (p : Int) < (m : Int) := by omega
                have hK0 : 0 ≤ (K : Int) := by omega
                have hp0 : 0 ≤ (p : Int) := by omega
                go_still_tail 18, (by kernel_rfl)
                change wpList _ _ _ _ _ wr.drew
                cases hlt : lt31 y x <;> have HLT := Aside0.mk hlt <;> clear hlt
                · go_wp2_with (go_at_call 15; refine (queue_Item_ahead.calls y.f0 y.f1 x.f0 x.f1 false _ (by rw [ahead_f, HLT.out])).mono ?_; rintro e w7 ⟨rfl, hb7⟩)
                  have HB7 : Aside0 (Below wl.heap.size wl w7) := ⟨below_then (below_drew HBk.out) HBk.out.size hb7⟩
                  go_roundw
                  case rel => exact ⟨kk + 1, by go_num, ⟨by omega⟩, by rw [best_step HML2.out hk2 HPE.out, HKE.out, if_pos hkm, HYE.out, HXE.out, HLT.out]; rfl, HB7⟩
                  case measure => simp [intOf]; omega
                · go_wp2_with (go_at_call 15; refine (queue_Item_ahead.calls y.f0 y.f1 x.f0 x.f1 true _ (by rw [ahead_f, HLT.out])).mono ?_; rintro e w7 ⟨rfl, hb7⟩)
                  have HB7 : Aside0 (Below wl.heap.size wl w7) := ⟨below_then (below_drew HBk.out) HBk.out.size hb7⟩
                  go_roundw
                  case rel => exact ⟨kk + 1, by go_num, ⟨by omega⟩, by rw [best_step HML2.out hk2 HPE.out, HKE.out, if_pos hkm, HYE.out, HXE.out, HLT.out]; rfl, HB7⟩
                  case measure => simp [intOf]; omega
              · have hkmb : decide ((K : Int) < (m : Int)) = false := decide_eq_false (by omega)
                go_wp2
                go_quiet (fail)
                go_wp2
                go_roundw
                case rel => exact ⟨kk + 1, by go_num, ⟨by omega⟩, by rw [best_step HML2.out hk2 HPE.out, HKE.out, if_neg hkm], ⟨pw_below_drewN HBk.out _⟩⟩
                case measure => simp [intOf]; omega
            · obtain rfl : kk = 2 := by have := HKK.out; omega
              obtain ⟨p, hp⟩ : ∃ p, bestN M i 2 = p := ⟨_, rfl⟩
              rw [hp]
              have HPE := Aside0.mk hp
              clear hp hk2
              have HQk : Aside0 (IsQ wr B b (.slice (some ⟨g, 0, none⟩) m c1) M) := ⟨HQl.out.below HBk.out⟩
              have HKk : Aside0 (Kept w wr (QS b (.slice (some ⟨g, 0, none⟩) (m + 1) c1))) := ⟨HKl.out.below HBk.out⟩
              have HBw : Aside0 (Below B w wr) := ⟨below_then HBl.out (Nat.le_trans HB.out HBl.out.size) HBk.out⟩
              have hh4 := (HBk.out.block h4 (blk_lt HH4l.out)).trans HH4l.out
              have hh2 := (HBk.out.block h2 (blk_lt HH2l.out)).trans HH2l.out
              have HH4k := Aside0.mk hh4
              have HH2k := Aside0.mk hh2
              by_cases hpi : p = i
              · have HPI := Aside0.mk hpi
                have hpib : ((p : Int) == (i : Int)) = true := by rw [hpi]; simp
                have hx0 : wr.cell? ⟨h4, 0, none⟩ = some (.int .i64 f.f0) := (blk_cell hh4 0).trans rfl
                have hx1 : wr.cell? ⟨h4, 1, none⟩ = some (.int .u64 f.f1) := (blk_cell hh4 1).trans rfl
                have hr0 : wr.cell? ⟨h2, 0, none⟩ = some (.int .i64 0) := (blk_cell hh2 0).trans rfl
                have hr1 : wr.cell? ⟨h2, 1, none⟩ = some (.int .u64 0) := (blk_cell hh2 1).trans rfl
                have hf0 : wr.frozen? ⟨h2, 0, none⟩ = false := blk_frozen hh2 0
                have hf1 : wr.frozen? ⟨h2, 1, none⟩ = false := blk_frozen hh2 1
                clear hh4 hh2 hpi
                go_wp2
                have e1 : downGo z31 lt31 d M i = M := down_stop HPE.out HPI.out
                have e2 : popL z31 lt31 l = M := by rw [HP.out, ← HU2.out, e1]
                obtain ⟨z1, z2, z3⟩ := pop_fin (u1 := .int .i64 f.f0) (u2 := .int .u64 f.f1) HQk.out HH2k.out (by have := HGL.out; have := HHS.out; omega) HKk.out HBw.out (by have := HB.out; have := HHS.out; omega) (Nat.le_of_eq HHS.out)
                rw [e2]
                have hres : decide (0 < m + 1) = true := by simp
                rw [hres]
                exact bodyPost_ret (v := .tuple #[.agg #[.int .i64 f.f0, .int .u64 f.f1], .bool true]) (by simp [results, Try.results11, go_sem, hr0, hr1]) rfl ⟨_, rfl, z1, z2, z3, rfl⟩
              · have hpib : ((p : Int) == (i : Int)) = false := by simp; omega
                obtain ⟨hip, hpm, hbe⟩ := best_far HML2.out HPE.out hpi
                have HBE := Aside0.mk hbe
                clear hh4 hh2 hbe
                have hb0 : wr.cell? ⟨b, 0, none⟩ = some (.slice (some ⟨g, 0, none⟩) m c1) := (blk_cell HQk.out.blk 0).trans rfl
                obtain ⟨ha0, ha1, hf0, hf1⟩ := q_at HQk.out.row i (by omega)
                obtain ⟨hc0, hc1, hg0, hg1⟩ := q_at HQk.out.row p hpm
                obtain ⟨y, hy⟩ : ∃ y, M.getD i z31 = y := ⟨_, rfl⟩
                obtain ⟨x, hx⟩ : ∃ x, M.getD p z31 = x := ⟨_, rfl⟩
                rw [hy] at ha0 ha1
                rw [hx] at hc0 hc1
                have HYE := Aside0.mk hy
                have HXE := Aside0.mk hx
                clear hy hx
                have n1 : ¬ p * 2 = i * 2 := by omega
                have n2 : ¬ p * 2 = i * 2 + 1 := by omega
                have n3 : ¬ p * 2 + 1 = i * 2 := by omega
                have n4 : ¬ p = i := by omega
                have hii : (i : Int) < (m : Int) := by omega
                have hpp : (p : Int) < (m : Int) := by omega
                have hi00 : 0 ≤ (i : Int) := by omega
                have hp00 : 0 ≤ (p : Int) := by omega
                go_wp2
                go_region
                go_wp2
                go_roundw
                case rel =>
                  obtain ⟨s1, s2, s3⟩ := HQk.out.swap (v := .slice (some ⟨g, 0, none⟩) (m + 1) c1) HBw.out HKk.out HGB.out (.inl (.inr rfl)) i p (by omega) hpm HYE.out HXE.out
                  have hg4 : h4 ≠ g := by have := HGL.out; have := HHS.out; have := H24.out; omega
                  have hg2 : h2 ≠ g := by have := HGL.out; have := HHS.out; omega
                  exact ⟨d - 1, p, sw z31 M i p, rfl, ⟨by have := HD.out; omega⟩, ⟨by omega⟩, ⟨by rw [sw_len]; exact HML2.out⟩, ⟨by rw [← HU2.out, ← down_go HBE.out hpi (by have := HD.out; omega)]⟩, ⟨s1.drew⟩, ⟨s2.drew⟩, ⟨below_drew s3⟩,
                    ⟨blk_far (blk_far (blk_far (blk_far HH4k.out (p := ⟨g, i * 2, none⟩) hg4 _) (p := ⟨g, i * 2 + 1, none⟩) hg4 _) (p := ⟨g, p * 2, none⟩) hg4 _) (p := ⟨g, p * 2 + 1, none⟩) hg4 _⟩,
                    ⟨blk_far (blk_far (blk_far (blk_far HH2k.out (p := ⟨g, i * 2, none⟩) hg2 _) (p := ⟨g, i * 2 + 1, none⟩) hg2 _) (p := ⟨g, p * 2, none⟩) hg2 _) (p := ⟨g, p * 2 + 1, none⟩) hg2 _⟩⟩
                case measure => simp [intOf]; omega
end Go.Proofs.Ytpobioiagafpgaa.PQueuePlays
