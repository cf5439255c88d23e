/- The conversion []byte(s), as a step of a walk: the new row is only read, and it holds the bytes of s. No condition. -/
import Derived.Test.YtieodkghfceflaaWWords
import Derived.Test.YtieodkghfceflaaWMore
import Derived.Test.YtieodkghfceflaaWShare
import Derived.Lib.ConvBytes
import Derived.Lib.SlBytesConst
import Derived.Laws.AppendOwn
namespace Go.Proofs.Ytieodkghfceflaa.Opening
open Go.RowKit Go.Proofs.YtieodkghfceflaaW.PrintWords Go.Proofs.YtieodkghfceflaaW.PrintLast Go.Proofs.YtieodkghfceflaaW.PrintMore

theorem bytesWorld_below (w : World) (e : TypeId) (s : ByteArray) : Below w.heap.size w (Lib.bytesWorld w e s) where
  os := by simp [Lib.bytesWorld, World.freeze, World.alloc, World.drew, -World.alloc_eq, -World.drew_eq]
  tape := by simp [Lib.bytesWorld, World.freeze, World.alloc, World.drew, -World.alloc_eq, -World.drew_eq]
  output := by simp [Lib.bytesWorld, World.freeze, World.alloc, World.drew, -World.alloc_eq, -World.drew_eq]
  size := by rw [Lib.bytesWorld_size]; omega
  block := fun i hi => Lib.bytesWorld_at_old w e s i hi

theorem conv_V (w : World) (e : TypeId) (s : ByteArray) (hs : s.size ≤ 9223372036854775807) : Kd.V (Kd.int .u8) e (Lib.bytesWorld w e s) w.heap.size (fun k_ => w.heap.size ≤ k_) (.slice (some ⟨w.heap.size, 0, none⟩) s.size (grownCap w s.size 0 e)) (bytesOf s) := by
  have hl : (bytesOf s).length = s.size := bytesOf_length s
  refine ⟨some ⟨w.heap.size, 0, none⟩, grownCap w s.size 0 e, by rw [hl], ?_, ?_⟩
  · rw [hl]
    exact grownCap_ge w s.size 0 e
  · intro W' hW
    have hb := hW w.heap.size (Nat.le_refl _) (by rw [Lib.bytesWorld_size]; omega)
    rw [Lib.bytesWorld_at_new] at hb
    refine ⟨rfl, by omega, fun _ => ⟨_, rfl, fun j p hj => ?_⟩⟩
    have hjl : j < s.size := by have := (List.getElem?_eq_some_iff.1 hj).1; omega
    refine ⟨[.int .u8 p], rfl, rfl, fun i u hu => ?_⟩
    have hi : i = 0 := by
      have := (List.getElem?_eq_some_iff.1 hu).1
      simp at this
      omega
    subst hi
    simp only [List.getElem?_cons_zero, Option.some.injEq] at hu
    subst hu
    have hc : W'.cell? ⟨w.heap.size, j, none⟩ = (Lib.bytesWorld w e s).cell? ⟨w.heap.size, j, none⟩ := by
      simp only [World.cell?, hb, Lib.bytesWorld_at_new]
    have ha : (⟨w.heap.size, 0, none⟩ : Addr).add (j * (Kd.int .u8).sz + 0) = ⟨w.heap.size, j, none⟩ := by
      rw [add_plain]
      show (⟨w.heap.size, j * 1 + 0, none⟩ : Addr) = _
      rw [Nat.mul_one, Nat.add_zero]
    rw [ha, hc, Lib.bytesWorld_cell w e s j hjl]
    have h2 : p = ((s.data.toList.getD j 0).toNat : Int) := by
      have h3 := (List.getElem?_eq_some_iff.1 hj).2
      rw [← h3]
      simp [bytesOf, List.getD, hjl]
    rw [h2]

/-- A literal of slices that has just been laid: what it holds. -/
theorem vlit_row {α : Type} {d : Kd α} {e0 : Nat} {w : World} {cs : List Value} {L : List (List α)} (e : Nat) (hl : cs.length = L.length) (hm : L.length ≤ 9223372036854775807)
    (h : ∀ (j : Nat) (p : List α), L[j]? = some p → ∃ (A : Option Addr) (c : Nat), cs[j]? = some (Value.slice A p.length c) ∧ p.length ≤ c ∧ d.C (w.alloc (.cells cs.toArray e)) A p.length p) :
    Kd.C (Kd.slice e0 d) (w.alloc (.cells cs.toArray e)) (some ⟨w.heap.size, 0, none⟩) L.length L := by
  refine ⟨rfl, hm, fun _ => ⟨_, rfl, fun j p hj => ?_⟩⟩
  obtain ⟨A, c, hc, hlc, hC⟩ := h j p hj
  refine ⟨[.slice A p.length c], rfl, ⟨A, c, rfl, hlc, hC⟩, fun i u hu => ?_⟩
  have hi : i = 0 := by
    have := (List.getElem?_eq_some_iff.1 hu).1
    simp at this
    omega
  subst hi
  simp only [List.getElem?_cons_zero, Option.some.injEq] at hu
  subst hu
  rw [add_plain, show j * (Kd.slice e0 d).sz + 0 = j from by show j * 1 + 0 = j; omega, blk_cell (blk_new w _)]
  simpa using hc
/-- Of s, as long as a string may be. -/
def convOf (s : ByteArray) : Option (List Int) := if s.size ≤ 9223372036854775807 then some (bytesOf s) else none
/-- A literal of bytes that a constant's conversion has marked: what it holds. -/
theorem litb_V (w : World) (e : TypeId) (xs : List Int) (cs : List Value) (hc : cs = xs.map (Value.int .u8)) (hm : xs.length ≤ 9223372036854775807) (fr : Nat × Nat) :
    Kd.V (Kd.int .u8) e (w.alloc (.cells cs.toArray e fr)) w.heap.size (fun k_ => w.heap.size ≤ k_) (.slice (some ⟨w.heap.size, 0, none⟩) xs.length xs.length) xs := by
  subst hc
  refine ⟨some ⟨w.heap.size, 0, none⟩, xs.length, rfl, Nat.le_refl _, ?_⟩
  intro W' hW
  have hb := hW w.heap.size (Nat.le_refl _) (by simp)
  rw [heap_alloc_new w _] at hb
  refine ⟨rfl, hm, fun _ => ⟨_, rfl, fun j p hj => ⟨[.int .u8 p], rfl, rfl, fun i u hu => ?_⟩⟩⟩
  have hi : i = 0 := by
    have := (List.getElem?_eq_some_iff.1 hu).1
    simp at this
    omega
  subst hi
  simp only [List.getElem?_cons_zero, Option.some.injEq] at hu
  subst hu
  rw [add_plain, show j * (Kd.int .u8).sz + 0 = j from by show j * 1 + 0 = j; omega]
  simp only [World.cell?, hb, Option.isSome_none, Bool.false_eq_true, if_false]
  simp [hj]
section
variable {P : Program} {ops : Array Oper} {rest : List Oper} {o : Oper} {a : Act} {Q : Exit → Act → World → Prop} {Kc : Act → World → Prop}
theorem conv_run {W : World} (src dst e : TypeId) (x : Operand) (ho : o.op = .convert src dst x) (hs : P.underlying src = some .string) (hd : P.underlying dst = some (.slice e)) (he : P.underlying e = some (.int .u8))
    (s : ByteArray) (hx : a.eval x = .string s) : (execOp a.eval o).run P W = .ok (.value (.slice (some ⟨W.heap.size, 0, none⟩) s.size (grownCap W s.size 0 e))) (Lib.bytesWorld W e s) := by
  have hx2 := Lib.run_convert_string_bytes (P := P) W src dst e s hs hd he
  simp [execOp, ho, hx, hx2]
theorem conv_goes {W : World} (hgd : o.guard = none) (src dst e : TypeId) (x : Operand) (ho : o.op = .convert src dst x) (hs : P.underlying src = some .string) (hd : P.underlying dst = some (.slice e)) (he : P.underlying e = some (.int .u8))
    (s : ByteArray) (xs : List Int) (hx : a.eval x = .string s) (hr : convOf s = some xs)
    (h : ∀ v w2, Kd.V (Kd.int .u8) e w2 W.heap.size (fun k_ => W.heap.size ≤ k_) v xs → Below W.heap.size W w2 → wpList P ops Q rest (a.put o.dst v) w2) : wpList P ops Q (o :: rest) a W := by
  unfold convOf at hr
  split at hr
  · injection hr with hr
    subst hr
    exact Kd.event_run hgd (conv_run src dst e x ho hs hd he s hx) (h _ _ (conv_V W e s (by assumption)) (bytesWorld_below W e s))
  · cases hr
theorem conv_step {W : World} (hw : Region.wanted o (yielded ops a.tmps) = true) (src dst e : TypeId) (x : Operand) (ho : o.op = .convert src dst x) (hs : P.underlying src = some .string) (hd : P.underlying dst = some (.slice e)) (he : P.underlying e = some (.int .u8))
    (s : ByteArray) (xs : List Int) (hx : a.eval x = .string s) (hr : convOf s = some xs)
    (h : ∀ v w2, Kd.V (Kd.int .u8) e w2 W.heap.size (fun k_ => W.heap.size ≤ k_) v xs → Below W.heap.size W w2 → Kc (a.put o.dst v) w2) : if Region.wanted o (yielded ops a.tmps) = true then Oper.wp P o a W Kc Q else Kc (a.put o.dst undef) W := by
  unfold convOf at hr
  split at hr
  · injection hr with hr
    subst hr
    exact event_step hw (conv_run src dst e x ho hs hd he s hx) (h _ _ (conv_V W e s (by assumption)) (bytesWorld_below W e s))
  · cases hr
theorem litb_goes {W : World} (hgd : o.guard = none) (t e : TypeId) (x : Operand) (ho : o.op = .convert t t x) (hd : P.underlying t = some (.slice e)) (he : P.underlying e = some (.int .u8))
    (xs ys : List Int) (n : Nat) (cs : List Value) (hx : a.eval x = .slice (some ⟨W.heap.size, 0, none⟩) n n) (hn : n = xs.length) (hc : cs = xs.map (Value.int .u8)) (hm : xs.length ≤ 9223372036854775807) (hr : some xs = some ys)
    (h : ∀ v w2, Kd.V (Kd.int .u8) e w2 W.heap.size (fun k_ => W.heap.size ≤ k_) v ys → Below W.heap.size W w2 → wpList P ops Q rest (a.put o.dst v) w2) : wpList P ops Q (o :: rest) a (W.alloc (.cells cs.toArray e)) := by
  injection hr with hr
  subst hr
  subst hn
  have hx2 := Lib.run_convert_bytes_const (P := P) W t e cs.toArray xs.length xs.length hd he
  have hrun : (execOp a.eval o).run P (W.alloc (.cells cs.toArray e)) = .ok (.value (.slice (some ⟨W.heap.size, 0, none⟩) xs.length xs.length)) (W.alloc (.cells cs.toArray e (cs.toArray.size, cs.toArray.size + 1))) := by
    simp [execOp, ho, hx, hx2]
  exact Kd.event_run hgd hrun (h _ _ (litb_V W e xs cs hc hm _) ((Below.refl _ _).alloc (Nat.le_refl _) _))
end
end Go.Proofs.Ytieodkghfceflaa.Opening
namespace Go.Proofs.YtieodkghfceflaaW.PrintWords.Kd
open Go.RowKit
theorem F_block {α : Type} {d : Kd α} {W : World} {ok : Nat → Prop} {ad : Addr} {n : Nat} {xs : List α} (h : F d W ok (some ad) n xs) (hn : 0 < n) (hsz : 0 < d.sz) : ok ad.block := by
  refine Classical.byContradiction fun hno => ?_
  have h2 := h { W with heap := W.heap.setIfInBounds ad.block (.map #[] 0) } (fun k hk _ => by
    have hne : ad.block ≠ k := fun e => hno (e ▸ hk)
    simp [Array.getElem?_setIfInBounds, hne])
  obtain ⟨hl, _, hc⟩ := h2
  obtain ⟨ad', he, hc⟩ := hc hn
  injection he with he
  subst he
  obtain ⟨c, hcl, _, hcell⟩ := hc 0 (xs[0]'(by omega)) (List.getElem?_eq_getElem (by omega))
  have h3 := hcell 0 (c[0]'(by omega)) (List.getElem?_eq_getElem (by omega))
  have hb : (ad.add (0 * d.sz + 0)).block = ad.block := by unfold Addr.add; split <;> rfl
  unfold World.cell? at h3
  rw [hb] at h3
  simp only [Array.getElem?_setIfInBounds] at h3
  by_cases hlt : ad.block < W.heap.size
  · simp [hlt] at h3
  · simp [hlt] at h3
theorem V_away {α : Type} {d : Kd α} {e base g : Nat} {W : World} {ok : Nat → Prop} {v : Value} {xs : List α} (h : V d e W base ok v xs) (hok : ∀ k, ok k → k ≠ g) (hsz : 0 < d.sz := by decide)
    (hn : 0 < xs.length := by first | omega | assumption | (simp only [decide_eq_true_eq, decide_eq_false_iff_not, eq_iff_iff, iff_true] at *; omega)) : some g ≠ v.ownBlock := by
  obtain ⟨A, c, rfl, _, hf⟩ := h
  cases A with
  | none => simp [Value.ownBlock]
  | some ad =>
    intro he
    have : g = ad.block := by simpa [Value.ownBlock] using he
    exact hok _ (F_block hf hn hsz) this.symm
end Go.Proofs.YtieodkghfceflaaW.PrintWords.Kd
