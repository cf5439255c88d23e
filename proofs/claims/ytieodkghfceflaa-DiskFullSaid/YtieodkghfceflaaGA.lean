/- A map of files: names to rows of bytes, told as a rising list. A disk as a state: its cells, its map of files; the functions that change no file. A disk: is a file there; may the next raw write be done. A map of files: a store and a cut. Functions of the library at this program: laid off the shelf, in plain words. slices.Grow and slices.Concat of two rows of bytes, by hand. A disk: the names of its files. bytes.Join of one or two parts. A disk: a file has bytes. A disk: lay. A disk: Put, Append, Trim, Rename, Remove. A disk: Trim, Rename, Remove. A disk: Trim, Read. A disk: New, Read, Clone. A disk: Spoil. No condition. -/
import Derived.Test.YtieodkghfceflaaMDx0
import Derived.Test.YtieodkghfceflaaAidMap
import Derived.Test.YtieodkghfceflaaWAt
import Derived.StringKeys
import Derived.BigRegion
import Derived.RegionTactic
import Derived.StillTailTactics
import Derived.Deep.RegionLaw
import Derived.Shelf.Abstract
import Derived.Test.YtieodkghfceflaaMDx1
import Derived.Shelf.Bytes.SlJoin
import Derived.Test.YtieodkghfceflaaProg
import Derived.Shelf.SlIter.Nil
import Derived.Shelf.SortM.Plain
import Derived.Shelf.SortM.SortNone
import Derived.Shelf.SlMaps.Clone
import Derived.Lib.AppendZerosOnto
import Derived.LoopN
import Derived.Laws.Closers25b
set_option linter.unusedVariables false
set_option linter.unusedSimpArgs false
namespace Go.Proofs.Ytieodkghfceflaa.MD
open Go.Proofs.Ytieodkghfceflaa.Opening
open Go.Maps Go.RowKit Go.Proofs.YtieodkghfceflaaW.PrintWords Go.Proofs.YtieodkghfceflaaW.PrintLast Go.Proofs.YtieodkghfceflaaW.PrintMore
theorem law9 : Keyed Try.prog 9 := string_keyed Try.underlying9
theorem zero27 (w : World) : (zeroValue 27).run Try.prog w = .ok (.slice none 0 0) w := by kernel_rfl
theorem key9 {s : ByteArray} (hs : s.size ≤ 140737488355328) : keyOf Try.prog 9 (.string s) = some (.string s.data.toList) := WideMaps.keyOf_string_mk Try.underlying9 (by unfold maxLen; omega)
abbrev kB (x : ByteArray) : List UInt8 := x.data.toList
theorem kB_inj {x y : ByteArray} (h : kB x = kB y) : x = y := by
  cases x; cases y
  simp only [kB] at h
  rw [Array.toList_inj] at h
  rw [h]
theorem kB_ltirr (a : List UInt8) : ¬ a < a := List.lt_irrefl a
/-- A row of bytes that is never changed, in a block of O. -/
def BRow (W : World) (O : Nat → Prop) (v : Value) (s : List Int) : Prop :=
  ∃ A c, v = .slice A s.length c ∧ s.length ≤ c ∧ Kd.C (Kd.int .u8) W A s.length s ∧ ∀ ad, A = some ad → 0 < s.length → O ad.block ∧ ad.block < W.heap.size
theorem BRow.nil (W : World) (O : Nat → Prop) : BRow W O (.slice none 0 0) [] := ⟨none, 0, rfl, Nat.le_refl _, Kd.C_nil _ W, fun ad h => by cases h⟩
theorem BRow.kept {W W' : World} {O S : Nat → Prop} {v : Value} {s : List Int} (h : BRow W O v s) (hk : Kept W W' S) (hne : ∀ k, O k → ¬ S k) : BRow W' O v s := by
  obtain ⟨A, c, rfl, hc, hC, ht⟩ := h
  refine ⟨A, c, rfl, hc, Kd.C_foot_neS (fun h => h) hC (fun ad ha hn => hne _ (ht ad ha hn).1) W' hk, fun ad ha hp => ⟨(ht ad ha hp).1, Nat.lt_of_lt_of_le (ht ad ha hp).2 hk.1⟩⟩
theorem BRow.mono {W : World} {O O' : Nat → Prop} {v : Value} {s : List Int} (h : BRow W O v s) (ho : ∀ k, O k → O' k) : BRow W O' v s := by
  obtain ⟨A, c, h1, h2, h3, h4⟩ := h
  exact ⟨A, c, h1, h2, h3, fun ad ha hp => ⟨ho _ (h4 ad ha hp).1, (h4 ad ha hp).2⟩⟩
theorem BRow.of_R {W : World} {base : Nat} {ok : Nat → Prop} {v : Value} {s : List Int} (h : Kd.R (Kd.int .u8) 5 W base ok v s) (O : Nat → Prop) : BRow W (fun k => O k ∨ v.ownBlock = some k) v s := by
  have hlt := Kd.R_lt h
  obtain ⟨A, c, he, hl, hr⟩ := Kd.R_reads h
  subst he
  exact ⟨A, c, rfl, by omega, hr, fun ad ha hp => by subst ha; exact ⟨Or.inr rfl, hlt _ rfl⟩⟩
/-- Block b is a map of just these files. -/
structure FilesAt (W : World) (O : Nat → Prop) (b : Nat) (l : List S76) : Prop where
  rise : l.Pairwise fun x y => kB x.f0 < kB y.f0
  map : ∃ D : DataW Value, W.ownsMap Try.prog 9 rawR b l.length D ∧ size D = l.length ∧ (∀ kl, has D kl = true ↔ ∃ x ∈ l, kl = .string (kB x.f0)) ∧ ∀ x ∈ l, ∃ v, (∀ z, D.atKey (.string (kB x.f0)) z = .held v) ∧ BRow W O v (bytesOf x.f1)
theorem ownsMap_tight {W : World} {b n : Nat} {D : DataW Value} (h : W.ownsMap Try.prog 9 rawR b n D) : W.ownsMap Try.prog 9 rawR b (size D) D := by
  obtain ⟨es, clock, hb, F, _, rfl⟩ := h
  exact ⟨es, clock, hb, F, by simp [size, length_sorted], rfl⟩
section
variable {W W' : World} {O S : Nat → Prop} {b : Nat} {l : List S76}
theorem FilesAt.lt (h : FilesAt W O b l) : b < W.heap.size := by
  obtain ⟨_, D, hD, _⟩ := h
  exact hD.lt
theorem FilesAt.kept (h : FilesAt W O b l) (hk : Kept W W' S) (hb : ¬ S b) (hne : ∀ k, O k → ¬ S k) : FilesAt W' O b l := by
  obtain ⟨h1, D, ⟨es, clock, g1, g2⟩, h3, h4, h5⟩ := h
  refine ⟨h1, D, ⟨es, clock, blk_kept g1 hk hb, g2⟩, h3, h4, fun x hx => ?_⟩
  obtain ⟨v, e1, e2⟩ := h5 x hx
  exact ⟨v, e1, e2.kept hk hne⟩
theorem FilesAt.below (h : FilesAt W O b l) (hb : Below W.heap.size W W') : FilesAt W' O b l := h.kept (S := fun _ => False) (Kept.of_below hb _) (fun h => h) (fun _ _ h => h)
theorem FilesAt.mono (h : FilesAt W O b l) {O' : Nat → Prop} (ho : ∀ k, O k → O' k) : FilesAt W O' b l := by
  obtain ⟨h1, D, h2, h3, h4, h5⟩ := h
  refine ⟨h1, D, h2, h3, h4, fun x hx => ?_⟩
  obtain ⟨v, e1, e2⟩ := h5 x hx
  exact ⟨v, e1, e2.mono ho⟩
theorem FilesAt.made (w : World) (O : Nat → Prop) : FilesAt (w.alloc (.map #[] 0)) O w.heap.size [] :=
  ⟨List.Pairwise.nil, .map [], World.ownsMap_made w Try.prog 9 rawR, rfl, fun kl => by simp [has], fun x hx => by simp at hx⟩
theorem FilesAt.ne_cells (h : FilesAt W O b l) {g : Nat} {cs : Array Value} {t : TypeId} {o : Nat × Nat} (hb : W.heap[g]? = some (.cells cs t o)) : g ≠ b := by
  rintro rfl
  obtain ⟨_, D, ⟨es, clock, h1, _⟩, _⟩ := h
  rw [hb] at h1
  cases h1
/-- The bytes of a file. -/
def fileOf (l : List S76) (p : ByteArray) : Option (List Int) := (l.find? fun x => decide (kB x.f0 = kB p)).map fun x => bytesOf x.f1
theorem fileOf_none {l : List S76} {p : ByteArray} : fileOf l p = none ↔ ∀ x ∈ l, kB x.f0 ≠ kB p := by
  unfold fileOf
  simp
theorem FilesAt.get (h : FilesAt W O b l) {p : ByteArray} {s : List Int} (hs : fileOf l p = some s) : ∃ v, BRow W O v s ∧ ∃ D : DataW Value, W.ownsMap Try.prog 9 rawR b l.length D ∧ has D (.string (kB p)) = true ∧ ∀ z, D.atKey (.string (kB p)) z = .held v := by
  obtain ⟨_, D, h2, h3, h4, h5⟩ := h
  unfold fileOf at hs
  obtain ⟨x, hx, rfl⟩ := Option.map_eq_some_iff.mp hs
  have hm := List.mem_of_find?_eq_some hx
  have hk : kB x.f0 = kB p := by simpa using List.find?_some hx
  obtain ⟨v, e1, e2⟩ := h5 x hm
  exact ⟨v, e2, D, h2, (h4 _).mpr ⟨x, hm, by rw [hk]⟩, fun z => by rw [← hk]; exact e1 z⟩
/-- 'v, ok := files[p]'. -/
theorem FilesAt.look_ok (h : FilesAt W O b l) {p : ByteArray} (hp : p.size ≤ 140737488355328) : ∃ v, (Instr.lookup 54 (.map (some b)) (.string p) true).run Try.prog W = .ok (.tuple #[v, .bool (fileOf l p).isSome]) W ∧ BRow W O v ((fileOf l p).getD []) := by
  cases hf : fileOf l p with
  | some s =>
    obtain ⟨v, hv, D, hD, hh, ha⟩ := h.get hf
    obtain ⟨v', ps, hrun, hR⟩ := hD.look_ok law9 Try.underlying54 (zero27 W) (zd := .held (.slice none 0 0)) (zp := []) rfl (key9 hp)
    rw [ha] at hR
    injection hR with hR
    injection hR with hR _
    injection hR with hR
    exact ⟨v, by rw [hrun, hR, hh]; rfl, hv⟩
  | none =>
    obtain ⟨_, D, hD, h3, h4, h5⟩ := h
    have hh : has D (.string (kB p)) = false := by
      cases hx : has D (.string (kB p))
      · rfl
      · obtain ⟨x, hx, e⟩ := (h4 _).mp hx
        exact absurd (by injection e with e; exact e.symm) (fileOf_none.mp hf x hx)
    obtain ⟨v', ps, hrun, hR⟩ := hD.look_ok law9 Try.underlying54 (zero27 W) (zd := .held (.slice none 0 0)) (zp := []) rfl (key9 hp)
    rw [atKey_of_not_has hh] at hR
    injection hR with hR
    injection hR with hR _
    injection hR with hR
    exact ⟨.slice none 0 0, by rw [hrun, hR, hh]; rfl, BRow.nil W O⟩
theorem FilesAt.look (h : FilesAt W O b l) {p : ByteArray} (hp : p.size ≤ 140737488355328) : ∃ v, (Instr.lookup 54 (.map (some b)) (.string p) false).run Try.prog W = .ok v W ∧ BRow W O v ((fileOf l p).getD []) := by
  cases hf : fileOf l p with
  | some s =>
    obtain ⟨v, hv, D, hD, hh, ha⟩ := h.get hf
    obtain ⟨v', ps, hrun, hR⟩ := hD.lookup law9 Try.underlying54 (zero27 W) (zd := .held (.slice none 0 0)) (zp := []) rfl (key9 hp)
    rw [ha] at hR
    injection hR with hR
    injection hR with hR _
    injection hR with hR
    exact ⟨v, by rw [hrun, hR], hv⟩
  | none =>
    obtain ⟨_, D, hD, h3, h4, h5⟩ := h
    have hh : has D (.string (kB p)) = false := by
      cases hx : has D (.string (kB p))
      · rfl
      · obtain ⟨x, hx, e⟩ := (h4 _).mp hx
        exact absurd (by injection e with e; exact e.symm) (fileOf_none.mp hf x hx)
    obtain ⟨v', ps, hrun, hR⟩ := hD.lookup law9 Try.underlying54 (zero27 W) (zd := .held (.slice none 0 0)) (zp := []) rfl (key9 hp)
    rw [atKey_of_not_has hh] at hR
    injection hR with hR
    injection hR with hR _
    injection hR with hR
    exact ⟨.slice none 0 0, by rw [hrun, hR], BRow.nil W O⟩
theorem FilesAt.len (h : FilesAt W O b l) (ty : TypeId) : (Builtin.len_ #[54] ty #[.map (some b)]).run Try.prog W = .ok (.int .i64 (l.length : Nat)) W := by
  obtain ⟨_, D, hD, h3, _⟩ := h
  rw [hD.len Try.underlying54, h3]
end
end Go.Proofs.Ytieodkghfceflaa.MD
namespace Go.Proofs.Ytieodkghfceflaa.MD
open Go.Proofs.Ytieodkghfceflaa.Opening
open Go.RowKit Go.Proofs.YtieodkghfceflaaW.PrintWords Go.Proofs.YtieodkghfceflaaW.PrintLast Go.Proofs.YtieodkghfceflaaW.PrintMore
/-- What a disk is. -/
structure DS where
  files : List S76
  writes : Int
  armed : Bool
  after : Int
  keep : Int
  dead : Bool
def DS.cells (m : DS) (mb : Nat) : Array Value := #[.map (some mb), .int .i64 m.writes, .bool m.armed, .int .i64 m.after, .int .i64 m.keep, .bool m.dead]
structure IsD (W : World) (B : Nat) (O : Nat → Prop) (d mb : Nat) (m : DS) : Prop where
  blk : W.heap[d]? = some (.cells #[.map (some mb), .int .i64 m.writes, .bool m.armed, .int .i64 m.after, .int .i64 m.keep, .bool m.dead] 56 (0, 0))
  files : FilesAt W O mb m.files
  ne : ¬ O d ∧ ¬ O mb
  base : B ≤ d ∧ B ≤ mb
  rows : ∀ k, O k → B ≤ k ∧ k < W.heap.size
section
variable {W W' : World} {B d mb : Nat} {O S : Nat → Prop} {m m' : DS}
theorem IsD.kept (h : IsD W B O d mb m) (hk : Kept W W' S) (h1 : ¬ S d) (h2 : ¬ S mb) (h3 : ∀ k, O k → ¬ S k) : IsD W' B O d mb m :=
  ⟨blk_kept h.blk hk h1, h.files.kept hk h2 h3, h.ne, h.base, fun k hO => ⟨(h.rows k hO).1, Nat.lt_of_lt_of_le (h.rows k hO).2 hk.1⟩⟩
theorem IsD.below (h : IsD W B O d mb m) (hb : Below W.heap.size W W') : IsD W' B O d mb m := h.kept (S := fun _ => False) (Kept.of_below hb _) (fun h => h) (fun h => h) (fun _ _ h => h)
theorem IsD.drewN (h : IsD W B O d mb m) (n : Nat) : IsD (W.drewN n) B O d mb m := h.below (pw_below_drewN (Below.refl _ _) n)
theorem IsD.drew (h : IsD W B O d mb m) : IsD W.drew B O d mb m := h.below (below_drew (Below.refl _ _))
theorem IsD.ne_mb (h : IsD W B O d mb m) : d ≠ mb := h.files.ne_cells h.blk
/-- The disk's own cells have been written. -/
theorem IsD.upd (h : IsD W B O d mb m) (hk : Kept W W' (fun k => k = d)) (hb : W'.heap[d]? = some (.cells #[.map (some mb), .int .i64 m'.writes, .bool m'.armed, .int .i64 m'.after, .int .i64 m'.keep, .bool m'.dead] 56 (0, 0))) (hf : m'.files = m.files) : IsD W' B O d mb m' :=
  ⟨hb, by rw [hf]; exact h.files.kept hk (fun e => h.ne_mb e.symm) (fun k hO e => h.ne.1 (e ▸ hO)), h.ne, h.base, fun k hO => ⟨(h.rows k hO).1, Nat.lt_of_lt_of_le (h.rows k hO).2 hk.1⟩⟩
theorem IsD.c0 (h : IsD W B O d mb m) : W.cell? ⟨d, 0, none⟩ = some (.map (some mb)) := (blk_cell h.blk 0).trans rfl
theorem IsD.c1 (h : IsD W B O d mb m) : W.cell? ⟨d, 1, none⟩ = some (.int .i64 m.writes) := (blk_cell h.blk 1).trans rfl
theorem IsD.c2 (h : IsD W B O d mb m) : W.cell? ⟨d, 2, none⟩ = some (.bool m.armed) := (blk_cell h.blk 2).trans rfl
theorem IsD.c3 (h : IsD W B O d mb m) : W.cell? ⟨d, 3, none⟩ = some (.int .i64 m.after) := (blk_cell h.blk 3).trans rfl
theorem IsD.c4 (h : IsD W B O d mb m) : W.cell? ⟨d, 4, none⟩ = some (.int .i64 m.keep) := (blk_cell h.blk 4).trans rfl
theorem IsD.c5 (h : IsD W B O d mb m) : W.cell? ⟨d, 5, none⟩ = some (.bool m.dead) := (blk_cell h.blk 5).trans rfl
theorem IsD.fr (h : IsD W B O d mb m) (i : Nat) : W.frozen? ⟨d, i, none⟩ = false := blk_frozen h.blk i
theorem kept_set {W W0 : World} {d : Nat} (hk : Kept W0 W (fun k => k = d)) (i : Nat) (u : Value) : Kept W0 (W.setCell ⟨d, i, none⟩ u) (fun k => k = d) := hk.setCell (p := ⟨d, i, none⟩) (Or.inl rfl) u
end
/-- Behind a call: the disk has become m'. -/
def After (w w' : World) (B : Nat) (O : Nat → Prop) (d mb : Nat) (m' : DS) : Prop :=
  ∃ O', IsD w' B O' d mb m' ∧ (∀ k, O' k → O k ∨ w.heap.size ≤ k) ∧ Kept w w' (fun k => k = d ∨ k = mb) ∧ Below B w w'
theorem After.same {w : World} {B d mb : Nat} {O : Nat → Prop} {m : DS} (h : IsD w B O d mb m) : After w w B O d mb m := ⟨O, h, fun k hk => Or.inl hk, Kept.refl _ _, Below.refl _ _⟩
theorem dead_calls (w : World) {B d mb : Nat} {O : Nat → Prop} {m : DS} (h : IsD w B O d mb m) : Calls Try.prog 21 #[.pointer (some ⟨d, 0, none⟩)] w fun e w' => e = .returned (.bool m.dead) ∧ w' = w := by
  have h5 := h.c5
  go_enter Try.func21, Try.ntmps21
  go_wp2
  go_ret
  exact ⟨rfl, rfl⟩
theorem writes_calls (w : World) {B d mb : Nat} {O : Nat → Prop} {m : DS} (h : IsD w B O d mb m) : Calls Try.prog 23 #[.pointer (some ⟨d, 0, none⟩)] w fun e w' => e = .returned (.int .i64 m.writes) ∧ w' = w := by
  have h1 := h.c1
  go_enter Try.func23, Try.ntmps23
  go_wp2
  go_ret
  exact ⟨rfl, rfl⟩
theorem restart_calls (w : World) {B d mb : Nat} {O : Nat → Prop} {m : DS} (h : IsD w B O d mb m) : Calls Try.prog 18 #[.pointer (some ⟨d, 0, none⟩)] w fun e w' => e = .returned (.tuple #[]) ∧ After w w' B O d mb { m with dead := false, armed := false } := by
  have H := Aside0.mk h
  have h5 := h.c5
  have f5 := h.fr 5
  have h2 := h.c2
  have f2 := h.fr 2
  clear h
  go_enter Try.func18, Try.ntmps18
  go_wp2
  go_end0
  have hk : Kept w ((w.setCell ⟨d, 5, none⟩ (.bool false)).setCell ⟨d, 2, none⟩ (.bool false)) (fun k => k = d) := kept_set (kept_set (Kept.refl _ _) _ _) _ _
  refine ⟨rfl, O, H.out.upd hk ?_ rfl, fun k hk => Or.inl hk, hk.mono (fun k e => Or.inl e), (((Below.refl _ _).setCell (p := ⟨d, 5, none⟩) H.out.base.1 _).setCell (p := ⟨d, 2, none⟩) H.out.base.1 _)⟩
  have b1 := blk_set H.out.blk 5 (.bool false)
  have b2 := blk_set b1 2 (.bool false)
  simpa using b2
def cutD (m : DS) (a k : Int) : DS × Int := if a < 0 ∨ k < 0 then (m, 3) else if m.dead = true then (m, 8) else ({ m with armed := true, after := a, keep := k }, 0)
theorem cut_calls (w : World) {B d mb : Nat} {O : Nat → Prop} {m : DS} (h : IsD w B O d mb m) (a k : Int) : Calls Try.prog 19 #[.pointer (some ⟨d, 0, none⟩), .int .i64 a, .int .i64 k] w fun e w' => e = .returned (.int .i64 (cutD m a k).2) ∧ After w w' B O d mb (cutD m a k).1 := by
  have H := Aside0.mk h
  have h5 := h.c5
  have h2 := h.c2
  have f2 := h.fr 2
  have h3 := h.c3
  have f3 := h.fr 3
  have h4 := h.c4
  have f4 := h.fr 4
  clear h
  unfold cutD
  by_cases c1 : a < 0
  · have b1 : decide (a < 0) = true := decide_eq_true c1
    rw [if_pos (Or.inl c1)]
    clear c1
    go_enter Try.func19, Try.ntmps19
    go_wp2
    go_ret
    exact ⟨rfl, After.same H.out⟩
  · have b1 : decide (a < 0) = false := decide_eq_false c1
    by_cases c2 : k < 0
    · have b2 : decide (k < 0) = true := decide_eq_true c2
      rw [if_pos (Or.inr c2)]
      clear c1 c2
      go_enter Try.func19, Try.ntmps19
      go_wp2
      go_ret
      exact ⟨rfl, After.same H.out⟩
    · have b2 : decide (k < 0) = false := decide_eq_false c2
      rw [if_neg (by omega)]
      clear c1 c2
      cases hd : m.dead with
      | true =>
        rw [hd] at h5
        rw [if_pos rfl]
        clear hd
        go_enter Try.func19, Try.ntmps19
        go_wp2
        go_ret
        exact ⟨rfl, After.same H.out⟩
      | false =>
        have HD := Aside0.mk hd
        rw [hd] at h5
        rw [if_neg (by simp)]
        clear hd
        go_enter Try.func19, Try.ntmps19
        go_wp2
        go_ret
        have hk : Kept w (((w.setCell ⟨d, 2, none⟩ (.bool true)).setCell ⟨d, 3, none⟩ (.int .i64 a)).setCell ⟨d, 4, none⟩ (.int .i64 k)) (fun k => k = d) := kept_set (kept_set (kept_set (Kept.refl _ _) _ _) _ _) _ _
        refine ⟨rfl, O, H.out.upd hk ?_ rfl, fun k hk => Or.inl hk, hk.mono (fun k e => Or.inl e), ((((Below.refl _ _).setCell (p := ⟨d, 2, none⟩) H.out.base.1 _).setCell (p := ⟨d, 3, none⟩) H.out.base.1 _).setCell (p := ⟨d, 4, none⟩) H.out.base.1 _)⟩
        have b1 := blk_set H.out.blk 2 (.bool true)
        have b2 := blk_set b1 3 (.int .i64 a)
        have b3 := blk_set b2 4 (.int .i64 k)
        rw [HD.out] at b3
        simpa [HD.out] using b3
end Go.Proofs.Ytieodkghfceflaa.MD
namespace Go.Proofs.Ytieodkghfceflaa.MD
open Go.Proofs.Ytieodkghfceflaa.Opening
open Go.RowKit Go.Proofs.YtieodkghfceflaaW.PrintWords Go.Proofs.YtieodkghfceflaaW.PrintLast Go.Proofs.YtieodkghfceflaaW.PrintMore
def thereD (c : Int) (m : DS) (p : ByteArray) : Int := if c ≠ 0 then c else if (fileOf m.files p).isSome = true then 0 else 5
set_option maxRecDepth 100000 in
set_option maxHeartbeats 4000000 in
theorem there_calls (k : Nat) (w : World) {B d mb : Nat} {O : Nat → Prop} {m : DS} (h : IsD w B O d mb m) (p : ByteArray) (hp : p.size ≤ 140737488355328) (c : Int) (hc : path_Name.f k p = some c) :
    Calls Try.prog 28 #[.pointer (some ⟨d, 0, none⟩), .string p] w fun e w' => e = .returned (.int .i64 (thereD c m p)) ∧ Below w.heap.size w w' := by
  have H := Aside0.mk h
  have HC := Aside0.mk hc
  have HP := Aside0.mk hp
  clear h hc hp
  unfold thereD
  by_cases h0 : c = 0
  · have hq : (c != 0) = false := by simpa using h0
    rw [if_neg (by simpa using h0)]
    clear h0
    cases hf : fileOf m.files p with
    | none =>
      have HF := Aside0.mk hf
      clear hf
      go_enter Try.func28, Try.ntmps28
      go_wp2_with (go_at_call 24; refine (path_Name.calls k p c w HC.out).mono ?_; rintro e w1 ⟨rfl, hb⟩; have HB := Aside0.mk hb.below; clear hb; have H1 := Aside0.mk (H.out.below HB.out); have h0 := H1.out.c0; obtain ⟨v, hrun, hv⟩ := H1.out.files.look_ok HP.out; rw [HF.out] at hrun; simp only [Option.isSome_none] at hrun; clear hv)
      go_ret
      exact ⟨rfl, HB.out⟩
    | some s =>
      have HF := Aside0.mk hf
      clear hf
      go_enter Try.func28, Try.ntmps28
      go_wp2_with (go_at_call 24; refine (path_Name.calls k p c w HC.out).mono ?_; rintro e w1 ⟨rfl, hb⟩; have HB := Aside0.mk hb.below; clear hb; have H1 := Aside0.mk (H.out.below HB.out); have h0 := H1.out.c0; obtain ⟨v, hrun, hv⟩ := H1.out.files.look_ok HP.out; rw [HF.out] at hrun; simp only [Option.isSome_some] at hrun; clear hv)
      go_ret
      exact ⟨rfl, HB.out⟩
  · have hq : (c != 0) = true := by simpa using h0
    rw [if_pos (by simpa using h0)]
    clear h0
    go_enter Try.func28, Try.ntmps28
    go_wp2_with (go_at_call 24; refine (path_Name.calls k p c w HC.out).mono ?_; rintro e w1 ⟨rfl, hb⟩; have HB := Aside0.mk hb.below; clear hb)
    go_ret
    exact ⟨rfl, HB.out⟩
/-- The disk behind a raw write that is done. -/
def nextD (m : DS) : DS := { m with writes := m.writes + 1, after := if m.armed = true then m.after - 1 else m.after }
set_option maxRecDepth 100000 in
set_option maxHeartbeats 4000000 in
theorem begin_dead (w : World) {B d mb : Nat} {O : Nat → Prop} {m : DS} (h : IsD w B O d mb m) (f : Value) (hd : m.dead = true) : Calls Try.prog 29 #[.pointer (some ⟨d, 0, none⟩), f] w fun e w' => e = .returned (.bool false) ∧ w' = w := by
  have h5 := h.c5
  rw [hd] at h5
  clear hd h
  go_enter Try.func29, Try.ntmps29
  go_wp2
  go_ret
  exact ⟨rfl, rfl⟩
set_option maxRecDepth 100000 in
set_option maxHeartbeats 4000000 in
theorem begin_torn (w : World) {B d mb : Nat} {O : Nat → Prop} {m : DS} (h : IsD w B O d mb m) (F : Nat) (cap : Array Value) (eF : ∀ args w, (callFunc F args).run Try.prog w = .ok (.enter F args) w) (hd : m.dead = false) (ha : m.armed = true) (h0 : m.after = 0)
    (T : World → Prop) (hT : ∀ W, IsD W B O d mb { m with dead := true, armed := false } → Kept w W (fun k => k = d) → Below B w W → Calls Try.prog F cap W fun e w' => e = .returned (.tuple #[]) ∧ T w') :
    Calls Try.prog 29 #[.pointer (some ⟨d, 0, none⟩), .func (.func F) #[] cap] w fun e w' => e = .returned (.bool false) ∧ T w' := by
  have H := Aside0.mk h
  have HT := Aside0.mk hT
  have h5 := h.c5
  have h2 := h.c2
  have h3 := h.c3
  have f5 := h.fr 5
  have f2 := h.fr 2
  rw [hd] at h5
  rw [ha] at h2
  rw [h0] at h3
  obtain ⟨w1, hw1⟩ : ∃ w1, (w.setCell ⟨d, 5, none⟩ (.bool true)).setCell ⟨d, 2, none⟩ (.bool false) = w1 := ⟨_, rfl⟩
  have hk : Kept w w1 (fun k => k = d) := by rw [← hw1]; exact kept_set (kept_set (Kept.refl _ _) _ _) _ _
  have hB : Below B w w1 := by rw [← hw1]; exact ((Below.refl _ _).setCell (p := ⟨d, 5, none⟩) h.base.1 _).setCell (p := ⟨d, 2, none⟩) h.base.1 _
  have h1 : IsD w1 B O d mb { m with dead := true, armed := false } := by
    refine h.upd hk ?_ rfl
    rw [← hw1]
    have b1 := blk_set h.blk 5 (.bool true)
    have b2 := blk_set b1 2 (.bool false)
    simpa using b2
  have HC := Aside0.mk (hT w1 h1 hk hB)
  clear h hT hd ha h0 hk hB h1
  go_enter Try.func29, Try.ntmps29
  go_wp2_with (go_at_fn F; refine HC.out.mono ?_; rintro e w2 ⟨rfl, hT⟩; have HT2 := Aside0.mk hT; clear hT)
  go_ret
  exact ⟨rfl, HT2.out⟩
set_option maxRecDepth 100000 in
set_option maxHeartbeats 4000000 in
theorem begin_done (w : World) {B d mb : Nat} {O : Nat → Prop} {m : DS} (h : IsD w B O d mb m) (f : Value) (hd : m.dead = false) (ha : m.armed = true → m.after ≠ 0) (hr : m.armed = true → 0 ≤ m.after) (hw : 0 ≤ m.writes ∧ m.writes ≤ 1000000000) (hr2 : m.after ≤ 9223372036854775807) :
    Calls Try.prog 29 #[.pointer (some ⟨d, 0, none⟩), f] w fun e w' => e = .returned (.bool true) ∧ IsD w' B O d mb (nextD m) ∧ Kept w w' (fun k => k = d) ∧ Below B w w' := by
  have H := Aside0.mk h
  have h1 := h.c1
  have f1 := h.fr 1
  have h5 := h.c5
  have h2 := h.c2
  have h3 := h.c3
  have f3 := h.fr 3
  rw [hd] at h5
  have HD := Aside0.mk hd
  have e1 : IntKind.i64.wrap (m.writes + 1) = m.writes + 1 := by rw [i64_w]; unfold wrap64; omega
  cases hm : m.armed with
  | false =>
    rw [hm] at h2
    have HM := Aside0.mk hm
    clear h hd ha hr hw hm hr2
    go_enter Try.func29, Try.ntmps29
    go_wp2
    go_ret
    refine ⟨rfl, ?_, kept_set (Kept.refl _ _) _ _, (Below.refl _ _).setCell (p := ⟨d, 1, none⟩) H.out.base.1 _⟩
    refine H.out.upd (kept_set (Kept.refl _ _) _ _) ?_ rfl
    have b1 := blk_set H.out.blk 1 (.int .i64 (m.writes + 1))
    simpa [nextD, HM.out] using b1
  | true =>
    rw [hm] at h2
    have HM := Aside0.mk hm
    have ha' := ha hm
    have hr' := hr hm
    have q0 : (m.after == 0) = false := by simpa using ha'
    have e3 : IntKind.i64.wrap (m.after - 1) = m.after - 1 := by rw [i64_w]; unfold wrap64; omega
    clear h hd ha hr hw hm hr2 ha' hr'
    go_enter Try.func29, Try.ntmps29
    go_wp2
    go_ret
    have hk : Kept w ((w.setCell ⟨d, 3, none⟩ (.int .i64 (m.after - 1))).setCell ⟨d, 1, none⟩ (.int .i64 (m.writes + 1))) (fun k => k = d) := kept_set (kept_set (Kept.refl _ _) _ _) _ _
    refine ⟨rfl, H.out.upd hk ?_ rfl, hk, ((Below.refl _ _).setCell (p := ⟨d, 3, none⟩) H.out.base.1 _).setCell (p := ⟨d, 1, none⟩) H.out.base.1 _⟩
    have b1 := blk_set H.out.blk 3 (.int .i64 (m.after - 1))
    have b2 := blk_set b1 1 (.int .i64 (m.writes + 1))
    simpa [nextD, HM.out] using b2
end Go.Proofs.Ytieodkghfceflaa.MD
namespace Go.Proofs.Ytieodkghfceflaa.MD
open Go.Proofs.Ytieodkghfceflaa.Opening
open Go.Maps Go.RowKit Go.Proofs.YtieodkghfceflaaW.PrintWords Go.Proofs.YtieodkghfceflaaW.PrintLast Go.Proofs.YtieodkghfceflaaW.PrintMore
theorem lit_inj {a b : List UInt8} (h : Lit.string a = Lit.string b) : a = b := by injection h
/-- A rising list with a file. -/
def putF : List S76 → S76 → List S76
  | [], f => [f]
  | x :: l, f => if kB f.f0 < kB x.f0 then f :: x :: l else if kB f.f0 = kB x.f0 then f :: l else x :: putF l f
/-- A list without a file. -/
def dropF (l : List S76) (p : ByteArray) : List S76 := l.filter fun x => !decide (kB x.f0 = kB p)
abbrev Rise (l : List S76) : Prop := l.Pairwise fun x y => kB x.f0 < kB y.f0
theorem kB_tri (a b : List UInt8) (h1 : ¬ a < b) (h2 : ¬ a = b) : b < a := by
  rcases Std.lt_trichotomy a b with h | h | h
  · exact absurd h h1
  · exact absurd h h2
  · exact h
theorem kB_trans {a b c : List UInt8} (h : a < b) (k : b < c) : a < c := List.lt_trans h k
theorem kB_ne {a b : List UInt8} (h : a < b) : a ≠ b := fun e => kB_ltirr _ (e ▸ h)
theorem kB_asymm {a b : List UInt8} (h : a < b) : ¬ b < a := fun k => kB_ltirr _ (kB_trans h k)
theorem putF_mem : ∀ (l : List S76) (f : S76), Rise l → ∀ y, y ∈ putF l f ↔ y = f ∨ (y ∈ l ∧ kB y.f0 ≠ kB f.f0)
  | [], f, _, y => by simp [putF]
  | x :: l, f, h, y => by
    have hx := (List.pairwise_cons.mp h).1
    have hl := (List.pairwise_cons.mp h).2
    unfold putF
    by_cases h1 : kB f.f0 < kB x.f0
    · rw [if_pos h1]
      constructor
      · intro hy
        rcases List.mem_cons.mp hy with rfl | hy
        · exact Or.inl rfl
        · refine Or.inr ⟨hy, fun e => ?_⟩
          rcases List.mem_cons.mp hy with rfl | hy
          · exact kB_ne h1 e.symm
          · exact kB_ne (kB_trans h1 (hx y hy)) e.symm
      · rintro (rfl | ⟨hy, _⟩)
        · simp
        · exact List.mem_cons_of_mem _ hy
    · rw [if_neg h1]
      by_cases h2 : kB f.f0 = kB x.f0
      · rw [if_pos h2]
        constructor
        · intro hy
          rcases List.mem_cons.mp hy with rfl | hy
          · exact Or.inl rfl
          · exact Or.inr ⟨List.mem_cons_of_mem _ hy, fun e => kB_ne (hx y hy) (by rw [e, h2])⟩
        · rintro (rfl | ⟨hy, hn⟩)
          · simp
          · rcases List.mem_cons.mp hy with rfl | hy
            · exact absurd h2.symm hn
            · exact List.mem_cons_of_mem _ hy
      · rw [if_neg h2, List.mem_cons, putF_mem l f hl y]
        constructor
        · rintro (rfl | rfl | ⟨hy, hn⟩)
          · exact Or.inr ⟨List.mem_cons_self, fun e => h2 e.symm⟩
          · exact Or.inl rfl
          · exact Or.inr ⟨List.mem_cons_of_mem _ hy, hn⟩
        · rintro (rfl | ⟨hy, hn⟩)
          · exact Or.inr (Or.inl rfl)
          · rcases List.mem_cons.mp hy with rfl | hy
            · exact Or.inl rfl
            · exact Or.inr (Or.inr ⟨hy, hn⟩)
theorem putF_rise : ∀ (l : List S76) (f : S76), Rise l → Rise (putF l f)
  | [], f, _ => by simp [putF, Rise]
  | x :: l, f, h => by
    have hx := (List.pairwise_cons.mp h).1
    have hl := (List.pairwise_cons.mp h).2
    unfold putF
    by_cases h1 : kB f.f0 < kB x.f0
    · rw [if_pos h1]
      refine List.pairwise_cons.mpr ⟨fun y hy => ?_, h⟩
      rcases List.mem_cons.mp hy with rfl | hy
      · exact h1
      · exact kB_trans h1 (hx y hy)
    · rw [if_neg h1]
      by_cases h2 : kB f.f0 = kB x.f0
      · rw [if_pos h2]
        exact List.pairwise_cons.mpr ⟨fun y hy => by rw [h2]; exact hx y hy, hl⟩
      · rw [if_neg h2]
        refine List.pairwise_cons.mpr ⟨fun y hy => ?_, putF_rise l f hl⟩
        rcases (putF_mem l f hl y).mp hy with rfl | ⟨hy, _⟩
        · exact kB_tri _ _ h1 h2
        · exact hx y hy
theorem putF_length : ∀ (l : List S76) (f : S76), Rise l → (putF l f).length = if ∃ x ∈ l, kB f.f0 = kB x.f0 then l.length else l.length + 1
  | [], f, _ => by simp [putF]
  | x :: l, f, h => by
    have hx := (List.pairwise_cons.mp h).1
    have hl := (List.pairwise_cons.mp h).2
    unfold putF
    by_cases h1 : kB f.f0 < kB x.f0
    · rw [if_pos h1, if_neg]
      · simp
      · rintro ⟨y, hy, e⟩
        rcases List.mem_cons.mp hy with rfl | hy
        · exact kB_ne h1 e
        · exact kB_ne (kB_trans h1 (hx y hy)) e
    · rw [if_neg h1]
      by_cases h2 : kB f.f0 = kB x.f0
      · rw [if_pos h2, if_pos ⟨x, List.mem_cons_self, h2⟩]
        simp
      · rw [if_neg h2]
        have ih := putF_length l f hl
        have he : (∃ y ∈ x :: l, kB f.f0 = kB y.f0) ↔ ∃ y ∈ l, kB f.f0 = kB y.f0 :=
          ⟨fun ⟨y, hy, e⟩ => by
            rcases List.mem_cons.mp hy with rfl | hy
            · exact absurd e h2
            · exact ⟨y, hy, e⟩, fun ⟨y, hy, e⟩ => ⟨y, List.mem_cons_of_mem _ hy, e⟩⟩
        rw [List.length_cons, ih]
        by_cases h3 : ∃ y ∈ l, kB f.f0 = kB y.f0
        · rw [if_pos h3, if_pos (he.mpr h3)]; simp
        · rw [if_neg h3, if_neg (fun hh => h3 (he.mp hh))]; simp
theorem dropF_rise {l : List S76} (h : Rise l) (p : ByteArray) : Rise (dropF l p) := h.filter _
theorem mem_dropF {l : List S76} {p : ByteArray} {y : S76} : y ∈ dropF l p ↔ y ∈ l ∧ kB y.f0 ≠ kB p := by simp [dropF]
theorem dropF_length : ∀ (l : List S76) (p : ByteArray), Rise l → (dropF l p).length + (if ∃ x ∈ l, kB x.f0 = kB p then 1 else 0) = l.length
  | [], p, _ => by simp [dropF]
  | x :: l, p, h => by
    have hx := (List.pairwise_cons.mp h).1
    have hl := (List.pairwise_cons.mp h).2
    have ih := dropF_length l p hl
    by_cases h2 : kB x.f0 = kB p
    · have hn : ¬ ∃ y ∈ l, kB y.f0 = kB p := fun ⟨y, hy, e⟩ => kB_ne (hx y hy) (h2.trans e.symm)
      rw [if_neg hn] at ih
      rw [if_pos ⟨x, List.mem_cons_self, h2⟩]
      have : dropF (x :: l) p = dropF l p := by
        unfold dropF
        rw [List.filter_cons, if_neg (by rw [decide_eq_true h2]; decide)]
      rw [this]
      simp
      omega
    · have he : (∃ y ∈ x :: l, kB y.f0 = kB p) ↔ ∃ y ∈ l, kB y.f0 = kB p :=
        ⟨fun ⟨y, hy, e⟩ => by
          rcases List.mem_cons.mp hy with rfl | hy
          · exact absurd e h2
          · exact ⟨y, hy, e⟩, fun ⟨y, hy, e⟩ => ⟨y, List.mem_cons_of_mem _ hy, e⟩⟩
      have : dropF (x :: l) p = x :: dropF l p := by
        unfold dropF
        rw [List.filter_cons, if_pos (by rw [decide_eq_false h2]; decide)]
      rw [this, List.length_cons, List.length_cons]
      by_cases h3 : ∃ y ∈ l, kB y.f0 = kB p
      · rw [if_pos h3] at ih
        rw [if_pos (he.mpr h3)]
        omega
      · rw [if_neg h3] at ih
        rw [if_neg (fun hh => h3 (he.mp hh))]
        omega
section
variable {W W' : World} {O S : Nat → Prop} {b : Nat} {l : List S76}
theorem kB_key (x : ByteArray) : WideAt.IsKeyLit (.string (kB x)) := trivial
/-- 'files[p] = v'. -/
theorem FilesAt.store (h : FilesAt W O b l) {p s : ByteArray} {v : Value} (hp : p.size ≤ 140737488355328) (hl : l.length < 1000000) (hv : BRow W O v (bytesOf s)) (hob : ¬ O b) :
    ∃ W', (Instr.mapUpdate 54 (.map (some b)) (.string p) v).run Try.prog W = .ok () W' ∧ FilesAt W' O b (putF l ⟨p, s⟩) ∧ W.mapTurned W' b := by
  obtain ⟨h1, D, h2, h3, h4, h5⟩ := h
  obtain ⟨W', hrun, hD, ht⟩ := h2.store law9 Try.underlying54 (by unfold maxLen; omega) (d := .held v) (ps := []) (key9 hp) (val := v) rfl
  have hM : IsMap D := h2.isMap
  have hT := h2.tidy law9
  have hk : Kept W W' (fun k => k = b) := Kept.of_grown ht.grown (Kept.refl _ _) (fun k hk => by cases hk; exact Or.inl rfl)
  have hsz : size (D.put (.string (kB p)) (.held v)) = (putF l ⟨p, s⟩).length := by
    rw [size_put hT, putF_length l _ h1, h3]
    by_cases hh : ∃ x ∈ l, kB p = kB x.f0
    · rw [if_pos hh, if_pos ((h4 _).mpr (by obtain ⟨x, hx, e⟩ := hh; exact ⟨x, hx, by rw [e]⟩))]
    · rw [if_neg hh, if_neg (fun hx => hh (by obtain ⟨x, hx, e⟩ := (h4 _).mp hx; exact ⟨x, hx, by injection e⟩))]
  refine ⟨W', hrun, ⟨putF_rise l _ h1, D.put (.string (kB p)) (.held v), ?_, hsz, fun kl => ?_, fun x hx => ?_⟩, ht⟩
  · have := ownsMap_tight hD
    rwa [hsz] at this
  · by_cases hkl : kl = .string (kB p)
    · subst hkl
      rw [has_put_same hM (kB_key p)]
      exact ⟨fun _ => ⟨⟨p, s⟩, (putF_mem l _ h1 _).mpr (Or.inl rfl), rfl⟩, fun _ => rfl⟩
    · rw [has_put_other hkl, h4]
      constructor
      · rintro ⟨x, hx, rfl⟩
        exact ⟨x, (putF_mem l _ h1 _).mpr (Or.inr ⟨hx, fun e => hkl (by rw [e])⟩), rfl⟩
      · rintro ⟨x, hx, rfl⟩
        rcases (putF_mem l _ h1 _).mp hx with rfl | ⟨hx, _⟩
        · exact absurd rfl hkl
        · exact ⟨x, hx, rfl⟩
  · rcases (putF_mem l _ h1 _).mp hx with rfl | ⟨hx, hn⟩
    · exact ⟨v, fun z => atKey_put_same hM (kB_key p) _ _, hv.kept hk (fun k ho e => hob (e ▸ ho))⟩
    · obtain ⟨u, e1, e2⟩ := h5 x hx
      exact ⟨u, fun z => by rw [atKey_put_other (fun e => hn (by injection e))]; exact e1 z, e2.kept hk (fun k ho e => hob (e ▸ ho))⟩
/-- 'delete(files, p)'. -/
theorem FilesAt.drop (h : FilesAt W O b l) {p : ByteArray} (hp : p.size ≤ 140737488355328) (hob : ¬ O b) (ty : TypeId) :
    ∃ W', (Builtin.delete_ #[54, 9] ty #[.map (some b), .string p]).run Try.prog W = .ok (.tuple #[]) W' ∧ FilesAt W' O b (dropF l p) ∧ W.mapTurned W' b := by
  obtain ⟨h1, D, h2, h3, h4, h5⟩ := h
  obtain ⟨W', hrun, hD, ht⟩ := h2.drop law9 Try.underlying54 (key9 hp) ty
  have hT := h2.tidy law9
  have hk : Kept W W' (fun k => k = b) := Kept.of_grown ht.grown (Kept.refl _ _) (fun k hk => by cases hk; exact Or.inl rfl)
  have hsz : size (D.del (.string (kB p))) = (dropF l p).length := by
    have e1 := size_del (k := .string (kB p)) hT
    have e2 := dropF_length l p h1
    by_cases hh : ∃ x ∈ l, kB x.f0 = kB p
    · rw [if_pos hh] at e2
      rw [if_pos ((h4 _).mpr (by obtain ⟨x, hx, e⟩ := hh; exact ⟨x, hx, by rw [e]⟩))] at e1
      omega
    · rw [if_neg hh] at e2
      rw [if_neg (fun hx => hh (by obtain ⟨x, hx, e⟩ := (h4 _).mp hx; exact ⟨x, hx, (lit_inj e).symm⟩))] at e1
      omega
  refine ⟨W', hrun, ⟨dropF_rise h1 p, D.del (.string (kB p)), ?_, hsz, fun kl => ?_, fun x hx => ?_⟩, ht⟩
  · have := ownsMap_tight hD
    rwa [hsz] at this
  · by_cases hkl : kl = .string (kB p)
    · subst hkl
      rw [has_del_same]
      constructor
      · intro e; exact absurd e Bool.false_ne_true
      · rintro ⟨x, hx, e⟩
        exact absurd (lit_inj e).symm (mem_dropF.mp hx).2
    · rw [has_del_other hkl, h4]
      constructor
      · rintro ⟨x, hx, rfl⟩
        exact ⟨x, mem_dropF.mpr ⟨hx, fun e => hkl (by rw [e])⟩, rfl⟩
      · rintro ⟨x, hx, rfl⟩
        exact ⟨x, (mem_dropF.mp hx).1, rfl⟩
  · obtain ⟨hx, hn⟩ := mem_dropF.mp hx
    obtain ⟨u, e1, e2⟩ := h5 x hx
    exact ⟨u, fun z => by rw [atKey_del_other (fun e => hn (by injection e))]; exact e1 z, e2.kept hk (fun k ho e => hob (e ▸ ho))⟩
end
/-- The map has been written: the disk behind it. -/
theorem IsD.turned {W W' : World} {B d mb : Nat} {O : Nat → Prop} {m : DS} (h : IsD W B O d mb m) (ht : W.mapTurned W' mb) {l : List S76} (hl : FilesAt W' O mb l) : IsD W' B O d mb { m with files := l } := by
  have hk : Kept W W' (fun k => k = mb) := Kept.of_grown ht.grown (Kept.refl _ _) (fun k hk => by cases hk; exact Or.inl rfl)
  exact ⟨blk_kept h.blk hk h.ne_mb, hl, h.ne, h.base, fun k ho => ⟨(h.rows k ho).1, Nat.lt_of_lt_of_le (h.rows k ho).2 hk.1⟩⟩
theorem kept_turned {W W' : World} {mb : Nat} (ht : W.mapTurned W' mb) : Kept W W' (fun k => k = mb) := Kept.of_grown ht.grown (Kept.refl _ _) (fun k hk => by cases hk; exact Or.inl rfl)
theorem below_turned {W W' : World} {mb B : Nat} (ht : W.mapTurned W' mb) (hB : B ≤ mb) (hm : mb < W.heap.size) : Below B W W' := pw_below_grown (Below.refl _ _) (some mb) (by omega) ht.grown (fun k hk => by cases hk; exact hB)
section
variable {ops : Array Oper} {rest : List Oper} {o : Oper} {a : Act} {Q : Exit → Act → World → Prop} {W : World} {O : Nat → Prop} {b : Nat} {l : List S76}
/-- An arm: (at_mapUpdate; refine FilesAt.wp_store HF.out rfl _ _ _ rfl rfl HL.out HV.out hob _ rfl rfl HP.out ?_; intro w5 hF hT). -/
theorem FilesAt.wp_store (h : FilesAt W O b l) (hg : o.guard = none) (m x y : Operand) (hop : o.op = Op.mapUpdate 54 m x y) (hm : a.eval m = .map (some b)) {p s : ByteArray} {v : Value} (hp : p.size ≤ 140737488355328) (hl : l.length < 1000000) (hv : BRow W O v (bytesOf s)) (hob : ¬ O b)
    (hx : a.eval x = .string p) (hy : a.eval y = v) (hK : ∀ W', FilesAt W' O b (putF l ⟨p, s⟩) → W.mapTurned W' b → wpList Try.prog ops Q rest (a.put o.dst undef) W') : wpList Try.prog ops Q (o :: rest) a W := by
  refine wpList_plain hg fun K' hK' => ?_
  obtain ⟨w', hrun, r1, r2⟩ := h.store hp hl hv hob
  unfold Oper.wp
  simp [execOp, hop, hm, hx, hy, hrun, Result.andThen]
  exact hK' _ _ (hK w' r1 r2)
/-- An arm: (at_delete; refine FilesAt.wp_drop HF.out rfl _ _ rfl rfl HP.out hob rfl ?_; intro w5 hF hT). -/
theorem FilesAt.wp_drop (h : FilesAt W O b l) (hg : o.guard = none) (m x : Operand) (hop : o.op = .call { callee := .builtin .delete, args := #[m, x], argTypes := #[54, 9] }) (hm : a.eval m = .map (some b)) {p : ByteArray} (hp : p.size ≤ 140737488355328) (hob : ¬ O b)
    (hx : a.eval x = .string p) (hK : ∀ W', FilesAt W' O b (dropF l p) → W.mapTurned W' b → wpList Try.prog ops Q rest (a.put o.dst (.tuple #[])) W') : wpList Try.prog ops Q (o :: rest) a W := by
  refine wpList_plain hg fun K' hK' => ?_
  obtain ⟨w', hrun, r1, r2⟩ := h.drop hp hob o.type
  unfold Oper.wp
  simp [execOp, hop, hm, hx, resolve, invoke, builtin, hrun, Result.andThen]
  exact hK' _ _ (hK w' r1 r2)
end
end Go.Proofs.Ytieodkghfceflaa.MD
namespace Go.Proofs.Ytieodkghfceflaa.Shelf
open Go.Shelf
def laysJ47_ren : Go.Shelf.Ren := ⟨fun | 14 => 47 | 15 => 63 | n => n, fun | 26 => 57 | 22 => 27 | 3 => 3 | 4 => 4 | 0 => 0 | 9 => 9 | 20 => 20 | 5 => 5 | n => n, fun | n => n⟩
theorem laysJ47 : Go.Proofs.SlLaysJ.n14 Try.prog laysJ47_ren := {
  mixed := by kernel_rfl
  f14 := Try.func47.trans (congrArg some (by kernel_rfl))
  f15 := Try.func63.trans (congrArg some (by kernel_rfl))
  t0 := Try.underlying0
  a0 := Try.isAgg0
  z0 := Try.sizeOf0
  v0 := Try.zeroValue0
  t3 := Try.underlying3
  a3 := Try.isAgg3
  z3 := Try.sizeOf3
  v3 := Try.zeroValue3
  t4 := Try.underlying4
  a4 := Try.isAgg4
  z4 := Try.sizeOf4
  v4 := Try.zeroValue4
  t9 := Try.underlying9
  a9 := Try.isAgg9
  z9 := Try.sizeOf9
  v9 := Try.zeroValue9
  t20 := Try.underlying20
  a20 := Try.isAgg20
  z20 := Try.sizeOf20
  v20 := Try.zeroValue20
  t22 := Try.underlying27
  a22 := Try.isAgg27
  z22 := Try.sizeOf27
  v22 := Try.zeroValue27
  t26 := Try.underlying57
  a26 := Try.isAgg57
  z26 := Try.sizeOf57
  v26 := Try.zeroValue57
  t5 := Try.underlying5
  z5 := Try.sizeOf5
  i5 := by kernel_rfl }
def laysK27_ren : Go.Shelf.Ren := ⟨fun | 7 => 27 | 10 => 52 | n => n, fun | 23 => 54 | 26 => 9 | 3 => 27 | 28 => 61 | 0 => 0 | 27 => 60 | 33 => 81 | 4 => 4 | n => n, fun | n => n⟩
theorem laysK27 : Go.Proofs.SlLaysZ.n7 Try.prog laysK27_ren := {
  mixed := by kernel_rfl
  f7 := ⟨ "maps.Keys[map[string][]byte,string,[]byte]", by decide, Try.func27.trans (congrArg some (by kernel_rfl))⟩
  f10 := ⟨ "maps.Keys[map[string][]byte,string,[]byte]$1", by decide, Try.func52.trans (congrArg some (by kernel_rfl))⟩
  t0 := Try.underlying0
  a0 := Try.isAgg0
  z0 := Try.sizeOf0
  v0 := Try.zeroValue0
  t4 := Try.underlying4
  a4 := Try.isAgg4
  z4 := Try.sizeOf4
  v4 := Try.zeroValue4
  t23 := Try.underlying54
  a23 := Try.isAgg54
  z23 := Try.sizeOf54
  v23 := Try.zeroValue54
  t26 := Try.underlying9
  a26 := Try.isAgg9
  z26 := Try.sizeOf9
  v26 := Try.zeroValue9
  t27 := Try.underlying60
  a27 := Try.isAgg60
  z27 := Try.sizeOf60
  v27 := Try.zeroValue60
  t28 := Try.underlying61
  a28 := Try.isAgg61
  z28 := Try.sizeOf61
  v28 := Try.zeroValue61
  t33 := Try.underlying81
  a33 := Try.isAgg81
  z33 := Try.sizeOf81
  v33 := Try.zeroValue81 }
def laysS26_ren : Go.Shelf.Ren := ⟨fun | 6 => 26 | 8 => 50 | 9 => 51 | 11 => 65 | 13 => 67 | 12 => 66 | 23 => 79 | 24 => 80 | 14 => 70 | 15 => 71 | 16 => 72 | 17 => 73 | 18 => 74 | 19 => 75 | 20 => 76 | 21 => 77 | 22 => 78 | 25 => 85 | 26 => 86 | 27 => 87 | 28 => 88 | 29 => 89 | 30 => 90 | 31 => 93 | n => n, fun | 26 => 9 | 28 => 61 | 24 => 28 | 0 => 0 | 3 => 3 | 37 => 30 | 48 => 107 | 50 => 109 | 4 => 4 | 40 => 100 | 39 => 99 | 45 => 104 | 5 => 5 | 9 => 9 | 51 => 112 | 55 => 116 | 57 => 120 | 58 => 121 | 33 => 81 | n => n, fun | n => n⟩
theorem laysS26 : Go.Proofs.SlLaysZ.n6 Try.prog laysS26_ren := {
  mixed := by kernel_rfl
  f6 := ⟨ "slices.Sorted[string]", by decide, Try.func26.trans (congrArg some (by kernel_rfl))⟩
  f8 := ⟨ "slices.Collect[string]", by decide, Try.func50.trans (congrArg some (by kernel_rfl))⟩
  f11 := ⟨ "slices.AppendSeq[[]string,string]", by decide, Try.func65.trans (congrArg some (by kernel_rfl))⟩
  t0 := Try.underlying0
  a0 := Try.isAgg0
  z0 := Try.sizeOf0
  v0 := Try.zeroValue0
  t24 := Try.underlying28
  a24 := Try.isAgg28
  z24 := Try.sizeOf28
  v24 := Try.zeroValue28
  t26 := Try.underlying9
  a26 := Try.isAgg9
  z26 := Try.sizeOf9
  v26 := Try.zeroValue9
  t28 := Try.underlying61
  a28 := Try.isAgg61
  z28 := Try.sizeOf61
  v28 := Try.zeroValue61
  i26 := by kernel_rfl }
def laysT51_ren : Go.Shelf.Ren := ⟨fun | 6 => 51 | 8 => 67 | 9 => 66 | 19 => 79 | 20 => 80 | 21 => 70 | 22 => 71 | 23 => 72 | 24 => 73 | 25 => 74 | 26 => 75 | 27 => 76 | 28 => 77 | 29 => 78 | 36 => 85 | 31 => 86 | 32 => 87 | 37 => 88 | 38 => 89 | 39 => 90 | 41 => 93 | n => n, fun | 27 => 28 | 29 => 9 | 3 => 3 | 32 => 30 | 26 => 28 | 0 => 0 | 44 => 107 | 46 => 109 | 4 => 4 | 36 => 100 | 35 => 99 | 41 => 104 | 5 => 5 | 9 => 9 | 53 => 112 | 57 => 116 | 63 => 120 | 64 => 121 | n => n, fun | n => n⟩
theorem laysT51 : Go.Proofs.SlLaysM.n6 Try.prog laysT51_ren := {
  mixed := by kernel_rfl
  f6 := ⟨ "slices.Sort[[]string,string]", by decide, Try.func51.trans (congrArg some (by kernel_rfl))⟩
  f8 := Try.func67.trans (congrArg some (by kernel_rfl))
  f9 := ⟨ "slices.pdqsortOrdered[string]", by decide, Try.func66.trans (congrArg some (by kernel_rfl))⟩
  f19 := Try.func79.trans (congrArg some (by kernel_rfl))
  f20 := Try.func80.trans (congrArg some (by kernel_rfl))
  f21 := ⟨ "slices.insertionSortOrdered[string]", by decide, Try.func70.trans (congrArg some (by kernel_rfl))⟩
  f22 := ⟨ "slices.heapSortOrdered[string]", by decide, Try.func71.trans (congrArg some (by kernel_rfl))⟩
  f23 := ⟨ "slices.breakPatternsOrdered[string]", by decide, Try.func72.trans (congrArg some (by kernel_rfl))⟩
  f24 := ⟨ "slices.choosePivotOrdered[string]", by decide, Try.func73.trans (congrArg some (by kernel_rfl))⟩
  f25 := ⟨ "slices.reverseRangeOrdered[string]", by decide, Try.func74.trans (congrArg some (by kernel_rfl))⟩
  f26 := ⟨ "slices.partialInsertionSortOrdered[string]", by decide, Try.func75.trans (congrArg some (by kernel_rfl))⟩
  f27 := ⟨ "cmp.Less[string]", by decide, Try.func76.trans (congrArg some (by kernel_rfl))⟩
  f28 := ⟨ "slices.partitionEqualOrdered[string]", by decide, Try.func77.trans (congrArg some (by kernel_rfl))⟩
  f29 := ⟨ "slices.partitionOrdered[string]", by decide, Try.func78.trans (congrArg some (by kernel_rfl))⟩
  f31 := Try.func86.trans (congrArg some (by kernel_rfl))
  f32 := Try.func87.trans (congrArg some (by kernel_rfl))
  f36 := ⟨ "slices.siftDownOrdered[string]", by decide, Try.func85.trans (congrArg some (by kernel_rfl))⟩
  f37 := ⟨ "slices.medianAdjacentOrdered[string]", by decide, Try.func88.trans (congrArg some (by kernel_rfl))⟩
  f38 := ⟨ "slices.medianOrdered[string]", by decide, Try.func89.trans (congrArg some (by kernel_rfl))⟩
  f39 := ⟨ "cmp.isNaN[string]", by decide, Try.func90.trans (congrArg some (by kernel_rfl))⟩
  f41 := ⟨ "slices.order2Ordered[string]", by decide, Try.func93.trans (congrArg some (by kernel_rfl))⟩
  t0 := Try.underlying0
  a0 := Try.isAgg0
  z0 := Try.sizeOf0
  v0 := Try.zeroValue0
  t3 := Try.underlying3
  a3 := Try.isAgg3
  z3 := Try.sizeOf3
  v3 := Try.zeroValue3
  t4 := Try.underlying4
  a4 := Try.isAgg4
  z4 := Try.sizeOf4
  v4 := Try.zeroValue4
  t5 := Try.underlying5
  a5 := Try.isAgg5
  z5 := Try.sizeOf5
  v5 := Try.zeroValue5
  t9 := Try.underlying9
  a9 := Try.isAgg9
  z9 := Try.sizeOf9
  v9 := Try.zeroValue9
  t26 := Try.underlying28
  a26 := Try.isAgg28
  z26 := Try.sizeOf28
  v26 := Try.zeroValue28
  t27 := Try.underlying28
  a27 := Try.isAgg28
  z27 := Try.sizeOf28
  v27 := Try.zeroValue28
  t29 := Try.underlying9
  a29 := Try.isAgg9
  z29 := Try.sizeOf9
  v29 := Try.zeroValue9
  t32 := Try.underlying30
  a32 := Try.isAgg30
  z32 := Try.sizeOf30
  v32 := Try.zeroValue30
  t35 := Try.underlying99
  a35 := Try.isAgg99
  z35 := Try.sizeOf99
  v35 := Try.zeroValue99
  t36 := Try.underlying100
  a36 := Try.isAgg100
  z36 := Try.sizeOf100
  v36 := Try.zeroValue100
  t41 := Try.underlying104
  a41 := Try.isAgg104
  z41 := Try.sizeOf104
  v41 := Try.zeroValue104
  t44 := Try.underlying107
  a44 := Try.isAgg107
  z44 := Try.sizeOf107
  v44 := Try.zeroValue107
  t46 := Try.underlying109
  a46 := Try.isAgg109
  z46 := Try.sizeOf109
  v46 := Try.zeroValue109
  t53 := Try.underlying112
  a53 := Try.isAgg112
  z53 := Try.sizeOf112
  v53 := Try.zeroValue112
  t57 := Try.underlying116
  a57 := Try.isAgg116
  z57 := Try.sizeOf116
  v57 := Try.zeroValue116
  t63 := Try.underlying120
  a63 := Try.isAgg120
  z63 := Try.sizeOf120
  v63 := Try.zeroValue120
  t64 := Try.underlying121
  a64 := Try.isAgg121
  z64 := Try.sizeOf121
  v64 := Try.zeroValue121 }
def laysW60_ren : Go.Shelf.Ren := ⟨fun | 5 => 60 | 7 => 68 | n => n, fun | 23 => 54 | 25 => 9 | 3 => 27 | 4 => 4 | 20 => 20 | n => n, fun | n => n⟩
theorem laysW60 : Go.Proofs.SlLaysW.n5 Try.prog laysW60_ren := {
  mixed := by kernel_rfl
  f5 := ⟨ "maps.Clone[map[string][]byte,string,[]byte]", by decide, Try.func60.trans (congrArg some (by kernel_rfl))⟩
  f7 := Try.func68.trans (congrArg some (by kernel_rfl))
  t4 := Try.underlying4
  a4 := Try.isAgg4
  z4 := Try.sizeOf4
  v4 := Try.zeroValue4
  t20 := Try.underlying20
  a20 := Try.isAgg20
  z20 := Try.sizeOf20
  v20 := Try.zeroValue20
  t23 := Try.underlying54
  a23 := Try.isAgg54
  z23 := Try.sizeOf54
  v23 := Try.zeroValue54 }
end Go.Proofs.Ytieodkghfceflaa.Shelf
namespace Go.Proofs.Ytieodkghfceflaa.MD
open Go.Proofs.Ytieodkghfceflaa.Opening
open Go.RowKit Go.Proofs.YtieodkghfceflaaW.PrintWords Go.Proofs.YtieodkghfceflaaW.PrintLast Go.Proofs.YtieodkghfceflaaW.PrintMore
set_option maxRecDepth 100000 in
set_option maxHeartbeats 4000000 in
theorem grow_calls (w : World) (n : Nat) (hn : n ≤ 1000000) : Calls Try.prog 64 #[.slice none 0 0, .int .i64 n] w fun e w' => ∃ v, e = .returned v ∧ Kd.R (Kd.int .u8) 5 w' w.heap.size (fun _ => True) v ([] : List Int) ∧ Below w.heap.size w w' := by
  by_cases h0 : n = 0
  · subst h0
    go_enter Try.func64, Try.ntmps64
    go_wp2
    go_ret
    exact ⟨_, rfl, Kd.R_nil _ _ _ _ _, Below.refl _ _⟩
  · obtain ⟨i0, hi, hzz⟩ := Option.map_eq_some_iff.1 info5
    simp only [Prod.mk.injEq] at hzz
    obtain ⟨hz0, hz1, hz2⟩ := hzz
    have h1 : decide ((n : Int) < 0) = false := decide_eq_false (by omega)
    have h3 : IntKind.i64.wrap ((n : Int) - 0) = (n : Int) := by rw [i64_w]; unfold wrap64; omega
    have h3b : IntKind.i64.wrap ((n : Int)) = (n : Int) := by rw [i64_w]; unfold wrap64; omega
    have h4 : decide ((n : Int) > 0) = true := decide_eq_true (by omega)
    have hG63 := grownCap_le_maxLen w n 0 5 (by unfold maxLen; omega)
    have hGn : n ≤ grownCap w n 0 5 := grownCap_ge w _ _ _
    have hrz : ∀ ty, (Builtin.append_ #[27, 3] ty #[.slice none 0 0, .int .i64 (n : Int)]).run Try.prog w =
        .ok (.slice (some ⟨w.heap.size, 0, none⟩) n (grownCap w n 0 5)) (w.drew.alloc (.cells ((#[] : Array Value) ++ Builtin.zeroCells (Value.int .u8 0).cells n ++ Builtin.zeroCells (Value.int .u8 0).cells (grownCap w n 0 5 - n)) 5)) := fun ty => by
      have h := Lib.run_append_grow_zeros w 27 3 ty 5 i0 (.int .u8 0) .i64 .i64 Try.underlying27 Try.underlying3 hi hz0 none 0 0 [] (run_firstCells_none w.drew i0.size 0 0 0) n (by omega) (by rw [hz1]; decide) (by omega) (by omega) (by rw [hz2]; omega)
        (by simpa using growslice_fits (by omega) (by rw [hz2]; omega))
      simpa using h
    obtain ⟨G, hG⟩ : ∃ G, G = grownCap w n 0 5 := ⟨_, rfl⟩
    rw [← hG] at hrz hGn hG63
    unfold maxLen at hG63
    have HG := Aside0.mk hG63
    have HGn := Aside0.mk hGn
    clear hi hz0 hz1 hz2 hG
    go_enter Try.func64, Try.ntmps64
    go_wp2_with (at_builtin; refine Lib.wpList_append_run _ rfl _ _ _ _ rfl _ _ rfl rfl _ _ (hrz _) ?_)
    go_ret
    refine ⟨_, rfl, Kd.R_of_own (World.ownsRow_made w.drew _ G (Nat.le_refl _) (by have := HG.out; unfold maxLen; omega) ?_) (fun _ _ => trivial), below_alloc (below_drew (Below.refl _ _)) _⟩
    have := HGn.out
    simp [size_zeroCells]
    omega
set_option maxRecDepth 100000 in
set_option maxHeartbeats 4000000 in
theorem concat_calls (w : World) {A1 A2 : Option Addr} {c1 c2 vb : Nat} {l1 l2 : List Int} (hv : w.heap[vb]? = some (.cells #[.slice A1 l1.length c1, .slice A2 l2.length c2] 27 (0, 0))) (h1 : Kd.C (Kd.int .u8) w A1 l1.length l1) (h2 : Kd.C (Kd.int .u8) w A2 l2.length l2) (hl : l1.length + l2.length ≤ 1000000) :
    Calls Try.prog 49 #[.slice (some ⟨vb, 0, none⟩) 2 2] w fun e w' => ∃ v, e = .returned v ∧ Kd.R (Kd.int .u8) 5 w' w.heap.size (fun _ => True) v (l1 ++ l2) ∧ Below w.heap.size w w' := by
  have HV := Aside0.mk hv
  have H1 := Aside0.mk h1
  have H2 := Aside0.mk h2
  have HL := Aside0.mk hl
  have d0 : w.cell? ⟨vb, 0, none⟩ = some (.slice A1 l1.length c1) := (blk_cell hv 0).trans rfl
  have d1 : w.cell? ⟨vb, 1, none⟩ = some (.slice A2 l2.length c2) := (blk_cell hv 1).trans rfl
  obtain ⟨n1, hn1⟩ : ∃ n1, l1.length = n1 := ⟨_, rfl⟩
  obtain ⟨n2, hn2⟩ : ∃ n2, l2.length = n2 := ⟨_, rfl⟩
  rw [hn1] at d0
  rw [hn2] at d1
  have HN1 := Aside0.mk hn1
  have HN2 := Aside0.mk hn2
  have s1 : IntKind.i64.wrap (0 + (n1 : Int)) = (n1 : Int) := by rw [i64_w]; unfold wrap64; omega
  have s1b : IntKind.i64.wrap ((n1 : Int)) = (n1 : Int) := by rw [i64_w]; unfold wrap64; omega
  obtain ⟨N, hN⟩ : ∃ N, n1 + n2 = N := ⟨_, rfl⟩
  have HNN := Aside0.mk hN
  have s2 : IntKind.i64.wrap ((n1 : Int) + (n2 : Int)) = (N : Int) := by rw [i64_w]; unfold wrap64; omega
  have t1 : decide ((n1 : Int) < 0) = false := decide_eq_false (by omega)
  have t2 : decide ((N : Int) < 0) = false := decide_eq_false (by omega)
  clear hv h1 h2 hl hn1 hn2 hN
  go_enter Try.func49, Try.ntmps49
  go_wp2
  refine wp_loop_rounds 3 ?_
  rw [rounds_succ]
  go_wp2
  rw [rounds_succ]
  go_wp2
  rw [rounds_succ]
  go_wp2_with (go_at_call 64; refine (grow_calls w N (by have := HL.out; have := HN1.out; have := HN2.out; have := HNN.out; omega)).mono ?_; rintro e w1 ⟨v, rfl, hR, hB⟩; have HR := Aside0.mk hR; have HB := Aside0.mk hB; have e0 := (hB.cell (blk_lt HV.out)).trans d0; have e1 := (hB.cell (blk_lt HV.out)).trans d1; clear hR hB)
  refine wp_loop_rounds 3 ?_
  rw [rounds_succ]
  go_wp2_with (at_builtin; refine Kd.R_append_rows (Kd.int .u8) (w0 := w) w.heap.size rfl (.tmp 31) (.tmp 32) 27 5 (.int .u8 0) 1 rfl Try.underlying27 info5 rfl (by decide) (by omega) v [] l1 A1 n1 c1 (fun _ => True) (fun _ => False) rfl rfl HR.out (HN1.out ▸ Kd.C_below H1.out HB.out) (fun _ _ h => h) (fun _ h => h.elim) (fun _ _ => trivial) HB.out HB.out.size (by have := HL.out; have := HN1.out; have := HN2.out; simp; omega) ?_; intro v2 w2 hR hB hg hat; have HR2 := Aside0.mk hR; have HB2 := Aside0.mk hB; have g1 := (hB.cell (blk_lt HV.out)).trans d1; clear hR hB hg hat)
  rw [rounds_succ]
  go_wp2_with (at_builtin; refine Kd.R_append_rows (Kd.int .u8) (w0 := w) w.heap.size rfl (.tmp 31) (.tmp 32) 27 5 (.int .u8 0) 1 rfl Try.underlying27 info5 rfl (by decide) (by omega) v2 ([] ++ l1) l2 A2 n2 c2 (fun _ => True) (fun _ => False) rfl rfl HR2.out (HN2.out ▸ Kd.C_below H2.out HB2.out) (fun _ _ h => h) (fun _ h => h.elim) (fun _ _ => trivial) HB2.out HB2.out.size (by have := HL.out; have := HN1.out; have := HN2.out; simp; omega) ?_; intro v3 w3 hR hB hg hat; have HR3 := Aside0.mk hR; have HB3 := Aside0.mk hB; clear hR hB hg hat)
  rw [rounds_succ]
  go_wp2
  go_ret
  exact ⟨_, rfl, by simpa using HR3.out, HB3.out⟩
end Go.Proofs.Ytieodkghfceflaa.MD
namespace Go.Proofs.Ytieodkghfceflaa.MD
open Go.Proofs.Ytieodkghfceflaa.Opening
open Go.Maps Go.RowKit Go.Proofs.YtieodkghfceflaaW.PrintWords Go.Proofs.YtieodkghfceflaaW.PrintLast Go.Proofs.YtieodkghfceflaaW.PrintMore
open Go.Proofs.Ytieodkghfceflaa.Shelf
theorem sorts26 (m : Nat) : AnyZ.SortsIn Try.prog laysS26_ren Fence.wide m :=
  ⟨fun blk off cap ss W hH hblk hsz => callsIn_wide.2 (AnyM.slices_Sort_string laysT51 blk off cap ss W hH hblk hsz),
   fun p cap W => callsIn_wide.2 (AnyM.slices_Sort_string_none laysT51 p cap W)⟩
theorem keys27_calls (mb : Option Nat) (W : World) : Calls Try.prog 27 #[.map mb] W fun e w' => e = .returned (.func (.func 52) #[] #[.pointer (some ⟨W.heap.size, 0, none⟩)]) ∧ w' = W.alloc (.cells #[.map mb] 54) :=
  (callsIn_wide (n := 5)).1 (AnyZ.keys_in laysK27 Fence.wide 5 trivial rfl mb W)
set_option maxHeartbeats 1000000 in
theorem sorted26_calls {H : Type} (b nn : Nat) (D0 : DataW H) (R : Value → Option (DataW H × List MemPlace)) (w : World) (hown : w.ownsMap Try.prog 9 R b nn D0) (hmax : Maps.size D0 ≤ maxLen) (hbytes : Maps.size D0 * 16 ≤ 140737488355328) :
    Calls Try.prog 26 #[.func (.func 52) #[] #[.pointer (some ⟨w.heap.size, 0, none⟩)]] (w.alloc (.cells #[.map (some b)] 54)) fun e w' => ∃ (v : Value) (ss : List (List UInt8)), e = .returned v ∧ ss.Perm (strKeys D0) ∧
      w'.ownsRow (w.alloc (.cells #[.map (some b)] 54)).heap.size 9 1 v ss.length ((ss.mergeSort (fun x y => decide (x ≤ y))).map encStr) ∧ (v = .slice none 0 0 ↔ ss = []) ∧ Below (w.alloc (.cells #[.map (some b)] 54)).heap.size (w.alloc (.cells #[.map (some b)] 54)) w' := by
  refine (callsIn_wide (n := 5)).1 ?_
  have hbl := hown.lt
  have hseq : SeqGives Fence.wide 2 Try.prog 52 #[.pointer (some ⟨w.heap.size, 0, none⟩)] encStr (fun ss => ss.Perm (strKeys D0)) (Maps.size D0) (w.alloc (.cells #[.map (some b)] 54)) :=
    AnyZ.keys_gives (ρ := laysK27_ren) { laysK27 with } Fence.wide _ trivial rfl (by omega) w.heap.size b nn D0 _ (by simp) (by simp) (by
      obtain ⟨es, clock, hb, Ft, hs, hD⟩ := hown
      exact ⟨es, clock, (Below.heap_alloc _ _ b hbl).trans hb, Ft, hs, hD⟩)
  exact AnyZ.sorted_in laysS26 Fence.wide 5 trivial trivial trivial trivial rfl (by omega) (sorts26 _) (enters_of Try.func51 (by kernel_rfl) rfl) 52 #[.pointer (some ⟨w.heap.size, 0, none⟩)] trivial (enters_of Try.func52 (by kernel_rfl) rfl) _ _ hmax hbytes _ hseq
/-- The names of a rising list of files are its map's keys, sorted. -/
theorem FilesAt.names {W : World} {O : Nat → Prop} {b : Nat} {l : List S76} (h : FilesAt W O b l) : ∃ D : DataW Value, W.ownsMap Try.prog 9 rawR b l.length D ∧ size D = l.length ∧ ∀ ss : List (List UInt8), ss.Perm (strKeys D) → ss.mergeSort (fun x y => decide (x ≤ y)) = l.map fun x => kB x.f0 := by
  obtain ⟨h1, D, h2, h3, h4, h5⟩ := h
  refine ⟨D, h2, h3, fun ss hp => ?_⟩
  have hr : (l.map fun x => kB x.f0).Pairwise fun a b => a < b := by rw [List.pairwise_map]; exact h1
  have hnd : (l.map fun x => kB x.f0).Nodup := hr.imp (fun h e => kB_ne h e)
  have hpp : (l.map fun x => kB x.f0).Perm (strKeys D) := by
    obtain ⟨es, hD, hpw, _⟩ := h2.entries law9
    obtain ⟨es', hD', hko⟩ := h2.keysOf
    obtain rfl : es = es' := by rw [hD] at hD'; simpa using hD'
    subst hD
    refine perm_strKeys hpw (fun p hp => by obtain ⟨v, hv⟩ := hko p hp; obtain ⟨x, _, hx, _⟩ := Maps.keyOf_str Try.underlying9 hv; exact ⟨x, hx⟩) hnd (fun x => ?_)
    rw [h4, List.mem_map]
    constructor
    · rintro ⟨y, hy, rfl⟩
      exact ⟨y, hy, rfl⟩
    · rintro ⟨y, hy, e⟩
      exact ⟨y, hy, (lit_inj e).symm⟩
  refine List.Perm.eq_of_pairwise (le := fun a b => a ≤ b) (fun a b _ _ h1 h2 => List.le_antisymm h1 h2) ?_ (hr.imp (fun h => List.le_of_lt h)) ((List.mergeSort_perm _ _).trans (hp.trans hpp.symm))
  have := List.pairwise_mergeSort (le := fun (x y : List UInt8) => decide (x ≤ y)) (fun a b c h1 h2 => decide_eq_true (List.le_trans (of_decide_eq_true h1) (of_decide_eq_true h2))) (fun a b => by
    rcases List.le_total a b with h | h
    · simp [h]
    · simp [h]) ss
  exact this.imp (fun h => of_decide_eq_true h)
set_option maxRecDepth 100000 in
set_option maxHeartbeats 4000000 in
theorem names_calls (w : World) {B d mb : Nat} {O : Nat → Prop} {m : DS} (h : IsD w B O d mb m) (hl : m.files.length ≤ 1000000) :
    Calls Try.prog 10 #[.pointer (some ⟨d, 0, none⟩)] w fun e w' => ∃ v, e = .returned v ∧ Kd.R Kd.string 9 w' w.heap.size (fun _ => True) v (m.files.map (·.f0)) ∧ Below w.heap.size w w' := by
  obtain ⟨D, hD, hsz, hn⟩ := h.files.names
  have HD := Aside0.mk hD
  have HS := Aside0.mk hsz
  have HN := Aside0.mk hn
  have HL := Aside0.mk hl
  have H := Aside0.mk h
  have h0 := h.c0
  clear hD hsz hn hl h
  go_enter Try.func10, Try.ntmps10
  go_wp2_with (first | (go_at_call 27; refine (keys27_calls (some mb) w).mono ?_; rintro e w1 ⟨rfl, rfl⟩) | (go_at_call 26; refine (sorted26_calls mb _ D rawR w HD.out (by have := HS.out; have := HL.out; unfold maxLen; omega) (by have := HS.out; have := HL.out; omega)).mono ?_; rintro e w2 ⟨v, ss, rfl, hp, hrow, hnil, hb⟩; have HP := Aside0.mk hp; have HR := Aside0.mk hrow; have HB := Aside0.mk hb; clear hp hrow hnil hb))
  go_ret
  refine ⟨_, rfl, ?_, (Below.refl _ _).alloc (Nat.le_refl _) _ |>.trans (HB.out.mono (by simp))⟩
  have e1 := HN.out ss HP.out
  have e2 : ss.length = (m.files.map (·.f0)).length := by
    have := congrArg List.length e1
    simpa using this
  have e3 : ((ss.mergeSort (fun x y => decide (x ≤ y))).map encStr) = (m.files.map (·.f0)).map Value.string := by
    rw [e1]
    simp [encStr]
  have hr := HR.out
  rw [e2, e3] at hr
  exact Kd.R_lower (Kd.R_of_own (enc := Value.string) (h1 := fun _ => rfl) hr (fun _ _ => trivial)) (by simp)
end Go.Proofs.Ytieodkghfceflaa.MD
namespace Go.Proofs.Ytieodkghfceflaa.MD
open Go.Proofs.Ytieodkghfceflaa.Opening
open Go.RowKit Go.Proofs.YtieodkghfceflaaW.PrintWords Go.Proofs.YtieodkghfceflaaW.PrintLast Go.Proofs.YtieodkghfceflaaW.PrintMore
open Go.Proofs.Ytieodkghfceflaa.Shelf
def uB (l : List Int) : List UInt8 := l.map fun x => UInt8.ofNat x.toNat
abbrev Bytes (l : List Int) : Prop := ∀ x ∈ l, 0 ≤ x ∧ x < 256
theorem uB_length (l : List Int) : (uB l).length = l.length := by simp [uB]
theorem byte_back {x : Int} (h : 0 ≤ x ∧ x < 256) : ((UInt8.ofNat x.toNat).toNat : Int) = x := by
  have : (UInt8.ofNat x.toNat).toNat = x.toNat := by
    simp [UInt8.toNat_ofNat]
    omega
  rw [this]
  omega
theorem uB_back {l : List Int} (h : Bytes l) : (uB l).map (fun b => (b.toNat : Int)) = l := by
  unfold uB
  rw [List.map_map]
  conv => rhs; rw [← List.map_id l]
  exact List.map_congr_left fun x hx => byte_back (h x hx)
theorem bytesOf_str {l : List Int} (h : Bytes l) : bytesOf (strOfNums l) = l := uB_back h
theorem bytes_of (s : ByteArray) : Bytes (bytesOf s) := by
  intro x hx
  unfold bytesOf at hx
  obtain ⟨b, _, rfl⟩ := List.mem_map.mp hx
  have := b.toNat_lt
  constructor <;> omega
theorem holds_of {w : World} {A : Option Addr} {c : Nat} {l : List Int} (h : Kd.C (Kd.int .u8) w A l.length l) (hb : Bytes l) : Lib.HoldsBytes w (.slice A l.length c) (uB l) := by
  have hr := Kd.reads_of_C (d := (0 : Int)) h
  refine ⟨A, c, by rw [uB_length], fun hn => ?_, fun a ha i x hi => ?_⟩
  · rcases Nat.eq_zero_or_pos l.length with h0 | h0
    · rw [List.length_eq_zero_iff] at h0; subst h0; rfl
    · obtain ⟨ad, e, _⟩ := hr.2.2 h0
      rw [hn] at e
      cases e
  · have hlt : i < l.length := by
      have := (List.getElem?_eq_some_iff.mp hi).1
      rwa [uB_length] at this
    obtain ⟨ad, e, hc⟩ := hr.2.2 (by omega)
    rw [ha] at e
    cases e
    rw [hc i hlt]
    have e1 : l[i]? = some l[i] := List.getElem?_eq_getElem hlt
    have e2 : x = UInt8.ofNat (l[i]).toNat := by
      unfold uB at hi
      rw [List.getElem?_map, e1] at hi
      simpa using hi.symm
    rw [List.getD_eq_getElem?_getD, e1, e2, byte_back (hb _ (List.getElem_mem hlt))]
    rfl
theorem BRow.of_fresh {B : Nat} {w : World} {v : Value} {l : List Int} (h : Lib.FreshBytes B w v (uB l)) (hb : Bytes l) : BRow w (fun k => B ≤ k) v l := by
  obtain ⟨g, cap, zs, rfl, hB, hl, hm, hz, hz2, hbo, hc, _⟩ := h
  rw [uB_length] at *
  have hzl : zs.take l.length = l := by
    have e1 : Bytes (zs.take l.length) := fun x hx => hz2 x (List.mem_of_mem_take hx)
    have e2 : uB (zs.take l.length) = uB l := hbo
    rw [← uB_back e1, e2, uB_back hb]
  refine ⟨some ⟨g, 0, none⟩, cap, rfl, hl, Kd.C_of_reads (d := (0 : Int)) ⟨rfl, by unfold maxLen at hm; omega, fun hn => ⟨_, rfl, fun j hj => ?_⟩⟩, fun ad ha hn => ?_⟩
  · have e := hc j (by omega)
    have e1 : l.getD j 0 = zs.getD j 0 := by
      rw [List.getD_eq_getElem?_getD, List.getD_eq_getElem?_getD]
      conv => lhs; rw [← hzl]
      rw [List.getElem?_take_of_lt hj]
    rw [e1]
    have ea : (⟨g, 0, none⟩ : Addr).add j = ⟨g, j, none⟩ := by
      unfold Addr.add
      split
      · next h => subst h; rfl
      · simp
    rw [ea]
    exact e
  · cases ha
    have e := hc 0 (by omega)
    exact ⟨hB, World.block_lt_of_cell? w ⟨g, 0, none⟩ e⟩
/-- Parts, handed in as a slice of one or of two rows, that are together the bytes l. -/
inductive PartsV (w : World) : Value → List Int → Prop
  | one (pb : Nat) (A : Option Addr) (c : Nat) (l : List Int) (hv : w.heap[pb]? = some (.cells #[.slice A l.length c] 27 (0, 0))) (h : Kd.C (Kd.int .u8) w A l.length l) : PartsV w (.slice (some ⟨pb, 0, none⟩) 1 1) l
  | two (pb : Nat) (A1 A2 : Option Addr) (c1 c2 : Nat) (l1 l2 : List Int) (hv : w.heap[pb]? = some (.cells #[.slice A1 l1.length c1, .slice A2 l2.length c2] 27 (0, 0))) (h1 : Kd.C (Kd.int .u8) w A1 l1.length l1) (h2 : Kd.C (Kd.int .u8) w A2 l2.length l2) : PartsV w (.slice (some ⟨pb, 0, none⟩) 2 2) (l1 ++ l2)
theorem PartsV.below {w w' : World} {v : Value} {l : List Int} (h : PartsV w v l) (hb : Below w.heap.size w w') : PartsV w' v l := by
  cases h with
  | one pb A c l hv h => exact .one pb A c l ((hb.block _ (blk_lt hv)).trans hv) (Kd.C_below h hb)
  | two pb A1 A2 c1 c2 l1 l2 hv h1 h2 => exact .two pb A1 A2 c1 c2 l1 l2 ((hb.block _ (blk_lt hv)).trans hv) (Kd.C_below h1 hb) (Kd.C_below h2 hb)
theorem join_calls (w : World) {pv : Value} {l : List Int} (h : PartsV w pv l) (hb : Bytes l) (hl : l.length ≤ 140737488355328) :
    Calls Try.prog 47 #[pv, .slice none 0 0] w fun e w' => ∃ v, e = .returned v ∧ BRow w' (fun k => w.heap.size ≤ k) v l ∧ Below w.heap.size w w' := by
  cases h with
  | one pb A c l hv h =>
    have hcell : w.cell? ⟨pb, 0, none⟩ = some (.slice A l.length c) := (blk_cell hv 0).trans rfl
    rcases Nat.eq_zero_or_pos l.length with h0 | h0
    · rw [h0] at hcell
      rw [List.length_eq_zero_iff] at h0
      subst h0
      refine (Any.bytes_Join_one_empty laysJ47 pb 0 1 A c (.slice none 0 0) w hcell).mono ?_
      rintro e w' ⟨rfl, rfl⟩
      exact ⟨_, rfl, BRow.nil _ _, Below.refl _ _⟩
    · obtain ⟨ad, e, hc⟩ := (Kd.reads_of_C (d := (0 : Int)) h).2.2 h0
      subst e
      obtain ⟨p, cap, e1, _, hcc⟩ := holds_of (c := c) h hb
      have ep : p = some ad := by injection e1 with q1 _ _; exact q1.symm
      refine (Any.bytes_Join_one laysJ47 pb 0 1 ad c (uB l) (.slice none 0 0) w (by rw [uB_length]; exact hcell) (fun i x hi => hcc ad ep i x hi) (by rw [uB_length]; exact h0) (by rw [uB_length]; exact hl)).mono ?_
      rintro e w' ⟨v, rfl, hf, hB⟩
      exact ⟨_, rfl, BRow.of_fresh hf hb, hB⟩
  | two pb A1 A2 c1 c2 l1 l2 hv h1 h2 =>
    have hb1 : Bytes l1 := fun x hx => hb x (List.mem_append_left _ hx)
    have hb2 : Bytes l2 := fun x hx => hb x (List.mem_append_right _ hx)
    rw [List.length_append] at hl
    have hP : Lib.PartsAt w ⟨pb, 0, none⟩ [.slice A1 l1.length c1, .slice A2 l2.length c2] [uB l1, uB l2] := by
      refine ⟨rfl, fun i v hi => ?_, fun i v l hi hj => ?_⟩
      · match i with
        | 0 => simp at hi; subst hi; exact (blk_cell hv 0).trans rfl
        | 1 => simp at hi; subst hi; exact (blk_cell hv 1).trans rfl
        | i + 2 => simp at hi
      · match i with
        | 0 => simp at hi hj; subst hi; subst hj; exact holds_of h1 hb1
        | 1 => simp at hi hj; subst hi; subst hj; exact holds_of h2 hb2
        | i + 2 => simp at hi
    refine (Any.bytes_Join_many laysJ47 pb 0 2 2 _ _ (.slice none 0 0) [] w rfl (by omega) hP (by omega) ⟨none, 0, rfl, fun _ => rfl, fun a ha => by cases ha⟩ (by omega) (by simp [Lib.lens, uB_length]; omega)).mono ?_
    rintro e w' ⟨v, rfl, hf, hB⟩
    have e1 : Lib.join [uB l1, uB l2] [] = uB (l1 ++ l2) := by simp [Lib.join, uB, List.intercalate]
    rw [e1] at hf
    exact ⟨_, rfl, BRow.of_fresh hf hb, hB⟩
end Go.Proofs.Ytieodkghfceflaa.MD
namespace Go.Proofs.Ytieodkghfceflaa.MD
open Go.Proofs.Ytieodkghfceflaa.Opening
open Go.RowKit Go.Proofs.YtieodkghfceflaaW.PrintWords Go.Proofs.YtieodkghfceflaaW.PrintLast Go.Proofs.YtieodkghfceflaaW.PrintMore
attribute [local go_sem] max2_int min2_int max_two min_two max_three min_three max_four min_four   -- for this text's walks alone
section
variable {W W' : World} {B d mb : Nat} {O O2 : Nat → Prop} {m : DS}
theorem IsD.mono (h : IsD W B O d mb m) (ho : ∀ k, O k → O2 k) (hn : ¬ O2 d ∧ ¬ O2 mb) (hr : ∀ k, O2 k → B ≤ k ∧ k < W.heap.size) : IsD W B O2 d mb m := ⟨h.blk, h.files.mono ho, hn, h.base, hr⟩
/-- A new row's block is the disk's, too. -/
theorem IsD.own (h : IsD W B O d mb m) {v : Value} {l : List Int} {base : Nat} {ok : Nat → Prop} (hR : Kd.R (Kd.int .u8) 5 W base ok v l) (h1 : d < base) (h2 : mb < base) : IsD W B (fun k => O k ∨ v.ownBlock = some k) d mb m := by
  have hb : ∀ k, v.ownBlock = some k → base ≤ k ∧ k < W.heap.size := fun k hk => by
    have := (Kd.R_bound hR).1 k hk
    exact ⟨this.2.1, this.2.2.1⟩
  refine h.mono (fun k hk => Or.inl hk) ⟨?_, ?_⟩ ?_
  · rintro (hk | hk)
    · exact h.ne.1 hk
    · have := (hb _ hk).1; omega
  · rintro (hk | hk)
    · exact h.ne.2 hk
    · have := (hb _ hk).1; omega
  · rintro k (hk | hk)
    · exact h.rows k hk
    · have := hb _ hk
      have := h.base
      omega
variable {ops : Array Oper} {rest : List Oper} {o : Oper} {a : Act} {Q : Exit → Act → World → Prop}
/-- An arm: (at_mapUpdate; refine IsD.wp_store HD.out rfl _ _ _ rfl rfl HP.out HL.out HV.out hy rfl rfl ?_; intro w5 hD hT). -/
theorem IsD.wp_store (h : IsD W B O d mb m) (hg : o.guard = none) (mo x y : Operand) (hop : o.op = Op.mapUpdate 54 mo x y) (hm : a.eval mo = .map (some mb)) {p : ByteArray} {l : List Int} {v : Value} (hp : p.size ≤ 140737488355328) (hl : m.files.length < 1000000) (hv : BRow W O v l) (hy : Bytes l)
    (hx : a.eval x = .string p) (hyv : a.eval y = v) (hK : ∀ W', IsD W' B O d mb { m with files := putF m.files ⟨p, strOfNums l⟩ } → W.mapTurned W' mb → wpList Try.prog ops Q rest (a.put o.dst undef) W') : wpList Try.prog ops Q (o :: rest) a W :=
  h.files.wp_store hg mo x y hop hm hp hl (by rw [bytesOf_str hy]; exact hv) h.ne.2 hx hyv fun W' hF hT => hK W' (h.turned hT hF) hT
end
theorem noop30 (w : World) : Calls Try.prog 30 #[] w fun e w' => e = .returned (.tuple #[]) ∧ w' = w := by
  go_enter Try.func30, Try.ntmps30
  go_wp2
  go_end0
  exact ⟨rfl, rfl⟩
theorem noop32 (w : World) : Calls Try.prog 32 #[] w fun e w' => e = .returned (.tuple #[]) ∧ w' = w := by
  go_enter Try.func32, Try.ntmps32
  go_wp2
  go_end0
  exact ⟨rfl, rfl⟩
theorem noop44 (w : World) : Calls Try.prog 44 #[] w fun e w' => e = .returned (.tuple #[]) ∧ w' = w := by
  go_enter Try.func44, Try.ntmps44
  go_wp2
  go_end0
  exact ⟨rfl, rfl⟩
/-- A row, as a value. -/
structure RowV (w : World) (v : Value) (l : List Int) : Prop where
  ex : ∃ A c, v = .slice A l.length c ∧ l.length ≤ c ∧ Kd.C (Kd.int .u8) w A l.length l
theorem RowV.below {w w' : World} {v : Value} {l : List Int} (h : RowV w v l) (hb : Below w.heap.size w w') : RowV w' v l := by
  obtain ⟨A, c, h1, h2, h4⟩ := h.ex
  exact ⟨A, c, h1, h2, Kd.C_below h4 hb⟩
theorem After.pre {w w1 w2 : World} {B d mb : Nat} {O : Nat → Prop} {m : DS} (h : After w1 w2 B O d mb m) (hb : Below w.heap.size w w1) (hB : B ≤ w.heap.size) : After w w2 B O d mb m := by
  obtain ⟨O', h1, h2, h3, h4⟩ := h
  refine ⟨O', h1, fun k hk => (h2 k hk).imp id (fun h => Nat.le_trans hb.size h), (Kept.of_below hb _).then_ h3 (fun k hk => Or.inl hk), (hb.mono hB).trans h4⟩
theorem After.post {w w1 w2 : World} {B d mb : Nat} {O : Nat → Prop} {m : DS} (h : After w1 w2 B O d mb m) (hk : Kept w w1 (fun k => k = d)) (hb : Below B w w1) : After w w2 B O d mb m := by
  obtain ⟨O', h1, h2, h3, h4⟩ := h
  exact ⟨O', h1, fun k hk' => (h2 k hk').imp id (fun h => Nat.le_trans hk.1 h), (hk.mono (fun k e => Or.inl e)).then_ h3 (fun k hk => Or.inl hk), hb.trans h4⟩
theorem IsD.base_lt {W : World} {B d mb : Nat} {O : Nat → Prop} {m : DS} (h : IsD W B O d mb m) : B ≤ W.heap.size := Nat.le_trans h.base.1 (Nat.le_of_lt (blk_lt h.blk))
theorem After.below {w w1 : World} {B d mb : Nat} {O : Nat → Prop} {m : DS} (h : IsD w1 B O d mb m) (hb : Below w.heap.size w w1) (hB : B ≤ w.heap.size) : After w w1 B O d mb m := (After.same h).pre hb hB
theorem IsD.ne_cell {W : World} {B d mb : Nat} {O : Nat → Prop} {m : DS} (h : IsD W B O d mb m) {a : Addr} {v : Value} (ha : W.cell? a = some v) : a.block ≠ mb := by
  intro e
  obtain ⟨_, D, ⟨es, clock, h1, _⟩, _⟩ := h.files
  unfold World.cell? at ha
  rw [e, h1] at ha
  simp at ha
theorem cell_kept {w w' : World} {S : Nat → Prop} (hk : Kept w w' S) {a : Addr} {v : Value} (ha : w.cell? a = some v) (hn : ¬ S a.block) : w'.cell? a = some v :=
  (World.cell?_of_block (hk.2 a.block (World.block_lt_of_cell? w a ha) hn)).trans ha
/-- Two rows, put together and laid as a file. -/
theorem concat_store (w : World) {B d mb : Nat} {O : Nat → Prop} {m : DS} (h : IsD w B O d mb m) {A1 A2 : Option Addr} {c1 c2 vb : Nat} {l1 l2 : List Int} (hv : w.heap[vb]? = some (.cells #[.slice A1 l1.length c1, .slice A2 l2.length c2] 27 (0, 0))) (h1 : Kd.C (Kd.int .u8) w A1 l1.length l1) (h2 : Kd.C (Kd.int .u8) w A2 l2.length l2) (hlen : l1.length + l2.length ≤ 1000000) (hy1 : Bytes l1) (hy2 : Bytes l2) {p : ByteArray} (hp : p.size ≤ 140737488355328) (hl : m.files.length < 1000000) :
    Calls Try.prog 49 #[.slice (some ⟨vb, 0, none⟩) 2 2] w fun e w2 => ∃ v w3, e = .returned v ∧ Below w.heap.size w w2 ∧ (Instr.mapUpdate 54 (.map (some mb)) (.string p) v).run Try.prog w2 = .ok () w3 ∧ After w w3 B O d mb { m with files := putF m.files ⟨p, strOfNums (l1 ++ l2)⟩ } ∧ Kept w w3 (fun k => k = mb) := by
  refine (concat_calls w hv h1 h2 hlen).mono ?_
  rintro e w2 ⟨v, rfl, hR, hB⟩
  have hD := (h.below hB).own hR (blk_lt h.blk) h.files.lt
  obtain ⟨w3, hrun, hF, hT⟩ := hD.files.store (s := strOfNums (l1 ++ l2)) hp hl (by rw [bytesOf_str (fun x hx => (List.mem_append.mp hx).elim (hy1 x) (hy2 x))]; exact BRow.of_R hR O) hD.ne.2
  have hK : Kept w w3 (fun k => k = mb) := (Kept.of_below hB _).then_ (kept_turned hT) (fun k hk => Or.inl hk)
  refine ⟨v, w3, rfl, hB, hrun, ⟨_, hD.turned hT hF, ?_, hK.mono (fun k hk => Or.inr hk), (hB.mono h.base_lt).trans (below_turned hT h.base.2 hD.files.lt)⟩, hK⟩
  rintro k (hk | hk)
  · exact Or.inl hk
  · exact Or.inr ((Kd.R_bound hR).1 k hk).2.1
set_option maxRecDepth 100000 in
set_option maxHeartbeats 4000000 in
theorem lay1_calls (W : World) {B d mb bo bm bd bn : Nat} {O : Nat → Prop} {m : DS} (h : IsD W B O d mb m) {ov mv : Value} {own more : List Int} {p : ByteArray}
    (h1 : W.cell? ⟨bo, 0, none⟩ = some ov) (h2 : W.cell? ⟨bm, 0, none⟩ = some mv) (h3 : W.cell? ⟨bd, 0, none⟩ = some (.pointer (some ⟨d, 0, none⟩))) (h4 : W.cell? ⟨bn, 0, none⟩ = some (.string p))
    (ho : RowV W ov own) (hm : RowV W mv more) (hyo : Bytes own) (hym : Bytes more) (hlen : own.length + more.length ≤ 1000000) (hp : p.size ≤ 140737488355328) (hl : m.files.length < 1000000) (hk : 0 ≤ m.keep) :
    Calls Try.prog 48 #[.pointer (some ⟨bo, 0, none⟩), .pointer (some ⟨bm, 0, none⟩), .pointer (some ⟨bd, 0, none⟩), .pointer (some ⟨bn, 0, none⟩)] W fun e w' => e = .returned (.tuple #[]) ∧ After W w' B O d mb { m with files := putF m.files ⟨p, strOfNums (own ++ more.take m.keep.toNat)⟩ } := by
  obtain ⟨A1, c1, rfl, hc1, hC1⟩ := ho.ex
  obtain ⟨A2, c2, rfl, hc2, hC2⟩ := hm.ex
  obtain ⟨q, hq⟩ : ∃ q : Nat, (if (more.length : Int) < m.keep then (more.length : Int) else m.keep) = (q : Int) := ⟨(if (more.length : Int) < m.keep then (more.length : Int) else m.keep).toNat, by split <;> omega⟩
  have hq1 : q ≤ more.length := by split at hq <;> omega
  have hqt : more.take m.keep.toNat = more.take q := by
    rcases Nat.le_total m.keep.toNat more.length with hh | hh
    · have : q = m.keep.toNat := by split at hq <;> omega
      rw [this]
    · have : q = more.length := by split at hq <;> omega
      rw [this, List.take_of_length_le hh, List.take_length]
  rw [hqt]
  have hCq := Kd.C_take hC2 hq1
  have hql : (more.take q).length = q := by rw [List.length_take]; omega
  have H := Aside0.mk h
  have HQL := Aside0.mk hql
  have HY1 := Aside0.mk hyo
  have HY2 := Aside0.mk hym
  have HLEN := Aside0.mk hlen
  have HP := Aside0.mk hp
  have HL := Aside0.mk hl
  have HQ1 := Aside0.mk hq1
  obtain ⟨n1, hn1⟩ : ∃ n1, own.length = n1 := ⟨_, rfl⟩
  obtain ⟨n2, hn2⟩ : ∃ n2, more.length = n2 := ⟨_, rfl⟩
  have HN1 := Aside0.mk hn1
  have HN2 := Aside0.mk hn2
  rw [hn2] at hq
  rw [hn1] at h1
  rw [hn2] at h2
  have q0 : (0 : Int) ≤ (q : Int) := by omega
  have q1 : (q : Int) ≤ (c2 : Int) := by omega
  have g0 := h.c0
  have g4 := h.c4
  obtain ⟨w1, hw1⟩ : ∃ w1, W.drew.alloc (.cells #[.slice A1 n1 c1, .slice A2 q c2] 27) = w1 := ⟨_, rfl⟩
  have HB1 : Aside0 (Below W.heap.size W w1) := ⟨by rw [← hw1]; exact below_alloc (below_drew (Below.refl _ _)) _⟩
  have HV1 : Aside0 (w1.heap[W.heap.size]? = some (.cells #[.slice A1 own.length c1, .slice A2 (more.take q).length c2] 27 (0, 0))) := ⟨by rw [← hw1, hn1, hql]; exact heap_alloc_new W.drew _⟩
  have H1 : Aside0 (IsD w1 B O d mb m) := ⟨h.below HB1.out⟩
  have HC1 := Aside0.mk (Kd.C_below hC1 HB1.out)
  have HCQ := Aside0.mk (Kd.C_below hCq HB1.out)
  have HS1 : Aside0 (W.heap.size ≤ w1.heap.size) := ⟨HB1.out.size⟩
  clear h ho hm hyo hym hlen hp hl hk hC1 hC2 hCq hql hqt hq1 hc1 hc2 hn1 hn2
  have k1 := pw_cell_below HB1.out h1
  have k2 := pw_cell_below HB1.out h2
  have k3 := pw_cell_below HB1.out h3
  have k4 := pw_cell_below HB1.out h4
  have k5 := H1.out.c0
  have k6 := H1.out.c4
  have N1 := Aside0.mk (H1.out.ne_cell k1)
  have N2 := Aside0.mk (H1.out.ne_cell k2)
  have N3 := Aside0.mk (H1.out.ne_cell k3)
  have N4 := Aside0.mk (H1.out.ne_cell k4)
  have N5 := Aside0.mk (H1.out.ne_cell k5)
  have b1 := World.new_ne W _ h1
  have b2 := World.new_ne W _ h2
  have b3 := World.new_ne W _ h3
  have b4 := World.new_ne W _ h4
  have b5 := World.new_ne W _ g0
  have b6 := World.new_ne W _ g4
  go_enter Try.func48, Try.ntmps48
  go_region_held3 (fun w' => w'.cell? ⟨bo, 0, none⟩ = some (.slice A1 n1 c1) ∧ w'.cell? ⟨bm, 0, none⟩ = some (.slice A2 n2 c2) ∧ w'.cell? ⟨bd, 0, none⟩ = some (.pointer (some ⟨d, 0, none⟩)) ∧ w'.cell? ⟨bn, 0, none⟩ = some (.string p) ∧ w'.cell? ⟨d, 0, none⟩ = some (.map (some mb)) ∧ w'.cell? ⟨d, 4, none⟩ = some (.int .i64 m.keep))
    (first | (refine ⟨?_, ?_, ?_, ?_, ?_, ?_⟩ <;> assumption) | go_keep)
    (first | (go_at_call 49; refine (concat_store w1 H1.out HV1.out HC1.out HCQ.out (by have := HLEN.out; have := HQL.out; have := HQ1.out; omega) HY1.out (fun x hx => HY2.out x (List.mem_of_mem_take hx)) HP.out HL.out).mono ?_; rintro e w2 ⟨v, w3, rfl, hB, hrun, hA, hK⟩; have HA := Aside0.mk hA; have i1 := pw_cell_below hB k1; have i2 := pw_cell_below hB k2; have i3 := pw_cell_below hB k3; have i4 := pw_cell_below hB k4; have i5 := pw_cell_below hB k5; have i6 := pw_cell_below hB k6; have j1 := cell_kept hK k1 N1.out; have j2 := cell_kept hK k2 N2.out; have j3 := cell_kept hK k3 N3.out; have j4 := cell_kept hK k4 N4.out; have j5 := cell_kept hK k5 N5.out; have j6 := cell_kept hK k6 N5.out; clear hA hB hK))
  go_end0
  exact ⟨rfl, HA.out.pre HB1.out H.out.base_lt⟩
end Go.Proofs.Ytieodkghfceflaa.MD
namespace Go.Proofs.Ytieodkghfceflaa.MD
open Go.Proofs.Ytieodkghfceflaa.Opening
open Go.RowKit Go.Proofs.YtieodkghfceflaaW.PrintWords Go.Proofs.YtieodkghfceflaaW.PrintLast Go.Proofs.YtieodkghfceflaaW.PrintMore
attribute [local go_sem] max2_int min2_int max_two min_two max_three min_three max_four min_four   -- for this text's walks alone
/-- What a disk must be for its numbers to stay in their type. -/
structure OkD (m : DS) : Prop where
  len : m.files.length < 1000000
  writes : 0 ≤ m.writes ∧ m.writes ≤ 1000000000
  keep : 0 ≤ m.keep
  after : m.armed = true → 0 ≤ m.after
  after2 : m.after ≤ 9223372036854775807
  sizes : ∀ x ∈ m.files, x.f1.size ≤ 262144
/-- Is there no room? -/
def fullD (m : DS) (p : ByteArray) (own more : List Int) : Bool := decide (own.length + more.length > 262144) || (!(fileOf m.files p).isSome && decide (m.files.length ≥ 32))
/-- A raw write that lays a file. -/
def layD (m : DS) (p : ByteArray) (own more : List Int) : DS × Int :=
  if fullD m p own more = true then (m, 7)
  else if m.dead = true then (m, 8)
  else if m.armed = true ∧ m.after = 0 then ({ m with dead := true, armed := false, files := putF m.files ⟨p, strOfNums (own ++ more.take m.keep.toNat)⟩ }, 8)
  else ({ nextD m with files := putF m.files ⟨p, strOfNums (own ++ more)⟩ }, 0)
theorem IsD.ne_blk {W : World} {B d mb : Nat} {O : Nat → Prop} {m : DS} (h : IsD W B O d mb m) {g : Nat} {cs : Array Value} {t : Nat} {o : Nat × Nat} (hb : W.heap[g]? = some (.cells cs t o)) (ht : t ≠ 56) : g ≠ d := by
  rintro rfl
  have := h.blk
  rw [hb] at this
  injection this with this
  injection this with _ h2 _
  exact ht h2
set_option maxRecDepth 100000 in
set_option maxHeartbeats 8000000 in
theorem lay_calls (w : World) {B d mb : Nat} {O : Nat → Prop} {m : DS} (h : IsD w B O d mb m) {ov pv : Value} {own more : List Int} {p : ByteArray}
    (ho : RowV w ov own) (hod : ∀ ad n c, ov = .slice (some ad) n c → 0 < n → ad.block ≠ d) (hm : PartsV w pv more) (hyo : Bytes own) (hym : Bytes more) (hlo : own.length ≤ 262144) (hlm : more.length ≤ 140737488355328) (hp : p.size ≤ 140737488355328) (hk : OkD m) :
    Calls Try.prog 25 #[.pointer (some ⟨d, 0, none⟩), .string p, ov, pv] w fun e w' => e = .returned (.int .i64 (layD m p own more).2) ∧ After w w' B O d mb (layD m p own more).1 := by
  obtain ⟨A1, c1, rfl, hc1, hC1⟩ := ho.ex
  obtain ⟨wa, hwa⟩ : ∃ wa, w.alloc (.cells #[.pointer (some ⟨d, 0, none⟩)] 23) = wa := ⟨_, rfl⟩
  obtain ⟨wb, hwb⟩ : ∃ wb, wa.alloc (.cells #[.string p] 9) = wb := ⟨_, rfl⟩
  obtain ⟨n1, hn1⟩ : ∃ n1, own.length = n1 := ⟨_, rfl⟩
  obtain ⟨wc, hwc⟩ : ∃ wc, wb.alloc (.cells #[.slice A1 n1 c1] 27) = wc := ⟨_, rfl⟩
  have hba : Below w.heap.size w wa := by rw [← hwa]; exact below_alloc (Below.refl _ _) _
  have hbb : Below wa.heap.size wa wb := by rw [← hwb]; exact below_alloc (Below.refl _ _) _
  have hbc : Below wb.heap.size wb wc := by rw [← hwc]; exact below_alloc (Below.refl _ _) _
  have hac : Below wa.heap.size wa wc := below_then hbb hbb.size hbc
  have hwc' : Below w.heap.size w wc := below_then hba hba.size hac
  have hca : wa.heap[w.heap.size]? = some (.cells #[.pointer (some ⟨d, 0, none⟩)] 23 (0, 0)) := by rw [← hwa]; exact heap_alloc_new w _
  have hcb : wb.heap[wa.heap.size]? = some (.cells #[.string p] 9 (0, 0)) := by rw [← hwb]; exact heap_alloc_new wa _
  have hcc : wc.heap[wb.heap.size]? = some (.cells #[.slice A1 n1 c1] 27 (0, 0)) := by rw [← hwc]; exact heap_alloc_new wb _
  have HBD := Aside0.mk ((hac.block _ (blk_lt hca)).trans hca)
  have HBN := Aside0.mk ((hbc.block _ (blk_lt hcb)).trans hcb)
  have HBO := Aside0.mk hcc
  have HW := Aside0.mk hwc'
  have H := Aside0.mk (h.below hwc')
  have HC1 := Aside0.mk (Kd.C_below hC1 hwc')
  have HPV := Aside0.mk (hm.below hwc')
  have HY1 := Aside0.mk hyo
  have HY2 := Aside0.mk hym
  have HP := Aside0.mk hp
  have HLO := Aside0.mk hlo
  have HLM := Aside0.mk hlm
  have HK := Aside0.mk hk
  have HN1 := Aside0.mk hn1
  have HBL := Aside0.mk h.base_lt
  have HDL := Aside0.mk (blk_lt h.blk)
  have HA1 : Aside0 (∀ ad, A1 = some ad → 0 < own.length → ad.block ≠ d) := ⟨fun ad e h0 => hod ad own.length c1 (by rw [e]) h0⟩
  have HCC := Aside0.mk hc1
  obtain ⟨n2, hn2⟩ : ∃ n2, more.length = n2 := ⟨_, rfl⟩
  have HN2 := Aside0.mk hn2
  rw [hn1]
  clear h ho hm hyo hym hlo hlm hp hk hC1 hba hbb hbc hac hwc' hca hcb hcc hc1 hod hn1 hn2
  go_enter Try.func25, Try.ntmps25
  go_upto_region 2 with (go_at_call 47; refine (join_calls wc HPV.out HY2.out HLM.out).mono ?_; rintro e w4 ⟨v4, rfl, ⟨A2, c2, hv4, hc2, hC2, ht2⟩, hB4⟩; rw [HN2.out] at hv4; subst hv4; have HB4 := Aside0.mk hB4; have HC2 := Aside0.mk hC2; have HL2 := Aside0.mk hc2; have HA2 : Aside0 (∀ ad, A2 = some ad → 0 < more.length → ad.block ≠ d) := ⟨fun ad e h0 => (by have h3 := (ht2 ad e h0).1; have h4 := HDL.out; have h5 := HW.out.size; omega)⟩; clear hB4 hC2 hc2 ht2; obtain ⟨w4a, hw4a⟩ : ∃ w4a, w4.alloc (.cells #[.slice none 0 0] 27) = w4a := ⟨_, rfl⟩; obtain ⟨w5, hw5⟩ : ∃ w5, w4a.setCell ⟨w4.heap.size, 0, none⟩ (.slice A2 n2 c2) = w5 := ⟨_, rfl⟩; have hz : w4a.heap[w4.heap.size]? = some (.cells #[.slice none 0 0] 27 (0, 0)) := (by rw [← hw4a]; exact heap_alloc_new w4 _); have z0 : w4a.cell? ⟨w4.heap.size, 0, none⟩ = some (.slice none 0 0) := (blk_cell hz 0).trans rfl; have zf : w4a.frozen? ⟨w4.heap.size, 0, none⟩ = false := blk_frozen hz 0; have hz5 := blk_set hz 0 (.slice A2 n2 c2); rw [hw5] at hz5; have HZ5 : Aside0 (w5.heap[w4.heap.size]? = some (.cells #[.slice A2 n2 c2] 27 (0, 0))) := ⟨by simpa using hz5⟩; have hb45 : Below w4.heap.size w4 w5 := (by rw [← hw5, ← hw4a]; exact (below_alloc (Below.refl _ _) _).setCell (p := ⟨w4.heap.size, 0, none⟩) (Nat.le_refl _) _); have HB5 := Aside0.mk (below_then HB4.out HB4.out.size hb45); have HC25 := Aside0.mk (Kd.C_below HC2.out hb45); clear hz hz5 hb45)
  clear hw4a hw5 z0 zf hwa hwb hwc
  obtain ⟨w6, hw6⟩ : ∃ w6, w5.drew = w6 := ⟨_, rfl⟩
  have HB6 : Aside0 (Below wc.heap.size wc w6) := ⟨by rw [← hw6]; exact below_drew HB5.out⟩
  have H6 := Aside0.mk (H.out.below HB6.out)
  have HX6 : Aside0 (w6.heap[w4.heap.size]? = some (.cells #[.slice A2 n2 c2] 27 (0, 0))) := ⟨by rw [← hw6]; exact HZ5.out⟩
  have HR6 : Aside0 (Kd.C (Kd.int .u8) w6 A2 more.length more) := ⟨by rw [← hw6]; exact Kd.C_drew HC25.out⟩
  have HD6 := Aside0.mk ((HB6.out.block _ (blk_lt HBD.out)).trans HBD.out)
  have HN6 := Aside0.mk ((HB6.out.block _ (blk_lt HBN.out)).trans HBN.out)
  have HO6 := Aside0.mk ((HB6.out.block _ (blk_lt HBO.out)).trans HBO.out)
  have HC6 := Aside0.mk (Kd.C_below HC1.out HB6.out)
  have f1 : w6.cell? ⟨w.heap.size, 0, none⟩ = some (.pointer (some ⟨d, 0, none⟩)) := (blk_cell HD6.out 0).trans rfl
  have f2 : w6.cell? ⟨wa.heap.size, 0, none⟩ = some (.string p) := (blk_cell HN6.out 0).trans rfl
  have f3 : w6.cell? ⟨wb.heap.size, 0, none⟩ = some (.slice A1 n1 c1) := (blk_cell HO6.out 0).trans rfl
  have f4 : w6.cell? ⟨w4.heap.size, 0, none⟩ = some (.slice A2 n2 c2) := (blk_cell HX6.out 0).trans rfl
  have f5 := H6.out.c0
  obtain ⟨lv, hrun, hlv⟩ := H6.out.files.look_ok HP.out
  obtain ⟨thr, hthr⟩ : ∃ thr, (fileOf m.files p).isSome = thr := ⟨_, rfl⟩
  rw [hthr] at hrun
  have HT := Aside0.mk hthr
  clear hlv hthr
  go_region_held3 (fun w' => w'.cell? ⟨w.heap.size, 0, none⟩ = some (.pointer (some ⟨d, 0, none⟩)) ∧ w'.cell? ⟨wa.heap.size, 0, none⟩ = some (.string p) ∧ w'.cell? ⟨d, 0, none⟩ = some (.map (some mb)) ∧ (Instr.lookup 54 (.map (some mb)) (.string p) true).run Try.prog w' = .ok (.tuple #[lv, .bool thr]) w')
    (first | (refine ⟨?_, ?_, ?_, ?_⟩ <;> assumption) | go_keep)
    (fail)
  rename_i hheld
  clear hheld hrun
  go_upto_region 3 with (fail)
  have s1 : IntKind.i64.wrap ((n1 : Int) + (n2 : Int)) = ((n1 : Int) + (n2 : Int)) := by have := HN1.out; have := HN2.out; have := HLO.out; have := HLM.out; rw [i64_w]; unfold wrap64; omega
  have hlen := H6.out.files.len 3
  obtain ⟨k, hk⟩ : ∃ k, m.files.length = k := ⟨_, rfl⟩
  have HKL := Aside0.mk hk
  rw [hk] at hlen
  clear hk
  go_cut [40] (fun s wx => s = .bool (fullD m p own more) ∧ wx = w6)
  case first =>
    by_cases c1 : n1 + n2 > 262144
    · have d1 : decide ((n1 : Int) + (n2 : Int) > 262144) = true := decide_eq_true (by omega)
      have hF : Aside0 (fullD m p own more = true) := ⟨by unfold fullD; rw [HN1.out, HN2.out, decide_eq_true c1]; rfl⟩
      clear c1
      go_wp2
      go_meet
      case rel => exact ⟨by rw [hF.out], rfl⟩
    · have d1 : decide ((n1 : Int) + (n2 : Int) > 262144) = false := decide_eq_false (by omega)
      cases thr with
      | true =>
        have hF : Aside0 (fullD m p own more = false) := ⟨by unfold fullD; rw [HN1.out, HN2.out, decide_eq_false c1, HT.out]; rfl⟩
        clear c1
        go_wp2
        go_meet
        case rel => exact ⟨by rw [hF.out], rfl⟩
      | false =>
        by_cases c2 : k ≥ 32
        · have d2 : decide ((k : Int) ≥ 32) = true := decide_eq_true (by omega)
          have hF : Aside0 (fullD m p own more = true) := ⟨by unfold fullD; rw [HN1.out, HN2.out, decide_eq_false c1, HT.out, HKL.out, decide_eq_true c2]; rfl⟩
          clear c1 c2
          go_wp2
          go_meet
          case rel => exact ⟨by rw [hF.out], rfl⟩
        · have d2 : decide ((k : Int) ≥ 32) = false := decide_eq_false (by omega)
          have hF : Aside0 (fullD m p own more = false) := ⟨by unfold fullD; rw [HN1.out, HN2.out, decide_eq_false c1, HT.out, HKL.out, decide_eq_false c2]; rfl⟩
          clear c1 c2
          go_wp2
          go_meet
          case rel => exact ⟨by rw [hF.out], rfl⟩
  case rest =>
    obtain ⟨rfl, hcut⟩ := hcut
    have hcut2 := hcut.symm
    subst hcut2
    have HB := Aside0.mk (below_then HW.out HW.out.size HB6.out)
    clear hw6 HB6 HB5 HZ5 HC25 hlen s1 HW H HBD HBN HBO HC1 HC2 HB4 HPV
    cases hF : fullD m p own more with
    | true =>
      have HF := Aside0.mk hF
      clear hF
      go_wp2
      go_ret
      have e : layD m p own more = (m, 7) := by unfold layD; rw [if_pos HF.out]
      rw [e]
      exact ⟨rfl, After.below H6.out HB.out HBL.out⟩
    | false =>
      have HF := Aside0.mk hF
      clear hF
      by_cases hd : m.dead = true
      · have HDE := Aside0.mk hd
        clear hd
        go_wp2_with (go_at_call 29; refine (begin_dead _ H6.out _ HDE.out).mono ?_; rintro e w7 ⟨rfl, rfl⟩)
        go_ret
        have e : layD m p own more = (m, 8) := by unfold layD; rw [if_neg (by rw [HF.out]; simp), if_pos HDE.out]
        rw [e]
        exact ⟨rfl, After.below H6.out HB.out HBL.out⟩
      · by_cases ha : m.armed = true ∧ m.after = 0
        · have HDE : Aside0 (m.dead = false) := ⟨by simpa using hd⟩
          have HAR := Aside0.mk ha
          clear hd ha
          have HT2 : Aside0 (∀ W, IsD W B O d mb { m with dead := true, armed := false } → Kept w6 W (fun k => k = d) → Below B w6 W → Calls Try.prog 48 #[.pointer (some ⟨wb.heap.size, 0, none⟩), .pointer (some ⟨w4.heap.size, 0, none⟩), .pointer (some ⟨w.heap.size, 0, none⟩), .pointer (some ⟨wa.heap.size, 0, none⟩)] W fun e w' => e = .returned (.tuple #[]) ∧ After w6 w' B O d mb { m with dead := true, armed := false, files := putF m.files ⟨p, strOfNums (own ++ more.take m.keep.toNat)⟩ }) := ⟨fun W hI hKd hBd => by
            have n1' := H6.out.ne_blk HO6.out (by decide)
            have n2' := H6.out.ne_blk HX6.out (by decide)
            have n3' := H6.out.ne_blk HD6.out (by decide)
            have n4' := H6.out.ne_blk HN6.out (by decide)
            refine (lay1_calls W (m := { m with dead := true, armed := false }) hI (ov := .slice A1 n1 c1) (mv := .slice A2 n2 c2) (own := own) (more := more) (cell_kept hKd f3 n1') (cell_kept hKd f4 n2') (cell_kept hKd f1 n3') (cell_kept hKd f2 n4') ⟨A1, c1, by rw [HN1.out], HCC.out, Kd.C_foot_neS (fun h => h) HC6.out HA1.out W hKd⟩ ⟨A2, c2, by rw [HN2.out], HL2.out, Kd.C_foot_neS (fun h => h) HR6.out HA2.out W hKd⟩ HY1.out HY2.out ?_ HP.out HK.out.len HK.out.keep).mono ?_
            · have := HF.out
              unfold fullD at this
              have hx := of_decide_eq_false (Bool.or_eq_false_iff.mp this).1
              omega
            · rintro e w' ⟨rfl, hA⟩
              exact ⟨rfl, hA.post hKd hBd⟩⟩
          go_wp2_with (go_at_call 29; refine (begin_torn _ H6.out 48 _ (enters_of Try.func48 (by kernel_rfl) rfl) HDE.out HAR.out.1 HAR.out.2 _ HT2.out).mono ?_; rintro e w7 ⟨rfl, hT7⟩; have HT7 := Aside0.mk hT7; clear hT7)
          go_ret
          have e : layD m p own more = ({ m with dead := true, armed := false, files := putF m.files ⟨p, strOfNums (own ++ more.take m.keep.toNat)⟩ }, 8) := by unfold layD; rw [if_neg (by rw [HF.out]; simp), if_neg (by rw [HDE.out]; simp), if_pos HAR.out]
          rw [e]
          exact ⟨rfl, HT7.out.pre HB.out HBL.out⟩
        · have HDE : Aside0 (m.dead = false) := ⟨by simpa using hd⟩
          have HAR := Aside0.mk ha
          clear hd ha
          go_upto_region 7 with (go_at_call 29; refine (begin_done _ H6.out _ HDE.out (fun h1 h2 => HAR.out ⟨h1, h2⟩) HK.out.after HK.out.writes HK.out.after2).mono ?_; rintro e w7 ⟨rfl, hI7, hK7, hB7⟩; have HI7 := Aside0.mk hI7; have HK7 := Aside0.mk hK7; have HB7 := Aside0.mk hB7; clear hI7 hK7 hB7)
          have n1' := H6.out.ne_blk HO6.out (by decide)
          have n2' := H6.out.ne_blk HX6.out (by decide)
          have n3' := H6.out.ne_blk HD6.out (by decide)
          have n4' := H6.out.ne_blk HN6.out (by decide)
          have g1 := cell_kept HK7.out f1 n3'
          have g2 := cell_kept HK7.out f2 n4'
          have g3 := cell_kept HK7.out f3 n1'
          have g4 := cell_kept HK7.out f4 n2'
          have g5 := HI7.out.c0
          have HC7 := Aside0.mk (Kd.C_foot_neS (fun h => h) HC6.out HA1.out w7 HK7.out)
          have HR7 := Aside0.mk (Kd.C_foot_neS (fun h => h) HR6.out HA2.out w7 HK7.out)
          clear n1' n2' n3' n4' f1 f2 f3 f4 f5
          obtain ⟨w8, hw8⟩ : ∃ w8, w7.drew.alloc (.cells #[.slice A1 n1 c1, .slice A2 n2 c2] 27) = w8 := ⟨_, rfl⟩
          have HB8 : Aside0 (Below w7.heap.size w7 w8) := ⟨by rw [← hw8]; exact below_alloc (below_drew (Below.refl _ _)) _⟩
          have HV8 : Aside0 (w8.heap[w7.heap.size]? = some (.cells #[.slice A1 own.length c1, .slice A2 more.length c2] 27 (0, 0))) := ⟨by rw [← hw8, HN1.out, HN2.out]; exact heap_alloc_new w7.drew _⟩
          have HI8 := Aside0.mk (HI7.out.below HB8.out)
          have HC8 := Aside0.mk (Kd.C_below HC7.out HB8.out)
          have HR8 := Aside0.mk (Kd.C_below HR7.out HB8.out)
          have k1 := pw_cell_below HB8.out g1
          have k2 := pw_cell_below HB8.out g2
          have k3 := pw_cell_below HB8.out g3
          have k4 := pw_cell_below HB8.out g4
          have k5 := pw_cell_below HB8.out g5
          have N1 := Aside0.mk (HI8.out.ne_cell k1)
          have N2 := Aside0.mk (HI8.out.ne_cell k2)
          have N3 := Aside0.mk (HI8.out.ne_cell k3)
          have N4 := Aside0.mk (HI8.out.ne_cell k4)
          have N5 := Aside0.mk (HI8.out.ne_cell k5)
          have LEN : Aside0 (own.length + more.length ≤ 1000000) := ⟨by
            have := HF.out
            unfold fullD at this
            have hx := of_decide_eq_false (Bool.or_eq_false_iff.mp this).1
            omega⟩
          go_region_held3 (fun w' => w'.cell? ⟨w.heap.size, 0, none⟩ = some (.pointer (some ⟨d, 0, none⟩)) ∧ w'.cell? ⟨wa.heap.size, 0, none⟩ = some (.string p) ∧ w'.cell? ⟨wb.heap.size, 0, none⟩ = some (.slice A1 n1 c1) ∧ w'.cell? ⟨w4.heap.size, 0, none⟩ = some (.slice A2 n2 c2) ∧ w'.cell? ⟨d, 0, none⟩ = some (.map (some mb)))
            (first | (refine ⟨?_, ?_, ?_, ?_, ?_⟩ <;> assumption) | go_keep)
            (first | (go_at_call 49; refine (concat_store w8 HI8.out HV8.out HC8.out HR8.out LEN.out HY1.out HY2.out HP.out HK.out.len).mono ?_; rintro e w9 ⟨v, w10, rfl, hB, hrun, hA, hK⟩; have HA := Aside0.mk hA; have i1 := pw_cell_below hB k1; have i2 := pw_cell_below hB k2; have i3 := pw_cell_below hB k3; have i4 := pw_cell_below hB k4; have i5 := pw_cell_below hB k5; have j1 := cell_kept hK k1 N1.out; have j2 := cell_kept hK k2 N2.out; have j3 := cell_kept hK k3 N3.out; have j4 := cell_kept hK k4 N4.out; have j5 := cell_kept hK k5 N5.out; clear hA hB hK))
          all_goals
            go_wp2
            go_ret
            have e : layD m p own more = ({ nextD m with files := putF m.files ⟨p, strOfNums (own ++ more)⟩ }, 0) := by unfold layD; rw [if_neg (by rw [HF.out]; simp), if_neg (by rw [HDE.out]; simp), if_neg HAR.out]
            rw [e]
            exact ⟨rfl, ((HA.out.pre HB8.out HI7.out.base_lt).post HK7.out HB7.out).pre HB.out HBL.out⟩
end Go.Proofs.Ytieodkghfceflaa.MD
namespace Go.Proofs.Ytieodkghfceflaa.MD
open Go.Proofs.Ytieodkghfceflaa.Opening
open Go.RowKit Go.Proofs.YtieodkghfceflaaW.PrintWords Go.Proofs.YtieodkghfceflaaW.PrintLast Go.Proofs.YtieodkghfceflaaW.PrintMore
def ownOf (m : DS) (p : ByteArray) : List Int := (fileOf m.files p).getD []
theorem ownOf_bytes (m : DS) (p : ByteArray) : Bytes (ownOf m p) := by
  unfold ownOf fileOf
  cases m.files.find? (fun x => decide (kB x.f0 = kB p)) with
  | none => intro x hx; simp at hx
  | some y => exact bytes_of y.f1
theorem OkD.own {m : DS} (h : OkD m) (p : ByteArray) : (ownOf m p).length ≤ 262144 := by
  unfold ownOf fileOf
  cases hf : m.files.find? (fun x => decide (kB x.f0 = kB p)) with
  | none => simp
  | some y =>
    have := h.sizes y (List.mem_of_find?_eq_some hf)
    simpa [bytesOf_length] using this
def putD (c : Int) (m : DS) (p : ByteArray) (more : List Int) : DS × Int := if c ≠ 0 then (m, c) else layD m p [] more
def appendD (c : Int) (m : DS) (p : ByteArray) (more : List Int) : DS × Int := if c ≠ 0 then (m, c) else layD m p (ownOf m p) more
set_option maxRecDepth 100000 in
set_option maxHeartbeats 4000000 in
theorem put_calls (k : Nat) (w : World) {B d mb : Nat} {O : Nat → Prop} {m : DS} (h : IsD w B O d mb m) {pv : Value} {more : List Int} {p : ByteArray} (hm : PartsV w pv more) (hym : Bytes more) (hlm : more.length ≤ 140737488355328) (hp : p.size ≤ 140737488355328) (hk : OkD m) (c : Int) (hc : path_Name.f k p = some c) :
    Calls Try.prog 11 #[.pointer (some ⟨d, 0, none⟩), .string p, pv] w fun e w' => e = .returned (.int .i64 (putD c m p more).2) ∧ After w w' B O d mb (putD c m p more).1 := by
  have H := Aside0.mk h
  have HM := Aside0.mk hm
  have HY := Aside0.mk hym
  have HL := Aside0.mk hlm
  have HP := Aside0.mk hp
  have HK := Aside0.mk hk
  have HC := Aside0.mk hc
  clear h hm hym hlm hp hk hc
  unfold putD
  by_cases h0 : c = 0
  · have hq : (c != 0) = false := by simpa using h0
    rw [if_neg (by simpa using h0)]
    clear h0
    go_enter Try.func11, Try.ntmps11
    go_wp2_with (first | (go_at_call 24; refine (path_Name.calls k p c w HC.out).mono ?_; rintro e w1 ⟨rfl, hb⟩; have HB := Aside0.mk hb.below; clear hb) | (go_at_call 25; refine (lay_calls w1 (H.out.below HB.out) (own := []) ⟨none, 0, rfl, Nat.le_refl _, Kd.C_nil _ _⟩ (fun ad n c' e h0 => by cases e) (HM.out.below HB.out) (fun x hx => by cases hx) HY.out (by simp) HL.out HP.out HK.out).mono ?_; rintro e w2 ⟨rfl, hA⟩; have HA := Aside0.mk hA; clear hA))
    go_ret
    exact ⟨rfl, HA.out.pre HB.out H.out.base_lt⟩
  · have hq : (c != 0) = true := by simpa using h0
    rw [if_pos (by simpa using h0)]
    clear h0
    go_enter Try.func11, Try.ntmps11
    go_wp2_with (go_at_call 24; refine (path_Name.calls k p c w HC.out).mono ?_; rintro e w1 ⟨rfl, hb⟩; have HB := Aside0.mk hb.below; clear hb)
    go_ret
    exact ⟨rfl, After.below (H.out.below HB.out) HB.out H.out.base_lt⟩
set_option maxRecDepth 100000 in
set_option maxHeartbeats 4000000 in
theorem append_calls (k : Nat) (w : World) {B d mb : Nat} {O : Nat → Prop} {m : DS} (h : IsD w B O d mb m) {pv : Value} {more : List Int} {p : ByteArray} (hm : PartsV w pv more) (hym : Bytes more) (hlm : more.length ≤ 140737488355328) (hp : p.size ≤ 140737488355328) (hk : OkD m) (c : Int) (hc : path_Name.f k p = some c) :
    Calls Try.prog 9 #[.pointer (some ⟨d, 0, none⟩), .string p, pv] w fun e w' => e = .returned (.int .i64 (appendD c m p more).2) ∧ After w w' B O d mb (appendD c m p more).1 := by
  have H := Aside0.mk h
  have HM := Aside0.mk hm
  have HY := Aside0.mk hym
  have HL := Aside0.mk hlm
  have HP := Aside0.mk hp
  have HK := Aside0.mk hk
  have HC := Aside0.mk hc
  clear h hm hym hlm hp hk hc
  unfold appendD
  by_cases h0 : c = 0
  · have hq : (c != 0) = false := by simpa using h0
    rw [if_neg (by simpa using h0)]
    clear h0
    go_enter Try.func9, Try.ntmps9
    go_wp2_with (first | (go_at_call 24; refine (path_Name.calls k p c w HC.out).mono ?_; rintro e w1 ⟨rfl, hb⟩; have HB := Aside0.mk hb.below; clear hb; have H1 := Aside0.mk (H.out.below HB.out); have g0 := H1.out.c0; obtain ⟨v, hrun, A, c1, rfl, hc1, hC1, hO1⟩ := H1.out.files.look HP.out; have HC1 := Aside0.mk hC1; have HO1 := Aside0.mk hO1; have HCC := Aside0.mk hc1; clear hC1 hO1 hc1) | (go_at_call 25; refine (lay_calls w1 H1.out (own := ownOf m p) ⟨A, c1, rfl, HCC.out, HC1.out⟩ (fun ad n c' e h0 => by injection e with e1 e2; subst e2; exact fun hd => H1.out.ne.1 (hd ▸ (HO1.out ad e1 h0).1)) (HM.out.below HB.out) (ownOf_bytes m p) HY.out (HK.out.own p) HL.out HP.out HK.out).mono ?_; rintro e w2 ⟨rfl, hA⟩; have HA := Aside0.mk hA; clear hA))
    go_ret
    exact ⟨rfl, HA.out.pre HB.out H.out.base_lt⟩
  · have hq : (c != 0) = true := by simpa using h0
    rw [if_pos (by simpa using h0)]
    clear h0
    go_enter Try.func9, Try.ntmps9
    go_wp2_with (go_at_call 24; refine (path_Name.calls k p c w HC.out).mono ?_; rintro e w1 ⟨rfl, hb⟩; have HB := Aside0.mk hb.below; clear hb)
    go_ret
    exact ⟨rfl, After.below (H.out.below HB.out) HB.out H.out.base_lt⟩
/-- May the next raw write be done? The disk behind. -/
def goD (m : DS) : DS × Bool := if m.dead = true then (m, false) else if m.armed = true ∧ m.after = 0 then ({ m with dead := true, armed := false }, false) else (nextD m, true)
theorem goD_files (m : DS) : (goD m).1.files = m.files := by
  unfold goD
  split
  · rfl
  · split <;> rfl
theorem begin_noop (w : World) {B d mb : Nat} {O : Nat → Prop} {m : DS} (h : IsD w B O d mb m) (F : Nat) (eF : ∀ args w, (callFunc F args).run Try.prog w = .ok (.enter F args) w) (hF : ∀ W, Calls Try.prog F #[] W fun e w' => e = .returned (.tuple #[]) ∧ w' = W) (hk : OkD m) :
    Calls Try.prog 29 #[.pointer (some ⟨d, 0, none⟩), .func (.func F) #[] #[]] w fun e w' => e = .returned (.bool (goD m).2) ∧ IsD w' B O d mb (goD m).1 ∧ Kept w w' (fun k => k = d) ∧ Below B w w' := by
  unfold goD
  by_cases hd : m.dead = true
  · rw [if_pos hd]
    refine (begin_dead w h _ hd).mono ?_
    rintro e w' ⟨rfl, rfl⟩
    exact ⟨rfl, h, Kept.refl _ _, Below.refl _ _⟩
  · rw [if_neg hd]
    have hd' : m.dead = false := by simpa using hd
    by_cases ha : m.armed = true ∧ m.after = 0
    · rw [if_pos ha]
      exact begin_torn w h F #[] eF hd' ha.1 ha.2 (fun w' => IsD w' B O d mb { m with dead := true, armed := false } ∧ Kept w w' (fun k => k = d) ∧ Below B w w') (fun W h1 h2 h3 => (hF W).mono (by rintro e w' ⟨rfl, rfl⟩; exact ⟨rfl, h1, h2, h3⟩))
    · rw [if_neg ha]
      exact begin_done w h _ hd' (fun h1 h2 => ha ⟨h1, h2⟩) hk.after hk.writes hk.after2
end Go.Proofs.Ytieodkghfceflaa.MD
namespace Go.Proofs.Ytieodkghfceflaa.MD
open Go.Proofs.Ytieodkghfceflaa.Opening
open Go.RowKit Go.Proofs.YtieodkghfceflaaW.PrintWords Go.Proofs.YtieodkghfceflaaW.PrintLast Go.Proofs.YtieodkghfceflaaW.PrintMore
theorem go_below {w w' : World} {B d : Nat} (hk : Kept w w' (fun k => k = d)) (hb : Below B w w') {B2 mb : Nat} {O : Nat → Prop} {m m' : DS} (h : IsD w' B O d mb m') : After w w' B O d mb m' :=
  ⟨O, h, fun k hk => Or.inl hk, hk.mono (fun k e => Or.inl e), hb⟩
/-- The disk's map has been written behind a raw write. -/
theorem After.turned {w w1 w2 : World} {B d mb : Nat} {O : Nat → Prop} {m m' : DS} (hk : Kept w w1 (fun k => k = d)) (hb : Below B w w1) (h1 : IsD w1 B O d mb m) (ht : w1.mapTurned w2 mb) (h2 : IsD w2 B O d mb m') : After w w2 B O d mb m' :=
  ⟨O, h2, fun k hk => Or.inl hk, (hk.mono (fun k e => Or.inl e)).then_ (kept_turned ht) (fun k e => Or.inl (Or.inr e)), hb.trans (below_turned ht h1.base.2 h1.files.lt)⟩
theorem After.trans {w w1 w2 : World} {B d mb : Nat} {O : Nat → Prop} {m m' : DS} (hk : Kept w w1 (fun k => k = d ∨ k = mb)) (hb : Below B w w1) (h1 : IsD w1 B O d mb m) (ht : w1.mapTurned w2 mb) (h2 : IsD w2 B O d mb m') : After w w2 B O d mb m' :=
  ⟨O, h2, fun k hk => Or.inl hk, hk.then_ (kept_turned ht) (fun k e => Or.inl (Or.inr e)), hb.trans (below_turned ht h1.base.2 h1.files.lt)⟩
def removeD (c : Int) (m : DS) (p : ByteArray) : DS × Int :=
  if thereD c m p ≠ 0 then (m, thereD c m p) else if (goD m).2 = false then ((goD m).1, 8) else ({ (goD m).1 with files := dropF m.files p }, 0)
set_option maxRecDepth 100000 in
set_option maxHeartbeats 4000000 in
theorem remove_calls (k : Nat) (w : World) {B d mb : Nat} {O : Nat → Prop} {m : DS} (h : IsD w B O d mb m) {p : ByteArray} (hp : p.size ≤ 140737488355328) (hk : OkD m) (c : Int) (hc : path_Name.f k p = some c) :
    Calls Try.prog 14 #[.pointer (some ⟨d, 0, none⟩), .string p] w fun e w' => e = .returned (.int .i64 (removeD c m p).2) ∧ After w w' B O d mb (removeD c m p).1 := by
  have H := Aside0.mk h
  have HP := Aside0.mk hp
  have HK := Aside0.mk hk
  have HC := Aside0.mk hc
  unfold removeD
  obtain ⟨t, ht⟩ : ∃ t, thereD c m p = t := ⟨_, rfl⟩
  have HT := Aside0.mk ht
  rw [ht]
  clear h hp hk hc ht
  by_cases h0 : t = 0
  · have hq : (t != 0) = false := by simpa using h0
    rw [if_neg (by simpa using h0)]
    clear h0
    cases hg : (goD m).2 with
    | false =>
      have HG := Aside0.mk hg
      rw [if_pos rfl]
      clear hg
      go_enter Try.func14, Try.ntmps14
      go_wp2_with (first | (go_at_call 28; refine (there_calls k w H.out p HP.out c HC.out).mono ?_; rintro e w1 ⟨rfl, hb⟩; rw [HT.out]; have HB := Aside0.mk hb; have H1 := Aside0.mk (H.out.below hb); clear hb) | (go_at_call 29; refine (begin_noop w1 H1.out 32 (enters_of Try.func32 (by kernel_rfl) rfl) noop32 HK.out).mono ?_; rintro e w2 ⟨rfl, hI, hKd, hBd⟩; rw [HG.out]; have HA := Aside0.mk ((go_below (B2 := 0) (m := m) hKd hBd hI).pre HB.out H.out.base_lt); clear hI hKd hBd))
      go_ret
      exact ⟨rfl, HA.out⟩
    | true =>
      have HG := Aside0.mk hg
      rw [if_neg (by simp)]
      clear hg
      go_enter Try.func14, Try.ntmps14
      go_wp2_with (first | (go_at_call 28; refine (there_calls k w H.out p HP.out c HC.out).mono ?_; rintro e w1 ⟨rfl, hb⟩; rw [HT.out]; have HB := Aside0.mk hb; have H1 := Aside0.mk (H.out.below hb); clear hb) | (go_at_call 29; refine (begin_noop w1 H1.out 32 (enters_of Try.func32 (by kernel_rfl) rfl) noop32 HK.out).mono ?_; rintro e w2 ⟨rfl, hI, hKd, hBd⟩; rw [HG.out]; have HI := Aside0.mk hI; have HKd := Aside0.mk hKd; have HBd := Aside0.mk hBd; have g0 := hI.c0; clear hI hKd hBd) | (at_delete; refine FilesAt.wp_drop HI.out.files rfl _ _ rfl rfl HP.out HI.out.ne.2 rfl ?_; intro w3 hF hT; have HA := Aside0.mk ((After.turned HKd.out HBd.out HI.out hT (HI.out.turned hT hF)).pre HB.out H.out.base_lt); clear hF hT))
      go_ret
      have := HA.out
      rw [goD_files] at this
      exact ⟨rfl, this⟩
  · have hq : (t != 0) = true := by simpa using h0
    rw [if_pos (by simpa using h0)]
    clear h0
    go_enter Try.func14, Try.ntmps14
    go_wp2_with (go_at_call 28; refine (there_calls k w H.out p HP.out c HC.out).mono ?_; rintro e w1 ⟨rfl, hb⟩; rw [HT.out]; have HB := Aside0.mk hb; clear hb)
    go_ret
    exact ⟨rfl, After.below (H.out.below HB.out) HB.out H.out.base_lt⟩
def renameD (cf ct : Int) (m : DS) (p q : ByteArray) : DS × Int :=
  if ct ≠ 0 then (m, ct) else if thereD cf m p ≠ 0 then (m, thereD cf m p) else if (goD m).2 = false then ((goD m).1, 8) else ({ (goD m).1 with files := putF (dropF m.files p) ⟨q, strOfNums (ownOf m p)⟩ }, 0)
theorem dropF_length_le (l : List S76) (p : ByteArray) : (dropF l p).length ≤ l.length := List.length_filter_le _ _
set_option maxRecDepth 100000 in
set_option maxHeartbeats 4000000 in
theorem rename_calls (k : Nat) (w : World) {B d mb : Nat} {O : Nat → Prop} {m : DS} (h : IsD w B O d mb m) {p q : ByteArray} (hp : p.size ≤ 140737488355328) (hq : q.size ≤ 140737488355328) (hk : OkD m) (cf ct : Int) (hcf : path_Name.f k p = some cf) (hct : path_Name.f k q = some ct) :
    Calls Try.prog 22 #[.pointer (some ⟨d, 0, none⟩), .string p, .string q] w fun e w' => e = .returned (.int .i64 (renameD cf ct m p q).2) ∧ After w w' B O d mb (renameD cf ct m p q).1 := by
  have H := Aside0.mk h
  have HP := Aside0.mk hp
  have HQ := Aside0.mk hq
  have HK := Aside0.mk hk
  have HCF := Aside0.mk hcf
  have HCT := Aside0.mk hct
  unfold renameD
  obtain ⟨t, ht⟩ : ∃ t, thereD cf m p = t := ⟨_, rfl⟩
  have HT := Aside0.mk ht
  rw [ht]
  clear h hp hq hk hcf hct ht
  by_cases c0 : ct = 0
  · have qc : (ct != 0) = false := by simpa using c0
    rw [if_neg (by simpa using c0)]
    clear c0
    by_cases h0 : t = 0
    · have hq : (t != 0) = false := by simpa using h0
      rw [if_neg (by simpa using h0)]
      clear h0
      cases hg : (goD m).2 with
      | false =>
        have HG := Aside0.mk hg
        rw [if_pos rfl]
        clear hg
        go_enter Try.func22, Try.ntmps22
        go_wp2_with (first | (go_at_call 24; refine (path_Name.calls k q ct w HCT.out).mono ?_; rintro e w0 ⟨rfl, hb⟩; have HB0 := Aside0.mk hb.below; have H0 := Aside0.mk (H.out.below hb.below); clear hb) | (go_at_call 28; refine (there_calls k w0 H0.out p HP.out cf HCF.out).mono ?_; rintro e w1 ⟨rfl, hb⟩; rw [HT.out]; have HB := Aside0.mk (below_then HB0.out HB0.out.size hb); have H1 := Aside0.mk (H0.out.below hb); clear hb) | (go_at_call 29; refine (begin_noop w1 H1.out 44 (enters_of Try.func44 (by kernel_rfl) rfl) noop44 HK.out).mono ?_; rintro e w2 ⟨rfl, hI, hKd, hBd⟩; rw [HG.out]; have HA := Aside0.mk ((go_below (B2 := 0) (m := m) hKd hBd hI).pre HB.out H.out.base_lt); clear hI hKd hBd))
        go_ret
        exact ⟨rfl, HA.out⟩
      | true =>
        have HG := Aside0.mk hg
        rw [if_neg (by simp)]
        clear hg
        go_enter Try.func22, Try.ntmps22
        go_wp2_with (first | (go_at_call 24; refine (path_Name.calls k q ct w HCT.out).mono ?_; rintro e w0 ⟨rfl, hb⟩; have HB0 := Aside0.mk hb.below; have H0 := Aside0.mk (H.out.below hb.below); clear hb) | (go_at_call 28; refine (there_calls k w0 H0.out p HP.out cf HCF.out).mono ?_; rintro e w1 ⟨rfl, hb⟩; rw [HT.out]; have HB := Aside0.mk (below_then HB0.out HB0.out.size hb); have H1 := Aside0.mk (H0.out.below hb); clear hb) | (go_at_call 29; refine (begin_noop w1 H1.out 44 (enters_of Try.func44 (by kernel_rfl) rfl) noop44 HK.out).mono ?_; rintro e w2 ⟨rfl, hI, hKd, hBd⟩; rw [HG.out]; have HI := Aside0.mk hI; have HKd := Aside0.mk hKd; have HBd := Aside0.mk hBd; have g0 := hI.c0; obtain ⟨v, hrun, hv⟩ := hI.files.look HP.out; have HV := Aside0.mk hv; clear hI hKd hBd hv) | (at_delete; refine FilesAt.wp_drop HI.out.files rfl _ _ rfl rfl HP.out HI.out.ne.2 rfl ?_; intro w3 hF hT; have HT3 := Aside0.mk hT; have HI3 := Aside0.mk (HI.out.turned hT hF); have g03 := HI3.out.c0; have HV3 := Aside0.mk (HV.out.kept (kept_turned hT) (fun k hO e => HI.out.ne.2 (e ▸ hO))); clear hF hT hrun g0) | (at_mapUpdate; refine IsD.wp_store HI3.out rfl _ _ _ rfl rfl HQ.out (Nat.lt_of_le_of_lt (dropF_length_le _ _) (by rw [goD_files]; exact HK.out.len)) HV3.out (by rw [goD_files]; exact ownOf_bytes m p) rfl rfl ?_; intro w5 hD hT; have HA := Aside0.mk ((After.trans ((HKd.out.mono (fun k e => Or.inl e)).then_ (kept_turned HT3.out) (fun k e => Or.inl (Or.inr e))) (HBd.out.trans (below_turned HT3.out HI.out.base.2 HI.out.files.lt)) HI3.out hT hD).pre HB.out H.out.base_lt); clear hD hT))
        go_ret
        have := HA.out
        simp only [goD_files] at this
        exact ⟨rfl, this⟩
    · have hq : (t != 0) = true := by simpa using h0
      rw [if_pos (by simpa using h0)]
      clear h0
      go_enter Try.func22, Try.ntmps22
      go_wp2_with (first | (go_at_call 24; refine (path_Name.calls k q ct w HCT.out).mono ?_; rintro e w0 ⟨rfl, hb⟩; have HB0 := Aside0.mk hb.below; have H0 := Aside0.mk (H.out.below hb.below); clear hb) | (go_at_call 28; refine (there_calls k w0 H0.out p HP.out cf HCF.out).mono ?_; rintro e w1 ⟨rfl, hb⟩; rw [HT.out]; have HB := Aside0.mk (below_then HB0.out HB0.out.size hb); clear hb))
      go_ret
      exact ⟨rfl, After.below (H.out.below HB.out) HB.out H.out.base_lt⟩
  · have qc : (ct != 0) = true := by simpa using c0
    rw [if_pos (by simpa using c0)]
    clear c0
    go_enter Try.func22, Try.ntmps22
    go_wp2_with (go_at_call 24; refine (path_Name.calls k q ct w HCT.out).mono ?_; rintro e w0 ⟨rfl, hb⟩; have HB0 := Aside0.mk hb.below; clear hb)
    go_ret
    exact ⟨rfl, After.below (H.out.below HB0.out) HB0.out H.out.base_lt⟩
end Go.Proofs.Ytieodkghfceflaa.MD
namespace Go.Proofs.Ytieodkghfceflaa.MD
open Go.Proofs.Ytieodkghfceflaa.Opening
open Go.RowKit Go.Proofs.YtieodkghfceflaaW.PrintWords Go.Proofs.YtieodkghfceflaaW.PrintLast Go.Proofs.YtieodkghfceflaaW.PrintMore
def trimD (c : Int) (m : DS) (p : ByteArray) (n : Int) : DS × Int :=
  if thereD c m p ≠ 0 then (m, thereD c m p) else if n < 0 ∨ n > (ownOf m p).length then (m, 3)
  else if (goD m).2 = false then ((goD m).1, 8) else ({ (goD m).1 with files := putF m.files ⟨p, strOfNums ((ownOf m p).take n.toNat)⟩ }, 0)
set_option maxRecDepth 100000 in
set_option maxHeartbeats 4000000 in
theorem trim_calls (k : Nat) (w : World) {B d mb : Nat} {O : Nat → Prop} {m : DS} (h : IsD w B O d mb m) {p : ByteArray} (hp : p.size ≤ 140737488355328) (hk : OkD m) (c : Int) (hc : path_Name.f k p = some c) (n : Int) :
    Calls Try.prog 12 #[.pointer (some ⟨d, 0, none⟩), .string p, .int .i64 n] w fun e w' => e = .returned (.int .i64 (trimD c m p n).2) ∧ After w w' B O d mb (trimD c m p n).1 := by
  have H := Aside0.mk h
  have HP := Aside0.mk hp
  have HK := Aside0.mk hk
  have HC := Aside0.mk hc
  unfold trimD
  obtain ⟨t, ht⟩ : ∃ t, thereD c m p = t := ⟨_, rfl⟩
  have HT := Aside0.mk ht
  rw [ht]
  obtain ⟨L, hL⟩ : ∃ L, (ownOf m p).length = L := ⟨_, rfl⟩
  have HL := Aside0.mk hL
  rw [hL]
  clear h hp hk hc ht hL
  by_cases h0 : t = 0
  · have hq : (t != 0) = false := by simpa using h0
    rw [if_neg (by simpa using h0)]
    clear h0
    by_cases n0 : n < 0
    · have d0 : decide (n < 0) = true := decide_eq_true n0
      rw [if_pos (Or.inl n0)]
      clear n0
      go_enter Try.func12, Try.ntmps12
      go_wp2_with (go_at_call 28; refine (there_calls k w H.out p HP.out c HC.out).mono ?_; rintro e w1 ⟨rfl, hb⟩; rw [HT.out]; have HB := Aside0.mk hb; clear hb)
      go_ret
      exact ⟨rfl, After.below (H.out.below HB.out) HB.out H.out.base_lt⟩
    · have d0 : decide (n < 0) = false := decide_eq_false n0
      by_cases n1 : n > L
      · have d1 : decide (n > (L : Int)) = true := decide_eq_true n1
        rw [if_pos (Or.inr n1)]
        clear n0 n1
        go_enter Try.func12, Try.ntmps12
        go_wp2_with (go_at_call 28; refine (there_calls k w H.out p HP.out c HC.out).mono ?_; rintro e w1 ⟨rfl, hb⟩; rw [HT.out]; have HB := Aside0.mk hb; have H1 := Aside0.mk (H.out.below hb); clear hb; have g0 := H1.out.c0; obtain ⟨v, hrun, A, c1, hv, hc1, hC1, hO1⟩ := H1.out.files.look HP.out; have hv2 : v = .slice A L c1 := hv.trans (by rw [← HL.out]; rfl); subst hv2; clear hv hC1 hO1 hc1)
        go_ret
        exact ⟨rfl, After.below H1.out HB.out H.out.base_lt⟩
      · have d1 : decide (n > (L : Int)) = false := decide_eq_false n1
        rw [if_neg (by omega)]
        obtain ⟨q, rfl⟩ : ∃ q : Nat, n = (q : Int) := ⟨n.toNat, by omega⟩
        have HQ : Aside0 (q ≤ L) := ⟨by omega⟩
        have hql : q ≤ L := HQ.out
        clear d1
        clear n0 n1
        cases hg : (goD m).2 with
        | false =>
          have HG := Aside0.mk hg
          rw [if_pos rfl]
          clear hg
          go_enter Try.func12, Try.ntmps12
          go_wp2_with (first | (go_at_call 28; refine (there_calls k w H.out p HP.out c HC.out).mono ?_; rintro e w1 ⟨rfl, hb⟩; rw [HT.out]; have HB := Aside0.mk hb; have H1 := Aside0.mk (H.out.below hb); clear hb; have g0 := H1.out.c0; obtain ⟨v, hrun, A, c1, hv, hc1, hC1, hO1⟩ := H1.out.files.look HP.out; have hv2 : v = .slice A L c1 := hv.trans (by rw [← HL.out]; rfl); subst hv2; clear hv hC1 hO1 hc1) | (go_at_call 29; refine (begin_noop w1 H1.out 30 (enters_of Try.func30 (by kernel_rfl) rfl) noop30 HK.out).mono ?_; rintro e w2 ⟨rfl, hI, hKd, hBd⟩; rw [HG.out]; have HA := Aside0.mk ((go_below (B2 := 0) (m := m) hKd hBd hI).pre HB.out H.out.base_lt); clear hI hKd hBd))
          go_ret
          exact ⟨rfl, HA.out⟩
        | true =>
          have HG := Aside0.mk hg
          rw [if_neg (by simp)]
          clear hg
          go_enter Try.func12, Try.ntmps12
          go_upto_region 8 with (first | (go_at_call 28; refine (there_calls k w H.out p HP.out c HC.out).mono ?_; rintro e w1 ⟨rfl, hb⟩; rw [HT.out]; have HB := Aside0.mk hb; have H1 := Aside0.mk (H.out.below hb); clear hb; have g0 := H1.out.c0; obtain ⟨v, hrun, A, c1, hv, hc1, hC1, hO1⟩ := H1.out.files.look HP.out; have hv2 : v = .slice A L c1 := hv.trans (by rw [← HL.out]; rfl); subst hv2; clear hv hC1 hO1 hc1) | (go_at_call 29; refine (begin_noop w1 H1.out 30 (enters_of Try.func30 (by kernel_rfl) rfl) noop30 HK.out).mono ?_; rintro e w2 ⟨rfl, hI, hKd, hBd⟩; rw [HG.out]; have HI := Aside0.mk hI; have HKd := Aside0.mk hKd; have HBd := Aside0.mk hBd; clear hI hKd hBd hrun))
          obtain ⟨w3, hw3⟩ : ∃ w3, w2.drew = w3 := ⟨_, rfl⟩
          have HB3 : Aside0 (Below w2.heap.size w2 w3) := ⟨by rw [← hw3]; exact below_drew (Below.refl _ _)⟩
          have HI3 := Aside0.mk (HI.out.below HB3.out)
          have g3 := HI3.out.c0
          obtain ⟨v3, hrun3, A3, c3, hv3, hc3, hC3, hO3⟩ := HI3.out.files.look HP.out
          have hx : (fileOf (goD m).1.files p).getD [] = ownOf m p := by rw [goD_files]; rfl
          rw [hx] at hv3 hc3 hC3 hO3
          rw [HL.out] at hv3 hc3
          subst hv3
          have hC4 := Kd.C_take hC3 (m := q) (by rw [HL.out]; exact HQ.out)
          have hlen : ((ownOf m p).take q).length = q := by rw [List.length_take, HL.out]; have := HQ.out; omega
          have hrow : BRow w3 O (.slice A3 q q) ((ownOf m p).take q) := ⟨A3, q, by rw [hlen], by rw [hlen]; exact Nat.le_refl _, hC4, fun ad e h0 => hO3 ad e (by rw [hlen] at h0; rw [HL.out]; have := HQ.out; omega)⟩
          obtain ⟨w4, hst, hF, hT⟩ := HI3.out.files.store (s := strOfNums ((ownOf m p).take q)) HP.out (by rw [goD_files]; exact HK.out.len) (by rw [bytesOf_str (fun x hx => ownOf_bytes m p x (List.mem_of_mem_take hx))]; exact hrow) HI3.out.ne.2
          have j3 := cell_kept (kept_turned hT) g3 (HI3.out.ne_cell g3)
          have q0 : (0 : Int) ≤ (q : Int) := by omega
          have q1 : (q : Int) ≤ (c3 : Int) := by have := HQ.out; omega
          have HA := Aside0.mk ((After.turned (HKd.out.below HB3.out) (HBd.out.trans (HB3.out.mono HI.out.base_lt)) HI3.out hT (HI3.out.turned hT hF)).pre HB.out H.out.base_lt)
          clear hC3 hO3 hC4 hrow hF hT hlen hx hc3
          go_region_held3 (fun w' => w'.cell? ⟨d, 0, none⟩ = some (.map (some mb))) (first | assumption | go_keep) (fail)
          all_goals
            go_wp2
            go_ret
            have := HA.out
            simp only [goD_files] at this
            exact ⟨rfl, by simpa using this⟩
  · have hq : (t != 0) = true := by simpa using h0
    rw [if_pos (by simpa using h0)]
    clear h0
    go_enter Try.func12, Try.ntmps12
    go_wp2_with (go_at_call 28; refine (there_calls k w H.out p HP.out c HC.out).mono ?_; rintro e w1 ⟨rfl, hb⟩; rw [HT.out]; have HB := Aside0.mk hb; clear hb)
    go_ret
    exact ⟨rfl, After.below (H.out.below HB.out) HB.out H.out.base_lt⟩
end Go.Proofs.Ytieodkghfceflaa.MD
namespace Go.Proofs.Ytieodkghfceflaa.MD
open Go.Proofs.Ytieodkghfceflaa.Opening
open Go.RowKit Go.Proofs.YtieodkghfceflaaW.PrintWords Go.Proofs.YtieodkghfceflaaW.PrintLast Go.Proofs.YtieodkghfceflaaW.PrintMore
open Go.Proofs.Ytieodkghfceflaa.Shelf
theorem clone_f {l : List Int} (h : l.length < 140737488355328) : slices_Clone_byte_byte.f l = some l := by
  unfold slices_Clone_byte_byte.f
  simp [h]
set_option maxRecDepth 100000 in
set_option maxHeartbeats 4000000 in
theorem read_calls (w : World) {B d mb : Nat} {O : Nat → Prop} {m : DS} (h : IsD w B O d mb m) {p : ByteArray} (hp : p.size ≤ 140737488355328) (hk : OkD m) :
    Calls Try.prog 13 #[.pointer (some ⟨d, 0, none⟩), .string p] w fun e w' => ∃ v, e = .returned (.tuple #[v, .bool (fileOf m.files p).isSome]) ∧ Kd.R (Kd.int .u8) 5 w' w.heap.size (fun _ => True) v (ownOf m p) ∧ Below w.heap.size w w' := by
  have H := Aside0.mk h
  have HK := Aside0.mk hk
  have g0 := h.c0
  obtain ⟨v, hrun, A, c1, hv, hc1, hC1, hO1⟩ := h.files.look_ok hp
  subst hv
  have HC1 := Aside0.mk hC1
  have HCC := Aside0.mk hc1
  have HF : Aside0 (slices_Clone_byte_byte.f (ownOf m p) = some (ownOf m p)) := ⟨clone_f (by have := hk.own p; omega)⟩
  clear h hk hC1 hO1 hc1 hp
  go_enter Try.func13, Try.ntmps13
  go_wp2_with (go_at_call 31; refine (slices_Clone_byte_byte.calls A c1 (ownOf m p) _ w HC1.out HCC.out HF.out).mono ?_; rintro e w1 ⟨v, rfl, hR, hB⟩; have HR := Aside0.mk hR; have HB := Aside0.mk hB; clear hR hB)
  go_ret2
  exact ⟨_, rfl, HR.out, HB.out⟩
def newD : DS := ⟨[], 0, false, 0, 0, false⟩
theorem new_calls (w : World) {B : Nat} (hB : B ≤ w.heap.size) : Calls Try.prog 8 #[] w fun e w' => ∃ d mb, e = .returned (.pointer (some ⟨d, 0, none⟩)) ∧ IsD w' B (fun _ => False) d mb newD ∧ Below w.heap.size w w' := by
  have hmm := @run_makeMap Try.prog
  obtain ⟨w1, hw1⟩ : ∃ w1, w.alloc (.map #[] 0) = w1 := ⟨_, rfl⟩
  obtain ⟨w2, hw2⟩ : ∃ w2, w1.alloc (.cells #[.map (some w.heap.size), .int .i64 0, .bool false, .int .i64 0, .int .i64 0, .bool false] 56) = w2 := ⟨_, rfl⟩
  have h1 : Below w.heap.size w w1 := by rw [← hw1]; exact below_alloc (Below.refl _ _) _
  have h2 : Below w1.heap.size w1 w2 := by rw [← hw2]; exact below_alloc (Below.refl _ _) _
  have hF : FilesAt w2 (fun _ => False) w.heap.size [] := FilesAt.below (by rw [← hw1]; exact FilesAt.made w _) h2
  have hc : w2.heap[w1.heap.size]? = some (.cells #[.map (some w.heap.size), .int .i64 0, .bool false, .int .i64 0, .int .i64 0, .bool false] 56 (0, 0)) := by rw [← hw2]; exact heap_alloc_new w1 _
  have HD : Aside0 (IsD w2 B (fun _ => False) w1.heap.size w.heap.size newD) := ⟨⟨hc, hF, ⟨fun h => h, fun h => h⟩, ⟨Nat.le_trans hB h1.size, hB⟩, fun k h => h.elim⟩⟩
  have HB := Aside0.mk (below_then h1 h1.size h2)
  clear h1 h2 hF hc
  go_enter Try.func8, Try.ntmps8
  go_wp2
  go_ret
  exact ⟨_, _, rfl, HD.out, HB.out⟩
theorem FilesAt.cloned {W W' : World} {O : Nat → Prop} {b b2 : Nat} {l : List S76} (h : FilesAt W O b l) (hc : ∀ (n : Nat) (D : DataW Value), W.ownsMap Try.prog 9 rawR b n D → W'.ownsMap Try.prog 9 rawR b2 n D) (hb : Below W.heap.size W W') : FilesAt W' O b2 l := by
  obtain ⟨h1, D, h2, h3, h4, h5⟩ := h
  refine ⟨h1, D, hc _ _ h2, h3, h4, fun x hx => ?_⟩
  obtain ⟨v, e1, e2⟩ := h5 x hx
  exact ⟨v, e1, e2.kept (Kept.of_below hb (fun _ => False)) (fun _ _ h => h)⟩
set_option maxRecDepth 100000 in
set_option maxHeartbeats 4000000 in
theorem clone_calls (w : World) {B d mb : Nat} {O : Nat → Prop} {m : DS} (h : IsD w B O d mb m) :
    Calls Try.prog 43 #[.pointer (some ⟨d, 0, none⟩)] w fun e w' => ∃ d2 mb2, e = .returned (.pointer (some ⟨d2, 0, none⟩)) ∧ IsD w' B O d2 mb2 m ∧ w.heap.size ≤ d2 ∧ w.heap.size ≤ mb2 ∧ Below w.heap.size w w' := by
  have H := Aside0.mk h
  have g0 := h.c0
  have g1 := h.c1
  have g2 := h.c2
  have g3 := h.c3
  have g4 := h.c4
  have g5 := h.c5
  obtain ⟨wa, hwa⟩ : ∃ wa, w.alloc (.cells #[.map none, .int .i64 0, .bool false, .int .i64 0, .int .i64 0, .bool false] 56) = wa := ⟨_, rfl⟩
  have hbA : wa.heap[w.heap.size]? = some (.cells #[.map none, .int .i64 0, .bool false, .int .i64 0, .int .i64 0, .bool false] 56 (0, 0)) := by rw [← hwa]; exact heap_alloc_new w _
  have z0 : wa.cell? ⟨w.heap.size, 0, none⟩ = some (.map none) := (blk_cell hbA 0).trans rfl
  have z1 : wa.cell? ⟨w.heap.size, 1, none⟩ = some (.int .i64 0) := (blk_cell hbA 1).trans rfl
  have z2 : wa.cell? ⟨w.heap.size, 2, none⟩ = some (.bool false) := (blk_cell hbA 2).trans rfl
  have z3 : wa.cell? ⟨w.heap.size, 3, none⟩ = some (.int .i64 0) := (blk_cell hbA 3).trans rfl
  have z4 : wa.cell? ⟨w.heap.size, 4, none⟩ = some (.int .i64 0) := (blk_cell hbA 4).trans rfl
  have z5 : wa.cell? ⟨w.heap.size, 5, none⟩ = some (.bool false) := (blk_cell hbA 5).trans rfl
  have y0 : wa.frozen? ⟨w.heap.size, 0, none⟩ = false := blk_frozen hbA 0
  have y1 : wa.frozen? ⟨w.heap.size, 1, none⟩ = false := blk_frozen hbA 1
  have y2 : wa.frozen? ⟨w.heap.size, 2, none⟩ = false := blk_frozen hbA 2
  have y3 : wa.frozen? ⟨w.heap.size, 3, none⟩ = false := blk_frozen hbA 3
  have y4 : wa.frozen? ⟨w.heap.size, 4, none⟩ = false := blk_frozen hbA 4
  have y5 : wa.frozen? ⟨w.heap.size, 5, none⟩ = false := blk_frozen hbA 5
  have HBA := Aside0.mk hbA
  clear hbA h
  go_enter Try.func43, Try.ntmps43
  go_upto_region 2 with (fail)
  obtain ⟨wz, hwz⟩ : ∃ wz, (((((wa.setCell ⟨w.heap.size, 0, none⟩ (.map (some mb))).setCell ⟨w.heap.size, 1, none⟩ (.int .i64 m.writes)).setCell ⟨w.heap.size, 2, none⟩ (.bool m.armed)).setCell ⟨w.heap.size, 3, none⟩ (.int .i64 m.after)).setCell ⟨w.heap.size, 4, none⟩ (.int .i64 m.keep)).setCell ⟨w.heap.size, 5, none⟩ (.bool m.dead) = wz := ⟨_, rfl⟩
  have HBZ : Aside0 (wz.heap[w.heap.size]? = some (.cells #[.map (some mb), .int .i64 m.writes, .bool m.armed, .int .i64 m.after, .int .i64 m.keep, .bool m.dead] 56 (0, 0))) := ⟨by
    rw [← hwz]
    have := blk_set (blk_set (blk_set (blk_set (blk_set (blk_set HBA.out 0 (.map (some mb))) 1 (.int .i64 m.writes)) 2 (.bool m.armed)) 3 (.int .i64 m.after)) 4 (.int .i64 m.keep)) 5 (.bool m.dead)
    simpa using this⟩
  have HB1 : Aside0 (Below w.heap.size w wz) := ⟨by
    rw [← hwz, ← hwa]
    exact ((((((below_alloc (Below.refl _ _) _).setCell (p := ⟨w.heap.size, 0, none⟩) (Nat.le_refl _) _).setCell (p := ⟨w.heap.size, 1, none⟩) (Nat.le_refl _) _).setCell (p := ⟨w.heap.size, 2, none⟩) (Nat.le_refl _) _).setCell (p := ⟨w.heap.size, 3, none⟩) (Nat.le_refl _) _).setCell (p := ⟨w.heap.size, 4, none⟩) (Nat.le_refl _) _).setCell (p := ⟨w.heap.size, 5, none⟩) (Nat.le_refl _) _⟩
  rw [hwz]
  have HZ := Aside0.mk (H.out.below HB1.out)
  have x0 := HZ.out.c0
  clear z0 z1 z2 z3 z4 z5 y0 y1 y2 y3 y4 y5 g0 g1 g2 g3 g4 g5 hwa hwz HBA
  obtain ⟨_, D0, ⟨es, clock, hm, _⟩, _⟩ := HZ.out.files
  have HM := Aside0.mk hm
  obtain ⟨wy, hwy⟩ : ∃ wy, wz.alloc (.map es clock) = wy := ⟨_, rfl⟩
  have HBY : Aside0 (Below wz.heap.size wz wy) := ⟨by rw [← hwy]; exact below_alloc (Below.refl _ _) _⟩
  have HCY := Aside0.mk ((HBY.out.block _ (blk_lt HBZ.out)).trans HBZ.out)
  have r0 : wy.cell? ⟨w.heap.size, 0, none⟩ = some (.map (some mb)) := (blk_cell HCY.out 0).trans rfl
  have r1 : wy.frozen? ⟨w.heap.size, 0, none⟩ = false := blk_frozen HCY.out 0
  have HMY : Aside0 (wy.heap[wz.heap.size]? = some (.map es clock)) := ⟨by rw [← hwy]; exact (MapKept.heap_alloc wz _).1⟩
  have HDY := Aside0.mk (HZ.out.below HBY.out)
  clear hm
  go_wp2_with (go_at_call 60; refine (AnyW.maps_Clone laysW60 mb es clock wz HM.out).mono ?_; rintro e w' ⟨rfl, rfl⟩)
  go_ret
  have hlt : ∀ k, O k → k < w.heap.size := fun k hO => (H.out.rows k hO).2
  have hws : w.heap.size < wz.heap.size := blk_lt HBZ.out
  have hwy' : wz.heap.size < wy.heap.size := blk_lt HMY.out
  have hFy : FilesAt wy O wz.heap.size m.files := HZ.out.files.cloned (fun n D ho => by
    obtain ⟨es', clock', hb', F, hs, hD⟩ := ho
    rw [HM.out] at hb'
    injection hb' with hb'
    injection hb' with q1 q2
    subst q1
    subst q2
    exact ⟨_, _, HMY.out, F, hs, hD⟩) HBY.out
  have hk : Kept wy (wy.setCell ⟨w.heap.size, 0, none⟩ (.map (some wz.heap.size))) (fun k => k = w.heap.size) := kept_set (Kept.refl _ _) _ _
  have hcell := blk_set HCY.out 0 (.map (some wz.heap.size))
  refine ⟨w.heap.size, wz.heap.size, rfl, ⟨by simpa using hcell, hFy.kept hk (by omega) (fun k hO e => by have := hlt k hO; omega), ⟨fun hO => by have := hlt _ hO; omega, fun hO => by have := hlt _ hO; omega⟩, ⟨H.out.base_lt, by have := H.out.base_lt; omega⟩, fun k hO => ⟨(H.out.rows k hO).1, Nat.lt_of_lt_of_le (hlt k hO) (by have := hk.1; omega)⟩⟩, Nat.le_refl _, Nat.le_of_lt hws, ?_⟩
  exact (below_then HB1.out HB1.out.size HBY.out).setCell (p := ⟨w.heap.size, 0, none⟩) (Nat.le_refl _) _
end Go.Proofs.Ytieodkghfceflaa.MD
namespace Go.Proofs.Ytieodkghfceflaa.MD
open Go.Proofs.Ytieodkghfceflaa.Opening
open Go.RowKit Go.Proofs.YtieodkghfceflaaW.PrintWords Go.Proofs.YtieodkghfceflaaW.PrintLast Go.Proofs.YtieodkghfceflaaW.PrintMore
def xorB (x y : Int) : Int := bits BinOp.xor IntKind.u8 x y
theorem xorB_byte (x y : Int) (hx : 0 ≤ x ∧ x < 256) (hy : 0 ≤ y ∧ y < 256) : 0 ≤ xorB x y ∧ xorB x y < 256 :=
  ⟨bits_lo_u8 _ _ _, Int.lt_of_le_of_lt (bits_hi_u8 _ _ _) (by decide)⟩
set_option maxRecDepth 100000 in
set_option maxHeartbeats 4000000 in
theorem spoil_in (w : World) {B d mb : Nat} {O : Nat → Prop} {m : DS} (h : IsD w B O d mb m) {p : ByteArray} (hp : p.size ≤ 140737488355328) (hk : OkD m) (hf : (fileOf m.files p).isSome = true) (q : Nat) (hq : q < (ownOf m p).length) (mask : Int) (hmask : 0 ≤ mask ∧ mask < 256) :
    Calls Try.prog 41 #[.pointer (some ⟨d, 0, none⟩), .string p, .int .i64 q, .int .u8 mask] w fun e w' => e = .returned (.int .i64 0) ∧ After w w' B O d mb { m with files := putF m.files ⟨p, strOfNums ((ownOf m p).set q (xorB ((ownOf m p).getD q 0) mask))⟩ } := by
  have H := Aside0.mk h
  have HK := Aside0.mk hk
  have HP := Aside0.mk hp
  have g0 := h.c0
  obtain ⟨L, hL⟩ : ∃ L, (ownOf m p).length = L := ⟨_, rfl⟩
  have HL := Aside0.mk hL
  obtain ⟨v, hrun, A, c1, hv, hc1, hC1, hO1⟩ := h.files.look_ok hp
  have hv2 : v = .slice A L c1 := hv.trans (by rw [← hL]; rfl)
  subst hv2
  rw [hf] at hrun
  have HC1 := Aside0.mk hC1
  have HCC := Aside0.mk hc1
  have HF : Aside0 (slices_Clone_byte_byte.f (ownOf m p) = some (ownOf m p)) := ⟨clone_f (by have := hk.own p; omega)⟩
  rw [hL] at hq
  have d0 : decide ((q : Int) < 0) = false := decide_eq_false (by omega)
  have HCL := Aside0.mk (slices_Clone_byte_byte.calls A c1 (ownOf m p) _ w hC1 hc1 HF.out)
  rw [hL] at HCL
  clear h hk hC1 hO1 hc1 hp hL hf hv
  go_enter Try.func41, Try.ntmps41
  go_upto_region 7 with (go_at_call 31; refine (HCL.out).mono ?_; rintro e w1 ⟨v, rfl, hR, hB⟩; have HR := Aside0.mk hR; have HB := Aside0.mk hB; clear hR hB)
  have hown := Kd.own_of_R HR.out
  rw [HL.out] at hown
  obtain ⟨hxl, hnil | ⟨g, cap, cur, rfl, hbg, hg, hn, hcm, hcs, htk⟩⟩ := hown
  · exact absurd hnil.2 (by omega)
  obtain ⟨x, hx⟩ : ∃ x, (ownOf m p)[q]? = some x := ⟨_, List.getElem?_eq_getElem (by rw [HL.out]; exact hq)⟩
  have hcq : cur[q]? = some (.int .u8 x) := by
    have e1 : (cur.toList.take (L * 1))[q]? = some (.int .u8 x) := by
      rw [htk]
      simp [encs, hx]
    rw [List.getElem?_take_of_lt (by omega)] at e1
    simpa using e1
  have hcell : w1.cell? ⟨g, q, none⟩ = some (.int .u8 x) := (blk_cell hg q).trans hcq
  have hfr : w1.frozen? ⟨g, q, none⟩ = false := blk_frozen hg q
  have HG := Aside0.mk hg
  have HTK := Aside0.mk htk
  have HNC := Aside0.mk hn
  have HCM := Aside0.mk hcm
  have HCS := Aside0.mk hcs
  have HBG := Aside0.mk hbg
  have HX := Aside0.mk hx
  clear hg htk hn hcm hcs hbg hx hcq hxl hrun
  go_upto_region 8 with (fail)
  obtain ⟨y, hy⟩ : ∃ y, bits BinOp.xor IntKind.u8 x mask = y := ⟨_, rfl⟩
  rw [hy]
  obtain ⟨w2, hw2⟩ : ∃ w2, w1.setCell ⟨g, q, none⟩ (.int .u8 y) = w2 := ⟨_, rfl⟩
  rw [hw2]
  have HYY : Aside0 (xorB x mask = y) := ⟨hy⟩
  have HB2 : Aside0 (Below w.heap.size w w2) := ⟨by rw [← hw2]; exact HB.out.setCell (p := ⟨g, q, none⟩) HBG.out _⟩
  have H2 := Aside0.mk (H.out.below HB2.out)
  have HR2 : Aside0 (Kd.R (Kd.int .u8) 5 w2 w.heap.size (fun _ => True) (.slice (some ⟨g, 0, none⟩) L cap) ((ownOf m p).set q y)) := ⟨by
    have hb := blk_set HG.out q (.int .u8 y)
    rw [hw2] at hb
    have hown : w2.ownsRow w.heap.size 5 1 (.slice (some ⟨g, 0, none⟩) L cap) ((ownOf m p).set q y).length (encs (Value.int .u8) ((ownOf m p).set q y)) := by
      rw [List.length_set, HL.out]
      refine ⟨by simp [encs, HL.out], Or.inr ⟨g, cap, _, rfl, HBG.out, hb, HNC.out, HCM.out, by simpa using HCS.out, ?_⟩⟩
      rw [Array.toList_setIfInBounds, List.take_set, HTK.out]
      simp [encs, List.map_set]
    exact Kd.R_of_own hown (fun _ _ => trivial)⟩
  have HD2 := Aside0.mk (H2.out.own HR2.out (blk_lt H.out.blk) H.out.files.lt)
  have k0 := H2.out.c0
  have HY2 : Aside0 (Bytes ((ownOf m p).set q y)) := ⟨fun z hz => by
    rcases List.mem_or_eq_of_mem_set hz with hz | rfl
    · exact ownOf_bytes m p z hz
    · rw [← hy]
      exact xorB_byte x mask (ownOf_bytes m p x (List.mem_of_getElem? HX.out)) hmask⟩
  clear hw2 hcell hfr g0 hy
  go_wp2_with (at_mapUpdate; refine IsD.wp_store HD2.out rfl _ _ _ rfl rfl HP.out HK.out.len (BRow.of_R HR2.out O) HY2.out rfl rfl ?_; intro w3 hD hT; have HA : Aside0 (After w w3 B O d mb { m with files := putF m.files ⟨p, strOfNums ((ownOf m p).set q y)⟩ }) := ⟨⟨_, hD, fun k hk => hk.elim Or.inl (fun e => Or.inr ((Kd.R_bound HR2.out).1 k e).2.1), ((Kept.of_below HB2.out (fun k => k = d ∨ k = mb)).then_ (kept_turned hT) (fun k e => Or.inl (Or.inr e))), (HB2.out.mono H.out.base_lt).trans (below_turned hT H.out.base.2 HD2.out.files.lt)⟩⟩; clear hD hT)
  go_ret
  refine ⟨rfl, ?_⟩
  have e1 : (ownOf m p).getD q 0 = x := by rw [List.getD_eq_getElem?_getD, HX.out]; rfl
  rw [e1, HYY.out]
  exact HA.out
def spoilD (m : DS) (p : ByteArray) (at_ mask : Int) : DS × Int :=
  if (fileOf m.files p).isSome = false then (m, 5) else if at_ < 0 ∨ at_ ≥ (ownOf m p).length then (m, 3)
  else ({ m with files := putF m.files ⟨p, strOfNums ((ownOf m p).set at_.toNat (xorB ((ownOf m p).getD at_.toNat 0) mask))⟩ }, 0)
set_option maxRecDepth 100000 in
set_option maxHeartbeats 4000000 in
theorem spoil_calls (w : World) {B d mb : Nat} {O : Nat → Prop} {m : DS} (h : IsD w B O d mb m) {p : ByteArray} (hp : p.size ≤ 140737488355328) (hk : OkD m) (at_ mask : Int) (hmask : 0 ≤ mask ∧ mask < 256) :
    Calls Try.prog 41 #[.pointer (some ⟨d, 0, none⟩), .string p, .int .i64 at_, .int .u8 mask] w fun e w' => e = .returned (.int .i64 (spoilD m p at_ mask).2) ∧ After w w' B O d mb (spoilD m p at_ mask).1 := by
  unfold spoilD
  by_cases hf : (fileOf m.files p).isSome = true
  · rw [if_neg (by rw [hf]; simp)]
    by_cases hr : at_ < 0 ∨ at_ ≥ (ownOf m p).length
    · rw [if_pos hr]
      have H := Aside0.mk h
      have g0 := h.c0
      obtain ⟨L, hL⟩ : ∃ L, (ownOf m p).length = L := ⟨_, rfl⟩
      obtain ⟨v, hrun, A, c1, hv, hc1, hC1, hO1⟩ := h.files.look_ok hp
      have hv2 : v = .slice A L c1 := hv.trans (by rw [← hL]; rfl)
      subst hv2
      rw [hf] at hrun
      rw [hL] at hr
      by_cases h0 : at_ < 0
      · have d0 : decide (at_ < 0) = true := decide_eq_true h0
        clear h hk hC1 hO1 hc1 hp hL hf hv hr h0
        go_enter Try.func41, Try.ntmps41
        go_wp2
        go_ret
        exact ⟨rfl, After.same H.out⟩
      · have d0 : decide (at_ < 0) = false := decide_eq_false h0
        have d1 : decide (at_ ≥ (L : Int)) = true := decide_eq_true (by omega)
        clear h hk hC1 hO1 hc1 hp hL hf hv hr h0
        go_enter Try.func41, Try.ntmps41
        go_wp2
        go_ret
        exact ⟨rfl, After.same H.out⟩
    · rw [if_neg hr]
      obtain ⟨q, rfl⟩ : ∃ q : Nat, at_ = (q : Int) := ⟨at_.toNat, by omega⟩
      exact spoil_in w h hp hk hf q (by omega) mask hmask
  · have hf' : (fileOf m.files p).isSome = false := by simpa using hf
    rw [if_pos hf']
    have H := Aside0.mk h
    have g0 := h.c0
    obtain ⟨v, hrun, A, c1, hv, hc1, hC1, hO1⟩ := h.files.look_ok hp
    subst hv
    rw [hf'] at hrun
    clear h hk hC1 hO1 hc1 hp hf hf'
    go_enter Try.func41, Try.ntmps41
    go_wp2
    go_ret
    exact ⟨rfl, After.same H.out⟩
end Go.Proofs.Ytieodkghfceflaa.MD
