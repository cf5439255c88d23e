/- Commits written and read back, in plain Lean. No condition. -/
import Derived.Test.YthigjlahanejjaaMOx0
import Derived.Test.YthigjlahanejjaaMOx7
import Derived.Test.YthigjlahanejjaaMOx9
import Derived.Test.YthigjlahanejjaaPlainCommit
set_option linter.unusedVariables false
set_option linter.unusedSimpArgs false
namespace Go.Proofs.Ythigjlahanejjaa.Pure
open Go.RowKit Go.Proofs.Ythigjlahanejjaa.MO Go.Proofs.Ythigjlahanejjaa.Opening Go.Proofs.YthigjlahanejjaaW.PrintWords Go.Proofs.YthigjlahanejjaaW.PrintLast Go.Proofs.YthigjlahanejjaaW.PrintMore
def U64 (v : Int) : Prop := 0 ≤ v ∧ v < 18446744073709551616
theorem commit_ok {tree : Int} {ps : List Int} {date : Int} {note : ByteArray} (h : (commitT tree ps date note).2 = 0) :
    ps.length ≤ 8 ∧ note.size ≤ 64 ∧ 0 ≤ date ∧ date ≤ 1099511627776 ∧ (commitT tree ps date note).1 = be8 tree ++ [(ps.length : Int) % 256] ++ ps.flatMap be8 ++ be8 date ++ [(note.size : Int) % 256] ++ bytesOf note := by
  unfold commitT at h ⊢
  split at h
  · simp at h
  · rename_i h1
    rw [if_neg h1]
    split at h
    · rename_i h2
      rw [if_pos h2]
      unfold finT at h ⊢
      split at h
      · simp at h
      · rename_i h3
        rw [if_neg h3]
        refine ⟨by omega, by omega, by omega, by omega, rfl⟩
    · simp at h
theorem flat_len : ∀ ps : List Int, (ps.flatMap be8).length = 8 * ps.length
  | [] => rfl
  | p :: ps => by rw [List.flatMap_cons, List.length_append, flat_len ps, be8_len, List.length_cons]; omega
theorem psT_flat : ∀ (ps r : List Int), (∀ p ∈ ps, U64 p) → psT ps.length (ps.flatMap be8 ++ r) = ps
  | [], r, _ => rfl
  | p :: ps, r, h => by
    obtain ⟨h0, h1⟩ := h p (List.mem_cons_self)
    rw [List.length_cons, psT, List.flatMap_cons, List.append_assoc, List.take_left' (be8_len p), List.drop_left' (be8_len p), val_be8 p h0 h1, psT_flat ps r fun q hq => h q (List.mem_cons_of_mem _ hq)]
theorem flat_psT : ∀ (n : Nat) (l : List Int), Bytes l → 8 * n ≤ l.length → (psT n l).flatMap be8 = l.take (8 * n)
  | 0, l, _, _ => by simp [psT]
  | n + 1, l, hb, h => by
    rw [psT, List.flatMap_cons, be8_val _ (hb.take 8) (by simp; omega), flat_psT n (l.drop 8) (hb.drop 8) (by rw [List.length_drop]; omega), show 8 * (n + 1) = 8 + 8 * n by omega, List.take_add]
theorem getD_app (a b : List Int) (i : Nat) (h : a.length = i) : (a ++ b).getD i 0 = b.getD 0 0 := by
  rw [List.getD_eq_getElem?_getD, List.getElem?_append_right (by omega), List.getD_eq_getElem?_getD, h, Nat.sub_self]
theorem rc_of {tree : Int} {ps : List Int} {date : Int} {note : ByteArray} (h : (commitT tree ps date note).2 = 0) (ht : U64 tree) (hp : ∀ p ∈ ps, U64 p) :
    formC (commitT tree ps date note).1 ∧ rawC (commitT tree ps date note).1 = (tree, ps, date, note) := by
  obtain ⟨h8, h64, d0, d1, hl⟩ := commit_ok h
  generalize (commitT tree ps date note).1 = l at hl
  have hn : (ps.length : Int) % 256 = (ps.length : Int) := by omega
  have hm : (note.size : Int) % 256 = (note.size : Int) := by omega
  rw [hn, hm] at hl
  have L1 : (be8 tree ++ [(ps.length : Int)]).length = 9 := by simp [be8_len]
  have L2 : (be8 tree ++ [(ps.length : Int)] ++ ps.flatMap be8).length = 9 + 8 * ps.length := by rw [List.length_append, L1, flat_len]
  have L3 : (be8 tree ++ [(ps.length : Int)] ++ ps.flatMap be8 ++ be8 date).length = 17 + 8 * ps.length := by rw [List.length_append, L2, be8_len]; omega
  have L4 : (be8 tree ++ [(ps.length : Int)] ++ ps.flatMap be8 ++ be8 date ++ [(note.size : Int)]).length = 18 + 8 * ps.length := by rw [List.length_append, L3, List.length_singleton]; omega
  have L5 : l.length = 18 + 8 * ps.length + note.size := by rw [hl, List.length_append, L4, bytes_len]
  have g8 : l.getD 8 0 = (ps.length : Int) := by
    rw [hl]; simp only [List.append_assoc]; rw [getD_app _ _ 8 (be8_len tree)]; rfl
  have g17 : l.getD (17 + 8 * ps.length) 0 = (note.size : Int) := by
    rw [hl, List.append_assoc _ [(note.size : Int)] _, getD_app _ _ _ L3]; rfl
  have t8 : l.take 8 = be8 tree := by
    rw [hl]; simp only [List.append_assoc]; exact List.take_left' (be8_len tree)
  have dr9 : l.drop 9 = ps.flatMap be8 ++ (be8 date ++ ([(note.size : Int)] ++ bytesOf note)) := by
    have e : l = (be8 tree ++ [(ps.length : Int)]) ++ (ps.flatMap be8 ++ (be8 date ++ ([(note.size : Int)] ++ bytesOf note))) := by rw [hl]; simp only [List.append_assoc]
    rw [e]; exact List.drop_left' L1
  have drd : l.drop (9 + 8 * ps.length) = be8 date ++ ([(note.size : Int)] ++ bytesOf note) := by
    have e : l = (be8 tree ++ [(ps.length : Int)] ++ ps.flatMap be8) ++ (be8 date ++ ([(note.size : Int)] ++ bytesOf note)) := by rw [hl]; simp only [List.append_assoc]
    rw [e]; exact List.drop_left' L2
  have drn : l.drop (18 + 8 * ps.length) = bytesOf note := by rw [hl]; exact List.drop_left' L4
  have hw : wrap64 date = date := w64 date (by omega)
  constructor
  · unfold formC
    rw [g8, Int.toNat_natCast, g17]
    refine ⟨by omega, by omega, by omega, by omega⟩
  · unfold rawC
    rw [g8, Int.toNat_natCast, t8, dr9, drd, drn, val_be8 tree ht.1 ht.2, psT_flat ps _ hp, List.take_left' (be8_len date), val_be8 date d0 (by omega), hw, str_bytes]
theorem wrap_pos {v : Int} (h0 : 0 ≤ v) (h1 : v < 18446744073709551616) (h : 0 ≤ wrap64 v) : wrap64 v = v := by unfold wrap64 at *; omega
theorem rc_back {l : List Int} (hb : Bytes l) (hf : formC l) (h : (commitT (rawC l).1 (rawC l).2.1 (rawC l).2.2.1 (rawC l).2.2.2).2 = 0) :
    (commitT (rawC l).1 (rawC l).2.1 (rawC l).2.2.1 (rawC l).2.2.2).1 = l := by
  obtain ⟨h8, h64, d0, d1, hl⟩ := commit_ok h
  rw [hl]
  clear hl h
  obtain ⟨f1, f2, f3, f4⟩ := hf
  have b8 := hb _ (List.getElem_mem (show 8 < l.length by omega))
  have g8 : l.getD 8 0 = l[8] := getD_at (by omega)
  rw [g8] at f2 f3 f4
  simp only [rawC, g8] at h8 h64 d0 d1 ⊢
  have c8 : l.drop 8 = l[8] :: l.drop 9 := List.drop_eq_getElem_cons (by omega)
  generalize l[8] = c at b8 f2 f3 f4 h8 h64 d0 d1 c8 ⊢
  obtain ⟨n, rfl⟩ : ∃ n : Nat, c = (n : Int) := ⟨c.toNat, by omega⟩
  simp only [Int.toNat_natCast] at f3 f4 h8 h64 d0 d1 ⊢
  have g17 : l.getD (17 + 8 * n) 0 = l[17 + 8 * n] := getD_at (by omega)
  have c17 : l.drop (17 + 8 * n) = l[17 + 8 * n] :: l.drop (18 + 8 * n) := by
    have := List.drop_eq_getElem_cons (show 17 + 8 * n < l.length by omega)
    rw [this, show 17 + 8 * n + 1 = 18 + 8 * n by omega]
  rw [g17] at f4
  rw [f4] at c17
  have hv := valI_range ((l.drop (9 + 8 * n)).take 8) ((hb.drop _).take _) (by rw [List.length_take, List.length_drop]; omega)
  rw [be8_val _ (hb.take 8) (by rw [List.length_take]; omega), psT_len, flat_psT n (l.drop 9) (hb.drop 9) (by rw [List.length_drop]; omega), wrap_pos hv.1 hv.2 d0, be8_val _ ((hb.drop _).take _) (by rw [List.length_take, List.length_drop]; omega), strOfNums_size, nums_str _ (hb.drop _), List.length_drop,
    show ((n : Nat) : Int) % 256 = (n : Int) by omega]
  rw [strOfNums_size, List.length_drop] at h64
  rw [show ((l.length - (18 + 8 * n) : Nat) : Int) % 256 = ((l.length - (18 + 8 * n) : Nat) : Int) by omega]
  have e1 : l = l.take 8 ++ ((n : Int) :: l.drop 9) := by rw [← c8, List.take_append_drop]
  have e2 : l.drop 9 = (l.drop 9).take (8 * n) ++ l.drop (9 + 8 * n) := by
    rw [show l.drop (9 + 8 * n) = (l.drop 9).drop (8 * n) from List.drop_drop.symm, List.take_append_drop]
  have e3 : l.drop (9 + 8 * n) = (l.drop (9 + 8 * n)).take 8 ++ l.drop (17 + 8 * n) := by
    have : l.drop (17 + 8 * n) = (l.drop (9 + 8 * n)).drop 8 := by rw [List.drop_drop]; congr 1; omega
    rw [this, List.take_append_drop]
  conv => rhs; rw [e1, e2, e3, c17]
  simp only [List.append_assoc, List.cons_append, List.nil_append]
theorem readC_of {tree : Int} {ps : List Int} {date : Int} {note : ByteArray} (h : (commitT tree ps date note).2 = 0) (ht : U64 tree) (hp : ∀ p ∈ ps, U64 p) :
    readC (commitT tree ps date note).1 = (tree, ps, date, note, 0) := by
  obtain ⟨h1, h2⟩ := rc_of h ht hp
  unfold readC
  rw [if_pos ⟨h1, by rw [h2]; exact h⟩, h2]
theorem commit_bytes {tree : Int} {ps : List Int} {date : Int} {note : ByteArray} (h : (commitT tree ps date note).2 = 0) : Bytes (commitT tree ps date note).1 := by
  obtain ⟨h8, h64, d0, d1, hl⟩ := commit_ok h
  rw [hl]
  have one : ∀ n : Int, Bytes [n % 256] := fun n y hy => by rw [List.mem_singleton.1 hy]; omega
  have fl : Bytes (ps.flatMap be8) := fun y hy => by
    obtain ⟨p, _, hp⟩ := List.mem_flatMap.1 hy
    exact be8_bytes p y hp
  exact (((((be8_bytes _).append (one _)).append fl).append (be8_bytes _)).append (one _)).append (bytesOf_bytes _)
/-! ### The law's own helpers -/
theorem lawcommit_l0 (t : Int) (ps : List Int) (d : Int) (n : ByteArray) (hps : ps.length ≤ 17592186043904) : ∀ (e i : Nat) (acc : List Int), i + e = ps.length → acc.length = i →
    Ev (fun k => forebearlaw08_Commit.l0 k (i : Int) t ps d n t acc d n) (t, acc ++ ps.drop i, d, n) := by
  intro e
  induction e with
  | zero =>
    intro i acc hi ha
    refine Ev.step (f := fun _ => some (t, acc, d, n)) (fun k => ?_) ?_
    · simp only [forebearlaw08_Commit.l0]
      rw [if_neg (by omega)]
    · rw [List.drop_eq_nil_of_le (by omega), List.append_nil]; exact Ev.now _
  | succ e ih =>
    intro i acc hi ha
    have hil : i < ps.length := by omega
    refine Ev.step (f := fun k => forebearlaw08_Commit.l0 k ((i + 1 : Nat) : Int) t ps d n t (acc ++ [ps[i]]) d n) (fun k => ?_) ?_
    · simp only [forebearlaw08_Commit.l0]
      rw [if_pos (by omega), if_pos (by omega), if_pos (by omega), rdn hil, wnat hil (by omega)]
    · have := ih (i + 1) (acc ++ [ps[i]]) (by omega) (by simp; omega)
      rw [List.drop_eq_getElem_cons hil]
      simpa only [List.append_assoc, List.singleton_append] using this
theorem lawcommit_ev (t : Int) (ps : List Int) (d : Int) (n : ByteArray) (hps : ps.length ≤ 17592186043904) : Ev (fun k => forebearlaw08_Commit.f k t ps d n) (t, ps, d, n) := by
  have := lawcommit_l0 t ps d n hps ps.length 0 [] (by omega) rfl
  rw [List.drop_zero, List.nil_append] at this
  exact this
theorem samecommit_l0 (t : Int) (ps : List Int) (d : Int) (n : ByteArray) (hps : ps.length ≤ 17592186043904) : ∀ (e i : Nat), i + e = ps.length →
    Ev (fun k => forebearref08_SameCommit.l0 k (i : Int) t ps d n t ps d n) true := by
  intro e
  induction e with
  | zero =>
    intro i hi
    refine Ev.step (f := fun _ => some true) (fun k => ?_) (Ev.now _)
    simp only [forebearref08_SameCommit.l0]
    rw [if_neg (by omega)]
  | succ e ih =>
    intro i hi
    have hil : i < ps.length := by omega
    refine Ev.step (f := fun k => forebearref08_SameCommit.l0 k ((i + 1 : Nat) : Int) t ps d n t ps d n) (fun k => ?_) (ih (i + 1) (by omega))
    simp only [forebearref08_SameCommit.l0]
    rw [if_pos (by omega), if_pos (by omega), if_pos (by omega), if_pos (by trivial), wnat hil (by omega)]
theorem samecommit_ev (t : Int) (ps : List Int) (d : Int) (n : ByteArray) (hps : ps.length ≤ 17592186043904) : Ev (fun k => forebearref08_SameCommit.f k t ps d n t ps d n) true := by
  refine Ev.congr (f := fun k => forebearref08_SameCommit.j0 k false t ps d n t ps d n) (fun k => ?_) ?_
  · unfold forebearref08_SameCommit.f
    rw [if_pos rfl, if_pos rfl, if_pos rfl]; simp
  · refine Ev.step (fun k => ?_) (samecommit_l0 t ps d n hps ps.length 0 (by omega))
    simp only [forebearref08_SameCommit.j0]
    rw [if_neg (by decide)]; rfl
theorem readC_parents (l : List Int) : (readC l).2.1.length ≤ 8 := by
  unfold readC
  split
  · rename_i h
    exact (commit_ok h.2).1
  · simp
theorem raw_good {l : List Int} (hb : Bytes l) (hf : formC l) : U64 (rawC l).1 ∧ ∀ p ∈ (rawC l).2.1, U64 p := by
  obtain ⟨f1, f2, f3, f4⟩ := hf
  refine ⟨valI_range _ (hb.take 8) (by rw [List.length_take]; omega), ?_⟩
  have H : ∀ (n : Nat) (m : List Int), Bytes m → 8 * n ≤ m.length → ∀ p ∈ psT n m, U64 p := by
    intro n
    induction n with
    | zero => intro m _ _ p hp; simp [psT] at hp
    | succ n ih =>
      intro m hm h p hp
      rcases List.mem_cons.1 hp with e | hp
      · rw [e]; exact valI_range _ (hm.take 8) (by rw [List.length_take]; omega)
      · exact ih (m.drop 8) (hm.drop 8) (by rw [List.length_drop]; omega) p hp
  exact H _ _ (hb.drop 9) (by rw [List.length_drop]; omega)
end Go.Proofs.Ythigjlahanejjaa.Pure
