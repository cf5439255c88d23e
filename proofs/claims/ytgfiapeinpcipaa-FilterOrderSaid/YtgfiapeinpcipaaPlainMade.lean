/- The program's filter of changed paths, and the document's, in plain Lean. No condition. -/
import Derived.Test.YtgfiapeinpcipaaPlainMake
import Derived.Test.YtgfiapeinpcipaaMFx6
set_option linter.unusedVariables false
set_option linter.unusedSimpArgs false
namespace Go.Proofs.Ytgfiapeinpcipaa.Pure
open Go.RowKit Go.Proofs.Ytgfiapeinpcipaa.MF Go.Proofs.Ytgfiapeinpcipaa.Opening Go.Proofs.YtgfiapeinpcipaaW.PrintWords Go.Proofs.YtgfiapeinpcipaaW.PrintLast Go.Proofs.YtgfiapeinpcipaaW.PrintMore
theorem w64 (x : Int) (h : -4611686018427387904 ≤ x ∧ x ≤ 4611686018427387904) : wrap64 x = x := by unfold wrap64; omega
def inL (L : List Int) (q : Nat) : Bool := L.contains (q : Int)
theorem rowS_ext (S T : Nat → Bool) (w : Nat) (h : ∀ q, S q = T q) : rowS S w = rowS T w := by
  have : S = T := funext h
  rw [this]
/-- The positions of paths. -/
def onesL (l : List ByteArray) (m : Int) : List Int := l.flatMap fun p => posL (idP (bytesOf p)) m
/-- One path's positions are set. -/
theorem make_l2 (t : List ByteArray) (n i : Int) (w : Nat) (hw : 8 * w < 1000000) (ps : List Int) (hr : ∀ x ∈ ps, 0 ≤ x ∧ x < 8 * (w : Int)) (hp : ps.length ≤ 100) (r : List Int) : ∀ (d j : Nat) (L : List Int), j + d = ps.length →
    Ev (fun k => filter_Make.l1 k (rowS (inL (L ++ ps.drop j)) w) t n (wrap64 (i + 1))) r → Ev (fun k => filter_Make.l2 k (rowS (inL L) w) t n i ps (ps.length : Int) (j : Int)) r := by
  intro d
  induction d with
  | zero =>
    intro j L hj he
    refine Ev.step (f := fun k => filter_Make.l1 k (rowS (inL L) w) t n (wrap64 (i + 1))) (fun k => ?_) ?_
    · simp only [filter_Make.l2]
      rw [if_neg (by omega)]
    · rw [List.drop_eq_nil_of_le (by omega), List.append_nil] at he
      exact he
  | succ d ih =>
    intro j L hj he
    have hjl : j < ps.length := by omega
    obtain ⟨r0, r1⟩ := hr _ (List.getElem_mem hjl)
    refine Ev.step (f := fun k => filter_Make.l2 k (rowS (inL (L ++ [ps[j]])) w) t n i ps (ps.length : Int) ((j + 1 : Nat) : Int)) (fun k => ?_) (ih (j + 1) (L ++ [ps[j]]) (by omega) ?_)
    · obtain ⟨x, hx⟩ : ∃ x : Nat, ps[j] = (x : Int) := ⟨ps[j].toNat, by omega⟩
      rw [hx] at r0 r1
      have hS : ∀ q, inL (L ++ [ps[j]]) q = (inL L q || x == q) := by
        intro q
        unfold inL
        rw [List.contains_append, hx]
        congr 1
        rw [Bool.eq_iff_iff]
        simp
        omega
      have hl := rowS_len (inL L) w
      have g0 : (j : Int) < (ps.length : Int) := by omega
      have g1 : (0 : Int) ≤ (j : Int) := Int.natCast_nonneg _
      have g2 : (0 : Int) ≤ ((1 + x / 8 : Nat) : Int) := Int.natCast_nonneg _
      have g3 : ((1 + x / 8 : Nat) : Int) < ((rowS (inL L) w).length : Int) := by rw [hl]; omega
      have g4 : (0 : Int) ≤ ((x % 8 : Nat) : Int) := Int.natCast_nonneg _
      have g6 := wnat hjl (by omega)
      have g5 := rowS_set (inL L) w x (by omega)
      have d0 : Int.tdiv (x : Int) 8 = ((x / 8 : Nat) : Int) := by rw [Int.tdiv_eq_ediv_of_nonneg r0]; omega
      have m0 : Int.tmod (x : Int) 8 = ((x % 8 : Nat) : Int) := by rw [Int.tmod_eq_emod_of_nonneg r0]; omega
      have b0 : -4611686018427387904 ≤ ((x / 8 : Nat) : Int) ∧ ((x / 8 : Nat) : Int) ≤ 4611686018427387904 := by omega
      have b1 : -4611686018427387904 ≤ 1 + ((x / 8 : Nat) : Int) ∧ 1 + ((x / 8 : Nat) : Int) ≤ 4611686018427387904 := by omega
      have b2 : 1 + ((x / 8 : Nat) : Int) = ((1 + x / 8 : Nat) : Int) := by omega
      have w0 := w64 _ b0
      have w1 := (w64 _ b1).trans b2
      rw [rowS_ext _ _ w hS]
      simp only [filter_Make.l2]
      rw [rd_nat hjl, hx, d0, m0, w0, w1, if_pos g0, if_pos g1, if_pos g0, if_pos g2, if_pos g3, if_pos g4, g6, Int.toNat_natCast, g5]
    · rw [List.append_assoc, List.singleton_append, ← List.drop_eq_getElem_cons hjl]
      exact he
theorem make_l1 (t : List ByteArray) (ht : t.length ≤ 100000) (hts : ∀ p ∈ t, p.size ≤ 140737488351232) (w : Nat) (hw0 : 1 ≤ w) (hw : 8 * w < 1000000) : ∀ (d i : Nat) (L : List Int), i + d = t.length →
    Ev (fun k => filter_Make.l1 k (rowS (inL L) w) t (t.length : Int) (i : Int)) (rowS (inL (L ++ onesL (t.drop i) ((8 * w : Nat) : Int))) w) := by
  intro d
  induction d with
  | zero =>
    intro i L hi
    refine Ev.step (f := fun _ => some (rowS (inL L) w)) (fun k => ?_) ?_
    · simp only [filter_Make.l1]
      rw [if_neg (by omega)]
    · rw [List.drop_eq_nil_of_le (by omega)]
      simp only [onesL, List.flatMap_nil, List.append_nil]
      exact Ev.now _
  | succ d ih =>
    intro i L hi
    have hil : i < t.length := by omega
    have hb : filter_Bits.f (rowS (inL L) w) = some ((8 * w : Nat) : Int) := by
      rw [bits_f _ (by rw [rowS_len]; omega), rowS_bits _ _ hw0]
    refine Ev.step (f := fun k => (filter_Positions.f k t[i] ((8 * w : Nat) : Int)).bind fun t152 => filter_Make.l2 k (rowS (inL L) w) t (t.length : Int) (i : Int) t152 (t152.length : Int) 0) (fun k => ?_) ?_
    · simp only [filter_Make.l1]
      rw [if_pos (by omega), if_pos (by omega), if_pos (by omega), rdOf_nat t i hil, hb, Option.bind_some]
    · refine Ev.bind (positions_ev t[i] (hts _ (List.getElem_mem hil)) _ (by omega)) ?_
      have h3 := posL_le (idP (bytesOf t[i])) ((8 * w : Nat) : Int)
      have hr := posL_range (idP (bytesOf t[i])) ((8 * w : Nat) : Int)
      refine make_l2 t _ _ w hw _ (fun x hx => by have := hr x hx; omega) (by omega) _ _ 0 L (Nat.zero_add _) ?_
      rw [wnat hil (by omega), List.drop_zero]
      have := ih (i + 1) (L ++ posL (idP (bytesOf t[i])) ((8 * w : Nat) : Int)) (by omega)
      rw [List.append_assoc] at this
      have e : onesL (t.drop i) ((8 * w : Nat) : Int) = posL (idP (bytesOf t[i])) ((8 * w : Nat) : Int) ++ onesL (t.drop (i + 1)) ((8 * w : Nat) : Int) := by
        rw [List.drop_eq_getElem_cons hil]; rfl
      rw [e]
      exact this
/-- The paths among changed texts, each once, and all that leads to them. -/
def good (l : List ByteArray) : List ByteArray := (sd l).filter isB
def allB (l : List ByteArray) : List ByteArray := sd (l.flatMap partsB)
def wide (n : Nat) : Nat := max 1 ((12 * n + 7) / 8)
/-- The filter. -/
def mkF (l : List ByteArray) : List Int := if 8 < (good l).length then [2] else rowS (inL (onesL (allB l) ((8 * wide (allB l).length : Nat) : Int))) (wide (allB l).length)
theorem make_l0 (s : List ByteArray) (hs : s.length ≤ 10000) (hss : ∀ p ∈ s, p.size ≤ 140737488351232) (r : List Int) : ∀ (d i : Nat) (x3 x4 : List ByteArray), i + d = s.length → x3.length ≤ i → x4.length ≤ 6 * i →
    Ev (fun k => filter_Make.l0 k (x3 ++ (s.drop i).filter isB) (x4 ++ (s.drop i).flatMap partsB) s (s.length : Int) (s.length : Int)) r → Ev (fun k => filter_Make.l0 k x3 x4 s (s.length : Int) (i : Int)) r := by
  intro d
  induction d with
  | zero =>
    intro i x3 x4 hi h3 h4 he
    have : i = s.length := by omega
    subst this
    rw [List.drop_eq_nil_of_le (Nat.le_refl _)] at he
    simpa using he
  | succ d ih =>
    intro i x3 x4 hi h3 h4 he
    have hil : i < s.length := by omega
    have hl6 := partsB_len s[i]
    refine Ev.step (f := fun k => (path_Parts.f k s[i]).bind fun t131 => if (t131.length : Int) > 0 then (if x3.length < 8796093022208 then (if x4.length + t131.length < 8796093022208 then filter_Make.l0 k (x3 ++ [s[i]]) (x4 ++ t131) s (s.length : Int) ((i + 1 : Nat) : Int) else none) else none) else filter_Make.l0 k x3 x4 s (s.length : Int) ((i + 1 : Nat) : Int)) (fun k => ?_) (Ev.bind (parts_is s[i] (hss _ (List.getElem_mem hil))) ?_)
    · simp only [filter_Make.l0]
      rw [if_pos (by omega), if_pos (by omega), if_pos (by omega), rdOf_nat s i hil, wnat hil (by omega)]
    · rw [List.drop_eq_getElem_cons hil, List.filter_cons, List.flatMap_cons] at he
      by_cases c : isB s[i] = true
      · have c' := (partsB_some s[i]).2 c
        rw [if_pos c] at he
        refine Ev.congr (fun k => by rw [if_pos (by omega), if_pos (by omega), if_pos (by omega)]) (ih (i + 1) (x3 ++ [s[i]]) (x4 ++ partsB s[i]) (by omega) (by simp; omega) (by simp; omega) ?_)
        simpa using he
      · have c' := partsB_none s[i] c
        rw [if_neg c] at he
        refine Ev.congr (fun k => by rw [if_neg (by rw [c']; simp)]) (ih (i + 1) x3 x4 (by omega) (by omega) (by omega) ?_)
        rw [c'] at he
        simpa using he
theorem wide_is (n : Nat) (h : n ≤ 60000) : wrap64 (1 + mx 1 (wrap64 (Int.tdiv (wrap64 (wrap64 (12 * (n : Int)) + 7)) 8))) = ((wide n + 1 : Nat) : Int) := by
  have e1 : wrap64 (12 * (n : Int)) = ((12 * n : Nat) : Int) := by rw [w64 _ (by omega)]; omega
  have e2 : wrap64 (((12 * n : Nat) : Int) + 7) = ((12 * n + 7 : Nat) : Int) := by rw [w64 _ (by omega)]; omega
  have e3 : Int.tdiv ((12 * n + 7 : Nat) : Int) 8 = (((12 * n + 7) / 8 : Nat) : Int) := by rw [Int.tdiv_eq_ediv_of_nonneg (by omega)]; omega
  have e4 : wrap64 (((12 * n + 7) / 8 : Nat) : Int) = (((12 * n + 7) / 8 : Nat) : Int) := w64 _ (by omega)
  have e5 : mx 1 (((12 * n + 7) / 8 : Nat) : Int) = (wide n : Int) := by unfold mx wide; split <;> omega
  have hw : wide n ≤ 90001 := by unfold wide; omega
  rw [e1, e2, e3, e4, e5, w64 _ (by omega)]
  omega
theorem sd_size {l : List ByteArray} {M : Nat} (h : ∀ p ∈ l, p.size ≤ M) : ∀ p ∈ sd l, p.size ≤ M := fun p hp => h p ((mem_sd l p).1 hp)
theorem make_end (s X3 X4 : List ByteArray) (h4 : X4.length ≤ 60000) (hX : ∀ p ∈ X4, p.size ≤ 140737488351232) :
    Ev (fun k => filter_Make.l0 k X3 X4 s (s.length : Int) (s.length : Int)) (if 8 < X3.length then [2] else rowS (inL (onesL (sd X4) ((8 * wide (sd X4).length : Nat) : Int))) (wide (sd X4).length)) := by
  have hlen := sd_len X4
  by_cases c : 8 < X3.length
  · rw [if_pos c]
    refine Ev.step (f := fun _ => some [2]) (fun k => ?_) (Ev.now _)
    simp only [filter_Make.l0]
    rw [if_neg (by omega), if_pos (by omega)]
  · rw [if_neg c]
    have hw : wide (sd X4).length ≤ 90001 := by unfold wide; omega
    have hw1 : 1 ≤ wide (sd X4).length := by unfold wide; omega
    have z := make_l1 (sd X4) (by omega) (sd_size hX) (wide (sd X4).length) hw1 (by omega) (sd X4).length 0 [] (by omega)
    refine Ev.step (f := fun k => filter_Make.l1 k (rowS (inL []) (wide (sd X4).length)) (sd X4) ((sd X4).length : Int) 0) (fun k => ?_) (by simpa using z)
    have e := wide_is (sd X4).length (by omega)
    have er : ∀ w : Nat, (List.replicate (w + 1) (0 : Int)).set 0 1 = rowS (inL []) w := by
      intro w
      rw [List.replicate_succ, List.set_cons_zero, ← rowS_none]
      exact rowS_ext _ _ _ fun q => by simp [inL]
    simp only [filter_Make.l0]
    rw [if_neg (by omega), if_neg (by omega), sort_f X4 (by omega), Option.bind_some, e, if_pos (by omega), if_pos (by omega), Option.bind_some, Int.toNat_natCast, List.length_replicate, if_pos (by omega)]
    rw [show (0 : Int).toNat = 0 from rfl, er]
theorem sorted_parts (l : List ByteArray) : sd ((sd l).flatMap partsB) = allB l := by
  refine sd_ext fun x => ?_
  simp only [List.mem_flatMap, mem_sd]
theorem flat_len (l : List ByteArray) : (l.flatMap partsB).length ≤ 6 * l.length := by
  induction l with
  | nil => simp
  | cons x l ih =>
    have := partsB_len x
    rw [List.flatMap_cons, List.length_append, List.length_cons]; omega
theorem flat_size (l : List ByteArray) : ∀ p ∈ l.flatMap partsB, p.size ≤ 102 := by
  intro p hp
  obtain ⟨q, _, h⟩ := List.mem_flatMap.1 hp
  exact partsB_size q p h
theorem make_ev (l : List ByteArray) (hl : l.length ≤ 2000) (hs : ∀ p ∈ l, p.size ≤ 140737488351232) : Ev (fun k => filter_Make.f k l) (mkF l) := by
  have h0 := sd_len l
  have h1 := flat_len (sd l)
  have h2 := make_end (sd l) ((sd l).filter isB) ((sd l).flatMap partsB) (by omega) (fun p hp => by have := flat_size _ p hp; omega)
  rw [sorted_parts] at h2
  have h3 := make_l0 (sd l) (by omega) (sd_size hs) _ (sd l).length 0 [] [] (by omega) (by simp) (by simp) (by simpa using h2)
  refine Ev.congr (fun k => ?_) h3
  unfold filter_Make.f
  rw [sort_f l (by omega), Option.bind_some]
  rfl
/-! ### The document's -/
theorem with_is (l : List ByteArray) (q : ByteArray) (hl : l.length < 1000000) : Ev (fun k => forebearref03_With.f k (sd l) q) (sd (l ++ [q])) := by
  have h0 := sd_len l
  refine ⟨l.length + 1, fun k hk => ?_⟩
  obtain ⟨r, e, hr, hm, _⟩ := refWith_f (l := sd l) (by omega) q k (by omega) (sd_rise l)
  dsimp only
  rw [e]
  congr 1
  refine rise_ext hr (sd_rise _) fun x => ?_
  rw [← mem_keys, hm, mem_sd, List.mem_append, List.mem_singleton, mem_keys, mem_sd]
  constructor
  · rintro (h | h)
    · exact .inr (key_inj h)
    · exact .inl h
  · rintro (h | h)
    · exact .inr h
    · exact .inl (by rw [h])
theorem refpaths_l1 (l : List ByteArray) (x4 : List ByteArray) (i : Int) (ps : List ByteArray) (hp : ps.length ≤ 6) (r : List ByteArray × Int) : ∀ (d j : Nat) (B : List ByteArray), j + d = ps.length → B.length + 6 < 1000000 + j →
    Ev (fun k => forebearref11_Paths.l0 k l x4 (sd (B ++ ps.drop j)) (wrap64 (i + 1))) r → Ev (fun k => forebearref11_Paths.l1 k l x4 (sd B) i ps (j : Int)) r := by
  intro d
  induction d with
  | zero =>
    intro j B hj hB he
    refine Ev.step (f := fun k => forebearref11_Paths.l0 k l x4 (sd B) (wrap64 (i + 1))) (fun k => ?_) ?_
    · simp only [forebearref11_Paths.l1]
      rw [if_neg (by omega)]
    · rw [List.drop_eq_nil_of_le (by omega), List.append_nil] at he
      exact he
  | succ d ih =>
    intro j B hj hB he
    have hjl : j < ps.length := by omega
    refine Ev.step (f := fun k => (forebearref03_With.f k (sd B) ps[j]).bind fun t231 => forebearref11_Paths.l1 k l x4 t231 i ps ((j + 1 : Nat) : Int)) (fun k => ?_) (Ev.bind (with_is B ps[j] (by omega)) (ih (j + 1) (B ++ [ps[j]]) (by omega) (by simp; omega) ?_))
    · simp only [forebearref11_Paths.l1]
      rw [if_pos (by omega), if_pos (by omega), rdOf_nat ps j hjl, wnat hjl (by omega)]
    · rw [List.append_assoc, List.singleton_append, ← List.drop_eq_getElem_cons hjl]
      exact he
theorem refpaths_l0 (l : List ByteArray) (hl : l.length ≤ 2000) : ∀ (d i : Nat) (A B : List ByteArray), i + d = l.length → A.length ≤ i → B.length ≤ 6 * i →
    Ev (fun k => forebearref11_Paths.l0 k l (sd A) (sd B) (i : Int)) (sd (B ++ (l.drop i).flatMap partsB), ((sd (A ++ (l.drop i).filter isB)).length : Int)) := by
  intro d
  induction d with
  | zero =>
    intro i A B hi hA hB
    refine Ev.step (f := fun _ => some (sd B, ((sd A).length : Int))) (fun k => ?_) ?_
    · simp only [forebearref11_Paths.l0]
      rw [if_neg (by omega)]
    · rw [List.drop_eq_nil_of_le (by omega)]
      simpa using Ev.now _
  | succ d ih =>
    intro i A B hi hA hB
    have hil : i < l.length := by omega
    have hl6 := partsB_len l[i]
    refine Ev.step (f := fun k => (forebearref03_Parts.f k l[i]).bind fun t223 => if (t223.length : Int) > 0 then ((forebearref03_With.f k (sd A) l[i]).bind fun t227 => forebearref11_Paths.j1 k l t227 (sd B) (i : Int) t223) else forebearref11_Paths.j1 k l (sd A) (sd B) (i : Int) t223) (fun k => ?_) (Ev.bind (refparts_is l[i]) ?_)
    · simp only [forebearref11_Paths.l0]
      rw [if_pos (by omega), if_pos (by omega), rdOf_nat l i hil]
    · have tail : ∀ A' : List ByteArray, A'.length ≤ i + 1 → Ev (fun k => forebearref11_Paths.j1 k l (sd A') (sd B) (i : Int) (partsB l[i])) (sd (B ++ (l.drop i).flatMap partsB), ((sd (A' ++ (l.drop (i + 1)).filter isB)).length : Int)) := by
        intro A' hA'
        refine Ev.step (f := fun k => forebearref11_Paths.l1 k l (sd A') (sd B) (i : Int) (partsB l[i]) 0) (fun k => by simp only [forebearref11_Paths.j1]) ?_
        refine refpaths_l1 l (sd A') _ (partsB l[i]) hl6 _ _ 0 B (Nat.zero_add _) (by omega) ?_
        rw [wnat hil (by omega), List.drop_zero]
        have := ih (i + 1) A' (B ++ partsB l[i]) (by omega) hA' (by simp; omega)
        rw [List.append_assoc] at this
        rw [List.drop_eq_getElem_cons hil, List.flatMap_cons]
        exact this
      by_cases c : isB l[i] = true
      · have c' := (partsB_some l[i]).2 c
        refine Ev.congr (fun k => by rw [if_pos (by omega)]) (Ev.bind (with_is A l[i] (by omega)) ?_)
        have := tail (A ++ [l[i]]) (by simp; omega)
        have e : (l.drop i).filter isB = l[i] :: (l.drop (i + 1)).filter isB := by rw [List.drop_eq_getElem_cons hil, List.filter_cons, if_pos c]
        rw [e]
        simpa using this
      · have c' := partsB_none l[i] c
        refine Ev.congr (fun k => by rw [if_neg (by rw [c']; simp)]) ?_
        have := tail A (by omega)
        have e : (l.drop i).filter isB = (l.drop (i + 1)).filter isB := by rw [List.drop_eq_getElem_cons hil, List.filter_cons, if_neg c]
        rw [e]
        exact this
theorem good_is (l : List ByteArray) : good l = sd (l.filter isB) := by
  refine rise_ext ?_ (sd_rise _) fun x => ?_
  · unfold good
    have h := sd_rise l
    unfold Rise at h ⊢
    exact List.Pairwise.sublist (List.Sublist.map _ List.filter_sublist) h
  · unfold good
    rw [List.mem_filter, mem_sd, mem_sd, List.mem_filter]
theorem refpaths_ev (l : List ByteArray) (hl : l.length ≤ 2000) : Ev (fun k => forebearref11_Paths.f k l) (allB l, ((good l).length : Int)) := by
  have h := refpaths_l0 l hl l.length 0 [] [] (by omega) (by simp) (by simp)
  have e : sd [] = [] := List.length_eq_zero_iff.1 (by have := sd_len []; simpa using this)
  rw [e] at h
  rw [good_is]
  simpa [forebearref11_Paths.f, allB] using h
theorem refset_l0 (l : List ByteArray) (hl : l.length ≤ 100000) (hs : ∀ p ∈ l, p.size ≤ 140737488351232) (m : Int) (hm : m < 9223372036854775808) : ∀ (d i : Nat) (L : List Int), i + d = l.length → L.length ≤ 3 * i →
    Ev (fun k => forebearref11_Set.l0 k l m L (i : Int)) (L ++ onesL (l.drop i) m) := by
  intro d
  induction d with
  | zero =>
    intro i L hi hL
    refine Ev.step (f := fun _ => some L) (fun k => ?_) ?_
    · simp only [forebearref11_Set.l0]
      rw [if_neg (by omega)]
    · rw [List.drop_eq_nil_of_le (by omega)]
      simpa [onesL] using Ev.now L
  | succ d ih =>
    intro i L hi hL
    have hil : i < l.length := by omega
    refine Ev.step (f := fun k => (forebearref11_Positions.f k l[i] m).bind fun t244 => if L.length + t244.length < 17592186044416 then forebearref11_Set.l0 k l m (L ++ t244) ((i + 1 : Nat) : Int) else none) (fun k => ?_) (Ev.bind (refpositions_ev l[i] (hs _ (List.getElem_mem hil)) m hm) ?_)
    · simp only [forebearref11_Set.l0]
      rw [if_pos (by omega), if_pos (by omega), rdOf_nat l i hil, wnat hil (by omega)]
    · have h3 := posL_le (idP (bytesOf l[i])) m
      refine Ev.congr (fun k => by rw [if_pos (by omega)]) ?_
      have := ih (i + 1) (L ++ posL (idP (bytesOf l[i])) m) (by omega) (by simp; omega)
      rw [List.append_assoc] at this
      have e : onesL (l.drop i) m = posL (idP (bytesOf l[i])) m ++ onesL (l.drop (i + 1)) m := by
        rw [List.drop_eq_getElem_cons hil]; rfl
      rw [e]
      exact this
theorem refset_ev (l : List ByteArray) (hl : l.length ≤ 100000) (hs : ∀ p ∈ l, p.size ≤ 140737488351232) (m : Int) (hm : m < 9223372036854775808) : Ev (fun k => forebearref11_Set.f k l m) (onesL l m) := by
  have := refset_l0 l hl hs m hm l.length 0 [] (by omega) (by simp)
  simpa [forebearref11_Set.f] using this
theorem refhas_l0 (L : List Int) (hL : L.length ≤ 1000000) (x : Int) : ∀ (d i : Nat), i + d = L.length → Ev (fun k => forebearref11_has.l0 k L x (i : Int)) ((L.drop i).contains x) := by
  intro d
  induction d with
  | zero =>
    intro i hi
    refine Ev.step (f := fun _ => some false) (fun k => ?_) ?_
    · simp only [forebearref11_has.l0]
      rw [if_neg (by omega)]
    · rw [List.drop_eq_nil_of_le (by omega)]
      exact Ev.now false
  | succ d ih =>
    intro i hi
    have hil : i < L.length := by omega
    rw [List.drop_eq_getElem_cons hil, List.contains_cons]
    by_cases c : L[i] = x
    · refine Ev.step (f := fun _ => some true) (fun k => ?_) ?_
      · simp only [forebearref11_has.l0]
        rw [if_pos (by omega), if_pos (by omega), rd_nat hil, if_pos c]
      · simp [c]; exact Ev.now true
    · refine Ev.step (f := fun k => forebearref11_has.l0 k L x ((i + 1 : Nat) : Int)) (fun k => ?_) ?_
      · simp only [forebearref11_has.l0]
        rw [if_pos (by omega), if_pos (by omega), rd_nat hil, if_neg c, wnat hil (by omega)]
      · have e : (x == L[i]) = false := by rw [beq_eq_false_iff_ne]; exact fun h => c h.symm
        rw [e, Bool.false_or]
        exact ih (i + 1) (by omega)
theorem refhas_ev (L : List Int) (hL : L.length ≤ 1000000) (x : Int) : Ev (fun k => forebearref11_has.f k L x) (L.contains x) := by
  have := refhas_l0 L hL x L.length 0 (by omega)
  simpa [forebearref11_has.f] using this
def vs (g : Nat → Bool) : Nat → Int
  | 0 => 0
  | n + 1 => vs g n * 2 + (g (7 - n)).toInt
theorem vs_range (g : Nat → Bool) : ∀ n, 0 ≤ vs g n ∧ vs g n < 2 ^ n
  | 0 => by simp [vs]
  | n + 1 => by
    have := vs_range g n
    have hb : 0 ≤ (g (7 - n)).toInt ∧ (g (7 - n)).toInt ≤ 1 := by cases g (7 - n) <;> simp
    rw [vs, Int.pow_succ]
    omega
theorem vs_byte (g : Nat → Bool) : vs g 8 = byteN g := by
  simp only [vs, byteN, Nat.sub_zero, Nat.reduceSub]
  omega
theorem vs_small (g : Nat → Bool) (n : Nat) (h : n ≤ 7) : 0 ≤ vs g n ∧ vs g n < 128 := by
  have := vs_range g n
  have h2 : (2 : Int) ^ n ≤ 2 ^ 7 := by
    have : (2 : Nat) ^ n ≤ 2 ^ 7 := Nat.pow_le_pow_right (by omega) h
    exact_mod_cast this
  omega
theorem refmake_l2 (m : Int) (L : List Int) (hL : L.length ≤ 1000000) (row : List Int) (hrow : row.length < 1000000) (b : Nat) (hb : b ≤ 100000) (r : ByteArray)
    (he : Ev (fun k => forebearref11_Make.l1 k m L (row ++ [byteN fun q => inL L (8 * b + q)]) ((8 * (b + 1) : Nat) : Int)) r) : ∀ (d n : Nat), n + d = 8 →
    Ev (fun k => forebearref11_Make.l2 k m L row ((8 * b : Nat) : Int) (vs (fun q => inL L (8 * b + q)) n) (7 - (n : Int))) r := by
  have e8 : wrap64 (((8 * b : Nat) : Int) + 8) = ((8 * (b + 1) : Nat) : Int) := by rw [w64 _ (by omega)]; omega
  intro d
  induction d with
  | zero =>
    intro n hn
    obtain rfl : n = 8 := by omega
    refine Ev.step (f := fun k => forebearref11_Make.l1 k m L (row ++ [byteN fun q => inL L (8 * b + q)]) ((8 * (b + 1) : Nat) : Int)) (fun k => ?_) he
    simp only [forebearref11_Make.l2]
    rw [if_neg (by omega), if_pos (by omega), vs_byte, e8]
  | succ d ih =>
    intro n hn
    have hs := vs_small (fun q => inL L (8 * b + q)) n (by omega)
    have e1 : wrap64 (((8 * b : Nat) : Int) + (7 - (n : Int))) = ((8 * b + (7 - n) : Nat) : Int) := by rw [w64 _ (by omega)]; omega
    have e2 : wrap64 ((7 : Int) - (n : Int) - 1) = 7 - ((n + 1 : Nat) : Int) := by rw [w64 _ (by omega)]; omega
    have ih' := ih (n + 1) (by omega)
    have hg : (0 : Int) ≤ 7 - (n : Int) := by omega
    have hv : vs (fun q => inL L (8 * b + q)) (n + 1) = vs (fun q => inL L (8 * b + q)) n * 2 + (L.contains ((8 * b + (7 - n) : Nat) : Int)).toInt := rfl
    rw [hv] at ih'
    generalize vs (fun q => inL L (8 * b + q)) n = v at *
    refine Ev.step (f := fun k => (forebearref11_has.f k L ((8 * b + (7 - n) : Nat) : Int)).bind fun t264 => if t264 = true then forebearref11_Make.l2 k m L row ((8 * b : Nat) : Int) ((((v * 2) % 256) + 1) % 256) (7 - ((n + 1 : Nat) : Int)) else forebearref11_Make.l2 k m L row ((8 * b : Nat) : Int) ((v * 2) % 256) (7 - ((n + 1 : Nat) : Int))) (fun k => ?_) (Ev.bind (refhas_ev L hL _) ?_)
    · simp only [forebearref11_Make.l2]
      rw [if_pos hg, e1, e2]
    · cases hc : L.contains ((8 * b + (7 - n) : Nat) : Int)
      · rw [hc] at ih'
        have e3 : v * 2 % 256 = v * 2 + Bool.toInt false := by simp; omega
        refine Ev.congr (fun k => by rw [if_neg (by simp), e3]) ih'
      · rw [hc] at ih'
        have e3 : (v * 2 % 256 + 1) % 256 = v * 2 + Bool.toInt true := by simp; omega
        refine Ev.congr (fun k => by rw [if_pos rfl, e3]) ih'
theorem rowS_succ (S : Nat → Bool) (b : Nat) : rowS S b ++ [byteN fun q => S (8 * b + q)] = rowS S (b + 1) := by
  unfold rowS
  rw [List.range_succ, List.map_append]; rfl
theorem refmake_l1 (L : List Int) (hL : L.length ≤ 1000000) (w : Nat) (hw : w ≤ 100000) : ∀ (d b : Nat), b + d = w → Ev (fun k => forebearref11_Make.l1 k ((8 * w : Nat) : Int) L (rowS (inL L) b) ((8 * b : Nat) : Int)) (strOfNums (rowS (inL L) w)) := by
  intro d
  induction d with
  | zero =>
    intro b hb
    obtain rfl : b = w := by omega
    refine Ev.step (f := fun _ => some (strOfNums (rowS (inL L) b))) (fun k => ?_) (Ev.now _)
    simp only [forebearref11_Make.l1]
    rw [if_neg (by omega)]
  | succ d ih =>
    intro b hb
    have ih' := ih (b + 1) (by omega)
    rw [← rowS_succ] at ih'
    have z := refmake_l2 ((8 * w : Nat) : Int) L hL (rowS (inL L) b) (by rw [rowS_len]; omega) b (by omega) _ ih' 8 0 (by omega)
    refine Ev.step (f := fun k => forebearref11_Make.l2 k ((8 * w : Nat) : Int) L (rowS (inL L) b) ((8 * b : Nat) : Int) 0 7) (fun k => ?_) (by simpa [vs] using z)
    simp only [forebearref11_Make.l1]
    rw [if_pos (by omega)]
theorem ones_len (l : List ByteArray) (m : Int) : (onesL l m).length ≤ 3 * l.length := by
  induction l with
  | nil => simp [onesL]
  | cons x l ih =>
    have := posL_le (idP (bytesOf x)) m
    have e : onesL (x :: l) m = posL (idP (bytesOf x)) m ++ onesL l m := rfl
    rw [e, List.length_append, List.length_cons]; omega
theorem refmake_l0 (l : List ByteArray) (hl : l.length ≤ 60000) (hs : ∀ p ∈ l, p.size ≤ 140737488351232) (w : Nat) (hw : w ≤ 100000) : ∀ (d m : Nat), m + d = 8 * w → d < 8 → Ev (fun k => forebearref11_Make.l0 k l (m : Int)) (strOfNums (rowS (inL (onesL l ((8 * w : Nat) : Int))) w)) := by
  intro d
  induction d with
  | zero =>
    intro m hm hd
    obtain rfl : m = 8 * w := by omega
    have hL := ones_len l ((8 * w : Nat) : Int)
    have z := refmake_l1 (onesL l ((8 * w : Nat) : Int)) (by omega) w hw w 0 (by omega)
    refine Ev.step (f := fun k => (forebearref11_Set.f k l ((8 * w : Nat) : Int)).bind fun t258 => forebearref11_Make.l1 k ((8 * w : Nat) : Int) t258 [1] 0) (fun k => ?_) (Ev.bind (refset_ev l (by omega) hs _ (by omega)) (by simpa [rowS] using z))
    simp only [forebearref11_Make.l0]
    have : Int.tmod ((8 * w : Nat) : Int) 8 = 0 := by rw [Int.tmod_eq_emod_of_nonneg (by omega)]; omega
    rw [if_pos this]
  | succ d ih =>
    intro m hm hd
    refine Ev.step (f := fun k => forebearref11_Make.l0 k l ((m + 1 : Nat) : Int)) (fun k => ?_) (ih (m + 1) (by omega) (by omega))
    simp only [forebearref11_Make.l0]
    have : Int.tmod (m : Int) 8 = (m : Int) % 8 := Int.tmod_eq_emod_of_nonneg (by omega)
    have e : wrap64 ((m : Int) + 1) = ((m + 1 : Nat) : Int) := by rw [w64 _ (by omega)]; omega
    rw [if_neg (by rw [this]; omega), e]
theorem allB_len (l : List ByteArray) : (allB l).length ≤ 6 * l.length := by
  have := sd_len (l.flatMap partsB)
  have := flat_len l
  unfold allB; omega
theorem allB_size (l : List ByteArray) : ∀ p ∈ allB l, p.size ≤ 102 := sd_size (flat_size l)
theorem refmake_ev (l : List ByteArray) (hl : l.length ≤ 2000) : Ev (fun k => forebearref11_Make.f k l) (strOfNums (mkF l)) := by
  unfold forebearref11_Make.f mkF
  refine Ev.bind (refpaths_ev l hl) ?_
  dsimp only
  have hn := allB_len l
  have hz := allB_size l
  by_cases c : 8 < (good l).length
  · rw [if_pos c]
    refine Ev.congr (f := fun _ => some (strOfNums [2])) (fun k => ?_) (Ev.now _)
    rw [if_pos (by omega)]
  · rw [if_neg c]
    have e1 : wrap64 (12 * ((allB l).length : Int)) = ((12 * (allB l).length : Nat) : Int) := by rw [w64 _ (by omega)]; omega
    have hs : ∀ p ∈ allB l, p.size ≤ 140737488351232 := fun p hp => by have := hz p hp; omega
    generalize allB l = t at *
    have hw : wide t.length ≤ 90001 := by unfold wide; omega
    by_cases c2 : 12 * t.length < 8
    · have hw1 : wide t.length = 1 := by unfold wide; omega
      refine Ev.congr (f := fun k => forebearref11_Make.j0 k t 8) (fun k => ?_) (Ev.step (f := fun k => forebearref11_Make.l0 k t 8) (fun k => by simp only [forebearref11_Make.j0]) ?_)
      · rw [if_neg (by omega), e1, if_pos (by omega)]
      · have := refmake_l0 t (by omega) hs (wide t.length) (by omega) 0 8 (by omega) (by omega)
        exact this
    · refine Ev.congr (f := fun k => forebearref11_Make.j0 k t ((12 * t.length : Nat) : Int)) (fun k => ?_) (Ev.step (f := fun k => forebearref11_Make.l0 k t ((12 * t.length : Nat) : Int)) (fun k => by simp only [forebearref11_Make.j0]) ?_)
      · rw [if_neg (by omega), e1, if_neg (by omega)]
      · have hm : 12 * t.length ≤ 8 * wide t.length ∧ 8 * wide t.length < 12 * t.length + 8 := by unfold wide; omega
        exact refmake_l0 t (by omega) hs (wide t.length) (by omega) (8 * wide t.length - 12 * t.length) (12 * t.length) (by omega) (by omega)
end Go.Proofs.Ytgfiapeinpcipaa.Pure
