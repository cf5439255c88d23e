/- The document's commit: written and read, in plain Lean. No condition. -/
import Derived.Test.YthigjlahanejjaaMOx0
import Derived.Test.YthigjlahanejjaaMOx5
import Derived.Test.YthigjlahanejjaaMOx6
import Derived.Test.YthigjlahanejjaaMOx7
import Derived.Test.YthigjlahanejjaaMOx8
import Derived.Test.YthigjlahanejjaaPlainBackC
import Derived.Test.YthigjlahanejjaaPlainValue
set_option linter.unusedVariables false
set_option linter.unusedSimpArgs false
namespace Go.Proofs.Ythigjlahanejjaa.Pure
open Go.RowKit Go.Proofs.Ythigjlahanejjaa.MO Go.Proofs.Ythigjlahanejjaa.Opening Go.Proofs.YthigjlahanejjaaW.PrintWords Go.Proofs.YthigjlahanejjaaW.PrintLast Go.Proofs.YthigjlahanejjaaW.PrintMore
theorem wfin_ev (acc : List Int) (ha : acc.length ≤ 200) (tree : Int) (ps : List Int) (date : Int) (note : ByteArray) (hn : note.size ≤ 64) (i : Nat) (hi : ps.length ≤ i) :
    Ev (fun k => forebearref08_Write.l0 k (strOfNums acc) (i : Int) tree ps date note) (strOfNums (finT acc date note).1, (finT acc date note).2) := by
  have bad : ∀ x, Ev (fun k => forebearref08_Write.j3 k x true tree ps date note) ((⟨#[]⟩ : ByteArray), (3 : Int)) := fun x => by
    refine Ev.step (f := fun _ => some ((⟨#[]⟩ : ByteArray), (3 : Int))) (fun k => ?_) (Ev.now _)
    simp only [forebearref08_Write.j3]
    rw [if_pos (by trivial)]
  unfold finT
  by_cases h0 : date < 0
  · rw [if_pos (.inl h0)]
    refine Ev.step (fun k => ?_) (bad (strOfNums acc))
    simp only [forebearref08_Write.l0]
    rw [if_neg (by omega), if_pos h0]
  · by_cases h1 : 1099511627776 < date
    · rw [if_pos (.inr h1)]
      refine Ev.step (fun k => ?_) (bad (strOfNums acc))
      simp only [forebearref08_Write.l0]
      rw [if_neg (by omega), if_neg h0, decide_eq_true (by omega)]
    · rw [if_neg (by omega)]
      refine Ev.step (f := fun k => forebearref08_Write.j3 k (strOfNums acc) false tree ps date note) (fun k => ?_) ?_
      · simp only [forebearref08_Write.l0]
        rw [if_neg (by omega), if_neg h0, decide_eq_false (by omega)]
      · refine Ev.step (fun k => by simp only [forebearref08_Write.j3]; rw [if_neg (by decide)]) ?_
        rw [u64_id (n := date) (by omega) (by omega), u64_id (n := (note.size : Int)) (by omega) (by omega)]
        have s1 := strOfNums_size acc
        have s2 := strOfNums_size (be8 date)
        have s3 := strOfNums_size [(note.size : Int) % 256]
        rw [be8_len] at s2
        rw [List.length_singleton] at s3
        refine Ev.bind (number8_ev date (by omega) (by omega)) ?_
        refine Ev.congr (fun k => if_pos (by omega)) (Ev.bind (number1_ev (note.size : Int) (by omega) (by omega)) ?_)
        refine Ev.congr (f := fun _ => some (strOfNums (acc ++ be8 date ++ [(note.size : Int) % 256] ++ bytesOf note), 0)) (fun k => ?_) (Ev.now _)
        rw [if_pos (by omega), if_pos (by omega), ← str_append, ← str_append, ← str_append, str_bytes]
theorem write_l1 (tree : Int) (ps : List Int) (hps : ps.length ≤ 8) (hp : ∀ p ∈ ps, U64 p) (date : Int) (note : ByteArray) (acc : List Int) (ha : acc.length ≤ 200) (i : Nat) (hi : i < ps.length) (r : ByteArray × Int)
    (hr : Ev (fun k => forebearref08_Write.l0 k (strOfNums (acc ++ be8 ps[i])) ((i + 1 : Nat) : Int) tree ps date note) r) : ∀ (e j : Nat), j + e = i →
    Ev (fun k => forebearref08_Write.l1 k (strOfNums acc) (i : Int) (j : Int) tree ps date note) (if ps[i] ∈ (ps.take i).drop j then (⟨#[]⟩, 6) else r) := by
  intro e
  induction e with
  | zero =>
    intro j hj
    rw [List.drop_eq_nil_of_le (by rw [List.length_take]; omega), if_neg (by simp)]
    have s1 := strOfNums_size acc
    have s2 := strOfNums_size (be8 ps[i])
    rw [be8_len] at s2
    obtain ⟨p0, p1⟩ := hp _ (List.getElem_mem hi)
    refine Ev.step (fun k => ?_) (f := fun k => (forebearref07_Number.f k ps[i] 8).bind fun t288 => (if (strOfNums acc).size + t288.size ≤ 9223372036854775807 then (forebearref08_Write.l0 k (strOfNums acc ++ t288) ((i + 1 : Nat) : Int) tree ps date note) else (none))) (Ev.bind (number8_ev ps[i] p0 p1) ?_)
    · simp only [forebearref08_Write.l1]
      rw [if_neg (by omega), if_pos (by omega), if_pos (by omega), rdn hi, wnat hi (by omega)]
    · exact Ev.congr (fun k => by rw [if_pos (by omega), str_append]) hr
  | succ e ih =>
    intro j hj
    have hjl : j < ps.length := by omega
    have hcons : (ps.take i).drop j = ps[j] :: (ps.take i).drop (j + 1) := by
      rw [List.drop_eq_getElem_cons (by rw [List.length_take]; omega), List.getElem_take]
    rw [hcons]
    by_cases c : ps[j] = ps[i]
    · rw [if_pos (by rw [c]; exact List.mem_cons_self)]
      refine Ev.step (f := fun _ => some ((⟨#[]⟩ : ByteArray), (6 : Int))) (fun k => ?_) (Ev.now _)
      simp only [forebearref08_Write.l1]
      rw [if_pos (by omega), if_pos (by omega), if_pos (by omega), if_pos (by omega), if_pos (by omega), rdn hi, rdn hjl, if_pos c]
    · have hm : (ps[i] ∈ ps[j] :: (ps.take i).drop (j + 1)) ↔ ps[i] ∈ (ps.take i).drop (j + 1) := by
        rw [List.mem_cons]; exact ⟨fun h => h.elim (fun e => absurd e.symm c) id, .inr⟩
      simp only [hm]
      refine Ev.step (fun k => ?_) (ih (j + 1) (by omega))
      simp only [forebearref08_Write.l1]
      rw [if_pos (by omega), if_pos (by omega), if_pos (by omega), if_pos (by omega), if_pos (by omega), rdn hi, rdn hjl, if_neg c, wnat hjl (by omega)]
theorem write_l0 (tree : Int) (ps : List Int) (hps : ps.length ≤ 8) (hp : ∀ p ∈ ps, U64 p) (date : Int) (note : ByteArray) (hn : note.size ≤ 64) : ∀ (d i : Nat) (acc : List Int), i + d = ps.length → acc.length ≤ 9 + 8 * i → (ps.take i).Nodup →
    ∃ r, r = (if ps.Nodup then finT (acc ++ (ps.drop i).flatMap be8) date note else ([], 6)) ∧ Ev (fun k => forebearref08_Write.l0 k (strOfNums acc) (i : Int) tree ps date note) (strOfNums r.1, r.2) := by
  intro d
  induction d with
  | zero =>
    intro i acc hi ha hd
    refine ⟨_, rfl, ?_⟩
    have e : i = ps.length := by omega
    subst e
    rw [List.take_length] at hd
    simp only [if_pos hd, List.drop_eq_nil_of_le (Nat.le_refl _), List.flatMap_nil, List.append_nil]
    exact wfin_ev acc (by omega) tree ps date note hn ps.length (Nat.le_refl _)
  | succ d ih =>
    intro i acc hi ha hd
    have hil : i < ps.length := by omega
    have htk : ps.take (i + 1) = ps.take i ++ [ps[i]] := by
      rw [List.take_add_one, List.getElem?_eq_getElem hil]; rfl
    by_cases hm : ps[i] ∈ ps.take i
    · have hnd : ¬ ps.Nodup := fun h => by
        have := List.Nodup.sublist (List.take_sublist (i + 1) ps) h
        rw [htk, List.nodup_append] at this
        exact this.2.2 _ hm _ (List.mem_singleton.2 rfl) rfl
      refine ⟨_, rfl, ?_⟩
      simp only [if_neg hnd]
      -- the pair is found, whatever comes behind it
      have H : ∀ e j : Nat, j + e = i → ps[i] ∈ (ps.take i).drop j → Ev (fun k => forebearref08_Write.l1 k (strOfNums acc) (i : Int) (j : Int) tree ps date note) ((⟨#[]⟩ : ByteArray), (6 : Int)) := by
        intro e
        induction e with
        | zero =>
          intro j hj hmem
          rw [List.drop_eq_nil_of_le (by rw [List.length_take]; omega)] at hmem
          simp at hmem
        | succ e ih2 =>
          intro j hj hmem
          have hjl : j < ps.length := by omega
          have hcons : (ps.take i).drop j = ps[j] :: (ps.take i).drop (j + 1) := by
            rw [List.drop_eq_getElem_cons (by rw [List.length_take]; omega), List.getElem_take]
          rw [hcons] at hmem
          by_cases c : ps[j] = ps[i]
          · refine Ev.step (f := fun _ => some ((⟨#[]⟩ : ByteArray), (6 : Int))) (fun k => ?_) (Ev.now _)
            simp only [forebearref08_Write.l1]
            rw [if_pos (by omega), if_pos (by omega), if_pos (by omega), if_pos (by omega), if_pos (by omega), rdn hil, rdn hjl, if_pos c]
          · refine Ev.step (fun k => ?_) (ih2 (j + 1) (by omega) ((List.mem_cons.1 hmem).elim (fun e => absurd e.symm c) id))
            simp only [forebearref08_Write.l1]
            rw [if_pos (by omega), if_pos (by omega), if_pos (by omega), if_pos (by omega), if_pos (by omega), rdn hil, rdn hjl, if_neg c, wnat hjl (by omega)]
      refine Ev.step (fun k => ?_) (H i 0 (by omega) (by rw [List.drop_zero]; exact hm))
      simp only [forebearref08_Write.l0]
      rw [if_pos (by omega)]
      rfl
    · obtain ⟨r, er, hr⟩ := ih (i + 1) (acc ++ be8 ps[i]) (by omega) (by simp [be8_len]; omega) (by
        rw [htk, List.nodup_append]
        exact ⟨hd, List.nodup_cons.2 ⟨by simp, List.nodup_nil⟩, fun a ha b hb e => hm (by rw [List.mem_singleton.1 hb] at e; rw [← e]; exact ha)⟩)
      refine ⟨r, ?_, ?_⟩
      · rw [er, List.drop_eq_getElem_cons hil, List.flatMap_cons, ← List.append_assoc]
      · have := write_l1 tree ps hps hp date note acc (by omega) i hil _ hr i 0 (by omega)
        rw [List.drop_zero, if_neg hm] at this
        refine Ev.step (fun k => ?_) this
        simp only [forebearref08_Write.l0]
        rw [if_pos (by omega)]
        rfl
theorem write_ev (tree : Int) (ps : List Int) (date : Int) (note : ByteArray) (ht : U64 tree) (hp : ∀ p ∈ ps, U64 p) : Ev (fun k => forebearref08_Write.f k tree ps date note) (strOfNums (commitT tree ps date note).1, (commitT tree ps date note).2) := by
  unfold commitT
  have bad : Ev (fun k => forebearref08_Write.j0 k true tree ps date note) ((⟨#[]⟩ : ByteArray), (4 : Int)) := by
    refine Ev.step (f := fun _ => some ((⟨#[]⟩ : ByteArray), (4 : Int))) (fun k => ?_) (Ev.now _)
    simp only [forebearref08_Write.j0]
    rw [if_pos (by trivial)]
  by_cases h : 8 < ps.length ∨ 64 < note.size
  · rw [if_pos h]
    refine Ev.congr (fun k => ?_) bad
    unfold forebearref08_Write.f
    by_cases h8 : 8 < ps.length
    · rw [if_pos (by omega)]
    · rw [if_neg (by omega), decide_eq_true (by omega)]
  · rw [if_neg h]
    refine Ev.congr (f := fun k => forebearref08_Write.j0 k false tree ps date note) (fun k => by unfold forebearref08_Write.f; rw [if_neg (by omega), decide_eq_false (by omega)]) ?_
    refine Ev.step (fun k => by simp only [forebearref08_Write.j0]; rw [if_neg (by decide)]) ?_
    refine Ev.bind (number8_ev tree ht.1 ht.2) ?_
    rw [u64_id (n := (ps.length : Int)) (by omega) (by omega)]
    refine Ev.bind (number1_ev (ps.length : Int) (by omega) (by omega)) ?_
    have s2 := strOfNums_size (be8 tree)
    have s3 := strOfNums_size [(ps.length : Int) % 256]
    rw [be8_len] at s2
    rw [List.length_singleton] at s3
    refine Ev.congr (fun k => if_pos (by omega)) ?_
    obtain ⟨r, er, hr⟩ := write_l0 tree ps (by omega) hp date note (by omega) ps.length 0 (be8 tree ++ [(ps.length : Int) % 256]) (by omega) (by simp [be8_len]) (by simp)
    rw [List.drop_zero] at er
    rw [← er, str_append]
    exact hr
/-! ### The document's reading -/
theorem w64b' {c : Int} (c0 : 0 ≤ c) (c1 : c < 256) : wrap64 c = c := w64 c (by omega)
theorem idx_c {i : Int} (h0 : 0 ≤ i) (h1 : i ≤ 8) : wrap64 (8 * i) = 8 * i ∧ wrap64 (9 + 8 * i) = 9 + 8 * i ∧ wrap64 (17 + 8 * i) = 17 + 8 * i ∧ wrap64 (18 + 8 * i) = 18 + 8 * i ∧ wrap64 i = i :=
  ⟨w64 _ (by omega), w64 _ (by omega), w64 _ (by omega), w64 _ (by omega), w64 _ (by omega)⟩
theorem ext8 (l : List Int) (a b : Nat) (h : b = a + 8) : (strOfNums l).extract a b = strOfNums ((l.drop a).take 8) := by
  rw [str_extract, List.drop_take, show b - a = 8 by omega]
theorem ref_bad (s : ByteArray) : Ev (fun k => forebearref08_ReadCommit.j0 k s true) noC := by
  refine Ev.step (f := fun _ => some noC) (fun k => ?_) (Ev.now _)
  simp only [forebearref08_ReadCommit.j0]
  rw [if_pos (by trivial)]
theorem psT_snoc : ∀ (n : Nat) (l : List Int), psT (n + 1) l = psT n l ++ [valI ((l.drop (8 * n)).take 8) 0]
  | 0, l => by simp [psT]
  | n + 1, l => by
    rw [psT, psT_snoc n (l.drop 8), psT, List.drop_drop, show 8 + 8 * n = 8 * (n + 1) by omega]; rfl
theorem refrc_l0 (l : List Int) (hb : Bytes l) (n : Nat) (hn : n ≤ 8) (hl : 18 + 8 * n ≤ l.length) (hL : l.length ≤ 4611686018427387000) (tree date : Int) (note : ByteArray) (r : Int × List Int × Int × ByteArray × Int)
    (hr : Ev (fun k => forebearref08_ReadCommit.l0 k (strOfNums l) (n : Int) (n : Int) tree (psT n (l.drop 9)) date note) r) : ∀ (d i : Nat), i + d = n →
    Ev (fun k => forebearref08_ReadCommit.l0 k (strOfNums l) (n : Int) (i : Int) tree (psT i (l.drop 9)) date note) r := by
  intro d
  have hsz := strOfNums_size l
  induction d with
  | zero =>
    intro i hi
    have e : i = n := by omega
    subst e
    exact hr
  | succ d ih =>
    intro i hi
    have hin : i < n := by omega
    have g0 : (i : Int) < (n : Int) := by omega
    have g1 : (0 : Int) ≤ 9 + 8 * (i : Int) := by omega
    have g2 : 9 + 8 * (i : Int) ≤ 17 + 8 * (i : Int) := by omega
    have g3 : 17 + 8 * (i : Int) ≤ ((strOfNums l).size : Int) := by omega
    have t1 : (9 + 8 * (i : Int)).toNat = 9 + 8 * i := by omega
    have t2 : (17 + 8 * (i : Int)).toNat = 17 + 8 * i := by omega
    have hps := psT_len i (l.drop 9)
    have hl8 : ((l.drop (9 + 8 * i)).take 8).length = 8 := by rw [List.length_take, List.length_drop]; omega
    have hx := ext8 l (9 + 8 * i) (17 + 8 * i) (by omega)
    have hw := wnat hin (show n ≤ 4611686018427387904 by omega)
    obtain ⟨w1, w2, w3, w4, w5⟩ := idx_c (i := (i : Int)) (by omega) (by omega)
    refine Ev.step (f := fun k => (forebearref07_Value.f k (strOfNums ((l.drop (9 + 8 * i)).take 8))).bind fun t302 => (if (psT i (l.drop 9)).length < 17592186044416 then (forebearref08_ReadCommit.l0 k (strOfNums l) (n : Int) ((i + 1 : Nat) : Int) tree (psT i (l.drop 9) ++ [t302]) date note) else (none))) (fun k => ?_) (Ev.bind (refvalue_ev _ ((hb.drop _).take _) hl8) ?_)
    · simp only [forebearref08_ReadCommit.l0]
      rw [if_pos g0, w1, w2, w3, if_pos g1, if_pos g2, if_pos g3, t1, t2, hx, hw]
    · clear w1 w2 w3 w4 w5 hw
      refine Ev.congr (fun k => if_pos (by omega)) ?_
      have := ih (i + 1) (by omega)
      rw [psT_snoc, List.drop_drop] at this
      exact this
theorem refreadcommit_ev (l : List Int) (hb : Bytes l) (hL : l.length ≤ 4611686018427387000) : Ev (fun k => forebearref08_ReadCommit.f k (strOfNums l)) (readC l) := by
  have hsz := strOfNums_size l
  by_cases h9 : l.length < 9
  · have : readC l = noC := by unfold readC; rw [if_neg (fun x => by have := x.1.1; omega)]
    rw [this]
    refine Ev.congr (fun k => ?_) (ref_bad (strOfNums l))
    unfold forebearref08_ReadCommit.f
    rw [if_pos (by omega)]
  · have g8 : l.getD 8 0 = l[8] := getD_at (by omega)
    have b8 := hb _ (List.getElem_mem (show 8 < l.length by omega))
    have hbt : bt (strOfNums l) 8 = l[8] := bt_str l hb 8 (by omega)
    have hform : formC l ↔ (9 ≤ l.length ∧ l[8] ≤ 8 ∧ 18 + 8 * l[8].toNat ≤ l.length ∧ l.getD (17 + 8 * l[8].toNat) 0 = ((l.length - (18 + 8 * l[8].toNat) : Nat) : Int)) := by
      unfold formC; rw [g8]
    have hraw : rawC l = (valI (l.take 8) 0, psT l[8].toNat (l.drop 9), wrap64 (valI ((l.drop (9 + 8 * l[8].toNat)).take 8) 0), strOfNums (l.drop (18 + 8 * l[8].toNat))) := by
      unfold rawC; rw [g8]
    generalize l[8] = c at b8 hbt hform hraw
    have hwc : wrap64 c = c := w64b' b8.1 b8.2
    by_cases h8 : 8 < c
    · have : readC l = noC := by unfold readC; rw [if_neg (fun x => by have := (hform.1 x.1).2.1; omega)]
      rw [this]
      refine Ev.congr (fun k => ?_) (ref_bad (strOfNums l))
      unfold forebearref08_ReadCommit.f
      rw [if_neg (by omega), if_pos (by omega), hbt, hwc, if_pos (by omega)]
    · obtain ⟨n, rfl⟩ : ∃ n : Nat, c = (n : Int) := ⟨c.toNat, by omega⟩
      simp only [Int.toNat_natCast] at hform hraw
      have a0 : ¬ ((strOfNums l).size : Int) < 9 := by omega
      have a1 : (8 : Int) < ((strOfNums l).size : Int) := by omega
      have a2 : ¬ (n : Int) > 8 := by omega
      obtain ⟨w1, w2, w3, w4, w5⟩ := idx_c (i := (n : Int)) (by omega) (by omega)
      have start : ∀ k, forebearref08_ReadCommit.f k (strOfNums l) = forebearref08_ReadCommit.j0 k (strOfNums l) (decide (((strOfNums l).size : Int) < 18 + 8 * (n : Int))) := by
        intro k
        unfold forebearref08_ReadCommit.f
        rw [if_neg a0, if_pos a1, hbt, hwc, if_neg a2, w1, w4]
      refine Ev.congr start ?_
      by_cases hs : l.length < 18 + 8 * n
      · have : readC l = noC := by
          clear w1 w2 w3 w4 w5 hwc start
          unfold readC; rw [if_neg (fun x => by have := (hform.1 x.1).2.2.1; omega)]
        rw [this, decide_eq_true (by clear w1 w2 w3 w4 w5 hwc start; omega)]
        exact ref_bad _
      · rw [decide_eq_false (by clear w1 w2 w3 w4 w5 hwc start; omega)]
        have g2 : (0 : Nat) ≤ 8 := by omega
        have g3 : (8 : Int) ≤ ((strOfNums l).size : Int) := by clear w1 w2 w3 w4 w5 hwc start; omega
        have g4 : (0 : Int) ≤ 9 + 8 * (n : Int) := by clear w1 w2 w3 w4 w5 hwc start; omega
        have g5 : 9 + 8 * (n : Int) ≤ 17 + 8 * (n : Int) := by clear w1 w2 w3 w4 w5 hwc start; omega
        have g6 : 17 + 8 * (n : Int) ≤ ((strOfNums l).size : Int) := by clear w1 w2 w3 w4 w5 hwc start; omega
        have g7 : (0 : Int) ≤ 18 + 8 * (n : Int) := by clear w1 w2 w3 w4 w5 hwc start; omega
        have g9 : 18 + 8 * (n : Int) ≤ ((strOfNums l).size : Int) := by clear w1 w2 w3 w4 w5 hwc start; omega
        have t1 : (9 + 8 * (n : Int)).toNat = 9 + 8 * n := by clear w1 w2 w3 w4 w5 hwc start; omega
        have t2 : (17 + 8 * (n : Int)).toNat = 17 + 8 * n := by clear w1 w2 w3 w4 w5 hwc start; omega
        have t3 : (18 + 8 * (n : Int)).toNat = 18 + 8 * n := by clear w1 w2 w3 w4 w5 hwc start; omega
        have e0 : (strOfNums l).extract 0 8 = strOfNums (l.take 8) := by rw [str_extract, List.drop_zero]
        have e1 := ext8 l (9 + 8 * n) (17 + 8 * n) (by clear w1 w2 w3 w4 w5 hwc start; omega)
        have e2 : (strOfNums l).extract (18 + 8 * n) (strOfNums l).size = strOfNums (l.drop (18 + 8 * n)) := by
          rw [str_extract, hsz, List.take_length]
        have l1 : (l.take 8).length = 8 := by clear w1 w2 w3 w4 w5 hwc start; rw [List.length_take]; omega
        have l2 : ((l.drop (9 + 8 * n)).take 8).length = 8 := by clear w1 w2 w3 w4 w5 hwc start; rw [List.length_take, List.length_drop]; omega
        refine Ev.step (f := fun k => (forebearref07_Value.f k (strOfNums (l.take 8))).bind fun t299 => ((forebearref07_Value.f k (strOfNums ((l.drop (9 + 8 * n)).take 8))).bind fun t300 => (forebearref08_ReadCommit.l0 k (strOfNums l) (n : Int) 0 t299 ([] : List Int) (wrap64 t300) (strOfNums (l.drop (18 + 8 * n)))))) (fun k => ?_) (Ev.bind (refvalue_ev _ (hb.take 8) l1) (Ev.bind (refvalue_ev _ ((hb.drop _).take _) l2) ?_))
        · simp only [forebearref08_ReadCommit.j0]
          rw [if_neg (by decide), if_pos a1, if_pos g2, if_pos g3, e0, hbt, hwc, w1, w2, w3, w4, t1, t2, t3, e1, e2]
          simp only [eq_true g4, eq_true g5, eq_true g6, eq_true g7, eq_true g9, if_true]
        · clear w1 w2 w3 w4 w5 hwc start a0 a1 a2 g2 g3 g4 g5 g6 g7 g9 t1 t2 t3
          refine refrc_l0 l hb n (by omega) (by omega) hL _ _ _ (readC l) ?_ n 0 (by omega)
          have hvr := valI_range _ (hb.take 8) l1
          have hpg : ∀ p ∈ psT n (l.drop 9), U64 p := by
            have H : ∀ (n : Nat) (m : List Int), Bytes m → 8 * n ≤ m.length → ∀ p ∈ psT n m, U64 p := by
              intro n
              induction n with
              | zero => intro m _ _ p hp; simp [psT] at hp
              | succ n ih =>
                intro m hm h p hp
                rcases List.mem_cons.1 hp with e | hp
                · rw [e]; exact valI_range _ (hm.take 8) (by rw [List.length_take]; omega)
                · exact ih (m.drop 8) (hm.drop 8) (by rw [List.length_drop]; omega) p hp
            exact H _ _ (hb.drop 9) (by rw [List.length_drop]; omega)
          have hW := write_ev (valI (l.take 8) 0) (psT n (l.drop 9)) (wrap64 (valI ((l.drop (9 + 8 * n)).take 8) 0)) (strOfNums (l.drop (18 + 8 * n))) hvr hpg
          refine Ev.step (fun k => by simp only [forebearref08_ReadCommit.l0]; rw [if_neg (by omega)]) (Ev.bind hW ?_)
          have hback := rc_back hb
          have hrc1 : formC l → (commitT (valI (l.take 8) 0) (psT n (l.drop 9)) (wrap64 (valI ((l.drop (9 + 8 * n)).take 8) 0)) (strOfNums (l.drop (18 + 8 * n)))).2 = 0 → readC l = (valI (l.take 8) 0, psT n (l.drop 9), wrap64 (valI ((l.drop (9 + 8 * n)).take 8) 0), strOfNums (l.drop (18 + 8 * n)), 0) :=
            fun a b => by unfold readC; rw [if_pos ⟨a, by rw [hraw]; exact b⟩, hraw]
          have hrc2 : ¬ (formC l ∧ (commitT (valI (l.take 8) 0) (psT n (l.drop 9)) (wrap64 (valI ((l.drop (9 + 8 * n)).take 8) 0)) (strOfNums (l.drop (18 + 8 * n)))).2 = 0) → readC l = noC :=
            fun a => by unfold readC; rw [if_neg (fun x => a ⟨x.1, by rw [hraw] at x; exact x.2⟩)]
          rw [hraw] at hback
          simp only [] at hback
          generalize hC : commitT (valI (l.take 8) 0) (psT n (l.drop 9)) (wrap64 (valI ((l.drop (9 + 8 * n)).take 8) 0)) (strOfNums (l.drop (18 + 8 * n))) = C at hback hrc1 hrc2 ⊢
          by_cases h0 : C.2 = 0
          · have hof := rc_of (by rw [hC]; exact h0) hvr hpg
            rw [hC] at hof
            have hbC := commit_bytes (by rw [hC]; exact h0)
            rw [hC] at hbC
            refine Ev.congr (fun k => if_pos h0) ?_
            by_cases hf : formC l
            · rw [hrc1 hf h0]
              have e := hback hf h0
              exact Ev.congr (fun k => if_pos (by rw [e])) (Ev.now _)
            · rw [hrc2 (fun x => hf x.1)]
              exact Ev.congr (fun k => if_neg (fun x => hf (by rw [← str_inj hbC hb x]; exact hof.1))) (Ev.now _)
          · rw [hrc2 (fun x => h0 x.2)]
            exact Ev.congr (fun k => if_neg h0) (Ev.now _)
end Go.Proofs.Ythigjlahanejjaa.Pure
