/- The bytes of a commit, and their reading, in plain Lean. No condition. -/
import Derived.Test.YthigjlahanejjaaMOx0
import Derived.Test.YthigjlahanejjaaMOx1
import Derived.Test.YthigjlahanejjaaMOx3
import Derived.Test.YthigjlahanejjaaMOx4
import Derived.Test.YthigjlahanejjaaMOx7
import Derived.Test.YthigjlahanejjaaPlainReadTree
set_option linter.unusedVariables false
set_option linter.unusedSimpArgs false
namespace Go.Proofs.Ythigjlahanejjaa.Pure
open Go.RowKit Go.Proofs.Ythigjlahanejjaa.MO Go.Proofs.Ythigjlahanejjaa.Opening Go.Proofs.YthigjlahanejjaaW.PrintWords Go.Proofs.YthigjlahanejjaaW.PrintLast Go.Proofs.YthigjlahanejjaaW.PrintMore
theorem rdn {l : List Int} {i : Nat} (h : i < l.length) : rd l (i : Int) = l[i] := by
  simp [rd, List.getD_eq_getElem?_getD, h]
theorem getD_at {l : List Int} {i : Nat} (h : i < l.length) : l.getD i 0 = l[i] := by
  rw [List.getD_eq_getElem?_getD, List.getElem?_eq_getElem h]; rfl
theorem index_l0 (l : List Int) (hl : l.length ≤ 4611686018427387000) (x : Int) : ∀ (d i : Nat), i + d = l.length → ∃ r : Int, (0 ≤ r ↔ x ∈ l.drop i) ∧ Ev (fun k => api_ID_58.l0 k l x (l.length : Int) (i : Int)) r := by
  intro d
  induction d with
  | zero =>
    intro i hi
    refine ⟨-1, by rw [List.drop_eq_nil_of_le (by omega)]; simp, ?_⟩
    refine Ev.step (f := fun _ => some (-1)) (fun k => ?_) (Ev.now _)
    simp only [api_ID_58.l0]
    rw [if_neg (by omega)]
  | succ d ih =>
    intro i hi
    have hil : i < l.length := by omega
    obtain ⟨r, hr, er⟩ := ih (i + 1) (by omega)
    rw [List.drop_eq_getElem_cons hil]
    by_cases c : x = l[i]
    · refine ⟨(i : Int), by rw [c]; exact ⟨fun _ => List.mem_cons_self, fun _ => by omega⟩, ?_⟩
      refine Ev.step (f := fun _ => some (i : Int)) (fun k => ?_) (Ev.now _)
      simp only [api_ID_58.l0]
      rw [if_pos (by omega), if_pos (by omega), if_pos (by omega), rdn hil, if_pos c]
    · refine ⟨r, by rw [hr, List.mem_cons]; simp [c], ?_⟩
      refine Ev.step (fun k => ?_) er
      simp only [api_ID_58.l0]
      rw [if_pos (by omega), if_pos (by omega), if_pos (by omega), rdn hil, if_neg c, wnat hil (by omega)]
theorem contains_ev (l : List Int) (hl : l.length ≤ 4611686018427387000) (x : Int) : Ev (fun k => api_ID_53.f k l x) (decide (x ∈ l)) := by
  obtain ⟨r, hr, er⟩ := index_l0 l hl x l.length 0 (by omega)
  rw [List.drop_zero] at hr
  refine Ev.congr (fun k => by unfold api_ID_53.f api_ID_58.f; rfl) (Ev.bind er ?_)
  have : decide (r ≥ 0) = decide (x ∈ l) := by
    rw [decide_eq_decide]; exact hr
  rw [this]; exact Ev.now _
def finT (acc : List Int) (date : Int) (note : ByteArray) : List Int × Int :=
  if date < 0 ∨ 1099511627776 < date then ([], 3) else (acc ++ be8 date ++ [(note.size : Int) % 256] ++ bytesOf note, 0)
def commitT (tree : Int) (ps : List Int) (date : Int) (note : ByteArray) : List Int × Int :=
  if 8 < ps.length ∨ 64 < note.size then ([], 4) else if ps.Nodup then finT (be8 tree ++ [(ps.length : Int) % 256] ++ ps.flatMap be8) date note else ([], 6)
theorem fin_ev (acc : List Int) (ha : acc.length ≤ 200) (date : Int) (note : ByteArray) (hn : note.size ≤ 64) (tree : Int) (ps : List Int) :
    Ev (fun k => object_Commit.l0 k acc ps (ps.length : Int) (ps.length : Int) tree ps date note) (finT acc date note) := by
  unfold finT
  by_cases h0 : date < 0
  · rw [if_pos (.inl h0)]
    refine Ev.step (f := fun _ => some (([] : List Int), (3 : Int))) (fun k => ?_) (Ev.now _)
    simp only [object_Commit.l0]
    rw [if_neg (by omega), if_pos h0]
  · by_cases h1 : 1099511627776 < date
    · rw [if_pos (.inr h1)]
      refine Ev.step (f := fun _ => some (([] : List Int), (3 : Int))) (fun k => ?_) (Ev.now _)
      simp only [object_Commit.l0]
      rw [if_neg (by omega), if_neg h0, if_pos (by omega)]
    · rw [if_neg (by omega)]
      refine Ev.step (fun k => ?_) (f := fun k => (object_eight.f k acc date).bind fun t150 => ((some (([(note.size : Int) % 256] : List Int) : List Int)).bind fun y153 => (if t150.length + y153.length < 140737488355328 then ((some (t150 ++ y153 : List Int)).bind fun y156 => (if y156.length + note.size < 140737488355328 then (some ((y156 ++ bytesOf note), 0)) else (none))) else (none)))) (Ev.bind (a := acc ++ be8 date) ⟨9, fun k hk => eight_f _ _ (by omega) k hk⟩ ?_)
      · simp only [object_Commit.l0]
        rw [if_neg (by omega), if_neg h0, if_neg (by omega), u64_id (by omega) (by omega)]
      · simp only [Option.bind_some]
        refine Ev.congr (f := fun _ => some (acc ++ be8 date ++ [(note.size : Int) % 256] ++ bytesOf note, 0)) (fun k => ?_) (Ev.now _)
        rw [if_pos (by simp [be8_len]; omega), if_pos (by simp [be8_len]; omega)]
theorem commit_l0 (tree : Int) (ps : List Int) (hps : ps.length ≤ 8) (date : Int) (note : ByteArray) (hn : note.size ≤ 64) : ∀ (d i : Nat) (acc : List Int), i + d = ps.length → acc.length ≤ 9 + 8 * i → (ps.take i).Nodup →
    Ev (fun k => object_Commit.l0 k acc ps (ps.length : Int) (i : Int) tree ps date note) (if ps.Nodup then finT (acc ++ (ps.drop i).flatMap be8) date note else ([], 6)) := by
  intro d
  induction d with
  | zero =>
    intro i acc hi ha hd
    have e : i = ps.length := by omega
    subst e
    rw [List.take_length] at hd
    rw [if_pos hd, List.drop_eq_nil_of_le (Nat.le_refl _), List.flatMap_nil, List.append_nil]
    exact fin_ev acc (by omega) date note hn tree ps
  | succ d ih =>
    intro i acc hi ha hd
    have hil : i < ps.length := by omega
    refine Ev.step (f := fun k => (api_ID_53.f k (ps.take i) ps[i]).bind fun t164 => (if t164 = true then (some (([] : List Int), (6 : Int))) else ((object_eight.f k acc ps[i]).bind fun t165 => (object_Commit.l0 k t165 ps (ps.length : Int) ((i + 1 : Nat) : Int) tree ps date note)))) (fun k => ?_) (Ev.bind (contains_ev (ps.take i) (by simp; omega) ps[i]) ?_)
    · simp only [object_Commit.l0]
      rw [if_pos (by omega), if_pos (by omega), if_pos (by omega), if_pos (by omega), rdn hil, wnat hil (by omega), Int.toNat_natCast]
    · have htk : ps.take (i + 1) = ps.take i ++ [ps[i]] := by
        rw [List.take_add_one, List.getElem?_eq_getElem hil]; rfl
      by_cases hm : ps[i] ∈ ps.take i
      · rw [if_neg (fun h : ps.Nodup => by
          have := List.Nodup.sublist (List.take_sublist (i + 1) ps) h
          rw [htk, List.nodup_append] at this
          exact this.2.2 _ hm _ (List.mem_singleton.2 rfl) rfl)]
        exact Ev.congr (fun k => if_pos (by simpa using hm)) (Ev.now _)
      · refine Ev.congr (fun k => if_neg (by simpa using hm)) (Ev.bind (a := acc ++ be8 ps[i]) ⟨9, fun k hk => eight_f _ _ (by omega) k hk⟩ ?_)
        have := ih (i + 1) (acc ++ be8 ps[i]) (by omega) (by simp [be8_len]; omega) (by
          rw [htk, List.nodup_append]
          exact ⟨hd, List.nodup_cons.2 ⟨by simp, List.nodup_nil⟩, fun a ha b hb e => hm (by rw [List.mem_singleton.1 hb] at e; rw [← e]; exact ha)⟩)
        rw [List.drop_eq_getElem_cons hil, List.flatMap_cons, ← List.append_assoc]
        exact this
theorem commit_ev (tree : Int) (ps : List Int) (date : Int) (note : ByteArray) : Ev (fun k => object_Commit.f k tree ps date note) (commitT tree ps date note) := by
  unfold commitT
  have bad : Ev (fun k => object_Commit.j0 k true tree ps date note) (([] : List Int), (4 : Int)) := by
    refine Ev.step (f := fun _ => some (([] : List Int), (4 : Int))) (fun k => ?_) (Ev.now _)
    simp only [object_Commit.j0]
    rw [if_pos (by trivial)]
  by_cases h : 8 < ps.length ∨ 64 < note.size
  · rw [if_pos h]
    refine Ev.congr (fun k => ?_) bad
    unfold object_Commit.f
    by_cases h8 : 8 < ps.length
    · rw [if_pos (by omega)]
    · rw [if_neg (by omega), decide_eq_true (by omega)]
  · rw [if_neg h]
    refine Ev.congr (f := fun k => object_Commit.j0 k false tree ps date note) (fun k => by unfold object_Commit.f; rw [if_neg (by omega), decide_eq_false (by omega)]) ?_
    refine Ev.step (f := fun k => (object_eight.f k ([] : List Int) tree).bind fun t141 => ((some (([((ps.length : Int)) % 256] : List Int) : List Int)).bind fun y144 => (if t141.length + y144.length < 140737488355328 then (object_Commit.l0 k (t141 ++ y144) ps (ps.length : Int) 0 tree ps date note) else (none)))) (fun k => ?_) (Ev.bind (a := be8 tree) ⟨9, fun k hk => eight_f [] _ (by simp) k hk⟩ ?_)
    · simp only [object_Commit.j0]
      rw [if_neg (by decide)]
    · simp only [Option.bind_some]
      refine Ev.congr (fun k => if_pos (by simp [be8_len])) ?_
      have := commit_l0 tree ps (by omega) date note (by omega) ps.length 0 (be8 tree ++ [(ps.length : Int) % 256]) (by omega) (by simp [be8_len]) (by simp)
      rw [List.drop_zero] at this
      exact this
/-! ### Reading -/
def psT : Nat → List Int → List Int
  | 0, _ => []
  | n + 1, l => valI (l.take 8) 0 :: psT n (l.drop 8)
theorem psT_len : ∀ (n : Nat) (l : List Int), (psT n l).length = n
  | 0, _ => rfl
  | n + 1, l => by rw [psT, List.length_cons, psT_len n]
/-- The commit behind its first nine bytes: its parents, its date, its note; and whether the note is as long as its byte says. -/
def rawC (l : List Int) : Int × List Int × Int × ByteArray :=
  (valI (l.take 8) 0, psT (l.getD 8 0).toNat (l.drop 9), wrap64 (valI ((l.drop (9 + 8 * (l.getD 8 0).toNat)).take 8) 0), strOfNums (l.drop (18 + 8 * (l.getD 8 0).toNat)))
def formC (l : List Int) : Prop := 9 ≤ l.length ∧ l.getD 8 0 ≤ 8 ∧ 18 + 8 * (l.getD 8 0).toNat ≤ l.length ∧ l.getD (17 + 8 * (l.getD 8 0).toNat) 0 = ((l.length - (18 + 8 * (l.getD 8 0).toNat) : Nat) : Int)
instance (l : List Int) : Decidable (formC l) := by unfold formC; infer_instance
abbrev noC : Int × List Int × Int × ByteArray × Int := (0, [], 0, ⟨#[]⟩, 9)
def readC (l : List Int) : Int × List Int × Int × ByteArray × Int :=
  if formC l ∧ (commitT (rawC l).1 (rawC l).2.1 (rawC l).2.2.1 (rawC l).2.2.2).2 = 0 then ((rawC l).1, (rawC l).2.1, (rawC l).2.2.1, (rawC l).2.2.2, 0) else noC
theorem fin_bad (tree : Int) (ps : List Int) (date : Int) (t : List Int × List Int × Bool) (h : t.2.2 = true) : Ev (fun k => rcFin k tree ps date t) noC := by
  refine Ev.congr (fun k => by unfold rcFin; rfl) (Ev.bind (commit_ev tree ps date (strOfNums t.1)) ?_)
  exact Ev.congr (fun k => if_pos h) (Ev.now _)
theorem one_bad (l : List Int) : oneR l true = 0 := by
  unfold oneR; rw [take_bad]; rfl
theorem one_nil : oneR [] false = 0 := by
  unfold oneR; rw [take_few (by decide)]; rfl
theorem eight_bad (l : List Int) : eightR l true = 0 := by
  unfold eightR; rw [take_bad]; rfl
theorem end_bad (tree : Int) (r : List Int × Bool × List Int) (h : r.2.1 = true) : Ev (fun k => rcEnd k tree r) noC := by
  obtain ⟨l, b, ps⟩ := r
  simp only at h
  subst h
  refine Ev.congr (f := fun k => rcFin k tree ps (wrap64 0) ([], l, true)) (fun k => ?_) (fin_bad _ _ _ _ rfl)
  unfold rcEnd
  simp only [take_bad, one_bad, eight_bad]
  rw [if_pos (by decide)]
theorem go_bad : ∀ (n : Nat) (l ps : List Int), (rcGo n l true ps).2.1 = true
  | 0, _, _ => rfl
  | n + 1, l, ps => by
    unfold rcGo
    rw [take_bad]
    exact go_bad n l _
theorem go_good : ∀ (n : Nat) (l ps : List Int), Bytes l → 8 * n ≤ l.length → rcGo n l false ps = (l.drop (8 * n), false, ps ++ psT n l)
  | 0, l, ps, _, _ => by simp [rcGo, psT]
  | n + 1, l, ps, hb, h => by
    have h8 : 8 ≤ l.length := by omega
    unfold rcGo
    rw [take_good (by omega), eight_good hb h8]
    simp only [show (8 : Int).toNat = 8 from rfl]
    rw [go_good n (l.drop 8) _ (hb.drop 8) (by rw [List.length_drop]; omega), List.drop_drop, psT, List.append_assoc, show 8 + 8 * n = 8 * (n + 1) by omega]
    rfl
theorem go_few : ∀ (n : Nat) (l ps : List Int), l.length < 8 * n → (rcGo n l false ps).2.1 = true
  | 0, l, ps, h => by omega
  | n + 1, l, ps, h => by
    unfold rcGo
    by_cases h8 : 8 ≤ l.length
    · rw [take_good (by omega)]
      exact go_few n (l.drop 8) _ (by rw [List.length_drop]; omega)
    · rw [take_few (by omega)]
      exact go_bad n l _
theorem end_few (tree : Int) (l ps : List Int) (h : l.length < 9) : Ev (fun k => rcEnd k tree (l, false, ps)) noC := by
  by_cases h8 : l.length < 8
  · have e : takeR l false 8 = ([], l, true) := take_few (by omega)
    refine Ev.congr (f := fun k => rcFin k tree ps (wrap64 (eightR l false)) ([], l, true)) (fun k => ?_) (fin_bad _ _ _ _ rfl)
    unfold rcEnd
    simp only [e, take_bad, one_bad]
    rw [if_pos (by decide)]
  · have e : takeR l false 8 = (l.take 8, l.drop 8, false) := take_good (by omega)
    have e2 : l.drop 8 = [] := List.drop_eq_nil_of_le (by omega)
    have e3 : takeR [] false 1 = ([], [], true) := take_few (by decide)
    refine Ev.congr (f := fun k => rcFin k tree ps (wrap64 (eightR l false)) ([], [], true)) (fun k => ?_) (fin_bad _ _ _ _ rfl)
    unfold rcEnd
    simp only [e, e2, e3, one_nil, take_bad]
    rw [if_pos (by decide)]
theorem end_good (tree : Int) (l ps : List Int) (hb : Bytes l) (h : 9 ≤ l.length) (r : Int × List Int × Int × ByteArray × Int)
    (h1 : l.getD 8 0 = ((l.length - 9 : Nat) : Int) → (commitT tree ps (wrap64 (valI (l.take 8) 0)) (strOfNums (l.drop 9))).2 = 0 → r = (tree, ps, wrap64 (valI (l.take 8) 0), strOfNums (l.drop 9), 0))
    (h2 : ¬ (l.getD 8 0 = ((l.length - 9 : Nat) : Int) ∧ (commitT tree ps (wrap64 (valI (l.take 8) 0)) (strOfNums (l.drop 9))).2 = 0) → r = noC) : Ev (fun k => rcEnd k tree (l, false, ps)) r := by
  have e : takeR l false 8 = (l.take 8, l.drop 8, false) := take_good (by omega)
  have hcons : l.drop 8 = l[8] :: l.drop 9 := List.drop_eq_getElem_cons (by omega)
  have hg : l.getD 8 0 = l[8] := getD_at (by omega)
  obtain ⟨c0, c1⟩ := hb _ (List.getElem_mem (show 8 < l.length by omega))
  rw [hg] at h1 h2
  generalize l[8] = c at hcons c0 c1 h1 h2
  have e2 : takeR (c :: l.drop 9) false 1 = ([c], l.drop 9, false) := by rw [take_good (by simp; omega)]; rfl
  have hone := one_cons c (l.drop 9) c0 c1
  have hl9 : (l.drop 9).length = l.length - 9 := List.length_drop ..
  have start : ∀ k, rcEnd k tree (l, false, ps) = rcFin k tree ps (wrap64 (valI (l.take 8) 0)) (takeR (l.drop 9) false c) := by
    intro k
    unfold rcEnd
    simp only [e, hcons, e2, hone, eight_good hb (show 8 ≤ l.length by omega)]
    rw [if_pos c0]
  refine Ev.congr start ?_
  by_cases hf : ((l.drop 9).length : Int) < c
  · rw [h2 (by omega)]
    simp only [take_few hf]
    exact fin_bad _ _ _ _ rfl
  · simp only [take_good (show c ≤ ((l.drop 9).length : Int) by omega)]
    refine Ev.congr (fun k => by unfold rcFin; rfl) (Ev.bind (commit_ev tree ps _ _) ?_)
    refine Ev.congr (f := fun _ => if 0 < ((l.drop 9).drop c.toNat).length then some noC else if (commitT tree ps (wrap64 (valI (l.take 8) 0)) (strOfNums ((l.drop 9).take c.toNat))).2 = 0 then some (tree, ps, wrap64 (valI (l.take 8) 0), strOfNums ((l.drop 9).take c.toNat), 0) else some noC) (fun k => if_neg (by simp)) ?_
    by_cases hm : c = ((l.length - 9 : Nat) : Int)
    · have ht : (l.drop 9).take c.toNat = l.drop 9 := List.take_of_length_le (by omega)
      have hd : (l.drop 9).drop c.toNat = [] := List.drop_eq_nil_of_le (by omega)
      simp only [ht, hd]
      refine Ev.congr (fun k => if_neg (by decide)) ?_
      by_cases h0 : (commitT tree ps (wrap64 (valI (l.take 8) 0)) (strOfNums (l.drop 9))).2 = 0
      · rw [h1 hm h0]; exact Ev.congr (fun k => if_pos h0) (Ev.now _)
      · rw [h2 (fun x => h0 x.2)]; exact Ev.congr (fun k => if_neg h0) (Ev.now _)
    · rw [h2 (fun x => hm x.1)]
      exact Ev.congr (fun k => if_pos (by simp only [List.length_drop]; omega)) (Ev.now _)
theorem readcommit_r (l : List Int) (hb : Bytes l) (r : Int × List Int × Int × ByteArray × Int)
    (h1 : formC l → (commitT (rawC l).1 (rawC l).2.1 (rawC l).2.2.1 (rawC l).2.2.2).2 = 0 → r = ((rawC l).1, (rawC l).2.1, (rawC l).2.2.1, (rawC l).2.2.2, 0))
    (h2 : ¬ (formC l ∧ (commitT (rawC l).1 (rawC l).2.1 (rawC l).2.2.1 (rawC l).2.2.2).2 = 0) → r = noC) : Ev (fun k => object_ReadCommit.f k l) r := by
  by_cases h9 : 9 ≤ l.length
  · have e : takeR l false 8 = (l.take 8, l.drop 8, false) := take_good (by omega)
    have hcons : l.drop 8 = l[8] :: l.drop 9 := List.drop_eq_getElem_cons (by omega)
    have hg : l.getD 8 0 = l[8] := getD_at (by omega)
    obtain ⟨c0, c1⟩ := hb _ (List.getElem_mem (show 8 < l.length by omega))
    have start : ∀ k, object_ReadCommit.f k l = rcEnd k (valI (l.take 8) 0) (rcGo (mn l[8] 9).toNat (l.drop 9) false []) := by
      intro k
      have e2 : takeR (l[8] :: l.drop 9) false 1 = ([l[8]], l.drop 9, false) := by rw [take_good (by simp; omega)]; rfl
      unfold object_ReadCommit.f
      simp only [e, hcons, e2, one_cons l[8] (l.drop 9) c0 c1, eight_good hb (show 8 ≤ l.length by omega)]
    refine Ev.congr start ?_
    simp only [formC, rawC] at h1 h2
    rw [hg] at h1 h2
    generalize l[8] = c at c0 c1 h1 h2
    have hl9 : (l.drop 9).length = l.length - 9 := List.length_drop ..
    have hmn : (mn c 9).toNat = if c ≤ 8 then c.toNat else 9 := by
      unfold mn
      by_cases x : 9 < c
      · rw [if_pos x, if_neg (by omega)]; rfl
      · rw [if_neg x]; split <;> omega
    by_cases hf : (l.drop 9).length < 8 * (mn c 9).toNat
    · rw [h2 (fun x => by rw [hmn, if_pos x.1.2.1] at hf; have := x.1.2.2.1; omega)]
      exact end_bad _ _ (go_few _ _ _ hf)
    · rw [go_good _ _ _ (hb.drop 9) (by omega), List.nil_append]
      by_cases hq : ((l.drop 9).drop (8 * (mn c 9).toNat)).length < 9
      · rw [h2 (fun x => by rw [hmn, if_pos x.1.2.1] at hq; have := x.1.2.2.1; rw [List.length_drop] at hq; omega)]
        exact end_few _ _ _ hq
      · have hE := end_good (valI (l.take 8) 0) ((l.drop 9).drop (8 * (mn c 9).toNat)) (psT (mn c 9).toNat (l.drop 9)) ((hb.drop _).drop _) (by omega) r
        by_cases h8 : c ≤ 8
        · rw [hmn, if_pos h8] at hE hq ⊢
          rw [List.length_drop] at hq
          have hdd : (l.drop 9).drop (8 * c.toNat) = l.drop (9 + 8 * c.toNat) := List.drop_drop
          have hd9 : (l.drop (9 + 8 * c.toNat)).drop 9 = l.drop (18 + 8 * c.toNat) := by rw [List.drop_drop]; congr 1; omega
          have hgd : (l.drop (9 + 8 * c.toNat)).getD 8 0 = l.getD (17 + 8 * c.toNat) 0 := by
            simp only [List.getD_eq_getElem?_getD, List.getElem?_drop]; congr 2; omega
          have hll : l.length - (9 + 8 * c.toNat) - 9 = l.length - (18 + 8 * c.toNat) := by omega
          rw [hdd, hd9, hgd, List.length_drop, hll] at hE
          rw [hdd]
          exact hE (fun a b => h1 ⟨h9, h8, by omega, a⟩ b) (fun x => h2 (fun y => x ⟨y.1.2.2.2, y.2⟩))
        · have hn : ∀ d n, ¬ (commitT (valI (l.take 8) 0) (psT (mn c 9).toNat (l.drop 9)) d n).2 = 0 := by
            intro d n h0
            unfold commitT at h0
            rw [if_pos (.inl (by rw [psT_len, hmn, if_neg h8]; omega))] at h0
            exact absurd h0 (by decide)
          exact hE (fun _ b => absurd b (hn _ _)) (fun _ => h2 (fun y => h8 y.1.2.1))
  · rw [h2 (fun x => h9 x.1.1)]
    by_cases h8 : l.length < 8
    · have e : takeR l false 8 = ([], l, true) := take_few (by omega)
      refine Ev.congr (fun k => by unfold object_ReadCommit.f; simp only [e, take_bad]; rfl) (end_bad _ _ (go_bad _ _ _))
    · have e : takeR l false 8 = (l.take 8, l.drop 8, false) := take_good (by omega)
      have e2 : l.drop 8 = [] := List.drop_eq_nil_of_le (by omega)
      have e3 : takeR [] false 1 = ([], [], true) := take_few (by decide)
      refine Ev.congr (fun k => by unfold object_ReadCommit.f; simp only [e, e2, e3]; rfl) (end_bad _ _ (go_bad _ _ _))
theorem readcommit_ev (l : List Int) (hb : Bytes l) : Ev (fun k => object_ReadCommit.f k l) (readC l) :=
  readcommit_r l hb (readC l) (fun a b => if_pos ⟨a, b⟩) (fun a => if_neg a)
end Go.Proofs.Ythigjlahanejjaa.Pure
