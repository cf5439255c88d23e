/- The plain statement of the law FrameTorn, without program and memory. No condition. -/
import Derived.Test.YtgmlhcjcaebfgaaMAx0
import Derived.Test.YtgmlhcjcaebfgaaMAx14
import Derived.Test.YtgmlhcjcaebfgaaMAx19
import Derived.Test.YtgmlhcjcaebfgaaPlainFrameCut
namespace Go.Proofs.Ytgmlhcjcaebfgaa.Pure
open Go.RowKit Go.Proofs.Ytgmlhcjcaebfgaa.Opening Go.Proofs.Ytgmlhcjcaebfgaa.MA Go.Proofs.YtgmlhcjcaebfgaaW.PrintWords Go.Proofs.YtgmlhcjcaebfgaaW.PrintLast Go.Proofs.YtgmlhcjcaebfgaaW.PrintMore

/-! ### The row -/
def rowFrom (acc : List Int) : List S47 → List Int × Int
  | [] => (acc, 0)
  | x :: xs => if (sealOf x.f0 x.f1).2 = 0 then rowFrom (acc ++ (sealOf x.f0 x.f1).1) xs else ([], (sealOf x.f0 x.f1).2)
theorem sealOf_len (kind : Int) (body : List Int) : (sealOf kind body).1.length ≤ 8201 := by
  unfold sealOf
  split
  · simp
  · split
    · simp
    · rw [sealed_len]; omega
theorem rdT_nat {p : List S47} {j : Nat} (h : j < p.length) : rd_T47 p (j : Int) = p[j] := by simp [rd_T47, h]
theorem row_l0 (l : List S47) (hl : l.length ≤ 9223372036854775807) (hb : ∀ x ∈ l, Bytes x.f1) : ∀ (d i : Nat) (acc : List Int), i + d = l.length → acc.length + 8201 * d < 140737488355328 →
    Ev (fun k => frame_Row.l0 k acc l (l.length : Int) (i : Int)) (rowFrom acc (l.drop i)) := by
  intro d
  induction d with
  | zero =>
    intro i acc hi _
    refine Ev.step (f := fun _ => some (acc, 0)) (fun k => ?_) ?_
    · simp only [frame_Row.l0]; rw [if_neg (by omega)]
    · rw [List.drop_eq_nil_of_le (by omega)]; exact Ev.now _
  | succ d ih =>
    intro i acc hi ha
    have hlt : i < l.length := by omega
    have hsl := sealOf_len l[i].f0 l[i].f1
    refine Ev.step (fun k => by simp only [frame_Row.l0]; rw [if_pos (by omega), if_pos (by omega), if_pos (by omega), rdT_nat hlt]) ?_
    refine Ev.bind (seal_ev _ _ (hb _ (List.getElem_mem hlt))) ?_
    rw [List.drop_eq_getElem_cons hlt]
    simp only [rowFrom]
    by_cases h : (sealOf l[i].f0 l[i].f1).2 = 0
    · rw [if_pos h]
      refine Ev.congr (fun k => if_pos h) ?_
      refine Ev.congr (fun k => if_pos (by omega)) ?_
      rw [wrap_succ (by omega)]
      exact ih (i + 1) _ (by omega) (by rw [List.length_append]; omega)
    · rw [if_neg h]
      exact Ev.congr (fun k => if_neg h) (Ev.now _)
theorem row_ev (l : List S47) (hl : 8201 * l.length < 140737488355328) (hb : ∀ x ∈ l, Bytes x.f1) : Ev (fun k => frame_Row.f k l) (rowFrom [] l) :=
  row_l0 l (by omega) hb l.length 0 [] (by omega) (by simpa using hl)
def Good (x : S47) : Prop := 0 ≤ x.f0 ∧ x.f0 ≤ 255 ∧ x.f1.length ≤ 8192
def flat (l : List S47) : List Int := (l.map fun x => sealed x.f0.toNat x.f1).flatten
theorem flat_cons (x : S47) (l : List S47) : flat (x :: l) = sealed x.f0.toNat x.f1 ++ flat l := rfl
theorem seal_good {x : S47} (h : (sealOf x.f0 x.f1).2 = 0) : Good x ∧ (sealOf x.f0 x.f1).1 = sealed x.f0.toNat x.f1 := by
  unfold sealOf at *
  split at h
  · simp at h
  · rename_i h1
    split at h
    · simp at h
    · rename_i h2
      rw [if_neg h1, if_neg h2]
      exact ⟨⟨by omega, by omega, by omega⟩, rfl⟩
theorem rowFrom_ok : ∀ (l : List S47) (acc : List Int), (rowFrom acc l).2 = 0 → (rowFrom acc l).1 = acc ++ flat l ∧ ∀ x ∈ l, Good x
  | [], acc, _ => ⟨by simp [rowFrom, flat], fun x hx => by simp at hx⟩
  | x :: xs, acc, h => by
    simp only [rowFrom] at *
    by_cases hs : (sealOf x.f0 x.f1).2 = 0
    · rw [if_pos hs] at h ⊢
      obtain ⟨hg, he⟩ := seal_good hs
      obtain ⟨h1, h2⟩ := rowFrom_ok xs _ h
      refine ⟨by rw [h1, he, flat_cons, List.append_assoc], fun y hy => ?_⟩
      rcases List.mem_cons.1 hy with rfl | hy
      · exact hg
      · exact h2 y hy
    · rw [if_neg hs] at h
      exact absurd h hs
theorem rowFrom_bad : ∀ (l : List S47) (acc : List Int), (rowFrom acc l).2 ≠ 0 → (rowFrom acc l).1 = []
  | [], acc, h => by simp [rowFrom] at h
  | x :: xs, acc, h => by
    simp only [rowFrom] at *
    by_cases hs : (sealOf x.f0 x.f1).2 = 0
    · rw [if_pos hs] at h ⊢
      exact rowFrom_bad xs _ h
    · rw [if_neg hs]
theorem flat_bytes {l : List S47} (hg : ∀ x ∈ l, Good x) (hb : ∀ x ∈ l, Bytes x.f1) : Bytes (flat l) := by
  intro y hy
  obtain ⟨p, hp, hy⟩ := List.mem_flatten.1 hy
  obtain ⟨x, hx, rfl⟩ := List.mem_map.1 hp
  have := hg x hx
  obtain ⟨h1, h2, _⟩ := this
  exact sealed_bytes (by omega) (hb x hx) y hy
theorem flat_len : ∀ {l : List S47}, (∀ x ∈ l, Good x) → (flat l).length ≤ 8201 * l.length
  | [], _ => by simp [flat]
  | x :: xs, hg => by
    have h1 := flat_len (l := xs) (fun y hy => hg y (List.mem_cons_of_mem _ hy))
    have h2 := (hg x (List.mem_cons_self)).2.2
    rw [flat_cons, List.length_append, sealed_len, List.length_cons]
    omega

/-! ### What fits -/
def fit : List S47 → Nat → List S47 × Nat
  | [], _ => ([], 0)
  | x :: xs, m => if x.f1.length + 9 ≤ m then (x :: (fit xs (m - (x.f1.length + 9))).1, x.f1.length + 9 + (fit xs (m - (x.f1.length + 9))).2) else ([], 0)
theorem fit_yes (x : S47) (xs : List S47) (m : Nat) (h : x.f1.length + 9 ≤ m) : fit (x :: xs) m = (x :: (fit xs (m - (x.f1.length + 9))).1, x.f1.length + 9 + (fit xs (m - (x.f1.length + 9))).2) := by
  simp only [fit]
  rw [if_pos h]
theorem fit_no (x : S47) (xs : List S47) (m : Nat) (h : ¬ x.f1.length + 9 ≤ m) : fit (x :: xs) m = ([], 0) := by
  simp only [fit]
  rw [if_neg h]
def pair (x : S47) : Int × List Int := (x.f0, x.f1)
theorem open_short (kind : Nat) (body r : List Int) (hl : body.length ≤ 8192) (m : Nat) (hm : m < body.length + 9) : openOf ((sealed kind body ++ r).take m) = (0, [], 0, 10) := by
  have hlen : ((sealed kind body ++ r).take m).length = m := by rw [List.length_take, List.length_append, sealed_len]; omega
  unfold openOf
  by_cases h : m < 4
  · rw [hlen, if_pos h]
  · have hv : val4 ((sealed kind body ++ r).take m) = body.length := by
      unfold sealed headBody
      rw [List.append_assoc, List.append_assoc, List.append_assoc, List.append_assoc, List.take_append, List.take_of_length_le (by rw [four_len]; omega), val4_four _ (by omega)]
    rw [hv, hlen, if_neg h, if_neg (by omega), if_pos hm]
theorem cut_fit : ∀ (l : List S47) (p : List Int) (m d : Nat) (acc : List (Int × List Int)), (∀ x ∈ l, Good x) → m ≤ (flat l).length → m < d →
    cutFrom (p ++ (flat l).take m) d acc p.length = (acc ++ (fit l m).1.map pair, ((p.length + (fit l m).2 : Nat) : Int), if (fit l m).2 = m then 0 else 10)
  | [], p, m, d, acc, _, hm, hd => by
    obtain ⟨d, rfl⟩ : ∃ e, d = e + 1 := ⟨d - 1, by omega⟩
    simp [flat] at hm
    subst hm
    simp [cutFrom, fit, flat]
  | x :: xs, p, m, d, acc, hg, hm, hd => by
    obtain ⟨d, rfl⟩ : ∃ e, d = e + 1 := ⟨d - 1, by omega⟩
    obtain ⟨hx0, hx1, hx2⟩ := hg x (List.mem_cons_self)
    have hlen : (p ++ (flat (x :: xs)).take m).length = p.length + m := by rw [List.length_append, List.length_take]; omega
    have hdrop : (p ++ (flat (x :: xs)).take m).drop p.length = (flat (x :: xs)).take m := by rw [List.drop_append, List.drop_eq_nil_of_le (Nat.le_refl _), Nat.sub_self, List.drop_zero, List.nil_append]
    unfold cutFrom
    rw [hlen, hdrop]
    by_cases h0 : m = 0
    · subst h0
      rw [if_neg (by omega), fit_no x xs 0 (by omega)]
      simp
    · rw [if_pos (by omega), flat_cons]
      by_cases h1 : x.f1.length + 9 ≤ m
      · have he : (sealed x.f0.toNat x.f1 ++ flat xs).take m = sealed x.f0.toNat x.f1 ++ (flat xs).take (m - (x.f1.length + 9)) := by
          rw [List.take_append, List.take_of_length_le (by rw [sealed_len]; omega), sealed_len]
        rw [he, open_sealed _ _ _ hx2]
        rw [if_pos rfl]
        have ih := cut_fit xs (p ++ sealed x.f0.toNat x.f1) (m - (x.f1.length + 9)) d (acc ++ [pair x]) (fun y hy => hg y (List.mem_cons_of_mem _ hy))
          (by rw [flat_cons, List.length_append, sealed_len] at hm; omega) (by omega)
        rw [List.append_assoc, List.length_append, sealed_len] at ih
        have ep : ((x.f0.toNat : Int), x.f1) = pair x := by unfold pair; rw [show ((x.f0.toNat : Nat) : Int) = x.f0 by omega]
        simp only [ep, Int.toNat_natCast]
        rw [ih]
        rw [fit_yes x xs m h1]
        simp only [List.map_cons, List.append_assoc, List.singleton_append]
        refine Prod.ext rfl (Prod.ext ?_ ?_)
        · simp only; omega
        · simp only
          by_cases h2 : (fit xs (m - (x.f1.length + 9))).2 = m - (x.f1.length + 9)
          · rw [if_pos h2, if_pos (by omega)]
          · rw [if_neg h2, if_neg (by omega)]
      · rw [open_short _ _ _ hx2 _ (by omega)]
        rw [if_neg (by decide)]
        rw [fit_no x xs m h1]
        simp only [List.map_nil, List.append_nil, Nat.add_zero]
        rw [if_neg (by omega)]
theorem fit_le : ∀ (l : List S47) (m : Nat), (fit l m).2 ≤ m
  | [], m => Nat.zero_le _
  | x :: xs, m => by
    simp only [fit]
    split
    · have := fit_le xs (m - (x.f1.length + 9)); simp only; omega
    · exact Nat.zero_le _
theorem torn_w1 (n : Nat) (h : n ≤ 8192) : wrap64 ((n : Int) + 9) = ((n + 9 : Nat) : Int) := by unfold wrap64; omega
theorem torn_w2 (a o : Nat) (h : a ≤ 10000000) (ho : o ≤ a) : wrap64 ((a : Int) - (o : Int)) = ((a - o : Nat) : Int) := by unfold wrap64; omega
theorem torn_w3 (a n : Nat) (h : a ≤ 10000000) (hn : n ≤ 8192) : wrap64 ((a : Int) + ((n + 9 : Nat) : Int)) = ((a + (n + 9) : Nat) : Int) := by unfold wrap64; omega
theorem gt_nat {a b : Nat} (h : b < a) : (a : Int) > (b : Int) := by omega
theorem not_gt_nat {a b : Nat} (h : ¬ b < a) : ¬ ((a : Int) > (b : Int)) := by omega
theorem torn_l0 (l : List S47) (hl : l.length ≤ 300) (at_ : Nat) (hat : at_ ≤ 10000000) (fr : List S47) (e : Int) (x8 : Nat) (he : e = if x8 = at_ then 0 else 10) : ∀ (d i off : Nat), i + d = l.length → (∀ x ∈ l.drop i, Good x) → off ≤ at_ → at_ ≤ off + (flat (l.drop i)).length →
    fr = l.take i ++ (fit (l.drop i) (at_ - off)).1 → x8 = off + (fit (l.drop i) (at_ - off)).2 →
    Ev (fun k => forebearlaw07_FrameTorn.l0 k l (at_ : Int) fr (x8 : Int) e (off : Int) (i : Int)) true := by
  intro d
  induction d with
  | zero =>
    intro i off hi hg ho ha hf h8
    rw [List.drop_eq_nil_of_le (by omega)] at ha hf h8
    simp only [flat, List.map_nil, List.flatten_nil, List.length_nil, fit, List.append_nil] at ha hf h8
    rw [List.take_of_length_le (by omega)] at hf
    subst hf
    have h9 : e = 0 := by rw [he, if_pos (by omega)]
    subst h9
    refine Ev.step (fun k => by simp only [forebearlaw07_FrameTorn.l0]; rw [if_neg (by omega), if_pos trivial, if_pos (by omega)]; rfl) (Ev.now true)
  | succ d ih =>
    intro i off hi hg ho ha hf h8
    have hlt : i < l.length := by clear ih ha hf h8; omega
    rw [List.drop_eq_getElem_cons hlt] at hg ha hf h8
    obtain ⟨_, _, hx2⟩ := hg l[i] (List.mem_cons_self)
    have hg' : ∀ x ∈ l.drop (i + 1), Good x := fun y hy => hg y (List.mem_cons_of_mem _ hy)
    clear hg
    rw [flat_cons, List.length_append, sealed_len] at ha
    have p0 : (i : Int) < (l.length : Int) := by clear ih ha hf h8; omega
    have p1 : (0 : Int) ≤ (i : Int) := by clear ih ha hf h8; omega
    generalize hxx : l[i] = x at *
    have rdl : rd_T47 l (i : Int) = x := by rw [rdT_nat hlt, hxx]
    generalize hF : (flat (l.drop (i + 1))).length = F at *
    by_cases h1 : x.f1.length + 9 ≤ at_ - off
    · rw [fit_yes _ _ _ h1] at hf h8
      have hfl : i < fr.length := by rw [hf, List.length_append, List.length_take, List.length_cons]; clear ih hf h8; omega
      have hfi : rd_T47 fr (i : Int) = x := by
        rw [rdT_nat hfl]
        simp only [hf]
        rw [List.getElem_append_right (by rw [List.length_take]; clear ih hf h8; omega)]
        simp only [List.length_take, show i - min i l.length = 0 by clear ih hf h8; omega, List.getElem_cons_zero]
      have c2 : ¬ ((i : Int) ≥ (fr.length : Int)) := by clear ih hf h8; omega
      have c3 : (i : Int) < (fr.length : Int) := by clear ih hf h8; omega
      have hm : at_ ≤ off + (x.f1.length + 9) + F := by clear ih hf h8; omega
      have ho' : off + (x.f1.length + 9) ≤ at_ := by clear ih hf h8; omega
      have hi' : i + 1 + d = l.length := by clear ih hf h8; omega
      have hs : at_ - off - (x.f1.length + 9) = at_ - (off + (x.f1.length + 9)) := by clear ih hf h8; omega
      refine Ev.step (fun k => by simp only [forebearlaw07_FrameTorn.l0]; rw [if_pos p0, if_pos p1, rdl, torn_w1 _ hx2, torn_w2 _ _ hat ho]) ?_
      refine Ev.congr (fun k => if_neg (not_gt_nat (Nat.not_lt.2 h1))) ?_
      refine Ev.congr (fun k => if_neg c2) ?_
      refine Ev.congr (fun k => if_pos c3) ?_
      rw [hfi]
      refine Ev.congr (fun k => if_pos rfl) ?_
      refine Ev.congr (fun k => if_pos rfl) ?_
      rw [torn_w3 _ _ (Nat.le_trans ho hat) hx2, wrap_succ (i := i) (by clear ih hf h8; omega)]
      refine ih (i + 1) (off + (x.f1.length + 9)) hi' hg' ho' (by rw [hF]; exact hm) ?_ ?_
      · rw [hf, hs, List.take_succ_eq_append_getElem hlt, List.append_assoc, hxx]
        rfl
      · rw [h8, hs]
        show off + (x.f1.length + 9 + _) = _
        rw [← Nat.add_assoc]
    · rw [fit_no _ _ _ h1] at hf h8
      simp only [List.append_nil, Nat.add_zero] at hf h8
      have hfl : (fr.length : Int) = (i : Int) := by rw [hf, List.length_take]; clear ih hf h8; omega
      refine Ev.step (fun k => by simp only [forebearlaw07_FrameTorn.l0]; rw [if_pos p0, if_pos p1, rdl, torn_w1 _ hx2, torn_w2 _ _ hat ho]) ?_
      refine Ev.congr (fun k => if_pos (gt_nat (Nat.not_le.1 h1))) ?_
      refine Ev.congr (fun k => if_pos hfl) ?_
      refine Ev.congr (fun k => if_pos (by rw [h8])) ?_
      by_cases h2 : x8 = at_
      · rw [if_pos h2] at he
        subst he
        subst h2
        exact Ev.congr (fun k => by rw [if_pos (by simp)]; rfl) (Ev.now true)
      · rw [if_neg h2] at he
        subst he
        refine Ev.congr (fun k => by rw [if_pos (by simp; clear ih hf; omega), if_neg (by decide)]; rfl) (Ev.now true)
theorem sum_len {b : S47 → Nat} (hb : ∀ x, 1 ≤ b x) : ∀ l : List S47, l.length ≤ (l.map b).sum
  | [] => by simp
  | x :: xs => by
    have := sum_len hb xs
    have := hb x
    simp only [List.map_cons, List.sum_cons, List.length_cons]
    omega
theorem FrameTorn : forebearlaw07_FrameTorn.Pure := by
  intro l a hx _ hu
  have hb : ∀ x ∈ l, Bytes x.f1 := fun x hxl => u8_range (hx.2.2 x hxl).2.2.2
  have hll : l.length ≤ (l.map fun z_l0 => bS47 z_l0).sum := sum_len (b := bS47) (fun x => by unfold bS47; omega) l
  refine Ev.rounds ?_
  refine Ev.bind frame_awake_ev ?_
  refine Ev.congr (fun k => if_pos rfl) ?_
  refine Ev.bind (row_ev l (by omega) hb) ?_
  have done : ∀ r : List Int, (r.length = 0 ∨ l.length > 300) → Ev (fun k => forebearlaw07_FrameTorn.j0 k l a r true) true := by
    intro r h
    refine Ev.step (fun k => by simp only [forebearlaw07_FrameTorn.j0]; rw [if_pos trivial]) ?_
    by_cases h0 : (r.length : Int) = 0
    · exact Ev.congr (fun k => if_pos h0) (Ev.now true)
    · refine Ev.congr (fun k => if_neg h0) ?_
      exact Ev.congr (fun k => by rw [decide_eq_true (show (l.length : Int) > 300 by omega)]) (Ev.now true)
  by_cases he : (rowFrom [] l).2 = 0
  · refine Ev.congr (fun k => if_pos he) ?_
    by_cases h3 : (l.length : Int) > 300
    · rw [decide_eq_true h3]
      exact done _ (.inr (by omega))
    · rw [decide_eq_false h3]
      obtain ⟨hr, hg⟩ := rowFrom_ok l [] he
      rw [hr, List.nil_append]
      have hlen := flat_len hg
      have hm : ∃ at_ : Nat, mn (mx a 0) ((flat l).length : Int) = (at_ : Int) ∧ at_ ≤ (flat l).length := by
        refine ⟨(mn (mx a 0) ((flat l).length : Int)).toNat, ?_, ?_⟩ <;> (unfold mn mx; (repeat split) <;> omega)
      obtain ⟨at_, hat, hle⟩ := hm
      refine Ev.step (fun k => by simp only [forebearlaw07_FrameTorn.j0]; rw [if_neg (by decide), hat, if_pos (by omega), if_pos (by omega), Int.toNat_natCast]) ?_
      have hc := cut_l0 ((flat l).take at_) ((flat_bytes hg hb).take at_) (by rw [List.length_take]; omega) (at_ + 1) [] 0 (by rw [List.length_take]; omega) (by omega) (by simp)
      have hf := cut_fit l [] at_ (at_ + 1) [] hg hle (by omega)
      rw [List.nil_append, List.length_nil] at hf
      rw [hf] at hc
      refine Ev.bind hc ?_
      simp only [List.nil_append, List.map_map, Nat.zero_add]
      have hid : (fit l at_).1.map (m47 ∘ pair) = (fit l at_).1 := by
        conv => rhs; rw [← List.map_id (fit l at_).1]
        rfl
      rw [hid]
      exact torn_l0 l (by omega) at_ (by omega) _ _ _ rfl l.length 0 0 (by omega) (by rw [List.drop_zero]; exact hg) (by omega) (by rw [List.drop_zero]; omega) (by rw [List.drop_zero]; simp) (by rw [List.drop_zero]; simp)
  · refine Ev.congr (fun k => if_neg he) ?_
    exact done _ (.inl (by rw [rowFrom_bad l [] he]; rfl))
end Go.Proofs.Ytgmlhcjcaebfgaa.Pure
