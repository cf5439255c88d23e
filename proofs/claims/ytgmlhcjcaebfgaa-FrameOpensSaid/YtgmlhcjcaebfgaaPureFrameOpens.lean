/- The plain statement of the law FrameOpens, without program and memory. No condition. -/
import Derived.Test.YtgmlhcjcaebfgaaMAx0
import Derived.Test.YtgmlhcjcaebfgaaMAx16
import Derived.Test.YtgmlhcjcaebfgaaMAx17
import Derived.Test.YtgmlhcjcaebfgaaMAx18
import Derived.Test.YtgmlhcjcaebfgaaPlainFrameRef
import Derived.Test.YtgmlhcjcaebfgaaPlainFrameCut
namespace Go.Proofs.Ytgmlhcjcaebfgaa.Pure
open Go.RowKit Go.Proofs.Ytgmlhcjcaebfgaa.Opening Go.Proofs.Ytgmlhcjcaebfgaa.MA Go.Proofs.YtgmlhcjcaebfgaaW.PrintWords Go.Proofs.YtgmlhcjcaebfgaaW.PrintLast Go.Proofs.YtgmlhcjcaebfgaaW.PrintMore

/-! ### The reference's opening -/
def valN (v : Nat) (l : List Int) : Nat := l.foldl (fun v c => v * 256 + c.toNat) v
theorem refvalue_l0 (l : List Int) (hb : Bytes l) (hl : l.length ≤ 4) : ∀ (d i v : Nat), i + d = l.length → v < 256 ^ i →
    Ev (fun k => forebearref07_Value.l0 k (strOfNums l) (v : Int) (i : Int)) ((valN v (l.drop i) : Nat) : Int) := by
  intro d
  have hsz := strOfNums_size l
  induction d with
  | zero =>
    intro i v hi _
    refine Ev.step (f := fun _ => some (v : Int)) (fun k => ?_) ?_
    · simp only [forebearref07_Value.l0]; rw [if_neg (by omega)]
    · rw [List.drop_eq_nil_of_le (by omega)]; exact Ev.now _
  | succ d ih =>
    intro i v hi hv
    have hlt : i < l.length := by omega
    have hc := hb _ (List.getElem_mem hlt)
    have hv2 : v < 16777216 := by
      have h1 : 256 ^ i ≤ 256 ^ 3 := Nat.pow_le_pow_right (by decide) (by omega)
      have h2 : 256 ^ 3 = 16777216 := by decide
      omega
    rw [List.drop_eq_getElem_cons hlt]
    refine Ev.step (f := fun k => forebearref07_Value.l0 k (strOfNums l) ((v * 256 + (l[i]).toNat : Nat) : Int) ((i + 1 : Nat) : Int)) (fun k => ?_) ?_
    · simp only [forebearref07_Value.l0]
      rw [if_pos (by omega), if_pos (by omega), bt_str l hb i hlt, wrap_succ (by omega), u64_id (n := (v : Int) * 256) (by omega) (by omega), u64_id (n := l[i]) (by omega) (by omega), u64_id (by omega) (by omega),
        show (v : Int) * 256 + l[i] = ((v * 256 + (l[i]).toNat : Nat) : Int) by omega]
    · exact ih (i + 1) _ (by omega) (by rw [Nat.pow_succ]; omega)
theorem val4_take (l : List Int) (h : 4 ≤ l.length) : val4 (l.take 4) = val4 l := by
  match l, h with
  | a :: b :: c :: d :: r, _ => rfl
theorem valN_val4 (l : List Int) (h : l.length = 4) : valN 0 l = val4 l := by
  match l, h with
  | [a, b, c, d], _ => simp [valN, val4]; omega
theorem refvalue_ev (l : List Int) (hb : Bytes l) (h : l.length = 4) : Ev (fun k => forebearref07_Value.f k (strOfNums l)) ((val4 l : Nat) : Int) := by
  have := refvalue_l0 l hb (by omega) 4 0 0 (by omega) (by decide)
  rw [List.drop_zero, valN_val4 l h] at this
  exact this
theorem val4_lt {l : List Int} (hb : Bytes l) : val4 l < 4294967296 := by
  unfold val4
  have h0 := getD_byte hb 0
  have h1 := getD_byte hb 1
  have h2 := getD_byte hb 2
  have h3 := getD_byte hb 3
  omega
theorem refopen_ev (l : List Int) (hb : Bytes l) (hl : l.length ≤ 4611686018427387904) : Ev (fun k => forebearref07_Open.f k (strOfNums l)) ((openOf l).1, strOfNums (openOf l).2.1, (openOf l).2.2.1, (openOf l).2.2.2) := by
  have hsz := strOfNums_size l
  unfold openOf
  by_cases h0 : l.length < 4
  · rw [if_pos h0]
    refine Ev.congr (fun k => ?_) (Ev.now _)
    unfold forebearref07_Open.f
    rw [if_pos (by omega)]
    rfl
  · rw [if_neg h0]
    refine Ev.congr (fun k => by unfold forebearref07_Open.f; rw [if_neg (by omega), if_pos (by omega), if_pos (by omega), strOfNums_extract, List.drop_zero]) ?_
    refine Ev.bind (refvalue_ev _ (hb.take 4) (by rw [List.length_take]; omega)) ?_
    rw [val4_take l (by omega)]
    have hn := val4_lt hb
    generalize val4 l = n at hn
    by_cases h1 : n > 8192
    · rw [if_pos h1]
      exact Ev.congr (fun k => if_pos (by omega)) (Ev.now _)
    · rw [if_neg h1]
      refine Ev.congr (fun k => if_neg (by omega)) ?_
      have w1 : wrap64 (n : Int) = (n : Int) := by unfold wrap64; omega
      have w2 : wrap64 (5 + (n : Int)) = ((5 + n : Nat) : Int) := by unfold wrap64; omega
      have w3 : wrap64 (((5 + n : Nat) : Int) + 4) = ((n + 9 : Nat) : Int) := by unfold wrap64; omega
      rw [w1, w2, w3]
      by_cases h2 : l.length < n + 9
      · rw [if_pos h2]
        exact Ev.congr (fun k => if_pos (by omega)) (Ev.now _)
      · rw [if_neg h2]
        refine Ev.congr (fun k => if_neg (by omega)) ?_
        refine Ev.congr (fun k => if_pos (by omega)) ?_
        refine Ev.congr (fun k => if_pos (by omega)) ?_
        refine Ev.congr (fun k => if_pos (by omega)) ?_
        rw [Int.toNat_natCast, Int.toNat_natCast, strOfNums_extract, List.drop_take, show n + 9 - (5 + n) = 4 by omega]
        refine Ev.bind (refvalue_ev _ ((hb.drop _).take 4) (by rw [List.length_take, List.length_drop]; omega)) ?_
        rw [val4_take _ (by rw [List.length_drop]; omega)]
        refine Ev.congr (fun k => if_pos (by omega)) ?_
        rw [strOfNums_extract, List.drop_zero, conv_str _ (hb.take _) (by rw [List.length_take]; omega)]
        refine Ev.bind (Ev.now _) ?_
        refine Ev.bind (refcheck_ev _ (by rw [List.length_take]; omega) (hb.take _)) ?_
        have hc := checkN_lt (l.take (5 + n))
        rw [checkOf_nat, u64_id (by omega) (by omega)]
        by_cases h3 : val4 (l.drop (5 + n)) = checkN (l.take (5 + n))
        · rw [if_pos h3]
          refine Ev.congr (fun k => if_pos (by omega)) ?_
          refine Ev.congr (fun k => if_pos (by omega)) ?_
          refine Ev.congr (fun k => if_pos (by omega)) ?_
          have hg := getD_byte hb 4
          have e4 : wrap64 (bt (strOfNums l) 4) = l.getD 4 0 := by
            have := bt_str l hb 4 (by omega)
            rw [show ((4 : Nat) : Int) = 4 from rfl] at this
            rw [this]
            rw [List.getD_eq_getElem?_getD, List.getElem?_eq_getElem (by omega), Option.getD_some] at hg ⊢
            unfold wrap64
            omega
          rw [e4, strOfNums_extract]
          exact Ev.now _
        · rw [if_neg h3]
          exact Ev.congr (fun k => if_neg (by omega)) (Ev.now _)

/-! ### Cutting -/
def m76 (x : Int × List Int) : S76 := ⟨x.1, strOfNums x.2⟩
theorem refcut_l0 (l : List Int) (hb : Bytes l) (hl : l.length ≤ 1000000) : ∀ (d : Nat) (acc : List (Int × List Int)) (at_ : Nat), l.length < at_ + d → at_ ≤ l.length → acc.length ≤ at_ →
    Ev (fun k => forebearref07_Cut.l0 k (strOfNums l) (acc.map m76) (at_ : Int)) ((cutFrom l d acc at_).1.map m76, (cutFrom l d acc at_).2.1, (cutFrom l d acc at_).2.2) := by
  have hsz := strOfNums_size l
  intro d
  induction d with
  | zero => intro acc at_ h1 h2; omega
  | succ d ih =>
    intro acc at_ h1 h2 h3
    unfold cutFrom
    by_cases h : at_ < l.length
    · rw [if_pos h]
      refine Ev.step (fun k => by simp only [forebearref07_Cut.l0]; rw [if_pos (by omega), if_pos (by omega), if_pos (by omega), Int.toNat_natCast, hsz, strOfNums_extract, List.take_length]) ?_
      refine Ev.bind (refopen_ev _ (hb.drop at_) (by rw [List.length_drop]; omega)) ?_
      by_cases he : (openOf (l.drop at_)).2.2.2 = 0
      · rw [if_pos he]
        obtain ⟨n, hn, hn2⟩ := open_good he
        rw [List.length_drop] at hn2
        refine Ev.congr (fun k => if_pos he) ?_
        refine Ev.congr (fun k => if_pos (by rw [List.length_map]; omega)) ?_
        have := ih (acc ++ [((openOf (l.drop at_)).1, (openOf (l.drop at_)).2.1)]) (at_ + (openOf (l.drop at_)).2.2.1.toNat) (by omega) (by omega) (by simp; omega)
        rw [List.map_append] at this
        refine Ev.congr (fun k => ?_) this
        rw [show wrap64 ((at_ : Int) + (openOf (l.drop at_)).2.2.1) = ((at_ + (openOf (l.drop at_)).2.2.1.toNat : Nat) : Int) by unfold wrap64; omega]
        rfl
      · rw [if_neg he]
        exact Ev.congr (fun k => if_neg he) (Ev.now _)
    · rw [if_neg h]
      refine Ev.step (fun k => by simp only [forebearref07_Cut.l0]; rw [if_neg (by omega)]) (Ev.now _)
theorem rdT_map {p : List (Int × List Int)} {j : Nat} (h : j < p.length) : rd_T47 (p.map m47) (j : Int) = m47 p[j] := by simp [rd_T47, h]
theorem rdU_map {p : List (Int × List Int)} {j : Nat} (h : j < p.length) : rd_T76 (p.map m76) (j : Int) = m76 p[j] := by simp [rd_T76, h]
theorem same_l0 (p : List (Int × List Int)) (hp : p.length ≤ 1000000) : ∀ (d i : Nat), i + d = p.length → Ev (fun k => forebearlaw07_Same.l0 k (p.map m47) (p.map m76) (i : Int)) true := by
  intro d
  induction d with
  | zero =>
    intro i hi
    refine Ev.step (fun k => by simp only [forebearlaw07_Same.l0]; rw [if_neg (by rw [List.length_map]; omega)]) (Ev.now _)
  | succ d ih =>
    intro i hi
    refine Ev.step (fun k => by
      simp only [forebearlaw07_Same.l0]
      rw [if_pos (by rw [List.length_map]; omega), if_pos (by omega), if_pos (by rw [List.length_map]; omega), rdT_map (by omega), rdU_map (by omega), if_pos (show (m47 p[i]).f0 = (m76 p[i]).f0 from rfl), if_pos (show (strOfNums (m47 p[i]).f1).toList = (m76 p[i]).f1.toList from rfl), wrap_succ (by omega)]) (ih (i + 1) (by omega))
theorem same_ev (p : List (Int × List Int)) (hp : p.length ≤ 1000000) : Ev (fun k => forebearlaw07_Same.f k (p.map m47) (p.map m76)) true :=
  Ev.congr (fun k => by unfold forebearlaw07_Same.f; rw [if_pos (by simp)]; rfl) (same_l0 p hp p.length 0 (by omega))
theorem cutFrom_len (l : List Int) : ∀ (d : Nat) (acc : List (Int × List Int)) (at_ : Nat), at_ ≤ l.length → acc.length ≤ at_ → (cutFrom l d acc at_).1.length ≤ l.length := by
  intro d
  induction d with
  | zero => intro acc at_ h1 h2; exact Nat.le_trans h2 h1
  | succ d ih =>
    intro acc at_ h1 h2
    unfold cutFrom
    split
    · split
      · rename_i he
        obtain ⟨n, hn, hn2⟩ := open_good he
        rw [List.length_drop] at hn2
        exact ih _ _ (by omega) (by simp; omega)
      · exact Nat.le_trans h2 h1
    · exact Nat.le_trans h2 h1
theorem opens_l0 (l : List Int) (p : List (Int × List Int)) (hp : p.length ≤ 1000000) (a : Int) : ∀ (d i : Nat) (b : List Int), i + d = b.length → b.length ≤ 1000000 →
    Ev (fun k => forebearlaw07_FrameOpens.l0 k l l (p.map m47) (p.map m76) (i : Int) a b) true := by
  intro d
  induction d with
  | zero =>
    intro i b hi _
    refine Ev.step (fun k => by simp only [forebearlaw07_FrameOpens.l0]; rw [if_neg (by omega), if_pos trivial]) ?_
    exact Ev.bind (same_ev p hp) (Ev.now true)
  | succ d ih =>
    intro i b hi hb
    refine Ev.step (fun k => by simp only [forebearlaw07_FrameOpens.l0]; rw [if_pos (by omega), if_pos (by omega), wrap_succ (by omega)]) (ih (i + 1) _ (by rw [List.length_set]; omega) (by rw [List.length_set]; omega))
theorem openOf_len (l : List Int) : (openOf l).2.1.length ≤ l.length := by
  unfold openOf
  split
  · simp
  · split
    · simp
    · split
      · simp
      · split
        · rw [List.length_drop, List.length_take]; omega
        · simp
theorem FrameOpens : forebearlaw07_FrameOpens.Pure := by
  intro l ⟨_, _, hw⟩
  have hb : Bytes l := u8_range hw
  refine Ev.rounds ?_
  refine Ev.bind frame_awake_ev ?_
  refine Ev.congr (fun k => if_pos rfl) ?_
  by_cases h : (l.length : Int) > 100000
  · exact Ev.congr (fun k => if_pos h) (Ev.now true)
  · refine Ev.congr (fun k => if_neg h) ?_
    refine Ev.bind (Ev.now ([] : List Int)) ?_
    refine Ev.congr (fun k => if_pos (by simp; omega)) ?_
    refine Ev.bind (Ev.now l) ?_
    rw [open_eq l hb]
    refine Ev.bind (Ev.now _) ?_
    refine Ev.bind (refopen_ev l hb (by omega)) ?_
    refine Ev.congr (fun k => if_pos rfl) ?_
    refine Ev.congr (fun k => if_pos rfl) ?_
    refine Ev.congr (fun k => if_pos rfl) ?_
    refine Ev.step (fun k => by simp only [forebearlaw07_FrameOpens.j0]; rw [if_neg (by simp)]) ?_
    have hc := cut_l0 l hb (by omega) (l.length + 1) [] 0 (by omega) (by omega) (by simp)
    have hr := refcut_l0 l hb (by omega) (l.length + 1) [] 0 (by omega) (by omega) (by simp)
    have hlen := cutFrom_len l (l.length + 1) [] 0 (by omega) (by simp)
    refine Ev.bind hc ?_
    refine Ev.bind hr ?_
    generalize cutFrom l (l.length + 1) [] 0 = r at hlen
    refine Ev.bind (same_ev r.1 (by omega)) ?_
    refine Ev.congr (fun k => if_pos rfl) ?_
    refine Ev.congr (fun k => if_pos rfl) ?_
    refine Ev.step (fun k => by simp only [forebearlaw07_FrameOpens.j1]; rw [if_neg (by simp)]) ?_
    have hol := openOf_len l
    exact opens_l0 l r.1 (by omega) _ _ 0 _ (Nat.zero_add _) (by omega)
end Go.Proofs.Ytgmlhcjcaebfgaa.Pure
