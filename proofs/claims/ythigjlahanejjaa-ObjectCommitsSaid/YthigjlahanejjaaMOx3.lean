/- Laid by this claim's own program (myprint) out of the translation: functions that the laws of the group O reach, each as a plain function, with the proof that the Go code comes to it. No condition. -/
import Derived.Test.YthigjlahanejjaaMOx0
import Derived.Test.YthigjlahanejjaaMOx2
namespace Go.Proofs.Ythigjlahanejjaa.MO
open Go.Proofs.Ythigjlahanejjaa.Opening
open Go.RowKit Go.Proofs.YthigjlahanejjaaW.PrintWords Go.Proofs.YthigjlahanejjaaW.PrintLast Go.Proofs.YthigjlahanejjaaW.PrintMore
attribute [local go_sem] max2_int min2_int max_two min_two max_three min_three max_four min_four   -- for this text's walks alone
set_option linter.unusedVariables false
set_option linter.unusedSimpArgs false

/-! ### object_reader_take: function 49 -/
set_option linter.unusedVariables false
set_option linter.unusedSimpArgs false
/-- A reader at block g: the bytes that are left came in by w0. -/
def IsRd (w0 W : World) (g : Nat) (l : List Int) (bad : Bool) : Prop :=
  ∃ A c, W.heap[g]? = some (.cells #[.slice A l.length c, .bool bad] 111 (0, 0)) ∧ w0.heap.size ≤ g ∧ l.length ≤ c ∧ Kd.C (Kd.int .u8) w0 A l.length l
def takeR (l : List Int) (bad : Bool) (n : Int) : List Int × List Int × Bool :=
  if bad = true then ([], l, true) else if (l.length : Int) < n then ([], l, true) else (l.take n.toNat, l.drop n.toNat, false)
set_option maxHeartbeats 2000000 in
set_option maxRecDepth 100000 in
theorem take_calls (w0 w : World) (g : Nat) (l : List Int) (bad : Bool) (n : Int) (hB : Below w0.heap.size w0 w) (hs : IsRd w0 w g l bad) (hn : 0 ≤ n) :
    Calls Try.prog 49 #[.pointer (some ⟨g, 0, none⟩), .int .i64 n] w fun e w' => ∃ A c, e = .returned (.slice A (takeR l bad n).1.length c) ∧ (takeR l bad n).1.length ≤ c ∧ Kd.C (Kd.int .u8) w0 A (takeR l bad n).1.length (takeR l bad n).1 ∧
      IsRd w0 w' g (takeR l bad n).2.1 (takeR l bad n).2.2 ∧ Below w0.heap.size w0 w' ∧ Kept w w' (fun k => k = g) := by
  obtain ⟨A, c, hg, hgb, hc, hC⟩ := hs
  have HB := Aside0.mk hB
  have HG := Aside0.mk hg
  have HGB := Aside0.mk hgb
  have HC := Aside0.mk hC
  have HL := Aside0.mk hc
  have hx0 : w.cell? ⟨g, 0, none⟩ = some (.slice A l.length c) := (blk_cell hg 0).trans rfl
  have hx1 : w.cell? ⟨g, 1, none⟩ = some (.bool bad) := (blk_cell hg 1).trans rfl
  have hf0 : w.frozen? ⟨g, 0, none⟩ = false := blk_frozen hg 0
  have hf1 : w.frozen? ⟨g, 1, none⟩ = false := blk_frozen hg 1
  clear hB hg hgb hC hc
  have fin : ∀ (l2 : List Int) (A2 : Option Addr) (c2 n2 : Nat) (i : Nat) (v : Value) (bad2 bad : Bool) (e : #[Value.slice A l.length c, .bool bad].setIfInBounds i v = #[.slice A2 n2 c2, .bool bad2]) (hl : n2 = l2.length) (hg : w.heap[g]? = some (.cells #[.slice A l.length c, .bool bad] 111 (0, 0))) (hl2 : l2.length ≤ c2) (hC2 : Kd.C (Kd.int .u8) w0 A2 l2.length l2),
      IsRd w0 (w.setCell ⟨g, i, none⟩ v) g l2 bad2 ∧ Below w0.heap.size w0 (w.setCell ⟨g, i, none⟩ v) ∧ Kept w (w.setCell ⟨g, i, none⟩ v) (fun k => k = g) := by
    intro l2 A2 c2 n2 i v bad2 bad e hl hg hl2 hC2
    subst hl
    exact ⟨⟨A2, c2, blk_put hg i v e, HGB.out, hl2, hC2⟩, HB.out.setCell HGB.out _, Kept.setCell (S := fun k => k = g) (Kept.refl w _) (.inl rfl) v⟩
  have FIN := Aside0.mk fin
  clear fin
  cases bad
  · by_cases c1 : (l.length : Int) < n
    · have c1b : decide ((l.length : Int) < n) = true := decide_eq_true c1
      have E1 : takeR l false n = ([], l, true) := by unfold takeR; rw [if_neg (by simp), if_pos c1]
      rw [E1]
      clear E1
      go_enter Try.func49, Try.ntmps49
      go_wp2
      go_ret
      exact ⟨none, 0, rfl, Nat.le_refl _, Kd.C_nil _ _, FIN.out l A c l.length 1 _ true false rfl rfl HG.out HL.out HC.out⟩
    · have c1b : decide ((l.length : Int) < n) = false := decide_eq_false c1
      have hnl : n.toNat ≤ l.length := by omega
      have hnc : n ≤ (c : Int) := by have := HL.out; omega
      have E1 : takeR l false n = (l.take n.toNat, l.drop n.toNat, false) := by unfold takeR; rw [if_neg (by simp), if_neg c1]
      have el : (l.take n.toNat).length = n.toNat := by rw [List.length_take]; omega
      have CT := Aside0.mk (Kd.C_take HC.out hnl)
      have CD := Aside0.mk (Kd.C_drop (c := c) HC.out hnl HL.out)
      have EL := Aside0.mk el
      rw [E1]
      dsimp only
      rw [el]
      clear E1 el
      by_cases h0 : c = n.toNat
      · have H0 := Aside0.mk h0
        go_enter Try.func49, Try.ntmps49
        go_wp2
        go_ret
        have ct := CT.out
        rw [EL.out] at ct
        have cd := CD.out
        rw [if_pos H0.out] at cd
        exact ⟨A, n.toNat, rfl, by omega, ct, FIN.out (l.drop n.toNat) A 0 (l.length - n.toNat) 0 _ false false rfl (by rw [List.length_drop]) HG.out (by have := HL.out; have := H0.out; rw [List.length_drop]; omega) cd⟩
      · go_enter Try.func49, Try.ntmps49
        go_wp2
        go_ret
        have ct := CT.out
        rw [EL.out] at ct
        have cd := CD.out
        rw [if_neg h0] at cd
        exact ⟨A, c, rfl, by have := HL.out; omega, ct, FIN.out (l.drop n.toNat) (Option.map (fun x => x.add n.toNat) A) (c - n.toNat) (l.length - n.toNat) 0 _ false false rfl (by rw [List.length_drop]) HG.out (by have := HL.out; rw [List.length_drop]; omega) (by have e1 : n.toNat * (Kd.int IntKind.u8).sz = n.toNat := Nat.mul_one _; rw [e1] at cd; exact cd)⟩
  · have E1 : takeR l true n = ([], l, true) := by unfold takeR; rw [if_pos rfl]
    rw [E1]
    clear E1
    go_enter Try.func49, Try.ntmps49
    go_wp2
    go_ret
    exact ⟨none, 0, rfl, Nat.le_refl _, Kd.C_nil _ _, FIN.out l A c l.length 1 _ true true rfl rfl HG.out HL.out HC.out⟩
def oneR (l : List Int) (bad : Bool) : Int := if (takeR l bad 1).1.length = 1 then wrap64 (rd (takeR l bad 1).1 0) else 0
set_option maxHeartbeats 2000000 in
set_option maxRecDepth 100000 in
theorem one_calls (w0 w : World) (g : Nat) (l : List Int) (bad : Bool) (hB : Below w0.heap.size w0 w) (hs : IsRd w0 w g l bad) :
    Calls Try.prog 50 #[.pointer (some ⟨g, 0, none⟩)] w fun e w' => e = .returned (.int .i64 (oneR l bad)) ∧
      IsRd w0 w' g (takeR l bad 1).2.1 (takeR l bad 1).2.2 ∧ Below w0.heap.size w0 w' ∧ Kept w w' (fun k => k = g) := by
  have HB := Aside0.mk hB
  have HS := Aside0.mk hs
  clear hB hs
  unfold oneR
  have HT := Aside0.mk (take_calls w0 w g l bad 1 HB.out HS.out (by omega))
  generalize takeR l bad 1 = T at *
  obtain ⟨X, l2, bad2⟩ := T
  dsimp only at HT ⊢
  by_cases c1 : X.length = 1
  · have c1b : ((X.length : Int) == 1) = true := beq_iff_eq.mpr (by omega)
    have c1c : (X.length == 1) = true := beq_iff_eq.mpr c1
    have C1 := Aside0.mk c1
    rw [if_pos c1]
    go_enter Try.func50, Try.ntmps50
    go_wp2_with (go_at_call 49; refine HT.out.mono ?_; rintro e w1 ⟨A, c, rfl, hc, hC, hs, hb, hk⟩; have HS1 := Aside0.mk hs; have HB1 := Aside0.mk hb; have HK1 := Aside0.mk hk; obtain ⟨ad, ea, hx⟩ := Kd.at_int (Kd.C_below hC hb) 0 (by omega) (by omega); cases ea; (try rw [show ((0 : Int)).toNat = 0 from rfl] at hx); (try rw [Addr.add_zero'] at hx); clear hs hb hk)
    go_ret
    exact ⟨rfl, HS1.out, HB1.out, HK1.out⟩
  · have c1b : ((X.length : Int) == 1) = false := beq_eq_false_iff_ne.mpr (by omega)
    have c1c : (X.length == 1) = false := beq_eq_false_iff_ne.mpr c1
    rw [if_neg c1]
    go_enter Try.func50, Try.ntmps50
    go_wp2_with (go_at_call 49; refine HT.out.mono ?_; rintro e w1 ⟨A, c, rfl, hc, hC, hs, hb, hk⟩; have HS1 := Aside0.mk hs; have HB1 := Aside0.mk hb; have HK1 := Aside0.mk hk; clear hs hb hk)
    go_ret
    exact ⟨rfl, HS1.out, HB1.out, HK1.out⟩
def byteIn (v c : Int) : Int := Go.bits .or .u64 (shl .u64 v 8) (IntKind.u64.wrap c)
def eightR (l : List Int) (bad : Bool) : Int := (takeR l bad 8).1.foldl byteIn 0
set_option maxHeartbeats 2000000 in
set_option maxRecDepth 100000 in
theorem eight_calls (w0 w : World) (g : Nat) (l : List Int) (bad : Bool) (hB : Below w0.heap.size w0 w) (hs : IsRd w0 w g l bad) :
    Calls Try.prog 51 #[.pointer (some ⟨g, 0, none⟩)] w fun e w' => e = .returned (.int .u64 (eightR l bad)) ∧
      IsRd w0 w' g (takeR l bad 8).2.1 (takeR l bad 8).2.2 ∧ Below w0.heap.size w0 w' ∧ Kept w w' (fun k => k = g) := by
  have HB := Aside0.mk hB
  have HS := Aside0.mk hs
  clear hB hs
  unfold eightR
  have HT := Aside0.mk (take_calls w0 w g l bad 8 HB.out HS.out (by omega))
  have HX : Aside0 ((takeR l bad 8).1.length ≤ 8) := ⟨by unfold takeR; split <;> (try simp) ; split <;> simp <;> omega⟩
  generalize takeR l bad 8 = T at *
  obtain ⟨X, l2, bad2⟩ := T
  dsimp only at HT HX ⊢
  go_enter Try.func51, Try.ntmps51
  go_wp2_with (go_at_call 49; refine HT.out.mono ?_; rintro e w1 ⟨A, c, rfl, hc, hC, hs, hb, hk⟩; have HS1 := Aside0.mk hs; have HB1 := Aside0.mk hb; have HK1 := Aside0.mk hk; have HC1 := Aside0.mk hC; clear hs hb hk hC)
  go_loopw [3, 9] (fun v i wr => ∃ k : Nat, k ≤ X.length ∧ i = .int .i64 k ∧ v = .int .u64 ((X.take k).foldl byteIn 0) ∧ IsRd w0 wr g l2 bad2 ∧ Below w0.heap.size w0 wr ∧ Kept w wr (fun k => k = g)) (fun v i wr => 8 - (intOf i).toNat)
  case atStart => exact ⟨0, by omega, rfl, rfl, HS1.out, HB1.out, HK1.out⟩
  case round =>
    obtain ⟨k, hk, rfl, rfl, hs, hb, hkk⟩ := hrel
    have HS2 := Aside0.mk hs
    have HB2 := Aside0.mk hb
    have HK2 := Aside0.mk hkk
    clear hs hb hkk
    by_cases hlt : k < X.length
    · have hd : decide ((k : Int) < (X.length : Int)) = true := decide_eq_true (by omega)
      obtain ⟨ad, ea, hx⟩ := Kd.at_int (Kd.C_below HC1.out HB2.out) k (by omega) (by omega)
      cases ea
      rw [show ((k : Int)).toNat = k from rfl] at hx
      have hw64 : wrap64 ((k : Int) + 1) = ((k + 1 : Nat) : Int) := by have := HX.out; unfold wrap64; omega
      have HW := Aside0.mk hw64
      clear hw64
      have HM : Aside0 ((X.take (k + 1)).foldl byteIn 0 = byteIn ((X.take k).foldl byteIn 0) (rd X k)) := ⟨by
        rw [List.take_succ_eq_append_getElem hlt, List.foldl_append, List.foldl_cons, List.foldl_nil]
        congr 1
        simp [rd, hlt]⟩
      generalize (X.take k).foldl byteIn 0 = v at *
      go_wp2
      go_roundw
      case rel => exact ⟨k + 1, by omega, by rw [HW.out], by rw [HM.out]; rfl, HS2.out, HB2.out, HK2.out⟩
      case measure => have := HX.out; rw [HW.out]; simp [intOf]; omega
    · obtain rfl : k = X.length := by omega
      have hd : decide ((X.length : Int) < (X.length : Int)) = false := decide_eq_false (by omega)
      go_wp2
      go_ret
      exact ⟨by rw [List.take_length]; rfl, HS2.out, HB2.out, HK2.out⟩

/-! ### object_ReadTree: function 25 -/
set_option linter.unusedVariables false
set_option linter.unusedSimpArgs false
def rtGo : Nat → List Int → Bool → List S67 → Option (List S67 × Bool)
  | 0, _, _, _ => none
  | k + 1, l, bad, out => if 0 < l.length then (if bad = true then some (out, bad) else (if out.length ≤ 64 then
      (if 0 ≤ oneR l bad then
        rtGo k (takeR (takeR (takeR l bad 1).2.1 (takeR l bad 1).2.2 (oneR l bad)).2.1 (takeR (takeR l bad 1).2.1 (takeR l bad 1).2.2 (oneR l bad)).2.2 8).2.1
          (takeR (takeR (takeR l bad 1).2.1 (takeR l bad 1).2.2 (oneR l bad)).2.1 (takeR (takeR l bad 1).2.1 (takeR l bad 1).2.2 (oneR l bad)).2.2 8).2.2
          (out ++ [⟨strOfNums (takeR (takeR l bad 1).2.1 (takeR l bad 1).2.2 (oneR l bad)).1, eightR (takeR (takeR l bad 1).2.1 (takeR l bad 1).2.2 (oneR l bad)).2.1 (takeR (takeR l bad 1).2.1 (takeR l bad 1).2.2 (oneR l bad)).2.2⟩])
      else none) else some (out, bad))) else some (out, bad)
theorem rtGo_mono : ∀ k, ∀ y0 y1 y2, LeO (rtGo k y0 y1 y2) (rtGo (k + 1) y0 y1 y2)
  | 0 => fun _ _ _ r h => by simp [rtGo] at h
  | k + 1 => by
    have ih0 := rtGo_mono k
    intro y0 y1 y2
    unfold rtGo
    repeat' first
    | (with_reducible exact ih0 _ _ _)
    | (with_reducible exact LeO.refl _)
    | (with_reducible exact LeO.none _)
    | (with_reducible refine LeO.ite ?_ ?_)
    | exact LeO.none _
def object_ReadTree.f (k : Nat) (l0 : List Int) : Option (List S67 × Int) := (rtGo k l0 false []).bind fun t => if t.2 = true then some ([], 9) else (object_Tree.f k t.1).bind fun b => if b.2 = 0 then some (t.1, 0) else some ([], 9)
theorem object_ReadTree.mono : ∀ a0 k, LeO (object_ReadTree.f k a0) (object_ReadTree.f (k + 1) a0) := by
  intro a0 k
  unfold object_ReadTree.f
  refine LeO.bind (rtGo_mono k _ _ _) (fun t => ?_)
  refine LeO.ite (LeO.refl _) ?_
  exact LeO.bind (object_Tree.mono _ _) (fun b => LeO.refl _)
set_option maxHeartbeats 8000000 in
set_option maxRecDepth 100000 in
theorem object_ReadTree.calls (k : Nat) (A0 : Option Addr) (c0 : Nat) (l0 : List Int) (r1 : List S67) (r2 : Int) (w : World) (hr0 : Kd.C (Kd.int .u8) w A0 l0.length l0) (hc0 : l0.length ≤ c0) (h : object_ReadTree.f k l0 = some (r1, r2)) :
    Calls Try.prog 25 #[.slice A0 l0.length c0] w fun e w' => ∃ v0_ : Value, e = .returned (.tuple #[v0_, .int .i64 r2]) ∧ Kd.R k67 67 w' w.heap.size (fun _ => True) v0_ r1 ∧ Below w.heap.size w w' := by
  have HR0 := Aside0.mk hr0
  have HC0 := Aside0.mk hc0
  clear hr0 hc0
  unfold object_ReadTree.f at h
  obtain ⟨t, h1, h2⟩ := Option.bind_eq_some_iff.mp h
  clear h
  have H1 := Aside0.mk h1
  have H2 := Aside0.mk h2
  clear h1 h2
  go_enter Try.func25, Try.ntmps25
  go_wp2
  go_loopg [5, 6] k (fun kq v5 v6 wr => ∃ (l : List Int) (bad : Bool) (out : List S67), Aside0 (rtGo kq l bad out = some t) ∧ Aside0 (kq ≤ k) ∧ Aside0 (IsRd w wr w.heap.size l bad) ∧ Aside0 (Kd.R k67 67 wr w.heap.size (fun k_ => k_ ≠ w.heap.size) v5 out) ∧ Aside0 (Below w.heap.size w wr))
  case atStart =>
    exact ⟨l0, false, [], H1, ⟨Nat.le_refl _⟩, ⟨⟨A0, c0, blk_new w _, Nat.le_refl _, HC0.out, HR0.out⟩⟩, ⟨Kd.R_nil _ _ _ _ _⟩, ⟨below_alloc (Below.refl _ _) _⟩⟩
  case round =>
    clear H1
    obtain ⟨l, bad, out, HA, HK, HS, HO, HB⟩ := hrel
    cases gk with
    | zero => exact absurd HA.out (by simp [rtGo])
    | succ k1 =>
      have H := HA.out
      clear HA
      simp only [rtGo] at H
      have hle : k1 + 1 ≤ k := HK.out
      obtain ⟨A, c, hg, hgb, hc, hC⟩ := HS.out
      have hx0 : wr.cell? ⟨w.heap.size, 0, none⟩ = some (.slice A l.length c) := (blk_cell hg 0).trans rfl
      have hx1 : wr.cell? ⟨w.heap.size, 1, none⟩ = some (.bool bad) := (blk_cell hg 1).trans rfl
      have HG := Aside0.mk hg
      clear hg hgb hc hC
      obtain ⟨Ao, co, eo⟩ := Kd.R_slice HO.out
      subst eo
      by_cases c1 : 0 < l.length
      · rw [if_pos c1] at H
        have c1b : decide (0 < (l.length : Int)) = true := decide_eq_true (by omega)
        have c1c : decide (0 < l.length) = true := decide_eq_true c1
        cases bad
        · rw [if_neg (by simp)] at H
          by_cases c3 : out.length ≤ 64
          · rw [if_pos c3] at H
            have c3b : decide ((out.length : Int) ≤ 64) = true := decide_eq_true (by omega)
            have c3c : decide (out.length ≤ 64) = true := decide_eq_true c3
            by_cases c4 : 0 ≤ oneR l false
            · rw [if_pos c4] at H
              have H' := Aside0.mk H
              clear H
              have HN1 := Aside0.mk (one_calls w wr w.heap.size l false HB.out HS.out)
              have C4 := Aside0.mk c4
              have LM := Aside0.mk c3
              clear c4 c3 c1
              generalize oneR l false = n at *
              generalize takeR l false 1 = T1 at *
              obtain ⟨x1, l1, bad1⟩ := T1
              dsimp only at H' HN1
              have HT1 : Aside0 (∀ w1, Below w.heap.size w w1 → IsRd w w1 w.heap.size l1 bad1 → _) := ⟨fun w1 hb hs => take_calls w w1 w.heap.size l1 bad1 n hb hs C4.out⟩
              generalize takeR l1 bad1 n = T2 at *
              obtain ⟨x2, l2, bad2⟩ := T2
              dsimp only at H' HT1
              have HT2 : Aside0 (∀ w1, Below w.heap.size w w1 → IsRd w w1 w.heap.size l2 bad2 → _) := ⟨fun w1 hb hs => eight_calls w w1 w.heap.size l2 bad2 hb hs⟩
              generalize eightR l2 bad2 = bl at *
              generalize takeR l2 bad2 8 = T3 at *
              obtain ⟨x3, l3, bad3⟩ := T3
              dsimp only at H' HT2
              generalize hp : strOfNums x2 = p at *
              have HP := Aside0.mk hp
              clear hp
              go_wp2_with (first
                | (go_at_call 50; refine Calls.mono HN1.out ?_; rintro e w1 ⟨rfl, hs, hb, hk⟩; have HS1 := Aside0.mk hs; have HB1 := Aside0.mk hb; have HO1 := Aside0.mk (Kd.R_kept HO.out hk (fun _ hk' => hk')); clear hs hb hk)
                | (go_at_call 49; refine Calls.mono (HT1.out _ HB1.out HS1.out) ?_; rintro e w2 ⟨A2, c2, rfl, hl2, hC2, hs, hb, hk⟩; have HS2 := Aside0.mk hs; have HB2 := Aside0.mk hb; have HO2 := Aside0.mk (Kd.R_kept HO1.out hk (fun _ hk' => hk')); have hcv := Kd.C_string (P := Try.prog) (A := A2) (c := c2) Try.underlying53 Try.underlying5 Try.underlying9 (Kd.C_below hC2 hb); rw [HP.out] at hcv; clear hs hb hk hC2 hl2)
                | (go_at_call 51; refine Calls.mono (HT2.out _ HB2.out HS2.out) ?_; rintro e w3 ⟨rfl, hs, hb, hk⟩; have HS3 := Aside0.mk hs; have HB3 := Aside0.mk hb; have HO3 := Aside0.mk (Kd.R_kept HO2.out hk (fun _ hk' => hk')); clear hs hb hk)
                | ((with_reducible refine gate_builtin (b := .append) (xs := #[.tmp 28, .tmp 32]) rfl ?_); at_builtin; refine Kd.R_append k67 (w0 := w) w.heap.size rfl (.tmp 28) (.tmp 32) 52 67 (.agg #[(.string ⟨#[]⟩), (.int .u64 0)]) 24 rfl Try.underlying52 info67 rfl (by decide) (by omega) (.slice Ao out.length co) out (⟨p, bl⟩ : S67) [.string p, .int .u64 bl] (fun k_ => k_ ≠ w.heap.size) (fun _ => False) rfl rfl ?aP (fun _ hk => hk.elim) ?aF ?aO ?aB ?aS ?aL ?_; (case aP => exact k67_mkM _ _ _ (⟨p, bl⟩ : S67)); (case aB => exact HB3.out); (case aF => exact (fun k_ hk => by have := blk_lt HS3.out.choose_spec.choose_spec.1; omega)); (case aO => exact HO3.out); (case aS => exact below_size HB3.out); (case aL => have := LM.out; omega); intro v4 w4 ho hb hg hat; have HO4 := Aside0.mk ho; have HB4 := Aside0.mk hb; have HS4 : Aside0 (IsRd w w4 w.heap.size l3 bad3) := (by obtain ⟨A5, c5, b1, b2, b3, b4⟩ := HS3.out; exact ⟨⟨A5, c5, blk_grown b1 hg (Kd.R_ne HO3.out b1 (by decide)), b2, b3, b4⟩⟩); clear ho hb hg hat))
              go_roundg k1
              case measure => omega
              case rel => exact ⟨l3, bad3, out ++ [⟨p, bl⟩], H', ⟨by omega⟩, HS4, HO4, HB4⟩
            · rw [if_neg c4] at H
              exact absurd H (by simp)
          · rw [if_neg c3] at H
            have c3b : decide ((out.length : Int) ≤ 64) = false := decide_eq_false (by omega)
            have c3c : decide (out.length ≤ 64) = false := decide_eq_false c3
            obtain rfl := Option.some.inj H
            clear H
            have h2 := H2.out
            rw [if_neg (by simp)] at h2
            obtain ⟨⟨b1, b2⟩, hT, h3⟩ := Option.bind_eq_some_iff.mp h2
            have HT := Aside0.mk hT
            have hC := (Kd.R_reads' HO.out).2.2
            have hL := (Kd.R_reads' HO.out).2.1
            have HCC := Aside0.mk hC
            have HLL := Aside0.mk hL
            have HK2 := Aside0.mk hle
            clear h2 hT hC hL H2 hle
            by_cases c9 : b2 = 0
            · subst c9
              rw [if_pos rfl] at h3
              obtain ⟨rfl, rfl⟩ := Prod.mk.inj (Option.some.inj h3)
              clear h3
              go_wp2_with (go_at_call 22; refine Calls.mono (object_Tree.calls k _ co out b1 0 _ HCC.out HLL.out HT.out) ?_; rintro e w5 ⟨v5, rfl, ho, hb⟩; have HO5 := Aside0.mk (Kd.R_below HO.out hb); have HB5 := Aside0.mk (below_step HB.out hb); clear ho hb)
              go_ret2
              exact ⟨_, rfl, Kd.R_mono HO5.out (fun _ _ => trivial), HB5.out⟩
            · rw [if_neg c9] at h3
              obtain ⟨rfl, rfl⟩ := Prod.mk.inj (Option.some.inj h3)
              clear h3
              have c9b : (b2 == 0) = false := beq_eq_false_iff_ne.mpr c9
              have c9c : (b2 != 0) = true := bne_iff_ne.mpr c9
              go_wp2_with (go_at_call 22; refine Calls.mono (object_Tree.calls k _ co out b1 b2 _ HCC.out HLL.out HT.out) ?_; rintro e w5 ⟨v5, rfl, ho, hb⟩; have HB5 := Aside0.mk (below_step HB.out hb); clear ho hb)
              go_ret2
              exact ⟨_, rfl, Kd.R_nil _ _ _ _ _, HB5.out⟩
        · rw [if_pos rfl] at H
          obtain rfl := Option.some.inj H
          clear H
          have h2 := H2.out
          rw [if_pos rfl] at h2
          obtain ⟨rfl, rfl⟩ := Prod.mk.inj (Option.some.inj h2)
          clear h2 H2
          go_wp2
          go_ret2
          exact ⟨_, rfl, Kd.R_nil _ _ _ _ _, HB.out⟩
      · rw [if_neg c1] at H
        have c1b : decide (0 < (l.length : Int)) = false := decide_eq_false (by omega)
        have c1c : decide (0 < l.length) = false := decide_eq_false c1
        obtain rfl := Option.some.inj H
        clear H
        cases bad
        · have hz := trivial
          have h2 := H2.out
          rw [if_neg (by simp)] at h2
          obtain ⟨⟨b1, b2⟩, hT, h3⟩ := Option.bind_eq_some_iff.mp h2
          have HT := Aside0.mk hT
          have hC := (Kd.R_reads' HO.out).2.2
          have hL := (Kd.R_reads' HO.out).2.1
          have HCC := Aside0.mk hC
          have HLL := Aside0.mk hL
          have HK2 := Aside0.mk hle
          clear h2 hT hC hL H2 hle
          by_cases c9 : b2 = 0
          · subst c9
            rw [if_pos rfl] at h3
            obtain ⟨rfl, rfl⟩ := Prod.mk.inj (Option.some.inj h3)
            clear h3
            go_wp2_with (go_at_call 22; refine Calls.mono (object_Tree.calls k _ co out b1 0 _ HCC.out HLL.out HT.out) ?_; rintro e w5 ⟨v5, rfl, ho, hb⟩; have HO5 := Aside0.mk (Kd.R_below HO.out hb); have HB5 := Aside0.mk (below_step HB.out hb); clear ho hb)
            go_ret2
            exact ⟨_, rfl, Kd.R_mono HO5.out (fun _ _ => trivial), HB5.out⟩
          · rw [if_neg c9] at h3
            obtain ⟨rfl, rfl⟩ := Prod.mk.inj (Option.some.inj h3)
            clear h3
            have c9b : (b2 == 0) = false := beq_eq_false_iff_ne.mpr c9
            have c9c : (b2 != 0) = true := bne_iff_ne.mpr c9
            go_wp2_with (go_at_call 22; refine Calls.mono (object_Tree.calls k _ co out b1 b2 _ HCC.out HLL.out HT.out) ?_; rintro e w5 ⟨v5, rfl, ho, hb⟩; have HB5 := Aside0.mk (below_step HB.out hb); clear ho hb)
            go_ret2
            exact ⟨_, rfl, Kd.R_nil _ _ _ _ _, HB5.out⟩
        · have hz := trivial
          have h2 := H2.out
          rw [if_pos rfl] at h2
          obtain ⟨rfl, rfl⟩ := Prod.mk.inj (Option.some.inj h2)
          clear h2 H2
          go_wp2
          go_ret2
          exact ⟨_, rfl, Kd.R_nil _ _ _ _ _, HB.out⟩

/-! ### api_ID_58: function 58 -/
def api_ID_58.l0 : Nat → List Int → Int → Int → Int → Option (Int)
  | 0, _, _, _, _ => none
  | k + 1, x0, x1, x7, x8 => if x8 < x7 then (if 0 ≤ x8 then (if x8 < (x0.length : Int) then (if x1 = (rd x0 x8) then (some x8) else (api_ID_58.l0 k x0 x1 x7 (wrap64 (x8 + 1)))) else (none)) else (none)) else (some (-1))
def api_ID_58.f (k : Nat) (l0 : List Int) (a1 : Int) : Option (Int) := api_ID_58.l0 k l0 a1 (l0.length : Int) 0
theorem api_ID_58.mono_l : ∀ k, (∀ y0 y1 y2 y3, LeO (api_ID_58.l0 k y0 y1 y2 y3) (api_ID_58.l0 (k + 1) y0 y1 y2 y3))
  | 0 => fun _ _ _ _ r h => by simp [api_ID_58.l0] at h
  | k + 1 => by
    have ih0 := api_ID_58.mono_l k
    · intro y0 y1 y2 y3
      unfold api_ID_58.l0
      repeat' first
      | (with_reducible exact ih0 _ _ _ _)
      | (with_reducible exact LeO.refl _)
      | (with_reducible exact LeO.none _)
      | (with_reducible refine LeO.ite ?_ ?_)
      | (with_reducible refine LeO.bind ?_ (fun _ => ?_))
      | exact ih0 _ _ _ _
      | exact LeO.none _
      | refine LeO.ite ?_ ?_
      | refine LeO.bind ?_ (fun _ => ?_)
theorem api_ID_58.mono : ∀ a0 a1 k, LeO (api_ID_58.f k a0 a1) (api_ID_58.f (k + 1) a0 a1) := by
  intro a0 a1 k
  have ih0 := api_ID_58.mono_l k
  unfold api_ID_58.f
  repeat' first
      | (with_reducible exact ih0 _ _ _ _)
      | (with_reducible exact LeO.refl _)
      | (with_reducible exact LeO.none _)
      | (with_reducible refine LeO.ite ?_ ?_)
      | (with_reducible refine LeO.bind ?_ (fun _ => ?_))
      | exact ih0 _ _ _ _
      | exact LeO.none _
      | refine LeO.ite ?_ ?_
      | refine LeO.bind ?_ (fun _ => ?_)
set_option maxHeartbeats 8000000 in
set_option maxRecDepth 100000 in
theorem api_ID_58.calls (k : Nat) (A0 : Option Addr) (c0 : Nat) (l0 : List Int) (a1 : Int) (r : Int) (w : World) (hr0 : Kd.C (Kd.int .u64) w A0 l0.length l0) (hc0 : l0.length ≤ c0) (h : api_ID_58.f k l0 a1 = some r) :
    Calls Try.prog 58 #[.slice A0 l0.length c0, .int .u64 a1] w fun e w' => e = .returned (.int .i64 r) ∧ Drawn0 w w' := by
  have HR0 := Aside0.mk hr0
  have HC0 := Aside0.mk hc0
  clear hr0 hc0
  have H : (api_ID_58.l0 k l0 a1 (l0.length : Int) 0) = some r := h
  clear h
  have H' := Aside0.mk H
  clear H
  go_enter Try.func58, Try.ntmps58
  go_wp2
  go_loopg [8] k (fun kq v8 w' => ∃ (x8_1 : Int), v8 = .int .i64 x8_1 ∧ Aside0 (api_ID_58.l0 kq l0 a1 (l0.length : Int) x8_1 = some r) ∧ Aside0 (kq ≤ k) ∧ Drawn0 w w')
  case atStart => exact ⟨(0), (by first | rfl | (simp; done) | (simp [*]; done)), H', ⟨Nat.le_refl _⟩, by repeat (first | exact Drawn0.refl _ | apply Drawn0.step)⟩
  case round =>
    clear H'
    try clear p2
    obtain ⟨x8_1, rfl, HA, HK1, ⟨m1, rfl⟩⟩ := hrel
    cases gk with
    | zero => exact absurd HA.out (by simp [api_ID_58.l0])
    | succ k1 =>
      have H := HA.out
      clear HA
      simp only [api_ID_58.l0] at H
      by_cases c3 : x8_1 < (l0.length : Int)
      · rw [if_pos c3] at H
        have c3b0 : decide (x8_1 < (l0.length : Int)) = true := decide_eq_true c3
        clear c3
        by_cases c4 : 0 ≤ x8_1
        · rw [if_pos c4] at H
          have c4b0 : decide (0 ≤ x8_1) = true := decide_eq_true c4
          clear c4
          by_cases c5 : x8_1 < (l0.length : Int)
          · rw [if_pos c5] at H
            have c5b0 : decide (x8_1 < (l0.length : Int)) = true := decide_eq_true c5
            clear c5
            by_cases c6 : a1 = (rd l0 x8_1)
            · rw [if_pos c6] at H
              have c6b0 : (a1 == (rd l0 x8_1)) = true := beq_iff_eq.mpr c6
              have c6b1 : (a1 != (rd l0 x8_1)) = false := bne_eq_false_iff_eq.mpr c6
              clear c6
              obtain rfl := Option.some.inj H
              have p138 : 0 ≤ (x8_1 : Int) := of_decide_eq_true (by first | (with_reducible assumption) | assumption)
              have q138 : x8_1 < (l0.length : Int) := of_decide_eq_true (by first | (with_reducible assumption) | assumption)
              obtain ⟨ad138, e138, hx138_0⟩ := Kd.at_int HR0.out x8_1 p138 q138
              cases e138
              replace p138 := eq_true p138
              replace q138 := eq_true q138
              go_wp2
              go_ret
              exact ⟨by first | rfl | (simp; done) | (simp [*]; done), by repeat (first | exact Drawn0.refl _ | apply Drawn0.step)⟩
            · rw [if_neg c6] at H
              have c6b0 : (a1 == (rd l0 x8_1)) = false := beq_eq_false_iff_ne.mpr c6
              have c6b1 : (a1 != (rd l0 x8_1)) = true := bne_iff_ne.mpr c6
              have H' := Aside0.mk H
              clear H
              have p138 : 0 ≤ (x8_1 : Int) := of_decide_eq_true (by first | (with_reducible assumption) | assumption)
              have q138 : x8_1 < (l0.length : Int) := of_decide_eq_true (by first | (with_reducible assumption) | assumption)
              obtain ⟨ad138, e138, hx138_0⟩ := Kd.at_int HR0.out x8_1 p138 q138
              cases e138
              replace p138 := eq_true p138
              replace q138 := eq_true q138
              go_wp2
              go_roundg k1
              case measure => have := HK1.out; omega
              case rel => exact ⟨(wrap64 (x8_1 + 1)), (by first | rfl | (simp; done) | (simp [*]; done)), H', ⟨by have := HK1.out; omega⟩, by repeat (first | exact Drawn0.refl _ | apply Drawn0.step)⟩
          · rw [if_neg c5] at H
            exact absurd H (by simp)
        · rw [if_neg c4] at H
          exact absurd H (by simp)
      · rw [if_neg c3] at H
        have c3b0 : decide (x8_1 < (l0.length : Int)) = false := decide_eq_false c3
        clear c3
        obtain rfl := Option.some.inj H
        go_wp2
        go_ret
        exact ⟨by first | rfl | (simp; done) | (simp [*]; done), by repeat (first | exact Drawn0.refl _ | apply Drawn0.step)⟩

/-! ### api_ID_53: function 53 -/
def api_ID_53.f (k : Nat) (l0 : List Int) (a1 : Int) : Option (Bool) := (api_ID_58.f k l0 a1).bind fun t139 => (some (decide (t139 ≥ 0)))
theorem api_ID_53.mono : ∀ a0 a1 k, LeO (api_ID_53.f k a0 a1) (api_ID_53.f (k + 1) a0 a1) := by
  intro a0 a1 k
  unfold api_ID_53.f
  repeat' first
      | (with_reducible exact api_ID_58.mono _ _ _)
      | (with_reducible exact LeO.refl _)
      | (with_reducible exact LeO.none _)
      | (with_reducible refine LeO.ite ?_ ?_)
      | (with_reducible refine LeO.bind ?_ (fun _ => ?_))
      | exact api_ID_58.mono _ _ _
      | exact LeO.none _
      | refine LeO.ite ?_ ?_
      | refine LeO.bind ?_ (fun _ => ?_)
set_option maxHeartbeats 8000000 in
set_option maxRecDepth 100000 in
theorem api_ID_53.calls (k : Nat) (A0 : Option Addr) (c0 : Nat) (l0 : List Int) (a1 : Int) (r : Bool) (w : World) (hr0 : Kd.C (Kd.int .u64) w A0 l0.length l0) (hc0 : l0.length ≤ c0) (h : api_ID_53.f k l0 a1 = some r) :
    Calls Try.prog 53 #[.slice A0 l0.length c0, .int .u64 a1] w fun e w' => e = .returned (.bool r) ∧ Drawn0 w w' := by
  have HR0 := Aside0.mk hr0
  have HC0 := Aside0.mk hc0
  clear hr0 hc0
  have H : ((api_ID_58.f k l0 a1).bind fun t139 => (some (decide (t139 ≥ 0)))) = some r := h
  clear h
  replace H := Option.bind_eq_some_iff.mp H
  obtain ⟨t139, A30, H⟩ := H
  replace H : (some (decide (t139 ≥ 0))) = some r := H
  have A3 := Aside0.mk A30
  clear A30
  obtain rfl := Option.some.inj H
  go_enter Try.func53, Try.ntmps53
  go_wp2_with (first | ((with_reducible refine gate_callee (f := 58) rfl ?_); refine goesL_ (some 7) rfl rfl Try.func58 (by kernel_rfl) rfl #[.slice A0 l0.length c0, .int .u64 a1] rfl (by (try simp only [List.map_toArray, List.map_cons, List.map_nil]); first | done | rfl | (simp only [List.length_drop, List.length_take]; rfl)) ?_; (with_reducible refine (api_ID_58.calls k _ _ l0 a1 t139 _ ?side1 ?side2 A3.out).mono ?_); (case side1 => repeat (first | exact HR0.out | (with_reducible refine Kd.C_alloc ?_ _) | (with_reducible refine Kd.C_drewN ?_ _) | (with_reducible refine Kd.C_drew ?_))); (case side2 => exact HC0.out); rintro e w' ⟨rfl, ⟨nd, rfl⟩⟩; refine ⟨_, rfl, ?_⟩))
  go_ret
  exact ⟨by first | rfl | (simp; done) | (simp [*]; done), by repeat (first | exact Drawn0.refl _ | apply Drawn0.step)⟩

end Go.Proofs.Ythigjlahanejjaa.MO
