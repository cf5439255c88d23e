/- Laid by this claim's own program (myprint) out of the translation: functions that the laws of the group T reach, each as a plain function, with the proof that the Go code comes to it. No condition. -/
import Derived.Test.YtlbkobiphfaafaaMTx0
namespace Go.Proofs.Ytlbkobiphfaafaa.MT
open Go.Proofs.Ytlbkobiphfaafaa.Opening
open Go.RowKit Go.Proofs.YtlbkobiphfaafaaW.PrintWords Go.Proofs.YtlbkobiphfaafaaW.PrintLast Go.Proofs.YtlbkobiphfaafaaW.PrintMore
attribute [local go_sem] max2_int min2_int max_two min_two max_three min_three max_four min_four   -- for this text's walks alone
set_option linter.unusedVariables false
set_option linter.unusedSimpArgs false

/-! ### forebearref04_has: function 49 -/
def forebearref04_has.l0 : Nat → List Int → Int → Int → Option (Bool)
  | 0, _, _, _ => none
  | k + 1, x0, x1, x5 => if x5 < (x0.length : Int) then (if 0 ≤ x5 then (if (rd x0 x5) = x1 then (some true) else (forebearref04_has.l0 k x0 x1 (wrap64 (x5 + 1)))) else (none)) else (some false)
def forebearref04_has.f (k : Nat) (l0 : List Int) (a1 : Int) : Option (Bool) := forebearref04_has.l0 k l0 a1 0
theorem forebearref04_has.mono_l : ∀ k, (∀ y0 y1 y2, LeO (forebearref04_has.l0 k y0 y1 y2) (forebearref04_has.l0 (k + 1) y0 y1 y2))
  | 0 => fun _ _ _ r h => by simp [forebearref04_has.l0] at h
  | k + 1 => by
    have ih0 := forebearref04_has.mono_l k
    · intro y0 y1 y2
      unfold forebearref04_has.l0
      repeat' first
      | (with_reducible exact ih0 _ _ _)
      | (with_reducible exact LeO.refl _)
      | (with_reducible exact LeO.none _)
      | (with_reducible refine LeO.ite ?_ ?_)
      | (with_reducible refine LeO.bind ?_ (fun _ => ?_))
      | exact ih0 _ _ _
      | exact LeO.none _
      | refine LeO.ite ?_ ?_
      | refine LeO.bind ?_ (fun _ => ?_)
theorem forebearref04_has.mono : ∀ a0 a1 k, LeO (forebearref04_has.f k a0 a1) (forebearref04_has.f (k + 1) a0 a1) := by
  intro a0 a1 k
  have ih0 := forebearref04_has.mono_l k
  unfold forebearref04_has.f
  repeat' first
      | (with_reducible exact ih0 _ _ _)
      | (with_reducible exact LeO.refl _)
      | (with_reducible exact LeO.none _)
      | (with_reducible refine LeO.ite ?_ ?_)
      | (with_reducible refine LeO.bind ?_ (fun _ => ?_))
      | exact ih0 _ _ _
      | exact LeO.none _
      | refine LeO.ite ?_ ?_
      | refine LeO.bind ?_ (fun _ => ?_)
set_option maxHeartbeats 8000000 in
set_option maxRecDepth 100000 in
theorem forebearref04_has.calls (k : Nat) (A0 : Option Addr) (c0 : Nat) (l0 : List Int) (a1 : Int) (r : Bool) (w : World) (hr0 : Kd.C (Kd.int .i64) w A0 l0.length l0) (hc0 : l0.length ≤ c0) (h : forebearref04_has.f k l0 a1 = some r) :
    Calls Try.prog 49 #[.slice A0 l0.length c0, .int .i64 a1] w fun e w' => e = .returned (.bool r) ∧ Drawn0 w w' := by
  have HR0 := Aside0.mk hr0
  have HC0 := Aside0.mk hc0
  clear hr0 hc0
  have H : (forebearref04_has.l0 k l0 a1 0) = some r := h
  clear h
  have H' := Aside0.mk H
  clear H
  go_enter Try.func49, Try.ntmps49
  go_wp2
  go_loopg [5] k (fun kq v5 w' => ∃ (x5_1 : Int), v5 = .int .i64 x5_1 ∧ Aside0 (forebearref04_has.l0 kq l0 a1 x5_1 = some r) ∧ Aside0 (kq ≤ k) ∧ Drawn0 w w')
  case atStart => exact ⟨(0), (by first | rfl | (simp; done) | (simp [*]; done)), H', ⟨Nat.le_refl _⟩, by repeat (first | exact Drawn0.refl _ | apply Drawn0.step)⟩
  case round =>
    clear H'
    try clear p2
    obtain ⟨x5_1, rfl, HA, HK1, ⟨m1, rfl⟩⟩ := hrel
    cases gk with
    | zero => exact absurd HA.out (by simp [forebearref04_has.l0])
    | succ k1 =>
      have H := HA.out
      clear HA
      simp only [forebearref04_has.l0] at H
      by_cases c3 : x5_1 < (l0.length : Int)
      · rw [if_pos c3] at H
        have c3b0 : decide (x5_1 < (l0.length : Int)) = true := decide_eq_true c3
        clear c3
        by_cases c4 : 0 ≤ x5_1
        · rw [if_pos c4] at H
          have c4b0 : decide (0 ≤ x5_1) = true := decide_eq_true c4
          clear c4
          by_cases c5 : (rd l0 x5_1) = a1
          · rw [if_pos c5] at H
            have c5b0 : ((rd l0 x5_1) == a1) = true := beq_iff_eq.mpr c5
            have c5b1 : ((rd l0 x5_1) != a1) = false := bne_eq_false_iff_eq.mpr c5
            clear c5
            obtain rfl := Option.some.inj H
            have p190 : 0 ≤ (x5_1 : Int) := of_decide_eq_true (by first | (with_reducible assumption) | assumption)
            have q190 : x5_1 < (l0.length : Int) := of_decide_eq_true (by first | (with_reducible assumption) | assumption)
            obtain ⟨ad190, e190, hx190_0⟩ := Kd.at_int HR0.out x5_1 p190 q190
            cases e190
            replace p190 := eq_true p190
            replace q190 := eq_true q190
            go_wp2
            go_ret
            exact ⟨by first | rfl | (simp; done) | (simp [*]; done), by repeat (first | exact Drawn0.refl _ | apply Drawn0.step)⟩
          · rw [if_neg c5] at H
            have c5b0 : ((rd l0 x5_1) == a1) = false := beq_eq_false_iff_ne.mpr c5
            have c5b1 : ((rd l0 x5_1) != a1) = true := bne_iff_ne.mpr c5
            have H' := Aside0.mk H
            clear H
            have p190 : 0 ≤ (x5_1 : Int) := of_decide_eq_true (by first | (with_reducible assumption) | assumption)
            have q190 : x5_1 < (l0.length : Int) := of_decide_eq_true (by first | (with_reducible assumption) | assumption)
            obtain ⟨ad190, e190, hx190_0⟩ := Kd.at_int HR0.out x5_1 p190 q190
            cases e190
            replace p190 := eq_true p190
            replace q190 := eq_true q190
            go_wp2
            go_roundg k1
            case measure => have := HK1.out; omega
            case rel => exact ⟨(wrap64 (x5_1 + 1)), (by first | rfl | (simp; done) | (simp [*]; done)), H', ⟨by have := HK1.out; omega⟩, by repeat (first | exact Drawn0.refl _ | apply Drawn0.step)⟩
        · rw [if_neg c4] at H
          exact absurd H (by simp)
      · rw [if_neg c3] at H
        have c3b0 : decide (x5_1 < (l0.length : Int)) = false := decide_eq_false c3
        clear c3
        obtain rfl := Option.some.inj H
        go_wp2
        go_ret
        exact ⟨by first | rfl | (simp; done) | (simp [*]; done), by repeat (first | exact Drawn0.refl _ | apply Drawn0.step)⟩

/-! ### forebearref04_Runs: function 28 -/
mutual
def forebearref04_Runs.l0 : Nat → List Int → List (S49) → Int → Option ((List (S49)))
 | 0, _, _, _ => none
 | k + 1, x0, x3, x4 => if x4 < (x0.length : Int) then (if 0 ≤ x4 then (if (rd x0 x4) > (-9223372036854775808) then ((forebearref04_has.f k x0 (wrap64 ((rd x0 x4) - 1))).bind fun t192 => (if t192 = true then (forebearref04_Runs.j1 k x0 x3 x4 (rd x0 x4) true) else (if x4 ≤ (x0.length : Int) then ((forebearref04_has.f k (x0.take (x4 : Int).toNat) (rd x0 x4)).bind fun t194 => (forebearref04_Runs.j1 k x0 x3 x4 (rd x0 x4) t194)) else (none)))) else (if x4 ≤ (x0.length : Int) then ((forebearref04_has.f k (x0.take (x4 : Int).toNat) (rd x0 x4)).bind fun t196 => (forebearref04_Runs.j1 k x0 x3 x4 (rd x0 x4) t196)) else (none))) else (none)) else (some x3)
def forebearref04_Runs.j1 : Nat → List Int → List (S49) → Int → Int → Bool → Option ((List (S49)))
 | 0, _, _, _, _, _ => none
 | k + 1, x0, x3, x4, x5, x33 => if x33 = true then (forebearref04_Runs.l0 k x0 x3 (wrap64 (x4 + 1))) else (forebearref04_Runs.l1 k x0 x3 x4 x5 x5 x5)
def forebearref04_Runs.j3 : Nat → List Int → List (S49) → Int → Int → Int → Int → Option ((List (S49)))
 | 0, _, _, _, _, _, _ => none
 | k + 1, x0, x3, x4, x5, x198000, x198001 => forebearref04_Runs.l2 k x0 x3 x4 x5 (x3.length : Int) x198000 x198001
def forebearref04_Runs.l2 : Nat → List Int → List (S49) → Int → Int → Int → Int → Int → Option ((List (S49)))
 | 0, _, _, _, _, _, _, _ => none
 | k + 1, x0, x3, x4, x5, x7, x198000, x198001 => if x7 > 0 then (if 0 ≤ (wrap64 (x7 - 1)) then (if (wrap64 (x7 - 1)) < (x3.length : Int) then (if ((rd_T49 x3 (wrap64 (x7 - 1))).f0) > x5 then (forebearref04_Runs.l2 k x0 x3 x4 x5 (wrap64 (x7 - 1)) x198000 x198001) else ((some (([] : List (S49)) : List (S49))).bind fun y200 => (if 0 ≤ x7 then (if x7 ≤ (x3.length : Int) then ((some (x3.take (x7 : Int).toNat : List (S49))).bind fun y203 => (if y200.length + y203.length < 8796093022208 then ((some (y200 ++ y203 : List (S49))).bind fun y207 => (if y207.length < 8796093022208 then ((some (y207 ++ [(⟨x198000, x198001⟩ : S49)] : List (S49))).bind fun y210 => ((some (x3.drop (x7 : Int).toNat : List (S49))).bind fun y213 => (if y210.length + y213.length < 8796093022208 then (forebearref04_Runs.l0 k x0 (y210 ++ y213) (wrap64 (x4 + 1))) else (none)))) else (none))) else (none))) else (none)) else (none)))) else (none)) else (none)) else ((some (([] : List (S49)) : List (S49))).bind fun y220 => (if 0 ≤ x7 then (if x7 ≤ (x3.length : Int) then ((some (x3.take (x7 : Int).toNat : List (S49))).bind fun y223 => (if y220.length + y223.length < 8796093022208 then ((some (y220 ++ y223 : List (S49))).bind fun y227 => (if y227.length < 8796093022208 then ((some (y227 ++ [(⟨x198000, x198001⟩ : S49)] : List (S49))).bind fun y230 => ((some (x3.drop (x7 : Int).toNat : List (S49))).bind fun y233 => (if y230.length + y233.length < 8796093022208 then (forebearref04_Runs.l0 k x0 (y230 ++ y233) (wrap64 (x4 + 1))) else (none)))) else (none))) else (none))) else (none)) else (none)))
def forebearref04_Runs.l1 : Nat → List Int → List (S49) → Int → Int → Int → Int → Option ((List (S49)))
 | 0, _, _, _, _, _, _ => none
 | k + 1, x0, x3, x4, x5, x198000, x198001 => if x198001 < 9223372036854775807 then ((forebearref04_has.f k x0 (wrap64 (x198001 + 1))).bind fun t198 => (if t198 = true then (forebearref04_Runs.l1 k x0 x3 x4 x5 x198000 (wrap64 (x198001 + 1))) else (forebearref04_Runs.j3 k x0 x3 x4 x5 x198000 x198001))) else (forebearref04_Runs.j3 k x0 x3 x4 x5 x198000 x198001)
end
def forebearref04_Runs.f (k : Nat) (l0 : List Int) : Option ((List (S49))) := forebearref04_Runs.l0 k l0 ([] : List (S49)) 0
theorem forebearref04_Runs.mono_l : ∀ k, (∀ y0 y1 y2, LeO (forebearref04_Runs.l0 k y0 y1 y2) (forebearref04_Runs.l0 (k + 1) y0 y1 y2)) ∧ (∀ y0 y1 y2 y3 y4, LeO (forebearref04_Runs.j1 k y0 y1 y2 y3 y4) (forebearref04_Runs.j1 (k + 1) y0 y1 y2 y3 y4)) ∧ (∀ y0 y1 y2 y3 y4 y5, LeO (forebearref04_Runs.j3 k y0 y1 y2 y3 y4 y5) (forebearref04_Runs.j3 (k + 1) y0 y1 y2 y3 y4 y5)) ∧ (∀ y0 y1 y2 y3 y4 y5 y6, LeO (forebearref04_Runs.l2 k y0 y1 y2 y3 y4 y5 y6) (forebearref04_Runs.l2 (k + 1) y0 y1 y2 y3 y4 y5 y6)) ∧ (∀ y0 y1 y2 y3 y4 y5, LeO (forebearref04_Runs.l1 k y0 y1 y2 y3 y4 y5) (forebearref04_Runs.l1 (k + 1) y0 y1 y2 y3 y4 y5))
 | 0 => ⟨fun _ _ _ r h => by simp [forebearref04_Runs.l0] at h, fun _ _ _ _ _ r h => by simp [forebearref04_Runs.j1] at h, fun _ _ _ _ _ _ r h => by simp [forebearref04_Runs.j3] at h, fun _ _ _ _ _ _ _ r h => by simp [forebearref04_Runs.l2] at h, fun _ _ _ _ _ _ r h => by simp [forebearref04_Runs.l1] at h⟩
 | k + 1 => by
  obtain ⟨ih0, ih1, ih2, ih3, ih4⟩ := forebearref04_Runs.mono_l k
  refine ⟨?_, ?_, ?_, ?_, ?_⟩
  ·intro y0 y1 y2
   unfold forebearref04_Runs.l0
   repeat' first
   | (with_reducible exact ih0 _ _ _)
   | (with_reducible exact ih1 _ _ _ _ _)
   | (with_reducible exact ih2 _ _ _ _ _ _)
   | (with_reducible exact ih3 _ _ _ _ _ _ _)
   | (with_reducible exact ih4 _ _ _ _ _ _)
   | (with_reducible exact forebearref04_has.mono _ _ _)
   | (with_reducible exact LeO.refl _)
   | (with_reducible exact LeO.none _)
   | (with_reducible refine LeO.ite ?_ ?_)
   | (with_reducible refine LeO.bind ?_ (fun _ => ?_))
   | exact ih0 _ _ _
   | exact ih1 _ _ _ _ _
   | exact ih2 _ _ _ _ _ _
   | exact ih3 _ _ _ _ _ _ _
   | exact ih4 _ _ _ _ _ _
   | exact forebearref04_has.mono _ _ _
   | exact LeO.none _
   | refine LeO.ite ?_ ?_
   | refine LeO.bind ?_ (fun _ => ?_)
  ·intro y0 y1 y2 y3 y4
   unfold forebearref04_Runs.j1
   repeat' first
   | (with_reducible exact ih0 _ _ _)
   | (with_reducible exact ih1 _ _ _ _ _)
   | (with_reducible exact ih2 _ _ _ _ _ _)
   | (with_reducible exact ih3 _ _ _ _ _ _ _)
   | (with_reducible exact ih4 _ _ _ _ _ _)
   | (with_reducible exact forebearref04_has.mono _ _ _)
   | (with_reducible exact LeO.refl _)
   | (with_reducible exact LeO.none _)
   | (with_reducible refine LeO.ite ?_ ?_)
   | (with_reducible refine LeO.bind ?_ (fun _ => ?_))
   | exact ih0 _ _ _
   | exact ih1 _ _ _ _ _
   | exact ih2 _ _ _ _ _ _
   | exact ih3 _ _ _ _ _ _ _
   | exact ih4 _ _ _ _ _ _
   | exact forebearref04_has.mono _ _ _
   | exact LeO.none _
   | refine LeO.ite ?_ ?_
   | refine LeO.bind ?_ (fun _ => ?_)
  ·intro y0 y1 y2 y3 y4 y5
   unfold forebearref04_Runs.j3
   repeat' first
   | (with_reducible exact ih0 _ _ _)
   | (with_reducible exact ih1 _ _ _ _ _)
   | (with_reducible exact ih2 _ _ _ _ _ _)
   | (with_reducible exact ih3 _ _ _ _ _ _ _)
   | (with_reducible exact ih4 _ _ _ _ _ _)
   | (with_reducible exact forebearref04_has.mono _ _ _)
   | (with_reducible exact LeO.refl _)
   | (with_reducible exact LeO.none _)
   | (with_reducible refine LeO.ite ?_ ?_)
   | (with_reducible refine LeO.bind ?_ (fun _ => ?_))
   | exact ih0 _ _ _
   | exact ih1 _ _ _ _ _
   | exact ih2 _ _ _ _ _ _
   | exact ih3 _ _ _ _ _ _ _
   | exact ih4 _ _ _ _ _ _
   | exact forebearref04_has.mono _ _ _
   | exact LeO.none _
   | refine LeO.ite ?_ ?_
   | refine LeO.bind ?_ (fun _ => ?_)
  ·intro y0 y1 y2 y3 y4 y5 y6
   unfold forebearref04_Runs.l2
   repeat' first
   | (with_reducible exact ih0 _ _ _)
   | (with_reducible exact ih1 _ _ _ _ _)
   | (with_reducible exact ih2 _ _ _ _ _ _)
   | (with_reducible exact ih3 _ _ _ _ _ _ _)
   | (with_reducible exact ih4 _ _ _ _ _ _)
   | (with_reducible exact forebearref04_has.mono _ _ _)
   | (with_reducible exact LeO.refl _)
   | (with_reducible exact LeO.none _)
   | (with_reducible refine LeO.ite ?_ ?_)
   | (with_reducible refine LeO.bind ?_ (fun _ => ?_))
   | exact ih0 _ _ _
   | exact ih1 _ _ _ _ _
   | exact ih2 _ _ _ _ _ _
   | exact ih3 _ _ _ _ _ _ _
   | exact ih4 _ _ _ _ _ _
   | exact forebearref04_has.mono _ _ _
   | exact LeO.none _
   | refine LeO.ite ?_ ?_
   | refine LeO.bind ?_ (fun _ => ?_)
  ·intro y0 y1 y2 y3 y4 y5
   unfold forebearref04_Runs.l1
   repeat' first
   | (with_reducible exact ih0 _ _ _)
   | (with_reducible exact ih1 _ _ _ _ _)
   | (with_reducible exact ih2 _ _ _ _ _ _)
   | (with_reducible exact ih3 _ _ _ _ _ _ _)
   | (with_reducible exact ih4 _ _ _ _ _ _)
   | (with_reducible exact forebearref04_has.mono _ _ _)
   | (with_reducible exact LeO.refl _)
   | (with_reducible exact LeO.none _)
   | (with_reducible refine LeO.ite ?_ ?_)
   | (with_reducible refine LeO.bind ?_ (fun _ => ?_))
   | exact ih0 _ _ _
   | exact ih1 _ _ _ _ _
   | exact ih2 _ _ _ _ _ _
   | exact ih3 _ _ _ _ _ _ _
   | exact ih4 _ _ _ _ _ _
   | exact forebearref04_has.mono _ _ _
   | exact LeO.none _
   | refine LeO.ite ?_ ?_
   | refine LeO.bind ?_ (fun _ => ?_)
theorem forebearref04_Runs.mono : ∀ a0 k, LeO (forebearref04_Runs.f k a0) (forebearref04_Runs.f (k + 1) a0) := by
 intro a0 k
 obtain ⟨ih0, ih1, ih2, ih3, ih4⟩ := forebearref04_Runs.mono_l k
 unfold forebearref04_Runs.f
 repeat' first
   | (with_reducible exact ih0 _ _ _)
   | (with_reducible exact ih1 _ _ _ _ _)
   | (with_reducible exact ih2 _ _ _ _ _ _)
   | (with_reducible exact ih3 _ _ _ _ _ _ _)
   | (with_reducible exact ih4 _ _ _ _ _ _)
   | (with_reducible exact forebearref04_has.mono _ _ _)
   | (with_reducible exact LeO.refl _)
   | (with_reducible exact LeO.none _)
   | (with_reducible refine LeO.ite ?_ ?_)
   | (with_reducible refine LeO.bind ?_ (fun _ => ?_))
   | exact ih0 _ _ _
   | exact ih1 _ _ _ _ _
   | exact ih2 _ _ _ _ _ _
   | exact ih3 _ _ _ _ _ _ _
   | exact ih4 _ _ _ _ _ _
   | exact forebearref04_has.mono _ _ _
   | exact LeO.none _
   | refine LeO.ite ?_ ?_
   | refine LeO.bind ?_ (fun _ => ?_)
theorem forebearref04_has_n (k : Nat) (A0 : Option Addr) (c0 : Nat) (l0 : List Int) (a1 : Int) (n : Nat) (r : Bool) (w : World) (hn : n = l0.length) (hr0 : Kd.C (Kd.int .i64) w A0 l0.length l0) (hc0 : l0.length ≤ c0) (h : forebearref04_has.f k l0 a1 = some r) :
  Calls Try.prog 49 #[.slice A0 n c0, .int .i64 a1] w fun e w' => e = .returned (.bool r) ∧ Drawn0 w w' := hn ▸ forebearref04_has.calls k A0 c0 l0 a1 r w hr0 hc0 h
set_option maxHeartbeats 8000000 in
set_option maxRecDepth 100000 in
theorem forebearref04_Runs.calls (k : Nat) (A0 : Option Addr) (c0 : Nat) (l0 : List Int) (r : List (S49)) (w : World) (hr0 : Kd.C (Kd.int .i64) w A0 l0.length l0) (hc0 : l0.length ≤ c0) (h : forebearref04_Runs.f k l0 = some r) :
  Calls Try.prog 28 #[.slice A0 l0.length c0] w fun e w' => ∃ v0_ : Value, e = .returned (v0_) ∧ Kd.R k49 49 w' w.heap.size (fun _ => True) v0_ r ∧ Below w.heap.size w w' := by
 have hu49 := Try.underlying49
 have HR0 := Aside0.mk hr0
 have HC0 := Aside0.mk hc0
 clear hr0 hc0
 have HB := Aside0.mk (Below.refl w.heap.size w)
 have H : (forebearref04_Runs.l0 k l0 ([] : List (S49)) 0) = some r := h
 clear h
 have H' := Aside0.mk H
 clear H
 go_enter Try.func28, Try.ntmps28
 go_wp2
 go_loopg [3, 4] k (fun kq v3 v4 w' => ∃ (x3_1 : List (S49)) (x4_1 : Int), v4 = .int .i64 x4_1 ∧ Aside0 (forebearref04_Runs.l0 kq l0 x3_1 x4_1 = some r) ∧ Aside0 (kq ≤ k) ∧ Aside0 (Kd.R k49 49 w' w.heap.size (fun _ => True) v3 x3_1) ∧ Aside0 (Below w.heap.size w w'))
 case atStart => exact ⟨(([] : List (S49))), (0), (by first | rfl | (simp; done) | (simp [*]; done)), H', ⟨Nat.le_refl _⟩, ⟨by first | exact Kd.R_nil _ _ _ _ _ | exact Kd.N_nil _ _ _ _ _ | exact Kd.V_nil _ _ _ _ _ | exact Kd.Q_nil _ _ _ _ _ | exact Kd.S_nil _ _ _ _ _⟩, ⟨by repeat (first | (with_reducible first | exact HB.out | apply below_alloc | apply pw_below_drewN | apply below_drew1) | exact HB.out)⟩⟩
 case round =>
  clear H'
  obtain ⟨x3_1, x4_1, rfl, HA, HK1, HO_3, HB⟩ := hrel
  cases gk with
  | zero => exact absurd HA.out (by simp [forebearref04_Runs.l0])
  | succ k1 =>
   have H := HA.out
   clear HA
   simp only [forebearref04_Runs.l0] at H
   by_cases c2 : x4_1 < (l0.length : Int)
   ·rw [if_pos c2] at H
    have c2b0 : decide (x4_1 < (l0.length : Int)) = true := decide_eq_true c2
    clear c2
    by_cases c3 : 0 ≤ x4_1
    ·rw [if_pos c3] at H
     have c3b0 : decide (0 ≤ x4_1) = true := decide_eq_true c3
     clear c3
     have HC4 := Aside0.mk H
     clear H
     have p191 : 0 ≤ (x4_1 : Int) := of_decide_eq_true (by first | (with_reducible assumption) | assumption)
     have q191 : x4_1 < (l0.length : Int) := of_decide_eq_true (by first | (with_reducible assumption) | assumption)
     obtain ⟨ad191, e191, hx191_0⟩ := Kd.at_int HR0.out x4_1 p191 q191
     cases e191
     try replace hx191_0 := (HB.out.cell (World.block_lt_of_cell? w _ hx191_0)).trans hx191_0
     replace p191 := eq_true p191
     replace q191 := eq_true q191
     go_upto_region 6 with (fail)
     go_cut [33] (fun v33 wc => ∃ (kq : Nat) (x33_3 : Bool), v33 = .bool x33_3 ∧ Aside0 (forebearref04_Runs.j1 kq l0 x3_1 x4_1 (rd l0 x4_1) x33_3 = some r) ∧ Aside0 (kq ≤ k1) ∧ Aside0 (Kd.R k49 49 wc w.heap.size (fun _ => True) u3 x3_1) ∧ Aside0 (Below w.heap.size w wc))
     case first =>
      have H := HC4.out
      clear HC4
      by_cases c5 : (rd l0 x4_1) > (-9223372036854775808)
      ·rw [if_pos c5] at H
       have c5b0 : decide ((-9223372036854775808) < (rd l0 x4_1)) = true := decide_eq_true c5
       clear c5
       (first | rw [c5b0] | (simp only [i64_w, i32_w]; rw [c5b0]) | skip)
       replace H := Option.bind_eq_some_iff.mp H
       obtain ⟨t192, A60, H⟩ := H
       replace H : (if t192 = true then (forebearref04_Runs.j1 k1 l0 x3_1 x4_1 (rd l0 x4_1) true) else (if x4_1 ≤ (l0.length : Int) then ((forebearref04_has.f k1 (l0.take (x4_1 : Int).toNat) (rd l0 x4_1)).bind fun t194 => (forebearref04_Runs.j1 k1 l0 x3_1 x4_1 (rd l0 x4_1) t194)) else (none))) = some r := H
       have A6 := Aside0.mk A60
       clear A60
       by_cases c7 : t192 = true
       ·subst c7
        have H1 : (forebearref04_Runs.j1 k1 l0 x3_1 x4_1 (rd l0 x4_1) true) = some r := by rw [if_pos rfl] at H; exact H
        clear H
        have H := H1
        clear H1
        have H' := Aside0.mk H
        clear H
        go_wp2_with (first | (go_at_call 49; (with_reducible refine (forebearref04_has.calls k1 _ _ l0 (wrap64 ((rd l0 x4_1) - 1)) true _ ?side1 ?side2 A6.out).mono ?_); (case side1 => repeat (first | exact (Kd.C_below HR0.out HB.out) | (with_reducible refine Kd.C_alloc ?_ _) | (with_reducible refine Kd.C_drewN ?_ _) | (with_reducible refine Kd.C_drew ?_))); (case side2 => exact HC0.out); rintro e w' ⟨rfl, ⟨nd, rfl⟩⟩))
        go_meet
        case rel => exact ⟨_, (true), (by first | rfl | (simp; done) | (simp [*]; done)), H', ⟨by have := HK1.out; first | omega | exact Nat.le_refl _⟩, ⟨by (with_reducible repeat (first | apply Kd.R_alloc | apply Kd.R_drewN | apply Kd.R_drew)); exact HO_3.out⟩, ⟨by repeat (first | (with_reducible first | exact HB.out | apply below_alloc | apply pw_below_drewN | apply below_drew1) | exact HB.out)⟩⟩
       ·replace c7 := Bool.eq_false_iff.mpr c7
        subst c7
        have H1 : (if x4_1 ≤ (l0.length : Int) then ((forebearref04_has.f k1 (l0.take (x4_1 : Int).toNat) (rd l0 x4_1)).bind fun t194 => (forebearref04_Runs.j1 k1 l0 x3_1 x4_1 (rd l0 x4_1) t194)) else (none)) = some r := by rw [if_neg (show ¬ (false = true) by decide)] at H; exact H
        clear H
        have H := H1
        clear H1
        have c8b0 := eq_true (of_decide_eq_true (by first | (with_reducible assumption) | assumption) : 0 ≤ x4_1)
        by_cases c9 : x4_1 ≤ (l0.length : Int)
        ·rw [if_pos c9] at H
         have c9b0 := eq_true c9
         have c9b1 : decide (x4_1 ≤ (l0.length : Int)) = true := decide_eq_true c9
         clear c9
         replace H := Option.bind_eq_some_iff.mp H
         obtain ⟨t194, A100, H⟩ := H
         replace H : (forebearref04_Runs.j1 k1 l0 x3_1 x4_1 (rd l0 x4_1) t194) = some r := H
         have A10 := Aside0.mk A100
         clear A100
         have H' := Aside0.mk H
         clear H
         go_wp2_with (first | (go_at_call 49; (with_reducible refine (forebearref04_has.calls k1 _ _ l0 (wrap64 ((rd l0 x4_1) - 1)) false _ ?side1 ?side2 A6.out).mono ?_); (case side1 => repeat (first | exact (Kd.C_below HR0.out HB.out) | (with_reducible refine Kd.C_alloc ?_ _) | (with_reducible refine Kd.C_drewN ?_ _) | (with_reducible refine Kd.C_drew ?_))); (case side2 => exact HC0.out); rintro e w' ⟨rfl, ⟨nd, rfl⟩⟩; obtain ⟨i011, hi011, _, hsz11, _⟩ := info_parts info3; obtain ⟨hcut11, hA11, hC11⟩ := print_take_of (P := Try.prog) (Value.int .i64) 0 40 3 .i64 Try.underlying40 hi011 hsz11 (some ad191) c0 l0 x4_1 (of_decide_eq_true (by first | (with_reducible assumption) | assumption)) (of_decide_eq_true (by first | (with_reducible assumption) | assumption)) HC0.out; have HR193 := Aside0.mk (Kd.C_of_reads (h1 := fun _ => rfl) (hA11 _ (Kd.reads_of_C HR0.out))); have HC193 := Aside0.mk hC11; clear hA11 hC11 hi011 hsz11) | (go_at_call 49; (with_reducible refine (forebearref04_has_n k1 _ _ (l0.take (x4_1 : Int).toNat) (rd l0 x4_1) _ t194 _ ?side0 ?side1 ?side2 A10.out).mono ?_); (case side0 => first | rfl | (have h_ : x4_1 ≤ (l0.length : Int) := of_decide_eq_true (by first | (with_reducible assumption) | assumption); rw [List.length_take]; omega)); (case side1 => repeat (first | exact (Kd.C_below HR193.out (by repeat (first | (with_reducible first | exact HB.out | apply below_alloc | apply pw_below_drewN | apply below_drew1) | exact HB.out))) | (with_reducible refine Kd.C_alloc ?_ _) | (with_reducible refine Kd.C_drewN ?_ _) | (with_reducible refine Kd.C_drew ?_))); (case side2 => exact HC193.out); rintro e w' ⟨rfl, ⟨nd, rfl⟩⟩))
         go_meet
         case rel => exact ⟨_, (t194), (by first | rfl | (simp; done) | (simp [*]; done)), H', ⟨by have := HK1.out; first | omega | exact Nat.le_refl _⟩, ⟨by (with_reducible repeat (first | apply Kd.R_alloc | apply Kd.R_drewN | apply Kd.R_drew)); exact HO_3.out⟩, ⟨by repeat (first | (with_reducible first | exact HB.out | apply below_alloc | apply pw_below_drewN | apply below_drew1) | exact HB.out)⟩⟩
        ·rw [if_neg c9] at H
         exact absurd H (by simp)
      ·rw [if_neg c5] at H
       have c5b0 : decide ((-9223372036854775808) < (rd l0 x4_1)) = false := decide_eq_false c5
       clear c5
       (first | rw [c5b0] | (simp only [i64_w, i32_w]; rw [c5b0]) | skip)
       have c12b0 := eq_true (of_decide_eq_true (by first | (with_reducible assumption) | assumption) : 0 ≤ x4_1)
       by_cases c13 : x4_1 ≤ (l0.length : Int)
       ·rw [if_pos c13] at H
        have c13b0 := eq_true c13
        have c13b1 : decide (x4_1 ≤ (l0.length : Int)) = true := decide_eq_true c13
        clear c13
        replace H := Option.bind_eq_some_iff.mp H
        obtain ⟨t196, A140, H⟩ := H
        replace H : (forebearref04_Runs.j1 k1 l0 x3_1 x4_1 (rd l0 x4_1) t196) = some r := H
        have A14 := Aside0.mk A140
        clear A140
        have H' := Aside0.mk H
        clear H
        obtain ⟨i015, hi015, _, hsz15, _⟩ := info_parts info3
        obtain ⟨hcut15, hA15, hC15⟩ := print_take_of (P := Try.prog) (Value.int .i64) 0 40 3 .i64 Try.underlying40 hi015 hsz15 (some ad191) c0 l0 x4_1 (of_decide_eq_true (by first | (with_reducible assumption) | assumption)) (of_decide_eq_true (by first | (with_reducible assumption) | assumption)) HC0.out
        have HR195 := Aside0.mk (Kd.C_of_reads (h1 := fun _ => rfl) (hA15 _ (Kd.reads_of_C HR0.out)))
        have HC195 := Aside0.mk hC15
        clear hA15 hC15 hi015 hsz15
        go_wp2_with (first | (go_at_call 49; (with_reducible refine (forebearref04_has_n k1 _ _ (l0.take (x4_1 : Int).toNat) (rd l0 x4_1) _ t196 _ ?side0 ?side1 ?side2 A14.out).mono ?_); (case side0 => first | rfl | (have h_ : x4_1 ≤ (l0.length : Int) := of_decide_eq_true (by first | (with_reducible assumption) | assumption); rw [List.length_take]; omega)); (case side1 => repeat (first | exact (Kd.C_below HR195.out HB.out) | (with_reducible refine Kd.C_alloc ?_ _) | (with_reducible refine Kd.C_drewN ?_ _) | (with_reducible refine Kd.C_drew ?_))); (case side2 => exact HC195.out); rintro e w' ⟨rfl, ⟨nd, rfl⟩⟩))
        go_meet
        case rel => exact ⟨_, (t196), (by first | rfl | (simp; done) | (simp [*]; done)), H', ⟨by have := HK1.out; first | omega | exact Nat.le_refl _⟩, ⟨by (with_reducible repeat (first | apply Kd.R_alloc | apply Kd.R_drewN | apply Kd.R_drew)); exact HO_3.out⟩, ⟨by repeat (first | (with_reducible first | exact HB.out | apply below_alloc | apply pw_below_drewN | apply below_drew1) | exact HB.out)⟩⟩
       ·rw [if_neg c13] at H
        exact absurd H (by simp)
     case rest =>
      clear HC4
      try clear c1
      try clear p1
      try clear q1
      try clear hx1
      try clear c2
      try clear c2b0
      try clear p2
      try clear c3
      try clear c3b0
      try clear c5
      try clear c5b0
      try clear p6
      try clear c7
      try clear c8
      try clear c8b0
      try clear c9
      try clear c9b0
      try clear c9b1
      try clear c12
      try clear c12b0
      try clear c13
      try clear c13b0
      try clear c13b1
      try clear hx191_0
      try clear p191
      try clear q191
      obtain ⟨kq, x33_3, rfl, HA, HJ3, HO_3, HB⟩ := hcut
      cases kq with
      | zero => exact absurd HA.out (by simp [forebearref04_Runs.j1])
      | succ kj3 =>
       have H := HA.out
       clear HA
       simp only [forebearref04_Runs.j1] at H
       by_cases c16 : x33_3 = true
       ·subst c16
        have H1 : (forebearref04_Runs.l0 kj3 l0 x3_1 (wrap64 (x4_1 + 1))) = some r := by rw [if_pos rfl] at H; exact H
        clear H
        have H := H1
        clear H1
        have H' := Aside0.mk H
        clear H
        go_wp2
        go_roundg kj3
        case measure => have := HK1.out; have := HJ3.out; omega
        case rel => exact ⟨(x3_1), (wrap64 (x4_1 + 1)), (by first | rfl | (simp; done) | (simp [*]; done)), H', ⟨by have := HK1.out; have := HJ3.out; omega⟩, ⟨by (with_reducible repeat (first | apply Kd.R_alloc | apply Kd.R_drewN | apply Kd.R_drew)); exact HO_3.out⟩, ⟨by repeat (first | (with_reducible first | exact HB.out | apply below_alloc | apply pw_below_drewN | apply below_drew1) | exact HB.out)⟩⟩
       ·replace c16 := Bool.eq_false_iff.mpr c16
        subst c16
        have H1 : (forebearref04_Runs.l1 kj3 l0 x3_1 x4_1 (rd l0 x4_1) (rd l0 x4_1) (rd l0 x4_1)) = some r := by rw [if_neg (show ¬ (false = true) by decide)] at H; exact H
        clear H
        have H := H1
        clear H1
        have HC17 := Aside0.mk H
        clear H
        go_upto_block 2 with (first | ((with_reducible refine gate_dst (N := 6) rfl ?_); refine box_event ?hg (N := 6) ?hd (cs := #[.int .i64 0, .int .i64 0]) (t := 49) ?hr ?_; (case hd => rfl); (case hg => rfl); (case hr => first | (go_simp; done) | (go_simp; rfl)); intro gb197 hg w18 hbox hb; have n0_ := Aside0.mk (Kd.R_below (Kd.R_elderB (by (with_reducible repeat (first | apply Kd.R_alloc | apply Kd.R_drewN | apply Kd.R_drew)); exact HO_3.out) gb197 (Nat.le_of_eq hg.symm)) hb); have n1_ := Aside0.mk (below_step (by repeat (first | (with_reducible first | exact HB.out | apply below_alloc | apply pw_below_drewN | apply below_drew1) | exact HB.out)) hb); have n2_ := Aside0.mk (hbox); have n3_ := Aside0.mk ((by rw [hg]; exact (below_size (by repeat (first | (with_reducible first | exact HB.out | apply below_alloc | apply pw_below_drewN | apply below_drew1) | exact HB.out))) : w.heap.size ≤ gb197)); have n4_ := Aside0.mk ((by rw [hg]; exact (below_size (by repeat (first | (with_reducible first | exact HB.out | apply below_alloc | apply pw_below_drewN | apply below_drew1) | exact HB.out))) : w.heap.size ≤ gb197)); clear HO_3; clear HB; have HO_3 := n0_; have HB := n1_; have BK197 := n2_; have GW197 := n3_; have GE197 := n4_; clear n0_ n1_ n2_ n3_ n4_; clear hb hbox hg; have hcz19_0 : w18.cell? ⟨gb197, 0, none⟩ = some (.int .i64 0) := (blk_cell BK197.out 0).trans rfl; have hcz19_1 : w18.cell? ⟨gb197, 1, none⟩ = some (.int .i64 0) := (blk_cell BK197.out 1).trans rfl; have hfz19_0 := blk_frozen BK197.out 0; have hfz19_1 := blk_frozen BK197.out 1))
        (try simp only [Act.put, List.setIfInBounds_toArray, List.set_cons_zero, List.set_cons_succ])
        go_cut [] (fun wc => ∃ (kq : Nat) (x198001_16 : Int), Aside0 (forebearref04_Runs.j3 kq l0 x3_1 x4_1 (rd l0 x4_1) (rd l0 x4_1) x198001_16 = some r) ∧ Aside0 (kq ≤ kj3) ∧ Aside0 (Kd.R k49 49 wc w.heap.size (fun k_ => k_ ≠ gb197) u3 x3_1) ∧ Aside0 (wc.heap[gb197]? = some (.cells #[.int .i64 (rd l0 x4_1), .int .i64 x198001_16] 49 (0, 0))) ∧ Aside0 (Below w.heap.size w wc))
        case first =>
         have H := HC17.out
         clear HC17
         have H' := Aside0.mk H
         clear H
         go_wp2
         go_loopg [] kj3 (fun kq w' => ∃ (x198001_3 : Int), Aside0 (forebearref04_Runs.l1 kq l0 x3_1 x4_1 (rd l0 x4_1) (rd l0 x4_1) x198001_3 = some r) ∧ Aside0 (kq ≤ kj3) ∧ Aside0 (Kd.R k49 49 w' w.heap.size (fun k_ => k_ ≠ gb197) u3 x3_1) ∧ Aside0 (w'.heap[gb197]? = some (.cells #[.int .i64 (rd l0 x4_1), .int .i64 x198001_3] 49 (0, 0))) ∧ Aside0 (Below w.heap.size w w'))
         case atStart => exact ⟨((rd l0 x4_1)), H', ⟨Nat.le_refl _⟩, ⟨by (with_reducible repeat (first | apply Kd.R_alloc | apply Kd.R_drewN | apply Kd.R_drew)); exact Kd.R_mono (Kd.R_far (p := ⟨gb197, 1, none⟩) (Kd.R_far (p := ⟨gb197, 0, none⟩) (Kd.R_mono HO_3.out (fun k_ hk => (⟨hk, hk.2⟩ : _ ∧ k_ ≠ gb197))) (fun _ hk => hk.2) (.int .i64 (rd l0 x4_1))) (fun _ hk => hk.2) (.int .i64 (rd l0 x4_1))) (fun _ hk => hk.1.2)⟩, ⟨by (with_reducible repeat (first | refine blk_drewN ?_ _ | refine blk_drew ?_ | refine blk_alloc ?_ _)); refine blk_put (cs := #[.int .i64 (rd l0 x4_1), .int .i64 0]) ?_ 1 _ rfl; (with_reducible repeat (first | refine blk_drewN ?_ _ | refine blk_drew ?_ | refine blk_alloc ?_ _)); refine blk_put (cs := #[.int .i64 0, .int .i64 0]) ?_ 0 _ rfl; (with_reducible repeat (first | refine blk_drewN ?_ _ | refine blk_drew ?_ | refine blk_alloc ?_ _)); exact BK197.out⟩, ⟨by repeat (first | (with_reducible first | exact HB.out | apply below_alloc | apply pw_below_drewN | apply below_drew1 | refine below_set ?_ GE197.out) | exact HB.out)⟩⟩
         case round =>
          clear H'
          try clear c1
          try clear p1
          try clear q1
          try clear hx1
          try clear c2
          try clear c2b0
          try clear p2
          try clear c3
          try clear c3b0
          try clear c5
          try clear c5b0
          try clear p6
          try clear c7
          try clear c8
          try clear c8b0
          try clear c9
          try clear c9b0
          try clear c9b1
          try clear c12
          try clear c12b0
          try clear c13
          try clear c13b0
          try clear c13b1
          try clear c16
          try clear p19
          try clear q19
          try clear hx19
          try clear hcz19_0
          try clear hcz19_1
          try clear hfz19_0
          try clear hfz19_1
          try clear hx191_0
          try clear p1
          try clear p191
          try clear p2
          try clear p6
          try clear q1
          try clear q191
          obtain ⟨x198001_3, HA, HK3, HO_3, BK197, HB⟩ := hrel
          cases gk with
          | zero => exact absurd HA.out (by simp [forebearref04_Runs.l1])
          | succ k3 =>
           have H := HA.out
           clear HA
           simp only [forebearref04_Runs.l1] at H
           by_cases c20 : x198001_3 < 9223372036854775807
           ·rw [if_pos c20] at H
            have c20b0 : decide (x198001_3 < 9223372036854775807) = true := decide_eq_true c20
            clear c20
            (first | rw [c20b0] | (simp only [i64_w, i32_w]; rw [c20b0]) | skip)
            replace H := Option.bind_eq_some_iff.mp H
            obtain ⟨t198, A210, H⟩ := H
            replace H : (if t198 = true then (forebearref04_Runs.l1 k3 l0 x3_1 x4_1 (rd l0 x4_1) (rd l0 x4_1) (wrap64 (x198001_3 + 1))) else (forebearref04_Runs.j3 k3 l0 x3_1 x4_1 (rd l0 x4_1) (rd l0 x4_1) x198001_3)) = some r := H
            have A21 := Aside0.mk A210
            clear A210
            by_cases c22 : t198 = true
            ·subst c22
             have H1 : (forebearref04_Runs.l1 k3 l0 x3_1 x4_1 (rd l0 x4_1) (rd l0 x4_1) (wrap64 (x198001_3 + 1))) = some r := by rw [if_pos rfl] at H; exact H
             clear H
             have H := H1
             clear H1
             have H' := Aside0.mk H
             clear H
             have hcz23_0 : wr.cell? ⟨gb197, 0, none⟩ = some (.int .i64 (rd l0 x4_1)) := (blk_cell BK197.out 0).trans rfl
             have hcz23_1 : wr.cell? ⟨gb197, 1, none⟩ = some (.int .i64 x198001_3) := (blk_cell BK197.out 1).trans rfl
             have hfz23_0 := blk_frozen BK197.out 0
             have hfz23_1 := blk_frozen BK197.out 1
             go_wp2_with (first | (go_at_call 49; (with_reducible refine (forebearref04_has.calls k3 _ _ l0 (wrap64 (x198001_3 + 1)) true _ ?side1 ?side2 A21.out).mono ?_); (case side1 => repeat (first | exact (Kd.C_below HR0.out HB.out) | (with_reducible refine Kd.C_alloc ?_ _) | (with_reducible refine Kd.C_drewN ?_ _) | (with_reducible refine Kd.C_drew ?_))); (case side2 => exact HC0.out); rintro e w' ⟨rfl, ⟨nd, rfl⟩⟩; (try (rw [drewN_self wr]; generalize hq_ : World.drewN wr _ = wr; have n0_ : Aside0 (Kd.R k49 49 wr w.heap.size (fun k_ => k_ ≠ gb197) u3 x3_1) := ⟨by rw [← hq_]; exact (by (with_reducible repeat (first | apply Kd.R_alloc | apply Kd.R_drewN | apply Kd.R_drew)); exact HO_3.out)⟩; have n1_ : Aside0 (wr.heap[gb197]? = some (.cells #[.int .i64 (rd l0 x4_1), .int .i64 x198001_3] 49 (0, 0))) := ⟨by rw [← hq_]; exact (by (with_reducible repeat (first | refine blk_drewN ?_ _ | refine blk_drew ?_ | refine blk_alloc ?_ _)); exact BK197.out)⟩; have n2_ : Aside0 (Below w.heap.size w wr) := ⟨by rw [← hq_]; exact (by repeat (first | (with_reducible first | exact HB.out | apply below_alloc | apply pw_below_drewN | apply below_drew1 | refine below_set ?_ GE197.out) | exact HB.out))⟩; clear HO_3 BK197 HB hq_; have HO_3 := n0_; have BK197 := n1_; have HB := n2_; clear n0_ n1_ n2_; have hcy0_ : wr.cell? ⟨gb197, 0, none⟩ = some (.int .i64 (rd l0 x4_1)) := (blk_cell BK197.out 0).trans rfl; have hfy0_ := blk_frozen BK197.out 0; have hcy1_ : wr.cell? ⟨gb197, 1, none⟩ = some (.int .i64 x198001_3) := (blk_cell BK197.out 1).trans rfl; have hfy1_ := blk_frozen BK197.out 1))))
             go_roundg k3
             case measure => have := HK1.out; have := HJ3.out; have := HK3.out; omega
             case rel => exact ⟨(wrap64 (x198001_3 + 1)), H', ⟨by have := HK1.out; have := HJ3.out; have := HK3.out; omega⟩, ⟨by (with_reducible repeat (first | apply Kd.R_alloc | apply Kd.R_drewN | apply Kd.R_drew)); exact Kd.R_mono (Kd.R_far (p := ⟨gb197, 1, none⟩) (Kd.R_mono HO_3.out (fun k_ hk => (⟨hk, hk⟩ : _ ∧ k_ ≠ gb197))) (fun _ hk => hk.2) (.int .i64 (wrap64 (x198001_3 + 1)))) (fun _ hk => hk.1)⟩, ⟨by (with_reducible repeat (first | refine blk_drewN ?_ _ | refine blk_drew ?_ | refine blk_alloc ?_ _)); refine blk_put (cs := #[.int .i64 (rd l0 x4_1), .int .i64 x198001_3]) ?_ 1 _ rfl; (with_reducible repeat (first | refine blk_drewN ?_ _ | refine blk_drew ?_ | refine blk_alloc ?_ _)); exact BK197.out⟩, ⟨by repeat (first | (with_reducible first | exact HB.out | apply below_alloc | apply pw_below_drewN | apply below_drew1 | refine below_set ?_ GE197.out) | exact HB.out)⟩⟩
            ·replace c22 := Bool.eq_false_iff.mpr c22
             subst c22
             have H1 : (forebearref04_Runs.j3 k3 l0 x3_1 x4_1 (rd l0 x4_1) (rd l0 x4_1) x198001_3) = some r := by rw [if_neg (show ¬ (false = true) by decide)] at H; exact H
             clear H
             have H := H1
             clear H1
             have H' := Aside0.mk H
             clear H
             have hcz24_0 : wr.cell? ⟨gb197, 0, none⟩ = some (.int .i64 (rd l0 x4_1)) := (blk_cell BK197.out 0).trans rfl
             have hcz24_1 : wr.cell? ⟨gb197, 1, none⟩ = some (.int .i64 x198001_3) := (blk_cell BK197.out 1).trans rfl
             have hfz24_0 := blk_frozen BK197.out 0
             have hfz24_1 := blk_frozen BK197.out 1
             go_wp2_with (first | (go_at_call 49; (with_reducible refine (forebearref04_has.calls k3 _ _ l0 (wrap64 (x198001_3 + 1)) false _ ?side1 ?side2 A21.out).mono ?_); (case side1 => repeat (first | exact (Kd.C_below HR0.out HB.out) | (with_reducible refine Kd.C_alloc ?_ _) | (with_reducible refine Kd.C_drewN ?_ _) | (with_reducible refine Kd.C_drew ?_))); (case side2 => exact HC0.out); rintro e w' ⟨rfl, ⟨nd, rfl⟩⟩))
             go_meet
             case rel => exact ⟨_, (x198001_3), H', ⟨by have := HK1.out; have := HJ3.out; have := HK3.out; first | omega | exact Nat.le_refl _⟩, ⟨by (with_reducible repeat (first | apply Kd.R_alloc | apply Kd.R_drewN | apply Kd.R_drew)); exact HO_3.out⟩, ⟨by (with_reducible repeat (first | refine blk_drewN ?_ _ | refine blk_drew ?_ | refine blk_alloc ?_ _)); exact BK197.out⟩, ⟨by repeat (first | (with_reducible first | exact HB.out | apply below_alloc | apply pw_below_drewN | apply below_drew1 | refine below_set ?_ GE197.out) | exact HB.out)⟩⟩
           ·rw [if_neg c20] at H
            have c20b0 : decide (x198001_3 < 9223372036854775807) = false := decide_eq_false c20
            clear c20
            (first | rw [c20b0] | (simp only [i64_w, i32_w]; rw [c20b0]) | skip)
            have H' := Aside0.mk H
            clear H
            have hcz25_0 : wr.cell? ⟨gb197, 0, none⟩ = some (.int .i64 (rd l0 x4_1)) := (blk_cell BK197.out 0).trans rfl
            have hcz25_1 : wr.cell? ⟨gb197, 1, none⟩ = some (.int .i64 x198001_3) := (blk_cell BK197.out 1).trans rfl
            have hfz25_0 := blk_frozen BK197.out 0
            have hfz25_1 := blk_frozen BK197.out 1
            go_wp2
            go_meet
            case rel => exact ⟨_, (x198001_3), H', ⟨by have := HK1.out; have := HJ3.out; have := HK3.out; first | omega | exact Nat.le_refl _⟩, ⟨by (with_reducible repeat (first | apply Kd.R_alloc | apply Kd.R_drewN | apply Kd.R_drew)); exact HO_3.out⟩, ⟨by (with_reducible repeat (first | refine blk_drewN ?_ _ | refine blk_drew ?_ | refine blk_alloc ?_ _)); exact BK197.out⟩, ⟨by repeat (first | (with_reducible first | exact HB.out | apply below_alloc | apply pw_below_drewN | apply below_drew1 | refine below_set ?_ GE197.out) | exact HB.out)⟩⟩
        case rest =>
         clear HC17
         try clear c1
         try clear p1
         try clear q1
         try clear hx1
         try clear c2
         try clear c2b0
         try clear p2
         try clear c3
         try clear c3b0
         try clear c5
         try clear c5b0
         try clear p6
         try clear c7
         try clear c8
         try clear c8b0
         try clear c9
         try clear c9b0
         try clear c9b1
         try clear c12
         try clear c12b0
         try clear c13
         try clear c13b0
         try clear c13b1
         try clear c16
         try clear p19
         try clear q19
         try clear hx19
         try clear c20
         try clear c20b0
         try clear c22
         try clear hcz19_0
         try clear hcz19_1
         try clear hcz23_0
         try clear hcz23_1
         try clear hcz24_0
         try clear hcz24_1
         try clear hcz25_0
         try clear hcz25_1
         try clear hfz19_0
         try clear hfz19_1
         try clear hfz23_0
         try clear hfz23_1
         try clear hfz24_0
         try clear hfz24_1
         try clear hfz25_0
         try clear hfz25_1
         try clear hx191_0
         try clear p1
         try clear p19
         try clear p191
         try clear p2
         try clear p6
         try clear q1
         try clear q19
         try clear q191
         obtain ⟨kq, x198001_16, HA, HJ16, HO_3, BK197, HB⟩ := hcut
         cases kq with
         | zero => exact absurd HA.out (by simp [forebearref04_Runs.j3])
         | succ kj16 =>
          have H := HA.out
          clear HA
          simp only [forebearref04_Runs.j3] at H
          have H' := Aside0.mk H
          clear H
          obtain ⟨Ao26, co26, eo26⟩ := Kd.R_slice HO_3.out
          subst eo26
          go_wp2
          go_loopg [7] kj16 (fun kq v7 w' => ∃ (x7_4 : Int), v7 = .int .i64 x7_4 ∧ Aside0 (forebearref04_Runs.l2 kq l0 x3_1 x4_1 (rd l0 x4_1) x7_4 (rd l0 x4_1) x198001_16 = some r) ∧ Aside0 (kq ≤ kj16) ∧ Aside0 (Kd.R k49 49 w' w.heap.size (fun k_ => k_ ≠ gb197) (.slice Ao26 x3_1.length co26) x3_1) ∧ Aside0 (w'.heap[gb197]? = some (.cells #[.int .i64 (rd l0 x4_1), .int .i64 x198001_16] 49 (0, 0))) ∧ Aside0 (Below w.heap.size w w'))
          case atStart => exact ⟨((x3_1.length : Int)), (by first | rfl | (simp; done) | (simp [*]; done)), H', ⟨Nat.le_refl _⟩, ⟨by (with_reducible repeat (first | apply Kd.R_alloc | apply Kd.R_drewN | apply Kd.R_drew)); exact HO_3.out⟩, ⟨by (with_reducible repeat (first | refine blk_drewN ?_ _ | refine blk_drew ?_ | refine blk_alloc ?_ _)); exact BK197.out⟩, ⟨by repeat (first | (with_reducible first | exact HB.out | apply below_alloc | apply pw_below_drewN | apply below_drew1 | refine below_set ?_ GE197.out) | exact HB.out)⟩⟩
          case round =>
           clear H'
           try clear c1
           try clear p1
           try clear q1
           try clear hx1
           try clear c2
           try clear c2b0
           try clear p2
           try clear c3
           try clear c3b0
           try clear c5
           try clear c5b0
           try clear p6
           try clear c7
           try clear c8
           try clear c8b0
           try clear c9
           try clear c9b0
           try clear c9b1
           try clear c12
           try clear c12b0
           try clear c13
           try clear c13b0
           try clear c13b1
           try clear c16
           try clear p19
           try clear q19
           try clear hx19
           try clear c20
           try clear c20b0
           try clear c22
           try clear hcz19_0
           try clear hcz19_1
           try clear hcz23_0
           try clear hcz23_1
           try clear hcz24_0
           try clear hcz24_1
           try clear hcz25_0
           try clear hcz25_1
           try clear hfz19_0
           try clear hfz19_1
           try clear hfz23_0
           try clear hfz23_1
           try clear hfz24_0
           try clear hfz24_1
           try clear hfz25_0
           try clear hfz25_1
           try clear hx191_0
           try clear p1
           try clear p19
           try clear p191
           try clear p2
           try clear p6
           try clear q1
           try clear q19
           try clear q191
           obtain ⟨x7_4, rfl, HA, HK4, HO_3, BK197, HB⟩ := hrel
           cases gk with
           | zero => exact absurd HA.out (by simp [forebearref04_Runs.l2])
           | succ k4 =>
            have H := HA.out
            clear HA
            simp only [forebearref04_Runs.l2] at H
            by_cases c27 : x7_4 > 0
            ·rw [if_pos c27] at H
             have c27b0 : decide (0 < x7_4) = true := decide_eq_true c27
             clear c27
             obtain ⟨ji28, hji28⟩ : ∃ j_ : Int, (wrap64 (x7_4 - 1)) = j_ := ⟨_, rfl⟩
             replace H : (if 0 ≤ (ji28) then (if (ji28) < (x3_1.length : Int) then (if ((rd_T49 x3_1 (ji28)).f0) > (rd l0 x4_1) then (forebearref04_Runs.l2 k4 l0 x3_1 x4_1 (rd l0 x4_1) ji28 (rd l0 x4_1) x198001_16) else ((some (([] : List (S49)) : List (S49))).bind fun y200 => (if 0 ≤ x7_4 then (if x7_4 ≤ (x3_1.length : Int) then ((some (x3_1.take (x7_4 : Int).toNat : List (S49))).bind fun y203 => (if y200.length + y203.length < 8796093022208 then ((some (y200 ++ y203 : List (S49))).bind fun y207 => (if y207.length < 8796093022208 then ((some (y207 ++ [(⟨(rd l0 x4_1), x198001_16⟩ : S49)] : List (S49))).bind fun y210 => ((some (x3_1.drop (x7_4 : Int).toNat : List (S49))).bind fun y213 => (if y210.length + y213.length < 8796093022208 then (forebearref04_Runs.l0 k4 l0 (y210 ++ y213) (wrap64 (x4_1 + 1))) else (none)))) else (none))) else (none))) else (none)) else (none)))) else (none)) else (none)) = some r := by first | (rw [hji28] at H; exact H) | (simp only [hji28] at H ⊢; exact H)
             have hji28w : (IntKind.i64.wrap (x7_4 - 1)) = ji28 := (i64_w _).trans hji28
             by_cases c29 : 0 ≤ (ji28)
             ·rw [if_pos c29] at H
              have c29b0 : decide (0 ≤ (ji28)) = true := decide_eq_true c29
              clear c29
              by_cases c30 : (ji28) < (x3_1.length : Int)
              ·rw [if_pos c30] at H
               have c30b0 : decide ((ji28) < (x3_1.length : Int)) = true := decide_eq_true c30
               clear c30
               by_cases c31 : ((rd_T49 x3_1 (ji28)).f0) > (rd l0 x4_1)
               ·rw [if_pos c31] at H
                have c31b0 : decide ((rd l0 x4_1) < ((rd_T49 x3_1 (ji28)).f0)) = true := decide_eq_true c31
                clear c31
                have H' := Aside0.mk H
                clear H
                have p199 : 0 ≤ ((ji28) : Int) := of_decide_eq_true (by first | (with_reducible assumption) | assumption)
                have q199 : (ji28) < (x3_1.length : Int) := of_decide_eq_true (by first | (with_reducible assumption) | assumption)
                obtain ⟨ad199, e199, hx199_0, hx199_1⟩ := at_T49 (Kd.R_reads' HO_3.out).2.2 (ji28) p199 q199
                cases e199
                replace p199 := eq_true p199
                replace q199 := eq_true q199
                go_wp2
                go_roundg k4
                case measure => have := HK1.out; have := HJ3.out; have := HJ16.out; have := HK4.out; omega
                case rel => exact ⟨(ji28), (by first | rfl | (simp; done) | (simp only [← hji28] <;> (first | rfl | simp)) | (simp [*]; done)), H', ⟨by have := HK1.out; have := HJ3.out; have := HJ16.out; have := HK4.out; omega⟩, ⟨by (with_reducible repeat (first | apply Kd.R_alloc | apply Kd.R_drewN | apply Kd.R_drew)); exact HO_3.out⟩, ⟨by (with_reducible repeat (first | refine blk_drewN ?_ _ | refine blk_drew ?_ | refine blk_alloc ?_ _)); exact BK197.out⟩, ⟨by repeat (first | (with_reducible first | exact HB.out | apply below_alloc | apply pw_below_drewN | apply below_drew1 | refine below_set ?_ GE197.out) | exact HB.out)⟩⟩
               ·rw [if_neg c31] at H
                have c31b0 : decide ((rd l0 x4_1) < ((rd_T49 x3_1 (ji28)).f0)) = false := decide_eq_false c31
                clear c31
                obtain ⟨y200, hy200⟩ : ∃ y_ : List (S49), y_ = (([] : List (S49))) := ⟨_, rfl⟩
                replace H : (if 0 ≤ x7_4 then (if x7_4 ≤ (x3_1.length : Int) then ((some (x3_1.take (x7_4 : Int).toNat : List (S49))).bind fun y203 => (if y200.length + y203.length < 8796093022208 then ((some (y200 ++ y203 : List (S49))).bind fun y207 => (if y207.length < 8796093022208 then ((some (y207 ++ [(⟨(rd l0 x4_1), x198001_16⟩ : S49)] : List (S49))).bind fun y210 => ((some (x3_1.drop (x7_4 : Int).toNat : List (S49))).bind fun y213 => (if y210.length + y213.length < 8796093022208 then (forebearref04_Runs.l0 k4 l0 (y210 ++ y213) (wrap64 (x4_1 + 1))) else (none)))) else (none))) else (none))) else (none)) else (none)) = some r := by first | (rw [hy200]; with_reducible exact H) | (have H2_ := (Option.bind_some _ _).symm.trans H; rw [hy200]; with_reducible exact H2_) | (have H2_ := (Option.bind_some _ _).symm.trans H; with_reducible exact H2_) | with_reducible exact H | (rw [hy200]; exact H) | exact H
                have Ny200 := Aside0.mk hy200
                clear hy200
                by_cases c32 : 0 ≤ x7_4
                ·rw [if_pos c32] at H
                 have c32b0 := eq_true c32
                 have c32b1 : decide (0 ≤ x7_4) = true := decide_eq_true c32
                 clear c32
                 by_cases c33 : x7_4 ≤ (x3_1.length : Int)
                 ·rw [if_pos c33] at H
                  have c33b0 := eq_true c33
                  have c33b1 : decide (x7_4 ≤ (x3_1.length : Int)) = true := decide_eq_true c33
                  clear c33
                  obtain ⟨y203, hy203⟩ : ∃ y_ : List (S49), y_ = (x3_1.take (x7_4 : Int).toNat) := ⟨_, rfl⟩
                  replace H : (if y200.length + y203.length < 8796093022208 then ((some (y200 ++ y203 : List (S49))).bind fun y207 => (if y207.length < 8796093022208 then ((some (y207 ++ [(⟨(rd l0 x4_1), x198001_16⟩ : S49)] : List (S49))).bind fun y210 => ((some (x3_1.drop (x7_4 : Int).toNat : List (S49))).bind fun y213 => (if y210.length + y213.length < 8796093022208 then (forebearref04_Runs.l0 k4 l0 (y210 ++ y213) (wrap64 (x4_1 + 1))) else (none)))) else (none))) else (none)) = some r := by first | (rw [hy203]; with_reducible exact H) | (have H2_ := (Option.bind_some _ _).symm.trans H; rw [hy203]; with_reducible exact H2_) | (have H2_ := (Option.bind_some _ _).symm.trans H; with_reducible exact H2_) | with_reducible exact H | (rw [hy203]; exact H) | exact H
                  have Ny203 := Aside0.mk hy203
                  clear hy203
                  by_cases c34 : y200.length + y203.length < 8796093022208
                  ·rw [if_pos c34] at H
                   have LMc34 := Aside0.mk c34
                   clear c34
                   obtain ⟨y207, hy207⟩ : ∃ y_ : List (S49), y_ = (y200 ++ y203) := ⟨_, rfl⟩
                   replace H : (if y207.length < 8796093022208 then ((some (y207 ++ [(⟨(rd l0 x4_1), x198001_16⟩ : S49)] : List (S49))).bind fun y210 => ((some (x3_1.drop (x7_4 : Int).toNat : List (S49))).bind fun y213 => (if y210.length + y213.length < 8796093022208 then (forebearref04_Runs.l0 k4 l0 (y210 ++ y213) (wrap64 (x4_1 + 1))) else (none)))) else (none)) = some r := by first | (rw [hy207]; with_reducible exact H) | (have H2_ := (Option.bind_some _ _).symm.trans H; rw [hy207]; with_reducible exact H2_) | (have H2_ := (Option.bind_some _ _).symm.trans H; with_reducible exact H2_) | with_reducible exact H | (rw [hy207]; exact H) | exact H
                   have Ny207 := Aside0.mk hy207
                   clear hy207
                   by_cases c35 : y207.length < 8796093022208
                   ·rw [if_pos c35] at H
                    have LMc35 := Aside0.mk c35
                    clear c35
                    obtain ⟨y210, hy210⟩ : ∃ y_ : List (S49), y_ = (y207 ++ [(⟨(rd l0 x4_1), x198001_16⟩ : S49)]) := ⟨_, rfl⟩
                    replace H : ((some (x3_1.drop (x7_4 : Int).toNat : List (S49))).bind fun y213 => (if y210.length + y213.length < 8796093022208 then (forebearref04_Runs.l0 k4 l0 (y210 ++ y213) (wrap64 (x4_1 + 1))) else (none))) = some r := by first | (rw [hy210]; with_reducible exact H) | (have H2_ := (Option.bind_some _ _).symm.trans H; rw [hy210]; with_reducible exact H2_) | (have H2_ := (Option.bind_some _ _).symm.trans H; with_reducible exact H2_) | with_reducible exact H | (rw [hy210]; exact H) | exact H
                    have Ny210 := Aside0.mk hy210
                    clear hy210
                    have c36b0 := eq_true (of_decide_eq_true (by first | (with_reducible assumption) | assumption) : 0 ≤ x7_4)
                    have c37b0 := eq_true (of_decide_eq_true (by first | (with_reducible assumption) | assumption) : x7_4 ≤ (x3_1.length : Int))
                    obtain ⟨y213, hy213⟩ : ∃ y_ : List (S49), y_ = (x3_1.drop (x7_4 : Int).toNat) := ⟨_, rfl⟩
                    replace H : (if y210.length + y213.length < 8796093022208 then (forebearref04_Runs.l0 k4 l0 (y210 ++ y213) (wrap64 (x4_1 + 1))) else (none)) = some r := by first | (rw [hy213]; with_reducible exact H) | (have H2_ := (Option.bind_some _ _).symm.trans H; rw [hy213]; with_reducible exact H2_) | (have H2_ := (Option.bind_some _ _).symm.trans H; with_reducible exact H2_) | with_reducible exact H | (rw [hy213]; exact H) | exact H
                    have Ny213 := Aside0.mk hy213
                    clear hy213
                    by_cases c38 : y210.length + y213.length < 8796093022208
                    ·rw [if_pos c38] at H
                     have LMc38 := Aside0.mk c38
                     clear c38
                     obtain ⟨y217, hy217⟩ : ∃ y_ : List (S49), y_ = (y210 ++ y213) := ⟨_, rfl⟩
                     replace H : (forebearref04_Runs.l0 k4 l0 y217 (wrap64 (x4_1 + 1))) = some r := by first | (rw [hy217]; with_reducible exact H) | (have H2_ := (Option.bind_some _ _).symm.trans H; rw [hy217]; with_reducible exact H2_) | (have H2_ := (Option.bind_some _ _).symm.trans H; with_reducible exact H2_) | with_reducible exact H | (rw [hy217]; exact H) | exact H
                     have Ny217 := Aside0.mk hy217
                     clear hy217
                     have H' := Aside0.mk H
                     clear H
                     have p199 : 0 ≤ ((ji28) : Int) := of_decide_eq_true (by first | (with_reducible assumption) | assumption)
                     have q199 : (ji28) < (x3_1.length : Int) := of_decide_eq_true (by first | (with_reducible assumption) | assumption)
                     obtain ⟨ad199, e199, hx199_0, hx199_1⟩ := at_T49 (Kd.R_reads' HO_3.out).2.2 (ji28) p199 q199
                     cases e199
                     replace p199 := eq_true p199
                     replace q199 := eq_true q199
                     go_wp2_with (first | ((with_reducible refine gate_dst (N := 67) rfl ?_); refine Kd.R_lit k49 _ 49 ?hg (N := 67) ?hd (xs := ([] : List (S49))) (inner := []) (ok := fun _ => True) (okp := fun _ => True) ?hr ?hp (fun _ hk => hk) trivial (Below.refl _ _) (Nat.le_refl _) (by simp) ?_; (case hd => rfl); (case hg => rfl); (case hr => first | (go_simp; done) | (go_simp; rfl)); (case hp => exact (Reps.none _ _)); intro v201 w39 ho40 hb hg_ hnew_; clear hg_ hnew_; (first | rw [← Ny200.out] at ho40 | (simp only [Int.reduceToNat] at ho40; rw [← Ny200.out] at ho40)); have n0_ := Aside0.mk (Kd.R_elder' (by (with_reducible repeat (first | apply Kd.R_alloc | apply Kd.R_drewN | apply Kd.R_drew)); exact HO_3.out) (Kd.R_base ho40) hb); have n1_ := Aside0.mk (Kd.R_lower (Kd.R_newB (Kd.R_new' ho40 (Kd.R_lt (by (with_reducible repeat (first | apply Kd.R_alloc | apply Kd.R_drewN | apply Kd.R_drew)); exact HO_3.out))) (g := gb197) (o := .cells #[.int .i64 (rd l0 x4_1), .int .i64 x198001_16] 49 (0, 0)) (by (with_reducible repeat (first | refine blk_drewN ?_ _ | refine blk_drew ?_ | refine blk_alloc ?_ _)); exact BK197.out)) (below_size (by repeat (first | (with_reducible first | exact HB.out | apply below_alloc | apply pw_below_drewN | apply below_drew1 | refine below_set ?_ GE197.out) | exact HB.out)))); have n2_ := Aside0.mk (blk_below (g := gb197) (o := .cells #[.int .i64 (rd l0 x4_1), .int .i64 x198001_16] 49 (0, 0)) (by (with_reducible repeat (first | refine blk_drewN ?_ _ | refine blk_drew ?_ | refine blk_alloc ?_ _)); exact BK197.out) hb); have n3_ := Aside0.mk (below_step (by repeat (first | (with_reducible first | exact HB.out | apply below_alloc | apply pw_below_drewN | apply below_drew1 | refine below_set ?_ GE197.out) | exact HB.out)) hb); clear HO_3; clear BK197; clear HB; have HO_3 := n0_; have HO202 := n1_; have BK197 := n2_; have HB := n3_; clear n0_ n1_ n2_ n3_; clear hb ho40; have q41 : (x7_4 : Int) ≤ ((x3_1.length : Int) : Int) := of_decide_eq_true (by first | (with_reducible assumption) | assumption); obtain ⟨i041, hi041, _, hsz41, _⟩ := info_parts info49; have hroom41 : x3_1.length ≤ co26 := (Kd.R_reads' HO_3.out).2.1; have hC41 : Kd.C k49 _ (some ad199) x3_1.length x3_1 := (Kd.R_reads' HO_3.out).2.2; have hcut41 := cut_to (P := Try.prog) 43 49 .i64 Try.underlying43 hi041 (some ad199) x3_1.length co26 x7_4 (of_decide_eq_true (by first | (with_reducible assumption) | assumption)) q41 hroom41; have hr41 := Kd.C_take (m := (x7_4 : Int).toNat) hC41 (by omega); have hy41 : y203.length = (x7_4 : Int).toNat := (by rw [Ny203.out, List.length_take]; omega); rw [← Ny203.out] at hr41; rw [← hy41] at hcut41; have HR206 := Aside0.mk hr41; have HC206 := Aside0.mk (show y203.length ≤ co26 from by omega); clear hr41 hC41 hroom41 hi041 hsz41; have KY41 := Aside0.mk hy41; clear hy41; have KL41 := Aside0.mk (show (x7_4 : Int).toNat ≤ x3_1.length from by omega); replace q41 := eq_true q41) | ((with_reducible refine gate_builtin (b := .append) (xs := #[.tmp 67, .tmp 70]) rfl ?_); at_builtin; refine Kd.R_append_rows k49 (w0 := w) w.heap.size rfl (.tmp 67) (.tmp 70) 43 49 (.agg #[(.int .i64 0), (.int .i64 0)]) 16 rfl Try.underlying43 info49 rfl (by decide) (by omega) v201 y200 y203 _ _ _ (fun k_ => some k_ ≠ (.slice (some ad199) x3_1.length co26 : Value).ownBlock ∧ k_ ≠ gb197) (fun _ => False) rfl rfl ?aO ?aR (fun _ _ h => h) (fun _ h => h.elim) ?aF ?aB ?aS ?aL ?_; (case aR => repeat (first | exact (by repeat (first | (with_reducible exact HR206.out) | (with_reducible refine Kd.C_alloc ?_ _) | (with_reducible refine Kd.C_drewN ?_ _) | (with_reducible refine Kd.C_drew ?_) | exact HR206.out)) | (with_reducible refine Kd.C_alloc ?_ _) | (with_reducible refine Kd.C_drewN ?_ _) | (with_reducible refine Kd.C_drew ?_))); (case aB => exact (by repeat (first | (with_reducible first | exact HB.out | apply below_alloc | apply pw_below_drewN | apply below_drew1 | refine below_set ?_ GE197.out) | exact HB.out))); (case aF => exact (fun k_ hk => ⟨Kd.fresh' (Kd.R_lt (by (with_reducible repeat (first | apply Kd.R_alloc | apply Kd.R_drewN | apply Kd.R_drew)); exact HO_3.out)) k_ hk, Kd.freshB (g := gb197) (o := .cells #[.int .i64 (rd l0 x4_1), .int .i64 x198001_16] 49 (0, 0)) (by (with_reducible repeat (first | refine blk_drewN ?_ _ | refine blk_drew ?_ | refine blk_alloc ?_ _)); exact BK197.out) k_ hk⟩)); (case aO => exact (by (with_reducible repeat (first | apply Kd.R_alloc | apply Kd.R_drewN | apply Kd.R_drew)); exact Kd.R_mono HO202.out (fun _ hk => ⟨hk.1.2, hk.2⟩))); (case aS => exact (below_size (by repeat (first | (with_reducible first | exact HB.out | apply below_alloc | apply pw_below_drewN | apply below_drew1 | refine below_set ?_ GE197.out) | exact HB.out)))); (case aL => have := LMc34.out; omega); intro v208 w42 ho hb hg hat; rw [← Ny207.out] at ho; have n0_ := Aside0.mk (Kd.R_after (ok := (fun k_ => k_ ≠ gb197)) (by (with_reducible repeat (first | apply Kd.R_alloc | apply Kd.R_drewN | apply Kd.R_drew)); exact HO_3.out) hg hat); have n1_ := Aside0.mk (blk_grown (g := gb197) (o := .cells #[.int .i64 (rd l0 x4_1), .int .i64 x198001_16] 49 (0, 0)) (by (with_reducible repeat (first | refine blk_drewN ?_ _ | refine blk_drew ?_ | refine blk_alloc ?_ _)); exact BK197.out) hg (Kd.R_away HO202.out (fun _ hk => hk.2))); have n2_ := Aside0.mk (hb); have n3_ := Aside0.mk ((show Kd.C k49 w42 (some ad199) y203.length y203 from by rw [Ny203.out]; exact Kd.C_take (m := (x7_4 : Int).toNat) ((Kd.R_reads' (Kd.R_after (ok := (fun k_ => k_ ≠ gb197)) (by (with_reducible repeat (first | apply Kd.R_alloc | apply Kd.R_drewN | apply Kd.R_drew)); exact HO_3.out) hg hat)).2.2) KL41.out)); have n4_ := Aside0.mk (ho); clear HO_3; clear BK197; clear HB; clear HR206; clear HO202; have HO_3 := n0_; have BK197 := n1_; have HB := n2_; have HR206 := n3_; have HO209 := n4_; clear n0_ n1_ n2_ n3_ n4_; clear ho hb hg hat; have hcz43_0 : w42.cell? ⟨gb197, 0, none⟩ = some (.int .i64 (rd l0 x4_1)) := (blk_cell BK197.out 0).trans rfl; have hcz43_1 : w42.cell? ⟨gb197, 1, none⟩ = some (.int .i64 x198001_16) := (blk_cell BK197.out 1).trans rfl; have hfz43_0 := blk_frozen BK197.out 0; have hfz43_1 := blk_frozen BK197.out 1) | ((with_reducible refine gate_builtin (b := .append) (xs := #[.tmp 72, .tmp 74]) rfl ?_); at_builtin; refine Kd.R_append k49 (w0 := w) w.heap.size rfl (.tmp 72) (.tmp 74) 43 49 (.agg #[(.int .i64 0), (.int .i64 0)]) 16 rfl Try.underlying43 info49 rfl (by decide) (by omega) v208 y207 (⟨(rd l0 x4_1), x198001_16⟩ : S49) [.int .i64 (rd l0 x4_1), .int .i64 x198001_16] (fun k_ => some k_ ≠ (.slice (some ad199) x3_1.length co26 : Value).ownBlock ∧ k_ ≠ gb197) (fun _ => False) rfl rfl ?aP (fun _ hk => hk.elim) ?aF ?aO ?aB ?aS ?aL ?_; (case aP => exact k49_mkM _ _ _ (⟨(rd l0 x4_1), x198001_16⟩ : S49)); (case aB => exact (by repeat (first | (with_reducible first | exact HB.out | apply below_alloc | apply pw_below_drewN | apply below_drew1 | refine below_set ?_ GE197.out) | exact HB.out))); (case aF => exact (fun k_ hk => ⟨Kd.fresh' (Kd.R_lt (by (with_reducible repeat (first | apply Kd.R_alloc | apply Kd.R_drewN | apply Kd.R_drew)); exact HO_3.out)) k_ hk, Kd.freshB (g := gb197) (o := .cells #[.int .i64 (rd l0 x4_1), .int .i64 x198001_16] 49 (0, 0)) (by (with_reducible repeat (first | refine blk_drewN ?_ _ | refine blk_drew ?_ | refine blk_alloc ?_ _)); exact BK197.out) k_ hk⟩)); (case aO => exact (by (with_reducible repeat (first | apply Kd.R_alloc | apply Kd.R_drewN | apply Kd.R_drew)); exact HO209.out)); (case aS => exact (below_size (by repeat (first | (with_reducible first | exact HB.out | apply below_alloc | apply pw_below_drewN | apply below_drew1 | refine below_set ?_ GE197.out) | exact HB.out)))); (case aL => have := LMc35.out; omega); intro v211 w44 ho hb hg hat; rw [← Ny210.out] at ho; have n0_ := Aside0.mk (Kd.R_after (ok := (fun k_ => k_ ≠ gb197)) (by (with_reducible repeat (first | apply Kd.R_alloc | apply Kd.R_drewN | apply Kd.R_drew)); exact HO_3.out) hg hat); have n1_ := Aside0.mk (blk_grown (g := gb197) (o := .cells #[.int .i64 (rd l0 x4_1), .int .i64 x198001_16] 49 (0, 0)) (by (with_reducible repeat (first | refine blk_drewN ?_ _ | refine blk_drew ?_ | refine blk_alloc ?_ _)); exact BK197.out) hg (Kd.R_away HO209.out (fun _ hk => hk.2))); have n2_ := Aside0.mk (hb); have n3_ := Aside0.mk ((show Kd.C k49 w44 (some ad199) y203.length y203 from by rw [Ny203.out]; exact Kd.C_take (m := (x7_4 : Int).toNat) ((Kd.R_reads' (Kd.R_after (ok := (fun k_ => k_ ≠ gb197)) (by (with_reducible repeat (first | apply Kd.R_alloc | apply Kd.R_drewN | apply Kd.R_drew)); exact HO_3.out) hg hat)).2.2) KL41.out)); have n4_ := Aside0.mk (ho); clear HO_3; clear BK197; clear HB; clear HR206; clear HO209; have HO_3 := n0_; have BK197 := n1_; have HB := n2_; have HR206 := n3_; have HO212 := n4_; clear n0_ n1_ n2_ n3_ n4_; clear ho hb hg hat; have q45 : (x7_4 : Int) ≤ ((x3_1.length : Int) : Int) := of_decide_eq_true (by first | (with_reducible assumption) | assumption); obtain ⟨i045, hi045, _, hsz45, _⟩ := info_parts info49; have hroom45 : x3_1.length ≤ co26 := (Kd.R_reads' HO_3.out).2.1; have hC45 : Kd.C k49 _ (some ad199) x3_1.length x3_1 := (Kd.R_reads' HO_3.out).2.2; have q045 : (0 : Int) ≤ (x7_4 : Int) := of_decide_eq_true (by first | (with_reducible assumption) | assumption); have hcut45 := cut_from (P := Try.prog) 43 49 .i64 Try.underlying43 hi045 2 hsz45 (some ad199) x3_1.length co26 x7_4 q045 q45; have hr45 := Kd.C_drop (m := (x7_4 : Int).toNat) (c := co26) hC45 (by omega) hroom45; obtain ⟨A45, hA45⟩ : ∃ A1, A1 = (if co26 = (x7_4 : Int).toNat then (some ad199) else ((some ad199) : Option Addr).map (·.add ((x7_4 : Int).toNat * 2))) := ⟨_, rfl⟩; obtain ⟨c45, hc45⟩ : ∃ c1, c1 = co26 - (x7_4 : Int).toNat := ⟨_, rfl⟩; have hy45 : y213.length = x3_1.length - (x7_4 : Int).toNat := (by rw [Ny213.out, List.length_drop] <;> omega); rw [show (x3_1).drop (x7_4 : Int).toNat = y213 from Ny213.out.symm] at hr45; replace hr45 : Kd.C k49 _ A45 y213.length y213 := (by rw [hA45]; exact hr45); rw [← hy45, ← hA45, ← hc45] at hcut45; have HR216 := Aside0.mk hr45; have HC216 := Aside0.mk (show y213.length ≤ c45 from by rw [hy45, hc45]; exact Nat.sub_le_sub_right hroom45 _); clear hr45 hC45 hroom45 hi045 hsz45 hc45; have KY45 := Aside0.mk hy45; have KA45 := Aside0.mk hA45; clear hy45 hA45; have KL45 := Aside0.mk (show (x7_4 : Int).toNat ≤ x3_1.length from by omega); replace q45 := eq_true q45) | ((with_reducible refine gate_builtin (b := .append) (xs := #[.tmp 76, .tmp 79]) rfl ?_); at_builtin; refine Kd.R_append_rows k49 (w0 := w) w.heap.size rfl (.tmp 76) (.tmp 79) 43 49 (.agg #[(.int .i64 0), (.int .i64 0)]) 16 rfl Try.underlying43 info49 rfl (by decide) (by omega) v211 y210 y213 _ _ _ (fun k_ => some k_ ≠ (.slice (some ad199) x3_1.length co26 : Value).ownBlock ∧ k_ ≠ gb197) (fun _ => False) rfl rfl ?aO ?aR (fun _ _ h => h) (fun _ h => h.elim) ?aF ?aB ?aS ?aL ?_; (case aR => repeat (first | exact (by repeat (first | (with_reducible exact HR216.out) | (with_reducible refine Kd.C_alloc ?_ _) | (with_reducible refine Kd.C_drewN ?_ _) | (with_reducible refine Kd.C_drew ?_) | exact HR216.out)) | (with_reducible refine Kd.C_alloc ?_ _) | (with_reducible refine Kd.C_drewN ?_ _) | (with_reducible refine Kd.C_drew ?_))); (case aB => exact (by repeat (first | (with_reducible first | exact HB.out | apply below_alloc | apply pw_below_drewN | apply below_drew1 | refine below_set ?_ GE197.out) | exact HB.out))); (case aF => exact (fun k_ hk => ⟨Kd.fresh' (Kd.R_lt (by (with_reducible repeat (first | apply Kd.R_alloc | apply Kd.R_drewN | apply Kd.R_drew)); exact HO_3.out)) k_ hk, Kd.freshB (g := gb197) (o := .cells #[.int .i64 (rd l0 x4_1), .int .i64 x198001_16] 49 (0, 0)) (by (with_reducible repeat (first | refine blk_drewN ?_ _ | refine blk_drew ?_ | refine blk_alloc ?_ _)); exact BK197.out) k_ hk⟩)); (case aO => exact (by (with_reducible repeat (first | apply Kd.R_alloc | apply Kd.R_drewN | apply Kd.R_drew)); exact HO212.out)); (case aS => exact (below_size (by repeat (first | (with_reducible first | exact HB.out | apply below_alloc | apply pw_below_drewN | apply below_drew1 | refine below_set ?_ GE197.out) | exact HB.out)))); (case aL => have := LMc38.out; omega); intro v218 w46 ho hb hg hat; rw [← Ny217.out] at ho; have n0_ := Aside0.mk (Kd.R_after (ok := (fun k_ => k_ ≠ gb197)) (by (with_reducible repeat (first | apply Kd.R_alloc | apply Kd.R_drewN | apply Kd.R_drew)); exact HO_3.out) hg hat); have n1_ := Aside0.mk (blk_grown (g := gb197) (o := .cells #[.int .i64 (rd l0 x4_1), .int .i64 x198001_16] 49 (0, 0)) (by (with_reducible repeat (first | refine blk_drewN ?_ _ | refine blk_drew ?_ | refine blk_alloc ?_ _)); exact BK197.out) hg (Kd.R_away HO212.out (fun _ hk => hk.2))); have n2_ := Aside0.mk (hb); have n3_ := Aside0.mk ((show Kd.C k49 w46 (some ad199) y203.length y203 from by rw [Ny203.out]; exact Kd.C_take (m := (x7_4 : Int).toNat) ((Kd.R_reads' (Kd.R_after (ok := (fun k_ => k_ ≠ gb197)) (by (with_reducible repeat (first | apply Kd.R_alloc | apply Kd.R_drewN | apply Kd.R_drew)); exact HO_3.out) hg hat)).2.2) KL41.out)); have n4_ := Aside0.mk ((show Kd.C k49 w46 A45 y213.length y213 from by rw [Ny213.out, KA45.out]; exact Kd.C_drop (m := (x7_4 : Int).toNat) (c := co26) ((Kd.R_reads' (Kd.R_after (ok := (fun k_ => k_ ≠ gb197)) (by (with_reducible repeat (first | apply Kd.R_alloc | apply Kd.R_drewN | apply Kd.R_drew)); exact HO_3.out) hg hat)).2.2) KL45.out ((Kd.R_reads' (Kd.R_after (ok := (fun k_ => k_ ≠ gb197)) (by (with_reducible repeat (first | apply Kd.R_alloc | apply Kd.R_drewN | apply Kd.R_drew)); exact HO_3.out) hg hat)).2.1))); have n5_ := Aside0.mk (ho); clear HO_3; clear BK197; clear HB; clear HR206; clear HR216; clear HO212; have HO_3 := n0_; have BK197 := n1_; have HB := n2_; have HR206 := n3_; have HR216 := n4_; have HO219 := n5_; clear n0_ n1_ n2_ n3_ n4_ n5_; clear ho hb hg hat))
                     go_roundg k4
                     case measure => have := HK1.out; have := HJ3.out; have := HJ16.out; have := HK4.out; omega
                     case rel => exact ⟨(y217), (wrap64 (x4_1 + 1)), (by first | rfl | (simp; done) | (simp [*]; done)), H', ⟨by have := HK1.out; have := HJ3.out; have := HJ16.out; have := HK4.out; omega⟩, ⟨by (with_reducible repeat (first | apply Kd.R_alloc | apply Kd.R_drewN | apply Kd.R_drew)); exact Kd.R_mono HO219.out (fun _ hk => trivial)⟩, ⟨by repeat (first | (with_reducible first | exact HB.out | apply below_alloc | apply pw_below_drewN | apply below_drew1 | refine below_set ?_ GE197.out) | exact HB.out)⟩⟩
                    ·rw [if_neg c38] at H
                     exact absurd H (by simp)
                   ·rw [if_neg c35] at H
                    exact absurd H (by simp)
                  ·rw [if_neg c34] at H
                   exact absurd H (by simp)
                 ·rw [if_neg c33] at H
                  exact absurd H (by simp)
                ·rw [if_neg c32] at H
                 exact absurd H (by simp)
              ·rw [if_neg c30] at H
               exact absurd H (by simp)
             ·rw [if_neg c29] at H
              exact absurd H (by simp)
            ·rw [if_neg c27] at H
             have c27b0 : decide (0 < x7_4) = false := decide_eq_false c27
             clear c27
             obtain ⟨y220, hy220⟩ : ∃ y_ : List (S49), y_ = (([] : List (S49))) := ⟨_, rfl⟩
             replace H : (if 0 ≤ x7_4 then (if x7_4 ≤ (x3_1.length : Int) then ((some (x3_1.take (x7_4 : Int).toNat : List (S49))).bind fun y223 => (if y220.length + y223.length < 8796093022208 then ((some (y220 ++ y223 : List (S49))).bind fun y227 => (if y227.length < 8796093022208 then ((some (y227 ++ [(⟨(rd l0 x4_1), x198001_16⟩ : S49)] : List (S49))).bind fun y230 => ((some (x3_1.drop (x7_4 : Int).toNat : List (S49))).bind fun y233 => (if y230.length + y233.length < 8796093022208 then (forebearref04_Runs.l0 k4 l0 (y230 ++ y233) (wrap64 (x4_1 + 1))) else (none)))) else (none))) else (none))) else (none)) else (none)) = some r := by first | (rw [hy220]; with_reducible exact H) | (have H2_ := (Option.bind_some _ _).symm.trans H; rw [hy220]; with_reducible exact H2_) | (have H2_ := (Option.bind_some _ _).symm.trans H; with_reducible exact H2_) | with_reducible exact H | (rw [hy220]; exact H) | exact H
             have Ny220 := Aside0.mk hy220
             clear hy220
             by_cases c47 : 0 ≤ x7_4
             ·rw [if_pos c47] at H
              have c47b0 := eq_true c47
              have c47b1 : decide (0 ≤ x7_4) = true := decide_eq_true c47
              clear c47
              by_cases c48 : x7_4 ≤ (x3_1.length : Int)
              ·rw [if_pos c48] at H
               have c48b0 := eq_true c48
               have c48b1 : decide (x7_4 ≤ (x3_1.length : Int)) = true := decide_eq_true c48
               clear c48
               obtain ⟨y223, hy223⟩ : ∃ y_ : List (S49), y_ = (x3_1.take (x7_4 : Int).toNat) := ⟨_, rfl⟩
               replace H : (if y220.length + y223.length < 8796093022208 then ((some (y220 ++ y223 : List (S49))).bind fun y227 => (if y227.length < 8796093022208 then ((some (y227 ++ [(⟨(rd l0 x4_1), x198001_16⟩ : S49)] : List (S49))).bind fun y230 => ((some (x3_1.drop (x7_4 : Int).toNat : List (S49))).bind fun y233 => (if y230.length + y233.length < 8796093022208 then (forebearref04_Runs.l0 k4 l0 (y230 ++ y233) (wrap64 (x4_1 + 1))) else (none)))) else (none))) else (none)) = some r := by first | (rw [hy223]; with_reducible exact H) | (have H2_ := (Option.bind_some _ _).symm.trans H; rw [hy223]; with_reducible exact H2_) | (have H2_ := (Option.bind_some _ _).symm.trans H; with_reducible exact H2_) | with_reducible exact H | (rw [hy223]; exact H) | exact H
               have Ny223 := Aside0.mk hy223
               clear hy223
               by_cases c49 : y220.length + y223.length < 8796093022208
               ·rw [if_pos c49] at H
                have LMc49 := Aside0.mk c49
                clear c49
                obtain ⟨y227, hy227⟩ : ∃ y_ : List (S49), y_ = (y220 ++ y223) := ⟨_, rfl⟩
                replace H : (if y227.length < 8796093022208 then ((some (y227 ++ [(⟨(rd l0 x4_1), x198001_16⟩ : S49)] : List (S49))).bind fun y230 => ((some (x3_1.drop (x7_4 : Int).toNat : List (S49))).bind fun y233 => (if y230.length + y233.length < 8796093022208 then (forebearref04_Runs.l0 k4 l0 (y230 ++ y233) (wrap64 (x4_1 + 1))) else (none)))) else (none)) = some r := by first | (rw [hy227]; with_reducible exact H) | (have H2_ := (Option.bind_some _ _).symm.trans H; rw [hy227]; with_reducible exact H2_) | (have H2_ := (Option.bind_some _ _).symm.trans H; with_reducible exact H2_) | with_reducible exact H | (rw [hy227]; exact H) | exact H
                have Ny227 := Aside0.mk hy227
                clear hy227
                by_cases c50 : y227.length < 8796093022208
                ·rw [if_pos c50] at H
                 have LMc50 := Aside0.mk c50
                 clear c50
                 obtain ⟨y230, hy230⟩ : ∃ y_ : List (S49), y_ = (y227 ++ [(⟨(rd l0 x4_1), x198001_16⟩ : S49)]) := ⟨_, rfl⟩
                 replace H : ((some (x3_1.drop (x7_4 : Int).toNat : List (S49))).bind fun y233 => (if y230.length + y233.length < 8796093022208 then (forebearref04_Runs.l0 k4 l0 (y230 ++ y233) (wrap64 (x4_1 + 1))) else (none))) = some r := by first | (rw [hy230]; with_reducible exact H) | (have H2_ := (Option.bind_some _ _).symm.trans H; rw [hy230]; with_reducible exact H2_) | (have H2_ := (Option.bind_some _ _).symm.trans H; with_reducible exact H2_) | with_reducible exact H | (rw [hy230]; exact H) | exact H
                 have Ny230 := Aside0.mk hy230
                 clear hy230
                 have c51b0 := eq_true (of_decide_eq_true (by first | (with_reducible assumption) | assumption) : 0 ≤ x7_4)
                 have c52b0 := eq_true (of_decide_eq_true (by first | (with_reducible assumption) | assumption) : x7_4 ≤ (x3_1.length : Int))
                 obtain ⟨y233, hy233⟩ : ∃ y_ : List (S49), y_ = (x3_1.drop (x7_4 : Int).toNat) := ⟨_, rfl⟩
                 replace H : (if y230.length + y233.length < 8796093022208 then (forebearref04_Runs.l0 k4 l0 (y230 ++ y233) (wrap64 (x4_1 + 1))) else (none)) = some r := by first | (rw [hy233]; with_reducible exact H) | (have H2_ := (Option.bind_some _ _).symm.trans H; rw [hy233]; with_reducible exact H2_) | (have H2_ := (Option.bind_some _ _).symm.trans H; with_reducible exact H2_) | with_reducible exact H | (rw [hy233]; exact H) | exact H
                 have Ny233 := Aside0.mk hy233
                 clear hy233
                 by_cases c53 : y230.length + y233.length < 8796093022208
                 ·rw [if_pos c53] at H
                  have LMc53 := Aside0.mk c53
                  clear c53
                  obtain ⟨y237, hy237⟩ : ∃ y_ : List (S49), y_ = (y230 ++ y233) := ⟨_, rfl⟩
                  replace H : (forebearref04_Runs.l0 k4 l0 y237 (wrap64 (x4_1 + 1))) = some r := by first | (rw [hy237]; with_reducible exact H) | (have H2_ := (Option.bind_some _ _).symm.trans H; rw [hy237]; with_reducible exact H2_) | (have H2_ := (Option.bind_some _ _).symm.trans H; with_reducible exact H2_) | with_reducible exact H | (rw [hy237]; exact H) | exact H
                  have Ny237 := Aside0.mk hy237
                  clear hy237
                  have H' := Aside0.mk H
                  clear H
                  go_wp2_with (first | ((with_reducible refine gate_dst (N := 67) rfl ?_); refine Kd.R_lit k49 _ 49 ?hg (N := 67) ?hd (xs := ([] : List (S49))) (inner := []) (ok := fun _ => True) (okp := fun _ => True) ?hr ?hp (fun _ hk => hk) trivial (Below.refl _ _) (Nat.le_refl _) (by simp) ?_; (case hd => rfl); (case hg => rfl); (case hr => first | (go_simp; done) | (go_simp; rfl)); (case hp => exact (Reps.none _ _)); intro v221 w54 ho55 hb hg_ hnew_; clear hg_ hnew_; (first | rw [← Ny220.out] at ho55 | (simp only [Int.reduceToNat] at ho55; rw [← Ny220.out] at ho55)); have n0_ := Aside0.mk (Kd.R_elder' (by (with_reducible repeat (first | apply Kd.R_alloc | apply Kd.R_drewN | apply Kd.R_drew)); exact HO_3.out) (Kd.R_base ho55) hb); have n1_ := Aside0.mk (Kd.R_lower (Kd.R_newB (Kd.R_new' ho55 (Kd.R_lt (by (with_reducible repeat (first | apply Kd.R_alloc | apply Kd.R_drewN | apply Kd.R_drew)); exact HO_3.out))) (g := gb197) (o := .cells #[.int .i64 (rd l0 x4_1), .int .i64 x198001_16] 49 (0, 0)) (by (with_reducible repeat (first | refine blk_drewN ?_ _ | refine blk_drew ?_ | refine blk_alloc ?_ _)); exact BK197.out)) (below_size (by repeat (first | (with_reducible first | exact HB.out | apply below_alloc | apply pw_below_drewN | apply below_drew1 | refine below_set ?_ GE197.out) | exact HB.out)))); have n2_ := Aside0.mk (blk_below (g := gb197) (o := .cells #[.int .i64 (rd l0 x4_1), .int .i64 x198001_16] 49 (0, 0)) (by (with_reducible repeat (first | refine blk_drewN ?_ _ | refine blk_drew ?_ | refine blk_alloc ?_ _)); exact BK197.out) hb); have n3_ := Aside0.mk (below_step (by repeat (first | (with_reducible first | exact HB.out | apply below_alloc | apply pw_below_drewN | apply below_drew1 | refine below_set ?_ GE197.out) | exact HB.out)) hb); clear HO_3; clear BK197; clear HB; have HO_3 := n0_; have HO222 := n1_; have BK197 := n2_; have HB := n3_; clear n0_ n1_ n2_ n3_; clear hb ho55; have q56 : (x7_4 : Int) ≤ ((x3_1.length : Int) : Int) := of_decide_eq_true (by first | (with_reducible assumption) | assumption); obtain ⟨i056, hi056, _, hsz56, _⟩ := info_parts info49; have hroom56 : x3_1.length ≤ co26 := (Kd.R_reads' HO_3.out).2.1; have hC56 : Kd.C k49 _ Ao26 x3_1.length x3_1 := (Kd.R_reads' HO_3.out).2.2; have hcut56 := cut_to (P := Try.prog) 43 49 .i64 Try.underlying43 hi056 Ao26 x3_1.length co26 x7_4 (of_decide_eq_true (by first | (with_reducible assumption) | assumption)) q56 hroom56; have hr56 := Kd.C_take (m := (x7_4 : Int).toNat) hC56 (by omega); have hy56 : y223.length = (x7_4 : Int).toNat := (by rw [Ny223.out, List.length_take]; omega); rw [← Ny223.out] at hr56; rw [← hy56] at hcut56; have HR226 := Aside0.mk hr56; have HC226 := Aside0.mk (show y223.length ≤ co26 from by omega); clear hr56 hC56 hroom56 hi056 hsz56; have KY56 := Aside0.mk hy56; clear hy56; have KL56 := Aside0.mk (show (x7_4 : Int).toNat ≤ x3_1.length from by omega); replace q56 := eq_true q56) | ((with_reducible refine gate_builtin (b := .append) (xs := #[.tmp 67, .tmp 70]) rfl ?_); at_builtin; refine Kd.R_append_rows k49 (w0 := w) w.heap.size rfl (.tmp 67) (.tmp 70) 43 49 (.agg #[(.int .i64 0), (.int .i64 0)]) 16 rfl Try.underlying43 info49 rfl (by decide) (by omega) v221 y220 y223 _ _ _ (fun k_ => some k_ ≠ (.slice Ao26 x3_1.length co26 : Value).ownBlock ∧ k_ ≠ gb197) (fun _ => False) rfl rfl ?aO ?aR (fun _ _ h => h) (fun _ h => h.elim) ?aF ?aB ?aS ?aL ?_; (case aR => repeat (first | exact (by repeat (first | (with_reducible exact HR226.out) | (with_reducible refine Kd.C_alloc ?_ _) | (with_reducible refine Kd.C_drewN ?_ _) | (with_reducible refine Kd.C_drew ?_) | exact HR226.out)) | (with_reducible refine Kd.C_alloc ?_ _) | (with_reducible refine Kd.C_drewN ?_ _) | (with_reducible refine Kd.C_drew ?_))); (case aB => exact (by repeat (first | (with_reducible first | exact HB.out | apply below_alloc | apply pw_below_drewN | apply below_drew1 | refine below_set ?_ GE197.out) | exact HB.out))); (case aF => exact (fun k_ hk => ⟨Kd.fresh' (Kd.R_lt (by (with_reducible repeat (first | apply Kd.R_alloc | apply Kd.R_drewN | apply Kd.R_drew)); exact HO_3.out)) k_ hk, Kd.freshB (g := gb197) (o := .cells #[.int .i64 (rd l0 x4_1), .int .i64 x198001_16] 49 (0, 0)) (by (with_reducible repeat (first | refine blk_drewN ?_ _ | refine blk_drew ?_ | refine blk_alloc ?_ _)); exact BK197.out) k_ hk⟩)); (case aO => exact (by (with_reducible repeat (first | apply Kd.R_alloc | apply Kd.R_drewN | apply Kd.R_drew)); exact Kd.R_mono HO222.out (fun _ hk => ⟨hk.1.2, hk.2⟩))); (case aS => exact (below_size (by repeat (first | (with_reducible first | exact HB.out | apply below_alloc | apply pw_below_drewN | apply below_drew1 | refine below_set ?_ GE197.out) | exact HB.out)))); (case aL => have := LMc49.out; omega); intro v228 w57 ho hb hg hat; rw [← Ny227.out] at ho; have n0_ := Aside0.mk (Kd.R_after (ok := (fun k_ => k_ ≠ gb197)) (by (with_reducible repeat (first | apply Kd.R_alloc | apply Kd.R_drewN | apply Kd.R_drew)); exact HO_3.out) hg hat); have n1_ := Aside0.mk (blk_grown (g := gb197) (o := .cells #[.int .i64 (rd l0 x4_1), .int .i64 x198001_16] 49 (0, 0)) (by (with_reducible repeat (first | refine blk_drewN ?_ _ | refine blk_drew ?_ | refine blk_alloc ?_ _)); exact BK197.out) hg (Kd.R_away HO222.out (fun _ hk => hk.2))); have n2_ := Aside0.mk (hb); have n3_ := Aside0.mk ((show Kd.C k49 w57 Ao26 y223.length y223 from by rw [Ny223.out]; exact Kd.C_take (m := (x7_4 : Int).toNat) ((Kd.R_reads' (Kd.R_after (ok := (fun k_ => k_ ≠ gb197)) (by (with_reducible repeat (first | apply Kd.R_alloc | apply Kd.R_drewN | apply Kd.R_drew)); exact HO_3.out) hg hat)).2.2) KL56.out)); have n4_ := Aside0.mk (ho); clear HO_3; clear BK197; clear HB; clear HR226; clear HO222; have HO_3 := n0_; have BK197 := n1_; have HB := n2_; have HR226 := n3_; have HO229 := n4_; clear n0_ n1_ n2_ n3_ n4_; clear ho hb hg hat; have hcz58_0 : w57.cell? ⟨gb197, 0, none⟩ = some (.int .i64 (rd l0 x4_1)) := (blk_cell BK197.out 0).trans rfl; have hcz58_1 : w57.cell? ⟨gb197, 1, none⟩ = some (.int .i64 x198001_16) := (blk_cell BK197.out 1).trans rfl; have hfz58_0 := blk_frozen BK197.out 0; have hfz58_1 := blk_frozen BK197.out 1) | ((with_reducible refine gate_builtin (b := .append) (xs := #[.tmp 72, .tmp 74]) rfl ?_); at_builtin; refine Kd.R_append k49 (w0 := w) w.heap.size rfl (.tmp 72) (.tmp 74) 43 49 (.agg #[(.int .i64 0), (.int .i64 0)]) 16 rfl Try.underlying43 info49 rfl (by decide) (by omega) v228 y227 (⟨(rd l0 x4_1), x198001_16⟩ : S49) [.int .i64 (rd l0 x4_1), .int .i64 x198001_16] (fun k_ => some k_ ≠ (.slice Ao26 x3_1.length co26 : Value).ownBlock ∧ k_ ≠ gb197) (fun _ => False) rfl rfl ?aP (fun _ hk => hk.elim) ?aF ?aO ?aB ?aS ?aL ?_; (case aP => exact k49_mkM _ _ _ (⟨(rd l0 x4_1), x198001_16⟩ : S49)); (case aB => exact (by repeat (first | (with_reducible first | exact HB.out | apply below_alloc | apply pw_below_drewN | apply below_drew1 | refine below_set ?_ GE197.out) | exact HB.out))); (case aF => exact (fun k_ hk => ⟨Kd.fresh' (Kd.R_lt (by (with_reducible repeat (first | apply Kd.R_alloc | apply Kd.R_drewN | apply Kd.R_drew)); exact HO_3.out)) k_ hk, Kd.freshB (g := gb197) (o := .cells #[.int .i64 (rd l0 x4_1), .int .i64 x198001_16] 49 (0, 0)) (by (with_reducible repeat (first | refine blk_drewN ?_ _ | refine blk_drew ?_ | refine blk_alloc ?_ _)); exact BK197.out) k_ hk⟩)); (case aO => exact (by (with_reducible repeat (first | apply Kd.R_alloc | apply Kd.R_drewN | apply Kd.R_drew)); exact HO229.out)); (case aS => exact (below_size (by repeat (first | (with_reducible first | exact HB.out | apply below_alloc | apply pw_below_drewN | apply below_drew1 | refine below_set ?_ GE197.out) | exact HB.out)))); (case aL => have := LMc50.out; omega); intro v231 w59 ho hb hg hat; rw [← Ny230.out] at ho; have n0_ := Aside0.mk (Kd.R_after (ok := (fun k_ => k_ ≠ gb197)) (by (with_reducible repeat (first | apply Kd.R_alloc | apply Kd.R_drewN | apply Kd.R_drew)); exact HO_3.out) hg hat); have n1_ := Aside0.mk (blk_grown (g := gb197) (o := .cells #[.int .i64 (rd l0 x4_1), .int .i64 x198001_16] 49 (0, 0)) (by (with_reducible repeat (first | refine blk_drewN ?_ _ | refine blk_drew ?_ | refine blk_alloc ?_ _)); exact BK197.out) hg (Kd.R_away HO229.out (fun _ hk => hk.2))); have n2_ := Aside0.mk (hb); have n3_ := Aside0.mk ((show Kd.C k49 w59 Ao26 y223.length y223 from by rw [Ny223.out]; exact Kd.C_take (m := (x7_4 : Int).toNat) ((Kd.R_reads' (Kd.R_after (ok := (fun k_ => k_ ≠ gb197)) (by (with_reducible repeat (first | apply Kd.R_alloc | apply Kd.R_drewN | apply Kd.R_drew)); exact HO_3.out) hg hat)).2.2) KL56.out)); have n4_ := Aside0.mk (ho); clear HO_3; clear BK197; clear HB; clear HR226; clear HO229; have HO_3 := n0_; have BK197 := n1_; have HB := n2_; have HR226 := n3_; have HO232 := n4_; clear n0_ n1_ n2_ n3_ n4_; clear ho hb hg hat; have q60 : (x7_4 : Int) ≤ ((x3_1.length : Int) : Int) := of_decide_eq_true (by first | (with_reducible assumption) | assumption); obtain ⟨i060, hi060, _, hsz60, _⟩ := info_parts info49; have hroom60 : x3_1.length ≤ co26 := (Kd.R_reads' HO_3.out).2.1; have hC60 : Kd.C k49 _ Ao26 x3_1.length x3_1 := (Kd.R_reads' HO_3.out).2.2; have q060 : (0 : Int) ≤ (x7_4 : Int) := of_decide_eq_true (by first | (with_reducible assumption) | assumption); have hcut60 := cut_from (P := Try.prog) 43 49 .i64 Try.underlying43 hi060 2 hsz60 Ao26 x3_1.length co26 x7_4 q060 q60; have hr60 := Kd.C_drop (m := (x7_4 : Int).toNat) (c := co26) hC60 (by omega) hroom60; obtain ⟨A60, hA60⟩ : ∃ A1, A1 = (if co26 = (x7_4 : Int).toNat then Ao26 else (Ao26 : Option Addr).map (·.add ((x7_4 : Int).toNat * 2))) := ⟨_, rfl⟩; obtain ⟨c60, hc60⟩ : ∃ c1, c1 = co26 - (x7_4 : Int).toNat := ⟨_, rfl⟩; have hy60 : y233.length = x3_1.length - (x7_4 : Int).toNat := (by rw [Ny233.out, List.length_drop] <;> omega); rw [show (x3_1).drop (x7_4 : Int).toNat = y233 from Ny233.out.symm] at hr60; replace hr60 : Kd.C k49 _ A60 y233.length y233 := (by rw [hA60]; exact hr60); rw [← hy60, ← hA60, ← hc60] at hcut60; have HR236 := Aside0.mk hr60; have HC236 := Aside0.mk (show y233.length ≤ c60 from by rw [hy60, hc60]; exact Nat.sub_le_sub_right hroom60 _); clear hr60 hC60 hroom60 hi060 hsz60 hc60; have KY60 := Aside0.mk hy60; have KA60 := Aside0.mk hA60; clear hy60 hA60; have KL60 := Aside0.mk (show (x7_4 : Int).toNat ≤ x3_1.length from by omega); replace q60 := eq_true q60) | ((with_reducible refine gate_builtin (b := .append) (xs := #[.tmp 76, .tmp 79]) rfl ?_); at_builtin; refine Kd.R_append_rows k49 (w0 := w) w.heap.size rfl (.tmp 76) (.tmp 79) 43 49 (.agg #[(.int .i64 0), (.int .i64 0)]) 16 rfl Try.underlying43 info49 rfl (by decide) (by omega) v231 y230 y233 _ _ _ (fun k_ => some k_ ≠ (.slice Ao26 x3_1.length co26 : Value).ownBlock ∧ k_ ≠ gb197) (fun _ => False) rfl rfl ?aO ?aR (fun _ _ h => h) (fun _ h => h.elim) ?aF ?aB ?aS ?aL ?_; (case aR => repeat (first | exact (by repeat (first | (with_reducible exact HR236.out) | (with_reducible refine Kd.C_alloc ?_ _) | (with_reducible refine Kd.C_drewN ?_ _) | (with_reducible refine Kd.C_drew ?_) | exact HR236.out)) | (with_reducible refine Kd.C_alloc ?_ _) | (with_reducible refine Kd.C_drewN ?_ _) | (with_reducible refine Kd.C_drew ?_))); (case aB => exact (by repeat (first | (with_reducible first | exact HB.out | apply below_alloc | apply pw_below_drewN | apply below_drew1 | refine below_set ?_ GE197.out) | exact HB.out))); (case aF => exact (fun k_ hk => ⟨Kd.fresh' (Kd.R_lt (by (with_reducible repeat (first | apply Kd.R_alloc | apply Kd.R_drewN | apply Kd.R_drew)); exact HO_3.out)) k_ hk, Kd.freshB (g := gb197) (o := .cells #[.int .i64 (rd l0 x4_1), .int .i64 x198001_16] 49 (0, 0)) (by (with_reducible repeat (first | refine blk_drewN ?_ _ | refine blk_drew ?_ | refine blk_alloc ?_ _)); exact BK197.out) k_ hk⟩)); (case aO => exact (by (with_reducible repeat (first | apply Kd.R_alloc | apply Kd.R_drewN | apply Kd.R_drew)); exact HO232.out)); (case aS => exact (below_size (by repeat (first | (with_reducible first | exact HB.out | apply below_alloc | apply pw_below_drewN | apply below_drew1 | refine below_set ?_ GE197.out) | exact HB.out)))); (case aL => have := LMc53.out; omega); intro v238 w61 ho hb hg hat; rw [← Ny237.out] at ho; have n0_ := Aside0.mk (Kd.R_after (ok := (fun k_ => k_ ≠ gb197)) (by (with_reducible repeat (first | apply Kd.R_alloc | apply Kd.R_drewN | apply Kd.R_drew)); exact HO_3.out) hg hat); have n1_ := Aside0.mk (blk_grown (g := gb197) (o := .cells #[.int .i64 (rd l0 x4_1), .int .i64 x198001_16] 49 (0, 0)) (by (with_reducible repeat (first | refine blk_drewN ?_ _ | refine blk_drew ?_ | refine blk_alloc ?_ _)); exact BK197.out) hg (Kd.R_away HO232.out (fun _ hk => hk.2))); have n2_ := Aside0.mk (hb); have n3_ := Aside0.mk ((show Kd.C k49 w61 Ao26 y223.length y223 from by rw [Ny223.out]; exact Kd.C_take (m := (x7_4 : Int).toNat) ((Kd.R_reads' (Kd.R_after (ok := (fun k_ => k_ ≠ gb197)) (by (with_reducible repeat (first | apply Kd.R_alloc | apply Kd.R_drewN | apply Kd.R_drew)); exact HO_3.out) hg hat)).2.2) KL56.out)); have n4_ := Aside0.mk ((show Kd.C k49 w61 A60 y233.length y233 from by rw [Ny233.out, KA60.out]; exact Kd.C_drop (m := (x7_4 : Int).toNat) (c := co26) ((Kd.R_reads' (Kd.R_after (ok := (fun k_ => k_ ≠ gb197)) (by (with_reducible repeat (first | apply Kd.R_alloc | apply Kd.R_drewN | apply Kd.R_drew)); exact HO_3.out) hg hat)).2.2) KL60.out ((Kd.R_reads' (Kd.R_after (ok := (fun k_ => k_ ≠ gb197)) (by (with_reducible repeat (first | apply Kd.R_alloc | apply Kd.R_drewN | apply Kd.R_drew)); exact HO_3.out) hg hat)).2.1))); have n5_ := Aside0.mk (ho); clear HO_3; clear BK197; clear HB; clear HR226; clear HR236; clear HO232; have HO_3 := n0_; have BK197 := n1_; have HB := n2_; have HR226 := n3_; have HR236 := n4_; have HO239 := n5_; clear n0_ n1_ n2_ n3_ n4_ n5_; clear ho hb hg hat))
                  go_roundg k4
                  case measure => have := HK1.out; have := HJ3.out; have := HJ16.out; have := HK4.out; omega
                  case rel => exact ⟨(y237), (wrap64 (x4_1 + 1)), (by first | rfl | (simp; done) | (simp [*]; done)), H', ⟨by have := HK1.out; have := HJ3.out; have := HJ16.out; have := HK4.out; omega⟩, ⟨by (with_reducible repeat (first | apply Kd.R_alloc | apply Kd.R_drewN | apply Kd.R_drew)); exact Kd.R_mono HO239.out (fun _ hk => trivial)⟩, ⟨by repeat (first | (with_reducible first | exact HB.out | apply below_alloc | apply pw_below_drewN | apply below_drew1 | refine below_set ?_ GE197.out) | exact HB.out)⟩⟩
                 ·rw [if_neg c53] at H
                  exact absurd H (by simp)
                ·rw [if_neg c50] at H
                 exact absurd H (by simp)
               ·rw [if_neg c49] at H
                exact absurd H (by simp)
              ·rw [if_neg c48] at H
               exact absurd H (by simp)
             ·rw [if_neg c47] at H
              exact absurd H (by simp)
    ·rw [if_neg c3] at H
     exact absurd H (by simp)
   ·rw [if_neg c2] at H
    have c2b0 : decide (x4_1 < (l0.length : Int)) = false := decide_eq_false c2
    clear c2
    obtain rfl := Option.some.inj H
    go_wp2
    go_ret
    exact ⟨_, by first | rfl | (simp [errW_none, errW_some] <;> rfl) | (simp [*, errW_none, errW_some] <;> rfl), by (with_reducible repeat (first | apply Kd.R_alloc | apply Kd.R_drewN | apply Kd.R_drew)); exact HO_3.out, by repeat (first | (with_reducible first | exact HB.out | apply below_alloc | apply pw_below_drewN | apply below_drew1) | exact HB.out)⟩

end Go.Proofs.Ytlbkobiphfaafaa.MT
