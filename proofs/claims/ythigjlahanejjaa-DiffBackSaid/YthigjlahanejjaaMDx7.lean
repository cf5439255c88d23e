/- Laid by this claim's own program (myprint) out of the translation: functions that the laws of the group D reach, each as a plain function, with the proof that the Go code comes to it. No condition. -/
import Derived.Test.YthigjlahanejjaaMDx0
import Derived.Test.YthigjlahanejjaaMDx6
namespace Go.Proofs.Ythigjlahanejjaa.MD
open Go.Proofs.Ythigjlahanejjaa.Opening
open Go.RowKit Go.Proofs.YthigjlahanejjaaW.PrintWords Go.Proofs.YthigjlahanejjaaW.PrintLast Go.Proofs.YthigjlahanejjaaW.PrintMore
attribute [local go_sem] max2_int min2_int max_two min_two max_three min_three max_four min_four   -- for this text's walks alone
set_option linter.unusedVariables false
set_option linter.unusedSimpArgs false

/-! ### forebearref05_Match: function 14 -/
mutual
def forebearref05_Match.j0 : Nat → List ByteArray → List ByteArray → Bool → Option ((List (S40)) × Int)
  | 0, _, _, _ => none
  | k + 1, x0, x1, x17 => if x17 = true then (some (([] : List (S40)), 4)) else ((forebearref05_Longest.f x0 x1).bind fun t202 => (forebearref05_Match.l0 k x0 x1 t202 ([] : List (S40)) 0 0))
def forebearref05_Match.l0 : Nat → List ByteArray → List ByteArray → List (List Int) → List (S40) → Int → Int → Option ((List (S40)) × Int)
  | 0, _, _, _, _, _, _ => none
  | k + 1, x0, x1, x6, x7, x8, x9 => if x8 < (x0.length : Int) then (forebearref05_Match.j2 k x0 x1 x6 x7 x8 x9 (decide (x9 < (x1.length : Int)))) else (forebearref05_Match.j2 k x0 x1 x6 x7 x8 x9 false)
def forebearref05_Match.j2 : Nat → List ByteArray → List ByteArray → List (List Int) → List (S40) → Int → Int → Bool → Option ((List (S40)) × Int)
  | 0, _, _, _, _, _, _, _ => none
  | k + 1, x0, x1, x6, x7, x8, x9, x30 => if x30 = true then (if 0 ≤ x8 then (if x8 < (x0.length : Int) then (if 0 ≤ x9 then (if x9 < (x1.length : Int) then (if (rdOf ByteArray.empty x0 x8).toList = (rdOf ByteArray.empty x1 x9).toList then (if x7.length < 8796093022208 then (forebearref05_Match.l0 k x0 x1 x6 (x7 ++ [(⟨x8, x9⟩ : S40)]) (wrap64 (x8 + 1)) (wrap64 (x9 + 1))) else (none)) else (if 0 ≤ (wrap64 (x8 + 1)) then (if (wrap64 (x8 + 1)) < (x6.length : Int) then (if x9 < ((rd_L8 x6 (wrap64 (x8 + 1))).length : Int) then (if x8 < (x6.length : Int) then (if 0 ≤ (wrap64 (x9 + 1)) then (if (wrap64 (x9 + 1)) < ((rd_L8 x6 x8).length : Int) then (if (rd (rd_L8 x6 (wrap64 (x8 + 1))) x9) ≥ (rd (rd_L8 x6 x8) (wrap64 (x9 + 1))) then (forebearref05_Match.l0 k x0 x1 x6 x7 (wrap64 (x8 + 1)) x9) else (forebearref05_Match.l0 k x0 x1 x6 x7 x8 (wrap64 (x9 + 1)))) else (none)) else (none)) else (none)) else (none)) else (none)) else (none))) else (none)) else (none)) else (none)) else (none)) else (some (x7, 0))
end
def forebearref05_Match.f (k : Nat) (l0 : List ByteArray) (l1 : List ByteArray) : Option ((List (S40)) × Int) := if (l0.length : Int) > 256 then (forebearref05_Match.j0 k l0 l1 true) else (forebearref05_Match.j0 k l0 l1 (decide ((l1.length : Int) > 256)))
theorem forebearref05_Match.mono_l : ∀ k, (∀ y0 y1 y2, LeO (forebearref05_Match.j0 k y0 y1 y2) (forebearref05_Match.j0 (k + 1) y0 y1 y2)) ∧ (∀ y0 y1 y2 y3 y4 y5, LeO (forebearref05_Match.l0 k y0 y1 y2 y3 y4 y5) (forebearref05_Match.l0 (k + 1) y0 y1 y2 y3 y4 y5)) ∧ (∀ y0 y1 y2 y3 y4 y5 y6, LeO (forebearref05_Match.j2 k y0 y1 y2 y3 y4 y5 y6) (forebearref05_Match.j2 (k + 1) y0 y1 y2 y3 y4 y5 y6))
  | 0 => ⟨fun _ _ _ r h => by simp [forebearref05_Match.j0] at h, fun _ _ _ _ _ _ r h => by simp [forebearref05_Match.l0] at h, fun _ _ _ _ _ _ _ r h => by simp [forebearref05_Match.j2] at h⟩
  | k + 1 => by
    obtain ⟨ih0, ih1, ih2⟩ := forebearref05_Match.mono_l k
    refine ⟨?_, ?_, ?_⟩
    · intro y0 y1 y2
      unfold forebearref05_Match.j0
      repeat' first
      | (with_reducible exact ih0 _ _ _)
      | (with_reducible exact ih1 _ _ _ _ _ _)
      | (with_reducible exact ih2 _ _ _ _ _ _ _)
      | (with_reducible exact LeO.refl _)
      | (with_reducible exact LeO.none _)
      | (with_reducible refine LeO.ite ?_ ?_)
      | (with_reducible refine LeO.bind ?_ (fun _ => ?_))
      | exact ih0 _ _ _
      | exact ih1 _ _ _ _ _ _
      | exact ih2 _ _ _ _ _ _ _
      | exact LeO.none _
      | refine LeO.ite ?_ ?_
      | refine LeO.bind ?_ (fun _ => ?_)
    · intro y0 y1 y2 y3 y4 y5
      unfold forebearref05_Match.l0
      repeat' first
      | (with_reducible exact ih0 _ _ _)
      | (with_reducible exact ih1 _ _ _ _ _ _)
      | (with_reducible exact ih2 _ _ _ _ _ _ _)
      | (with_reducible exact LeO.refl _)
      | (with_reducible exact LeO.none _)
      | (with_reducible refine LeO.ite ?_ ?_)
      | (with_reducible refine LeO.bind ?_ (fun _ => ?_))
      | exact ih0 _ _ _
      | exact ih1 _ _ _ _ _ _
      | exact ih2 _ _ _ _ _ _ _
      | exact LeO.none _
      | refine LeO.ite ?_ ?_
      | refine LeO.bind ?_ (fun _ => ?_)
    · intro y0 y1 y2 y3 y4 y5 y6
      unfold forebearref05_Match.j2
      repeat' first
      | (with_reducible exact ih0 _ _ _)
      | (with_reducible exact ih1 _ _ _ _ _ _)
      | (with_reducible exact ih2 _ _ _ _ _ _ _)
      | (with_reducible exact LeO.refl _)
      | (with_reducible exact LeO.none _)
      | (with_reducible refine LeO.ite ?_ ?_)
      | (with_reducible refine LeO.bind ?_ (fun _ => ?_))
      | exact ih0 _ _ _
      | exact ih1 _ _ _ _ _ _
      | exact ih2 _ _ _ _ _ _ _
      | exact LeO.none _
      | refine LeO.ite ?_ ?_
      | refine LeO.bind ?_ (fun _ => ?_)
theorem forebearref05_Match.mono : ∀ a0 a1 k, LeO (forebearref05_Match.f k a0 a1) (forebearref05_Match.f (k + 1) a0 a1) := by
  intro a0 a1 k
  obtain ⟨ih0, ih1, ih2⟩ := forebearref05_Match.mono_l k
  unfold forebearref05_Match.f
  repeat' first
      | (with_reducible exact ih0 _ _ _)
      | (with_reducible exact ih1 _ _ _ _ _ _)
      | (with_reducible exact ih2 _ _ _ _ _ _ _)
      | (with_reducible exact LeO.refl _)
      | (with_reducible exact LeO.none _)
      | (with_reducible refine LeO.ite ?_ ?_)
      | (with_reducible refine LeO.bind ?_ (fun _ => ?_))
      | exact ih0 _ _ _
      | exact ih1 _ _ _ _ _ _
      | exact ih2 _ _ _ _ _ _ _
      | exact LeO.none _
      | refine LeO.ite ?_ ?_
      | refine LeO.bind ?_ (fun _ => ?_)
set_option maxHeartbeats 8000000 in
set_option maxRecDepth 100000 in
theorem forebearref05_Match.calls (k : Nat) (A0 : Option Addr) (c0 : Nat) (l0 : List ByteArray) (A1 : Option Addr) (c1 : Nat) (l1 : List ByteArray) (r1 : List (S40)) (r2 : Int) (w : World) (hr0 : Kd.C Kd.string w A0 l0.length l0) (hc0 : l0.length ≤ c0) (hr1 : Kd.C Kd.string w A1 l1.length l1) (hc1 : l1.length ≤ c1) (h : forebearref05_Match.f k l0 l1 = some (r1, r2)) :
    Calls Try.prog 14 #[.slice A0 l0.length c0, .slice A1 l1.length c1] w fun e w' => ∃ v0_ : Value, e = .returned (.tuple #[v0_, .int .i64 r2]) ∧ Kd.R k40 40 w' w.heap.size (fun _ => True) v0_ r1 ∧ Below w.heap.size w w' := by
  have hu40 := Try.underlying40
  have HR0 := Aside0.mk hr0
  have HC0 := Aside0.mk hc0
  clear hr0 hc0
  have HR1 := Aside0.mk hr1
  have HC1 := Aside0.mk hc1
  clear hr1 hc1
  have HB := Aside0.mk (Below.refl w.heap.size w)
  have H : (if (l0.length : Int) > 256 then (forebearref05_Match.j0 k l0 l1 true) else (forebearref05_Match.j0 k l0 l1 (decide ((l1.length : Int) > 256)))) = some (r1, r2) := h
  clear h
  have HC3 := Aside0.mk H
  clear H
  go_enter Try.func14, Try.ntmps14
  go_upto_region 1 with (fail)
  repeat (go_quiet (fail); go_upto_region 1 with (fail))
  go_cut [17] (fun v17 wc => ∃ (kq : Nat) (x17_2 : Bool), v17 = .bool x17_2 ∧ Aside0 (forebearref05_Match.j0 kq l0 l1 x17_2 = some (r1, r2)) ∧ Aside0 (kq ≤ k) ∧ Aside0 (Below w.heap.size w wc))
  case first =>
    have H := HC3.out
    clear HC3
    by_cases c4 : (l0.length : Int) > 256
    · rw [if_pos c4] at H
      have c4b0 : decide (256 < (l0.length : Int)) = true := decide_eq_true c4
      have c4b1 : decide (256 < l0.length) = true := decide_eq_true (by omega)
      clear c4
      (first | rw [c4b0] | (simp only [i64_w, i32_w]; rw [c4b0]) | skip)
      have H' := Aside0.mk H
      clear H
      go_wp2
      repeat (go_quiet (fail); try go_wp2)
      go_meet
      case rel => exact ⟨_, (true), (by first | rfl | (simp; done) | (simp [*]; done)), H', ⟨by first | omega | exact Nat.le_refl _⟩, ⟨by repeat (first | (with_reducible first | exact HB.out | apply below_alloc | apply pw_below_drewN | apply below_drew1) | exact HB.out)⟩⟩
    · rw [if_neg c4] at H
      have c4b0 : decide (256 < (l0.length : Int)) = false := decide_eq_false c4
      have c4b1 : decide (256 < l0.length) = false := decide_eq_false (by omega)
      clear c4
      (first | rw [c4b0] | (simp only [i64_w, i32_w]; rw [c4b0]) | skip)
      have H' := Aside0.mk H
      clear H
      go_wp2
      repeat (go_quiet (fail); try go_wp2)
      go_meet
      case rel => exact ⟨_, (decide ((l1.length : Int) > 256)), (by first | rfl | (simp; done) | (simp [*]; done)), H', ⟨by first | omega | exact Nat.le_refl _⟩, ⟨by repeat (first | (with_reducible first | exact HB.out | apply below_alloc | apply pw_below_drewN | apply below_drew1) | exact HB.out)⟩⟩
  case rest =>
    clear HC3
    try clear c1
    try clear p2
    try clear c4
    try clear c4b0
    try clear c4b1
    obtain ⟨kq, x17_2, rfl, HA, HJ2, HB⟩ := hcut
    cases kq with
    | zero => exact absurd HA.out (by simp [forebearref05_Match.j0])
    | succ kj2 =>
      have H := HA.out
      clear HA
      simp only [forebearref05_Match.j0] at H
      by_cases c5 : x17_2 = true
      · subst c5
        have H1 : (some (([] : List (S40)), 4)) = some (r1, r2) := by rw [if_pos rfl] at H; exact H
        clear H
        have H := H1
        clear H1
        simp only [Option.some.injEq, Prod.mk.injEq] at H
        obtain ⟨rfl, rfl⟩ := H
        go_wp2
        repeat (go_quiet (fail); try go_wp2)
        go_ret2
        exact ⟨_, by first | rfl | (simp [errW_none, errW_some] <;> rfl) | (simp [*, errW_none, errW_some] <;> rfl), by first | exact Kd.R_nil _ _ _ _ _ | exact Kd.N_nil _ _ _ _ _ | exact Kd.V_nil _ _ _ _ _ | exact Kd.Q_nil _ _ _ _ _ | exact Kd.S_nil _ _ _ _ _, by repeat (first | (with_reducible first | exact HB.out | apply below_alloc | apply pw_below_drewN | apply below_drew1) | exact HB.out)⟩
      · replace c5 := Bool.eq_false_iff.mpr c5
        subst c5
        have H1 : ((forebearref05_Longest.f l0 l1).bind fun t202 => (forebearref05_Match.l0 kj2 l0 l1 t202 ([] : List (S40)) 0 0)) = some (r1, r2) := by rw [if_neg (show ¬ (false = true) by decide)] at H; exact H
        clear H
        have H := H1
        clear H1
        replace H := Option.bind_eq_some_iff.mp H
        obtain ⟨t202, A60, H⟩ := H
        replace H : (forebearref05_Match.l0 kj2 l0 l1 t202 ([] : List (S40)) 0 0) = some (r1, r2) := H
        have A6 := Aside0.mk A60
        clear A60
        have H' := Aside0.mk H
        clear H
        go_wp2_with (first | (go_at_call 37; (with_reducible refine (forebearref05_Longest.calls _ _ l0 _ _ l1 t202 _ ?side1 ?side2 ?side3 ?side4 A6.out).mono ?_); (case side1 => repeat (first | exact (Kd.C_below HR0.out HB.out) | (with_reducible refine Kd.C_alloc ?_ _) | (with_reducible refine Kd.C_drewN ?_ _) | (with_reducible refine Kd.C_drew ?_))); (case side2 => exact HC0.out); (case side3 => repeat (first | exact (Kd.C_below HR1.out HB.out) | (with_reducible refine Kd.C_alloc ?_ _) | (with_reducible refine Kd.C_drewN ?_ _) | (with_reducible refine Kd.C_drew ?_))); (case side4 => exact HC1.out); rintro e w7 ⟨v203, rfl, ho0, hb⟩; have n0_ := Aside0.mk (Kd.S_lower ho0 (below_size (by repeat (first | (with_reducible first | exact HB.out | apply below_alloc | apply pw_below_drewN | apply below_drew1) | exact HB.out)))); have n1_ := Aside0.mk (below_step (by repeat (first | (with_reducible first | exact HB.out | apply below_alloc | apply pw_below_drewN | apply below_drew1) | exact HB.out)) hb); clear HB; have HO204 := n0_; have HB := n1_; clear n0_ n1_; (try clear hb); (try clear hb2); (try clear hk); (try clear hi); (try clear ho0)))
        repeat (go_quiet (first | (go_at_call 37; (with_reducible refine (forebearref05_Longest.calls _ _ l0 _ _ l1 t202 _ ?side1 ?side2 ?side3 ?side4 A6.out).mono ?_); (case side1 => repeat (first | exact (Kd.C_below HR0.out HB.out) | (with_reducible refine Kd.C_alloc ?_ _) | (with_reducible refine Kd.C_drewN ?_ _) | (with_reducible refine Kd.C_drew ?_))); (case side2 => exact HC0.out); (case side3 => repeat (first | exact (Kd.C_below HR1.out HB.out) | (with_reducible refine Kd.C_alloc ?_ _) | (with_reducible refine Kd.C_drewN ?_ _) | (with_reducible refine Kd.C_drew ?_))); (case side4 => exact HC1.out); rintro e w7 ⟨v203, rfl, ho0, hb⟩; have n0_ := Aside0.mk (Kd.S_lower ho0 (below_size (by repeat (first | (with_reducible first | exact HB.out | apply below_alloc | apply pw_below_drewN | apply below_drew1) | exact HB.out)))); have n1_ := Aside0.mk (below_step (by repeat (first | (with_reducible first | exact HB.out | apply below_alloc | apply pw_below_drewN | apply below_drew1) | exact HB.out)) hb); clear HB; have HO204 := n0_; have HB := n1_; clear n0_ n1_; (try clear hb); (try clear hb2); (try clear hk); (try clear hi); (try clear ho0))); try go_wp2_with (first | (go_at_call 37; (with_reducible refine (forebearref05_Longest.calls _ _ l0 _ _ l1 t202 _ ?side1 ?side2 ?side3 ?side4 A6.out).mono ?_); (case side1 => repeat (first | exact (Kd.C_below HR0.out HB.out) | (with_reducible refine Kd.C_alloc ?_ _) | (with_reducible refine Kd.C_drewN ?_ _) | (with_reducible refine Kd.C_drew ?_))); (case side2 => exact HC0.out); (case side3 => repeat (first | exact (Kd.C_below HR1.out HB.out) | (with_reducible refine Kd.C_alloc ?_ _) | (with_reducible refine Kd.C_drewN ?_ _) | (with_reducible refine Kd.C_drew ?_))); (case side4 => exact HC1.out); rintro e w7 ⟨v203, rfl, ho0, hb⟩; have n0_ := Aside0.mk (Kd.S_lower ho0 (below_size (by repeat (first | (with_reducible first | exact HB.out | apply below_alloc | apply pw_below_drewN | apply below_drew1) | exact HB.out)))); have n1_ := Aside0.mk (below_step (by repeat (first | (with_reducible first | exact HB.out | apply below_alloc | apply pw_below_drewN | apply below_drew1) | exact HB.out)) hb); clear HB; have HO204 := n0_; have HB := n1_; clear n0_ n1_; (try clear hb); (try clear hb2); (try clear hk); (try clear hi); (try clear ho0))))
        go_loopg [7, 8, 9] kj2 (fun kq v7 v8 v9 w' => ∃ (x7_2 : List (S40)) (x8_2 : Int) (x9_2 : Int), v8 = .int .i64 x8_2 ∧ v9 = .int .i64 x9_2 ∧ Aside0 (forebearref05_Match.l0 kq l0 l1 t202 x7_2 x8_2 x9_2 = some (r1, r2)) ∧ Aside0 (kq ≤ kj2) ∧ Aside0 (Kd.S (Kd.slice 3 (Kd.int .i64)) 42 w' w.heap.size (fun _ => True) v203 t202) ∧ Aside0 (Kd.R k40 40 w' w.heap.size (fun _ => True) v7 x7_2) ∧ Aside0 (Below w.heap.size w w'))
        case atStart => exact ⟨(([] : List (S40))), (0), (0), (by first | rfl | (simp; done) | (simp [*]; done)), (by first | rfl | (simp; done) | (simp [*]; done)), H', ⟨Nat.le_refl _⟩, ⟨by (with_reducible repeat (first | apply Kd.S_alloc | apply Kd.S_drewN | apply Kd.S_drew)); exact HO204.out⟩, ⟨by first | exact Kd.R_nil _ _ _ _ _ | exact Kd.N_nil _ _ _ _ _ | exact Kd.V_nil _ _ _ _ _ | exact Kd.Q_nil _ _ _ _ _ | exact Kd.S_nil _ _ _ _ _⟩, ⟨by repeat (first | (with_reducible first | exact HB.out | apply below_alloc | apply pw_below_drewN | apply below_drew1) | exact HB.out)⟩⟩
        case round =>
          clear H'
          try clear c1
          try clear p2
          try clear c4
          try clear c4b0
          try clear c4b1
          try clear c5
          try clear p2
          obtain ⟨x7_2, x8_2, x9_2, rfl, rfl, HA, HK2, HO_6, HO_7, HB⟩ := hrel
          cases gk with
          | zero => exact absurd HA.out (by simp [forebearref05_Match.l0])
          | succ k2 =>
            have H := HA.out
            clear HA
            simp only [forebearref05_Match.l0] at H
            have HC8 := Aside0.mk H
            clear H
            go_upto_region 7 with (fail)
            repeat (go_quiet (fail); go_upto_region 7 with (fail))
            go_cut [30] (fun v30 wc => ∃ (kq : Nat) (x30_7 : Bool), v30 = .bool x30_7 ∧ Aside0 (forebearref05_Match.j2 kq l0 l1 t202 x7_2 x8_2 x9_2 x30_7 = some (r1, r2)) ∧ Aside0 (kq ≤ k2) ∧ Aside0 (Kd.S (Kd.slice 3 (Kd.int .i64)) 42 wc w.heap.size (fun _ => True) v203 t202) ∧ Aside0 (Kd.R k40 40 wc w.heap.size (fun _ => True) u7 x7_2) ∧ Aside0 (Below w.heap.size w wc))
            case first =>
              have H := HC8.out
              clear HC8
              by_cases c9 : x8_2 < (l0.length : Int)
              · rw [if_pos c9] at H
                have c9b0 : decide (x8_2 < (l0.length : Int)) = true := decide_eq_true c9
                clear c9
                (first | rw [c9b0] | (simp only [i64_w, i32_w]; rw [c9b0]) | skip)
                have H' := Aside0.mk H
                clear H
                go_wp2
                repeat (go_quiet (fail); try go_wp2)
                go_meet
                case rel => exact ⟨_, (decide (x9_2 < (l1.length : Int))), (by first | rfl | (simp; done) | (simp [*]; done)), H', ⟨by have := HJ2.out; have := HK2.out; first | omega | exact Nat.le_refl _⟩, ⟨by (with_reducible repeat (first | apply Kd.S_alloc | apply Kd.S_drewN | apply Kd.S_drew)); exact HO_6.out⟩, ⟨by (with_reducible repeat (first | apply Kd.R_alloc | apply Kd.R_drewN | apply Kd.R_drew)); exact HO_7.out⟩, ⟨by repeat (first | (with_reducible first | exact HB.out | apply below_alloc | apply pw_below_drewN | apply below_drew1) | exact HB.out)⟩⟩
              · rw [if_neg c9] at H
                have c9b0 : decide (x8_2 < (l0.length : Int)) = false := decide_eq_false c9
                clear c9
                (first | rw [c9b0] | (simp only [i64_w, i32_w]; rw [c9b0]) | skip)
                have H' := Aside0.mk H
                clear H
                go_wp2
                repeat (go_quiet (fail); try go_wp2)
                go_meet
                case rel => exact ⟨_, (false), (by first | rfl | (simp; done) | (simp [*]; done)), H', ⟨by have := HJ2.out; have := HK2.out; first | omega | exact Nat.le_refl _⟩, ⟨by (with_reducible repeat (first | apply Kd.S_alloc | apply Kd.S_drewN | apply Kd.S_drew)); exact HO_6.out⟩, ⟨by (with_reducible repeat (first | apply Kd.R_alloc | apply Kd.R_drewN | apply Kd.R_drew)); exact HO_7.out⟩, ⟨by repeat (first | (with_reducible first | exact HB.out | apply below_alloc | apply pw_below_drewN | apply below_drew1) | exact HB.out)⟩⟩
            case rest =>
              clear HC8
              try clear c1
              try clear p2
              try clear c4
              try clear c4b0
              try clear c4b1
              try clear c5
              try clear c9
              try clear c9b0
              try clear p2
              obtain ⟨kq, x30_7, rfl, HA, HJ7, HO_6, HO_7, HB⟩ := hcut
              cases kq with
              | zero => exact absurd HA.out (by simp [forebearref05_Match.j2])
              | succ kj7 =>
                have H := HA.out
                clear HA
                simp only [forebearref05_Match.j2] at H
                by_cases c10 : x30_7 = true
                · subst c10
                  have H1 : (if 0 ≤ x8_2 then (if x8_2 < (l0.length : Int) then (if 0 ≤ x9_2 then (if x9_2 < (l1.length : Int) then (if (rdOf ByteArray.empty l0 x8_2).toList = (rdOf ByteArray.empty l1 x9_2).toList then (if x7_2.length < 8796093022208 then (forebearref05_Match.l0 kj7 l0 l1 t202 (x7_2 ++ [(⟨x8_2, x9_2⟩ : S40)]) (wrap64 (x8_2 + 1)) (wrap64 (x9_2 + 1))) else (none)) else (if 0 ≤ (wrap64 (x8_2 + 1)) then (if (wrap64 (x8_2 + 1)) < (t202.length : Int) then (if x9_2 < ((rd_L8 t202 (wrap64 (x8_2 + 1))).length : Int) then (if x8_2 < (t202.length : Int) then (if 0 ≤ (wrap64 (x9_2 + 1)) then (if (wrap64 (x9_2 + 1)) < ((rd_L8 t202 x8_2).length : Int) then (if (rd (rd_L8 t202 (wrap64 (x8_2 + 1))) x9_2) ≥ (rd (rd_L8 t202 x8_2) (wrap64 (x9_2 + 1))) then (forebearref05_Match.l0 kj7 l0 l1 t202 x7_2 (wrap64 (x8_2 + 1)) x9_2) else (forebearref05_Match.l0 kj7 l0 l1 t202 x7_2 x8_2 (wrap64 (x9_2 + 1)))) else (none)) else (none)) else (none)) else (none)) else (none)) else (none))) else (none)) else (none)) else (none)) else (none)) = some (r1, r2) := by rw [if_pos rfl] at H; exact H
                  clear H
                  have H := H1
                  clear H1
                  by_cases c11 : 0 ≤ x8_2
                  · rw [if_pos c11] at H
                    have c11b0 : decide (0 ≤ x8_2) = true := decide_eq_true c11
                    clear c11
                    by_cases c12 : x8_2 < (l0.length : Int)
                    · rw [if_pos c12] at H
                      have c12b0 : decide (x8_2 < (l0.length : Int)) = true := decide_eq_true c12
                      clear c12
                      by_cases c13 : 0 ≤ x9_2
                      · rw [if_pos c13] at H
                        have c13b0 : decide (0 ≤ x9_2) = true := decide_eq_true c13
                        clear c13
                        by_cases c14 : x9_2 < (l1.length : Int)
                        · rw [if_pos c14] at H
                          have c14b0 : decide (x9_2 < (l1.length : Int)) = true := decide_eq_true c14
                          clear c14
                          by_cases c15 : (rdOf ByteArray.empty l0 x8_2).toList = (rdOf ByteArray.empty l1 x9_2).toList
                          · rw [if_pos c15] at H
                            have c15b0 : ((rdOf ByteArray.empty l0 x8_2).toList == (rdOf ByteArray.empty l1 x9_2).toList) = true := beq_iff_eq.mpr c15
                            have c15b1 : ((rdOf ByteArray.empty l0 x8_2).toList != (rdOf ByteArray.empty l1 x9_2).toList) = false := bne_eq_false_iff_eq.mpr c15
                            clear c15
                            by_cases c16 : x7_2.length < 8796093022208
                            · rw [if_pos c16] at H
                              have LMc16 := Aside0.mk c16
                              clear c16
                              obtain ⟨y207, hy207⟩ : ∃ y_ : List (S40), y_ = (x7_2 ++ [(⟨x8_2, x9_2⟩ : S40)]) := ⟨_, rfl⟩
                              replace H : (forebearref05_Match.l0 kj7 l0 l1 t202 y207 (wrap64 (x8_2 + 1)) (wrap64 (x9_2 + 1))) = some (r1, r2) := by first | (rw [hy207]; with_reducible exact H) | (have H2_ := (Option.bind_some _ _).symm.trans H; rw [hy207]; with_reducible exact H2_) | (have H2_ := (Option.bind_some _ _).symm.trans H; with_reducible exact H2_) | with_reducible exact H | (rw [hy207]; exact H) | exact H
                              have Ny207 := Aside0.mk hy207
                              clear hy207
                              have H' := Aside0.mk H
                              clear H
                              have p205 : 0 ≤ (x8_2 : Int) := of_decide_eq_true (by first | (with_reducible assumption) | assumption)
                              have q205 : x8_2 < (l0.length : Int) := of_decide_eq_true (by first | (with_reducible assumption) | assumption)
                              obtain ⟨ad205, e205, hx205_0⟩ := Kd.at_string HR0.out x8_2 p205 q205
                              cases e205
                              try replace hx205_0 := (HB.out.cell (World.block_lt_of_cell? w _ hx205_0)).trans hx205_0
                              replace p205 := eq_true p205
                              replace q205 := eq_true q205
                              have p206 : 0 ≤ (x9_2 : Int) := of_decide_eq_true (by first | (with_reducible assumption) | assumption)
                              have q206 : x9_2 < (l1.length : Int) := of_decide_eq_true (by first | (with_reducible assumption) | assumption)
                              obtain ⟨ad206, e206, hx206_0⟩ := Kd.at_string HR1.out x9_2 p206 q206
                              cases e206
                              try replace hx206_0 := (HB.out.cell (World.block_lt_of_cell? w _ hx206_0)).trans hx206_0
                              replace p206 := eq_true p206
                              replace q206 := eq_true q206
                              go_wp2_with (first | ((with_reducible refine gate_builtin (b := .append) (xs := #[.tmp 40, .tmp 44]) rfl ?_); (try (refine gate_guard (by rfl) ?_; dsimp only)); at_builtin; refine Kd.R_append k40 (w0 := w) w.heap.size rfl (.tmp 40) (.tmp 44) 28 40 (.agg #[(.int .i64 0), (.int .i64 0)]) 16 rfl Try.underlying28 info40 rfl (by decide) (by omega) u7 x7_2 (⟨x8_2, x9_2⟩ : S40) [.int .i64 x8_2, .int .i64 x9_2] (fun _ => True) (fun _ => False) rfl rfl ?aP (fun _ hk => hk.elim) ?aF ?aO ?aB ?aS ?aL ?_; (case aP => exact k40_mkM _ _ _ (⟨x8_2, x9_2⟩ : S40)); (case aB => exact (by repeat (first | (with_reducible first | exact HB.out | apply below_alloc | apply pw_below_drewN | apply below_drew1) | exact HB.out))); (case aF => exact (fun _ _ => trivial)); (case aO => exact (by (with_reducible repeat (first | apply Kd.R_alloc | apply Kd.R_drewN | apply Kd.R_drew)); exact HO_7.out)); (case aS => exact (below_size (by repeat (first | (with_reducible first | exact HB.out | apply below_alloc | apply pw_below_drewN | apply below_drew1) | exact HB.out)))); (case aL => have := LMc16.out; omega); intro v208 w17 ho hb hg hat; rw [← Ny207.out] at ho; have n0_ := Aside0.mk (Kd.S_over' (by (with_reducible repeat (first | apply Kd.S_alloc | apply Kd.S_drewN | apply Kd.S_drew)); exact HO_6.out) (Kd.R_typed (by (with_reducible repeat (first | apply Kd.R_alloc | apply Kd.R_drewN | apply Kd.R_drew)); exact HO_7.out)) (by decide) hg); have n1_ := Aside0.mk (hb); have n2_ := Aside0.mk (ho); clear HO_6; clear HB; clear HO_7; have HO_6 := n0_; have HB := n1_; have HO209 := n2_; clear n0_ n1_ n2_; clear ho hb hg hat))
                              repeat (go_quiet (fail); try go_wp2_with (first | ((with_reducible refine gate_builtin (b := .append) (xs := #[.tmp 40, .tmp 44]) rfl ?_); (try (refine gate_guard (by rfl) ?_; dsimp only)); at_builtin; refine Kd.R_append k40 (w0 := w) w.heap.size rfl (.tmp 40) (.tmp 44) 28 40 (.agg #[(.int .i64 0), (.int .i64 0)]) 16 rfl Try.underlying28 info40 rfl (by decide) (by omega) u7 x7_2 (⟨x8_2, x9_2⟩ : S40) [.int .i64 x8_2, .int .i64 x9_2] (fun _ => True) (fun _ => False) rfl rfl ?aP (fun _ hk => hk.elim) ?aF ?aO ?aB ?aS ?aL ?_; (case aP => exact k40_mkM _ _ _ (⟨x8_2, x9_2⟩ : S40)); (case aB => exact (by repeat (first | (with_reducible first | exact HB.out | apply below_alloc | apply pw_below_drewN | apply below_drew1) | exact HB.out))); (case aF => exact (fun _ _ => trivial)); (case aO => exact (by (with_reducible repeat (first | apply Kd.R_alloc | apply Kd.R_drewN | apply Kd.R_drew)); exact HO_7.out)); (case aS => exact (below_size (by repeat (first | (with_reducible first | exact HB.out | apply below_alloc | apply pw_below_drewN | apply below_drew1) | exact HB.out)))); (case aL => have := LMc16.out; omega); intro v208 w17 ho hb hg hat; rw [← Ny207.out] at ho; have n0_ := Aside0.mk (Kd.S_over' (by (with_reducible repeat (first | apply Kd.S_alloc | apply Kd.S_drewN | apply Kd.S_drew)); exact HO_6.out) (Kd.R_typed (by (with_reducible repeat (first | apply Kd.R_alloc | apply Kd.R_drewN | apply Kd.R_drew)); exact HO_7.out)) (by decide) hg); have n1_ := Aside0.mk (hb); have n2_ := Aside0.mk (ho); clear HO_6; clear HB; clear HO_7; have HO_6 := n0_; have HB := n1_; have HO209 := n2_; clear n0_ n1_ n2_; clear ho hb hg hat)))
                              go_roundg kj7
                              case measure => have := HJ2.out; have := HK2.out; have := HJ7.out; omega
                              case rel => exact ⟨(y207), (wrap64 (x8_2 + 1)), (wrap64 (x9_2 + 1)), (by first | rfl | (simp; done) | (simp [*]; done)), (by first | rfl | (simp; done) | (simp [*]; done)), H', ⟨by have := HJ2.out; have := HK2.out; have := HJ7.out; omega⟩, ⟨by (with_reducible repeat (first | apply Kd.S_alloc | apply Kd.S_drewN | apply Kd.S_drew)); exact HO_6.out⟩, ⟨by (with_reducible repeat (first | apply Kd.R_alloc | apply Kd.R_drewN | apply Kd.R_drew)); exact HO209.out⟩, ⟨by repeat (first | (with_reducible first | exact HB.out | apply below_alloc | apply pw_below_drewN | apply below_drew1) | exact HB.out)⟩⟩
                            · rw [if_neg c16] at H
                              exact absurd H (by simp)
                          · rw [if_neg c15] at H
                            have c15b0 : ((rdOf ByteArray.empty l0 x8_2).toList == (rdOf ByteArray.empty l1 x9_2).toList) = false := beq_eq_false_iff_ne.mpr c15
                            have c15b1 : ((rdOf ByteArray.empty l0 x8_2).toList != (rdOf ByteArray.empty l1 x9_2).toList) = true := bne_iff_ne.mpr c15
                            obtain ⟨ji18, hji18⟩ : ∃ j_ : Int, (wrap64 (x8_2 + 1)) = j_ := ⟨_, rfl⟩
                            replace H : (if 0 ≤ (ji18) then (if (ji18) < (t202.length : Int) then (if x9_2 < ((rd_L8 t202 (ji18)).length : Int) then (if x8_2 < (t202.length : Int) then (if 0 ≤ (wrap64 (x9_2 + 1)) then (if (wrap64 (x9_2 + 1)) < ((rd_L8 t202 x8_2).length : Int) then (if (rd (rd_L8 t202 (ji18)) x9_2) ≥ (rd (rd_L8 t202 x8_2) (wrap64 (x9_2 + 1))) then (forebearref05_Match.l0 kj7 l0 l1 t202 x7_2 ji18 x9_2) else (forebearref05_Match.l0 kj7 l0 l1 t202 x7_2 x8_2 (wrap64 (x9_2 + 1)))) else (none)) else (none)) else (none)) else (none)) else (none)) else (none)) = some (r1, r2) := by first | (rw [hji18] at H; exact H) | (simp only [hji18] at H ⊢; exact H)
                            have hji18w : (IntKind.i64.wrap (x8_2 + 1)) = ji18 := (i64_w _).trans hji18
                            by_cases c19 : 0 ≤ (ji18)
                            · rw [if_pos c19] at H
                              have c19b0 : decide (0 ≤ (ji18)) = true := decide_eq_true c19
                              clear c19
                              by_cases c20 : (ji18) < (t202.length : Int)
                              · rw [if_pos c20] at H
                                have c20b0 : decide ((ji18) < (t202.length : Int)) = true := decide_eq_true c20
                                clear c20
                                by_cases c21 : x9_2 < ((rd_L8 t202 (ji18)).length : Int)
                                · rw [if_pos c21] at H
                                  have c21b0 : decide (x9_2 < ((rd_L8 t202 (ji18)).length : Int)) = true := decide_eq_true c21
                                  clear c21
                                  by_cases c22 : x8_2 < (t202.length : Int)
                                  · rw [if_pos c22] at H
                                    have c22b0 : decide (x8_2 < (t202.length : Int)) = true := decide_eq_true c22
                                    clear c22
                                    obtain ⟨ji23, hji23⟩ : ∃ j_ : Int, (wrap64 (x9_2 + 1)) = j_ := ⟨_, rfl⟩
                                    replace H : (if 0 ≤ (ji23) then (if (ji23) < ((rd_L8 t202 x8_2).length : Int) then (if (rd (rd_L8 t202 (ji18)) x9_2) ≥ (rd (rd_L8 t202 x8_2) (ji23)) then (forebearref05_Match.l0 kj7 l0 l1 t202 x7_2 ji18 x9_2) else (forebearref05_Match.l0 kj7 l0 l1 t202 x7_2 x8_2 ji23)) else (none)) else (none)) = some (r1, r2) := by first | (rw [hji23] at H; exact H) | (simp only [hji23] at H ⊢; exact H)
                                    have hji23w : (IntKind.i64.wrap (x9_2 + 1)) = ji23 := (i64_w _).trans hji23
                                    by_cases c24 : 0 ≤ (ji23)
                                    · rw [if_pos c24] at H
                                      have c24b0 : decide (0 ≤ (ji23)) = true := decide_eq_true c24
                                      clear c24
                                      by_cases c25 : (ji23) < ((rd_L8 t202 x8_2).length : Int)
                                      · rw [if_pos c25] at H
                                        have c25b0 : decide ((ji23) < ((rd_L8 t202 x8_2).length : Int)) = true := decide_eq_true c25
                                        clear c25
                                        by_cases c26 : (rd (rd_L8 t202 (ji18)) x9_2) ≥ (rd (rd_L8 t202 x8_2) (ji23))
                                        · rw [if_pos c26] at H
                                          have c26b0 : decide ((rd (rd_L8 t202 x8_2) (ji23)) ≤ (rd (rd_L8 t202 (ji18)) x9_2)) = true := decide_eq_true c26
                                          clear c26
                                          have H' := Aside0.mk H
                                          clear H
                                          have p205 : 0 ≤ (x8_2 : Int) := of_decide_eq_true (by first | (with_reducible assumption) | assumption)
                                          have q205 : x8_2 < (l0.length : Int) := of_decide_eq_true (by first | (with_reducible assumption) | assumption)
                                          obtain ⟨ad205, e205, hx205_0⟩ := Kd.at_string HR0.out x8_2 p205 q205
                                          cases e205
                                          try replace hx205_0 := (HB.out.cell (World.block_lt_of_cell? w _ hx205_0)).trans hx205_0
                                          replace p205 := eq_true p205
                                          replace q205 := eq_true q205
                                          have p206 : 0 ≤ (x9_2 : Int) := of_decide_eq_true (by first | (with_reducible assumption) | assumption)
                                          have q206 : x9_2 < (l1.length : Int) := of_decide_eq_true (by first | (with_reducible assumption) | assumption)
                                          obtain ⟨ad206, e206, hx206_0⟩ := Kd.at_string HR1.out x9_2 p206 q206
                                          cases e206
                                          try replace hx206_0 := (HB.out.cell (World.block_lt_of_cell? w _ hx206_0)).trans hx206_0
                                          replace p206 := eq_true p206
                                          replace q206 := eq_true q206
                                          obtain ⟨Ao27, co27, eo27⟩ := Kd.S_slice HO_6.out
                                          subst eo27
                                          have p210 : 0 ≤ ((ji18) : Int) := of_decide_eq_true (by first | (with_reducible assumption) | assumption)
                                          have q210 : (ji18) < (t202.length : Int) := of_decide_eq_true (by first | (with_reducible assumption) | assumption)
                                          obtain ⟨ad210, A210_0, c210_0, e210, hx210_0, hl210_0, hi210_0⟩ := at_L8 (Kd.S_reads' HO_6.out).2.2 (ji18) p210 q210
                                          cases e210
                                          obtain ⟨ce210, hce210, hMe210, hcc210⟩ := Kd.S_get HO_6.out [] (ji18) p210 (by first | exact q210 | exact of_decide_eq_true (by first | (with_reducible assumption) | assumption) | (have e_ := (Kd.S_reads' HO_6.out).1; omega))
                                          obtain ⟨ve210_0, rfl, ge210_0⟩ := hMe210
                                          have hv210_0 := hcc210 0 _ rfl
                                          rw [Nat.add_zero, show ((Kd.slice 3 (Kd.int .i64))).sz = 1 from rfl, Nat.mul_one] at hv210_0
                                          replace hv210_0 := Option.some.inj (hv210_0.symm.trans hx210_0)
                                          rw [hv210_0] at ge210_0
                                          have HL210_0 := Aside0.mk (show Kd.R (Kd.int .i64) 3 _ _ _ _ (rd_L8 t202 (ji18)) from ge210_0)
                                          clear hv210_0 ge210_0
                                          clear hcc210 hce210
                                          have HR210_0 := Aside0.mk hi210_0
                                          have HC210_0 := Aside0.mk hl210_0
                                          clear hi210_0 hl210_0
                                          replace p210 := eq_true p210
                                          replace q210 := eq_true q210
                                          have p211 : 0 ≤ (x9_2 : Int) := of_decide_eq_true (by first | (with_reducible assumption) | assumption)
                                          have q211 : x9_2 < ((rd_L8 t202 (ji18)).length : Int) := of_decide_eq_true (by first | (with_reducible assumption) | assumption)
                                          obtain ⟨ad211, e211, hx211_0⟩ := Kd.at_int (by repeat (first | (with_reducible exact HR210_0.out) | (with_reducible refine Kd.C_alloc ?_ _) | (with_reducible refine Kd.C_drewN ?_ _) | (with_reducible refine Kd.C_drew ?_) | exact HR210_0.out)) x9_2 p211 q211
                                          cases e211
                                          replace p211 := eq_true p211
                                          replace q211 := eq_true q211
                                          have p212 : 0 ≤ (x8_2 : Int) := of_decide_eq_true (by first | (with_reducible assumption) | assumption)
                                          have q212 : x8_2 < (t202.length : Int) := of_decide_eq_true (by first | (with_reducible assumption) | assumption)
                                          obtain ⟨ad212, A212_0, c212_0, e212, hx212_0, hl212_0, hi212_0⟩ := at_L8 (Kd.S_reads' HO_6.out).2.2 x8_2 p212 q212
                                          obtain rfl : ad210 = ad212 := (by injection e212)
                                          obtain ⟨ce212, hce212, hMe212, hcc212⟩ := Kd.S_get HO_6.out [] x8_2 p212 (by first | exact q212 | exact of_decide_eq_true (by first | (with_reducible assumption) | assumption) | (have e_ := (Kd.S_reads' HO_6.out).1; omega))
                                          obtain ⟨ve212_0, rfl, ge212_0⟩ := hMe212
                                          have hv212_0 := hcc212 0 _ rfl
                                          rw [Nat.add_zero, show ((Kd.slice 3 (Kd.int .i64))).sz = 1 from rfl, Nat.mul_one] at hv212_0
                                          replace hv212_0 := Option.some.inj (hv212_0.symm.trans hx212_0)
                                          rw [hv212_0] at ge212_0
                                          have HL212_0 := Aside0.mk (show Kd.R (Kd.int .i64) 3 _ _ _ _ (rd_L8 t202 x8_2) from ge212_0)
                                          clear hv212_0 ge212_0
                                          clear hcc212 hce212
                                          have HR212_0 := Aside0.mk hi212_0
                                          have HC212_0 := Aside0.mk hl212_0
                                          clear hi212_0 hl212_0
                                          replace p212 := eq_true p212
                                          replace q212 := eq_true q212
                                          have p213 : 0 ≤ ((ji23) : Int) := of_decide_eq_true (by first | (with_reducible assumption) | assumption)
                                          have q213 : (ji23) < ((rd_L8 t202 x8_2).length : Int) := of_decide_eq_true (by first | (with_reducible assumption) | assumption)
                                          obtain ⟨ad213, e213, hx213_0⟩ := Kd.at_int (by repeat (first | (with_reducible exact HR212_0.out) | (with_reducible refine Kd.C_alloc ?_ _) | (with_reducible refine Kd.C_drewN ?_ _) | (with_reducible refine Kd.C_drew ?_) | exact HR212_0.out)) (ji23) p213 q213
                                          cases e213
                                          replace p213 := eq_true p213
                                          replace q213 := eq_true q213
                                          go_wp2
                                          repeat (go_quiet (fail); try go_wp2)
                                          go_roundg kj7
                                          case measure => have := HJ2.out; have := HK2.out; have := HJ7.out; omega
                                          case rel => exact ⟨(x7_2), (ji18), (x9_2), (by first | rfl | (simp; done) | (simp only [← hji18] <;> (first | rfl | simp)) | (simp [*]; done)), (by first | rfl | (simp; done) | (simp [*]; done)), H', ⟨by have := HJ2.out; have := HK2.out; have := HJ7.out; omega⟩, ⟨by (with_reducible repeat (first | apply Kd.S_alloc | apply Kd.S_drewN | apply Kd.S_drew)); exact HO_6.out⟩, ⟨by (with_reducible repeat (first | apply Kd.R_alloc | apply Kd.R_drewN | apply Kd.R_drew)); exact HO_7.out⟩, ⟨by repeat (first | (with_reducible first | exact HB.out | apply below_alloc | apply pw_below_drewN | apply below_drew1) | exact HB.out)⟩⟩
                                        · rw [if_neg c26] at H
                                          have c26b0 : decide ((rd (rd_L8 t202 x8_2) (ji23)) ≤ (rd (rd_L8 t202 (ji18)) x9_2)) = false := decide_eq_false c26
                                          clear c26
                                          have H' := Aside0.mk H
                                          clear H
                                          have p205 : 0 ≤ (x8_2 : Int) := of_decide_eq_true (by first | (with_reducible assumption) | assumption)
                                          have q205 : x8_2 < (l0.length : Int) := of_decide_eq_true (by first | (with_reducible assumption) | assumption)
                                          obtain ⟨ad205, e205, hx205_0⟩ := Kd.at_string HR0.out x8_2 p205 q205
                                          cases e205
                                          try replace hx205_0 := (HB.out.cell (World.block_lt_of_cell? w _ hx205_0)).trans hx205_0
                                          replace p205 := eq_true p205
                                          replace q205 := eq_true q205
                                          have p206 : 0 ≤ (x9_2 : Int) := of_decide_eq_true (by first | (with_reducible assumption) | assumption)
                                          have q206 : x9_2 < (l1.length : Int) := of_decide_eq_true (by first | (with_reducible assumption) | assumption)
                                          obtain ⟨ad206, e206, hx206_0⟩ := Kd.at_string HR1.out x9_2 p206 q206
                                          cases e206
                                          try replace hx206_0 := (HB.out.cell (World.block_lt_of_cell? w _ hx206_0)).trans hx206_0
                                          replace p206 := eq_true p206
                                          replace q206 := eq_true q206
                                          obtain ⟨Ao28, co28, eo28⟩ := Kd.S_slice HO_6.out
                                          subst eo28
                                          have p210 : 0 ≤ ((ji18) : Int) := of_decide_eq_true (by first | (with_reducible assumption) | assumption)
                                          have q210 : (ji18) < (t202.length : Int) := of_decide_eq_true (by first | (with_reducible assumption) | assumption)
                                          obtain ⟨ad210, A210_0, c210_0, e210, hx210_0, hl210_0, hi210_0⟩ := at_L8 (Kd.S_reads' HO_6.out).2.2 (ji18) p210 q210
                                          cases e210
                                          obtain ⟨ce210, hce210, hMe210, hcc210⟩ := Kd.S_get HO_6.out [] (ji18) p210 (by first | exact q210 | exact of_decide_eq_true (by first | (with_reducible assumption) | assumption) | (have e_ := (Kd.S_reads' HO_6.out).1; omega))
                                          obtain ⟨ve210_0, rfl, ge210_0⟩ := hMe210
                                          have hv210_0 := hcc210 0 _ rfl
                                          rw [Nat.add_zero, show ((Kd.slice 3 (Kd.int .i64))).sz = 1 from rfl, Nat.mul_one] at hv210_0
                                          replace hv210_0 := Option.some.inj (hv210_0.symm.trans hx210_0)
                                          rw [hv210_0] at ge210_0
                                          have HL210_0 := Aside0.mk (show Kd.R (Kd.int .i64) 3 _ _ _ _ (rd_L8 t202 (ji18)) from ge210_0)
                                          clear hv210_0 ge210_0
                                          clear hcc210 hce210
                                          have HR210_0 := Aside0.mk hi210_0
                                          have HC210_0 := Aside0.mk hl210_0
                                          clear hi210_0 hl210_0
                                          replace p210 := eq_true p210
                                          replace q210 := eq_true q210
                                          have p211 : 0 ≤ (x9_2 : Int) := of_decide_eq_true (by first | (with_reducible assumption) | assumption)
                                          have q211 : x9_2 < ((rd_L8 t202 (ji18)).length : Int) := of_decide_eq_true (by first | (with_reducible assumption) | assumption)
                                          obtain ⟨ad211, e211, hx211_0⟩ := Kd.at_int (by repeat (first | (with_reducible exact HR210_0.out) | (with_reducible refine Kd.C_alloc ?_ _) | (with_reducible refine Kd.C_drewN ?_ _) | (with_reducible refine Kd.C_drew ?_) | exact HR210_0.out)) x9_2 p211 q211
                                          cases e211
                                          replace p211 := eq_true p211
                                          replace q211 := eq_true q211
                                          have p212 : 0 ≤ (x8_2 : Int) := of_decide_eq_true (by first | (with_reducible assumption) | assumption)
                                          have q212 : x8_2 < (t202.length : Int) := of_decide_eq_true (by first | (with_reducible assumption) | assumption)
                                          obtain ⟨ad212, A212_0, c212_0, e212, hx212_0, hl212_0, hi212_0⟩ := at_L8 (Kd.S_reads' HO_6.out).2.2 x8_2 p212 q212
                                          obtain rfl : ad210 = ad212 := (by injection e212)
                                          obtain ⟨ce212, hce212, hMe212, hcc212⟩ := Kd.S_get HO_6.out [] x8_2 p212 (by first | exact q212 | exact of_decide_eq_true (by first | (with_reducible assumption) | assumption) | (have e_ := (Kd.S_reads' HO_6.out).1; omega))
                                          obtain ⟨ve212_0, rfl, ge212_0⟩ := hMe212
                                          have hv212_0 := hcc212 0 _ rfl
                                          rw [Nat.add_zero, show ((Kd.slice 3 (Kd.int .i64))).sz = 1 from rfl, Nat.mul_one] at hv212_0
                                          replace hv212_0 := Option.some.inj (hv212_0.symm.trans hx212_0)
                                          rw [hv212_0] at ge212_0
                                          have HL212_0 := Aside0.mk (show Kd.R (Kd.int .i64) 3 _ _ _ _ (rd_L8 t202 x8_2) from ge212_0)
                                          clear hv212_0 ge212_0
                                          clear hcc212 hce212
                                          have HR212_0 := Aside0.mk hi212_0
                                          have HC212_0 := Aside0.mk hl212_0
                                          clear hi212_0 hl212_0
                                          replace p212 := eq_true p212
                                          replace q212 := eq_true q212
                                          have p213 : 0 ≤ ((ji23) : Int) := of_decide_eq_true (by first | (with_reducible assumption) | assumption)
                                          have q213 : (ji23) < ((rd_L8 t202 x8_2).length : Int) := of_decide_eq_true (by first | (with_reducible assumption) | assumption)
                                          obtain ⟨ad213, e213, hx213_0⟩ := Kd.at_int (by repeat (first | (with_reducible exact HR212_0.out) | (with_reducible refine Kd.C_alloc ?_ _) | (with_reducible refine Kd.C_drewN ?_ _) | (with_reducible refine Kd.C_drew ?_) | exact HR212_0.out)) (ji23) p213 q213
                                          cases e213
                                          replace p213 := eq_true p213
                                          replace q213 := eq_true q213
                                          go_wp2
                                          repeat (go_quiet (fail); try go_wp2)
                                          go_roundg kj7
                                          case measure => have := HJ2.out; have := HK2.out; have := HJ7.out; omega
                                          case rel => exact ⟨(x7_2), (x8_2), (ji23), (by first | rfl | (simp; done) | (simp [*]; done)), (by first | rfl | (simp; done) | (simp only [← hji23] <;> (first | rfl | simp)) | (simp [*]; done)), H', ⟨by have := HJ2.out; have := HK2.out; have := HJ7.out; omega⟩, ⟨by (with_reducible repeat (first | apply Kd.S_alloc | apply Kd.S_drewN | apply Kd.S_drew)); exact HO_6.out⟩, ⟨by (with_reducible repeat (first | apply Kd.R_alloc | apply Kd.R_drewN | apply Kd.R_drew)); exact HO_7.out⟩, ⟨by repeat (first | (with_reducible first | exact HB.out | apply below_alloc | apply pw_below_drewN | apply below_drew1) | exact HB.out)⟩⟩
                                      · rw [if_neg c25] at H
                                        exact absurd H (by simp)
                                    · rw [if_neg c24] at H
                                      exact absurd H (by simp)
                                  · rw [if_neg c22] at H
                                    exact absurd H (by simp)
                                · rw [if_neg c21] at H
                                  exact absurd H (by simp)
                              · rw [if_neg c20] at H
                                exact absurd H (by simp)
                            · rw [if_neg c19] at H
                              exact absurd H (by simp)
                        · rw [if_neg c14] at H
                          exact absurd H (by simp)
                      · rw [if_neg c13] at H
                        exact absurd H (by simp)
                    · rw [if_neg c12] at H
                      exact absurd H (by simp)
                  · rw [if_neg c11] at H
                    exact absurd H (by simp)
                · replace c10 := Bool.eq_false_iff.mpr c10
                  subst c10
                  have H1 : (some (x7_2, 0)) = some (r1, r2) := by rw [if_neg (show ¬ (false = true) by decide)] at H; exact H
                  clear H
                  have H := H1
                  clear H1
                  simp only [Option.some.injEq, Prod.mk.injEq] at H
                  obtain ⟨rfl, rfl⟩ := H
                  go_wp2
                  repeat (go_quiet (fail); try go_wp2)
                  go_ret2
                  exact ⟨_, by first | rfl | (simp [errW_none, errW_some] <;> rfl) | (simp [*, errW_none, errW_some] <;> rfl), by (with_reducible repeat (first | apply Kd.R_alloc | apply Kd.R_drewN | apply Kd.R_drew)); exact HO_7.out, by repeat (first | (with_reducible first | exact HB.out | apply below_alloc | apply pw_below_drewN | apply below_drew1) | exact HB.out)⟩

end Go.Proofs.Ythigjlahanejjaa.MD
