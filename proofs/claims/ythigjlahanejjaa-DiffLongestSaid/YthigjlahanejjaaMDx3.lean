/- Laid by this claim's own program (myprint) out of the translation: functions that the laws of the group D reach, each as a plain function, with the proof that the Go code comes to it. No condition. -/
import Derived.Test.YthigjlahanejjaaMDx0
import Derived.Test.YthigjlahanejjaaMDx2
namespace Go.Proofs.Ythigjlahanejjaa.MD
open Go.Proofs.Ythigjlahanejjaa.Opening
open Go.RowKit Go.Proofs.YthigjlahanejjaaW.PrintWords Go.Proofs.YthigjlahanejjaaW.PrintLast Go.Proofs.YthigjlahanejjaaW.PrintMore
attribute [local go_sem] max2_int min2_int max_two min_two max_three min_three max_four min_four   -- for this text's walks alone
set_option linter.unusedVariables false
set_option linter.unusedSimpArgs false

/-! ### diff_Match: function 13 -/
mutual
def diff_Match.j0 : Nat → List ByteArray → List ByteArray → Bool → Option ((List (S39)) × Int)
 | 0, _, _, _ => none
 | k + 1, x0, x1, x19 => if x19 = true then (some (([] : List (S39)), 4)) else (diff_Match.l0 k x0 x1 0)
def diff_Match.j2 : Nat → List ByteArray → List ByteArray → Int → Option ((List (S39)) × Int)
 | 0, _, _, _ => none
 | k + 1, x0, x1, x6 => diff_Match.l1 k x0 x1 x6 ([] : List (S39)) x6 0
def diff_Match.l1 : Nat → List ByteArray → List ByteArray → Int → List (S39) → Int → Int → Option ((List (S39)) × Int)
 | 0, _, _, _, _, _, _ => none
 | k + 1, x0, x1, x6, x7, x43, x44 => if x44 < x43 then (if x7.length < 8796093022208 then (diff_Match.l1 k x0 x1 x6 (x7 ++ [(⟨x44, x44⟩ : S39)]) x43 (wrap64 (x44 + 1))) else (none)) else (if 0 ≤ x6 then (if x6 ≤ (x0.length : Int) then (if x6 ≤ (x1.length : Int) then ((diff_lengths.f (x0.drop (x6 : Int).toNat) (x1.drop (x6 : Int).toNat)).bind fun t108 => (diff_Match.l2 k (x0.drop (x6 : Int).toNat) (x1.drop (x6 : Int).toNat) x6 x7 t108 0 0)) else (none)) else (none)) else (none))
def diff_Match.l2 : Nat → List ByteArray → List ByteArray → Int → List (S39) → List (List Int) → Int → Int → Option ((List (S39)) × Int)
 | 0, _, _, _, _, _, _, _ => none
 | k + 1, x0, x1, x6, x7, x9, x10, x11 => if x10 < (x0.length : Int) then (diff_Match.j5 k x0 x1 x6 x7 x9 x10 x11 (decide (x11 < (x1.length : Int)))) else (diff_Match.j5 k x0 x1 x6 x7 x9 x10 x11 false)
def diff_Match.j5 : Nat → List ByteArray → List ByteArray → Int → List (S39) → List (List Int) → Int → Int → Bool → Option ((List (S39)) × Int)
 | 0, _, _, _, _, _, _, _, _ => none
 | k + 1, x0, x1, x6, x7, x9, x10, x11, x72 => if x72 = true then (if 0 ≤ x10 then (if x10 < (x0.length : Int) then (if 0 ≤ x11 then (if x11 < (x1.length : Int) then (if (rdOf ByteArray.empty x0 x10).toList = (rdOf ByteArray.empty x1 x11).toList then (if x7.length < 8796093022208 then (diff_Match.l2 k x0 x1 x6 (x7 ++ [(⟨wrap64 (x6 + x10), wrap64 (x6 + x11)⟩ : S39)]) x9 (wrap64 (x10 + 1)) (wrap64 (x11 + 1))) else (none)) else (if 0 ≤ (wrap64 (x10 + 1)) then (if (wrap64 (x10 + 1)) < (x9.length : Int) then (if x11 < ((rd_L3 x9 (wrap64 (x10 + 1))).length : Int) then (if x10 < (x9.length : Int) then (if 0 ≤ (wrap64 (x11 + 1)) then (if (wrap64 (x11 + 1)) < ((rd_L3 x9 x10).length : Int) then (if (rd (rd_L3 x9 (wrap64 (x10 + 1))) x11) ≥ (rd (rd_L3 x9 x10) (wrap64 (x11 + 1))) then (diff_Match.l2 k x0 x1 x6 x7 x9 (wrap64 (x10 + 1)) x11) else (diff_Match.l2 k x0 x1 x6 x7 x9 x10 (wrap64 (x11 + 1)))) else (none)) else (none)) else (none)) else (none)) else (none)) else (none))) else (none)) else (none)) else (none)) else (none)) else (some (x7, 0))
def diff_Match.l0 : Nat → List ByteArray → List ByteArray → Int → Option ((List (S39)) × Int)
 | 0, _, _, _ => none
 | k + 1, x0, x1, x6 => if x6 < (x0.length : Int) then (if x6 < (x1.length : Int) then (if 0 ≤ x6 then (if (rdOf ByteArray.empty x0 x6).toList = (rdOf ByteArray.empty x1 x6).toList then (diff_Match.l0 k x0 x1 (wrap64 (x6 + 1))) else (diff_Match.j2 k x0 x1 x6)) else (none)) else (diff_Match.j2 k x0 x1 x6)) else (diff_Match.j2 k x0 x1 x6)
end
def diff_Match.f (k : Nat) (l0 : List ByteArray) (l1 : List ByteArray) : Option ((List (S39)) × Int) := if (l0.length : Int) > 256 then (diff_Match.j0 k l0 l1 true) else (diff_Match.j0 k l0 l1 (decide ((l1.length : Int) > 256)))
theorem diff_Match.mono_l : ∀ k, (∀ y0 y1 y2, LeO (diff_Match.j0 k y0 y1 y2) (diff_Match.j0 (k + 1) y0 y1 y2)) ∧ (∀ y0 y1 y2, LeO (diff_Match.j2 k y0 y1 y2) (diff_Match.j2 (k + 1) y0 y1 y2)) ∧ (∀ y0 y1 y2 y3 y4 y5, LeO (diff_Match.l1 k y0 y1 y2 y3 y4 y5) (diff_Match.l1 (k + 1) y0 y1 y2 y3 y4 y5)) ∧ (∀ y0 y1 y2 y3 y4 y5 y6, LeO (diff_Match.l2 k y0 y1 y2 y3 y4 y5 y6) (diff_Match.l2 (k + 1) y0 y1 y2 y3 y4 y5 y6)) ∧ (∀ y0 y1 y2 y3 y4 y5 y6 y7, LeO (diff_Match.j5 k y0 y1 y2 y3 y4 y5 y6 y7) (diff_Match.j5 (k + 1) y0 y1 y2 y3 y4 y5 y6 y7)) ∧ (∀ y0 y1 y2, LeO (diff_Match.l0 k y0 y1 y2) (diff_Match.l0 (k + 1) y0 y1 y2))
 | 0 => ⟨fun _ _ _ r h => by simp [diff_Match.j0] at h, fun _ _ _ r h => by simp [diff_Match.j2] at h, fun _ _ _ _ _ _ r h => by simp [diff_Match.l1] at h, fun _ _ _ _ _ _ _ r h => by simp [diff_Match.l2] at h, fun _ _ _ _ _ _ _ _ r h => by simp [diff_Match.j5] at h, fun _ _ _ r h => by simp [diff_Match.l0] at h⟩
 | k + 1 => by
  obtain ⟨ih0, ih1, ih2, ih3, ih4, ih5⟩ := diff_Match.mono_l k
  refine ⟨?_, ?_, ?_, ?_, ?_, ?_⟩
  ·intro y0 y1 y2
   unfold diff_Match.j0
   repeat' first
   | (with_reducible exact ih0 _ _ _)
   | (with_reducible exact ih1 _ _ _)
   | (with_reducible exact ih2 _ _ _ _ _ _)
   | (with_reducible exact ih3 _ _ _ _ _ _ _)
   | (with_reducible exact ih4 _ _ _ _ _ _ _ _)
   | (with_reducible exact ih5 _ _ _)
   | (with_reducible exact LeO.refl _)
   | (with_reducible exact LeO.none _)
   | (with_reducible refine LeO.ite ?_ ?_)
   | (with_reducible refine LeO.bind ?_ (fun _ => ?_))
   | exact ih0 _ _ _
   | exact ih1 _ _ _
   | exact ih2 _ _ _ _ _ _
   | exact ih3 _ _ _ _ _ _ _
   | exact ih4 _ _ _ _ _ _ _ _
   | exact ih5 _ _ _
   | exact LeO.none _
   | refine LeO.ite ?_ ?_
   | refine LeO.bind ?_ (fun _ => ?_)
  ·intro y0 y1 y2
   unfold diff_Match.j2
   repeat' first
   | (with_reducible exact ih0 _ _ _)
   | (with_reducible exact ih1 _ _ _)
   | (with_reducible exact ih2 _ _ _ _ _ _)
   | (with_reducible exact ih3 _ _ _ _ _ _ _)
   | (with_reducible exact ih4 _ _ _ _ _ _ _ _)
   | (with_reducible exact ih5 _ _ _)
   | (with_reducible exact LeO.refl _)
   | (with_reducible exact LeO.none _)
   | (with_reducible refine LeO.ite ?_ ?_)
   | (with_reducible refine LeO.bind ?_ (fun _ => ?_))
   | exact ih0 _ _ _
   | exact ih1 _ _ _
   | exact ih2 _ _ _ _ _ _
   | exact ih3 _ _ _ _ _ _ _
   | exact ih4 _ _ _ _ _ _ _ _
   | exact ih5 _ _ _
   | exact LeO.none _
   | refine LeO.ite ?_ ?_
   | refine LeO.bind ?_ (fun _ => ?_)
  ·intro y0 y1 y2 y3 y4 y5
   unfold diff_Match.l1
   repeat' first
   | (with_reducible exact ih0 _ _ _)
   | (with_reducible exact ih1 _ _ _)
   | (with_reducible exact ih2 _ _ _ _ _ _)
   | (with_reducible exact ih3 _ _ _ _ _ _ _)
   | (with_reducible exact ih4 _ _ _ _ _ _ _ _)
   | (with_reducible exact ih5 _ _ _)
   | (with_reducible exact LeO.refl _)
   | (with_reducible exact LeO.none _)
   | (with_reducible refine LeO.ite ?_ ?_)
   | (with_reducible refine LeO.bind ?_ (fun _ => ?_))
   | exact ih0 _ _ _
   | exact ih1 _ _ _
   | exact ih2 _ _ _ _ _ _
   | exact ih3 _ _ _ _ _ _ _
   | exact ih4 _ _ _ _ _ _ _ _
   | exact ih5 _ _ _
   | exact LeO.none _
   | refine LeO.ite ?_ ?_
   | refine LeO.bind ?_ (fun _ => ?_)
  ·intro y0 y1 y2 y3 y4 y5 y6
   unfold diff_Match.l2
   repeat' first
   | (with_reducible exact ih0 _ _ _)
   | (with_reducible exact ih1 _ _ _)
   | (with_reducible exact ih2 _ _ _ _ _ _)
   | (with_reducible exact ih3 _ _ _ _ _ _ _)
   | (with_reducible exact ih4 _ _ _ _ _ _ _ _)
   | (with_reducible exact ih5 _ _ _)
   | (with_reducible exact LeO.refl _)
   | (with_reducible exact LeO.none _)
   | (with_reducible refine LeO.ite ?_ ?_)
   | (with_reducible refine LeO.bind ?_ (fun _ => ?_))
   | exact ih0 _ _ _
   | exact ih1 _ _ _
   | exact ih2 _ _ _ _ _ _
   | exact ih3 _ _ _ _ _ _ _
   | exact ih4 _ _ _ _ _ _ _ _
   | exact ih5 _ _ _
   | exact LeO.none _
   | refine LeO.ite ?_ ?_
   | refine LeO.bind ?_ (fun _ => ?_)
  ·intro y0 y1 y2 y3 y4 y5 y6 y7
   unfold diff_Match.j5
   repeat' first
   | (with_reducible exact ih0 _ _ _)
   | (with_reducible exact ih1 _ _ _)
   | (with_reducible exact ih2 _ _ _ _ _ _)
   | (with_reducible exact ih3 _ _ _ _ _ _ _)
   | (with_reducible exact ih4 _ _ _ _ _ _ _ _)
   | (with_reducible exact ih5 _ _ _)
   | (with_reducible exact LeO.refl _)
   | (with_reducible exact LeO.none _)
   | (with_reducible refine LeO.ite ?_ ?_)
   | (with_reducible refine LeO.bind ?_ (fun _ => ?_))
   | exact ih0 _ _ _
   | exact ih1 _ _ _
   | exact ih2 _ _ _ _ _ _
   | exact ih3 _ _ _ _ _ _ _
   | exact ih4 _ _ _ _ _ _ _ _
   | exact ih5 _ _ _
   | exact LeO.none _
   | refine LeO.ite ?_ ?_
   | refine LeO.bind ?_ (fun _ => ?_)
  ·intro y0 y1 y2
   unfold diff_Match.l0
   repeat' first
   | (with_reducible exact ih0 _ _ _)
   | (with_reducible exact ih1 _ _ _)
   | (with_reducible exact ih2 _ _ _ _ _ _)
   | (with_reducible exact ih3 _ _ _ _ _ _ _)
   | (with_reducible exact ih4 _ _ _ _ _ _ _ _)
   | (with_reducible exact ih5 _ _ _)
   | (with_reducible exact LeO.refl _)
   | (with_reducible exact LeO.none _)
   | (with_reducible refine LeO.ite ?_ ?_)
   | (with_reducible refine LeO.bind ?_ (fun _ => ?_))
   | exact ih0 _ _ _
   | exact ih1 _ _ _
   | exact ih2 _ _ _ _ _ _
   | exact ih3 _ _ _ _ _ _ _
   | exact ih4 _ _ _ _ _ _ _ _
   | exact ih5 _ _ _
   | exact LeO.none _
   | refine LeO.ite ?_ ?_
   | refine LeO.bind ?_ (fun _ => ?_)
theorem diff_Match.mono : ∀ a0 a1 k, LeO (diff_Match.f k a0 a1) (diff_Match.f (k + 1) a0 a1) := by
 intro a0 a1 k
 obtain ⟨ih0, ih1, ih2, ih3, ih4, ih5⟩ := diff_Match.mono_l k
 unfold diff_Match.f
 repeat' first
   | (with_reducible exact ih0 _ _ _)
   | (with_reducible exact ih1 _ _ _)
   | (with_reducible exact ih2 _ _ _ _ _ _)
   | (with_reducible exact ih3 _ _ _ _ _ _ _)
   | (with_reducible exact ih4 _ _ _ _ _ _ _ _)
   | (with_reducible exact ih5 _ _ _)
   | (with_reducible exact LeO.refl _)
   | (with_reducible exact LeO.none _)
   | (with_reducible refine LeO.ite ?_ ?_)
   | (with_reducible refine LeO.bind ?_ (fun _ => ?_))
   | exact ih0 _ _ _
   | exact ih1 _ _ _
   | exact ih2 _ _ _ _ _ _
   | exact ih3 _ _ _ _ _ _ _
   | exact ih4 _ _ _ _ _ _ _ _
   | exact ih5 _ _ _
   | exact LeO.none _
   | refine LeO.ite ?_ ?_
   | refine LeO.bind ?_ (fun _ => ?_)
set_option maxHeartbeats 8000000 in
set_option maxRecDepth 100000 in
theorem diff_Match.calls (k : Nat) (A0 : Option Addr) (c0 : Nat) (l0 : List ByteArray) (A1 : Option Addr) (c1 : Nat) (l1 : List ByteArray) (r1 : List (S39)) (r2 : Int) (w : World) (hr0 : Kd.C Kd.string w A0 l0.length l0) (hc0 : l0.length ≤ c0) (hr1 : Kd.C Kd.string w A1 l1.length l1) (hc1 : l1.length ≤ c1) (h : diff_Match.f k l0 l1 = some (r1, r2)) :
  Calls Try.prog 13 #[.slice A0 l0.length c0, .slice A1 l1.length c1] w fun e w' => ∃ v0_ : Value, e = .returned (.tuple #[v0_, .int .i64 r2]) ∧ Kd.R k39 39 w' w.heap.size (fun _ => True) v0_ r1 ∧ Below w.heap.size w w' := by
 have hu39 := Try.underlying39
 have HR0 := Aside0.mk hr0
 have HC0 := Aside0.mk hc0
 clear hr0 hc0
 have HR1 := Aside0.mk hr1
 have HC1 := Aside0.mk hc1
 clear hr1 hc1
 have HB := Aside0.mk (Below.refl w.heap.size w)
 have H : (if (l0.length : Int) > 256 then (diff_Match.j0 k l0 l1 true) else (diff_Match.j0 k l0 l1 (decide ((l1.length : Int) > 256)))) = some (r1, r2) := h
 clear h
 have HC3 := Aside0.mk H
 clear H
 go_enter Try.func13, Try.ntmps13
 go_upto_region 1 with (fail)
 repeat (go_quiet (fail); go_upto_region 1 with (fail))
 go_cut [19] (fun v19 wc => ∃ (kq : Nat) (x19_2 : Bool), v19 = .bool x19_2 ∧ Aside0 (diff_Match.j0 kq l0 l1 x19_2 = some (r1, r2)) ∧ Aside0 (kq ≤ k) ∧ Aside0 (Below w.heap.size w wc))
 case first =>
  have H := HC3.out
  clear HC3
  by_cases c4 : (l0.length : Int) > 256
  ·rw [if_pos c4] at H
   have c4b0 : decide (256 < (l0.length : Int)) = true := decide_eq_true c4
   have c4b1 : decide (256 < l0.length) = true := decide_eq_true (by omega)
   clear c4
   (first | rw [c4b0] | (simp only [i64_w, i32_w]; rw [c4b0]) | skip)
   have H' := Aside0.mk H
   clear H
   go_wp2
   repeat (go_quiet (fail); try go_wp2)
   go_meet
   case rel => exact ⟨_, (true), (by first | rfl | (simp; done) | (simp [*]; done)), H', ⟨by first | omega | exact Nat.le_refl _⟩, ⟨by repeat (first | (with_reducible first | exact HB.out | apply below_alloc | apply pw_below_drewN | apply below_drew1) | exact HB.out)⟩⟩
  ·rw [if_neg c4] at H
   have c4b0 : decide (256 < (l0.length : Int)) = false := decide_eq_false c4
   have c4b1 : decide (256 < l0.length) = false := decide_eq_false (by omega)
   clear c4
   (first | rw [c4b0] | (simp only [i64_w, i32_w]; rw [c4b0]) | skip)
   have H' := Aside0.mk H
   clear H
   go_wp2
   repeat (go_quiet (fail); try go_wp2)
   go_meet
   case rel => exact ⟨_, (decide ((l1.length : Int) > 256)), (by first | rfl | (simp; done) | (simp [*]; done)), H', ⟨by first | omega | exact Nat.le_refl _⟩, ⟨by repeat (first | (with_reducible first | exact HB.out | apply below_alloc | apply pw_below_drewN | apply below_drew1) | exact HB.out)⟩⟩
 case rest =>
  clear HC3
  try clear c1
  try clear p2
  try clear c4
  try clear c4b0
  try clear c4b1
  obtain ⟨kq, x19_2, rfl, HA, HJ2, HB⟩ := hcut
  cases kq with
  | zero => exact absurd HA.out (by simp [diff_Match.j0])
  | succ kj2 =>
   have H := HA.out
   clear HA
   simp only [diff_Match.j0] at H
   by_cases c5 : x19_2 = true
   ·subst c5
    have H1 : (some (([] : List (S39)), 4)) = some (r1, r2) := by rw [if_pos rfl] at H; exact H
    clear H
    have H := H1
    clear H1
    simp only [Option.some.injEq, Prod.mk.injEq] at H
    obtain ⟨rfl, rfl⟩ := H
    go_wp2
    repeat (go_quiet (fail); try go_wp2)
    go_ret2
    exact ⟨_, by first | rfl | (simp [errW_none, errW_some] <;> rfl) | (simp [*, errW_none, errW_some] <;> rfl), by first | exact Kd.R_nil _ _ _ _ _ | exact Kd.N_nil _ _ _ _ _ | exact Kd.V_nil _ _ _ _ _ | exact Kd.Q_nil _ _ _ _ _ | exact Kd.S_nil _ _ _ _ _, by repeat (first | (with_reducible first | exact HB.out | apply below_alloc | apply pw_below_drewN | apply below_drew1) | exact HB.out)⟩
   ·replace c5 := Bool.eq_false_iff.mpr c5
    subst c5
    have H1 : (diff_Match.l0 kj2 l0 l1 0) = some (r1, r2) := by rw [if_neg (show ¬ (false = true) by decide)] at H; exact H
    clear H
    have H := H1
    clear H1
    have HC6 := Aside0.mk H
    clear H
    go_upto_block 0 with (fail)
    repeat (go_quiet (fail); go_upto_block 0 with (fail))
    go_cut [6] (fun v6 wc => ∃ (kq : Nat) (x6_5 : Int), v6 = .int .i64 x6_5 ∧ Aside0 (diff_Match.j2 kq l0 l1 x6_5 = some (r1, r2)) ∧ Aside0 (kq ≤ kj2) ∧ Aside0 (Below w.heap.size w wc))
    case first =>
     have H := HC6.out
     clear HC6
     have H' := Aside0.mk H
     clear H
     go_wp2
     repeat (go_quiet (fail); try go_wp2)
     go_loopg [6] kj2 (fun kq v6 w' => ∃ (x6_2 : Int), v6 = .int .i64 x6_2 ∧ Aside0 (diff_Match.l0 kq l0 l1 x6_2 = some (r1, r2)) ∧ Aside0 (kq ≤ kj2) ∧ Aside0 (Below w.heap.size w w'))
     case atStart => exact ⟨(0), (by first | rfl | (simp; done) | (simp [*]; done)), H', ⟨Nat.le_refl _⟩, ⟨by repeat (first | (with_reducible first | exact HB.out | apply below_alloc | apply pw_below_drewN | apply below_drew1) | exact HB.out)⟩⟩
     case round =>
      clear H'
      try clear c1
      try clear p2
      try clear c4
      try clear c4b0
      try clear c4b1
      try clear c5
      try clear p2
      obtain ⟨x6_2, rfl, HA, HK2, HB⟩ := hrel
      cases gk with
      | zero => exact absurd HA.out (by simp [diff_Match.l0])
      | succ k2 =>
       have H := HA.out
       clear HA
       simp only [diff_Match.l0] at H
       by_cases c7 : x6_2 < (l0.length : Int)
       ·rw [if_pos c7] at H
        have c7b0 : decide (x6_2 < (l0.length : Int)) = true := decide_eq_true c7
        clear c7
        (first | rw [c7b0] | (simp only [i64_w, i32_w]; rw [c7b0]) | skip)
        by_cases c8 : x6_2 < (l1.length : Int)
        ·rw [if_pos c8] at H
         have c8b0 : decide (x6_2 < (l1.length : Int)) = true := decide_eq_true c8
         clear c8
         by_cases c9 : 0 ≤ x6_2
         ·rw [if_pos c9] at H
          have c9b0 : decide (0 ≤ x6_2) = true := decide_eq_true c9
          clear c9
          by_cases c10 : (rdOf ByteArray.empty l0 x6_2).toList = (rdOf ByteArray.empty l1 x6_2).toList
          ·rw [if_pos c10] at H
           have c10b0 : ((rdOf ByteArray.empty l0 x6_2).toList == (rdOf ByteArray.empty l1 x6_2).toList) = true := beq_iff_eq.mpr c10
           have c10b1 : ((rdOf ByteArray.empty l0 x6_2).toList != (rdOf ByteArray.empty l1 x6_2).toList) = false := bne_eq_false_iff_eq.mpr c10
           clear c10
           have H' := Aside0.mk H
           clear H
           have p101 : 0 ≤ (x6_2 : Int) := of_decide_eq_true (by first | (with_reducible assumption) | assumption)
           have q101 : x6_2 < (l0.length : Int) := of_decide_eq_true (by first | (with_reducible assumption) | assumption)
           obtain ⟨ad101, e101, hx101_0⟩ := Kd.at_string HR0.out x6_2 p101 q101
           cases e101
           try replace hx101_0 := (HB.out.cell (World.block_lt_of_cell? w _ hx101_0)).trans hx101_0
           replace p101 := eq_true p101
           replace q101 := eq_true q101
           have p102 : 0 ≤ (x6_2 : Int) := of_decide_eq_true (by first | (with_reducible assumption) | assumption)
           have q102 : x6_2 < (l1.length : Int) := of_decide_eq_true (by first | (with_reducible assumption) | assumption)
           obtain ⟨ad102, e102, hx102_0⟩ := Kd.at_string HR1.out x6_2 p102 q102
           cases e102
           try replace hx102_0 := (HB.out.cell (World.block_lt_of_cell? w _ hx102_0)).trans hx102_0
           replace p102 := eq_true p102
           replace q102 := eq_true q102
           go_wp2
           repeat (go_quiet (fail); try go_wp2)
           go_roundg k2
           case measure => have := HJ2.out; have := HK2.out; omega
           case rel => exact ⟨(wrap64 (x6_2 + 1)), (by first | rfl | (simp; done) | (simp [*]; done)), H', ⟨by have := HJ2.out; have := HK2.out; omega⟩, ⟨by repeat (first | (with_reducible first | exact HB.out | apply below_alloc | apply pw_below_drewN | apply below_drew1) | exact HB.out)⟩⟩
          ·rw [if_neg c10] at H
           have c10b0 : ((rdOf ByteArray.empty l0 x6_2).toList == (rdOf ByteArray.empty l1 x6_2).toList) = false := beq_eq_false_iff_ne.mpr c10
           have c10b1 : ((rdOf ByteArray.empty l0 x6_2).toList != (rdOf ByteArray.empty l1 x6_2).toList) = true := bne_iff_ne.mpr c10
           have H' := Aside0.mk H
           clear H
           have p101 : 0 ≤ (x6_2 : Int) := of_decide_eq_true (by first | (with_reducible assumption) | assumption)
           have q101 : x6_2 < (l0.length : Int) := of_decide_eq_true (by first | (with_reducible assumption) | assumption)
           obtain ⟨ad101, e101, hx101_0⟩ := Kd.at_string HR0.out x6_2 p101 q101
           cases e101
           try replace hx101_0 := (HB.out.cell (World.block_lt_of_cell? w _ hx101_0)).trans hx101_0
           replace p101 := eq_true p101
           replace q101 := eq_true q101
           have p102 : 0 ≤ (x6_2 : Int) := of_decide_eq_true (by first | (with_reducible assumption) | assumption)
           have q102 : x6_2 < (l1.length : Int) := of_decide_eq_true (by first | (with_reducible assumption) | assumption)
           obtain ⟨ad102, e102, hx102_0⟩ := Kd.at_string HR1.out x6_2 p102 q102
           cases e102
           try replace hx102_0 := (HB.out.cell (World.block_lt_of_cell? w _ hx102_0)).trans hx102_0
           replace p102 := eq_true p102
           replace q102 := eq_true q102
           go_wp2
           repeat (go_quiet (fail); try go_wp2)
           go_meet
           case rel => exact ⟨_, (x6_2), (by first | rfl | (simp; done) | (simp [*]; done)), H', ⟨by have := HJ2.out; have := HK2.out; first | omega | exact Nat.le_refl _⟩, ⟨by repeat (first | (with_reducible first | exact HB.out | apply below_alloc | apply pw_below_drewN | apply below_drew1) | exact HB.out)⟩⟩
         ·rw [if_neg c9] at H
          exact absurd H (by simp)
        ·rw [if_neg c8] at H
         have c8b0 : decide (x6_2 < (l1.length : Int)) = false := decide_eq_false c8
         clear c8
         have H' := Aside0.mk H
         clear H
         go_wp2
         repeat (go_quiet (fail); try go_wp2)
         go_meet
         case rel => exact ⟨_, (x6_2), (by first | rfl | (simp; done) | (simp [*]; done)), H', ⟨by have := HJ2.out; have := HK2.out; first | omega | exact Nat.le_refl _⟩, ⟨by repeat (first | (with_reducible first | exact HB.out | apply below_alloc | apply pw_below_drewN | apply below_drew1) | exact HB.out)⟩⟩
       ·rw [if_neg c7] at H
        have c7b0 : decide (x6_2 < (l0.length : Int)) = false := decide_eq_false c7
        clear c7
        (first | rw [c7b0] | (simp only [i64_w, i32_w]; rw [c7b0]) | skip)
        have H' := Aside0.mk H
        clear H
        go_wp2
        repeat (go_quiet (fail); try go_wp2)
        go_meet
        case rel => exact ⟨_, (x6_2), (by first | rfl | (simp; done) | (simp [*]; done)), H', ⟨by have := HJ2.out; have := HK2.out; first | omega | exact Nat.le_refl _⟩, ⟨by repeat (first | (with_reducible first | exact HB.out | apply below_alloc | apply pw_below_drewN | apply below_drew1) | exact HB.out)⟩⟩
    case rest =>
     clear HC6
     try clear c1
     try clear p1
     try clear q1
     try clear hx1
     try clear p2
     try clear c4
     try clear c4b0
     try clear c4b1
     try clear c5
     try clear p6
     try clear c7
     try clear c7b0
     try clear c8
     try clear c8b0
     try clear c9
     try clear c9b0
     try clear c10
     try clear c10b0
     try clear c10b1
     try clear p10
     try clear q10
     try clear hx10
     try clear hx101_0
     try clear hx102_0
     try clear p101
     try clear p102
     try clear p2
     try clear q101
     try clear q102
     obtain ⟨kq, x6_5, rfl, HA, HJ5, HB⟩ := hcut
     cases kq with
     | zero => exact absurd HA.out (by simp [diff_Match.j2])
     | succ kj5 =>
      have H := HA.out
      clear HA
      simp only [diff_Match.j2] at H
      have H' := Aside0.mk H
      clear H
      go_wp2
      repeat (go_quiet (fail); try go_wp2)
      go_loopg [7, 44] kj5 (fun kq v7 v44 w' => ∃ (x7_3 : List (S39)) (x44_3 : Int), v44 = .int .i64 x44_3 ∧ Aside0 (diff_Match.l1 kq l0 l1 x6_5 x7_3 x6_5 x44_3 = some (r1, r2)) ∧ Aside0 (kq ≤ kj5) ∧ Aside0 (Kd.R k39 39 w' w.heap.size (fun _ => True) v7 x7_3) ∧ Aside0 (Below w.heap.size w w'))
      case atStart => exact ⟨(([] : List (S39))), (0), (by first | rfl | (simp; done) | (simp [*]; done)), H', ⟨Nat.le_refl _⟩, ⟨by first | exact Kd.R_nil _ _ _ _ _ | exact Kd.N_nil _ _ _ _ _ | exact Kd.V_nil _ _ _ _ _ | exact Kd.Q_nil _ _ _ _ _ | exact Kd.S_nil _ _ _ _ _⟩, ⟨by repeat (first | (with_reducible first | exact HB.out | apply below_alloc | apply pw_below_drewN | apply below_drew1) | exact HB.out)⟩⟩
      case round =>
       clear H'
       try clear c1
       try clear p1
       try clear q1
       try clear hx1
       try clear p2
       try clear c4
       try clear c4b0
       try clear c4b1
       try clear c5
       try clear p6
       try clear c7
       try clear c7b0
       try clear c8
       try clear c8b0
       try clear c9
       try clear c9b0
       try clear c10
       try clear c10b0
       try clear c10b1
       try clear p10
       try clear q10
       try clear hx10
       try clear hx101_0
       try clear hx102_0
       try clear p1
       try clear p10
       try clear p101
       try clear p102
       try clear p2
       try clear p6
       try clear q1
       try clear q10
       try clear q101
       try clear q102
       obtain ⟨x7_3, x44_3, rfl, HA, HK3, HO_7, HB⟩ := hrel
       cases gk with
       | zero => exact absurd HA.out (by simp [diff_Match.l1])
       | succ k3 =>
        have H := HA.out
        clear HA
        simp only [diff_Match.l1] at H
        by_cases c11 : x44_3 < x6_5
        ·rw [if_pos c11] at H
         have c11b0 : decide (x44_3 < x6_5) = true := decide_eq_true c11
         clear c11
         by_cases c12 : x7_3.length < 8796093022208
         ·rw [if_pos c12] at H
          have LMc12 := Aside0.mk c12
          clear c12
          obtain ⟨y103, hy103⟩ : ∃ y_ : List (S39), y_ = (x7_3 ++ [(⟨x44_3, x44_3⟩ : S39)]) := ⟨_, rfl⟩
          replace H : (diff_Match.l1 k3 l0 l1 x6_5 y103 x6_5 (wrap64 (x44_3 + 1))) = some (r1, r2) := by first | (rw [hy103]; with_reducible exact H) | (have H2_ := (Option.bind_some _ _).symm.trans H; rw [hy103]; with_reducible exact H2_) | (have H2_ := (Option.bind_some _ _).symm.trans H; with_reducible exact H2_) | with_reducible exact H | (rw [hy103]; exact H) | exact H
          have Ny103 := Aside0.mk hy103
          clear hy103
          have H' := Aside0.mk H
          clear H
          go_wp2_with (first | ((with_reducible refine gate_builtin (b := .append) (xs := #[.tmp 47, .tmp 51]) rfl ?_); (try (refine gate_guard (by rfl) ?_; dsimp only)); at_builtin; refine Kd.R_append k39 (w0 := w) w.heap.size rfl (.tmp 47) (.tmp 51) 24 39 (.agg #[(.int .i64 0), (.int .i64 0)]) 16 rfl Try.underlying24 info39 rfl (by decide) (by omega) u7 x7_3 (⟨x44_3, x44_3⟩ : S39) [.int .i64 x44_3, .int .i64 x44_3] (fun _ => True) (fun _ => False) rfl rfl ?aP (fun _ hk => hk.elim) ?aF ?aO ?aB ?aS ?aL ?_; (case aP => exact k39_mkM _ _ _ (⟨x44_3, x44_3⟩ : S39)); (case aB => exact (by repeat (first | (with_reducible first | exact HB.out | apply below_alloc | apply pw_below_drewN | apply below_drew1) | exact HB.out))); (case aF => exact (fun _ _ => trivial)); (case aO => exact (by (with_reducible repeat (first | apply Kd.R_alloc | apply Kd.R_drewN | apply Kd.R_drew)); exact HO_7.out)); (case aS => exact (below_size (by repeat (first | (with_reducible first | exact HB.out | apply below_alloc | apply pw_below_drewN | apply below_drew1) | exact HB.out)))); (case aL => have := LMc12.out; omega); intro v104 w13 ho hb hg hat; rw [← Ny103.out] at ho; have n0_ := Aside0.mk (hb); have n1_ := Aside0.mk (ho); clear HB; clear HO_7; have HB := n0_; have HO105 := n1_; clear n0_ n1_; clear ho hb hg hat))
          repeat (go_quiet (fail); try go_wp2_with (first | ((with_reducible refine gate_builtin (b := .append) (xs := #[.tmp 47, .tmp 51]) rfl ?_); (try (refine gate_guard (by rfl) ?_; dsimp only)); at_builtin; refine Kd.R_append k39 (w0 := w) w.heap.size rfl (.tmp 47) (.tmp 51) 24 39 (.agg #[(.int .i64 0), (.int .i64 0)]) 16 rfl Try.underlying24 info39 rfl (by decide) (by omega) u7 x7_3 (⟨x44_3, x44_3⟩ : S39) [.int .i64 x44_3, .int .i64 x44_3] (fun _ => True) (fun _ => False) rfl rfl ?aP (fun _ hk => hk.elim) ?aF ?aO ?aB ?aS ?aL ?_; (case aP => exact k39_mkM _ _ _ (⟨x44_3, x44_3⟩ : S39)); (case aB => exact (by repeat (first | (with_reducible first | exact HB.out | apply below_alloc | apply pw_below_drewN | apply below_drew1) | exact HB.out))); (case aF => exact (fun _ _ => trivial)); (case aO => exact (by (with_reducible repeat (first | apply Kd.R_alloc | apply Kd.R_drewN | apply Kd.R_drew)); exact HO_7.out)); (case aS => exact (below_size (by repeat (first | (with_reducible first | exact HB.out | apply below_alloc | apply pw_below_drewN | apply below_drew1) | exact HB.out)))); (case aL => have := LMc12.out; omega); intro v104 w13 ho hb hg hat; rw [← Ny103.out] at ho; have n0_ := Aside0.mk (hb); have n1_ := Aside0.mk (ho); clear HB; clear HO_7; have HB := n0_; have HO105 := n1_; clear n0_ n1_; clear ho hb hg hat)))
          go_roundg k3
          case measure => have := HJ2.out; have := HJ5.out; have := HK3.out; omega
          case rel => exact ⟨(y103), (wrap64 (x44_3 + 1)), (by first | rfl | (simp; done) | (simp [*]; done)), H', ⟨by have := HJ2.out; have := HJ5.out; have := HK3.out; omega⟩, ⟨by (with_reducible repeat (first | apply Kd.R_alloc | apply Kd.R_drewN | apply Kd.R_drew)); exact HO105.out⟩, ⟨by repeat (first | (with_reducible first | exact HB.out | apply below_alloc | apply pw_below_drewN | apply below_drew1) | exact HB.out)⟩⟩
         ·rw [if_neg c12] at H
          exact absurd H (by simp)
        ·rw [if_neg c11] at H
         have c11b0 : decide (x44_3 < x6_5) = false := decide_eq_false c11
         clear c11
         by_cases c14 : 0 ≤ x6_5
         ·rw [if_pos c14] at H
          have c14b0 := eq_true c14
          have c14b1 : decide (0 ≤ x6_5) = true := decide_eq_true c14
          clear c14
          by_cases c15 : x6_5 ≤ (l0.length : Int)
          ·rw [if_pos c15] at H
           have c15b0 := eq_true c15
           have c15b1 : decide (x6_5 ≤ (l0.length : Int)) = true := decide_eq_true c15
           clear c15
           have c16b0 := eq_true (of_decide_eq_true (by first | (with_reducible assumption) | assumption) : 0 ≤ x6_5)
           by_cases c17 : x6_5 ≤ (l1.length : Int)
           ·rw [if_pos c17] at H
            have c17b0 := eq_true c17
            have c17b1 : decide (x6_5 ≤ (l1.length : Int)) = true := decide_eq_true c17
            clear c17
            replace H := Option.bind_eq_some_iff.mp H
            obtain ⟨t108, A180, H⟩ := H
            replace H : (diff_Match.l2 k3 (l0.drop (x6_5 : Int).toNat) (l1.drop (x6_5 : Int).toNat) x6_5 x7_3 t108 0 0) = some (r1, r2) := H
            have A18 := Aside0.mk A180
            clear A180
            have H' := Aside0.mk H
            clear H
            obtain ⟨i019, hi019, _, hsz19, _⟩ := info_parts info9
            obtain ⟨A19, hcut19, hA19, hC19⟩ := print_drop_of (P := Try.prog) Value.string (⟨#[]⟩ : ByteArray) 22 9 .i64 Try.underlying22 hi019 hsz19 A0 c0 l0 x6_5 (of_decide_eq_true (by first | (with_reducible assumption) | assumption)) (of_decide_eq_true (by first | (with_reducible assumption) | assumption)) HC0.out
            have HR106 := Aside0.mk (Kd.C_of_reads (h1 := fun _ => rfl) (hA19 _ (Kd.reads_of_C HR0.out)))
            have HC106 := Aside0.mk hC19
            clear hA19 hC19 hi019 hsz19
            obtain ⟨i020, hi020, _, hsz20, _⟩ := info_parts info9
            obtain ⟨A20, hcut20, hA20, hC20⟩ := print_drop_of (P := Try.prog) Value.string (⟨#[]⟩ : ByteArray) 22 9 .i64 Try.underlying22 hi020 hsz20 A1 c1 l1 x6_5 (of_decide_eq_true (by first | (with_reducible assumption) | assumption)) (of_decide_eq_true (by first | (with_reducible assumption) | assumption)) HC1.out
            have HR107 := Aside0.mk (Kd.C_of_reads (h1 := fun _ => rfl) (hA20 _ (Kd.reads_of_C HR1.out)))
            have HC107 := Aside0.mk hC20
            clear hA20 hC20 hi020 hsz20
            go_wp2_with (first | (go_at_call 36; (with_reducible refine (diff_lengths.calls_n _ _ _ _ (l0.drop (x6_5 : Int).toNat) _ _ (l1.drop (x6_5 : Int).toNat) t108 _ ?sideA ?sideB ?side1 ?side2 ?side3 ?side4 A18.out).mono ?_); (case sideA => rw [List.length_drop]); (case sideB => rw [List.length_drop]); (case side1 => repeat (first | exact (Kd.C_below HR106.out HB.out) | (with_reducible refine Kd.C_alloc ?_ _) | (with_reducible refine Kd.C_drewN ?_ _) | (with_reducible refine Kd.C_drew ?_))); (case side2 => exact HC106.out); (case side3 => repeat (first | exact (Kd.C_below HR107.out HB.out) | (with_reducible refine Kd.C_alloc ?_ _) | (with_reducible refine Kd.C_drewN ?_ _) | (with_reducible refine Kd.C_drew ?_))); (case side4 => exact HC107.out); rintro e w21 ⟨v109, rfl, ho0, hb⟩; have n0_ := Aside0.mk (Kd.R_below (by (with_reducible repeat (first | apply Kd.R_alloc | apply Kd.R_drewN | apply Kd.R_drew)); exact HO_7.out) hb); have n1_ := Aside0.mk (Kd.S_lower ho0 (below_size (by repeat (first | (with_reducible first | exact HB.out | apply below_alloc | apply pw_below_drewN | apply below_drew1) | exact HB.out)))); have n2_ := Aside0.mk (below_step (by repeat (first | (with_reducible first | exact HB.out | apply below_alloc | apply pw_below_drewN | apply below_drew1) | exact HB.out)) hb); clear HO_7; clear HB; have HO_7 := n0_; have HO110 := n1_; have HB := n2_; clear n0_ n1_ n2_; (try clear hb); (try clear hb2); (try clear hk); (try clear hi); (try clear ho0)))
            repeat (go_quiet (first | (go_at_call 36; (with_reducible refine (diff_lengths.calls_n _ _ _ _ (l0.drop (x6_5 : Int).toNat) _ _ (l1.drop (x6_5 : Int).toNat) t108 _ ?sideA ?sideB ?side1 ?side2 ?side3 ?side4 A18.out).mono ?_); (case sideA => rw [List.length_drop]); (case sideB => rw [List.length_drop]); (case side1 => repeat (first | exact (Kd.C_below HR106.out HB.out) | (with_reducible refine Kd.C_alloc ?_ _) | (with_reducible refine Kd.C_drewN ?_ _) | (with_reducible refine Kd.C_drew ?_))); (case side2 => exact HC106.out); (case side3 => repeat (first | exact (Kd.C_below HR107.out HB.out) | (with_reducible refine Kd.C_alloc ?_ _) | (with_reducible refine Kd.C_drewN ?_ _) | (with_reducible refine Kd.C_drew ?_))); (case side4 => exact HC107.out); rintro e w21 ⟨v109, rfl, ho0, hb⟩; have n0_ := Aside0.mk (Kd.R_below (by (with_reducible repeat (first | apply Kd.R_alloc | apply Kd.R_drewN | apply Kd.R_drew)); exact HO_7.out) hb); have n1_ := Aside0.mk (Kd.S_lower ho0 (below_size (by repeat (first | (with_reducible first | exact HB.out | apply below_alloc | apply pw_below_drewN | apply below_drew1) | exact HB.out)))); have n2_ := Aside0.mk (below_step (by repeat (first | (with_reducible first | exact HB.out | apply below_alloc | apply pw_below_drewN | apply below_drew1) | exact HB.out)) hb); clear HO_7; clear HB; have HO_7 := n0_; have HO110 := n1_; have HB := n2_; clear n0_ n1_ n2_; (try clear hb); (try clear hb2); (try clear hk); (try clear hi); (try clear ho0))); try go_wp2_with (first | (go_at_call 36; (with_reducible refine (diff_lengths.calls_n _ _ _ _ (l0.drop (x6_5 : Int).toNat) _ _ (l1.drop (x6_5 : Int).toNat) t108 _ ?sideA ?sideB ?side1 ?side2 ?side3 ?side4 A18.out).mono ?_); (case sideA => rw [List.length_drop]); (case sideB => rw [List.length_drop]); (case side1 => repeat (first | exact (Kd.C_below HR106.out HB.out) | (with_reducible refine Kd.C_alloc ?_ _) | (with_reducible refine Kd.C_drewN ?_ _) | (with_reducible refine Kd.C_drew ?_))); (case side2 => exact HC106.out); (case side3 => repeat (first | exact (Kd.C_below HR107.out HB.out) | (with_reducible refine Kd.C_alloc ?_ _) | (with_reducible refine Kd.C_drewN ?_ _) | (with_reducible refine Kd.C_drew ?_))); (case side4 => exact HC107.out); rintro e w21 ⟨v109, rfl, ho0, hb⟩; have n0_ := Aside0.mk (Kd.R_below (by (with_reducible repeat (first | apply Kd.R_alloc | apply Kd.R_drewN | apply Kd.R_drew)); exact HO_7.out) hb); have n1_ := Aside0.mk (Kd.S_lower ho0 (below_size (by repeat (first | (with_reducible first | exact HB.out | apply below_alloc | apply pw_below_drewN | apply below_drew1) | exact HB.out)))); have n2_ := Aside0.mk (below_step (by repeat (first | (with_reducible first | exact HB.out | apply below_alloc | apply pw_below_drewN | apply below_drew1) | exact HB.out)) hb); clear HO_7; clear HB; have HO_7 := n0_; have HO110 := n1_; have HB := n2_; clear n0_ n1_ n2_; (try clear hb); (try clear hb2); (try clear hk); (try clear hi); (try clear ho0))))
            rw [show l0.length - (x6_5 : Int).toNat = (l0.drop (x6_5 : Int).toNat).length from (List.length_drop ..).symm]
            rw [show l1.length - (x6_5 : Int).toNat = (l1.drop (x6_5 : Int).toNat).length from (List.length_drop ..).symm]
            generalize l0.drop (x6_5 : Int).toNat = L0_ at *
            generalize l1.drop (x6_5 : Int).toNat = L1_ at *
            go_loopg [7, 10, 11] k3 (fun kq v7 v10 v11 w' => ∃ (x7_4 : List (S39)) (x10_4 : Int) (x11_4 : Int), v10 = .int .i64 x10_4 ∧ v11 = .int .i64 x11_4 ∧ Aside0 (diff_Match.l2 kq L0_ L1_ x6_5 x7_4 t108 x10_4 x11_4 = some (r1, r2)) ∧ Aside0 (kq ≤ k3) ∧ Aside0 (Kd.R k39 39 w' w.heap.size (fun _ => True) v7 x7_4) ∧ Aside0 (Kd.S (Kd.slice 93 (Kd.int .i16)) 94 w' w.heap.size (fun _ => True) v109 t108) ∧ Aside0 (Below w.heap.size w w'))
            case atStart => exact ⟨(x7_3), (0), (0), (by first | rfl | (simp; done) | (simp [*]; done)), (by first | rfl | (simp; done) | (simp [*]; done)), H', ⟨Nat.le_refl _⟩, ⟨by (with_reducible repeat (first | apply Kd.R_alloc | apply Kd.R_drewN | apply Kd.R_drew)); exact HO_7.out⟩, ⟨by (with_reducible repeat (first | apply Kd.S_alloc | apply Kd.S_drewN | apply Kd.S_drew)); exact HO110.out⟩, ⟨by repeat (first | (with_reducible first | exact HB.out | apply below_alloc | apply pw_below_drewN | apply below_drew1) | exact HB.out)⟩⟩
            case round =>
             clear H'
             try clear c1
             try clear p1
             try clear q1
             try clear hx1
             try clear p2
             try clear c4
             try clear c4b0
             try clear c4b1
             try clear c5
             try clear p6
             try clear c7
             try clear c7b0
             try clear c8
             try clear c8b0
             try clear c9
             try clear c9b0
             try clear c10
             try clear c10b0
             try clear c10b1
             try clear p10
             try clear q10
             try clear hx10
             try clear c11
             try clear c11b0
             try clear c12
             try clear c13
             try clear c14
             try clear c14b0
             try clear c14b1
             try clear c15
             try clear c15b0
             try clear c15b1
             try clear c16
             try clear c16b0
             try clear c17
             try clear c17b0
             try clear c17b1
             try clear hx101_0
             try clear hx102_0
             try clear p1
             try clear p10
             try clear p101
             try clear p102
             try clear p2
             try clear p6
             try clear q1
             try clear q10
             try clear q101
             try clear q102
             obtain ⟨x7_4, x10_4, x11_4, rfl, rfl, HA, HK4, HO_7, HO_9, HB⟩ := hrel
             cases gk with
             | zero => exact absurd HA.out (by simp [diff_Match.l2])
             | succ k4 =>
              have H := HA.out
              clear HA
              simp only [diff_Match.l2] at H
              have HC22 := Aside0.mk H
              clear H
              go_upto_region 15 with (fail)
              repeat (go_quiet (fail); go_upto_region 15 with (fail))
              go_cut [72] (fun v72 wc => ∃ (kq : Nat) (x72_21 : Bool), v72 = .bool x72_21 ∧ Aside0 (diff_Match.j5 kq L0_ L1_ x6_5 x7_4 t108 x10_4 x11_4 x72_21 = some (r1, r2)) ∧ Aside0 (kq ≤ k4) ∧ Aside0 (Kd.R k39 39 wc w.heap.size (fun _ => True) u7 x7_4) ∧ Aside0 (Kd.S (Kd.slice 93 (Kd.int .i16)) 94 wc w.heap.size (fun _ => True) v109 t108) ∧ Aside0 (Below w.heap.size w wc))
              case first =>
               have H := HC22.out
               clear HC22
               by_cases c23 : x10_4 < (L0_.length : Int)
               ·rw [if_pos c23] at H
                have c23b0 : decide (x10_4 < (L0_.length : Int)) = true := decide_eq_true c23
                clear c23
                (first | rw [c23b0] | (simp only [i64_w, i32_w]; rw [c23b0]) | skip)
                have H' := Aside0.mk H
                clear H
                go_wp2
                repeat (go_quiet (fail); try go_wp2)
                go_meet
                case rel => exact ⟨_, (decide (x11_4 < (L1_.length : Int))), (by first | rfl | (simp; done) | (simp [*]; done)), H', ⟨by have := HJ2.out; have := HJ5.out; have := HK3.out; have := HK4.out; first | omega | exact Nat.le_refl _⟩, ⟨by (with_reducible repeat (first | apply Kd.R_alloc | apply Kd.R_drewN | apply Kd.R_drew)); exact HO_7.out⟩, ⟨by (with_reducible repeat (first | apply Kd.S_alloc | apply Kd.S_drewN | apply Kd.S_drew)); exact HO_9.out⟩, ⟨by repeat (first | (with_reducible first | exact HB.out | apply below_alloc | apply pw_below_drewN | apply below_drew1) | exact HB.out)⟩⟩
               ·rw [if_neg c23] at H
                have c23b0 : decide (x10_4 < (L0_.length : Int)) = false := decide_eq_false c23
                clear c23
                (first | rw [c23b0] | (simp only [i64_w, i32_w]; rw [c23b0]) | skip)
                have H' := Aside0.mk H
                clear H
                go_wp2
                repeat (go_quiet (fail); try go_wp2)
                go_meet
                case rel => exact ⟨_, (false), (by first | rfl | (simp; done) | (simp [*]; done)), H', ⟨by have := HJ2.out; have := HJ5.out; have := HK3.out; have := HK4.out; first | omega | exact Nat.le_refl _⟩, ⟨by (with_reducible repeat (first | apply Kd.R_alloc | apply Kd.R_drewN | apply Kd.R_drew)); exact HO_7.out⟩, ⟨by (with_reducible repeat (first | apply Kd.S_alloc | apply Kd.S_drewN | apply Kd.S_drew)); exact HO_9.out⟩, ⟨by repeat (first | (with_reducible first | exact HB.out | apply below_alloc | apply pw_below_drewN | apply below_drew1) | exact HB.out)⟩⟩
              case rest =>
               clear HC22
               try clear c1
               try clear p1
               try clear q1
               try clear hx1
               try clear c2
               try clear p2
               try clear c4
               try clear c4b0
               try clear c4b1
               try clear c5
               try clear p6
               try clear c7
               try clear c7b0
               try clear c8
               try clear c8b0
               try clear c9
               try clear c9b0
               try clear c10
               try clear c10b0
               try clear c10b1
               try clear p10
               try clear q10
               try clear hx10
               try clear c11
               try clear c11b0
               try clear c12
               try clear c13
               try clear c14
               try clear c14b0
               try clear c14b1
               try clear c15
               try clear c15b0
               try clear c15b1
               try clear c16
               try clear c16b0
               try clear c17
               try clear c17b0
               try clear c17b1
               try clear c23
               try clear c23b0
               try clear hx101_0
               try clear hx102_0
               try clear p1
               try clear p10
               try clear p101
               try clear p102
               try clear p2
               try clear p6
               try clear q1
               try clear q10
               try clear q101
               try clear q102
               obtain ⟨kq, x72_21, rfl, HA, HJ21, HO_7, HO_9, HB⟩ := hcut
               cases kq with
               | zero => exact absurd HA.out (by simp [diff_Match.j5])
               | succ kj21 =>
                have H := HA.out
                clear HA
                simp only [diff_Match.j5] at H
                by_cases c24 : x72_21 = true
                ·subst c24
                 have H1 : (if 0 ≤ x10_4 then (if x10_4 < (L0_.length : Int) then (if 0 ≤ x11_4 then (if x11_4 < (L1_.length : Int) then (if (rdOf ByteArray.empty L0_ x10_4).toList = (rdOf ByteArray.empty L1_ x11_4).toList then (if x7_4.length < 8796093022208 then (diff_Match.l2 kj21 L0_ L1_ x6_5 (x7_4 ++ [(⟨wrap64 (x6_5 + x10_4), wrap64 (x6_5 + x11_4)⟩ : S39)]) t108 (wrap64 (x10_4 + 1)) (wrap64 (x11_4 + 1))) else (none)) else (if 0 ≤ (wrap64 (x10_4 + 1)) then (if (wrap64 (x10_4 + 1)) < (t108.length : Int) then (if x11_4 < ((rd_L3 t108 (wrap64 (x10_4 + 1))).length : Int) then (if x10_4 < (t108.length : Int) then (if 0 ≤ (wrap64 (x11_4 + 1)) then (if (wrap64 (x11_4 + 1)) < ((rd_L3 t108 x10_4).length : Int) then (if (rd (rd_L3 t108 (wrap64 (x10_4 + 1))) x11_4) ≥ (rd (rd_L3 t108 x10_4) (wrap64 (x11_4 + 1))) then (diff_Match.l2 kj21 L0_ L1_ x6_5 x7_4 t108 (wrap64 (x10_4 + 1)) x11_4) else (diff_Match.l2 kj21 L0_ L1_ x6_5 x7_4 t108 x10_4 (wrap64 (x11_4 + 1)))) else (none)) else (none)) else (none)) else (none)) else (none)) else (none))) else (none)) else (none)) else (none)) else (none)) = some (r1, r2) := by rw [if_pos rfl] at H; exact H
                 clear H
                 have H := H1
                 clear H1
                 by_cases c25 : 0 ≤ x10_4
                 ·rw [if_pos c25] at H
                  have c25b0 : decide (0 ≤ x10_4) = true := decide_eq_true c25
                  clear c25
                  by_cases c26 : x10_4 < (L0_.length : Int)
                  ·rw [if_pos c26] at H
                   have c26b0 : decide (x10_4 < (L0_.length : Int)) = true := decide_eq_true c26
                   clear c26
                   by_cases c27 : 0 ≤ x11_4
                   ·rw [if_pos c27] at H
                    have c27b0 : decide (0 ≤ x11_4) = true := decide_eq_true c27
                    clear c27
                    by_cases c28 : x11_4 < (L1_.length : Int)
                    ·rw [if_pos c28] at H
                     have c28b0 : decide (x11_4 < (L1_.length : Int)) = true := decide_eq_true c28
                     clear c28
                     by_cases c29 : (rdOf ByteArray.empty L0_ x10_4).toList = (rdOf ByteArray.empty L1_ x11_4).toList
                     ·rw [if_pos c29] at H
                      have c29b0 : ((rdOf ByteArray.empty L0_ x10_4).toList == (rdOf ByteArray.empty L1_ x11_4).toList) = true := beq_iff_eq.mpr c29
                      have c29b1 : ((rdOf ByteArray.empty L0_ x10_4).toList != (rdOf ByteArray.empty L1_ x11_4).toList) = false := bne_eq_false_iff_eq.mpr c29
                      clear c29
                      by_cases c30 : x7_4.length < 8796093022208
                      ·rw [if_pos c30] at H
                       have LMc30 := Aside0.mk c30
                       clear c30
                       obtain ⟨y113, hy113⟩ : ∃ y_ : List (S39), y_ = (x7_4 ++ [(⟨wrap64 (x6_5 + x10_4), wrap64 (x6_5 + x11_4)⟩ : S39)]) := ⟨_, rfl⟩
                       replace H : (diff_Match.l2 kj21 L0_ L1_ x6_5 y113 t108 (wrap64 (x10_4 + 1)) (wrap64 (x11_4 + 1))) = some (r1, r2) := by first | (rw [hy113]; with_reducible exact H) | (have H2_ := (Option.bind_some _ _).symm.trans H; rw [hy113]; with_reducible exact H2_) | (have H2_ := (Option.bind_some _ _).symm.trans H; with_reducible exact H2_) | with_reducible exact H | (rw [hy113]; exact H) | exact H
                       have Ny113 := Aside0.mk hy113
                       clear hy113
                       have H' := Aside0.mk H
                       clear H
                       have p111 : 0 ≤ (x10_4 : Int) := of_decide_eq_true (by first | (with_reducible assumption) | assumption)
                       have q111 : x10_4 < (L0_.length : Int) := of_decide_eq_true (by first | (with_reducible assumption) | assumption)
                       obtain ⟨ad111, e111, hx111_0⟩ := Kd.at_string HR106.out x10_4 p111 q111
                       cases e111
                       try replace hx111_0 := (HB.out.cell (World.block_lt_of_cell? w _ hx111_0)).trans hx111_0
                       replace p111 := eq_true p111
                       replace q111 := eq_true q111
                       have p112 : 0 ≤ (x11_4 : Int) := of_decide_eq_true (by first | (with_reducible assumption) | assumption)
                       have q112 : x11_4 < (L1_.length : Int) := of_decide_eq_true (by first | (with_reducible assumption) | assumption)
                       obtain ⟨ad112, e112, hx112_0⟩ := Kd.at_string HR107.out x11_4 p112 q112
                       cases e112
                       try replace hx112_0 := (HB.out.cell (World.block_lt_of_cell? w _ hx112_0)).trans hx112_0
                       replace p112 := eq_true p112
                       replace q112 := eq_true q112
                       go_wp2_with (first | ((with_reducible refine gate_builtin (b := .append) (xs := #[.tmp 85, .tmp 93]) rfl ?_); (try (refine gate_guard (by rfl) ?_; dsimp only)); at_builtin; refine Kd.R_append k39 (w0 := w) w.heap.size rfl (.tmp 85) (.tmp 93) 24 39 (.agg #[(.int .i64 0), (.int .i64 0)]) 16 rfl Try.underlying24 info39 rfl (by decide) (by omega) u7 x7_4 (⟨wrap64 (x6_5 + x10_4), wrap64 (x6_5 + x11_4)⟩ : S39) [.int .i64 (wrap64 (x6_5 + x10_4)), .int .i64 (wrap64 (x6_5 + x11_4))] (fun _ => True) (fun _ => False) rfl rfl ?aP (fun _ hk => hk.elim) ?aF ?aO ?aB ?aS ?aL ?_; (case aP => exact k39_mkM _ _ _ (⟨wrap64 (x6_5 + x10_4), wrap64 (x6_5 + x11_4)⟩ : S39)); (case aB => exact (by repeat (first | (with_reducible first | exact HB.out | apply below_alloc | apply pw_below_drewN | apply below_drew1) | exact HB.out))); (case aF => exact (fun _ _ => trivial)); (case aO => exact (by (with_reducible repeat (first | apply Kd.R_alloc | apply Kd.R_drewN | apply Kd.R_drew)); exact HO_7.out)); (case aS => exact (below_size (by repeat (first | (with_reducible first | exact HB.out | apply below_alloc | apply pw_below_drewN | apply below_drew1) | exact HB.out)))); (case aL => have := LMc30.out; omega); intro v114 w31 ho hb hg hat; rw [← Ny113.out] at ho; have n0_ := Aside0.mk (Kd.S_over' (by (with_reducible repeat (first | apply Kd.S_alloc | apply Kd.S_drewN | apply Kd.S_drew)); exact HO_9.out) (Kd.R_typed (by (with_reducible repeat (first | apply Kd.R_alloc | apply Kd.R_drewN | apply Kd.R_drew)); exact HO_7.out)) (by decide) hg); have n1_ := Aside0.mk (hb); have n2_ := Aside0.mk (ho); clear HO_9; clear HB; clear HO_7; have HO_9 := n0_; have HB := n1_; have HO115 := n2_; clear n0_ n1_ n2_; clear ho hb hg hat))
                       repeat (go_quiet (fail); try go_wp2_with (first | ((with_reducible refine gate_builtin (b := .append) (xs := #[.tmp 85, .tmp 93]) rfl ?_); (try (refine gate_guard (by rfl) ?_; dsimp only)); at_builtin; refine Kd.R_append k39 (w0 := w) w.heap.size rfl (.tmp 85) (.tmp 93) 24 39 (.agg #[(.int .i64 0), (.int .i64 0)]) 16 rfl Try.underlying24 info39 rfl (by decide) (by omega) u7 x7_4 (⟨wrap64 (x6_5 + x10_4), wrap64 (x6_5 + x11_4)⟩ : S39) [.int .i64 (wrap64 (x6_5 + x10_4)), .int .i64 (wrap64 (x6_5 + x11_4))] (fun _ => True) (fun _ => False) rfl rfl ?aP (fun _ hk => hk.elim) ?aF ?aO ?aB ?aS ?aL ?_; (case aP => exact k39_mkM _ _ _ (⟨wrap64 (x6_5 + x10_4), wrap64 (x6_5 + x11_4)⟩ : S39)); (case aB => exact (by repeat (first | (with_reducible first | exact HB.out | apply below_alloc | apply pw_below_drewN | apply below_drew1) | exact HB.out))); (case aF => exact (fun _ _ => trivial)); (case aO => exact (by (with_reducible repeat (first | apply Kd.R_alloc | apply Kd.R_drewN | apply Kd.R_drew)); exact HO_7.out)); (case aS => exact (below_size (by repeat (first | (with_reducible first | exact HB.out | apply below_alloc | apply pw_below_drewN | apply below_drew1) | exact HB.out)))); (case aL => have := LMc30.out; omega); intro v114 w31 ho hb hg hat; rw [← Ny113.out] at ho; have n0_ := Aside0.mk (Kd.S_over' (by (with_reducible repeat (first | apply Kd.S_alloc | apply Kd.S_drewN | apply Kd.S_drew)); exact HO_9.out) (Kd.R_typed (by (with_reducible repeat (first | apply Kd.R_alloc | apply Kd.R_drewN | apply Kd.R_drew)); exact HO_7.out)) (by decide) hg); have n1_ := Aside0.mk (hb); have n2_ := Aside0.mk (ho); clear HO_9; clear HB; clear HO_7; have HO_9 := n0_; have HB := n1_; have HO115 := n2_; clear n0_ n1_ n2_; clear ho hb hg hat)))
                       go_roundg kj21
                       case measure => have := HJ2.out; have := HJ5.out; have := HK3.out; have := HK4.out; have := HJ21.out; omega
                       case rel => exact ⟨(y113), (wrap64 (x10_4 + 1)), (wrap64 (x11_4 + 1)), (by first | rfl | (simp; done) | (simp [*]; done)), (by first | rfl | (simp; done) | (simp [*]; done)), H', ⟨by have := HJ2.out; have := HJ5.out; have := HK3.out; have := HK4.out; have := HJ21.out; omega⟩, ⟨by (with_reducible repeat (first | apply Kd.R_alloc | apply Kd.R_drewN | apply Kd.R_drew)); exact HO115.out⟩, ⟨by (with_reducible repeat (first | apply Kd.S_alloc | apply Kd.S_drewN | apply Kd.S_drew)); exact HO_9.out⟩, ⟨by repeat (first | (with_reducible first | exact HB.out | apply below_alloc | apply pw_below_drewN | apply below_drew1) | exact HB.out)⟩⟩
                      ·rw [if_neg c30] at H
                       exact absurd H (by simp)
                     ·rw [if_neg c29] at H
                      have c29b0 : ((rdOf ByteArray.empty L0_ x10_4).toList == (rdOf ByteArray.empty L1_ x11_4).toList) = false := beq_eq_false_iff_ne.mpr c29
                      have c29b1 : ((rdOf ByteArray.empty L0_ x10_4).toList != (rdOf ByteArray.empty L1_ x11_4).toList) = true := bne_iff_ne.mpr c29
                      obtain ⟨ji32, hji32⟩ : ∃ j_ : Int, (wrap64 (x10_4 + 1)) = j_ := ⟨_, rfl⟩
                      replace H : (if 0 ≤ (ji32) then (if (ji32) < (t108.length : Int) then (if x11_4 < ((rd_L3 t108 (ji32)).length : Int) then (if x10_4 < (t108.length : Int) then (if 0 ≤ (wrap64 (x11_4 + 1)) then (if (wrap64 (x11_4 + 1)) < ((rd_L3 t108 x10_4).length : Int) then (if (rd (rd_L3 t108 (ji32)) x11_4) ≥ (rd (rd_L3 t108 x10_4) (wrap64 (x11_4 + 1))) then (diff_Match.l2 kj21 L0_ L1_ x6_5 x7_4 t108 ji32 x11_4) else (diff_Match.l2 kj21 L0_ L1_ x6_5 x7_4 t108 x10_4 (wrap64 (x11_4 + 1)))) else (none)) else (none)) else (none)) else (none)) else (none)) else (none)) = some (r1, r2) := by first | (rw [hji32] at H; exact H) | (simp only [hji32] at H ⊢; exact H)
                      have hji32w : (IntKind.i64.wrap (x10_4 + 1)) = ji32 := (i64_w _).trans hji32
                      by_cases c33 : 0 ≤ (ji32)
                      ·rw [if_pos c33] at H
                       have c33b0 : decide (0 ≤ (ji32)) = true := decide_eq_true c33
                       clear c33
                       by_cases c34 : (ji32) < (t108.length : Int)
                       ·rw [if_pos c34] at H
                        have c34b0 : decide ((ji32) < (t108.length : Int)) = true := decide_eq_true c34
                        clear c34
                        by_cases c35 : x11_4 < ((rd_L3 t108 (ji32)).length : Int)
                        ·rw [if_pos c35] at H
                         have c35b0 : decide (x11_4 < ((rd_L3 t108 (ji32)).length : Int)) = true := decide_eq_true c35
                         clear c35
                         by_cases c36 : x10_4 < (t108.length : Int)
                         ·rw [if_pos c36] at H
                          have c36b0 : decide (x10_4 < (t108.length : Int)) = true := decide_eq_true c36
                          clear c36
                          obtain ⟨ji37, hji37⟩ : ∃ j_ : Int, (wrap64 (x11_4 + 1)) = j_ := ⟨_, rfl⟩
                          replace H : (if 0 ≤ (ji37) then (if (ji37) < ((rd_L3 t108 x10_4).length : Int) then (if (rd (rd_L3 t108 (ji32)) x11_4) ≥ (rd (rd_L3 t108 x10_4) (ji37)) then (diff_Match.l2 kj21 L0_ L1_ x6_5 x7_4 t108 ji32 x11_4) else (diff_Match.l2 kj21 L0_ L1_ x6_5 x7_4 t108 x10_4 ji37)) else (none)) else (none)) = some (r1, r2) := by first | (rw [hji37] at H; exact H) | (simp only [hji37] at H ⊢; exact H)
                          have hji37w : (IntKind.i64.wrap (x11_4 + 1)) = ji37 := (i64_w _).trans hji37
                          by_cases c38 : 0 ≤ (ji37)
                          ·rw [if_pos c38] at H
                           have c38b0 : decide (0 ≤ (ji37)) = true := decide_eq_true c38
                           clear c38
                           by_cases c39 : (ji37) < ((rd_L3 t108 x10_4).length : Int)
                           ·rw [if_pos c39] at H
                            have c39b0 : decide ((ji37) < ((rd_L3 t108 x10_4).length : Int)) = true := decide_eq_true c39
                            clear c39
                            by_cases c40 : (rd (rd_L3 t108 (ji32)) x11_4) ≥ (rd (rd_L3 t108 x10_4) (ji37))
                            ·rw [if_pos c40] at H
                             have c40b0 : decide ((rd (rd_L3 t108 x10_4) (ji37)) ≤ (rd (rd_L3 t108 (ji32)) x11_4)) = true := decide_eq_true c40
                             clear c40
                             have H' := Aside0.mk H
                             clear H
                             have p111 : 0 ≤ (x10_4 : Int) := of_decide_eq_true (by first | (with_reducible assumption) | assumption)
                             have q111 : x10_4 < (L0_.length : Int) := of_decide_eq_true (by first | (with_reducible assumption) | assumption)
                             obtain ⟨ad111, e111, hx111_0⟩ := Kd.at_string HR106.out x10_4 p111 q111
                             cases e111
                             try replace hx111_0 := (HB.out.cell (World.block_lt_of_cell? w _ hx111_0)).trans hx111_0
                             replace p111 := eq_true p111
                             replace q111 := eq_true q111
                             have p112 : 0 ≤ (x11_4 : Int) := of_decide_eq_true (by first | (with_reducible assumption) | assumption)
                             have q112 : x11_4 < (L1_.length : Int) := of_decide_eq_true (by first | (with_reducible assumption) | assumption)
                             obtain ⟨ad112, e112, hx112_0⟩ := Kd.at_string HR107.out x11_4 p112 q112
                             cases e112
                             try replace hx112_0 := (HB.out.cell (World.block_lt_of_cell? w _ hx112_0)).trans hx112_0
                             replace p112 := eq_true p112
                             replace q112 := eq_true q112
                             obtain ⟨Ao41, co41, eo41⟩ := Kd.S_slice HO_9.out
                             subst eo41
                             have p116 : 0 ≤ ((ji32) : Int) := of_decide_eq_true (by first | (with_reducible assumption) | assumption)
                             have q116 : (ji32) < (t108.length : Int) := of_decide_eq_true (by first | (with_reducible assumption) | assumption)
                             obtain ⟨ad116, A116_0, c116_0, e116, hx116_0, hl116_0, hi116_0⟩ := at_L3 (Kd.S_reads' HO_9.out).2.2 (ji32) p116 q116
                             cases e116
                             obtain ⟨ce116, hce116, hMe116, hcc116⟩ := Kd.S_get HO_9.out [] (ji32) p116 (by first | exact q116 | exact of_decide_eq_true (by first | (with_reducible assumption) | assumption) | (have e_ := (Kd.S_reads' HO_9.out).1; omega))
                             obtain ⟨ve116_0, rfl, ge116_0⟩ := hMe116
                             have hv116_0 := hcc116 0 _ rfl
                             rw [Nat.add_zero, show ((Kd.slice 93 (Kd.int .i16))).sz = 1 from rfl, Nat.mul_one] at hv116_0
                             replace hv116_0 := Option.some.inj (hv116_0.symm.trans hx116_0)
                             rw [hv116_0] at ge116_0
                             have HL116_0 := Aside0.mk (show Kd.R (Kd.int .i16) 93 _ _ _ _ (rd_L3 t108 (ji32)) from ge116_0)
                             clear hv116_0 ge116_0
                             clear hcc116 hce116
                             have HR116_0 := Aside0.mk hi116_0
                             have HC116_0 := Aside0.mk hl116_0
                             clear hi116_0 hl116_0
                             replace p116 := eq_true p116
                             replace q116 := eq_true q116
                             have p117 : 0 ≤ (x11_4 : Int) := of_decide_eq_true (by first | (with_reducible assumption) | assumption)
                             have q117 : x11_4 < ((rd_L3 t108 (ji32)).length : Int) := of_decide_eq_true (by first | (with_reducible assumption) | assumption)
                             obtain ⟨ad117, e117, hx117_0⟩ := Kd.at_int (by repeat (first | (with_reducible exact HR116_0.out) | (with_reducible refine Kd.C_alloc ?_ _) | (with_reducible refine Kd.C_drewN ?_ _) | (with_reducible refine Kd.C_drew ?_) | exact HR116_0.out)) x11_4 p117 q117
                             cases e117
                             replace p117 := eq_true p117
                             replace q117 := eq_true q117
                             have p118 : 0 ≤ (x10_4 : Int) := of_decide_eq_true (by first | (with_reducible assumption) | assumption)
                             have q118 : x10_4 < (t108.length : Int) := of_decide_eq_true (by first | (with_reducible assumption) | assumption)
                             obtain ⟨ad118, A118_0, c118_0, e118, hx118_0, hl118_0, hi118_0⟩ := at_L3 (Kd.S_reads' HO_9.out).2.2 x10_4 p118 q118
                             obtain rfl : ad116 = ad118 := (by injection e118)
                             obtain ⟨ce118, hce118, hMe118, hcc118⟩ := Kd.S_get HO_9.out [] x10_4 p118 (by first | exact q118 | exact of_decide_eq_true (by first | (with_reducible assumption) | assumption) | (have e_ := (Kd.S_reads' HO_9.out).1; omega))
                             obtain ⟨ve118_0, rfl, ge118_0⟩ := hMe118
                             have hv118_0 := hcc118 0 _ rfl
                             rw [Nat.add_zero, show ((Kd.slice 93 (Kd.int .i16))).sz = 1 from rfl, Nat.mul_one] at hv118_0
                             replace hv118_0 := Option.some.inj (hv118_0.symm.trans hx118_0)
                             rw [hv118_0] at ge118_0
                             have HL118_0 := Aside0.mk (show Kd.R (Kd.int .i16) 93 _ _ _ _ (rd_L3 t108 x10_4) from ge118_0)
                             clear hv118_0 ge118_0
                             clear hcc118 hce118
                             have HR118_0 := Aside0.mk hi118_0
                             have HC118_0 := Aside0.mk hl118_0
                             clear hi118_0 hl118_0
                             replace p118 := eq_true p118
                             replace q118 := eq_true q118
                             have p119 : 0 ≤ ((ji37) : Int) := of_decide_eq_true (by first | (with_reducible assumption) | assumption)
                             have q119 : (ji37) < ((rd_L3 t108 x10_4).length : Int) := of_decide_eq_true (by first | (with_reducible assumption) | assumption)
                             obtain ⟨ad119, e119, hx119_0⟩ := Kd.at_int (by repeat (first | (with_reducible exact HR118_0.out) | (with_reducible refine Kd.C_alloc ?_ _) | (with_reducible refine Kd.C_drewN ?_ _) | (with_reducible refine Kd.C_drew ?_) | exact HR118_0.out)) (ji37) p119 q119
                             cases e119
                             replace p119 := eq_true p119
                             replace q119 := eq_true q119
                             go_wp2
                             repeat (go_quiet (fail); try go_wp2)
                             go_roundg kj21
                             case measure => have := HJ2.out; have := HJ5.out; have := HK3.out; have := HK4.out; have := HJ21.out; omega
                             case rel => exact ⟨(x7_4), (ji32), (x11_4), (by first | rfl | (simp; done) | (simp only [← hji32] <;> (first | rfl | simp)) | (simp [*]; done)), (by first | rfl | (simp; done) | (simp [*]; done)), H', ⟨by have := HJ2.out; have := HJ5.out; have := HK3.out; have := HK4.out; have := HJ21.out; omega⟩, ⟨by (with_reducible repeat (first | apply Kd.R_alloc | apply Kd.R_drewN | apply Kd.R_drew)); exact HO_7.out⟩, ⟨by (with_reducible repeat (first | apply Kd.S_alloc | apply Kd.S_drewN | apply Kd.S_drew)); exact HO_9.out⟩, ⟨by repeat (first | (with_reducible first | exact HB.out | apply below_alloc | apply pw_below_drewN | apply below_drew1) | exact HB.out)⟩⟩
                            ·rw [if_neg c40] at H
                             have c40b0 : decide ((rd (rd_L3 t108 x10_4) (ji37)) ≤ (rd (rd_L3 t108 (ji32)) x11_4)) = false := decide_eq_false c40
                             clear c40
                             have H' := Aside0.mk H
                             clear H
                             have p111 : 0 ≤ (x10_4 : Int) := of_decide_eq_true (by first | (with_reducible assumption) | assumption)
                             have q111 : x10_4 < (L0_.length : Int) := of_decide_eq_true (by first | (with_reducible assumption) | assumption)
                             obtain ⟨ad111, e111, hx111_0⟩ := Kd.at_string HR106.out x10_4 p111 q111
                             cases e111
                             try replace hx111_0 := (HB.out.cell (World.block_lt_of_cell? w _ hx111_0)).trans hx111_0
                             replace p111 := eq_true p111
                             replace q111 := eq_true q111
                             have p112 : 0 ≤ (x11_4 : Int) := of_decide_eq_true (by first | (with_reducible assumption) | assumption)
                             have q112 : x11_4 < (L1_.length : Int) := of_decide_eq_true (by first | (with_reducible assumption) | assumption)
                             obtain ⟨ad112, e112, hx112_0⟩ := Kd.at_string HR107.out x11_4 p112 q112
                             cases e112
                             try replace hx112_0 := (HB.out.cell (World.block_lt_of_cell? w _ hx112_0)).trans hx112_0
                             replace p112 := eq_true p112
                             replace q112 := eq_true q112
                             obtain ⟨Ao42, co42, eo42⟩ := Kd.S_slice HO_9.out
                             subst eo42
                             have p116 : 0 ≤ ((ji32) : Int) := of_decide_eq_true (by first | (with_reducible assumption) | assumption)
                             have q116 : (ji32) < (t108.length : Int) := of_decide_eq_true (by first | (with_reducible assumption) | assumption)
                             obtain ⟨ad116, A116_0, c116_0, e116, hx116_0, hl116_0, hi116_0⟩ := at_L3 (Kd.S_reads' HO_9.out).2.2 (ji32) p116 q116
                             cases e116
                             obtain ⟨ce116, hce116, hMe116, hcc116⟩ := Kd.S_get HO_9.out [] (ji32) p116 (by first | exact q116 | exact of_decide_eq_true (by first | (with_reducible assumption) | assumption) | (have e_ := (Kd.S_reads' HO_9.out).1; omega))
                             obtain ⟨ve116_0, rfl, ge116_0⟩ := hMe116
                             have hv116_0 := hcc116 0 _ rfl
                             rw [Nat.add_zero, show ((Kd.slice 93 (Kd.int .i16))).sz = 1 from rfl, Nat.mul_one] at hv116_0
                             replace hv116_0 := Option.some.inj (hv116_0.symm.trans hx116_0)
                             rw [hv116_0] at ge116_0
                             have HL116_0 := Aside0.mk (show Kd.R (Kd.int .i16) 93 _ _ _ _ (rd_L3 t108 (ji32)) from ge116_0)
                             clear hv116_0 ge116_0
                             clear hcc116 hce116
                             have HR116_0 := Aside0.mk hi116_0
                             have HC116_0 := Aside0.mk hl116_0
                             clear hi116_0 hl116_0
                             replace p116 := eq_true p116
                             replace q116 := eq_true q116
                             have p117 : 0 ≤ (x11_4 : Int) := of_decide_eq_true (by first | (with_reducible assumption) | assumption)
                             have q117 : x11_4 < ((rd_L3 t108 (ji32)).length : Int) := of_decide_eq_true (by first | (with_reducible assumption) | assumption)
                             obtain ⟨ad117, e117, hx117_0⟩ := Kd.at_int (by repeat (first | (with_reducible exact HR116_0.out) | (with_reducible refine Kd.C_alloc ?_ _) | (with_reducible refine Kd.C_drewN ?_ _) | (with_reducible refine Kd.C_drew ?_) | exact HR116_0.out)) x11_4 p117 q117
                             cases e117
                             replace p117 := eq_true p117
                             replace q117 := eq_true q117
                             have p118 : 0 ≤ (x10_4 : Int) := of_decide_eq_true (by first | (with_reducible assumption) | assumption)
                             have q118 : x10_4 < (t108.length : Int) := of_decide_eq_true (by first | (with_reducible assumption) | assumption)
                             obtain ⟨ad118, A118_0, c118_0, e118, hx118_0, hl118_0, hi118_0⟩ := at_L3 (Kd.S_reads' HO_9.out).2.2 x10_4 p118 q118
                             obtain rfl : ad116 = ad118 := (by injection e118)
                             obtain ⟨ce118, hce118, hMe118, hcc118⟩ := Kd.S_get HO_9.out [] x10_4 p118 (by first | exact q118 | exact of_decide_eq_true (by first | (with_reducible assumption) | assumption) | (have e_ := (Kd.S_reads' HO_9.out).1; omega))
                             obtain ⟨ve118_0, rfl, ge118_0⟩ := hMe118
                             have hv118_0 := hcc118 0 _ rfl
                             rw [Nat.add_zero, show ((Kd.slice 93 (Kd.int .i16))).sz = 1 from rfl, Nat.mul_one] at hv118_0
                             replace hv118_0 := Option.some.inj (hv118_0.symm.trans hx118_0)
                             rw [hv118_0] at ge118_0
                             have HL118_0 := Aside0.mk (show Kd.R (Kd.int .i16) 93 _ _ _ _ (rd_L3 t108 x10_4) from ge118_0)
                             clear hv118_0 ge118_0
                             clear hcc118 hce118
                             have HR118_0 := Aside0.mk hi118_0
                             have HC118_0 := Aside0.mk hl118_0
                             clear hi118_0 hl118_0
                             replace p118 := eq_true p118
                             replace q118 := eq_true q118
                             have p119 : 0 ≤ ((ji37) : Int) := of_decide_eq_true (by first | (with_reducible assumption) | assumption)
                             have q119 : (ji37) < ((rd_L3 t108 x10_4).length : Int) := of_decide_eq_true (by first | (with_reducible assumption) | assumption)
                             obtain ⟨ad119, e119, hx119_0⟩ := Kd.at_int (by repeat (first | (with_reducible exact HR118_0.out) | (with_reducible refine Kd.C_alloc ?_ _) | (with_reducible refine Kd.C_drewN ?_ _) | (with_reducible refine Kd.C_drew ?_) | exact HR118_0.out)) (ji37) p119 q119
                             cases e119
                             replace p119 := eq_true p119
                             replace q119 := eq_true q119
                             go_wp2
                             repeat (go_quiet (fail); try go_wp2)
                             go_roundg kj21
                             case measure => have := HJ2.out; have := HJ5.out; have := HK3.out; have := HK4.out; have := HJ21.out; omega
                             case rel => exact ⟨(x7_4), (x10_4), (ji37), (by first | rfl | (simp; done) | (simp [*]; done)), (by first | rfl | (simp; done) | (simp only [← hji37] <;> (first | rfl | simp)) | (simp [*]; done)), H', ⟨by have := HJ2.out; have := HJ5.out; have := HK3.out; have := HK4.out; have := HJ21.out; omega⟩, ⟨by (with_reducible repeat (first | apply Kd.R_alloc | apply Kd.R_drewN | apply Kd.R_drew)); exact HO_7.out⟩, ⟨by (with_reducible repeat (first | apply Kd.S_alloc | apply Kd.S_drewN | apply Kd.S_drew)); exact HO_9.out⟩, ⟨by repeat (first | (with_reducible first | exact HB.out | apply below_alloc | apply pw_below_drewN | apply below_drew1) | exact HB.out)⟩⟩
                           ·rw [if_neg c39] at H
                            exact absurd H (by simp)
                          ·rw [if_neg c38] at H
                           exact absurd H (by simp)
                         ·rw [if_neg c36] at H
                          exact absurd H (by simp)
                        ·rw [if_neg c35] at H
                         exact absurd H (by simp)
                       ·rw [if_neg c34] at H
                        exact absurd H (by simp)
                      ·rw [if_neg c33] at H
                       exact absurd H (by simp)
                    ·rw [if_neg c28] at H
                     exact absurd H (by simp)
                   ·rw [if_neg c27] at H
                    exact absurd H (by simp)
                  ·rw [if_neg c26] at H
                   exact absurd H (by simp)
                 ·rw [if_neg c25] at H
                  exact absurd H (by simp)
                ·replace c24 := Bool.eq_false_iff.mpr c24
                 subst c24
                 have H1 : (some (x7_4, 0)) = some (r1, r2) := by rw [if_neg (show ¬ (false = true) by decide)] at H; exact H
                 clear H
                 have H := H1
                 clear H1
                 simp only [Option.some.injEq, Prod.mk.injEq] at H
                 obtain ⟨rfl, rfl⟩ := H
                 go_wp2
                 repeat (go_quiet (fail); try go_wp2)
                 go_ret2
                 exact ⟨_, by first | rfl | (simp [errW_none, errW_some] <;> rfl) | (simp [*, errW_none, errW_some] <;> rfl), by (with_reducible repeat (first | apply Kd.R_alloc | apply Kd.R_drewN | apply Kd.R_drew)); exact HO_7.out, by repeat (first | (with_reducible first | exact HB.out | apply below_alloc | apply pw_below_drewN | apply below_drew1) | exact HB.out)⟩
           ·rw [if_neg c17] at H
            exact absurd H (by simp)
          ·rw [if_neg c15] at H
           exact absurd H (by simp)
         ·rw [if_neg c14] at H
          exact absurd H (by simp)

end Go.Proofs.Ythigjlahanejjaa.MD
