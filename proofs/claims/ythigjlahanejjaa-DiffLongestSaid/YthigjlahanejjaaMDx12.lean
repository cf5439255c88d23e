/- Laid by this claim's own program (myprint) out of the translation: functions that the laws of the group D reach, each as a plain function, with the proof that the Go code comes to it. No condition. -/
import Derived.Test.YthigjlahanejjaaMDx0
import Derived.Test.YthigjlahanejjaaMDx3
import Derived.Test.YthigjlahanejjaaMDx6
namespace Go.Proofs.Ythigjlahanejjaa.MD
open Go.Proofs.Ythigjlahanejjaa.Opening
open Go.RowKit Go.Proofs.YthigjlahanejjaaW.PrintWords Go.Proofs.YthigjlahanejjaaW.PrintLast Go.Proofs.YthigjlahanejjaaW.PrintMore
attribute [local go_sem] max2_int min2_int max_two min_two max_three min_three max_four min_four   -- for this text's walks alone
set_option linter.unusedVariables false
set_option linter.unusedSimpArgs false

/-! ### forebearlaw05_DiffLongest: function 4 -/
mutual
def forebearlaw05_DiffLongest.j0 : Nat → List ByteArray → List ByteArray → Bool → Option (Bool)
 | 0, _, _, _ => none
 | k + 1, x0, x1, x26 => if x26 = true then ((diff_Match.f k x0 x1).bind fun bt310 => (if (bt310.1.length : Int) = 0 then (some (bt310.2 == 4)) else (some false))) else ((diff_Match.f k x0 x1).bind fun bt314 => (if bt314.2 = 0 then (forebearlaw05_DiffLongest.l0 k x0 x1 bt314.1 0) else (some false)))
def forebearlaw05_DiffLongest.l0 : Nat → List ByteArray → List ByteArray → List (S39) → Int → Option (Bool)
 | 0, _, _, _, _ => none
 | k + 1, x0, x1, x7, x9 => if x9 < (x7.length : Int) then (if 0 ≤ x9 then (if ((rd_T39 x7 x9).f0) < 0 then (some false) else (if ((rd_T39 x7 x9).f0) ≥ (x0.length : Int) then (some false) else (if ((rd_T39 x7 x9).f1) < 0 then (some false) else (if ((rd_T39 x7 x9).f1) ≥ (x1.length : Int) then (some false) else (if 0 ≤ ((rd_T39 x7 x9).f0) then (if ((rd_T39 x7 x9).f0) < (x0.length : Int) then (if 0 ≤ ((rd_T39 x7 x9).f1) then (if ((rd_T39 x7 x9).f1) < (x1.length : Int) then (if (rdOf ByteArray.empty x0 ((rd_T39 x7 x9).f0)).toList = (rdOf ByteArray.empty x1 ((rd_T39 x7 x9).f1)).toList then (if x9 > 0 then (if 0 ≤ (wrap64 (x9 - 1)) then (if (wrap64 (x9 - 1)) < (x7.length : Int) then (if ((rd_T39 x7 x9).f0) ≤ ((rd_T39 x7 (wrap64 (x9 - 1))).f0) then (some false) else (if ((rd_T39 x7 x9).f1) ≤ ((rd_T39 x7 (wrap64 (x9 - 1))).f1) then (some false) else (forebearlaw05_DiffLongest.l0 k x0 x1 x7 (wrap64 (x9 + 1))))) else (none)) else (none)) else (forebearlaw05_DiffLongest.l0 k x0 x1 x7 (wrap64 (x9 + 1)))) else (some false)) else (none)) else (none)) else (none)) else (none)))))) else (none)) else (if 0 ≤ (wrap64 ((x1.length : Int) + 1)) then (if (wrap64 ((x1.length : Int) + 1) : Int).toNat ≤ 35184372088832 then (forebearlaw05_DiffLongest.l1 k x0 x1 x7 (List.replicate (wrap64 ((x1.length : Int) + 1) : Int).toNat 0) 0 0) else (none)) else (none))
def forebearlaw05_DiffLongest.l1 : Nat → List ByteArray → List ByteArray → List (S39) → List Int → Int → Int → Option (Bool)
 | 0, _, _, _, _, _, _ => none
 | k + 1, x0, x1, x7, x10, x11, x12 => if x12 < (x0.length : Int) then (forebearlaw05_DiffLongest.l2 k x0 x1 x7 x10 x11 x12 0 0) else (forebearlaw05_DiffLongest.l3 k x1 x7 x10 x11 0)
def forebearlaw05_DiffLongest.l2 : Nat → List ByteArray → List ByteArray → List (S39) → List Int → Int → Int → Int → Int → Option (Bool)
 | 0, _, _, _, _, _, _, _, _ => none
 | k + 1, x0, x1, x7, x10, x11, x12, x13, x14 => if x14 < (x1.length : Int) then (if 0 ≤ x14 then (if x14 < (x10.length : Int) then (if 0 ≤ (wrap64 (x14 + 1)) then (if (wrap64 (x14 + 1)) < (x10.length : Int) then (if 0 ≤ x12 then (if x12 < (x0.length : Int) then (if (rdOf ByteArray.empty x0 x12).toList = (rdOf ByteArray.empty x1 x14).toList then (forebearlaw05_DiffLongest.l2 k x0 x1 x7 (x10.set ((wrap64 (x14 + 1)) : Int).toNat (mx (mx (rd x10 x14) (rd x10 (wrap64 (x14 + 1)))) (wrap64 (x13 + 1)))) x11 x12 (rd x10 (wrap64 (x14 + 1))) (wrap64 (x14 + 1))) else (forebearlaw05_DiffLongest.l2 k x0 x1 x7 (x10.set ((wrap64 (x14 + 1)) : Int).toNat (mx (rd x10 x14) (rd x10 (wrap64 (x14 + 1))))) x11 x12 (rd x10 (wrap64 (x14 + 1))) (wrap64 (x14 + 1)))) else (none)) else (none)) else (none)) else (none)) else (none)) else (none)) else (if x11 = x12 then (if x12 < (x1.length : Int) then (if 0 ≤ x12 then (if x12 < (x0.length : Int) then (if (rdOf ByteArray.empty x0 x12).toList = (rdOf ByteArray.empty x1 x12).toList then (forebearlaw05_DiffLongest.l1 k x0 x1 x7 x10 (wrap64 (x11 + 1)) (wrap64 (x12 + 1))) else (forebearlaw05_DiffLongest.l1 k x0 x1 x7 x10 x11 (wrap64 (x12 + 1)))) else (none)) else (none)) else (forebearlaw05_DiffLongest.l1 k x0 x1 x7 x10 x11 (wrap64 (x12 + 1)))) else (forebearlaw05_DiffLongest.l1 k x0 x1 x7 x10 x11 (wrap64 (x12 + 1))))
def forebearlaw05_DiffLongest.l3 : Nat → List ByteArray → List (S39) → List Int → Int → Int → Option (Bool)
 | 0, _, _, _, _, _ => none
 | k + 1, x1, x7, x10, x11, x16 => if x16 < x11 then (if x16 ≥ (x7.length : Int) then (some false) else (if 0 ≤ x16 then (if x16 < (x7.length : Int) then (if ((rd_T39 x7 x16).f0) = x16 then (if ((rd_T39 x7 x16).f1) = x16 then (forebearlaw05_DiffLongest.l3 k x1 x7 x10 x11 (wrap64 (x16 + 1))) else (some false)) else (some false)) else (none)) else (none))) else (if 0 ≤ (x1.length : Int) then (if (x1.length : Int) < (x10.length : Int) then (some ((x7.length : Int) == (rd x10 (x1.length : Int)))) else (none)) else (none))
end
def forebearlaw05_DiffLongest.f (k : Nat) (l0 : List ByteArray) (l1 : List ByteArray) : Option (Bool) := (forebearlaw05_awake.f k).bind fun t309 => (if t309 = true then (if (l0.length : Int) > 256 then (forebearlaw05_DiffLongest.j0 k l0 l1 true) else (forebearlaw05_DiffLongest.j0 k l0 l1 (decide ((l1.length : Int) > 256)))) else (some false))
theorem forebearlaw05_DiffLongest.mono_l : ∀ k, (∀ y0 y1 y2, LeO (forebearlaw05_DiffLongest.j0 k y0 y1 y2) (forebearlaw05_DiffLongest.j0 (k + 1) y0 y1 y2)) ∧ (∀ y0 y1 y2 y3, LeO (forebearlaw05_DiffLongest.l0 k y0 y1 y2 y3) (forebearlaw05_DiffLongest.l0 (k + 1) y0 y1 y2 y3)) ∧ (∀ y0 y1 y2 y3 y4 y5, LeO (forebearlaw05_DiffLongest.l1 k y0 y1 y2 y3 y4 y5) (forebearlaw05_DiffLongest.l1 (k + 1) y0 y1 y2 y3 y4 y5)) ∧ (∀ y0 y1 y2 y3 y4 y5 y6 y7, LeO (forebearlaw05_DiffLongest.l2 k y0 y1 y2 y3 y4 y5 y6 y7) (forebearlaw05_DiffLongest.l2 (k + 1) y0 y1 y2 y3 y4 y5 y6 y7)) ∧ (∀ y0 y1 y2 y3 y4, LeO (forebearlaw05_DiffLongest.l3 k y0 y1 y2 y3 y4) (forebearlaw05_DiffLongest.l3 (k + 1) y0 y1 y2 y3 y4))
 | 0 => ⟨fun _ _ _ r h => by simp [forebearlaw05_DiffLongest.j0] at h, fun _ _ _ _ r h => by simp [forebearlaw05_DiffLongest.l0] at h, fun _ _ _ _ _ _ r h => by simp [forebearlaw05_DiffLongest.l1] at h, fun _ _ _ _ _ _ _ _ r h => by simp [forebearlaw05_DiffLongest.l2] at h, fun _ _ _ _ _ r h => by simp [forebearlaw05_DiffLongest.l3] at h⟩
 | k + 1 => by
  obtain ⟨ih0, ih1, ih2, ih3, ih4⟩ := forebearlaw05_DiffLongest.mono_l k
  refine ⟨?_, ?_, ?_, ?_, ?_⟩
  ·intro y0 y1 y2
   unfold forebearlaw05_DiffLongest.j0
   repeat' first
   | (with_reducible exact ih0 _ _ _)
   | (with_reducible exact ih1 _ _ _ _)
   | (with_reducible exact ih2 _ _ _ _ _ _)
   | (with_reducible exact ih3 _ _ _ _ _ _ _ _)
   | (with_reducible exact ih4 _ _ _ _ _)
   | (with_reducible exact diff_Match.mono _ _ _)
   | (with_reducible exact forebearlaw05_awake.mono _)
   | (with_reducible exact LeO.refl _)
   | (with_reducible exact LeO.none _)
   | (with_reducible refine LeO.ite ?_ ?_)
   | (with_reducible refine LeO.bind ?_ (fun _ => ?_))
   | exact ih0 _ _ _
   | exact ih1 _ _ _ _
   | exact ih2 _ _ _ _ _ _
   | exact ih3 _ _ _ _ _ _ _ _
   | exact ih4 _ _ _ _ _
   | exact diff_Match.mono _ _ _
   | exact forebearlaw05_awake.mono _
   | exact LeO.none _
   | refine LeO.ite ?_ ?_
   | refine LeO.bind ?_ (fun _ => ?_)
  ·intro y0 y1 y2 y3
   unfold forebearlaw05_DiffLongest.l0
   repeat' first
   | (with_reducible exact ih0 _ _ _)
   | (with_reducible exact ih1 _ _ _ _)
   | (with_reducible exact ih2 _ _ _ _ _ _)
   | (with_reducible exact ih3 _ _ _ _ _ _ _ _)
   | (with_reducible exact ih4 _ _ _ _ _)
   | (with_reducible exact diff_Match.mono _ _ _)
   | (with_reducible exact forebearlaw05_awake.mono _)
   | (with_reducible exact LeO.refl _)
   | (with_reducible exact LeO.none _)
   | (with_reducible refine LeO.ite ?_ ?_)
   | (with_reducible refine LeO.bind ?_ (fun _ => ?_))
   | exact ih0 _ _ _
   | exact ih1 _ _ _ _
   | exact ih2 _ _ _ _ _ _
   | exact ih3 _ _ _ _ _ _ _ _
   | exact ih4 _ _ _ _ _
   | exact diff_Match.mono _ _ _
   | exact forebearlaw05_awake.mono _
   | exact LeO.none _
   | refine LeO.ite ?_ ?_
   | refine LeO.bind ?_ (fun _ => ?_)
  ·intro y0 y1 y2 y3 y4 y5
   unfold forebearlaw05_DiffLongest.l1
   repeat' first
   | (with_reducible exact ih0 _ _ _)
   | (with_reducible exact ih1 _ _ _ _)
   | (with_reducible exact ih2 _ _ _ _ _ _)
   | (with_reducible exact ih3 _ _ _ _ _ _ _ _)
   | (with_reducible exact ih4 _ _ _ _ _)
   | (with_reducible exact diff_Match.mono _ _ _)
   | (with_reducible exact forebearlaw05_awake.mono _)
   | (with_reducible exact LeO.refl _)
   | (with_reducible exact LeO.none _)
   | (with_reducible refine LeO.ite ?_ ?_)
   | (with_reducible refine LeO.bind ?_ (fun _ => ?_))
   | exact ih0 _ _ _
   | exact ih1 _ _ _ _
   | exact ih2 _ _ _ _ _ _
   | exact ih3 _ _ _ _ _ _ _ _
   | exact ih4 _ _ _ _ _
   | exact diff_Match.mono _ _ _
   | exact forebearlaw05_awake.mono _
   | exact LeO.none _
   | refine LeO.ite ?_ ?_
   | refine LeO.bind ?_ (fun _ => ?_)
  ·intro y0 y1 y2 y3 y4 y5 y6 y7
   unfold forebearlaw05_DiffLongest.l2
   repeat' first
   | (with_reducible exact ih0 _ _ _)
   | (with_reducible exact ih1 _ _ _ _)
   | (with_reducible exact ih2 _ _ _ _ _ _)
   | (with_reducible exact ih3 _ _ _ _ _ _ _ _)
   | (with_reducible exact ih4 _ _ _ _ _)
   | (with_reducible exact diff_Match.mono _ _ _)
   | (with_reducible exact forebearlaw05_awake.mono _)
   | (with_reducible exact LeO.refl _)
   | (with_reducible exact LeO.none _)
   | (with_reducible refine LeO.ite ?_ ?_)
   | (with_reducible refine LeO.bind ?_ (fun _ => ?_))
   | exact ih0 _ _ _
   | exact ih1 _ _ _ _
   | exact ih2 _ _ _ _ _ _
   | exact ih3 _ _ _ _ _ _ _ _
   | exact ih4 _ _ _ _ _
   | exact diff_Match.mono _ _ _
   | exact forebearlaw05_awake.mono _
   | exact LeO.none _
   | refine LeO.ite ?_ ?_
   | refine LeO.bind ?_ (fun _ => ?_)
  ·intro y0 y1 y2 y3 y4
   unfold forebearlaw05_DiffLongest.l3
   repeat' first
   | (with_reducible exact ih0 _ _ _)
   | (with_reducible exact ih1 _ _ _ _)
   | (with_reducible exact ih2 _ _ _ _ _ _)
   | (with_reducible exact ih3 _ _ _ _ _ _ _ _)
   | (with_reducible exact ih4 _ _ _ _ _)
   | (with_reducible exact diff_Match.mono _ _ _)
   | (with_reducible exact forebearlaw05_awake.mono _)
   | (with_reducible exact LeO.refl _)
   | (with_reducible exact LeO.none _)
   | (with_reducible refine LeO.ite ?_ ?_)
   | (with_reducible refine LeO.bind ?_ (fun _ => ?_))
   | exact ih0 _ _ _
   | exact ih1 _ _ _ _
   | exact ih2 _ _ _ _ _ _
   | exact ih3 _ _ _ _ _ _ _ _
   | exact ih4 _ _ _ _ _
   | exact diff_Match.mono _ _ _
   | exact forebearlaw05_awake.mono _
   | exact LeO.none _
   | refine LeO.ite ?_ ?_
   | refine LeO.bind ?_ (fun _ => ?_)
theorem forebearlaw05_DiffLongest.mono : ∀ a0 a1 k, LeO (forebearlaw05_DiffLongest.f k a0 a1) (forebearlaw05_DiffLongest.f (k + 1) a0 a1) := by
 intro a0 a1 k
 obtain ⟨ih0, ih1, ih2, ih3, ih4⟩ := forebearlaw05_DiffLongest.mono_l k
 unfold forebearlaw05_DiffLongest.f
 repeat' first
   | (with_reducible exact ih0 _ _ _)
   | (with_reducible exact ih1 _ _ _ _)
   | (with_reducible exact ih2 _ _ _ _ _ _)
   | (with_reducible exact ih3 _ _ _ _ _ _ _ _)
   | (with_reducible exact ih4 _ _ _ _ _)
   | (with_reducible exact diff_Match.mono _ _ _)
   | (with_reducible exact forebearlaw05_awake.mono _)
   | (with_reducible exact LeO.refl _)
   | (with_reducible exact LeO.none _)
   | (with_reducible refine LeO.ite ?_ ?_)
   | (with_reducible refine LeO.bind ?_ (fun _ => ?_))
   | exact ih0 _ _ _
   | exact ih1 _ _ _ _
   | exact ih2 _ _ _ _ _ _
   | exact ih3 _ _ _ _ _ _ _ _
   | exact ih4 _ _ _ _ _
   | exact diff_Match.mono _ _ _
   | exact forebearlaw05_awake.mono _
   | exact LeO.none _
   | refine LeO.ite ?_ ?_
   | refine LeO.bind ?_ (fun _ => ?_)
set_option maxHeartbeats 8000000 in
set_option maxRecDepth 100000 in
theorem forebearlaw05_DiffLongest.calls (k : Nat) (A0 : Option Addr) (c0 : Nat) (l0 : List ByteArray) (A1 : Option Addr) (c1 : Nat) (l1 : List ByteArray) (r : Bool) (w : World) (hr0 : Kd.C Kd.string w A0 l0.length l0) (hc0 : l0.length ≤ c0) (hr1 : Kd.C Kd.string w A1 l1.length l1) (hc1 : l1.length ≤ c1) (h : forebearlaw05_DiffLongest.f k l0 l1 = some r) :
  Calls Try.prog 4 #[.slice A0 l0.length c0, .slice A1 l1.length c1] w fun e w' => e = .returned (.bool r) ∧ Below w.heap.size w w' := by
 have HR0 := Aside0.mk hr0
 have HC0 := Aside0.mk hc0
 clear hr0 hc0
 have HR1 := Aside0.mk hr1
 have HC1 := Aside0.mk hc1
 clear hr1 hc1
 have HB := Aside0.mk (Below.refl w.heap.size w)
 have H : ((forebearlaw05_awake.f k).bind fun t309 => (if t309 = true then (if (l0.length : Int) > 256 then (forebearlaw05_DiffLongest.j0 k l0 l1 true) else (forebearlaw05_DiffLongest.j0 k l0 l1 (decide ((l1.length : Int) > 256)))) else (some false))) = some r := h
 clear h
 replace H := Option.bind_eq_some_iff.mp H
 obtain ⟨t309, A30, H⟩ := H
 replace H : (if t309 = true then (if (l0.length : Int) > 256 then (forebearlaw05_DiffLongest.j0 k l0 l1 true) else (forebearlaw05_DiffLongest.j0 k l0 l1 (decide ((l1.length : Int) > 256)))) else (some false)) = some r := H
 have A3 := Aside0.mk A30
 clear A30
 by_cases c4 : t309 = true
 ·as_aux_lemma =>
   subst c4
   have H1 : (if (l0.length : Int) > 256 then (forebearlaw05_DiffLongest.j0 k l0 l1 true) else (forebearlaw05_DiffLongest.j0 k l0 l1 (decide ((l1.length : Int) > 256)))) = some r := by rw [if_pos rfl] at H; exact H
   clear H
   have H := H1
   clear H1
   have HC5 := Aside0.mk H
   clear H
   go_enter Try.func4, Try.ntmps4
   go_upto_region 3 with (first | (go_at_call 12; (with_reducible refine (forebearlaw05_awake.calls k  true _ A3.out).mono ?_); rintro e w6 ⟨rfl, hb⟩; have n0_ := Aside0.mk (below_step (by repeat (first | (with_reducible first | exact HB.out | apply below_alloc | apply pw_below_drewN | apply below_drew1) | exact HB.out)) hb); clear HB; have HB := n0_; clear n0_; (try clear hb); (try clear hb2); (try clear hk); (try clear hi)))
   repeat (go_quiet (first | (go_at_call 12; (with_reducible refine (forebearlaw05_awake.calls k  true _ A3.out).mono ?_); rintro e w6 ⟨rfl, hb⟩; have n0_ := Aside0.mk (below_step (by repeat (first | (with_reducible first | exact HB.out | apply below_alloc | apply pw_below_drewN | apply below_drew1) | exact HB.out)) hb); clear HB; have HB := n0_; clear n0_; (try clear hb); (try clear hb2); (try clear hk); (try clear hi))); go_upto_region 3 with (first | (go_at_call 12; (with_reducible refine (forebearlaw05_awake.calls k  true _ A3.out).mono ?_); rintro e w6 ⟨rfl, hb⟩; have n0_ := Aside0.mk (below_step (by repeat (first | (with_reducible first | exact HB.out | apply below_alloc | apply pw_below_drewN | apply below_drew1) | exact HB.out)) hb); clear HB; have HB := n0_; clear n0_; (try clear hb); (try clear hb2); (try clear hk); (try clear hi))))
   (try simp only [Act.put, List.setIfInBounds_toArray, List.set_cons_zero, List.set_cons_succ])
   go_cut [26] (fun v26 wc => ∃ (kq : Nat) (x26_4 : Bool), v26 = .bool x26_4 ∧ Aside0 (forebearlaw05_DiffLongest.j0 kq l0 l1 x26_4 = some r) ∧ Aside0 (kq ≤ k) ∧ Aside0 (Below w.heap.size w wc))
   case first =>
    have H := HC5.out
    clear HC5
    by_cases c7 : (l0.length : Int) > 256
    ·rw [if_pos c7] at H
     have c7b0 : decide (256 < (l0.length : Int)) = true := decide_eq_true c7
     have c7b1 : decide (256 < l0.length) = true := decide_eq_true (by omega)
     clear c7
     (first | rw [c7b0] | (simp only [i64_w, i32_w]; rw [c7b0]) | skip)
     have H' := Aside0.mk H
     clear H
     go_wp2
     repeat (go_quiet (fail); try go_wp2)
     go_meet
     case rel => exact ⟨_, (true), (by first | rfl | (simp; done) | (simp [*]; done)), H', ⟨by first | omega | exact Nat.le_refl _⟩, ⟨by repeat (first | (with_reducible first | exact HB.out | apply below_alloc | apply pw_below_drewN | apply below_drew1) | exact HB.out)⟩⟩
    ·rw [if_neg c7] at H
     have c7b0 : decide (256 < (l0.length : Int)) = false := decide_eq_false c7
     have c7b1 : decide (256 < l0.length) = false := decide_eq_false (by omega)
     clear c7
     (first | rw [c7b0] | (simp only [i64_w, i32_w]; rw [c7b0]) | skip)
     have H' := Aside0.mk H
     clear H
     go_wp2
     repeat (go_quiet (fail); try go_wp2)
     go_meet
     case rel => exact ⟨_, (decide ((l1.length : Int) > 256)), (by first | rfl | (simp; done) | (simp [*]; done)), H', ⟨by first | omega | exact Nat.le_refl _⟩, ⟨by repeat (first | (with_reducible first | exact HB.out | apply below_alloc | apply pw_below_drewN | apply below_drew1) | exact HB.out)⟩⟩
   case rest =>
    as_aux_lemma =>
     clear HC5
     try clear c1
     try clear p2
     try clear c4
     try clear c7
     try clear c7b0
     try clear c7b1
     obtain ⟨kq, x26_4, rfl, HA, HJ4, HB⟩ := hcut
     cases kq with
     | zero => exact absurd HA.out (by simp [forebearlaw05_DiffLongest.j0])
     | succ kj4 =>
      have H := HA.out
      clear HA
      simp only [forebearlaw05_DiffLongest.j0] at H
      by_cases c8 : x26_4 = true
      ·subst c8
       have H1 : ((diff_Match.f kj4 l0 l1).bind fun bt310 => (if (bt310.1.length : Int) = 0 then (some (bt310.2 == 4)) else (some false))) = some r := by rw [if_pos rfl] at H; exact H
       clear H
       have H := H1
       clear H1
       replace H := Option.bind_eq_some_iff.mp H
       obtain ⟨⟨t310, t311⟩, A90, H⟩ := H
       replace H : (if (t310.length : Int) = 0 then (some (t311 == 4)) else (some false)) = some r := H
       have A9 := Aside0.mk A90
       clear A90
       by_cases c10 : (t310.length : Int) = 0
       ·rw [if_pos c10] at H
        have c10b0 : ((t310.length : Int) == 0) = true := beq_iff_eq.mpr c10
        have c10b1 : ((t310.length : Int) != 0) = false := bne_eq_false_iff_eq.mpr c10
        clear c10
        obtain rfl := Option.some.inj H
        go_wp2_with (first | (go_at_call 13; (with_reducible refine (diff_Match.calls kj4 _ _ l0 _ _ l1 t310 t311 _ ?side1 ?side2 ?side3 ?side4 A9.out).mono ?_); (case side1 => repeat (first | exact (Kd.C_below HR0.out HB.out) | (with_reducible refine Kd.C_alloc ?_ _) | (with_reducible refine Kd.C_drewN ?_ _) | (with_reducible refine Kd.C_drew ?_))); (case side2 => exact HC0.out); (case side3 => repeat (first | exact (Kd.C_below HR1.out HB.out) | (with_reducible refine Kd.C_alloc ?_ _) | (with_reducible refine Kd.C_drewN ?_ _) | (with_reducible refine Kd.C_drew ?_))); (case side4 => exact HC1.out); rintro e w11 ⟨v312, rfl, ho0, hb⟩; have n0_ := Aside0.mk (Kd.R_lower ho0 (below_size (by repeat (first | (with_reducible first | exact HB.out | apply below_alloc | apply pw_below_drewN | apply below_drew1) | exact HB.out)))); have n1_ := Aside0.mk (below_step (by repeat (first | (with_reducible first | exact HB.out | apply below_alloc | apply pw_below_drewN | apply below_drew1) | exact HB.out)) hb); clear HB; have HO313 := n0_; have HB := n1_; clear n0_ n1_; (try clear hb); (try clear hb2); (try clear hk); (try clear hi); (try clear ho0); obtain ⟨Ao12, co12, eo12⟩ := Kd.R_slice HO313.out; subst eo12))
        repeat (go_quiet (first | (go_at_call 13; (with_reducible refine (diff_Match.calls kj4 _ _ l0 _ _ l1 t310 t311 _ ?side1 ?side2 ?side3 ?side4 A9.out).mono ?_); (case side1 => repeat (first | exact (Kd.C_below HR0.out HB.out) | (with_reducible refine Kd.C_alloc ?_ _) | (with_reducible refine Kd.C_drewN ?_ _) | (with_reducible refine Kd.C_drew ?_))); (case side2 => exact HC0.out); (case side3 => repeat (first | exact (Kd.C_below HR1.out HB.out) | (with_reducible refine Kd.C_alloc ?_ _) | (with_reducible refine Kd.C_drewN ?_ _) | (with_reducible refine Kd.C_drew ?_))); (case side4 => exact HC1.out); rintro e w11 ⟨v312, rfl, ho0, hb⟩; have n0_ := Aside0.mk (Kd.R_lower ho0 (below_size (by repeat (first | (with_reducible first | exact HB.out | apply below_alloc | apply pw_below_drewN | apply below_drew1) | exact HB.out)))); have n1_ := Aside0.mk (below_step (by repeat (first | (with_reducible first | exact HB.out | apply below_alloc | apply pw_below_drewN | apply below_drew1) | exact HB.out)) hb); clear HB; have HO313 := n0_; have HB := n1_; clear n0_ n1_; (try clear hb); (try clear hb2); (try clear hk); (try clear hi); (try clear ho0); obtain ⟨Ao12, co12, eo12⟩ := Kd.R_slice HO313.out; subst eo12)); try go_wp2_with (first | (go_at_call 13; (with_reducible refine (diff_Match.calls kj4 _ _ l0 _ _ l1 t310 t311 _ ?side1 ?side2 ?side3 ?side4 A9.out).mono ?_); (case side1 => repeat (first | exact (Kd.C_below HR0.out HB.out) | (with_reducible refine Kd.C_alloc ?_ _) | (with_reducible refine Kd.C_drewN ?_ _) | (with_reducible refine Kd.C_drew ?_))); (case side2 => exact HC0.out); (case side3 => repeat (first | exact (Kd.C_below HR1.out HB.out) | (with_reducible refine Kd.C_alloc ?_ _) | (with_reducible refine Kd.C_drewN ?_ _) | (with_reducible refine Kd.C_drew ?_))); (case side4 => exact HC1.out); rintro e w11 ⟨v312, rfl, ho0, hb⟩; have n0_ := Aside0.mk (Kd.R_lower ho0 (below_size (by repeat (first | (with_reducible first | exact HB.out | apply below_alloc | apply pw_below_drewN | apply below_drew1) | exact HB.out)))); have n1_ := Aside0.mk (below_step (by repeat (first | (with_reducible first | exact HB.out | apply below_alloc | apply pw_below_drewN | apply below_drew1) | exact HB.out)) hb); clear HB; have HO313 := n0_; have HB := n1_; clear n0_ n1_; (try clear hb); (try clear hb2); (try clear hk); (try clear hi); (try clear ho0); obtain ⟨Ao12, co12, eo12⟩ := Kd.R_slice HO313.out; subst eo12)))
        go_ret
        exact ⟨by first | rfl | (simp [errW_none, errW_some] <;> rfl) | (simp [*, errW_none, errW_some] <;> rfl), by repeat (first | (with_reducible first | exact HB.out | apply below_alloc | apply pw_below_drewN | apply below_drew1) | exact HB.out)⟩
       ·rw [if_neg c10] at H
        have c10b0 : ((t310.length : Int) == 0) = false := beq_eq_false_iff_ne.mpr c10
        have c10b1 : ((t310.length : Int) != 0) = true := bne_iff_ne.mpr c10
        have c10b2 : ¬ (t310 = []) := fun h_ => c10 (by rw [h_]; rfl)
        obtain rfl := Option.some.inj H
        go_wp2_with (first | (go_at_call 13; (with_reducible refine (diff_Match.calls kj4 _ _ l0 _ _ l1 t310 t311 _ ?side1 ?side2 ?side3 ?side4 A9.out).mono ?_); (case side1 => repeat (first | exact (Kd.C_below HR0.out HB.out) | (with_reducible refine Kd.C_alloc ?_ _) | (with_reducible refine Kd.C_drewN ?_ _) | (with_reducible refine Kd.C_drew ?_))); (case side2 => exact HC0.out); (case side3 => repeat (first | exact (Kd.C_below HR1.out HB.out) | (with_reducible refine Kd.C_alloc ?_ _) | (with_reducible refine Kd.C_drewN ?_ _) | (with_reducible refine Kd.C_drew ?_))); (case side4 => exact HC1.out); rintro e w13 ⟨v312, rfl, ho0, hb⟩; have n0_ := Aside0.mk (Kd.R_lower ho0 (below_size (by repeat (first | (with_reducible first | exact HB.out | apply below_alloc | apply pw_below_drewN | apply below_drew1) | exact HB.out)))); have n1_ := Aside0.mk (below_step (by repeat (first | (with_reducible first | exact HB.out | apply below_alloc | apply pw_below_drewN | apply below_drew1) | exact HB.out)) hb); clear HB; have HO313 := n0_; have HB := n1_; clear n0_ n1_; (try clear hb); (try clear hb2); (try clear hk); (try clear hi); (try clear ho0); obtain ⟨Ao14, co14, eo14⟩ := Kd.R_slice HO313.out; subst eo14))
        repeat (go_quiet (first | (go_at_call 13; (with_reducible refine (diff_Match.calls kj4 _ _ l0 _ _ l1 t310 t311 _ ?side1 ?side2 ?side3 ?side4 A9.out).mono ?_); (case side1 => repeat (first | exact (Kd.C_below HR0.out HB.out) | (with_reducible refine Kd.C_alloc ?_ _) | (with_reducible refine Kd.C_drewN ?_ _) | (with_reducible refine Kd.C_drew ?_))); (case side2 => exact HC0.out); (case side3 => repeat (first | exact (Kd.C_below HR1.out HB.out) | (with_reducible refine Kd.C_alloc ?_ _) | (with_reducible refine Kd.C_drewN ?_ _) | (with_reducible refine Kd.C_drew ?_))); (case side4 => exact HC1.out); rintro e w13 ⟨v312, rfl, ho0, hb⟩; have n0_ := Aside0.mk (Kd.R_lower ho0 (below_size (by repeat (first | (with_reducible first | exact HB.out | apply below_alloc | apply pw_below_drewN | apply below_drew1) | exact HB.out)))); have n1_ := Aside0.mk (below_step (by repeat (first | (with_reducible first | exact HB.out | apply below_alloc | apply pw_below_drewN | apply below_drew1) | exact HB.out)) hb); clear HB; have HO313 := n0_; have HB := n1_; clear n0_ n1_; (try clear hb); (try clear hb2); (try clear hk); (try clear hi); (try clear ho0); obtain ⟨Ao14, co14, eo14⟩ := Kd.R_slice HO313.out; subst eo14)); try go_wp2_with (first | (go_at_call 13; (with_reducible refine (diff_Match.calls kj4 _ _ l0 _ _ l1 t310 t311 _ ?side1 ?side2 ?side3 ?side4 A9.out).mono ?_); (case side1 => repeat (first | exact (Kd.C_below HR0.out HB.out) | (with_reducible refine Kd.C_alloc ?_ _) | (with_reducible refine Kd.C_drewN ?_ _) | (with_reducible refine Kd.C_drew ?_))); (case side2 => exact HC0.out); (case side3 => repeat (first | exact (Kd.C_below HR1.out HB.out) | (with_reducible refine Kd.C_alloc ?_ _) | (with_reducible refine Kd.C_drewN ?_ _) | (with_reducible refine Kd.C_drew ?_))); (case side4 => exact HC1.out); rintro e w13 ⟨v312, rfl, ho0, hb⟩; have n0_ := Aside0.mk (Kd.R_lower ho0 (below_size (by repeat (first | (with_reducible first | exact HB.out | apply below_alloc | apply pw_below_drewN | apply below_drew1) | exact HB.out)))); have n1_ := Aside0.mk (below_step (by repeat (first | (with_reducible first | exact HB.out | apply below_alloc | apply pw_below_drewN | apply below_drew1) | exact HB.out)) hb); clear HB; have HO313 := n0_; have HB := n1_; clear n0_ n1_; (try clear hb); (try clear hb2); (try clear hk); (try clear hi); (try clear ho0); obtain ⟨Ao14, co14, eo14⟩ := Kd.R_slice HO313.out; subst eo14)))
        go_ret
        exact ⟨by first | rfl | (simp [errW_none, errW_some] <;> rfl) | (simp [*, errW_none, errW_some] <;> rfl), by repeat (first | (with_reducible first | exact HB.out | apply below_alloc | apply pw_below_drewN | apply below_drew1) | exact HB.out)⟩
      ·as_aux_lemma =>
        replace c8 := Bool.eq_false_iff.mpr c8
        subst c8
        have H1 : ((diff_Match.f kj4 l0 l1).bind fun bt314 => (if bt314.2 = 0 then (forebearlaw05_DiffLongest.l0 kj4 l0 l1 bt314.1 0) else (some false))) = some r := by rw [if_neg (show ¬ (false = true) by decide)] at H; exact H
        clear H
        have H := H1
        clear H1
        replace H := Option.bind_eq_some_iff.mp H
        obtain ⟨⟨t314, t315⟩, A150, H⟩ := H
        replace H : (if t315 = 0 then (forebearlaw05_DiffLongest.l0 kj4 l0 l1 t314 0) else (some false)) = some r := H
        have A15 := Aside0.mk A150
        clear A150
        by_cases c16 : t315 = 0
        ·as_aux_lemma =>
          rw [if_pos c16] at H
          have c16b0 : (t315 == 0) = true := beq_iff_eq.mpr c16
          have c16b1 : (t315 != 0) = false := bne_eq_false_iff_eq.mpr c16
          clear c16
          have H' := Aside0.mk H
          clear H
          go_wp2_with (first | (go_at_call 13; (with_reducible refine (diff_Match.calls kj4 _ _ l0 _ _ l1 t314 t315 _ ?side1 ?side2 ?side3 ?side4 A15.out).mono ?_); (case side1 => repeat (first | exact (Kd.C_below HR0.out HB.out) | (with_reducible refine Kd.C_alloc ?_ _) | (with_reducible refine Kd.C_drewN ?_ _) | (with_reducible refine Kd.C_drew ?_))); (case side2 => exact HC0.out); (case side3 => repeat (first | exact (Kd.C_below HR1.out HB.out) | (with_reducible refine Kd.C_alloc ?_ _) | (with_reducible refine Kd.C_drewN ?_ _) | (with_reducible refine Kd.C_drew ?_))); (case side4 => exact HC1.out); rintro e w17 ⟨v316, rfl, ho0, hb⟩; have n0_ := Aside0.mk (Kd.R_lower ho0 (below_size (by repeat (first | (with_reducible first | exact HB.out | apply below_alloc | apply pw_below_drewN | apply below_drew1) | exact HB.out)))); have n1_ := Aside0.mk (below_step (by repeat (first | (with_reducible first | exact HB.out | apply below_alloc | apply pw_below_drewN | apply below_drew1) | exact HB.out)) hb); clear HB; have HO317 := n0_; have HB := n1_; clear n0_ n1_; (try clear hb); (try clear hb2); (try clear hk); (try clear hi); (try clear ho0)))
          repeat (go_quiet (first | (go_at_call 13; (with_reducible refine (diff_Match.calls kj4 _ _ l0 _ _ l1 t314 t315 _ ?side1 ?side2 ?side3 ?side4 A15.out).mono ?_); (case side1 => repeat (first | exact (Kd.C_below HR0.out HB.out) | (with_reducible refine Kd.C_alloc ?_ _) | (with_reducible refine Kd.C_drewN ?_ _) | (with_reducible refine Kd.C_drew ?_))); (case side2 => exact HC0.out); (case side3 => repeat (first | exact (Kd.C_below HR1.out HB.out) | (with_reducible refine Kd.C_alloc ?_ _) | (with_reducible refine Kd.C_drewN ?_ _) | (with_reducible refine Kd.C_drew ?_))); (case side4 => exact HC1.out); rintro e w17 ⟨v316, rfl, ho0, hb⟩; have n0_ := Aside0.mk (Kd.R_lower ho0 (below_size (by repeat (first | (with_reducible first | exact HB.out | apply below_alloc | apply pw_below_drewN | apply below_drew1) | exact HB.out)))); have n1_ := Aside0.mk (below_step (by repeat (first | (with_reducible first | exact HB.out | apply below_alloc | apply pw_below_drewN | apply below_drew1) | exact HB.out)) hb); clear HB; have HO317 := n0_; have HB := n1_; clear n0_ n1_; (try clear hb); (try clear hb2); (try clear hk); (try clear hi); (try clear ho0))); try go_wp2_with (first | (go_at_call 13; (with_reducible refine (diff_Match.calls kj4 _ _ l0 _ _ l1 t314 t315 _ ?side1 ?side2 ?side3 ?side4 A15.out).mono ?_); (case side1 => repeat (first | exact (Kd.C_below HR0.out HB.out) | (with_reducible refine Kd.C_alloc ?_ _) | (with_reducible refine Kd.C_drewN ?_ _) | (with_reducible refine Kd.C_drew ?_))); (case side2 => exact HC0.out); (case side3 => repeat (first | exact (Kd.C_below HR1.out HB.out) | (with_reducible refine Kd.C_alloc ?_ _) | (with_reducible refine Kd.C_drewN ?_ _) | (with_reducible refine Kd.C_drew ?_))); (case side4 => exact HC1.out); rintro e w17 ⟨v316, rfl, ho0, hb⟩; have n0_ := Aside0.mk (Kd.R_lower ho0 (below_size (by repeat (first | (with_reducible first | exact HB.out | apply below_alloc | apply pw_below_drewN | apply below_drew1) | exact HB.out)))); have n1_ := Aside0.mk (below_step (by repeat (first | (with_reducible first | exact HB.out | apply below_alloc | apply pw_below_drewN | apply below_drew1) | exact HB.out)) hb); clear HB; have HO317 := n0_; have HB := n1_; clear n0_ n1_; (try clear hb); (try clear hb2); (try clear hk); (try clear hi); (try clear ho0))))
          go_loopg [9] kj4 (fun kq v9 w' => ∃ (x9_2 : Int), v9 = .int .i64 x9_2 ∧ Aside0 (forebearlaw05_DiffLongest.l0 kq l0 l1 t314 x9_2 = some r) ∧ Aside0 (kq ≤ kj4) ∧ Aside0 (Kd.R k39 39 w' w.heap.size (fun _ => True) v316 t314) ∧ Aside0 (Below w.heap.size w w'))
          case atStart => exact ⟨(0), (by first | rfl | (simp; done) | (simp [*]; done)), H', ⟨Nat.le_refl _⟩, ⟨by (with_reducible repeat (first | apply Kd.R_alloc | apply Kd.R_drewN | apply Kd.R_drew)); exact HO317.out⟩, ⟨by repeat (first | (with_reducible first | exact HB.out | apply below_alloc | apply pw_below_drewN | apply below_drew1) | exact HB.out)⟩⟩
          case round =>
           as_aux_lemma =>
            clear H'
            try clear c1
            try clear p2
            try clear c4
            try clear c7
            try clear c7b0
            try clear c7b1
            try clear c8
            try clear c10
            try clear c10b0
            try clear c10b1
            try clear c10b2
            try clear c16
            try clear c16b0
            try clear c16b1
            try clear p2
            obtain ⟨x9_2, rfl, HA, HK2, HO_7, HB⟩ := hrel
            cases gk with
            | zero => exact absurd HA.out (by simp [forebearlaw05_DiffLongest.l0])
            | succ k2 =>
             have H := HA.out
             clear HA
             simp only [forebearlaw05_DiffLongest.l0] at H
             by_cases c18 : x9_2 < (t314.length : Int)
             ·as_aux_lemma =>
               rw [if_pos c18] at H
               have c18b0 : decide (x9_2 < (t314.length : Int)) = true := decide_eq_true c18
               clear c18
               by_cases c19 : 0 ≤ x9_2
               ·as_aux_lemma =>
                 rw [if_pos c19] at H
                 have c19b0 : decide (0 ≤ x9_2) = true := decide_eq_true c19
                 clear c19
                 by_cases c20 : ((rd_T39 t314 x9_2).f0) < 0
                 ·rw [if_pos c20] at H
                  have c20b0 : decide (((rd_T39 t314 x9_2).f0) < 0) = true := decide_eq_true c20
                  clear c20
                  obtain rfl := Option.some.inj H
                  obtain ⟨Ao21, co21, eo21⟩ := Kd.R_slice HO_7.out
                  subst eo21
                  have p318 : 0 ≤ (x9_2 : Int) := of_decide_eq_true (by first | (with_reducible assumption) | assumption)
                  have q318 : x9_2 < (t314.length : Int) := of_decide_eq_true (by first | (with_reducible assumption) | assumption)
                  obtain ⟨ad318, e318, hx318_0, hx318_1⟩ := at_T39 (Kd.R_reads' HO_7.out).2.2 x9_2 p318 q318
                  cases e318
                  replace p318 := eq_true p318
                  replace q318 := eq_true q318
                  go_wp2
                  repeat (go_quiet (fail); try go_wp2)
                  go_ret
                  exact ⟨by first | rfl | (simp [errW_none, errW_some] <;> rfl) | (simp [*, errW_none, errW_some] <;> rfl), by repeat (first | (with_reducible first | exact HB.out | apply below_alloc | apply pw_below_drewN | apply below_drew1) | exact HB.out)⟩
                 ·as_aux_lemma =>
                   rw [if_neg c20] at H
                   have c20b0 : decide (((rd_T39 t314 x9_2).f0) < 0) = false := decide_eq_false c20
                   clear c20
                   by_cases c22 : ((rd_T39 t314 x9_2).f0) ≥ (l0.length : Int)
                   ·rw [if_pos c22] at H
                    have c22b0 : decide ((l0.length : Int) ≤ ((rd_T39 t314 x9_2).f0)) = true := decide_eq_true c22
                    clear c22
                    obtain rfl := Option.some.inj H
                    obtain ⟨Ao23, co23, eo23⟩ := Kd.R_slice HO_7.out
                    subst eo23
                    have p318 : 0 ≤ (x9_2 : Int) := of_decide_eq_true (by first | (with_reducible assumption) | assumption)
                    have q318 : x9_2 < (t314.length : Int) := of_decide_eq_true (by first | (with_reducible assumption) | assumption)
                    obtain ⟨ad318, e318, hx318_0, hx318_1⟩ := at_T39 (Kd.R_reads' HO_7.out).2.2 x9_2 p318 q318
                    cases e318
                    replace p318 := eq_true p318
                    replace q318 := eq_true q318
                    have p319 : 0 ≤ (x9_2 : Int) := of_decide_eq_true (by first | (with_reducible assumption) | assumption)
                    have q319 : x9_2 < (t314.length : Int) := of_decide_eq_true (by first | (with_reducible assumption) | assumption)
                    obtain ⟨ad319, e319, hx319_0, hx319_1⟩ := at_T39 (Kd.R_reads' HO_7.out).2.2 x9_2 p319 q319
                    obtain rfl : ad318 = ad319 := (by injection e319)
                    replace p319 := eq_true p319
                    replace q319 := eq_true q319
                    go_wp2
                    repeat (go_quiet (fail); try go_wp2)
                    go_ret
                    exact ⟨by first | rfl | (simp [errW_none, errW_some] <;> rfl) | (simp [*, errW_none, errW_some] <;> rfl), by repeat (first | (with_reducible first | exact HB.out | apply below_alloc | apply pw_below_drewN | apply below_drew1) | exact HB.out)⟩
                   ·as_aux_lemma =>
                     rw [if_neg c22] at H
                     have c22b0 : decide ((l0.length : Int) ≤ ((rd_T39 t314 x9_2).f0)) = false := decide_eq_false c22
                     clear c22
                     by_cases c24 : ((rd_T39 t314 x9_2).f1) < 0
                     ·rw [if_pos c24] at H
                      have c24b0 : decide (((rd_T39 t314 x9_2).f1) < 0) = true := decide_eq_true c24
                      clear c24
                      obtain rfl := Option.some.inj H
                      obtain ⟨Ao25, co25, eo25⟩ := Kd.R_slice HO_7.out
                      subst eo25
                      have p318 : 0 ≤ (x9_2 : Int) := of_decide_eq_true (by first | (with_reducible assumption) | assumption)
                      have q318 : x9_2 < (t314.length : Int) := of_decide_eq_true (by first | (with_reducible assumption) | assumption)
                      obtain ⟨ad318, e318, hx318_0, hx318_1⟩ := at_T39 (Kd.R_reads' HO_7.out).2.2 x9_2 p318 q318
                      cases e318
                      replace p318 := eq_true p318
                      replace q318 := eq_true q318
                      have p319 : 0 ≤ (x9_2 : Int) := of_decide_eq_true (by first | (with_reducible assumption) | assumption)
                      have q319 : x9_2 < (t314.length : Int) := of_decide_eq_true (by first | (with_reducible assumption) | assumption)
                      obtain ⟨ad319, e319, hx319_0, hx319_1⟩ := at_T39 (Kd.R_reads' HO_7.out).2.2 x9_2 p319 q319
                      obtain rfl : ad318 = ad319 := (by injection e319)
                      replace p319 := eq_true p319
                      replace q319 := eq_true q319
                      have p320 : 0 ≤ (x9_2 : Int) := of_decide_eq_true (by first | (with_reducible assumption) | assumption)
                      have q320 : x9_2 < (t314.length : Int) := of_decide_eq_true (by first | (with_reducible assumption) | assumption)
                      obtain ⟨ad320, e320, hx320_0, hx320_1⟩ := at_T39 (Kd.R_reads' HO_7.out).2.2 x9_2 p320 q320
                      obtain rfl : ad318 = ad320 := (by injection e320)
                      replace p320 := eq_true p320
                      replace q320 := eq_true q320
                      go_wp2
                      repeat (go_quiet (fail); try go_wp2)
                      go_ret
                      exact ⟨by first | rfl | (simp [errW_none, errW_some] <;> rfl) | (simp [*, errW_none, errW_some] <;> rfl), by repeat (first | (with_reducible first | exact HB.out | apply below_alloc | apply pw_below_drewN | apply below_drew1) | exact HB.out)⟩
                     ·as_aux_lemma =>
                       rw [if_neg c24] at H
                       have c24b0 : decide (((rd_T39 t314 x9_2).f1) < 0) = false := decide_eq_false c24
                       clear c24
                       by_cases c26 : ((rd_T39 t314 x9_2).f1) ≥ (l1.length : Int)
                       ·as_aux_lemma =>
                         rw [if_pos c26] at H
                         have c26b0 : decide ((l1.length : Int) ≤ ((rd_T39 t314 x9_2).f1)) = true := decide_eq_true c26
                         clear c26
                         obtain rfl := Option.some.inj H
                         obtain ⟨Ao27, co27, eo27⟩ := Kd.R_slice HO_7.out
                         subst eo27
                         have p318 : 0 ≤ (x9_2 : Int) := of_decide_eq_true (by first | (with_reducible assumption) | assumption)
                         have q318 : x9_2 < (t314.length : Int) := of_decide_eq_true (by first | (with_reducible assumption) | assumption)
                         obtain ⟨ad318, e318, hx318_0, hx318_1⟩ := at_T39 (Kd.R_reads' HO_7.out).2.2 x9_2 p318 q318
                         cases e318
                         replace p318 := eq_true p318
                         replace q318 := eq_true q318
                         have p319 : 0 ≤ (x9_2 : Int) := of_decide_eq_true (by first | (with_reducible assumption) | assumption)
                         have q319 : x9_2 < (t314.length : Int) := of_decide_eq_true (by first | (with_reducible assumption) | assumption)
                         obtain ⟨ad319, e319, hx319_0, hx319_1⟩ := at_T39 (Kd.R_reads' HO_7.out).2.2 x9_2 p319 q319
                         obtain rfl : ad318 = ad319 := (by injection e319)
                         replace p319 := eq_true p319
                         replace q319 := eq_true q319
                         have p320 : 0 ≤ (x9_2 : Int) := of_decide_eq_true (by first | (with_reducible assumption) | assumption)
                         have q320 : x9_2 < (t314.length : Int) := of_decide_eq_true (by first | (with_reducible assumption) | assumption)
                         obtain ⟨ad320, e320, hx320_0, hx320_1⟩ := at_T39 (Kd.R_reads' HO_7.out).2.2 x9_2 p320 q320
                         obtain rfl : ad318 = ad320 := (by injection e320)
                         replace p320 := eq_true p320
                         replace q320 := eq_true q320
                         have p321 : 0 ≤ (x9_2 : Int) := of_decide_eq_true (by first | (with_reducible assumption) | assumption)
                         have q321 : x9_2 < (t314.length : Int) := of_decide_eq_true (by first | (with_reducible assumption) | assumption)
                         obtain ⟨ad321, e321, hx321_0, hx321_1⟩ := at_T39 (Kd.R_reads' HO_7.out).2.2 x9_2 p321 q321
                         obtain rfl : ad318 = ad321 := (by injection e321)
                         replace p321 := eq_true p321
                         replace q321 := eq_true q321
                         go_wp2
                         repeat (go_quiet (fail); try go_wp2)
                         go_ret
                         exact ⟨by first | rfl | (simp [errW_none, errW_some] <;> rfl) | (simp [*, errW_none, errW_some] <;> rfl), by repeat (first | (with_reducible first | exact HB.out | apply below_alloc | apply pw_below_drewN | apply below_drew1) | exact HB.out)⟩
                       ·as_aux_lemma =>
                         rw [if_neg c26] at H
                         have c26b0 : decide ((l1.length : Int) ≤ ((rd_T39 t314 x9_2).f1)) = false := decide_eq_false c26
                         clear c26
                         by_cases c28 : 0 ≤ ((rd_T39 t314 x9_2).f0)
                         ·as_aux_lemma =>
                           rw [if_pos c28] at H
                           have c28b0 : decide (0 ≤ ((rd_T39 t314 x9_2).f0)) = true := decide_eq_true c28
                           clear c28
                           by_cases c29 : ((rd_T39 t314 x9_2).f0) < (l0.length : Int)
                           ·as_aux_lemma =>
                             rw [if_pos c29] at H
                             have c29b0 : decide (((rd_T39 t314 x9_2).f0) < (l0.length : Int)) = true := decide_eq_true c29
                             clear c29
                             by_cases c30 : 0 ≤ ((rd_T39 t314 x9_2).f1)
                             ·as_aux_lemma =>
                               rw [if_pos c30] at H
                               have c30b0 : decide (0 ≤ ((rd_T39 t314 x9_2).f1)) = true := decide_eq_true c30
                               clear c30
                               by_cases c31 : ((rd_T39 t314 x9_2).f1) < (l1.length : Int)
                               ·as_aux_lemma =>
                                 rw [if_pos c31] at H
                                 have c31b0 : decide (((rd_T39 t314 x9_2).f1) < (l1.length : Int)) = true := decide_eq_true c31
                                 clear c31
                                 by_cases c32 : (rdOf ByteArray.empty l0 ((rd_T39 t314 x9_2).f0)).toList = (rdOf ByteArray.empty l1 ((rd_T39 t314 x9_2).f1)).toList
                                 ·as_aux_lemma =>
                                   rw [if_pos c32] at H
                                   have c32b0 : ((rdOf ByteArray.empty l0 ((rd_T39 t314 x9_2).f0)).toList == (rdOf ByteArray.empty l1 ((rd_T39 t314 x9_2).f1)).toList) = true := beq_iff_eq.mpr c32
                                   have c32b1 : ((rdOf ByteArray.empty l0 ((rd_T39 t314 x9_2).f0)).toList != (rdOf ByteArray.empty l1 ((rd_T39 t314 x9_2).f1)).toList) = false := bne_eq_false_iff_eq.mpr c32
                                   clear c32
                                   by_cases c33 : x9_2 > 0
                                   ·as_aux_lemma =>
                                     rw [if_pos c33] at H
                                     have c33b0 : decide (0 < x9_2) = true := decide_eq_true c33
                                     clear c33
                                     obtain ⟨ji34, hji34⟩ : ∃ j_ : Int, (wrap64 (x9_2 - 1)) = j_ := ⟨_, rfl⟩
                                     replace H : (if 0 ≤ (ji34) then (if (ji34) < (t314.length : Int) then (if ((rd_T39 t314 x9_2).f0) ≤ ((rd_T39 t314 (ji34)).f0) then (some false) else (if ((rd_T39 t314 x9_2).f1) ≤ ((rd_T39 t314 (ji34)).f1) then (some false) else (forebearlaw05_DiffLongest.l0 k2 l0 l1 t314 (wrap64 (x9_2 + 1))))) else (none)) else (none)) = some r := by first | (rw [hji34] at H; exact H) | (simp only [hji34] at H ⊢; exact H)
                                     have hji34w : (IntKind.i64.wrap (x9_2 - 1)) = ji34 := (i64_w _).trans hji34
                                     by_cases c35 : 0 ≤ (ji34)
                                     ·as_aux_lemma =>
                                       rw [if_pos c35] at H
                                       have c35b0 : decide (0 ≤ (ji34)) = true := decide_eq_true c35
                                       clear c35
                                       by_cases c36 : (ji34) < (t314.length : Int)
                                       ·as_aux_lemma =>
                                         rw [if_pos c36] at H
                                         have c36b0 : decide ((ji34) < (t314.length : Int)) = true := decide_eq_true c36
                                         clear c36
                                         by_cases c37 : ((rd_T39 t314 x9_2).f0) ≤ ((rd_T39 t314 (ji34)).f0)
                                         ·as_aux_lemma =>
                                           rw [if_pos c37] at H
                                           have c37b0 : decide (((rd_T39 t314 x9_2).f0) ≤ ((rd_T39 t314 (ji34)).f0)) = true := decide_eq_true c37
                                           clear c37
                                           obtain rfl := Option.some.inj H
                                           obtain ⟨Ao38, co38, eo38⟩ := Kd.R_slice HO_7.out
                                           subst eo38
                                           have p318 : 0 ≤ (x9_2 : Int) := of_decide_eq_true (by first | (with_reducible assumption) | assumption)
                                           have q318 : x9_2 < (t314.length : Int) := of_decide_eq_true (by first | (with_reducible assumption) | assumption)
                                           obtain ⟨ad318, e318, hx318_0, hx318_1⟩ := at_T39 (Kd.R_reads' HO_7.out).2.2 x9_2 p318 q318
                                           cases e318
                                           replace p318 := eq_true p318
                                           replace q318 := eq_true q318
                                           have p319 : 0 ≤ (x9_2 : Int) := of_decide_eq_true (by first | (with_reducible assumption) | assumption)
                                           have q319 : x9_2 < (t314.length : Int) := of_decide_eq_true (by first | (with_reducible assumption) | assumption)
                                           obtain ⟨ad319, e319, hx319_0, hx319_1⟩ := at_T39 (Kd.R_reads' HO_7.out).2.2 x9_2 p319 q319
                                           obtain rfl : ad318 = ad319 := (by injection e319)
                                           replace p319 := eq_true p319
                                           replace q319 := eq_true q319
                                           have p320 : 0 ≤ (x9_2 : Int) := of_decide_eq_true (by first | (with_reducible assumption) | assumption)
                                           have q320 : x9_2 < (t314.length : Int) := of_decide_eq_true (by first | (with_reducible assumption) | assumption)
                                           obtain ⟨ad320, e320, hx320_0, hx320_1⟩ := at_T39 (Kd.R_reads' HO_7.out).2.2 x9_2 p320 q320
                                           obtain rfl : ad318 = ad320 := (by injection e320)
                                           replace p320 := eq_true p320
                                           replace q320 := eq_true q320
                                           have p321 : 0 ≤ (x9_2 : Int) := of_decide_eq_true (by first | (with_reducible assumption) | assumption)
                                           have q321 : x9_2 < (t314.length : Int) := of_decide_eq_true (by first | (with_reducible assumption) | assumption)
                                           obtain ⟨ad321, e321, hx321_0, hx321_1⟩ := at_T39 (Kd.R_reads' HO_7.out).2.2 x9_2 p321 q321
                                           obtain rfl : ad318 = ad321 := (by injection e321)
                                           replace p321 := eq_true p321
                                           replace q321 := eq_true q321
                                           have p322 : 0 ≤ (x9_2 : Int) := of_decide_eq_true (by first | (with_reducible assumption) | assumption)
                                           have q322 : x9_2 < (t314.length : Int) := of_decide_eq_true (by first | (with_reducible assumption) | assumption)
                                           obtain ⟨ad322, e322, hx322_0, hx322_1⟩ := at_T39 (Kd.R_reads' HO_7.out).2.2 x9_2 p322 q322
                                           obtain rfl : ad318 = ad322 := (by injection e322)
                                           replace p322 := eq_true p322
                                           replace q322 := eq_true q322
                                           have p323 : 0 ≤ (((rd_T39 t314 x9_2).f0) : Int) := of_decide_eq_true (by first | (with_reducible assumption) | assumption)
                                           have q323 : ((rd_T39 t314 x9_2).f0) < (l0.length : Int) := of_decide_eq_true (by first | (with_reducible assumption) | assumption)
                                           obtain ⟨ad323, e323, hx323_0⟩ := Kd.at_string HR0.out ((rd_T39 t314 x9_2).f0) p323 q323
                                           cases e323
                                           try replace hx323_0 := (HB.out.cell (World.block_lt_of_cell? w _ hx323_0)).trans hx323_0
                                           replace p323 := eq_true p323
                                           replace q323 := eq_true q323
                                           have p324 : 0 ≤ (x9_2 : Int) := of_decide_eq_true (by first | (with_reducible assumption) | assumption)
                                           have q324 : x9_2 < (t314.length : Int) := of_decide_eq_true (by first | (with_reducible assumption) | assumption)
                                           obtain ⟨ad324, e324, hx324_0, hx324_1⟩ := at_T39 (Kd.R_reads' HO_7.out).2.2 x9_2 p324 q324
                                           obtain rfl : ad318 = ad324 := (by injection e324)
                                           replace p324 := eq_true p324
                                           replace q324 := eq_true q324
                                           have p325 : 0 ≤ (((rd_T39 t314 x9_2).f1) : Int) := of_decide_eq_true (by first | (with_reducible assumption) | assumption)
                                           have q325 : ((rd_T39 t314 x9_2).f1) < (l1.length : Int) := of_decide_eq_true (by first | (with_reducible assumption) | assumption)
                                           obtain ⟨ad325, e325, hx325_0⟩ := Kd.at_string HR1.out ((rd_T39 t314 x9_2).f1) p325 q325
                                           cases e325
                                           try replace hx325_0 := (HB.out.cell (World.block_lt_of_cell? w _ hx325_0)).trans hx325_0
                                           replace p325 := eq_true p325
                                           replace q325 := eq_true q325
                                           have p326 : 0 ≤ (x9_2 : Int) := of_decide_eq_true (by first | (with_reducible assumption) | assumption)
                                           have q326 : x9_2 < (t314.length : Int) := of_decide_eq_true (by first | (with_reducible assumption) | assumption)
                                           obtain ⟨ad326, e326, hx326_0, hx326_1⟩ := at_T39 (Kd.R_reads' HO_7.out).2.2 x9_2 p326 q326
                                           obtain rfl : ad318 = ad326 := (by injection e326)
                                           replace p326 := eq_true p326
                                           replace q326 := eq_true q326
                                           have p327 : 0 ≤ ((ji34) : Int) := of_decide_eq_true (by first | (with_reducible assumption) | assumption)
                                           have q327 : (ji34) < (t314.length : Int) := of_decide_eq_true (by first | (with_reducible assumption) | assumption)
                                           obtain ⟨ad327, e327, hx327_0, hx327_1⟩ := at_T39 (Kd.R_reads' HO_7.out).2.2 (ji34) p327 q327
                                           obtain rfl : ad318 = ad327 := (by injection e327)
                                           replace p327 := eq_true p327
                                           replace q327 := eq_true q327
                                           go_wp2
                                           repeat (go_quiet (fail); try go_wp2)
                                           go_ret
                                           exact ⟨by first | rfl | (simp [errW_none, errW_some] <;> rfl) | (simp only [← hji34]; first | rfl | (simp [errW_none, errW_some] <;> rfl)) | (simp [*, errW_none, errW_some] <;> rfl), by repeat (first | (with_reducible first | exact HB.out | apply below_alloc | apply pw_below_drewN | apply below_drew1) | exact HB.out)⟩
                                         ·as_aux_lemma =>
                                           rw [if_neg c37] at H
                                           have c37b0 : decide (((rd_T39 t314 x9_2).f0) ≤ ((rd_T39 t314 (ji34)).f0)) = false := decide_eq_false c37
                                           clear c37
                                           by_cases c39 : ((rd_T39 t314 x9_2).f1) ≤ ((rd_T39 t314 (ji34)).f1)
                                           ·as_aux_lemma =>
                                             rw [if_pos c39] at H
                                             have c39b0 : decide (((rd_T39 t314 x9_2).f1) ≤ ((rd_T39 t314 (ji34)).f1)) = true := decide_eq_true c39
                                             clear c39
                                             obtain rfl := Option.some.inj H
                                             obtain ⟨Ao40, co40, eo40⟩ := Kd.R_slice HO_7.out
                                             subst eo40
                                             have p318 : 0 ≤ (x9_2 : Int) := of_decide_eq_true (by first | (with_reducible assumption) | assumption)
                                             have q318 : x9_2 < (t314.length : Int) := of_decide_eq_true (by first | (with_reducible assumption) | assumption)
                                             obtain ⟨ad318, e318, hx318_0, hx318_1⟩ := at_T39 (Kd.R_reads' HO_7.out).2.2 x9_2 p318 q318
                                             cases e318
                                             replace p318 := eq_true p318
                                             replace q318 := eq_true q318
                                             have p319 : 0 ≤ (x9_2 : Int) := of_decide_eq_true (by first | (with_reducible assumption) | assumption)
                                             have q319 : x9_2 < (t314.length : Int) := of_decide_eq_true (by first | (with_reducible assumption) | assumption)
                                             obtain ⟨ad319, e319, hx319_0, hx319_1⟩ := at_T39 (Kd.R_reads' HO_7.out).2.2 x9_2 p319 q319
                                             obtain rfl : ad318 = ad319 := (by injection e319)
                                             replace p319 := eq_true p319
                                             replace q319 := eq_true q319
                                             have p320 : 0 ≤ (x9_2 : Int) := of_decide_eq_true (by first | (with_reducible assumption) | assumption)
                                             have q320 : x9_2 < (t314.length : Int) := of_decide_eq_true (by first | (with_reducible assumption) | assumption)
                                             obtain ⟨ad320, e320, hx320_0, hx320_1⟩ := at_T39 (Kd.R_reads' HO_7.out).2.2 x9_2 p320 q320
                                             obtain rfl : ad318 = ad320 := (by injection e320)
                                             replace p320 := eq_true p320
                                             replace q320 := eq_true q320
                                             have p321 : 0 ≤ (x9_2 : Int) := of_decide_eq_true (by first | (with_reducible assumption) | assumption)
                                             have q321 : x9_2 < (t314.length : Int) := of_decide_eq_true (by first | (with_reducible assumption) | assumption)
                                             obtain ⟨ad321, e321, hx321_0, hx321_1⟩ := at_T39 (Kd.R_reads' HO_7.out).2.2 x9_2 p321 q321
                                             obtain rfl : ad318 = ad321 := (by injection e321)
                                             replace p321 := eq_true p321
                                             replace q321 := eq_true q321
                                             have p322 : 0 ≤ (x9_2 : Int) := of_decide_eq_true (by first | (with_reducible assumption) | assumption)
                                             have q322 : x9_2 < (t314.length : Int) := of_decide_eq_true (by first | (with_reducible assumption) | assumption)
                                             obtain ⟨ad322, e322, hx322_0, hx322_1⟩ := at_T39 (Kd.R_reads' HO_7.out).2.2 x9_2 p322 q322
                                             obtain rfl : ad318 = ad322 := (by injection e322)
                                             replace p322 := eq_true p322
                                             replace q322 := eq_true q322
                                             have p323 : 0 ≤ (((rd_T39 t314 x9_2).f0) : Int) := of_decide_eq_true (by first | (with_reducible assumption) | assumption)
                                             have q323 : ((rd_T39 t314 x9_2).f0) < (l0.length : Int) := of_decide_eq_true (by first | (with_reducible assumption) | assumption)
                                             obtain ⟨ad323, e323, hx323_0⟩ := Kd.at_string HR0.out ((rd_T39 t314 x9_2).f0) p323 q323
                                             cases e323
                                             try replace hx323_0 := (HB.out.cell (World.block_lt_of_cell? w _ hx323_0)).trans hx323_0
                                             replace p323 := eq_true p323
                                             replace q323 := eq_true q323
                                             have p324 : 0 ≤ (x9_2 : Int) := of_decide_eq_true (by first | (with_reducible assumption) | assumption)
                                             have q324 : x9_2 < (t314.length : Int) := of_decide_eq_true (by first | (with_reducible assumption) | assumption)
                                             obtain ⟨ad324, e324, hx324_0, hx324_1⟩ := at_T39 (Kd.R_reads' HO_7.out).2.2 x9_2 p324 q324
                                             obtain rfl : ad318 = ad324 := (by injection e324)
                                             replace p324 := eq_true p324
                                             replace q324 := eq_true q324
                                             have p325 : 0 ≤ (((rd_T39 t314 x9_2).f1) : Int) := of_decide_eq_true (by first | (with_reducible assumption) | assumption)
                                             have q325 : ((rd_T39 t314 x9_2).f1) < (l1.length : Int) := of_decide_eq_true (by first | (with_reducible assumption) | assumption)
                                             obtain ⟨ad325, e325, hx325_0⟩ := Kd.at_string HR1.out ((rd_T39 t314 x9_2).f1) p325 q325
                                             cases e325
                                             try replace hx325_0 := (HB.out.cell (World.block_lt_of_cell? w _ hx325_0)).trans hx325_0
                                             replace p325 := eq_true p325
                                             replace q325 := eq_true q325
                                             have p326 : 0 ≤ (x9_2 : Int) := of_decide_eq_true (by first | (with_reducible assumption) | assumption)
                                             have q326 : x9_2 < (t314.length : Int) := of_decide_eq_true (by first | (with_reducible assumption) | assumption)
                                             obtain ⟨ad326, e326, hx326_0, hx326_1⟩ := at_T39 (Kd.R_reads' HO_7.out).2.2 x9_2 p326 q326
                                             obtain rfl : ad318 = ad326 := (by injection e326)
                                             replace p326 := eq_true p326
                                             replace q326 := eq_true q326
                                             have p327 : 0 ≤ ((ji34) : Int) := of_decide_eq_true (by first | (with_reducible assumption) | assumption)
                                             have q327 : (ji34) < (t314.length : Int) := of_decide_eq_true (by first | (with_reducible assumption) | assumption)
                                             obtain ⟨ad327, e327, hx327_0, hx327_1⟩ := at_T39 (Kd.R_reads' HO_7.out).2.2 (ji34) p327 q327
                                             obtain rfl : ad318 = ad327 := (by injection e327)
                                             replace p327 := eq_true p327
                                             replace q327 := eq_true q327
                                             have p328 : 0 ≤ (x9_2 : Int) := of_decide_eq_true (by first | (with_reducible assumption) | assumption)
                                             have q328 : x9_2 < (t314.length : Int) := of_decide_eq_true (by first | (with_reducible assumption) | assumption)
                                             obtain ⟨ad328, e328, hx328_0, hx328_1⟩ := at_T39 (Kd.R_reads' HO_7.out).2.2 x9_2 p328 q328
                                             obtain rfl : ad318 = ad328 := (by injection e328)
                                             replace p328 := eq_true p328
                                             replace q328 := eq_true q328
                                             have p329 : 0 ≤ ((ji34) : Int) := of_decide_eq_true (by first | (with_reducible assumption) | assumption)
                                             have q329 : (ji34) < (t314.length : Int) := of_decide_eq_true (by first | (with_reducible assumption) | assumption)
                                             obtain ⟨ad329, e329, hx329_0, hx329_1⟩ := at_T39 (Kd.R_reads' HO_7.out).2.2 (ji34) p329 q329
                                             obtain rfl : ad318 = ad329 := (by injection e329)
                                             replace p329 := eq_true p329
                                             replace q329 := eq_true q329
                                             go_wp2
                                             repeat (go_quiet (fail); try go_wp2)
                                             go_ret
                                             exact ⟨by first | rfl | (simp [errW_none, errW_some] <;> rfl) | (simp only [← hji34]; first | rfl | (simp [errW_none, errW_some] <;> rfl)) | (simp [*, errW_none, errW_some] <;> rfl), by repeat (first | (with_reducible first | exact HB.out | apply below_alloc | apply pw_below_drewN | apply below_drew1) | exact HB.out)⟩
                                           ·as_aux_lemma =>
                                             rw [if_neg c39] at H
                                             have c39b0 : decide (((rd_T39 t314 x9_2).f1) ≤ ((rd_T39 t314 (ji34)).f1)) = false := decide_eq_false c39
                                             clear c39
                                             have H' := Aside0.mk H
                                             clear H
                                             obtain ⟨Ao41, co41, eo41⟩ := Kd.R_slice HO_7.out
                                             subst eo41
                                             have p318 : 0 ≤ (x9_2 : Int) := of_decide_eq_true (by first | (with_reducible assumption) | assumption)
                                             have q318 : x9_2 < (t314.length : Int) := of_decide_eq_true (by first | (with_reducible assumption) | assumption)
                                             obtain ⟨ad318, e318, hx318_0, hx318_1⟩ := at_T39 (Kd.R_reads' HO_7.out).2.2 x9_2 p318 q318
                                             cases e318
                                             replace p318 := eq_true p318
                                             replace q318 := eq_true q318
                                             have p319 : 0 ≤ (x9_2 : Int) := of_decide_eq_true (by first | (with_reducible assumption) | assumption)
                                             have q319 : x9_2 < (t314.length : Int) := of_decide_eq_true (by first | (with_reducible assumption) | assumption)
                                             obtain ⟨ad319, e319, hx319_0, hx319_1⟩ := at_T39 (Kd.R_reads' HO_7.out).2.2 x9_2 p319 q319
                                             obtain rfl : ad318 = ad319 := (by injection e319)
                                             replace p319 := eq_true p319
                                             replace q319 := eq_true q319
                                             have p320 : 0 ≤ (x9_2 : Int) := of_decide_eq_true (by first | (with_reducible assumption) | assumption)
                                             have q320 : x9_2 < (t314.length : Int) := of_decide_eq_true (by first | (with_reducible assumption) | assumption)
                                             obtain ⟨ad320, e320, hx320_0, hx320_1⟩ := at_T39 (Kd.R_reads' HO_7.out).2.2 x9_2 p320 q320
                                             obtain rfl : ad318 = ad320 := (by injection e320)
                                             replace p320 := eq_true p320
                                             replace q320 := eq_true q320
                                             have p321 : 0 ≤ (x9_2 : Int) := of_decide_eq_true (by first | (with_reducible assumption) | assumption)
                                             have q321 : x9_2 < (t314.length : Int) := of_decide_eq_true (by first | (with_reducible assumption) | assumption)
                                             obtain ⟨ad321, e321, hx321_0, hx321_1⟩ := at_T39 (Kd.R_reads' HO_7.out).2.2 x9_2 p321 q321
                                             obtain rfl : ad318 = ad321 := (by injection e321)
                                             replace p321 := eq_true p321
                                             replace q321 := eq_true q321
                                             have p322 : 0 ≤ (x9_2 : Int) := of_decide_eq_true (by first | (with_reducible assumption) | assumption)
                                             have q322 : x9_2 < (t314.length : Int) := of_decide_eq_true (by first | (with_reducible assumption) | assumption)
                                             obtain ⟨ad322, e322, hx322_0, hx322_1⟩ := at_T39 (Kd.R_reads' HO_7.out).2.2 x9_2 p322 q322
                                             obtain rfl : ad318 = ad322 := (by injection e322)
                                             replace p322 := eq_true p322
                                             replace q322 := eq_true q322
                                             have p323 : 0 ≤ (((rd_T39 t314 x9_2).f0) : Int) := of_decide_eq_true (by first | (with_reducible assumption) | assumption)
                                             have q323 : ((rd_T39 t314 x9_2).f0) < (l0.length : Int) := of_decide_eq_true (by first | (with_reducible assumption) | assumption)
                                             obtain ⟨ad323, e323, hx323_0⟩ := Kd.at_string HR0.out ((rd_T39 t314 x9_2).f0) p323 q323
                                             cases e323
                                             try replace hx323_0 := (HB.out.cell (World.block_lt_of_cell? w _ hx323_0)).trans hx323_0
                                             replace p323 := eq_true p323
                                             replace q323 := eq_true q323
                                             have p324 : 0 ≤ (x9_2 : Int) := of_decide_eq_true (by first | (with_reducible assumption) | assumption)
                                             have q324 : x9_2 < (t314.length : Int) := of_decide_eq_true (by first | (with_reducible assumption) | assumption)
                                             obtain ⟨ad324, e324, hx324_0, hx324_1⟩ := at_T39 (Kd.R_reads' HO_7.out).2.2 x9_2 p324 q324
                                             obtain rfl : ad318 = ad324 := (by injection e324)
                                             replace p324 := eq_true p324
                                             replace q324 := eq_true q324
                                             have p325 : 0 ≤ (((rd_T39 t314 x9_2).f1) : Int) := of_decide_eq_true (by first | (with_reducible assumption) | assumption)
                                             have q325 : ((rd_T39 t314 x9_2).f1) < (l1.length : Int) := of_decide_eq_true (by first | (with_reducible assumption) | assumption)
                                             obtain ⟨ad325, e325, hx325_0⟩ := Kd.at_string HR1.out ((rd_T39 t314 x9_2).f1) p325 q325
                                             cases e325
                                             try replace hx325_0 := (HB.out.cell (World.block_lt_of_cell? w _ hx325_0)).trans hx325_0
                                             replace p325 := eq_true p325
                                             replace q325 := eq_true q325
                                             have p326 : 0 ≤ (x9_2 : Int) := of_decide_eq_true (by first | (with_reducible assumption) | assumption)
                                             have q326 : x9_2 < (t314.length : Int) := of_decide_eq_true (by first | (with_reducible assumption) | assumption)
                                             obtain ⟨ad326, e326, hx326_0, hx326_1⟩ := at_T39 (Kd.R_reads' HO_7.out).2.2 x9_2 p326 q326
                                             obtain rfl : ad318 = ad326 := (by injection e326)
                                             replace p326 := eq_true p326
                                             replace q326 := eq_true q326
                                             have p327 : 0 ≤ ((ji34) : Int) := of_decide_eq_true (by first | (with_reducible assumption) | assumption)
                                             have q327 : (ji34) < (t314.length : Int) := of_decide_eq_true (by first | (with_reducible assumption) | assumption)
                                             obtain ⟨ad327, e327, hx327_0, hx327_1⟩ := at_T39 (Kd.R_reads' HO_7.out).2.2 (ji34) p327 q327
                                             obtain rfl : ad318 = ad327 := (by injection e327)
                                             replace p327 := eq_true p327
                                             replace q327 := eq_true q327
                                             have p328 : 0 ≤ (x9_2 : Int) := of_decide_eq_true (by first | (with_reducible assumption) | assumption)
                                             have q328 : x9_2 < (t314.length : Int) := of_decide_eq_true (by first | (with_reducible assumption) | assumption)
                                             obtain ⟨ad328, e328, hx328_0, hx328_1⟩ := at_T39 (Kd.R_reads' HO_7.out).2.2 x9_2 p328 q328
                                             obtain rfl : ad318 = ad328 := (by injection e328)
                                             replace p328 := eq_true p328
                                             replace q328 := eq_true q328
                                             have p329 : 0 ≤ ((ji34) : Int) := of_decide_eq_true (by first | (with_reducible assumption) | assumption)
                                             have q329 : (ji34) < (t314.length : Int) := of_decide_eq_true (by first | (with_reducible assumption) | assumption)
                                             obtain ⟨ad329, e329, hx329_0, hx329_1⟩ := at_T39 (Kd.R_reads' HO_7.out).2.2 (ji34) p329 q329
                                             obtain rfl : ad318 = ad329 := (by injection e329)
                                             replace p329 := eq_true p329
                                             replace q329 := eq_true q329
                                             go_wp2
                                             repeat (go_quiet (fail); try go_wp2)
                                             go_roundg k2
                                             case measure => have := HJ4.out; have := HK2.out; omega
                                             case rel => exact ⟨(wrap64 (x9_2 + 1)), (by first | rfl | (simp; done) | (simp [*]; done)), H', ⟨by have := HJ4.out; have := HK2.out; omega⟩, ⟨by (with_reducible repeat (first | apply Kd.R_alloc | apply Kd.R_drewN | apply Kd.R_drew)); exact HO_7.out⟩, ⟨by repeat (first | (with_reducible first | exact HB.out | apply below_alloc | apply pw_below_drewN | apply below_drew1) | exact HB.out)⟩⟩
                                       ·rw [if_neg c36] at H
                                        exact absurd H (by simp)
                                     ·rw [if_neg c35] at H
                                      exact absurd H (by simp)
                                   ·as_aux_lemma =>
                                     rw [if_neg c33] at H
                                     have c33b0 : decide (0 < x9_2) = false := decide_eq_false c33
                                     clear c33
                                     have H' := Aside0.mk H
                                     clear H
                                     obtain ⟨Ao42, co42, eo42⟩ := Kd.R_slice HO_7.out
                                     subst eo42
                                     have p318 : 0 ≤ (x9_2 : Int) := of_decide_eq_true (by first | (with_reducible assumption) | assumption)
                                     have q318 : x9_2 < (t314.length : Int) := of_decide_eq_true (by first | (with_reducible assumption) | assumption)
                                     obtain ⟨ad318, e318, hx318_0, hx318_1⟩ := at_T39 (Kd.R_reads' HO_7.out).2.2 x9_2 p318 q318
                                     cases e318
                                     replace p318 := eq_true p318
                                     replace q318 := eq_true q318
                                     have p319 : 0 ≤ (x9_2 : Int) := of_decide_eq_true (by first | (with_reducible assumption) | assumption)
                                     have q319 : x9_2 < (t314.length : Int) := of_decide_eq_true (by first | (with_reducible assumption) | assumption)
                                     obtain ⟨ad319, e319, hx319_0, hx319_1⟩ := at_T39 (Kd.R_reads' HO_7.out).2.2 x9_2 p319 q319
                                     obtain rfl : ad318 = ad319 := (by injection e319)
                                     replace p319 := eq_true p319
                                     replace q319 := eq_true q319
                                     have p320 : 0 ≤ (x9_2 : Int) := of_decide_eq_true (by first | (with_reducible assumption) | assumption)
                                     have q320 : x9_2 < (t314.length : Int) := of_decide_eq_true (by first | (with_reducible assumption) | assumption)
                                     obtain ⟨ad320, e320, hx320_0, hx320_1⟩ := at_T39 (Kd.R_reads' HO_7.out).2.2 x9_2 p320 q320
                                     obtain rfl : ad318 = ad320 := (by injection e320)
                                     replace p320 := eq_true p320
                                     replace q320 := eq_true q320
                                     have p321 : 0 ≤ (x9_2 : Int) := of_decide_eq_true (by first | (with_reducible assumption) | assumption)
                                     have q321 : x9_2 < (t314.length : Int) := of_decide_eq_true (by first | (with_reducible assumption) | assumption)
                                     obtain ⟨ad321, e321, hx321_0, hx321_1⟩ := at_T39 (Kd.R_reads' HO_7.out).2.2 x9_2 p321 q321
                                     obtain rfl : ad318 = ad321 := (by injection e321)
                                     replace p321 := eq_true p321
                                     replace q321 := eq_true q321
                                     have p322 : 0 ≤ (x9_2 : Int) := of_decide_eq_true (by first | (with_reducible assumption) | assumption)
                                     have q322 : x9_2 < (t314.length : Int) := of_decide_eq_true (by first | (with_reducible assumption) | assumption)
                                     obtain ⟨ad322, e322, hx322_0, hx322_1⟩ := at_T39 (Kd.R_reads' HO_7.out).2.2 x9_2 p322 q322
                                     obtain rfl : ad318 = ad322 := (by injection e322)
                                     replace p322 := eq_true p322
                                     replace q322 := eq_true q322
                                     have p323 : 0 ≤ (((rd_T39 t314 x9_2).f0) : Int) := of_decide_eq_true (by first | (with_reducible assumption) | assumption)
                                     have q323 : ((rd_T39 t314 x9_2).f0) < (l0.length : Int) := of_decide_eq_true (by first | (with_reducible assumption) | assumption)
                                     obtain ⟨ad323, e323, hx323_0⟩ := Kd.at_string HR0.out ((rd_T39 t314 x9_2).f0) p323 q323
                                     cases e323
                                     try replace hx323_0 := (HB.out.cell (World.block_lt_of_cell? w _ hx323_0)).trans hx323_0
                                     replace p323 := eq_true p323
                                     replace q323 := eq_true q323
                                     have p324 : 0 ≤ (x9_2 : Int) := of_decide_eq_true (by first | (with_reducible assumption) | assumption)
                                     have q324 : x9_2 < (t314.length : Int) := of_decide_eq_true (by first | (with_reducible assumption) | assumption)
                                     obtain ⟨ad324, e324, hx324_0, hx324_1⟩ := at_T39 (Kd.R_reads' HO_7.out).2.2 x9_2 p324 q324
                                     obtain rfl : ad318 = ad324 := (by injection e324)
                                     replace p324 := eq_true p324
                                     replace q324 := eq_true q324
                                     have p325 : 0 ≤ (((rd_T39 t314 x9_2).f1) : Int) := of_decide_eq_true (by first | (with_reducible assumption) | assumption)
                                     have q325 : ((rd_T39 t314 x9_2).f1) < (l1.length : Int) := of_decide_eq_true (by first | (with_reducible assumption) | assumption)
                                     obtain ⟨ad325, e325, hx325_0⟩ := Kd.at_string HR1.out ((rd_T39 t314 x9_2).f1) p325 q325
                                     cases e325
                                     try replace hx325_0 := (HB.out.cell (World.block_lt_of_cell? w _ hx325_0)).trans hx325_0
                                     replace p325 := eq_true p325
                                     replace q325 := eq_true q325
                                     go_wp2
                                     repeat (go_quiet (fail); try go_wp2)
                                     go_roundg k2
                                     case measure => have := HJ4.out; have := HK2.out; omega
                                     case rel => exact ⟨(wrap64 (x9_2 + 1)), (by first | rfl | (simp; done) | (simp [*]; done)), H', ⟨by have := HJ4.out; have := HK2.out; omega⟩, ⟨by (with_reducible repeat (first | apply Kd.R_alloc | apply Kd.R_drewN | apply Kd.R_drew)); exact HO_7.out⟩, ⟨by repeat (first | (with_reducible first | exact HB.out | apply below_alloc | apply pw_below_drewN | apply below_drew1) | exact HB.out)⟩⟩
                                 ·as_aux_lemma =>
                                   rw [if_neg c32] at H
                                   have c32b0 : ((rdOf ByteArray.empty l0 ((rd_T39 t314 x9_2).f0)).toList == (rdOf ByteArray.empty l1 ((rd_T39 t314 x9_2).f1)).toList) = false := beq_eq_false_iff_ne.mpr c32
                                   have c32b1 : ((rdOf ByteArray.empty l0 ((rd_T39 t314 x9_2).f0)).toList != (rdOf ByteArray.empty l1 ((rd_T39 t314 x9_2).f1)).toList) = true := bne_iff_ne.mpr c32
                                   obtain rfl := Option.some.inj H
                                   obtain ⟨Ao43, co43, eo43⟩ := Kd.R_slice HO_7.out
                                   subst eo43
                                   have p318 : 0 ≤ (x9_2 : Int) := of_decide_eq_true (by first | (with_reducible assumption) | assumption)
                                   have q318 : x9_2 < (t314.length : Int) := of_decide_eq_true (by first | (with_reducible assumption) | assumption)
                                   obtain ⟨ad318, e318, hx318_0, hx318_1⟩ := at_T39 (Kd.R_reads' HO_7.out).2.2 x9_2 p318 q318
                                   cases e318
                                   replace p318 := eq_true p318
                                   replace q318 := eq_true q318
                                   have p319 : 0 ≤ (x9_2 : Int) := of_decide_eq_true (by first | (with_reducible assumption) | assumption)
                                   have q319 : x9_2 < (t314.length : Int) := of_decide_eq_true (by first | (with_reducible assumption) | assumption)
                                   obtain ⟨ad319, e319, hx319_0, hx319_1⟩ := at_T39 (Kd.R_reads' HO_7.out).2.2 x9_2 p319 q319
                                   obtain rfl : ad318 = ad319 := (by injection e319)
                                   replace p319 := eq_true p319
                                   replace q319 := eq_true q319
                                   have p320 : 0 ≤ (x9_2 : Int) := of_decide_eq_true (by first | (with_reducible assumption) | assumption)
                                   have q320 : x9_2 < (t314.length : Int) := of_decide_eq_true (by first | (with_reducible assumption) | assumption)
                                   obtain ⟨ad320, e320, hx320_0, hx320_1⟩ := at_T39 (Kd.R_reads' HO_7.out).2.2 x9_2 p320 q320
                                   obtain rfl : ad318 = ad320 := (by injection e320)
                                   replace p320 := eq_true p320
                                   replace q320 := eq_true q320
                                   have p321 : 0 ≤ (x9_2 : Int) := of_decide_eq_true (by first | (with_reducible assumption) | assumption)
                                   have q321 : x9_2 < (t314.length : Int) := of_decide_eq_true (by first | (with_reducible assumption) | assumption)
                                   obtain ⟨ad321, e321, hx321_0, hx321_1⟩ := at_T39 (Kd.R_reads' HO_7.out).2.2 x9_2 p321 q321
                                   obtain rfl : ad318 = ad321 := (by injection e321)
                                   replace p321 := eq_true p321
                                   replace q321 := eq_true q321
                                   have p322 : 0 ≤ (x9_2 : Int) := of_decide_eq_true (by first | (with_reducible assumption) | assumption)
                                   have q322 : x9_2 < (t314.length : Int) := of_decide_eq_true (by first | (with_reducible assumption) | assumption)
                                   obtain ⟨ad322, e322, hx322_0, hx322_1⟩ := at_T39 (Kd.R_reads' HO_7.out).2.2 x9_2 p322 q322
                                   obtain rfl : ad318 = ad322 := (by injection e322)
                                   replace p322 := eq_true p322
                                   replace q322 := eq_true q322
                                   have p323 : 0 ≤ (((rd_T39 t314 x9_2).f0) : Int) := of_decide_eq_true (by first | (with_reducible assumption) | assumption)
                                   have q323 : ((rd_T39 t314 x9_2).f0) < (l0.length : Int) := of_decide_eq_true (by first | (with_reducible assumption) | assumption)
                                   obtain ⟨ad323, e323, hx323_0⟩ := Kd.at_string HR0.out ((rd_T39 t314 x9_2).f0) p323 q323
                                   cases e323
                                   try replace hx323_0 := (HB.out.cell (World.block_lt_of_cell? w _ hx323_0)).trans hx323_0
                                   replace p323 := eq_true p323
                                   replace q323 := eq_true q323
                                   have p324 : 0 ≤ (x9_2 : Int) := of_decide_eq_true (by first | (with_reducible assumption) | assumption)
                                   have q324 : x9_2 < (t314.length : Int) := of_decide_eq_true (by first | (with_reducible assumption) | assumption)
                                   obtain ⟨ad324, e324, hx324_0, hx324_1⟩ := at_T39 (Kd.R_reads' HO_7.out).2.2 x9_2 p324 q324
                                   obtain rfl : ad318 = ad324 := (by injection e324)
                                   replace p324 := eq_true p324
                                   replace q324 := eq_true q324
                                   have p325 : 0 ≤ (((rd_T39 t314 x9_2).f1) : Int) := of_decide_eq_true (by first | (with_reducible assumption) | assumption)
                                   have q325 : ((rd_T39 t314 x9_2).f1) < (l1.length : Int) := of_decide_eq_true (by first | (with_reducible assumption) | assumption)
                                   obtain ⟨ad325, e325, hx325_0⟩ := Kd.at_string HR1.out ((rd_T39 t314 x9_2).f1) p325 q325
                                   cases e325
                                   try replace hx325_0 := (HB.out.cell (World.block_lt_of_cell? w _ hx325_0)).trans hx325_0
                                   replace p325 := eq_true p325
                                   replace q325 := eq_true q325
                                   go_wp2
                                   repeat (go_quiet (fail); try go_wp2)
                                   go_ret
                                   exact ⟨by first | rfl | (simp [errW_none, errW_some] <;> rfl) | (simp [*, errW_none, errW_some] <;> rfl), by repeat (first | (with_reducible first | exact HB.out | apply below_alloc | apply pw_below_drewN | apply below_drew1) | exact HB.out)⟩
                               ·rw [if_neg c31] at H
                                exact absurd H (by simp)
                             ·rw [if_neg c30] at H
                              exact absurd H (by simp)
                           ·rw [if_neg c29] at H
                            exact absurd H (by simp)
                         ·rw [if_neg c28] at H
                          exact absurd H (by simp)
               ·rw [if_neg c19] at H
                exact absurd H (by simp)
             ·as_aux_lemma =>
               rw [if_neg c18] at H
               have c18b0 : decide (x9_2 < (t314.length : Int)) = false := decide_eq_false c18
               clear c18
               obtain ⟨ji44, hji44⟩ : ∃ j_ : Int, (wrap64 ((l1.length : Int) + 1)) = j_ := ⟨_, rfl⟩
               replace H : (if 0 ≤ (ji44) then (if (ji44 : Int).toNat ≤ 35184372088832 then (forebearlaw05_DiffLongest.l1 k2 l0 l1 t314 (List.replicate (ji44 : Int).toNat 0) 0 0) else (none)) else (none)) = some r := by first | (rw [hji44] at H; exact H) | (simp only [hji44] at H ⊢; exact H)
               have hji44w : (IntKind.i64.wrap ((l1.length : Int) + 1)) = ji44 := (i64_w _).trans hji44
               by_cases c45 : 0 ≤ (ji44)
               ·as_aux_lemma =>
                 rw [if_pos c45] at H
                 have c45b0 := eq_true c45
                 have c45b1 : decide (0 ≤ (ji44)) = true := decide_eq_true c45
                 clear c45
                 by_cases c46 : (ji44 : Int).toNat ≤ 35184372088832
                 ·as_aux_lemma =>
                   rw [if_pos c46] at H
                   have c46b0 := eq_true c46
                   have c46b1 : decide ((ji44 : Int).toNat ≤ 35184372088832) = true := decide_eq_true c46
                   clear c46
                   obtain ⟨y330, hy330⟩ : ∃ y_ : List Int, y_ = (List.replicate (ji44 : Int).toNat 0) := ⟨_, rfl⟩
                   replace H : (forebearlaw05_DiffLongest.l1 k2 l0 l1 t314 y330 0 0) = some r := by first | (rw [hy330]; with_reducible exact H) | (have H2_ := (Option.bind_some _ _).symm.trans H; rw [hy330]; with_reducible exact H2_) | (have H2_ := (Option.bind_some _ _).symm.trans H; with_reducible exact H2_) | with_reducible exact H | (rw [hy330]; exact H) | exact H
                   have Ny330 := Aside0.mk hy330
                   clear hy330
                   have H' := Aside0.mk H
                   clear H
                   obtain ⟨Ao47, co47, eo47⟩ := Kd.R_slice HO_7.out
                   subst eo47
                   go_wp2_with (first | ((with_reducible refine gate_dst (N := 142) rfl ?_); (try (refine gate_guard (by rfl) ?_; dsimp only)); refine Kd.R_make (Kd.int .i64) _ 3 rfl (N := 142) rfl 42 _ _ rfl ji44 rfl rfl Try.underlying42 (.int .i64 0) 8 info3 rfl (by decide) (by omega) 0 (ok := fun _ => True) (okp := fun _ => True) rfl (fun _ hk => hk) trivial (of_decide_eq_true (by first | (with_reducible assumption) | assumption)) (Nat.le_trans (Nat.mul_le_mul_right _ (of_decide_eq_true (by first | (with_reducible assumption) | assumption) : ji44.toNat ≤ 35184372088832)) (by omega)) (Below.refl _ _) (Nat.le_refl _) ?_; intro v331 w48 ho49 hb hg_ hnew_; clear hg_ hnew_; (first | rw [← Ny330.out] at ho49 | (simp only [Int.reduceToNat] at ho49; rw [← Ny330.out] at ho49)); have n0_ := Aside0.mk (Kd.R_below (by (with_reducible repeat (first | apply Kd.R_alloc | apply Kd.R_drewN | apply Kd.R_drew)); exact HO_7.out) hb); have n1_ := Aside0.mk (Kd.R_lower ho49 (below_size (by repeat (first | (with_reducible first | exact HB.out | apply below_alloc | apply pw_below_drewN | apply below_drew1) | exact HB.out)))); have n2_ := Aside0.mk (below_step (by repeat (first | (with_reducible first | exact HB.out | apply below_alloc | apply pw_below_drewN | apply below_drew1) | exact HB.out)) hb); clear HO_7; clear HB; have HO_7 := n0_; have HO332 := n1_; have HB := n2_; clear n0_ n1_ n2_; clear hb ho49))
                   repeat (go_quiet (fail); try go_wp2_with (first | ((with_reducible refine gate_dst (N := 142) rfl ?_); (try (refine gate_guard (by rfl) ?_; dsimp only)); refine Kd.R_make (Kd.int .i64) _ 3 rfl (N := 142) rfl 42 _ _ rfl ji44 rfl rfl Try.underlying42 (.int .i64 0) 8 info3 rfl (by decide) (by omega) 0 (ok := fun _ => True) (okp := fun _ => True) rfl (fun _ hk => hk) trivial (of_decide_eq_true (by first | (with_reducible assumption) | assumption)) (Nat.le_trans (Nat.mul_le_mul_right _ (of_decide_eq_true (by first | (with_reducible assumption) | assumption) : ji44.toNat ≤ 35184372088832)) (by omega)) (Below.refl _ _) (Nat.le_refl _) ?_; intro v331 w48 ho49 hb hg_ hnew_; clear hg_ hnew_; (first | rw [← Ny330.out] at ho49 | (simp only [Int.reduceToNat] at ho49; rw [← Ny330.out] at ho49)); have n0_ := Aside0.mk (Kd.R_below (by (with_reducible repeat (first | apply Kd.R_alloc | apply Kd.R_drewN | apply Kd.R_drew)); exact HO_7.out) hb); have n1_ := Aside0.mk (Kd.R_lower ho49 (below_size (by repeat (first | (with_reducible first | exact HB.out | apply below_alloc | apply pw_below_drewN | apply below_drew1) | exact HB.out)))); have n2_ := Aside0.mk (below_step (by repeat (first | (with_reducible first | exact HB.out | apply below_alloc | apply pw_below_drewN | apply below_drew1) | exact HB.out)) hb); clear HO_7; clear HB; have HO_7 := n0_; have HO332 := n1_; have HB := n2_; clear n0_ n1_ n2_; clear hb ho49)))
                   go_loopg [11, 12] k2 (fun kq v11 v12 w' => ∃ (x10_3 : List Int) (x11_3 : Int) (x12_3 : Int), v11 = .int .i64 x11_3 ∧ v12 = .int .i64 x12_3 ∧ Aside0 (forebearlaw05_DiffLongest.l1 kq l0 l1 t314 x10_3 x11_3 x12_3 = some r) ∧ Aside0 (kq ≤ k2) ∧ Aside0 (Kd.R k39 39 w' w.heap.size (fun _ => True) (.slice Ao47 t314.length co47) t314) ∧ Aside0 (Kd.R (Kd.int .i64) 3 w' w.heap.size (fun _ => True) v331 x10_3) ∧ Aside0 (Below w.heap.size w w'))
                   case atStart => exact ⟨(y330), (0), (0), (by first | rfl | (simp; done) | (simp [*]; done)), (by first | rfl | (simp; done) | (simp [*]; done)), H', ⟨Nat.le_refl _⟩, ⟨by (with_reducible repeat (first | apply Kd.R_alloc | apply Kd.R_drewN | apply Kd.R_drew)); exact HO_7.out⟩, ⟨by (with_reducible repeat (first | apply Kd.R_alloc | apply Kd.R_drewN | apply Kd.R_drew)); exact HO332.out⟩, ⟨by repeat (first | (with_reducible first | exact HB.out | apply below_alloc | apply pw_below_drewN | apply below_drew1) | exact HB.out)⟩⟩
                   case round =>
                    as_aux_lemma =>
                     clear H'
                     try clear c1
                     try clear c2
                     try clear p2
                     try clear c3
                     try clear p3
                     try clear q3
                     try clear hx3
                     try clear c4
                     try clear p6
                     try clear c7
                     try clear c7b0
                     try clear c7b1
                     try clear c8
                     try clear c10
                     try clear c10b0
                     try clear c10b1
                     try clear c10b2
                     try clear c16
                     try clear c16b0
                     try clear c16b1
                     try clear c18
                     try clear c18b0
                     try clear c19
                     try clear c19b0
                     try clear c20
                     try clear c20b0
                     try clear c22
                     try clear c22b0
                     try clear c24
                     try clear c24b0
                     try clear c26
                     try clear c26b0
                     try clear c28
                     try clear c28b0
                     try clear c29
                     try clear c29b0
                     try clear c30
                     try clear c30b0
                     try clear c31
                     try clear c31b0
                     try clear p31
                     try clear q31
                     try clear hx31
                     try clear c32
                     try clear c32b0
                     try clear c32b1
                     try clear p32
                     try clear q32
                     try clear hx32
                     try clear c33
                     try clear c33b0
                     try clear c35
                     try clear c35b0
                     try clear c36
                     try clear c36b0
                     try clear c37
                     try clear c37b0
                     try clear c39
                     try clear c39b0
                     try clear c45
                     try clear c45b0
                     try clear c45b1
                     try clear c46
                     try clear c46b0
                     try clear c46b1
                     try clear hx318_0
                     try clear hx318_1
                     try clear hx319_0
                     try clear hx319_1
                     try clear hx320_0
                     try clear hx320_1
                     try clear hx321_0
                     try clear hx321_1
                     try clear hx322_0
                     try clear hx322_1
                     try clear hx323_0
                     try clear hx324_0
                     try clear hx324_1
                     try clear hx325_0
                     try clear hx326_0
                     try clear hx326_1
                     try clear hx327_0
                     try clear hx327_1
                     try clear hx328_0
                     try clear hx328_1
                     try clear hx329_0
                     try clear hx329_1
                     try clear p2
                     try clear p318
                     try clear p319
                     try clear p320
                     try clear p321
                     try clear p322
                     try clear p323
                     try clear p324
                     try clear p325
                     try clear p326
                     try clear p327
                     try clear p328
                     try clear p329
                     try clear q318
                     try clear q319
                     try clear q320
                     try clear q321
                     try clear q322
                     try clear q323
                     try clear q324
                     try clear q325
                     try clear q326
                     try clear q327
                     try clear q328
                     try clear q329
                     obtain ⟨x10_3, x11_3, x12_3, rfl, rfl, HA, HK3, HO_7, HO_10, HB⟩ := hrel
                     cases gk with
                     | zero => exact absurd HA.out (by simp [forebearlaw05_DiffLongest.l1])
                     | succ k3 =>
                      have H := HA.out
                      clear HA
                      simp only [forebearlaw05_DiffLongest.l1] at H
                      by_cases c50 : x12_3 < (l0.length : Int)
                      ·as_aux_lemma =>
                        rw [if_pos c50] at H
                        have c50b0 : decide (x12_3 < (l0.length : Int)) = true := decide_eq_true c50
                        clear c50
                        have H' := Aside0.mk H
                        clear H
                        go_wp2
                        repeat (go_quiet (fail); try go_wp2)
                        go_loopg [13, 14] k3 (fun kq v13 v14 w' => ∃ (x10_4 : List Int) (x13_4 : Int) (x14_4 : Int), v13 = .int .i64 x13_4 ∧ v14 = .int .i64 x14_4 ∧ Aside0 (forebearlaw05_DiffLongest.l2 kq l0 l1 t314 x10_4 x11_3 x12_3 x13_4 x14_4 = some r) ∧ Aside0 (kq ≤ k3) ∧ Aside0 (Kd.R k39 39 w' w.heap.size (fun _ => True) (.slice Ao47 t314.length co47) t314) ∧ Aside0 (Kd.R (Kd.int .i64) 3 w' w.heap.size (fun _ => True) v331 x10_4) ∧ Aside0 (Below w.heap.size w w'))
                        case atStart => exact ⟨(x10_3), (0), (0), (by first | rfl | (simp; done) | (simp [*]; done)), (by first | rfl | (simp; done) | (simp [*]; done)), H', ⟨Nat.le_refl _⟩, ⟨by (with_reducible repeat (first | apply Kd.R_alloc | apply Kd.R_drewN | apply Kd.R_drew)); exact HO_7.out⟩, ⟨by (with_reducible repeat (first | apply Kd.R_alloc | apply Kd.R_drewN | apply Kd.R_drew)); exact HO_10.out⟩, ⟨by repeat (first | (with_reducible first | exact HB.out | apply below_alloc | apply pw_below_drewN | apply below_drew1) | exact HB.out)⟩⟩
                        case round =>
                         as_aux_lemma =>
                          clear H'
                          try clear c1
                          try clear c2
                          try clear p2
                          try clear c3
                          try clear p3
                          try clear q3
                          try clear hx3
                          try clear c4
                          try clear c5
                          try clear p6
                          try clear c7
                          try clear c7b0
                          try clear c7b1
                          try clear c8
                          try clear c10
                          try clear c10b0
                          try clear c10b1
                          try clear c10b2
                          try clear c16
                          try clear c16b0
                          try clear c16b1
                          try clear c18
                          try clear c18b0
                          try clear c19
                          try clear c19b0
                          try clear c20
                          try clear c20b0
                          try clear c22
                          try clear c22b0
                          try clear c24
                          try clear c24b0
                          try clear c26
                          try clear c26b0
                          try clear c28
                          try clear c28b0
                          try clear c29
                          try clear c29b0
                          try clear c30
                          try clear c30b0
                          try clear c31
                          try clear c31b0
                          try clear p31
                          try clear q31
                          try clear hx31
                          try clear c32
                          try clear c32b0
                          try clear c32b1
                          try clear p32
                          try clear q32
                          try clear hx32
                          try clear c33
                          try clear c33b0
                          try clear c35
                          try clear c35b0
                          try clear c36
                          try clear c36b0
                          try clear c37
                          try clear c37b0
                          try clear c39
                          try clear c39b0
                          try clear c45
                          try clear c45b0
                          try clear c45b1
                          try clear c46
                          try clear c46b0
                          try clear c46b1
                          try clear c50
                          try clear c50b0
                          try clear hx318_0
                          try clear hx318_1
                          try clear hx319_0
                          try clear hx319_1
                          try clear hx320_0
                          try clear hx320_1
                          try clear hx321_0
                          try clear hx321_1
                          try clear hx322_0
                          try clear hx322_1
                          try clear hx323_0
                          try clear hx324_0
                          try clear hx324_1
                          try clear hx325_0
                          try clear hx326_0
                          try clear hx326_1
                          try clear hx327_0
                          try clear hx327_1
                          try clear hx328_0
                          try clear hx328_1
                          try clear hx329_0
                          try clear hx329_1
                          try clear p2
                          try clear p3
                          try clear p31
                          try clear p318
                          try clear p319
                          try clear p32
                          try clear p320
                          try clear p321
                          try clear p322
                          try clear p323
                          try clear p324
                          try clear p325
                          try clear p326
                          try clear p327
                          try clear p328
                          try clear p329
                          try clear p6
                          try clear q3
                          try clear q31
                          try clear q318
                          try clear q319
                          try clear q32
                          try clear q320
                          try clear q321
                          try clear q322
                          try clear q323
                          try clear q324
                          try clear q325
                          try clear q326
                          try clear q327
                          try clear q328
                          try clear q329
                          obtain ⟨x10_4, x13_4, x14_4, rfl, rfl, HA, HK4, HO_7, HO_10, HB⟩ := hrel
                          cases gk with
                          | zero => exact absurd HA.out (by simp [forebearlaw05_DiffLongest.l2])
                          | succ k4 =>
                           have H := HA.out
                           clear HA
                           simp only [forebearlaw05_DiffLongest.l2] at H
                           by_cases c51 : x14_4 < (l1.length : Int)
                           ·as_aux_lemma =>
                             rw [if_pos c51] at H
                             have c51b0 : decide (x14_4 < (l1.length : Int)) = true := decide_eq_true c51
                             clear c51
                             by_cases c52 : 0 ≤ x14_4
                             ·as_aux_lemma =>
                               rw [if_pos c52] at H
                               have c52b0 : decide (0 ≤ x14_4) = true := decide_eq_true c52
                               clear c52
                               by_cases c53 : x14_4 < (x10_4.length : Int)
                               ·as_aux_lemma =>
                                 rw [if_pos c53] at H
                                 have c53b0 : decide (x14_4 < (x10_4.length : Int)) = true := decide_eq_true c53
                                 clear c53
                                 obtain ⟨ji54, hji54⟩ : ∃ j_ : Int, (wrap64 (x14_4 + 1)) = j_ := ⟨_, rfl⟩
                                 replace H : (if 0 ≤ (ji54) then (if (ji54) < (x10_4.length : Int) then (if 0 ≤ x12_3 then (if x12_3 < (l0.length : Int) then (if (rdOf ByteArray.empty l0 x12_3).toList = (rdOf ByteArray.empty l1 x14_4).toList then (forebearlaw05_DiffLongest.l2 k4 l0 l1 t314 (x10_4.set ((ji54) : Int).toNat (mx (mx (rd x10_4 x14_4) (rd x10_4 (ji54))) (wrap64 (x13_4 + 1)))) x11_3 x12_3 (rd x10_4 (ji54)) ji54) else (forebearlaw05_DiffLongest.l2 k4 l0 l1 t314 (x10_4.set ((ji54) : Int).toNat (mx (rd x10_4 x14_4) (rd x10_4 (ji54)))) x11_3 x12_3 (rd x10_4 (ji54)) ji54)) else (none)) else (none)) else (none)) else (none)) = some r := by first | (rw [hji54] at H; exact H) | (simp only [hji54] at H ⊢; exact H)
                                 have hji54w : (IntKind.i64.wrap (x14_4 + 1)) = ji54 := (i64_w _).trans hji54
                                 by_cases c55 : 0 ≤ (ji54)
                                 ·as_aux_lemma =>
                                   rw [if_pos c55] at H
                                   have c55b0 : decide (0 ≤ (ji54)) = true := decide_eq_true c55
                                   clear c55
                                   by_cases c56 : (ji54) < (x10_4.length : Int)
                                   ·as_aux_lemma =>
                                     rw [if_pos c56] at H
                                     have c56b0 : decide ((ji54) < (x10_4.length : Int)) = true := decide_eq_true c56
                                     clear c56
                                     obtain ⟨ji57, hji57⟩ : ∃ j_ : Int, (mx (rd x10_4 x14_4) (rd x10_4 (ji54))) = j_ := ⟨_, rfl⟩
                                     replace H : (if 0 ≤ x12_3 then (if x12_3 < (l0.length : Int) then (if (rdOf ByteArray.empty l0 x12_3).toList = (rdOf ByteArray.empty l1 x14_4).toList then (forebearlaw05_DiffLongest.l2 k4 l0 l1 t314 (x10_4.set ((ji54) : Int).toNat (mx (ji57) (wrap64 (x13_4 + 1)))) x11_3 x12_3 (rd x10_4 (ji54)) ji54) else (forebearlaw05_DiffLongest.l2 k4 l0 l1 t314 (x10_4.set ((ji54) : Int).toNat (ji57)) x11_3 x12_3 (rd x10_4 (ji54)) ji54)) else (none)) else (none)) = some r := by first | (rw [hji57] at H; exact H) | (simp only [hji57] at H ⊢; exact H)
                                     have hji57_ : (if (rd x10_4 x14_4) < (rd x10_4 (ji54)) then (rd x10_4 (ji54)) else (rd x10_4 x14_4)) = ji57 := hji57
                                     by_cases c58 : 0 ≤ x12_3
                                     ·as_aux_lemma =>
                                       rw [if_pos c58] at H
                                       have c58b0 : decide (0 ≤ x12_3) = true := decide_eq_true c58
                                       clear c58
                                       by_cases c59 : x12_3 < (l0.length : Int)
                                       ·as_aux_lemma =>
                                         rw [if_pos c59] at H
                                         have c59b0 : decide (x12_3 < (l0.length : Int)) = true := decide_eq_true c59
                                         clear c59
                                         by_cases c60 : (rdOf ByteArray.empty l0 x12_3).toList = (rdOf ByteArray.empty l1 x14_4).toList
                                         ·as_aux_lemma =>
                                           rw [if_pos c60] at H
                                           have c60b0 : ((rdOf ByteArray.empty l0 x12_3).toList == (rdOf ByteArray.empty l1 x14_4).toList) = true := beq_iff_eq.mpr c60
                                           have c60b1 : ((rdOf ByteArray.empty l0 x12_3).toList != (rdOf ByteArray.empty l1 x14_4).toList) = false := bne_eq_false_iff_eq.mpr c60
                                           clear c60
                                           obtain ⟨ji61, hji61⟩ : ∃ j_ : Int, (mx (ji57) (wrap64 (x13_4 + 1))) = j_ := ⟨_, rfl⟩
                                           replace H : (forebearlaw05_DiffLongest.l2 k4 l0 l1 t314 (x10_4.set ((ji54) : Int).toNat (ji61)) x11_3 x12_3 (rd x10_4 (ji54)) ji54) = some r := by first | (rw [hji61] at H; exact H) | (simp only [hji61] at H ⊢; exact H)
                                           have hji61_ : (if (ji57) < (wrap64 (x13_4 + 1)) then (wrap64 (x13_4 + 1)) else (ji57)) = ji61 := hji61
                                           obtain ⟨y338, hy338⟩ : ∃ y_ : List Int, y_ = (x10_4.set ((ji54) : Int).toNat (ji61)) := ⟨_, rfl⟩
                                           replace H : (forebearlaw05_DiffLongest.l2 k4 l0 l1 t314 y338 x11_3 x12_3 (rd x10_4 (ji54)) ji54) = some r := by first | (rw [hy338]; with_reducible exact H) | (have H2_ := (Option.bind_some _ _).symm.trans H; rw [hy338]; with_reducible exact H2_) | (have H2_ := (Option.bind_some _ _).symm.trans H; with_reducible exact H2_) | with_reducible exact H | (rw [hy338]; exact H) | exact H
                                           have Ny338 := Aside0.mk hy338
                                           clear hy338
                                           have H' := Aside0.mk H
                                           clear H
                                           obtain ⟨Ao63, co63, eo63⟩ := Kd.R_slice HO_10.out
                                           subst eo63
                                           have p333 : 0 ≤ (x14_4 : Int) := of_decide_eq_true (by first | (with_reducible assumption) | assumption)
                                           have q333 : x14_4 < (x10_4.length : Int) := of_decide_eq_true (by first | (with_reducible assumption) | assumption)
                                           obtain ⟨ad333, e333, hx333_0⟩ := Kd.at_int (Kd.R_reads' HO_10.out).2.2 x14_4 p333 q333
                                           cases e333
                                           replace p333 := eq_true p333
                                           replace q333 := eq_true q333
                                           have p334 : 0 ≤ ((ji54) : Int) := of_decide_eq_true (by first | (with_reducible assumption) | assumption)
                                           have q334 : (ji54) < (x10_4.length : Int) := of_decide_eq_true (by first | (with_reducible assumption) | assumption)
                                           obtain ⟨ad334, e334, hx334_0⟩ := Kd.at_int (Kd.R_reads' HO_10.out).2.2 (ji54) p334 q334
                                           obtain rfl : ad333 = ad334 := (by injection e334)
                                           replace p334 := eq_true p334
                                           replace q334 := eq_true q334
                                           have p335 : 0 ≤ (x12_3 : Int) := of_decide_eq_true (by first | (with_reducible assumption) | assumption)
                                           have q335 : x12_3 < (l0.length : Int) := of_decide_eq_true (by first | (with_reducible assumption) | assumption)
                                           obtain ⟨ad335, e335, hx335_0⟩ := Kd.at_string HR0.out x12_3 p335 q335
                                           cases e335
                                           try replace hx335_0 := (HB.out.cell (World.block_lt_of_cell? w _ hx335_0)).trans hx335_0
                                           replace p335 := eq_true p335
                                           replace q335 := eq_true q335
                                           have p336 : 0 ≤ (x14_4 : Int) := of_decide_eq_true (by first | (with_reducible assumption) | assumption)
                                           have q336 : x14_4 < (l1.length : Int) := of_decide_eq_true (by first | (with_reducible assumption) | assumption)
                                           obtain ⟨ad336, e336, hx336_0⟩ := Kd.at_string HR1.out x14_4 p336 q336
                                           cases e336
                                           try replace hx336_0 := (HB.out.cell (World.block_lt_of_cell? w _ hx336_0)).trans hx336_0
                                           replace p336 := eq_true p336
                                           replace q336 := eq_true q336
                                           have p337 : 0 ≤ ((ji54) : Int) := of_decide_eq_true (by first | (with_reducible assumption) | assumption)
                                           have q337 : (ji54) < (x10_4.length : Int) := of_decide_eq_true (by first | (with_reducible assumption) | assumption)
                                           obtain ⟨ad337, e337, hx337_0⟩ := Kd.at_int (Kd.R_reads' HO_10.out).2.2 (ji54) p337 q337
                                           obtain rfl : ad333 = ad337 := (by injection e337)
                                           replace p337 := eq_true p337
                                           replace q337 := eq_true q337
                                           have p62 : 0 ≤ ((ji54) : Int) := of_decide_eq_true (by first | (with_reducible assumption) | assumption)
                                           have q62 : ((ji54) : Int) < ((x10_4.length : Int) : Int) := of_decide_eq_true (by first | (with_reducible assumption) | assumption)
                                           obtain ⟨go62, co62, eo62, gb62, gl62, cl62, HG62⟩ := Kd.R_form HO_10.out (by omega)
                                           (first | cases eo62 | (injection eo62 with ea_ en_ ec_; (first | subst ea_ | (injection ea_ with ea_; subst ea_)); subst ec_; clear en_))
                                           have GB62 := Aside0.mk gb62
                                           have GG62 := Aside0.mk HG62
                                           clear gb62 gl62 HG62
                                           (first | simp only [add_plain] at hx333_0 | skip)
                                           (first | simp only [add_plain] at hx334_0 | skip)
                                           (first | simp only [add_plain] at hx337_0 | skip)
                                           obtain ⟨hx62_0, hf62_0⟩ := Kd.R_celln 0 HO_10.out ((ji54) : Int) p62 q62
                                           replace p62 := eq_true p62
                                           replace q62 := eq_true q62
                                           have HP64 := Kd.R_putg HO_10.out ((ji54) : Int) ji61
                                           go_wp2_with (first | ((with_reducible refine gate_store (t := 3) (p := 187) rfl ?_); (try (rw [drewN_self wr]; generalize hq_ : World.drewN wr _ = wr; have n0_ := Aside0.mk (Kd.R_at hq_ HO_7.out); have n1_ := Aside0.mk (Kd.R_at hq_ HO_10.out); have n2_ := Aside0.mk (below_at hq_ HB.out); clear hq_ HO_7 HO_10 HB; have HO_7 := n0_; have HO_10 := n1_; have HB := n2_; clear n0_ n1_ n2_; (try (have HP64 := Kd.R_putg HO_10.out ((ji54) : Int) ji61)))); refine store_event (t := 3) (p := 187) (v := ?vo_w65) (w1 := (wr.setCell ⟨go62, ((ji54) : Int).toNat, none⟩ (.int .i64 ji61))) ?hg ?ho ?hn ?hr ?_; (case ho => rfl); (case hg => rfl); (case hn => rfl); (case hr => first | (go_simp; done) | (go_simp; rfl)); intro w65 hw; have hg : wr.grownBy w65 (some go62) := (by rw [hw]; exact HP64.2); have hp_ : Kd.R (Kd.int .i64) 3 w65 w.heap.size (fun _ => True) (.slice (some ⟨go62, 0, none⟩) x10_4.length co63) y338 := (by rw [hw, Ny338.out]; exact HP64.1); clear HP64; have n0_ := Aside0.mk (Kd.R_over' (v := (.slice (some ⟨go62, 0, none⟩) x10_4.length co63)) (by (with_reducible repeat (first | apply Kd.R_alloc | apply Kd.R_drewN | apply Kd.R_drew)); exact HO_7.out) (Kd.R_typed HO_10.out) (by decide) hg); have n1_ := Aside0.mk (hp_); have n2_ := Aside0.mk ((by rw [hw]; exact below_set (HB.out) GB62.out : Below w.heap.size w w65)); clear HO_7; clear HO_10; clear HB; have HO_7 := n0_; have HO_10 := n1_; have HB := n2_; clear n0_ n1_ n2_; clear hg hw hp_))
                                           repeat (go_quiet (fail); try go_wp2_with (first | ((with_reducible refine gate_store (t := 3) (p := 187) rfl ?_); (try (rw [drewN_self wr]; generalize hq_ : World.drewN wr _ = wr; have n0_ := Aside0.mk (Kd.R_at hq_ HO_7.out); have n1_ := Aside0.mk (Kd.R_at hq_ HO_10.out); have n2_ := Aside0.mk (below_at hq_ HB.out); clear hq_ HO_7 HO_10 HB; have HO_7 := n0_; have HO_10 := n1_; have HB := n2_; clear n0_ n1_ n2_; (try (have HP64 := Kd.R_putg HO_10.out ((ji54) : Int) ji61)))); refine store_event (t := 3) (p := 187) (v := ?vo_w65) (w1 := (wr.setCell ⟨go62, ((ji54) : Int).toNat, none⟩ (.int .i64 ji61))) ?hg ?ho ?hn ?hr ?_; (case ho => rfl); (case hg => rfl); (case hn => rfl); (case hr => first | (go_simp; done) | (go_simp; rfl)); intro w65 hw; have hg : wr.grownBy w65 (some go62) := (by rw [hw]; exact HP64.2); have hp_ : Kd.R (Kd.int .i64) 3 w65 w.heap.size (fun _ => True) (.slice (some ⟨go62, 0, none⟩) x10_4.length co63) y338 := (by rw [hw, Ny338.out]; exact HP64.1); clear HP64; have n0_ := Aside0.mk (Kd.R_over' (v := (.slice (some ⟨go62, 0, none⟩) x10_4.length co63)) (by (with_reducible repeat (first | apply Kd.R_alloc | apply Kd.R_drewN | apply Kd.R_drew)); exact HO_7.out) (Kd.R_typed HO_10.out) (by decide) hg); have n1_ := Aside0.mk (hp_); have n2_ := Aside0.mk ((by rw [hw]; exact below_set (HB.out) GB62.out : Below w.heap.size w w65)); clear HO_7; clear HO_10; clear HB; have HO_7 := n0_; have HO_10 := n1_; have HB := n2_; clear n0_ n1_ n2_; clear hg hw hp_)))
                                           try (have hpz_ := HP64; clear hpz_; rw [drewN_self wr]; generalize hq_ : World.drewN wr _ = wr; have n0_ := Aside0.mk (Kd.R_at hq_ HO_7.out); have n1_ := Aside0.mk (Kd.R_at hq_ HO_10.out); have n2_ := Aside0.mk (below_at hq_ HB.out); clear hq_ HO_7 HO_10 HB; have HO_7 := n0_; have HO_10 := n1_; have HB := n2_; clear n0_ n1_ n2_; have HP64 := Kd.R_putg HO_10.out ((ji54) : Int) ji61; generalize hwz_ : (wr.setCell ⟨go62, ((ji54) : Int).toNat, none⟩ (.int .i64 ji61)) = w65; have hw := hwz_.symm; clear hwz_; have hg : wr.grownBy w65 (some go62) := (by rw [hw]; exact HP64.2); have hp_ : Kd.R (Kd.int .i64) 3 w65 w.heap.size (fun _ => True) (.slice (some ⟨go62, 0, none⟩) x10_4.length co63) y338 := (by rw [hw, Ny338.out]; exact HP64.1); clear HP64; have n0_ := Aside0.mk (Kd.R_over' (v := (.slice (some ⟨go62, 0, none⟩) x10_4.length co63)) (by (with_reducible repeat (first | apply Kd.R_alloc | apply Kd.R_drewN | apply Kd.R_drew)); exact HO_7.out) (Kd.R_typed HO_10.out) (by decide) hg); have n1_ := Aside0.mk (hp_); have n2_ := Aside0.mk ((by rw [hw]; exact below_set (HB.out) GB62.out : Below w.heap.size w w65)); clear HO_7; clear HO_10; clear HB; have HO_7 := n0_; have HO_10 := n1_; have HB := n2_; clear n0_ n1_ n2_; clear hg hw hp_)
                                           go_roundg k4
                                           case measure => have := HJ4.out; have := HK2.out; have := HK3.out; have := HK4.out; omega
                                           case rel => exact ⟨(y338), (rd x10_4 (ji54)), (ji54), (by first | rfl | (simp; done) | (simp only [← hji54] <;> (first | rfl | simp)) | (simp [*]; done)), (by first | rfl | (simp; done) | (simp only [← hji54] <;> (first | rfl | simp)) | (simp [*]; done)), H', ⟨by have := HJ4.out; have := HK2.out; have := HK3.out; have := HK4.out; omega⟩, ⟨by (with_reducible repeat (first | apply Kd.R_alloc | apply Kd.R_drewN | apply Kd.R_drew)); exact HO_7.out⟩, ⟨by (with_reducible repeat (first | apply Kd.R_alloc | apply Kd.R_drewN | apply Kd.R_drew)); exact HO_10.out⟩, ⟨by repeat (first | (with_reducible first | exact HB.out | apply below_alloc | apply pw_below_drewN | apply below_drew1) | exact HB.out)⟩⟩
                                         ·as_aux_lemma =>
                                           rw [if_neg c60] at H
                                           have c60b0 : ((rdOf ByteArray.empty l0 x12_3).toList == (rdOf ByteArray.empty l1 x14_4).toList) = false := beq_eq_false_iff_ne.mpr c60
                                           have c60b1 : ((rdOf ByteArray.empty l0 x12_3).toList != (rdOf ByteArray.empty l1 x14_4).toList) = true := bne_iff_ne.mpr c60
                                           obtain ⟨y340, hy340⟩ : ∃ y_ : List Int, y_ = (x10_4.set ((ji54) : Int).toNat (ji57)) := ⟨_, rfl⟩
                                           replace H : (forebearlaw05_DiffLongest.l2 k4 l0 l1 t314 y340 x11_3 x12_3 (rd x10_4 (ji54)) ji54) = some r := by first | (rw [hy340]; with_reducible exact H) | (have H2_ := (Option.bind_some _ _).symm.trans H; rw [hy340]; with_reducible exact H2_) | (have H2_ := (Option.bind_some _ _).symm.trans H; with_reducible exact H2_) | with_reducible exact H | (rw [hy340]; exact H) | exact H
                                           have Ny340 := Aside0.mk hy340
                                           clear hy340
                                           have H' := Aside0.mk H
                                           clear H
                                           obtain ⟨Ao67, co67, eo67⟩ := Kd.R_slice HO_10.out
                                           subst eo67
                                           have p333 : 0 ≤ (x14_4 : Int) := of_decide_eq_true (by first | (with_reducible assumption) | assumption)
                                           have q333 : x14_4 < (x10_4.length : Int) := of_decide_eq_true (by first | (with_reducible assumption) | assumption)
                                           obtain ⟨ad333, e333, hx333_0⟩ := Kd.at_int (Kd.R_reads' HO_10.out).2.2 x14_4 p333 q333
                                           cases e333
                                           replace p333 := eq_true p333
                                           replace q333 := eq_true q333
                                           have p334 : 0 ≤ ((ji54) : Int) := of_decide_eq_true (by first | (with_reducible assumption) | assumption)
                                           have q334 : (ji54) < (x10_4.length : Int) := of_decide_eq_true (by first | (with_reducible assumption) | assumption)
                                           obtain ⟨ad334, e334, hx334_0⟩ := Kd.at_int (Kd.R_reads' HO_10.out).2.2 (ji54) p334 q334
                                           obtain rfl : ad333 = ad334 := (by injection e334)
                                           replace p334 := eq_true p334
                                           replace q334 := eq_true q334
                                           have p335 : 0 ≤ (x12_3 : Int) := of_decide_eq_true (by first | (with_reducible assumption) | assumption)
                                           have q335 : x12_3 < (l0.length : Int) := of_decide_eq_true (by first | (with_reducible assumption) | assumption)
                                           obtain ⟨ad335, e335, hx335_0⟩ := Kd.at_string HR0.out x12_3 p335 q335
                                           cases e335
                                           try replace hx335_0 := (HB.out.cell (World.block_lt_of_cell? w _ hx335_0)).trans hx335_0
                                           replace p335 := eq_true p335
                                           replace q335 := eq_true q335
                                           have p336 : 0 ≤ (x14_4 : Int) := of_decide_eq_true (by first | (with_reducible assumption) | assumption)
                                           have q336 : x14_4 < (l1.length : Int) := of_decide_eq_true (by first | (with_reducible assumption) | assumption)
                                           obtain ⟨ad336, e336, hx336_0⟩ := Kd.at_string HR1.out x14_4 p336 q336
                                           cases e336
                                           try replace hx336_0 := (HB.out.cell (World.block_lt_of_cell? w _ hx336_0)).trans hx336_0
                                           replace p336 := eq_true p336
                                           replace q336 := eq_true q336
                                           have p339 : 0 ≤ ((ji54) : Int) := of_decide_eq_true (by first | (with_reducible assumption) | assumption)
                                           have q339 : (ji54) < (x10_4.length : Int) := of_decide_eq_true (by first | (with_reducible assumption) | assumption)
                                           obtain ⟨ad339, e339, hx339_0⟩ := Kd.at_int (Kd.R_reads' HO_10.out).2.2 (ji54) p339 q339
                                           obtain rfl : ad333 = ad339 := (by injection e339)
                                           replace p339 := eq_true p339
                                           replace q339 := eq_true q339
                                           have p66 : 0 ≤ ((ji54) : Int) := of_decide_eq_true (by first | (with_reducible assumption) | assumption)
                                           have q66 : ((ji54) : Int) < ((x10_4.length : Int) : Int) := of_decide_eq_true (by first | (with_reducible assumption) | assumption)
                                           obtain ⟨go66, co66, eo66, gb66, gl66, cl66, HG66⟩ := Kd.R_form HO_10.out (by omega)
                                           (first | cases eo66 | (injection eo66 with ea_ en_ ec_; (first | subst ea_ | (injection ea_ with ea_; subst ea_)); subst ec_; clear en_))
                                           have GB66 := Aside0.mk gb66
                                           have GG66 := Aside0.mk HG66
                                           clear gb66 gl66 HG66
                                           (first | simp only [add_plain] at hx333_0 | skip)
                                           (first | simp only [add_plain] at hx334_0 | skip)
                                           (first | simp only [add_plain] at hx339_0 | skip)
                                           obtain ⟨hx66_0, hf66_0⟩ := Kd.R_celln 0 HO_10.out ((ji54) : Int) p66 q66
                                           replace p66 := eq_true p66
                                           replace q66 := eq_true q66
                                           have HP68 := Kd.R_putg HO_10.out ((ji54) : Int) ji57
                                           go_wp2_with (first | ((with_reducible refine gate_store (t := 3) (p := 187) rfl ?_); (try (rw [drewN_self wr]; generalize hq_ : World.drewN wr _ = wr; have n0_ := Aside0.mk (Kd.R_at hq_ HO_7.out); have n1_ := Aside0.mk (Kd.R_at hq_ HO_10.out); have n2_ := Aside0.mk (below_at hq_ HB.out); clear hq_ HO_7 HO_10 HB; have HO_7 := n0_; have HO_10 := n1_; have HB := n2_; clear n0_ n1_ n2_; (try (have HP68 := Kd.R_putg HO_10.out ((ji54) : Int) ji57)))); refine store_event (t := 3) (p := 187) (v := ?vo_w69) (w1 := (wr.setCell ⟨go66, ((ji54) : Int).toNat, none⟩ (.int .i64 ji57))) ?hg ?ho ?hn ?hr ?_; (case ho => rfl); (case hg => rfl); (case hn => rfl); (case hr => first | (go_simp; done) | (go_simp; rfl)); intro w69 hw; have hg : wr.grownBy w69 (some go66) := (by rw [hw]; exact HP68.2); have hp_ : Kd.R (Kd.int .i64) 3 w69 w.heap.size (fun _ => True) (.slice (some ⟨go66, 0, none⟩) x10_4.length co67) y340 := (by rw [hw, Ny340.out]; exact HP68.1); clear HP68; have n0_ := Aside0.mk (Kd.R_over' (v := (.slice (some ⟨go66, 0, none⟩) x10_4.length co67)) (by (with_reducible repeat (first | apply Kd.R_alloc | apply Kd.R_drewN | apply Kd.R_drew)); exact HO_7.out) (Kd.R_typed HO_10.out) (by decide) hg); have n1_ := Aside0.mk (hp_); have n2_ := Aside0.mk ((by rw [hw]; exact below_set (HB.out) GB66.out : Below w.heap.size w w69)); clear HO_7; clear HO_10; clear HB; have HO_7 := n0_; have HO_10 := n1_; have HB := n2_; clear n0_ n1_ n2_; clear hg hw hp_))
                                           repeat (go_quiet (fail); try go_wp2_with (first | ((with_reducible refine gate_store (t := 3) (p := 187) rfl ?_); (try (rw [drewN_self wr]; generalize hq_ : World.drewN wr _ = wr; have n0_ := Aside0.mk (Kd.R_at hq_ HO_7.out); have n1_ := Aside0.mk (Kd.R_at hq_ HO_10.out); have n2_ := Aside0.mk (below_at hq_ HB.out); clear hq_ HO_7 HO_10 HB; have HO_7 := n0_; have HO_10 := n1_; have HB := n2_; clear n0_ n1_ n2_; (try (have HP68 := Kd.R_putg HO_10.out ((ji54) : Int) ji57)))); refine store_event (t := 3) (p := 187) (v := ?vo_w69) (w1 := (wr.setCell ⟨go66, ((ji54) : Int).toNat, none⟩ (.int .i64 ji57))) ?hg ?ho ?hn ?hr ?_; (case ho => rfl); (case hg => rfl); (case hn => rfl); (case hr => first | (go_simp; done) | (go_simp; rfl)); intro w69 hw; have hg : wr.grownBy w69 (some go66) := (by rw [hw]; exact HP68.2); have hp_ : Kd.R (Kd.int .i64) 3 w69 w.heap.size (fun _ => True) (.slice (some ⟨go66, 0, none⟩) x10_4.length co67) y340 := (by rw [hw, Ny340.out]; exact HP68.1); clear HP68; have n0_ := Aside0.mk (Kd.R_over' (v := (.slice (some ⟨go66, 0, none⟩) x10_4.length co67)) (by (with_reducible repeat (first | apply Kd.R_alloc | apply Kd.R_drewN | apply Kd.R_drew)); exact HO_7.out) (Kd.R_typed HO_10.out) (by decide) hg); have n1_ := Aside0.mk (hp_); have n2_ := Aside0.mk ((by rw [hw]; exact below_set (HB.out) GB66.out : Below w.heap.size w w69)); clear HO_7; clear HO_10; clear HB; have HO_7 := n0_; have HO_10 := n1_; have HB := n2_; clear n0_ n1_ n2_; clear hg hw hp_)))
                                           try (have hpz_ := HP68; clear hpz_; rw [drewN_self wr]; generalize hq_ : World.drewN wr _ = wr; have n0_ := Aside0.mk (Kd.R_at hq_ HO_7.out); have n1_ := Aside0.mk (Kd.R_at hq_ HO_10.out); have n2_ := Aside0.mk (below_at hq_ HB.out); clear hq_ HO_7 HO_10 HB; have HO_7 := n0_; have HO_10 := n1_; have HB := n2_; clear n0_ n1_ n2_; have HP68 := Kd.R_putg HO_10.out ((ji54) : Int) ji57; generalize hwz_ : (wr.setCell ⟨go66, ((ji54) : Int).toNat, none⟩ (.int .i64 ji57)) = w69; have hw := hwz_.symm; clear hwz_; have hg : wr.grownBy w69 (some go66) := (by rw [hw]; exact HP68.2); have hp_ : Kd.R (Kd.int .i64) 3 w69 w.heap.size (fun _ => True) (.slice (some ⟨go66, 0, none⟩) x10_4.length co67) y340 := (by rw [hw, Ny340.out]; exact HP68.1); clear HP68; have n0_ := Aside0.mk (Kd.R_over' (v := (.slice (some ⟨go66, 0, none⟩) x10_4.length co67)) (by (with_reducible repeat (first | apply Kd.R_alloc | apply Kd.R_drewN | apply Kd.R_drew)); exact HO_7.out) (Kd.R_typed HO_10.out) (by decide) hg); have n1_ := Aside0.mk (hp_); have n2_ := Aside0.mk ((by rw [hw]; exact below_set (HB.out) GB66.out : Below w.heap.size w w69)); clear HO_7; clear HO_10; clear HB; have HO_7 := n0_; have HO_10 := n1_; have HB := n2_; clear n0_ n1_ n2_; clear hg hw hp_)
                                           go_roundg k4
                                           case measure => have := HJ4.out; have := HK2.out; have := HK3.out; have := HK4.out; omega
                                           case rel => exact ⟨(y340), (rd x10_4 (ji54)), (ji54), (by first | rfl | (simp; done) | (simp only [← hji54] <;> (first | rfl | simp)) | (simp [*]; done)), (by first | rfl | (simp; done) | (simp only [← hji54] <;> (first | rfl | simp)) | (simp [*]; done)), H', ⟨by have := HJ4.out; have := HK2.out; have := HK3.out; have := HK4.out; omega⟩, ⟨by (with_reducible repeat (first | apply Kd.R_alloc | apply Kd.R_drewN | apply Kd.R_drew)); exact HO_7.out⟩, ⟨by (with_reducible repeat (first | apply Kd.R_alloc | apply Kd.R_drewN | apply Kd.R_drew)); exact HO_10.out⟩, ⟨by repeat (first | (with_reducible first | exact HB.out | apply below_alloc | apply pw_below_drewN | apply below_drew1) | exact HB.out)⟩⟩
                                       ·rw [if_neg c59] at H
                                        exact absurd H (by simp)
                                     ·rw [if_neg c58] at H
                                      exact absurd H (by simp)
                                   ·rw [if_neg c56] at H
                                    exact absurd H (by simp)
                                 ·rw [if_neg c55] at H
                                  exact absurd H (by simp)
                               ·rw [if_neg c53] at H
                                exact absurd H (by simp)
                             ·rw [if_neg c52] at H
                              exact absurd H (by simp)
                           ·as_aux_lemma =>
                             rw [if_neg c51] at H
                             have c51b0 : decide (x14_4 < (l1.length : Int)) = false := decide_eq_false c51
                             clear c51
                             by_cases c70 : x11_3 = x12_3
                             ·as_aux_lemma =>
                               rw [if_pos c70] at H
                               have c70b0 : (x11_3 == x12_3) = true := beq_iff_eq.mpr c70
                               have c70b1 : (x11_3 != x12_3) = false := bne_eq_false_iff_eq.mpr c70
                               clear c70
                               by_cases c71 : x12_3 < (l1.length : Int)
                               ·as_aux_lemma =>
                                 rw [if_pos c71] at H
                                 have c71b0 : decide (x12_3 < (l1.length : Int)) = true := decide_eq_true c71
                                 clear c71
                                 by_cases c72 : 0 ≤ x12_3
                                 ·as_aux_lemma =>
                                   rw [if_pos c72] at H
                                   have c72b0 : decide (0 ≤ x12_3) = true := decide_eq_true c72
                                   clear c72
                                   by_cases c73 : x12_3 < (l0.length : Int)
                                   ·as_aux_lemma =>
                                     rw [if_pos c73] at H
                                     have c73b0 : decide (x12_3 < (l0.length : Int)) = true := decide_eq_true c73
                                     clear c73
                                     by_cases c74 : (rdOf ByteArray.empty l0 x12_3).toList = (rdOf ByteArray.empty l1 x12_3).toList
                                     ·rw [if_pos c74] at H
                                      have c74b0 : ((rdOf ByteArray.empty l0 x12_3).toList == (rdOf ByteArray.empty l1 x12_3).toList) = true := beq_iff_eq.mpr c74
                                      have c74b1 : ((rdOf ByteArray.empty l0 x12_3).toList != (rdOf ByteArray.empty l1 x12_3).toList) = false := bne_eq_false_iff_eq.mpr c74
                                      clear c74
                                      have H' := Aside0.mk H
                                      clear H
                                      have p341 : 0 ≤ (x12_3 : Int) := of_decide_eq_true (by first | (with_reducible assumption) | assumption)
                                      have q341 : x12_3 < (l0.length : Int) := of_decide_eq_true (by first | (with_reducible assumption) | assumption)
                                      obtain ⟨ad341, e341, hx341_0⟩ := Kd.at_string HR0.out x12_3 p341 q341
                                      cases e341
                                      try replace hx341_0 := (HB.out.cell (World.block_lt_of_cell? w _ hx341_0)).trans hx341_0
                                      replace p341 := eq_true p341
                                      replace q341 := eq_true q341
                                      have p342 : 0 ≤ (x12_3 : Int) := of_decide_eq_true (by first | (with_reducible assumption) | assumption)
                                      have q342 : x12_3 < (l1.length : Int) := of_decide_eq_true (by first | (with_reducible assumption) | assumption)
                                      obtain ⟨ad342, e342, hx342_0⟩ := Kd.at_string HR1.out x12_3 p342 q342
                                      cases e342
                                      try replace hx342_0 := (HB.out.cell (World.block_lt_of_cell? w _ hx342_0)).trans hx342_0
                                      replace p342 := eq_true p342
                                      replace q342 := eq_true q342
                                      go_wp2
                                      repeat (go_quiet (fail); try go_wp2)
                                      go_roundg k4
                                      case measure => have := HJ4.out; have := HK2.out; have := HK3.out; have := HK4.out; omega
                                      case rel => exact ⟨(x10_4), (wrap64 (x11_3 + 1)), (wrap64 (x12_3 + 1)), (by first | rfl | (simp; done) | (simp [*]; done)), (by first | rfl | (simp; done) | (simp [*]; done)), H', ⟨by have := HJ4.out; have := HK2.out; have := HK3.out; have := HK4.out; omega⟩, ⟨by (with_reducible repeat (first | apply Kd.R_alloc | apply Kd.R_drewN | apply Kd.R_drew)); exact HO_7.out⟩, ⟨by (with_reducible repeat (first | apply Kd.R_alloc | apply Kd.R_drewN | apply Kd.R_drew)); exact HO_10.out⟩, ⟨by repeat (first | (with_reducible first | exact HB.out | apply below_alloc | apply pw_below_drewN | apply below_drew1) | exact HB.out)⟩⟩
                                     ·rw [if_neg c74] at H
                                      have c74b0 : ((rdOf ByteArray.empty l0 x12_3).toList == (rdOf ByteArray.empty l1 x12_3).toList) = false := beq_eq_false_iff_ne.mpr c74
                                      have c74b1 : ((rdOf ByteArray.empty l0 x12_3).toList != (rdOf ByteArray.empty l1 x12_3).toList) = true := bne_iff_ne.mpr c74
                                      have H' := Aside0.mk H
                                      clear H
                                      have p341 : 0 ≤ (x12_3 : Int) := of_decide_eq_true (by first | (with_reducible assumption) | assumption)
                                      have q341 : x12_3 < (l0.length : Int) := of_decide_eq_true (by first | (with_reducible assumption) | assumption)
                                      obtain ⟨ad341, e341, hx341_0⟩ := Kd.at_string HR0.out x12_3 p341 q341
                                      cases e341
                                      try replace hx341_0 := (HB.out.cell (World.block_lt_of_cell? w _ hx341_0)).trans hx341_0
                                      replace p341 := eq_true p341
                                      replace q341 := eq_true q341
                                      have p342 : 0 ≤ (x12_3 : Int) := of_decide_eq_true (by first | (with_reducible assumption) | assumption)
                                      have q342 : x12_3 < (l1.length : Int) := of_decide_eq_true (by first | (with_reducible assumption) | assumption)
                                      obtain ⟨ad342, e342, hx342_0⟩ := Kd.at_string HR1.out x12_3 p342 q342
                                      cases e342
                                      try replace hx342_0 := (HB.out.cell (World.block_lt_of_cell? w _ hx342_0)).trans hx342_0
                                      replace p342 := eq_true p342
                                      replace q342 := eq_true q342
                                      go_wp2
                                      repeat (go_quiet (fail); try go_wp2)
                                      go_roundg k4
                                      case measure => have := HJ4.out; have := HK2.out; have := HK3.out; have := HK4.out; omega
                                      case rel => exact ⟨(x10_4), (x11_3), (wrap64 (x12_3 + 1)), (by first | rfl | (simp; done) | (simp [*]; done)), (by first | rfl | (simp; done) | (simp [*]; done)), H', ⟨by have := HJ4.out; have := HK2.out; have := HK3.out; have := HK4.out; omega⟩, ⟨by (with_reducible repeat (first | apply Kd.R_alloc | apply Kd.R_drewN | apply Kd.R_drew)); exact HO_7.out⟩, ⟨by (with_reducible repeat (first | apply Kd.R_alloc | apply Kd.R_drewN | apply Kd.R_drew)); exact HO_10.out⟩, ⟨by repeat (first | (with_reducible first | exact HB.out | apply below_alloc | apply pw_below_drewN | apply below_drew1) | exact HB.out)⟩⟩
                                   ·rw [if_neg c73] at H
                                    exact absurd H (by simp)
                                 ·rw [if_neg c72] at H
                                  exact absurd H (by simp)
                               ·rw [if_neg c71] at H
                                have c71b0 : decide (x12_3 < (l1.length : Int)) = false := decide_eq_false c71
                                clear c71
                                have H' := Aside0.mk H
                                clear H
                                go_wp2
                                repeat (go_quiet (fail); try go_wp2)
                                go_roundg k4
                                case measure => have := HJ4.out; have := HK2.out; have := HK3.out; have := HK4.out; omega
                                case rel => exact ⟨(x10_4), (x11_3), (wrap64 (x12_3 + 1)), (by first | rfl | (simp; done) | (simp [*]; done)), (by first | rfl | (simp; done) | (simp [*]; done)), H', ⟨by have := HJ4.out; have := HK2.out; have := HK3.out; have := HK4.out; omega⟩, ⟨by (with_reducible repeat (first | apply Kd.R_alloc | apply Kd.R_drewN | apply Kd.R_drew)); exact HO_7.out⟩, ⟨by (with_reducible repeat (first | apply Kd.R_alloc | apply Kd.R_drewN | apply Kd.R_drew)); exact HO_10.out⟩, ⟨by repeat (first | (with_reducible first | exact HB.out | apply below_alloc | apply pw_below_drewN | apply below_drew1) | exact HB.out)⟩⟩
                             ·rw [if_neg c70] at H
                              have c70b0 : (x11_3 == x12_3) = false := beq_eq_false_iff_ne.mpr c70
                              have c70b1 : (x11_3 != x12_3) = true := bne_iff_ne.mpr c70
                              have H' := Aside0.mk H
                              clear H
                              go_wp2
                              repeat (go_quiet (fail); try go_wp2)
                              go_roundg k4
                              case measure => have := HJ4.out; have := HK2.out; have := HK3.out; have := HK4.out; omega
                              case rel => exact ⟨(x10_4), (x11_3), (wrap64 (x12_3 + 1)), (by first | rfl | (simp; done) | (simp [*]; done)), (by first | rfl | (simp; done) | (simp [*]; done)), H', ⟨by have := HJ4.out; have := HK2.out; have := HK3.out; have := HK4.out; omega⟩, ⟨by (with_reducible repeat (first | apply Kd.R_alloc | apply Kd.R_drewN | apply Kd.R_drew)); exact HO_7.out⟩, ⟨by (with_reducible repeat (first | apply Kd.R_alloc | apply Kd.R_drewN | apply Kd.R_drew)); exact HO_10.out⟩, ⟨by repeat (first | (with_reducible first | exact HB.out | apply below_alloc | apply pw_below_drewN | apply below_drew1) | exact HB.out)⟩⟩
                      ·as_aux_lemma =>
                        rw [if_neg c50] at H
                        have c50b0 : decide (x12_3 < (l0.length : Int)) = false := decide_eq_false c50
                        clear c50
                        have H' := Aside0.mk H
                        clear H
                        go_wp2
                        repeat (go_quiet (fail); try go_wp2)
                        go_loopg [16] k3 (fun kq v16 w' => ∃ (x16_4 : Int), v16 = .int .i64 x16_4 ∧ Aside0 (forebearlaw05_DiffLongest.l3 kq l1 t314 x10_3 x11_3 x16_4 = some r) ∧ Aside0 (kq ≤ k3) ∧ Aside0 (Kd.R k39 39 w' w.heap.size (fun _ => True) (.slice Ao47 t314.length co47) t314) ∧ Aside0 (Kd.R (Kd.int .i64) 3 w' w.heap.size (fun _ => True) v331 x10_3) ∧ Aside0 (Below w.heap.size w w'))
                        case atStart => exact ⟨(0), (by first | rfl | (simp; done) | (simp [*]; done)), H', ⟨Nat.le_refl _⟩, ⟨by (with_reducible repeat (first | apply Kd.R_alloc | apply Kd.R_drewN | apply Kd.R_drew)); exact HO_7.out⟩, ⟨by (with_reducible repeat (first | apply Kd.R_alloc | apply Kd.R_drewN | apply Kd.R_drew)); exact HO_10.out⟩, ⟨by repeat (first | (with_reducible first | exact HB.out | apply below_alloc | apply pw_below_drewN | apply below_drew1) | exact HB.out)⟩⟩
                        case round =>
                         as_aux_lemma =>
                          clear H'
                          try clear c1
                          try clear c2
                          try clear p2
                          try clear c3
                          try clear p3
                          try clear q3
                          try clear hx3
                          try clear c4
                          try clear c5
                          try clear c6
                          try clear p6
                          try clear q6
                          try clear hx6
                          try clear hf6
                          try clear c7
                          try clear c7b0
                          try clear c7b1
                          try clear c8
                          try clear c10
                          try clear c10b0
                          try clear c10b1
                          try clear c10b2
                          try clear c16
                          try clear c16b0
                          try clear c16b1
                          try clear c18
                          try clear c18b0
                          try clear c19
                          try clear c19b0
                          try clear c20
                          try clear c20b0
                          try clear c22
                          try clear c22b0
                          try clear c24
                          try clear c24b0
                          try clear c26
                          try clear c26b0
                          try clear c28
                          try clear c28b0
                          try clear c29
                          try clear c29b0
                          try clear c30
                          try clear c30b0
                          try clear c31
                          try clear c31b0
                          try clear p31
                          try clear q31
                          try clear hx31
                          try clear c32
                          try clear c32b0
                          try clear c32b1
                          try clear p32
                          try clear q32
                          try clear hx32
                          try clear c33
                          try clear c33b0
                          try clear p33
                          try clear q33
                          try clear hx33
                          try clear p34
                          try clear q34
                          try clear hx34
                          try clear c35
                          try clear c35b0
                          try clear c36
                          try clear c36b0
                          try clear c37
                          try clear c37b0
                          try clear c39
                          try clear c39b0
                          try clear c45
                          try clear c45b0
                          try clear c45b1
                          try clear c46
                          try clear c46b0
                          try clear c46b1
                          try clear c50
                          try clear c50b0
                          try clear c51
                          try clear c51b0
                          try clear c52
                          try clear c52b0
                          try clear c53
                          try clear c53b0
                          try clear c55
                          try clear c55b0
                          try clear c56
                          try clear c56b0
                          try clear c58
                          try clear c58b0
                          try clear c59
                          try clear c59b0
                          try clear c60
                          try clear c60b0
                          try clear c60b1
                          try clear p62
                          try clear q62
                          try clear hx62
                          try clear hf62
                          try clear p64
                          try clear p66
                          try clear q66
                          try clear hx66
                          try clear hf66
                          try clear c70
                          try clear c70b0
                          try clear c70b1
                          try clear c71
                          try clear c71b0
                          try clear c72
                          try clear c72b0
                          try clear c73
                          try clear c73b0
                          try clear c74
                          try clear c74b0
                          try clear c74b1
                          try clear hx318_0
                          try clear hx318_1
                          try clear hx319_0
                          try clear hx319_1
                          try clear hx320_0
                          try clear hx320_1
                          try clear hx321_0
                          try clear hx321_1
                          try clear hx322_0
                          try clear hx322_1
                          try clear hx323_0
                          try clear hx324_0
                          try clear hx324_1
                          try clear hx325_0
                          try clear hx326_0
                          try clear hx326_1
                          try clear hx327_0
                          try clear hx327_1
                          try clear hx328_0
                          try clear hx328_1
                          try clear hx329_0
                          try clear hx329_1
                          try clear hx333_0
                          try clear hx334_0
                          try clear hx335_0
                          try clear hx336_0
                          try clear hx337_0
                          try clear hx339_0
                          try clear hx341_0
                          try clear hx342_0
                          try clear hx62_0
                          try clear hx66_0
                          try clear p2
                          try clear p3
                          try clear p31
                          try clear p318
                          try clear p319
                          try clear p32
                          try clear p320
                          try clear p321
                          try clear p322
                          try clear p323
                          try clear p324
                          try clear p325
                          try clear p326
                          try clear p327
                          try clear p328
                          try clear p329
                          try clear p333
                          try clear p334
                          try clear p335
                          try clear p336
                          try clear p337
                          try clear p339
                          try clear p341
                          try clear p342
                          try clear p6
                          try clear p62
                          try clear p66
                          try clear q3
                          try clear q31
                          try clear q318
                          try clear q319
                          try clear q32
                          try clear q320
                          try clear q321
                          try clear q322
                          try clear q323
                          try clear q324
                          try clear q325
                          try clear q326
                          try clear q327
                          try clear q328
                          try clear q329
                          try clear q333
                          try clear q334
                          try clear q335
                          try clear q336
                          try clear q337
                          try clear q339
                          try clear q341
                          try clear q342
                          try clear q62
                          try clear q66
                          obtain ⟨x16_4, rfl, HA, HK4, HO_7, HO_10, HB⟩ := hrel
                          cases gk with
                          | zero => exact absurd HA.out (by simp [forebearlaw05_DiffLongest.l3])
                          | succ k4 =>
                           have H := HA.out
                           clear HA
                           simp only [forebearlaw05_DiffLongest.l3] at H
                           by_cases c75 : x16_4 < x11_3
                           ·as_aux_lemma =>
                             rw [if_pos c75] at H
                             have c75b0 : decide (x16_4 < x11_3) = true := decide_eq_true c75
                             clear c75
                             by_cases c76 : x16_4 ≥ (t314.length : Int)
                             ·rw [if_pos c76] at H
                              have c76b0 : decide ((t314.length : Int) ≤ x16_4) = true := decide_eq_true c76
                              clear c76
                              obtain rfl := Option.some.inj H
                              go_wp2
                              repeat (go_quiet (fail); try go_wp2)
                              go_ret
                              exact ⟨by first | rfl | (simp [errW_none, errW_some] <;> rfl) | (simp only [← hji44]; first | rfl | (simp [errW_none, errW_some] <;> rfl)) | (simp [*, errW_none, errW_some] <;> rfl), by repeat (first | (with_reducible first | exact HB.out | apply below_alloc | apply pw_below_drewN | apply below_drew1) | exact HB.out)⟩
                             ·as_aux_lemma =>
                               rw [if_neg c76] at H
                               have c76b0 : decide ((t314.length : Int) ≤ x16_4) = false := decide_eq_false c76
                               clear c76
                               by_cases c77 : 0 ≤ x16_4
                               ·as_aux_lemma =>
                                 rw [if_pos c77] at H
                                 have c77b0 : decide (0 ≤ x16_4) = true := decide_eq_true c77
                                 clear c77
                                 by_cases c78 : x16_4 < (t314.length : Int)
                                 ·as_aux_lemma =>
                                   rw [if_pos c78] at H
                                   have c78b0 : decide (x16_4 < (t314.length : Int)) = true := decide_eq_true c78
                                   clear c78
                                   by_cases c79 : ((rd_T39 t314 x16_4).f0) = x16_4
                                   ·as_aux_lemma =>
                                     rw [if_pos c79] at H
                                     have c79b0 : (((rd_T39 t314 x16_4).f0) == x16_4) = true := beq_iff_eq.mpr c79
                                     have c79b1 : (((rd_T39 t314 x16_4).f0) != x16_4) = false := bne_eq_false_iff_eq.mpr c79
                                     clear c79
                                     by_cases c80 : ((rd_T39 t314 x16_4).f1) = x16_4
                                     ·rw [if_pos c80] at H
                                      have c80b0 : (((rd_T39 t314 x16_4).f1) == x16_4) = true := beq_iff_eq.mpr c80
                                      have c80b1 : (((rd_T39 t314 x16_4).f1) != x16_4) = false := bne_eq_false_iff_eq.mpr c80
                                      clear c80
                                      have H' := Aside0.mk H
                                      clear H
                                      have p343 : 0 ≤ (x16_4 : Int) := of_decide_eq_true (by first | (with_reducible assumption) | assumption)
                                      have q343 : x16_4 < (t314.length : Int) := of_decide_eq_true (by first | (with_reducible assumption) | assumption)
                                      obtain ⟨ad343, e343, hx343_0, hx343_1⟩ := at_T39 (Kd.R_reads' HO_7.out).2.2 x16_4 p343 q343
                                      cases e343
                                      replace p343 := eq_true p343
                                      replace q343 := eq_true q343
                                      have p344 : 0 ≤ (x16_4 : Int) := of_decide_eq_true (by first | (with_reducible assumption) | assumption)
                                      have q344 : x16_4 < (t314.length : Int) := of_decide_eq_true (by first | (with_reducible assumption) | assumption)
                                      obtain ⟨ad344, e344, hx344_0, hx344_1⟩ := at_T39 (Kd.R_reads' HO_7.out).2.2 x16_4 p344 q344
                                      obtain rfl : ad343 = ad344 := (by injection e344)
                                      replace p344 := eq_true p344
                                      replace q344 := eq_true q344
                                      go_wp2
                                      repeat (go_quiet (fail); try go_wp2)
                                      go_roundg k4
                                      case measure => have := HJ4.out; have := HK2.out; have := HK3.out; have := HK4.out; omega
                                      case rel => exact ⟨(wrap64 (x16_4 + 1)), (by first | rfl | (simp; done) | (simp [*]; done)), H', ⟨by have := HJ4.out; have := HK2.out; have := HK3.out; have := HK4.out; omega⟩, ⟨by (with_reducible repeat (first | apply Kd.R_alloc | apply Kd.R_drewN | apply Kd.R_drew)); exact HO_7.out⟩, ⟨by (with_reducible repeat (first | apply Kd.R_alloc | apply Kd.R_drewN | apply Kd.R_drew)); exact HO_10.out⟩, ⟨by repeat (first | (with_reducible first | exact HB.out | apply below_alloc | apply pw_below_drewN | apply below_drew1) | exact HB.out)⟩⟩
                                     ·rw [if_neg c80] at H
                                      have c80b0 : (((rd_T39 t314 x16_4).f1) == x16_4) = false := beq_eq_false_iff_ne.mpr c80
                                      have c80b1 : (((rd_T39 t314 x16_4).f1) != x16_4) = true := bne_iff_ne.mpr c80
                                      obtain rfl := Option.some.inj H
                                      have p343 : 0 ≤ (x16_4 : Int) := of_decide_eq_true (by first | (with_reducible assumption) | assumption)
                                      have q343 : x16_4 < (t314.length : Int) := of_decide_eq_true (by first | (with_reducible assumption) | assumption)
                                      obtain ⟨ad343, e343, hx343_0, hx343_1⟩ := at_T39 (Kd.R_reads' HO_7.out).2.2 x16_4 p343 q343
                                      cases e343
                                      replace p343 := eq_true p343
                                      replace q343 := eq_true q343
                                      have p344 : 0 ≤ (x16_4 : Int) := of_decide_eq_true (by first | (with_reducible assumption) | assumption)
                                      have q344 : x16_4 < (t314.length : Int) := of_decide_eq_true (by first | (with_reducible assumption) | assumption)
                                      obtain ⟨ad344, e344, hx344_0, hx344_1⟩ := at_T39 (Kd.R_reads' HO_7.out).2.2 x16_4 p344 q344
                                      obtain rfl : ad343 = ad344 := (by injection e344)
                                      replace p344 := eq_true p344
                                      replace q344 := eq_true q344
                                      go_wp2
                                      repeat (go_quiet (fail); try go_wp2)
                                      go_ret
                                      exact ⟨by first | rfl | (simp [errW_none, errW_some] <;> rfl) | (simp only [← hji44]; first | rfl | (simp [errW_none, errW_some] <;> rfl)) | (simp [*, errW_none, errW_some] <;> rfl), by repeat (first | (with_reducible first | exact HB.out | apply below_alloc | apply pw_below_drewN | apply below_drew1) | exact HB.out)⟩
                                   ·rw [if_neg c79] at H
                                    have c79b0 : (((rd_T39 t314 x16_4).f0) == x16_4) = false := beq_eq_false_iff_ne.mpr c79
                                    have c79b1 : (((rd_T39 t314 x16_4).f0) != x16_4) = true := bne_iff_ne.mpr c79
                                    obtain rfl := Option.some.inj H
                                    have p343 : 0 ≤ (x16_4 : Int) := of_decide_eq_true (by first | (with_reducible assumption) | assumption)
                                    have q343 : x16_4 < (t314.length : Int) := of_decide_eq_true (by first | (with_reducible assumption) | assumption)
                                    obtain ⟨ad343, e343, hx343_0, hx343_1⟩ := at_T39 (Kd.R_reads' HO_7.out).2.2 x16_4 p343 q343
                                    cases e343
                                    replace p343 := eq_true p343
                                    replace q343 := eq_true q343
                                    go_wp2
                                    repeat (go_quiet (fail); try go_wp2)
                                    go_ret
                                    exact ⟨by first | rfl | (simp [errW_none, errW_some] <;> rfl) | (simp only [← hji44]; first | rfl | (simp [errW_none, errW_some] <;> rfl)) | (simp [*, errW_none, errW_some] <;> rfl), by repeat (first | (with_reducible first | exact HB.out | apply below_alloc | apply pw_below_drewN | apply below_drew1) | exact HB.out)⟩
                                 ·rw [if_neg c78] at H
                                  exact absurd H (by simp)
                               ·rw [if_neg c77] at H
                                exact absurd H (by simp)
                           ·as_aux_lemma =>
                             rw [if_neg c75] at H
                             have c75b0 : decide (x16_4 < x11_3) = false := decide_eq_false c75
                             clear c75
                             by_cases c81 : 0 ≤ (l1.length : Int)
                             ·rw [if_pos c81] at H
                              have c81b0 : decide (0 ≤ (l1.length : Int)) = true := decide_eq_true c81
                              have c81b1 : decide (0 ≤ l1.length) = true := decide_eq_true (by omega)
                              clear c81
                              by_cases c82 : (l1.length : Int) < (x10_3.length : Int)
                              ·rw [if_pos c82] at H
                               have c82b0 : decide ((l1.length : Int) < (x10_3.length : Int)) = true := decide_eq_true c82
                               have c82b1 : decide (l1.length < x10_3.length) = true := decide_eq_true (Int.ofNat_lt.mp c82)
                               clear c82
                               obtain rfl := Option.some.inj H
                               obtain ⟨Ao83, co83, eo83⟩ := Kd.R_slice HO_10.out
                               subst eo83
                               have p345 : 0 ≤ ((l1.length : Int) : Int) := of_decide_eq_true (by first | (with_reducible assumption) | assumption)
                               have q345 : (l1.length : Int) < (x10_3.length : Int) := of_decide_eq_true (by first | (with_reducible assumption) | assumption)
                               obtain ⟨ad345, e345, hx345_0⟩ := Kd.at_int (Kd.R_reads' HO_10.out).2.2 (l1.length : Int) p345 q345
                               cases e345
                               (try simp only [Go.IntWalk.toNatUp] at hx345_0)
                               replace p345 := eq_true p345
                               replace q345 := eq_true q345
                               go_wp2
                               repeat (go_quiet (fail); try go_wp2)
                               go_ret
                               exact ⟨by first | rfl | (simp [errW_none, errW_some] <;> rfl) | (simp only [← hji44]; first | rfl | (simp [errW_none, errW_some] <;> rfl)) | (simp [*, errW_none, errW_some] <;> rfl), by repeat (first | (with_reducible first | exact HB.out | apply below_alloc | apply pw_below_drewN | apply below_drew1) | exact HB.out)⟩
                              ·rw [if_neg c82] at H
                               exact absurd H (by simp)
                             ·rw [if_neg c81] at H
                              exact absurd H (by simp)
                 ·rw [if_neg c46] at H
                  exact absurd H (by simp)
               ·rw [if_neg c45] at H
                exact absurd H (by simp)
        ·rw [if_neg c16] at H
         have c16b0 : (t315 == 0) = false := beq_eq_false_iff_ne.mpr c16
         have c16b1 : (t315 != 0) = true := bne_iff_ne.mpr c16
         obtain rfl := Option.some.inj H
         go_wp2_with (first | (go_at_call 13; (with_reducible refine (diff_Match.calls kj4 _ _ l0 _ _ l1 t314 t315 _ ?side1 ?side2 ?side3 ?side4 A15.out).mono ?_); (case side1 => repeat (first | exact (Kd.C_below HR0.out HB.out) | (with_reducible refine Kd.C_alloc ?_ _) | (with_reducible refine Kd.C_drewN ?_ _) | (with_reducible refine Kd.C_drew ?_))); (case side2 => exact HC0.out); (case side3 => repeat (first | exact (Kd.C_below HR1.out HB.out) | (with_reducible refine Kd.C_alloc ?_ _) | (with_reducible refine Kd.C_drewN ?_ _) | (with_reducible refine Kd.C_drew ?_))); (case side4 => exact HC1.out); rintro e w84 ⟨v316, rfl, ho0, hb⟩; have n0_ := Aside0.mk (Kd.R_lower ho0 (below_size (by repeat (first | (with_reducible first | exact HB.out | apply below_alloc | apply pw_below_drewN | apply below_drew1) | exact HB.out)))); have n1_ := Aside0.mk (below_step (by repeat (first | (with_reducible first | exact HB.out | apply below_alloc | apply pw_below_drewN | apply below_drew1) | exact HB.out)) hb); clear HB; have HO317 := n0_; have HB := n1_; clear n0_ n1_; (try clear hb); (try clear hb2); (try clear hk); (try clear hi); (try clear ho0)))
         repeat (go_quiet (first | (go_at_call 13; (with_reducible refine (diff_Match.calls kj4 _ _ l0 _ _ l1 t314 t315 _ ?side1 ?side2 ?side3 ?side4 A15.out).mono ?_); (case side1 => repeat (first | exact (Kd.C_below HR0.out HB.out) | (with_reducible refine Kd.C_alloc ?_ _) | (with_reducible refine Kd.C_drewN ?_ _) | (with_reducible refine Kd.C_drew ?_))); (case side2 => exact HC0.out); (case side3 => repeat (first | exact (Kd.C_below HR1.out HB.out) | (with_reducible refine Kd.C_alloc ?_ _) | (with_reducible refine Kd.C_drewN ?_ _) | (with_reducible refine Kd.C_drew ?_))); (case side4 => exact HC1.out); rintro e w84 ⟨v316, rfl, ho0, hb⟩; have n0_ := Aside0.mk (Kd.R_lower ho0 (below_size (by repeat (first | (with_reducible first | exact HB.out | apply below_alloc | apply pw_below_drewN | apply below_drew1) | exact HB.out)))); have n1_ := Aside0.mk (below_step (by repeat (first | (with_reducible first | exact HB.out | apply below_alloc | apply pw_below_drewN | apply below_drew1) | exact HB.out)) hb); clear HB; have HO317 := n0_; have HB := n1_; clear n0_ n1_; (try clear hb); (try clear hb2); (try clear hk); (try clear hi); (try clear ho0))); try go_wp2_with (first | (go_at_call 13; (with_reducible refine (diff_Match.calls kj4 _ _ l0 _ _ l1 t314 t315 _ ?side1 ?side2 ?side3 ?side4 A15.out).mono ?_); (case side1 => repeat (first | exact (Kd.C_below HR0.out HB.out) | (with_reducible refine Kd.C_alloc ?_ _) | (with_reducible refine Kd.C_drewN ?_ _) | (with_reducible refine Kd.C_drew ?_))); (case side2 => exact HC0.out); (case side3 => repeat (first | exact (Kd.C_below HR1.out HB.out) | (with_reducible refine Kd.C_alloc ?_ _) | (with_reducible refine Kd.C_drewN ?_ _) | (with_reducible refine Kd.C_drew ?_))); (case side4 => exact HC1.out); rintro e w84 ⟨v316, rfl, ho0, hb⟩; have n0_ := Aside0.mk (Kd.R_lower ho0 (below_size (by repeat (first | (with_reducible first | exact HB.out | apply below_alloc | apply pw_below_drewN | apply below_drew1) | exact HB.out)))); have n1_ := Aside0.mk (below_step (by repeat (first | (with_reducible first | exact HB.out | apply below_alloc | apply pw_below_drewN | apply below_drew1) | exact HB.out)) hb); clear HB; have HO317 := n0_; have HB := n1_; clear n0_ n1_; (try clear hb); (try clear hb2); (try clear hk); (try clear hi); (try clear ho0))))
         go_ret
         exact ⟨by first | rfl | (simp [errW_none, errW_some] <;> rfl) | (simp [*, errW_none, errW_some] <;> rfl), by repeat (first | (with_reducible first | exact HB.out | apply below_alloc | apply pw_below_drewN | apply below_drew1) | exact HB.out)⟩
 ·replace c4 := Bool.eq_false_iff.mpr c4
  subst c4
  have H1 : (some false) = some r := by rw [if_neg (show ¬ (false = true) by decide)] at H; exact H
  clear H
  have H := H1
  clear H1
  obtain rfl := Option.some.inj H
  go_enter Try.func4, Try.ntmps4
  go_wp2_with (first | (go_at_call 12; (with_reducible refine (forebearlaw05_awake.calls k  false _ A3.out).mono ?_); rintro e w85 ⟨rfl, hb⟩; have n0_ := Aside0.mk (below_step (by repeat (first | (with_reducible first | exact HB.out | apply below_alloc | apply pw_below_drewN | apply below_drew1) | exact HB.out)) hb); clear HB; have HB := n0_; clear n0_; (try clear hb); (try clear hb2); (try clear hk); (try clear hi)))
  repeat (go_quiet (first | (go_at_call 12; (with_reducible refine (forebearlaw05_awake.calls k  false _ A3.out).mono ?_); rintro e w85 ⟨rfl, hb⟩; have n0_ := Aside0.mk (below_step (by repeat (first | (with_reducible first | exact HB.out | apply below_alloc | apply pw_below_drewN | apply below_drew1) | exact HB.out)) hb); clear HB; have HB := n0_; clear n0_; (try clear hb); (try clear hb2); (try clear hk); (try clear hi))); try go_wp2_with (first | (go_at_call 12; (with_reducible refine (forebearlaw05_awake.calls k  false _ A3.out).mono ?_); rintro e w85 ⟨rfl, hb⟩; have n0_ := Aside0.mk (below_step (by repeat (first | (with_reducible first | exact HB.out | apply below_alloc | apply pw_below_drewN | apply below_drew1) | exact HB.out)) hb); clear HB; have HB := n0_; clear n0_; (try clear hb); (try clear hb2); (try clear hk); (try clear hi))))
  go_ret
  exact ⟨by first | rfl | (simp [errW_none, errW_some] <;> rfl) | (simp [*, errW_none, errW_some] <;> rfl), by repeat (first | (with_reducible first | exact HB.out | apply below_alloc | apply pw_below_drewN | apply below_drew1) | exact HB.out)⟩

/-- THE ONE PURE STATEMENT of forebearlaw05_DiffLongest. -/
def forebearlaw05_DiffLongest.Pure : Prop := ∀ (l0 : List ByteArray) (l1 : List ByteArray), (l0.length * 16 ≤ 140737488351232 ∧ l0.length ≤ 9223372036854775807 ∧ ∀ y_l0 ∈ l0, y_l0.size ≤ 140737488351232) → (l1.length * 16 ≤ 140737488351232 ∧ l1.length ≤ 9223372036854775807 ∧ ∀ y_l1 ∈ l1, y_l1.size ≤ 140737488351232) → ∃ k, forebearlaw05_DiffLongest.f k l0 l1 = some true
theorem forebearlaw05_DiffLongest.walk (P : forebearlaw05_DiffLongest.Pure) (l0 : List ByteArray) (l1 : List ByteArray) (A0 : Option Addr) (c0 : Nat) (A1 : Option Addr) (c1 : Nat) (w : World) (g0 : (l0.length * 16 ≤ 140737488351232 ∧ l0.length ≤ 9223372036854775807 ∧ ∀ y_l0 ∈ l0, y_l0.size ≤ 140737488351232)) (g1 : (l1.length * 16 ≤ 140737488351232 ∧ l1.length ≤ 9223372036854775807 ∧ ∀ y_l1 ∈ l1, y_l1.size ≤ 140737488351232)) (hc0 : l0.length ≤ c0) (hr0 : Kd.C Kd.string w A0 l0.length l0) (hc1 : l1.length ≤ c1) (hr1 : Kd.C Kd.string w A1 l1.length l1) :
  Calls Try.prog 4 #[.slice A0 l0.length c0, .slice A1 l1.length c1] w fun e w' => e = .returned (.bool true) ∧ Below w.heap.size w w' := by
 obtain ⟨k, h⟩ := P l0 l1 g0 g1
 refine (forebearlaw05_DiffLongest.calls k _ _ l0 _ _ l1 true w hr0 hc0 hr1 hc1 h).mono ?_
 rintro e w' ⟨rfl, hd⟩
 exact ⟨rfl, hd⟩

end Go.Proofs.Ythigjlahanejjaa.MD
