/- Laid by this claim's own program (myprint) out of the translation: functions that the laws of the group D reach, each as a plain function, with the proof that the Go code comes to it. No condition. -/
import Derived.Test.YthigjlahanejjaaMDx0
import Derived.Test.YthigjlahanejjaaMDx5
import Derived.Test.YthigjlahanejjaaMDx6
import Derived.Test.YthigjlahanejjaaMDx9
import Derived.Test.YthigjlahanejjaaMDx10
import Derived.Test.YthigjlahanejjaaMDx14
namespace Go.Proofs.Ythigjlahanejjaa.MD
open Go.Proofs.Ythigjlahanejjaa.Opening
open Go.RowKit Go.Proofs.YthigjlahanejjaaW.PrintWords Go.Proofs.YthigjlahanejjaaW.PrintLast Go.Proofs.YthigjlahanejjaaW.PrintMore
attribute [local go_sem] max2_int min2_int max_two min_two max_three min_three max_four min_four   -- for this text's walks alone
set_option linter.unusedVariables false
set_option linter.unusedSimpArgs false

/-! ### forebearlaw05_DiffApplies: function 6 -/
mutual
def forebearlaw05_DiffApplies.l0 : Nat → List ByteArray → List (S46) → List (S47) → List (S46) → Int → Option (Bool)
 | 0, _, _, _, _, _ => none
 | k + 1, x0, x1, x5, x6, x7 => if x7 < (x1.length : Int) then (if 0 ≤ x7 then (if x5.length < 2199023255552 then ((some (([] : List ByteArray) : List ByteArray)).bind fun y391 => (if y391.length + ((rd_T46 x1 x7).f2).length < 8796093022208 then ((some (([] : List ByteArray) : List ByteArray)).bind fun y397 => (if y397.length + ((rd_T46 x1 x7).f3).length < 8796093022208 then (if x6.length < 2199023255552 then (forebearlaw05_DiffApplies.l0 k x0 x1 (x5 ++ [(⟨(rd_T46 x1 x7).f0, (rd_T46 x1 x7).f1, (rd_T46 x1 x7).f2, (rd_T46 x1 x7).f3⟩ : S47)]) (x6 ++ [(⟨(rd_T46 x1 x7).f0, (rd_T46 x1 x7).f1, (y391 ++ ((rd_T46 x1 x7).f2)), (y397 ++ ((rd_T46 x1 x7).f3))⟩ : S46)]) (wrap64 (x7 + 1))) else (none)) else (none))) else (none))) else (none)) else (none)) else ((some (([] : List ByteArray) : List ByteArray)).bind fun y406 => (if y406.length + x0.length < 8796093022208 then ((some (y406 ++ x0 : List ByteArray)).bind fun y409 => ((diff_Apply.f k y409 x6).bind fun bt412 => ((forebearref05_Apply.f k x0 x5).bind fun bt416 => (if bt412.2 = bt416.2 then ((forebearref03_Same.f k bt412.1 bt416.1).bind fun t420 => (if t420 = true then ((forebearlaw05_same.f k x6 x5).bind fun t421 => (forebearlaw05_DiffApplies.j1 k x0 x5 x6 y409 bt412.1 (!t421))) else (forebearlaw05_DiffApplies.j1 k x0 x5 x6 y409 bt412.1 true))) else (forebearlaw05_DiffApplies.j1 k x0 x5 x6 y409 bt412.1 true))))) else (none)))
def forebearlaw05_DiffApplies.j1 : Nat → List ByteArray → List (S47) → List (S46) → List ByteArray → List ByteArray → Bool → Option (Bool)
 | 0, _, _, _, _, _, _ => none
 | k + 1, x0, x5, x6, x9, x10, x87 => if x87 = true then (some false) else (forebearlaw05_DiffApplies.l1 k x0 x5 x6 x9 x10 0)
def forebearlaw05_DiffApplies.l1 : Nat → List ByteArray → List (S47) → List (S46) → List ByteArray → List ByteArray → Int → Option (Bool)
 | 0, _, _, _, _, _, _ => none
 | k + 1, x0, x5, x6, x9, x10, x14 => if x14 < (x10.length : Int) then (if 0 ≤ x14 then (forebearlaw05_DiffApplies.l1 k x0 x5 x6 x9 (x10.set (x14 : Int).toNat (⟨#[109, 97, 114, 107, 101, 100]⟩ : ByteArray)) (wrap64 (x14 + 1))) else (none)) else ((forebearref03_Same.f k x9 x0).bind fun t423 => (if t423 = true then ((forebearlaw05_same.f k x6 x5).bind fun t424 => (some t424)) else (some false)))
end
def forebearlaw05_DiffApplies.f (k : Nat) (l0 : List ByteArray) (l1 : List (S46)) : Option (Bool) := (forebearlaw05_awake.f k).bind fun t385 => (if t385 = true then (if (l1.length : Int) > 300 then (some true) else (forebearlaw05_DiffApplies.l0 k l0 l1 ([] : List (S47)) ([] : List (S46)) 0)) else (some false))
theorem forebearlaw05_DiffApplies.mono_l : ∀ k, (∀ y0 y1 y2 y3 y4, LeO (forebearlaw05_DiffApplies.l0 k y0 y1 y2 y3 y4) (forebearlaw05_DiffApplies.l0 (k + 1) y0 y1 y2 y3 y4)) ∧ (∀ y0 y1 y2 y3 y4 y5, LeO (forebearlaw05_DiffApplies.j1 k y0 y1 y2 y3 y4 y5) (forebearlaw05_DiffApplies.j1 (k + 1) y0 y1 y2 y3 y4 y5)) ∧ (∀ y0 y1 y2 y3 y4 y5, LeO (forebearlaw05_DiffApplies.l1 k y0 y1 y2 y3 y4 y5) (forebearlaw05_DiffApplies.l1 (k + 1) y0 y1 y2 y3 y4 y5))
 | 0 => ⟨fun _ _ _ _ _ r h => by simp [forebearlaw05_DiffApplies.l0] at h, fun _ _ _ _ _ _ r h => by simp [forebearlaw05_DiffApplies.j1] at h, fun _ _ _ _ _ _ r h => by simp [forebearlaw05_DiffApplies.l1] at h⟩
 | k + 1 => by
  obtain ⟨ih0, ih1, ih2⟩ := forebearlaw05_DiffApplies.mono_l k
  refine ⟨?_, ?_, ?_⟩
  ·intro y0 y1 y2 y3 y4
   unfold forebearlaw05_DiffApplies.l0
   repeat' first
   | (with_reducible exact ih0 _ _ _ _ _)
   | (with_reducible exact ih1 _ _ _ _ _ _)
   | (with_reducible exact ih2 _ _ _ _ _ _)
   | (with_reducible exact diff_Apply.mono _ _ _)
   | (with_reducible exact forebearlaw05_awake.mono _)
   | (with_reducible exact forebearlaw05_same.mono _ _ _)
   | (with_reducible exact forebearref03_Same.mono _ _ _)
   | (with_reducible exact forebearref05_Apply.mono _ _ _)
   | (with_reducible exact LeO.refl _)
   | (with_reducible exact LeO.none _)
   | (with_reducible refine LeO.ite ?_ ?_)
   | (with_reducible refine LeO.bind ?_ (fun _ => ?_))
   | exact ih0 _ _ _ _ _
   | exact ih1 _ _ _ _ _ _
   | exact ih2 _ _ _ _ _ _
   | exact diff_Apply.mono _ _ _
   | exact forebearlaw05_awake.mono _
   | exact forebearlaw05_same.mono _ _ _
   | exact forebearref03_Same.mono _ _ _
   | exact forebearref05_Apply.mono _ _ _
   | exact LeO.none _
   | refine LeO.ite ?_ ?_
   | refine LeO.bind ?_ (fun _ => ?_)
  ·intro y0 y1 y2 y3 y4 y5
   unfold forebearlaw05_DiffApplies.j1
   repeat' first
   | (with_reducible exact ih0 _ _ _ _ _)
   | (with_reducible exact ih1 _ _ _ _ _ _)
   | (with_reducible exact ih2 _ _ _ _ _ _)
   | (with_reducible exact diff_Apply.mono _ _ _)
   | (with_reducible exact forebearlaw05_awake.mono _)
   | (with_reducible exact forebearlaw05_same.mono _ _ _)
   | (with_reducible exact forebearref03_Same.mono _ _ _)
   | (with_reducible exact forebearref05_Apply.mono _ _ _)
   | (with_reducible exact LeO.refl _)
   | (with_reducible exact LeO.none _)
   | (with_reducible refine LeO.ite ?_ ?_)
   | (with_reducible refine LeO.bind ?_ (fun _ => ?_))
   | exact ih0 _ _ _ _ _
   | exact ih1 _ _ _ _ _ _
   | exact ih2 _ _ _ _ _ _
   | exact diff_Apply.mono _ _ _
   | exact forebearlaw05_awake.mono _
   | exact forebearlaw05_same.mono _ _ _
   | exact forebearref03_Same.mono _ _ _
   | exact forebearref05_Apply.mono _ _ _
   | exact LeO.none _
   | refine LeO.ite ?_ ?_
   | refine LeO.bind ?_ (fun _ => ?_)
  ·intro y0 y1 y2 y3 y4 y5
   unfold forebearlaw05_DiffApplies.l1
   repeat' first
   | (with_reducible exact ih0 _ _ _ _ _)
   | (with_reducible exact ih1 _ _ _ _ _ _)
   | (with_reducible exact ih2 _ _ _ _ _ _)
   | (with_reducible exact diff_Apply.mono _ _ _)
   | (with_reducible exact forebearlaw05_awake.mono _)
   | (with_reducible exact forebearlaw05_same.mono _ _ _)
   | (with_reducible exact forebearref03_Same.mono _ _ _)
   | (with_reducible exact forebearref05_Apply.mono _ _ _)
   | (with_reducible exact LeO.refl _)
   | (with_reducible exact LeO.none _)
   | (with_reducible refine LeO.ite ?_ ?_)
   | (with_reducible refine LeO.bind ?_ (fun _ => ?_))
   | exact ih0 _ _ _ _ _
   | exact ih1 _ _ _ _ _ _
   | exact ih2 _ _ _ _ _ _
   | exact diff_Apply.mono _ _ _
   | exact forebearlaw05_awake.mono _
   | exact forebearlaw05_same.mono _ _ _
   | exact forebearref03_Same.mono _ _ _
   | exact forebearref05_Apply.mono _ _ _
   | exact LeO.none _
   | refine LeO.ite ?_ ?_
   | refine LeO.bind ?_ (fun _ => ?_)
theorem forebearlaw05_DiffApplies.mono : ∀ a0 a1 k, LeO (forebearlaw05_DiffApplies.f k a0 a1) (forebearlaw05_DiffApplies.f (k + 1) a0 a1) := by
 intro a0 a1 k
 obtain ⟨ih0, ih1, ih2⟩ := forebearlaw05_DiffApplies.mono_l k
 unfold forebearlaw05_DiffApplies.f
 repeat' first
   | (with_reducible exact ih0 _ _ _ _ _)
   | (with_reducible exact ih1 _ _ _ _ _ _)
   | (with_reducible exact ih2 _ _ _ _ _ _)
   | (with_reducible exact diff_Apply.mono _ _ _)
   | (with_reducible exact forebearlaw05_awake.mono _)
   | (with_reducible exact forebearlaw05_same.mono _ _ _)
   | (with_reducible exact forebearref03_Same.mono _ _ _)
   | (with_reducible exact forebearref05_Apply.mono _ _ _)
   | (with_reducible exact LeO.refl _)
   | (with_reducible exact LeO.none _)
   | (with_reducible refine LeO.ite ?_ ?_)
   | (with_reducible refine LeO.bind ?_ (fun _ => ?_))
   | exact ih0 _ _ _ _ _
   | exact ih1 _ _ _ _ _ _
   | exact ih2 _ _ _ _ _ _
   | exact diff_Apply.mono _ _ _
   | exact forebearlaw05_awake.mono _
   | exact forebearlaw05_same.mono _ _ _
   | exact forebearref03_Same.mono _ _ _
   | exact forebearref05_Apply.mono _ _ _
   | exact LeO.none _
   | refine LeO.ite ?_ ?_
   | refine LeO.bind ?_ (fun _ => ?_)
def forebearlaw05_DiffApplies.T12 : Bool × List (List Nat × List Nat) := (true, [([], []), ([], []), ([1], [1]), ([], []), ([3], [3]), ([], []), ([], []), ([6], [6]), ([5, 7], [5, 7]), ([], []), ([], []), ([10], [10]), ([9, 11, 8], [9, 11]), ([2, 4, 8, 12], [2, 4, 8, 12]), ([13], [13]), ([0, 14, 12], [0, 14]), ([15, 15, 0, 1, 2, 3, 4, 5, 6, 7, 8, 9, 10, 11, 12, 13, 14, 15], [0, 15])])
def forebearlaw05_DiffApplies.B12 : List Nat := [0, 0, 2, 0, 8, 0, 0, 64, 224, 0, 0, 1024, 4064, 8190, 16382, 32767, 65535]
theorem forebearlaw05_DiffApplies.tab12 : rtab .any (opsOf Try.f6 12) = forebearlaw05_DiffApplies.T12 := by kernel_rfl
theorem forebearlaw05_DiffApplies.bits12 : waitsOk forebearlaw05_DiffApplies.T12.2 forebearlaw05_DiffApplies.B12 = true := by kernel_rfl
set_option maxHeartbeats 8000000 in
set_option maxRecDepth 100000 in
theorem forebearlaw05_DiffApplies.calls (k : Nat) (A0 : Option Addr) (c0 : Nat) (l0 : List ByteArray) (P1_ : Nat → Prop) (A1 : Option Addr) (c1 : Nat) (l1 : List (S46)) (r : Bool) (w : World) (hr0 : Kd.C Kd.string w A0 l0.length l0) (hc0 : l0.length ≤ c0) (hs1 : Kd.V k46 46 w w.heap.size (fun k_ => P1_ k_) (.slice A1 l1.length c1) l1) (h : forebearlaw05_DiffApplies.f k l0 l1 = some r) :
  Calls Try.prog 6 #[.slice A0 l0.length c0, .slice A1 l1.length c1] w fun e w' => e = .returned (.bool r) ∧ Below w.heap.size w w' := by
 have hu46 := Try.underlying46
 have hu47 := Try.underlying47
 have HR0 := Aside0.mk hr0
 have HC0 := Aside0.mk hc0
 clear hr0 hc0
 have HO1 := Aside0.mk (show Kd.V k46 46 w w.heap.size (fun k_ => (P1_ k_ ∨ w.heap.size ≤ k_)) (.slice A1 l1.length c1) l1 from Kd.V_mono hs1 (fun k_ hk => .inl hk))
 have HB := Aside0.mk (Below.refl w.heap.size w)
 have H : ((forebearlaw05_awake.f k).bind fun t385 => (if t385 = true then (if (l1.length : Int) > 300 then (some true) else (forebearlaw05_DiffApplies.l0 k l0 l1 ([] : List (S47)) ([] : List (S46)) 0)) else (some false))) = some r := h
 clear h
 replace H := Option.bind_eq_some_iff.mp H
 obtain ⟨t385, A30, H⟩ := H
 replace H : (if t385 = true then (if (l1.length : Int) > 300 then (some true) else (forebearlaw05_DiffApplies.l0 k l0 l1 ([] : List (S47)) ([] : List (S46)) 0)) else (some false)) = some r := H
 have A3 := Aside0.mk A30
 clear A30
 by_cases c4 : t385 = true
 ·subst c4
  have H1 : (if (l1.length : Int) > 300 then (some true) else (forebearlaw05_DiffApplies.l0 k l0 l1 ([] : List (S47)) ([] : List (S46)) 0)) = some r := by rw [if_pos rfl] at H; exact H
  clear H
  have H := H1
  clear H1
  by_cases c5 : (l1.length : Int) > 300
  ·rw [if_pos c5] at H
   have c5b0 : decide (300 < (l1.length : Int)) = true := decide_eq_true c5
   have c5b1 : decide (300 < l1.length) = true := decide_eq_true (by omega)
   clear c5
   obtain rfl := Option.some.inj H
   go_enter Try.func6, Try.ntmps6
   go_wp2_with (first | ((with_reducible refine gate_callee (f := 12) rfl ?_); refine goesL_ (some 15) rfl rfl Try.func12 (by kernel_rfl) rfl #[] rfl (by (try simp only [List.map_toArray, List.map_cons, List.map_nil]); first | done | rfl | (simp only [List.length_drop, List.length_take]; rfl)) ?_; (with_reducible refine (forebearlaw05_awake.calls k  true _ A3.out).mono ?_); rintro e w6 ⟨rfl, hb⟩; refine ⟨_, rfl, ?_⟩; have n0_ := Aside0.mk (Kd.V_below (by (with_reducible repeat (first | apply Kd.V_alloc | apply Kd.V_drewN | apply Kd.V_drew)); exact HO1.out) hb); have n1_ := Aside0.mk (below_step (by repeat (first | (with_reducible first | exact HB.out | apply below_alloc | apply pw_below_drewN | apply below_drew1) | exact HB.out)) hb); clear HO1; clear HB; have HO1 := n0_; have HB := n1_; clear n0_ n1_; (try clear hb); (try clear hb2); (try clear hk); (try clear hi)))
   go_ret
   exact ⟨by first | rfl | (simp [errW_none, errW_some] <;> rfl) | (simp [*, errW_none, errW_some] <;> rfl), by repeat (first | (with_reducible first | exact HB.out | apply below_alloc | apply pw_below_drewN | apply below_drew1) | exact HB.out)⟩
  ·rw [if_neg c5] at H
   have c5b0 : decide (300 < (l1.length : Int)) = false := decide_eq_false c5
   have c5b1 : decide (300 < l1.length) = false := decide_eq_false (by omega)
   clear c5
   have H' := Aside0.mk H
   clear H
   go_enter Try.func6, Try.ntmps6
   go_wp2_with (first | ((with_reducible refine gate_callee (f := 12) rfl ?_); refine goesL_ (some 15) rfl rfl Try.func12 (by kernel_rfl) rfl #[] rfl (by (try simp only [List.map_toArray, List.map_cons, List.map_nil]); first | done | rfl | (simp only [List.length_drop, List.length_take]; rfl)) ?_; (with_reducible refine (forebearlaw05_awake.calls k  true _ A3.out).mono ?_); rintro e w7 ⟨rfl, hb⟩; refine ⟨_, rfl, ?_⟩; have n0_ := Aside0.mk (Kd.V_below (by (with_reducible repeat (first | apply Kd.V_alloc | apply Kd.V_drewN | apply Kd.V_drew)); exact HO1.out) hb); have n1_ := Aside0.mk (below_step (by repeat (first | (with_reducible first | exact HB.out | apply below_alloc | apply pw_below_drewN | apply below_drew1) | exact HB.out)) hb); clear HO1; clear HB; have HO1 := n0_; have HB := n1_; clear n0_ n1_; (try clear hb); (try clear hb2); (try clear hk); (try clear hi)))
   go_loopg [5, 6, 7] k (fun kq v5 v6 v7 w' => ∃ (x5_1 : List (S47)) (x6_1 : List (S46)) (x7_1 : Int), v7 = .int .i64 x7_1 ∧ Aside0 (forebearlaw05_DiffApplies.l0 kq l0 l1 x5_1 x6_1 x7_1 = some r) ∧ Aside0 (kq ≤ k) ∧ Aside0 (Kd.V k46 46 w' w.heap.size (fun k_ => (P1_ k_ ∨ w.heap.size ≤ k_) ∧ some k_ ≠ (v5 : Value).ownBlock ∧ some k_ ≠ (v6 : Value).ownBlock) (.slice A1 l1.length c1) l1) ∧ Aside0 (Kd.N k47 47 w' w.heap.size (fun k_ => (P1_ k_ ∨ w.heap.size ≤ k_) ∧ some k_ ≠ (v6 : Value).ownBlock) v5 x5_1) ∧ Aside0 (Kd.N k46 46 w' w.heap.size (fun k_ => (P1_ k_ ∨ w.heap.size ≤ k_) ∧ some k_ ≠ (v5 : Value).ownBlock) v6 x6_1) ∧ Aside0 (Below w.heap.size w w'))
   case atStart => exact ⟨(([] : List (S47))), (([] : List (S46))), (0), (by first | rfl | (simp; done) | (simp [*]; done)), H', ⟨Nat.le_refl _⟩, ⟨by (with_reducible repeat (first | apply Kd.V_alloc | apply Kd.V_drewN | apply Kd.V_drew)); exact Kd.V_mono HO1.out (fun _ hk => ⟨hk, ⟨(by simp [Value.ownBlock]), (by simp [Value.ownBlock])⟩⟩)⟩, ⟨by first | exact Kd.S_nil _ _ _ _ _ | exact Kd.N_nil _ _ _ _ _ | exact Kd.V_nil _ _ _ _ _ | exact Kd.Q_nil _ _ _ _ _ | exact Kd.R_nil _ _ _ _ _⟩, ⟨by first | exact Kd.S_nil _ _ _ _ _ | exact Kd.N_nil _ _ _ _ _ | exact Kd.V_nil _ _ _ _ _ | exact Kd.Q_nil _ _ _ _ _ | exact Kd.R_nil _ _ _ _ _⟩, ⟨by repeat (first | (with_reducible first | exact HB.out | apply below_alloc | apply pw_below_drewN | apply below_drew1) | exact HB.out)⟩⟩
   case round =>
    clear H'
    try clear c1
    try clear p2
    try clear c4
    try clear c5
    try clear c5b0
    try clear c5b1
    try clear c6
    obtain ⟨x5_1, x6_1, x7_1, rfl, HA, HK1, HO_1, HO_5, HO_6, HB⟩ := hrel
    cases gk with
    | zero => exact absurd HA.out (by simp [forebearlaw05_DiffApplies.l0])
    | succ k1 =>
     have H := HA.out
     clear HA
     simp only [forebearlaw05_DiffApplies.l0] at H
     by_cases c8 : x7_1 < (l1.length : Int)
     ·rw [if_pos c8] at H
      have c8b0 : decide (x7_1 < (l1.length : Int)) = true := decide_eq_true c8
      clear c8
      by_cases c9 : 0 ≤ x7_1
      ·rw [if_pos c9] at H
       have c9b0 : decide (0 ≤ x7_1) = true := decide_eq_true c9
       clear c9
       by_cases c10 : x5_1.length < 2199023255552
       ·rw [if_pos c10] at H
        have LMc10 := Aside0.mk c10
        clear c10
        obtain ⟨y388, hy388⟩ : ∃ y_ : List (S47), y_ = (x5_1 ++ [(⟨(rd_T46 l1 x7_1).f0, (rd_T46 l1 x7_1).f1, (rd_T46 l1 x7_1).f2, (rd_T46 l1 x7_1).f3⟩ : S47)]) := ⟨_, rfl⟩
        replace H : ((some (([] : List ByteArray) : List ByteArray)).bind fun y391 => (if y391.length + ((rd_T46 l1 x7_1).f2).length < 8796093022208 then ((some (([] : List ByteArray) : List ByteArray)).bind fun y397 => (if y397.length + ((rd_T46 l1 x7_1).f3).length < 8796093022208 then (if x6_1.length < 2199023255552 then (forebearlaw05_DiffApplies.l0 k1 l0 l1 y388 (x6_1 ++ [(⟨(rd_T46 l1 x7_1).f0, (rd_T46 l1 x7_1).f1, (y391 ++ ((rd_T46 l1 x7_1).f2)), (y397 ++ ((rd_T46 l1 x7_1).f3))⟩ : S46)]) (wrap64 (x7_1 + 1))) else (none)) else (none))) else (none))) = some r := by first | (rw [hy388]; with_reducible exact H) | (have H2_ := (Option.bind_some _ _).symm.trans H; rw [hy388]; with_reducible exact H2_) | (have H2_ := (Option.bind_some _ _).symm.trans H; with_reducible exact H2_) | with_reducible exact H | (rw [hy388]; exact H) | exact H
        have Ny388 := Aside0.mk hy388
        clear hy388
        obtain ⟨y391, hy391⟩ : ∃ y_ : List ByteArray, y_ = (([] : List ByteArray)) := ⟨_, rfl⟩
        replace H : (if y391.length + ((rd_T46 l1 x7_1).f2).length < 8796093022208 then ((some (([] : List ByteArray) : List ByteArray)).bind fun y397 => (if y397.length + ((rd_T46 l1 x7_1).f3).length < 8796093022208 then (if x6_1.length < 2199023255552 then (forebearlaw05_DiffApplies.l0 k1 l0 l1 y388 (x6_1 ++ [(⟨(rd_T46 l1 x7_1).f0, (rd_T46 l1 x7_1).f1, (y391 ++ ((rd_T46 l1 x7_1).f2)), (y397 ++ ((rd_T46 l1 x7_1).f3))⟩ : S46)]) (wrap64 (x7_1 + 1))) else (none)) else (none))) else (none)) = some r := by first | (rw [hy391]; with_reducible exact H) | (have H2_ := (Option.bind_some _ _).symm.trans H; rw [hy391]; with_reducible exact H2_) | (have H2_ := (Option.bind_some _ _).symm.trans H; with_reducible exact H2_) | with_reducible exact H | (rw [hy391]; exact H) | exact H
        have Ny391 := Aside0.mk hy391
        clear hy391
        by_cases c11 : y391.length + ((rd_T46 l1 x7_1).f2).length < 8796093022208
        ·rw [if_pos c11] at H
         have LMc11 := Aside0.mk c11
         clear c11
         obtain ⟨y394, hy394⟩ : ∃ y_ : List ByteArray, y_ = (y391 ++ ((rd_T46 l1 x7_1).f2)) := ⟨_, rfl⟩
         replace H : ((some (([] : List ByteArray) : List ByteArray)).bind fun y397 => (if y397.length + ((rd_T46 l1 x7_1).f3).length < 8796093022208 then (if x6_1.length < 2199023255552 then (forebearlaw05_DiffApplies.l0 k1 l0 l1 y388 (x6_1 ++ [(⟨(rd_T46 l1 x7_1).f0, (rd_T46 l1 x7_1).f1, y394, (y397 ++ ((rd_T46 l1 x7_1).f3))⟩ : S46)]) (wrap64 (x7_1 + 1))) else (none)) else (none))) = some r := by first | (rw [hy394]; with_reducible exact H) | (have H2_ := (Option.bind_some _ _).symm.trans H; rw [hy394]; with_reducible exact H2_) | (have H2_ := (Option.bind_some _ _).symm.trans H; with_reducible exact H2_) | with_reducible exact H | (rw [hy394]; exact H) | exact H
         have Ny394 := Aside0.mk hy394
         clear hy394
         obtain ⟨y397, hy397⟩ : ∃ y_ : List ByteArray, y_ = (([] : List ByteArray)) := ⟨_, rfl⟩
         replace H : (if y397.length + ((rd_T46 l1 x7_1).f3).length < 8796093022208 then (if x6_1.length < 2199023255552 then (forebearlaw05_DiffApplies.l0 k1 l0 l1 y388 (x6_1 ++ [(⟨(rd_T46 l1 x7_1).f0, (rd_T46 l1 x7_1).f1, y394, (y397 ++ ((rd_T46 l1 x7_1).f3))⟩ : S46)]) (wrap64 (x7_1 + 1))) else (none)) else (none)) = some r := by first | (rw [hy397]; with_reducible exact H) | (have H2_ := (Option.bind_some _ _).symm.trans H; rw [hy397]; with_reducible exact H2_) | (have H2_ := (Option.bind_some _ _).symm.trans H; with_reducible exact H2_) | with_reducible exact H | (rw [hy397]; exact H) | exact H
         have Ny397 := Aside0.mk hy397
         clear hy397
         by_cases c12 : y397.length + ((rd_T46 l1 x7_1).f3).length < 8796093022208
         ·rw [if_pos c12] at H
          have LMc12 := Aside0.mk c12
          clear c12
          obtain ⟨y400, hy400⟩ : ∃ y_ : List ByteArray, y_ = (y397 ++ ((rd_T46 l1 x7_1).f3)) := ⟨_, rfl⟩
          replace H : (if x6_1.length < 2199023255552 then (forebearlaw05_DiffApplies.l0 k1 l0 l1 y388 (x6_1 ++ [(⟨(rd_T46 l1 x7_1).f0, (rd_T46 l1 x7_1).f1, y394, y400⟩ : S46)]) (wrap64 (x7_1 + 1))) else (none)) = some r := by first | (rw [hy400]; with_reducible exact H) | (have H2_ := (Option.bind_some _ _).symm.trans H; rw [hy400]; with_reducible exact H2_) | (have H2_ := (Option.bind_some _ _).symm.trans H; with_reducible exact H2_) | with_reducible exact H | (rw [hy400]; exact H) | exact H
          have Ny400 := Aside0.mk hy400
          clear hy400
          by_cases c13 : x6_1.length < 2199023255552
          ·rw [if_pos c13] at H
           have LMc13 := Aside0.mk c13
           clear c13
           obtain ⟨y403, hy403⟩ : ∃ y_ : List (S46), y_ = (x6_1 ++ [(⟨(rd_T46 l1 x7_1).f0, (rd_T46 l1 x7_1).f1, y394, y400⟩ : S46)]) := ⟨_, rfl⟩
           replace H : (forebearlaw05_DiffApplies.l0 k1 l0 l1 y388 y403 (wrap64 (x7_1 + 1))) = some r := by first | (rw [hy403]; with_reducible exact H) | (have H2_ := (Option.bind_some _ _).symm.trans H; rw [hy403]; with_reducible exact H2_) | (have H2_ := (Option.bind_some _ _).symm.trans H; with_reducible exact H2_) | with_reducible exact H | (rw [hy403]; exact H) | exact H
           have Ny403 := Aside0.mk hy403
           clear hy403
           have H' := Aside0.mk H
           clear H
           have p386 : 0 ≤ (x7_1 : Int) := of_decide_eq_true (by first | (with_reducible assumption) | assumption)
           have q386 : x7_1 < (l1.length : Int) := of_decide_eq_true (by first | (with_reducible assumption) | assumption)
           obtain ⟨ad386, A386_2, c386_2, A386_3, c386_3, e386, hx386_0, hx386_1, hx386_2, hx386_3, hl386_2, hi386_2, hl386_3, hi386_3⟩ := at_T46 (Kd.V_reads' HO_1.out).2.2 x7_1 p386 q386
           cases e386
           obtain ⟨ce386, hce386, hMe386, hcc386⟩ := Kd.V_get HO_1.out z46 x7_1 p386 (by first | exact q386 | exact of_decide_eq_true (by first | (with_reducible assumption) | assumption) | (have e_ := (Kd.V_reads' HO_1.out).1; omega))
           obtain ⟨ua386_2, uc386_2, ua386_3, uc386_3, rfl, ul386_2, ge386_2, ul386_3, ge386_3⟩ := k46_openF hMe386
           have hv386_2 := hcc386 2 _ rfl
           rw [add_field _ _ 2 (by omega)] at hv386_2
           replace hv386_2 := Option.some.inj (hv386_2.symm.trans hx386_2)
           injection hv386_2 with hva_ hvn_ hvc_
           rw [hva_] at ge386_2
           rw [hvc_] at ul386_2
           have HL386_2 := Aside0.mk (show Kd.V Kd.string 9 _ w.heap.size _ _ ((rd_T46 l1 x7_1).f2) from Kd.V_mk ul386_2 ge386_2)
           clear hva_ hvn_ hvc_ ge386_2 ul386_2
           have hv386_3 := hcc386 3 _ rfl
           rw [add_field _ _ 3 (by omega)] at hv386_3
           replace hv386_3 := Option.some.inj (hv386_3.symm.trans hx386_3)
           injection hv386_3 with hva_ hvn_ hvc_
           rw [hva_] at ge386_3
           rw [hvc_] at ul386_3
           have HL386_3 := Aside0.mk (show Kd.V Kd.string 9 _ w.heap.size _ _ ((rd_T46 l1 x7_1).f3) from Kd.V_mk ul386_3 ge386_3)
           clear hva_ hvn_ hvc_ ge386_3 ul386_3
           clear hcc386 hce386
           have HR386_2 := Aside0.mk hi386_2
           have HC386_2 := Aside0.mk hl386_2
           clear hi386_2 hl386_2
           have HR386_3 := Aside0.mk hi386_3
           have HC386_3 := Aside0.mk hl386_3
           clear hi386_3 hl386_3
           replace p386 := eq_true p386
           replace q386 := eq_true q386
           try go_wp2_with (first | ((with_reducible refine gate_dst (N := 8) rfl ?_); refine box_event ?hg (N := 8) ?hd (cs := #[.int .i64 0, .int .i64 0, .slice none 0 0, .slice none 0 0]) (t := 46) ?hr ?_; (case hd => rfl); (case hg => rfl); (case hr => first | (go_simp; done) | (go_simp; rfl)); intro gb387 hg w14 hbox hb; have n0_ := Aside0.mk (Kd.V_below (Kd.V_elderB (by (with_reducible repeat (first | apply Kd.V_alloc | apply Kd.V_drewN | apply Kd.V_drew)); exact HO_1.out) gb387 (Nat.le_of_eq hg.symm)) hb); have n1_ := Aside0.mk (Kd.N_below (Kd.N_elderB (by (with_reducible repeat (first | apply Kd.N_alloc | apply Kd.N_drewN | apply Kd.N_drew)); exact HO_5.out) gb387 (Nat.le_of_eq hg.symm)) hb); have n2_ := Aside0.mk (Kd.N_below (Kd.N_elderB (by (with_reducible repeat (first | apply Kd.N_alloc | apply Kd.N_drewN | apply Kd.N_drew)); exact HO_6.out) gb387 (Nat.le_of_eq hg.symm)) hb); have n3_ := Aside0.mk (Kd.V_below (Kd.V_elderB (by (with_reducible repeat (first | apply Kd.V_alloc | apply Kd.V_drewN | apply Kd.V_drew)); exact HL386_2.out) gb387 (Nat.le_of_eq hg.symm)) hb); have n4_ := Aside0.mk (Kd.V_below (Kd.V_elderB (by (with_reducible repeat (first | apply Kd.V_alloc | apply Kd.V_drewN | apply Kd.V_drew)); exact HL386_3.out) gb387 (Nat.le_of_eq hg.symm)) hb); have n5_ := Aside0.mk (Kd.C_below (by repeat (first | (with_reducible exact HR386_2.out) | (with_reducible refine Kd.C_alloc ?_ _) | (with_reducible refine Kd.C_drewN ?_ _) | (with_reducible refine Kd.C_drew ?_) | exact HR386_2.out)) hb); have n6_ := Aside0.mk (Kd.C_below (by repeat (first | (with_reducible exact HR386_3.out) | (with_reducible refine Kd.C_alloc ?_ _) | (with_reducible refine Kd.C_drewN ?_ _) | (with_reducible refine Kd.C_drew ?_) | exact HR386_3.out)) hb); have n7_ := Aside0.mk (below_step (by repeat (first | (with_reducible first | exact HB.out | apply below_alloc | apply pw_below_drewN | apply below_drew1) | exact HB.out)) hb); have n8_ := Aside0.mk (hbox); have n9_ := Aside0.mk ((by rw [hg]; exact (below_size (by repeat (first | (with_reducible first | exact HB.out | apply below_alloc | apply pw_below_drewN | apply below_drew1) | exact HB.out))) : w.heap.size ≤ gb387)); have n10_ := Aside0.mk ((by rw [hg]; exact (below_size (by repeat (first | (with_reducible first | exact HB.out | apply below_alloc | apply pw_below_drewN | apply below_drew1) | exact HB.out))) : w.heap.size ≤ gb387)); clear HO_1; clear HO_5; clear HO_6; clear HL386_2; clear HL386_3; clear HR386_2; clear HR386_3; clear HB; have HO_1 := n0_; have HO_5 := n1_; have HO_6 := n2_; have HL386_2 := n3_; have HL386_3 := n4_; have HR386_2 := n5_; have HR386_3 := n6_; have HB := n7_; have BK387 := n8_; have GW387 := n9_; have GE387 := n10_; clear n0_ n1_ n2_ n3_ n4_ n5_ n6_ n7_ n8_ n9_ n10_; clear hb hbox hg; have hcz15_0 : w14.cell? ⟨gb387, 0, none⟩ = some (.int .i64 0) := (blk_cell BK387.out 0).trans rfl; have hcz15_1 : w14.cell? ⟨gb387, 1, none⟩ = some (.int .i64 0) := (blk_cell BK387.out 1).trans rfl; have hcz15_2 : w14.cell? ⟨gb387, 2, none⟩ = some (.slice none 0 0) := (blk_cell BK387.out 2).trans rfl; have hcz15_3 : w14.cell? ⟨gb387, 3, none⟩ = some (.slice none 0 0) := (blk_cell BK387.out 3).trans rfl; have hfz15_0 := blk_frozen BK387.out 0; have hfz15_1 := blk_frozen BK387.out 1; have hfz15_2 := blk_frozen BK387.out 2; have hfz15_3 := blk_frozen BK387.out 3) | ((with_reducible refine gate_store (t := 46) (p := 8) rfl ?_); refine store_event (t := 46) (p := 8) (v := ?vo_w16) (w1 := ((((w14.setCell ⟨gb387, 0, none⟩ (.int .i64 ((rd_T46 l1 x7_1).f0))).setCell ⟨gb387, 1, none⟩ (.int .i64 ((rd_T46 l1 x7_1).f1))).setCell ⟨gb387, 2, none⟩ (.slice A386_2 ((rd_T46 l1 x7_1).f2).length c386_2)).setCell ⟨gb387, 3, none⟩ (.slice A386_3 ((rd_T46 l1 x7_1).f3).length c386_3))) ?hg ?ho ?hn ?hr ?_; (case ho => rfl); (case hg => rfl); (case hn => rfl); (case hr => first | (go_simp; done) | (go_simp; rfl)); intro w16 hw; have n0_ : Aside0 (Kd.V k46 46 w16 w.heap.size (fun k_ => (P1_ k_ ∨ w.heap.size ≤ k_) ∧ some k_ ≠ (u5 : Value).ownBlock ∧ some k_ ≠ (u6 : Value).ownBlock ∧ k_ ≠ gb387) (.slice (some ad386) l1.length c1) l1) := ⟨(by rw [hw]; exact (by (with_reducible repeat (first | apply Kd.V_alloc | apply Kd.V_drewN | apply Kd.V_drew)); exact Kd.V_mono (Kd.V_far (p := ⟨gb387, 3, none⟩) (Kd.V_far (p := ⟨gb387, 2, none⟩) (Kd.V_far (p := ⟨gb387, 1, none⟩) (Kd.V_far (p := ⟨gb387, 0, none⟩) (Kd.V_mono HO_1.out (fun k_ hk => (⟨hk, hk.2⟩ : _ ∧ k_ ≠ gb387))) (fun _ hk => hk.2) (.int .i64 ((rd_T46 l1 x7_1).f0))) (fun _ hk => hk.2) (.int .i64 ((rd_T46 l1 x7_1).f1))) (fun _ hk => hk.2) (.slice A386_2 ((rd_T46 l1 x7_1).f2).length c386_2)) (fun _ hk => hk.2) (.slice A386_3 ((rd_T46 l1 x7_1).f3).length c386_3)) (fun _ hk => ⟨hk.1.1.1, ⟨hk.1.1.2.1, ⟨hk.1.1.2.2, hk.1.2⟩⟩⟩)))⟩; have n1_ : Aside0 (Kd.N k47 47 w16 w.heap.size (fun k_ => (P1_ k_ ∨ w.heap.size ≤ k_) ∧ some k_ ≠ (u6 : Value).ownBlock ∧ k_ ≠ gb387) u5 x5_1) := ⟨(by rw [hw]; exact (by (with_reducible repeat (first | apply Kd.N_alloc | apply Kd.N_drewN | apply Kd.N_drew)); exact Kd.N_mono (Kd.N_far (p := ⟨gb387, 3, none⟩) (Kd.N_far (p := ⟨gb387, 2, none⟩) (Kd.N_far (p := ⟨gb387, 1, none⟩) (Kd.N_far (p := ⟨gb387, 0, none⟩) (Kd.N_mono HO_5.out (fun k_ hk => (⟨hk, hk.2⟩ : _ ∧ k_ ≠ gb387))) (fun _ hk => hk.2) (.int .i64 ((rd_T46 l1 x7_1).f0))) (fun _ hk => hk.2) (.int .i64 ((rd_T46 l1 x7_1).f1))) (fun _ hk => hk.2) (.slice A386_2 ((rd_T46 l1 x7_1).f2).length c386_2)) (fun _ hk => hk.2) (.slice A386_3 ((rd_T46 l1 x7_1).f3).length c386_3)) (fun _ hk => ⟨hk.1.1.1, ⟨hk.1.1.2, hk.1.2⟩⟩)))⟩; have n2_ : Aside0 (Kd.N k46 46 w16 w.heap.size (fun k_ => (P1_ k_ ∨ w.heap.size ≤ k_) ∧ some k_ ≠ (u5 : Value).ownBlock ∧ k_ ≠ gb387) u6 x6_1) := ⟨(by rw [hw]; exact (by (with_reducible repeat (first | apply Kd.N_alloc | apply Kd.N_drewN | apply Kd.N_drew)); exact Kd.N_mono (Kd.N_far (p := ⟨gb387, 3, none⟩) (Kd.N_far (p := ⟨gb387, 2, none⟩) (Kd.N_far (p := ⟨gb387, 1, none⟩) (Kd.N_far (p := ⟨gb387, 0, none⟩) (Kd.N_mono HO_6.out (fun k_ hk => (⟨hk, hk.2⟩ : _ ∧ k_ ≠ gb387))) (fun _ hk => hk.2) (.int .i64 ((rd_T46 l1 x7_1).f0))) (fun _ hk => hk.2) (.int .i64 ((rd_T46 l1 x7_1).f1))) (fun _ hk => hk.2) (.slice A386_2 ((rd_T46 l1 x7_1).f2).length c386_2)) (fun _ hk => hk.2) (.slice A386_3 ((rd_T46 l1 x7_1).f3).length c386_3)) (fun _ hk => ⟨hk.1.1.1, ⟨hk.1.1.2, hk.1.2⟩⟩)))⟩; have n3_ : Aside0 (Kd.V Kd.string 9 w16 w.heap.size (fun k_ => (P1_ k_ ∨ w.heap.size ≤ k_) ∧ some k_ ≠ (u5 : Value).ownBlock ∧ some k_ ≠ (u6 : Value).ownBlock ∧ k_ ≠ gb387) (.slice A386_2 ((rd_T46 l1 x7_1).f2).length c386_2) ((rd_T46 l1 x7_1).f2)) := ⟨(by rw [hw]; exact (by (with_reducible repeat (first | apply Kd.V_alloc | apply Kd.V_drewN | apply Kd.V_drew)); exact Kd.V_mono (Kd.V_far (p := ⟨gb387, 3, none⟩) (Kd.V_far (p := ⟨gb387, 2, none⟩) (Kd.V_far (p := ⟨gb387, 1, none⟩) (Kd.V_far (p := ⟨gb387, 0, none⟩) (Kd.V_mono HL386_2.out (fun k_ hk => (⟨hk, hk.2⟩ : _ ∧ k_ ≠ gb387))) (fun _ hk => hk.2) (.int .i64 ((rd_T46 l1 x7_1).f0))) (fun _ hk => hk.2) (.int .i64 ((rd_T46 l1 x7_1).f1))) (fun _ hk => hk.2) (.slice A386_2 ((rd_T46 l1 x7_1).f2).length c386_2)) (fun _ hk => hk.2) (.slice A386_3 ((rd_T46 l1 x7_1).f3).length c386_3)) (fun _ hk => ⟨hk.1.1.1, ⟨hk.1.1.2.1, ⟨hk.1.1.2.2, hk.1.2⟩⟩⟩)))⟩; have n4_ : Aside0 (Kd.V Kd.string 9 w16 w.heap.size (fun k_ => (P1_ k_ ∨ w.heap.size ≤ k_) ∧ some k_ ≠ (u5 : Value).ownBlock ∧ some k_ ≠ (u6 : Value).ownBlock ∧ k_ ≠ gb387) (.slice A386_3 ((rd_T46 l1 x7_1).f3).length c386_3) ((rd_T46 l1 x7_1).f3)) := ⟨(by rw [hw]; exact (by (with_reducible repeat (first | apply Kd.V_alloc | apply Kd.V_drewN | apply Kd.V_drew)); exact Kd.V_mono (Kd.V_far (p := ⟨gb387, 3, none⟩) (Kd.V_far (p := ⟨gb387, 2, none⟩) (Kd.V_far (p := ⟨gb387, 1, none⟩) (Kd.V_far (p := ⟨gb387, 0, none⟩) (Kd.V_mono HL386_3.out (fun k_ hk => (⟨hk, hk.2⟩ : _ ∧ k_ ≠ gb387))) (fun _ hk => hk.2) (.int .i64 ((rd_T46 l1 x7_1).f0))) (fun _ hk => hk.2) (.int .i64 ((rd_T46 l1 x7_1).f1))) (fun _ hk => hk.2) (.slice A386_2 ((rd_T46 l1 x7_1).f2).length c386_2)) (fun _ hk => hk.2) (.slice A386_3 ((rd_T46 l1 x7_1).f3).length c386_3)) (fun _ hk => ⟨hk.1.1.1, ⟨hk.1.1.2.1, ⟨hk.1.1.2.2, hk.1.2⟩⟩⟩)))⟩; have n5_ : Aside0 (w16.heap[gb387]? = some (.cells #[.int .i64 ((rd_T46 l1 x7_1).f0), .int .i64 ((rd_T46 l1 x7_1).f1), .slice A386_2 ((rd_T46 l1 x7_1).f2).length c386_2, .slice A386_3 ((rd_T46 l1 x7_1).f3).length c386_3] 46 (0, 0))) := ⟨(by rw [hw]; exact (by (with_reducible repeat (first | refine blk_drewN ?_ _ | refine blk_drew ?_ | refine blk_alloc ?_ _)); refine blk_put (cs := #[.int .i64 ((rd_T46 l1 x7_1).f0), .int .i64 ((rd_T46 l1 x7_1).f1), .slice A386_2 ((rd_T46 l1 x7_1).f2).length c386_2, .slice none 0 0]) ?_ 3 _ rfl; (with_reducible repeat (first | refine blk_drewN ?_ _ | refine blk_drew ?_ | refine blk_alloc ?_ _)); refine blk_put (cs := #[.int .i64 ((rd_T46 l1 x7_1).f0), .int .i64 ((rd_T46 l1 x7_1).f1), .slice none 0 0, .slice none 0 0]) ?_ 2 _ rfl; (with_reducible repeat (first | refine blk_drewN ?_ _ | refine blk_drew ?_ | refine blk_alloc ?_ _)); refine blk_put (cs := #[.int .i64 ((rd_T46 l1 x7_1).f0), .int .i64 0, .slice none 0 0, .slice none 0 0]) ?_ 1 _ rfl; (with_reducible repeat (first | refine blk_drewN ?_ _ | refine blk_drew ?_ | refine blk_alloc ?_ _)); refine blk_put (cs := #[.int .i64 0, .int .i64 0, .slice none 0 0, .slice none 0 0]) ?_ 0 _ rfl; (with_reducible repeat (first | refine blk_drewN ?_ _ | refine blk_drew ?_ | refine blk_alloc ?_ _)); exact BK387.out))⟩; have n6_ : Aside0 (Below w.heap.size w w16) := ⟨(by rw [hw]; exact (by repeat (first | (with_reducible first | exact HB.out | apply below_alloc | apply pw_below_drewN | apply below_drew1 | refine below_set ?_ GE387.out) | exact HB.out)))⟩; clear hw; clear HO_1; clear HO_5; clear HO_6; clear HL386_2; clear HL386_3; clear BK387; clear HB; have HO_1 := n0_; have HO_5 := n1_; have HO_6 := n2_; have HL386_2 := n3_; have HL386_3 := n4_; have BK387 := n5_; have HB := n6_; clear n0_ n1_ n2_ n3_ n4_ n5_ n6_; have hcz17_0 : w16.cell? ⟨gb387, 0, none⟩ = some (.int .i64 ((rd_T46 l1 x7_1).f0)) := (blk_cell BK387.out 0).trans rfl; have hcz17_1 : w16.cell? ⟨gb387, 1, none⟩ = some (.int .i64 ((rd_T46 l1 x7_1).f1)) := (blk_cell BK387.out 1).trans rfl; have hcz17_2 : w16.cell? ⟨gb387, 2, none⟩ = some (.slice A386_2 ((rd_T46 l1 x7_1).f2).length c386_2) := (blk_cell BK387.out 2).trans rfl; have hcz17_3 : w16.cell? ⟨gb387, 3, none⟩ = some (.slice A386_3 ((rd_T46 l1 x7_1).f3).length c386_3) := (blk_cell BK387.out 3).trans rfl; have hfz17_0 := blk_frozen BK387.out 0; have hfz17_1 := blk_frozen BK387.out 1; have hfz17_2 := blk_frozen BK387.out 2; have hfz17_3 := blk_frozen BK387.out 3) | ((with_reducible refine gate_builtin (b := .append) (xs := #[.tmp 30, .tmp 40]) rfl ?_); at_builtin; refine Kd.N_append k47 (w0 := w) w.heap.size rfl (.tmp 30) (.tmp 40) 34 47 (.agg #[(.int .i64 0), (.int .i64 0), (.slice none 0 0), (.slice none 0 0)]) 64 rfl Try.underlying34 info47 rfl (by decide) (by omega) u5 x5_1 (⟨(rd_T46 l1 x7_1).f0, (rd_T46 l1 x7_1).f1, (rd_T46 l1 x7_1).f2, (rd_T46 l1 x7_1).f3⟩ : S47) [.int .i64 ((rd_T46 l1 x7_1).f0), .int .i64 ((rd_T46 l1 x7_1).f1), .slice A386_2 ((rd_T46 l1 x7_1).f2).length c386_2, .slice A386_3 ((rd_T46 l1 x7_1).f3).length c386_3] (fun k_ => (P1_ k_ ∨ w.heap.size ≤ k_) ∧ some k_ ≠ (u6 : Value).ownBlock ∧ k_ ≠ gb387) (fun k_ => ((fun k_ => (P1_ k_ ∨ w.heap.size ≤ k_) ∧ some k_ ≠ (u6 : Value).ownBlock ∧ k_ ≠ gb387)) k_ ∧ some k_ ≠ (u5 : Value).ownBlock) rfl rfl ?aP (fun _ hk => hk) ?aF ?aO ?aB ?aS ?aL ?_; (case aP => exact (k47_mkF _ _ (⟨(rd_T46 l1 x7_1).f0, (rd_T46 l1 x7_1).f1, (rd_T46 l1 x7_1).f2, (rd_T46 l1 x7_1).f3⟩ : S47) (Kd.V_reads' (Kd.V_mono (e := 0) (base := 0) (ok' := (fun k_ => ((fun k_ => (P1_ k_ ∨ w.heap.size ≤ k_) ∧ some k_ ≠ (u6 : Value).ownBlock ∧ k_ ≠ gb387)) k_ ∧ some k_ ≠ (u5 : Value).ownBlock)) (HL386_2.out) (fun k_ hk => ⟨⟨hk.1, ⟨hk.2.2.1, hk.2.2.2⟩⟩, hk.2.1⟩))).2.1 (Kd.V_F (Kd.V_mono (e := 0) (base := 0) (ok' := (fun k_ => ((fun k_ => (P1_ k_ ∨ w.heap.size ≤ k_) ∧ some k_ ≠ (u6 : Value).ownBlock ∧ k_ ≠ gb387)) k_ ∧ some k_ ≠ (u5 : Value).ownBlock)) (HL386_2.out) (fun k_ hk => ⟨⟨hk.1, ⟨hk.2.2.1, hk.2.2.2⟩⟩, hk.2.1⟩))) (Kd.V_reads' (Kd.V_mono (e := 0) (base := 0) (ok' := (fun k_ => ((fun k_ => (P1_ k_ ∨ w.heap.size ≤ k_) ∧ some k_ ≠ (u6 : Value).ownBlock ∧ k_ ≠ gb387)) k_ ∧ some k_ ≠ (u5 : Value).ownBlock)) (HL386_3.out) (fun k_ hk => ⟨⟨hk.1, ⟨hk.2.2.1, hk.2.2.2⟩⟩, hk.2.1⟩))).2.1 (Kd.V_F (Kd.V_mono (e := 0) (base := 0) (ok' := (fun k_ => ((fun k_ => (P1_ k_ ∨ w.heap.size ≤ k_) ∧ some k_ ≠ (u6 : Value).ownBlock ∧ k_ ≠ gb387)) k_ ∧ some k_ ≠ (u5 : Value).ownBlock)) (HL386_3.out) (fun k_ hk => ⟨⟨hk.1, ⟨hk.2.2.1, hk.2.2.2⟩⟩, hk.2.1⟩))))); (case aB => exact (by repeat (first | (with_reducible first | exact HB.out | apply below_alloc | apply pw_below_drewN | apply below_drew1 | refine below_set ?_ GE387.out) | exact HB.out))); (case aF => exact (fun k_ hk => ⟨(.inr (Nat.le_trans (below_size (by repeat (first | (with_reducible first | exact HB.out | apply below_alloc | apply pw_below_drewN | apply below_drew1 | refine below_set ?_ GE387.out) | exact HB.out))) hk)), Kd.fresh' (Kd.N_lt (by (with_reducible repeat (first | apply Kd.N_alloc | apply Kd.N_drewN | apply Kd.N_drew)); exact HO_6.out)) k_ hk, Kd.freshB (g := gb387) (o := .cells #[.int .i64 ((rd_T46 l1 x7_1).f0), .int .i64 ((rd_T46 l1 x7_1).f1), .slice A386_2 ((rd_T46 l1 x7_1).f2).length c386_2, .slice A386_3 ((rd_T46 l1 x7_1).f3).length c386_3] 46 (0, 0)) (by (with_reducible repeat (first | refine blk_drewN ?_ _ | refine blk_drew ?_ | refine blk_alloc ?_ _)); exact BK387.out) k_ hk⟩)); (case aO => exact (by (with_reducible repeat (first | apply Kd.N_alloc | apply Kd.N_drewN | apply Kd.N_drew)); exact HO_5.out)); (case aS => exact (below_size (by repeat (first | (with_reducible first | exact HB.out | apply below_alloc | apply pw_below_drewN | apply below_drew1 | refine below_set ?_ GE387.out) | exact HB.out)))); (case aL => have := LMc10.out; omega); intro v389 w18 ho hb hg hat; rw [← Ny388.out] at ho; have n0_ := Aside0.mk (Kd.V_afterv (ok := (fun k_ => (P1_ k_ ∨ w.heap.size ≤ k_) ∧ some k_ ≠ (u6 : Value).ownBlock ∧ k_ ≠ gb387)) (by (with_reducible repeat (first | apply Kd.V_alloc | apply Kd.V_drewN | apply Kd.V_drew)); exact Kd.V_mono HO_1.out (fun _ hk => ⟨⟨hk.1, ⟨hk.2.2.1, hk.2.2.2⟩⟩, hk.2.1⟩)) hg hat); have n1_ := Aside0.mk (Kd.N_afterv (ok := (fun k_ => (P1_ k_ ∨ w.heap.size ≤ k_) ∧ k_ ≠ gb387)) (by (with_reducible repeat (first | apply Kd.N_alloc | apply Kd.N_drewN | apply Kd.N_drew)); exact Kd.N_mono HO_6.out (fun _ hk => ⟨⟨hk.1, hk.2.2⟩, hk.2.1⟩)) hg hat); have n2_ := Aside0.mk (Kd.V_afterv (ok := (fun k_ => (P1_ k_ ∨ w.heap.size ≤ k_) ∧ some k_ ≠ (u6 : Value).ownBlock ∧ k_ ≠ gb387)) (by (with_reducible repeat (first | apply Kd.V_alloc | apply Kd.V_drewN | apply Kd.V_drew)); exact Kd.V_mono HL386_2.out (fun _ hk => ⟨⟨hk.1, ⟨hk.2.2.1, hk.2.2.2⟩⟩, hk.2.1⟩)) hg hat); have n3_ := Aside0.mk (Kd.V_afterv (ok := (fun k_ => (P1_ k_ ∨ w.heap.size ≤ k_) ∧ some k_ ≠ (u6 : Value).ownBlock ∧ k_ ≠ gb387)) (by (with_reducible repeat (first | apply Kd.V_alloc | apply Kd.V_drewN | apply Kd.V_drew)); exact Kd.V_mono HL386_3.out (fun _ hk => ⟨⟨hk.1, ⟨hk.2.2.1, hk.2.2.2⟩⟩, hk.2.1⟩)) hg hat); have n4_ := Aside0.mk (blk_grown (g := gb387) (o := .cells #[.int .i64 ((rd_T46 l1 x7_1).f0), .int .i64 ((rd_T46 l1 x7_1).f1), .slice A386_2 ((rd_T46 l1 x7_1).f2).length c386_2, .slice A386_3 ((rd_T46 l1 x7_1).f3).length c386_3] 46 (0, 0)) (by (with_reducible repeat (first | refine blk_drewN ?_ _ | refine blk_drew ?_ | refine blk_alloc ?_ _)); exact BK387.out) hg (Kd.N_ne HO_5.out BK387.out (by decide))); have n5_ := Aside0.mk (hb); have n6_ := Aside0.mk (ho); clear HO_1; clear HO_6; clear HL386_2; clear HL386_3; clear BK387; clear HB; clear HO_5; have HO_1 := n0_; have HO_6 := n1_; have HL386_2 := n2_; have HL386_3 := n3_; have BK387 := n4_; have HB := n5_; have HO390 := n6_; clear n0_ n1_ n2_ n3_ n4_ n5_ n6_; clear ho hb hg hat; obtain ⟨Ao19, co19, eo19⟩ := Kd.N_slice HO_6.out; subst eo19))
           have n0_ := Aside0.mk (Kd.V_drew HO_1.out)
           have n1_ := Aside0.mk (Kd.N_drew HO_6.out)
           have n2_ := Aside0.mk (Kd.V_drew HL386_2.out)
           have n3_ := Aside0.mk (Kd.V_drew HL386_3.out)
           have n4_ := Aside0.mk (Kd.N_drew HO390.out)
           have n5_ := Aside0.mk (blk_drew BK387.out)
           have n6_ := Aside0.mk (below_drew1 HB.out)
           clear HO_1
           clear HO_6
           clear HL386_2
           clear HL386_3
           clear HO390
           clear BK387
           clear HB
           have HO_1 := n0_
           have HO_6 := n1_
           have HL386_2 := n2_
           have HL386_3 := n3_
           have HO390 := n4_
           have BK387 := n5_
           have HB := n6_
           clear n0_ n1_ n2_ n3_ n4_ n5_ n6_
           refine start_ (n := 17) (S := fun w' => w'.cell? ⟨gb387, 0, none⟩ = some (.int .i64 ((rd_T46 l1 x7_1).f0)) ∧ w'.cell? ⟨gb387, 1, none⟩ = some (.int .i64 ((rd_T46 l1 x7_1).f1)) ∧ w'.cell? ⟨gb387, 2, none⟩ = some (.slice A386_2 ((rd_T46 l1 x7_1).f2).length c386_2) ∧ w'.cell? ⟨gb387, 3, none⟩ = some (.slice A386_3 ((rd_T46 l1 x7_1).f3).length c386_3)) (ds := []) (vb 0 17) (by kernel_rfl) rfl rfl ⟨(blk_cell BK387.out 0).trans rfl, (blk_cell BK387.out 1).trans rfl, (blk_cell BK387.out 2).trans rfl, (blk_cell BK387.out 3).trans rfl⟩ (fun hHeld => ?_); refine with_tabW forebearlaw05_DiffApplies.tab12 forebearlaw05_DiffApplies.bits12 (fun HT_ HW_ => ?_)
           generalize w18.drew = w20 at HO_1 HO_6 HL386_2 HL386_3 HO390 BK387 HB hHeld ⊢
           refine pure_ (i := 0) (N := some 42) (v := ?_) (a' := ?_) (vb 1 17) rfl rfl (any_of HT_.out (by kernel_rfl)) (fun _ _ _ h => h) (Or.inl ⟨by rfl, ?_⟩) ?_ ?_
           rotate_left
           ·intro w'
            go_simp
            with_reducible rfl
           rotate_left
           ·simp only [Act.put, List.setIfInBounds_toArray, List.set_cons_zero, List.set_cons_succ, i64_w, i32_w]
            rfl
           refine pure_ (i := 1) (N := some 43) (v := ?_) (a' := ?_) (vb 3 17) rfl rfl (any_of HT_.out (by kernel_rfl)) (fun _ _ _ h => h) (Or.inl ⟨by rfl, ?_⟩) ?_ ?_
           rotate_left
           ·intro w'
            go_simp
            with_reducible rfl
           rotate_left
           ·simp only [Act.put, List.setIfInBounds_toArray, List.set_cons_zero, List.set_cons_succ, i64_w, i32_w]
            rfl
           refine pure_ (i := 3) (N := some 45) (v := ?_) (a' := ?_) (vb 11 17) rfl rfl (any_of HT_.out (by kernel_rfl)) (fun _ _ _ h => h) (Or.inl ⟨by rfl, ?_⟩) ?_ ?_
           rotate_left
           ·intro w'
            go_simp
            with_reducible rfl
           rotate_left
           ·simp only [Act.put, List.setIfInBounds_toArray, List.set_cons_zero, List.set_cons_succ, i64_w, i32_w]
            rfl
           refine pure_ (i := 6) (N := some 48) (v := ?_) (a' := ?_) (vb 75 17) rfl rfl (any_of HT_.out (by kernel_rfl)) (fun _ _ _ h => h) (Or.inl ⟨by rfl, ?_⟩) ?_ ?_
           rotate_left
           ·intro w'
            go_simp
            with_reducible rfl
           rotate_left
           ·simp only [Act.put, List.setIfInBounds_toArray, List.set_cons_zero, List.set_cons_succ, i64_w, i32_w]
            rfl
           refine pure_ (i := 10) (N := some 52) (v := ?_) (a' := ?_) (vb 1099 17) rfl rfl (any_of HT_.out (by kernel_rfl)) (fun _ _ _ h => h) (Or.inl ⟨by rfl, ?_⟩) ?_ ?_
           rotate_left
           ·intro w'
            go_simp
            with_reducible rfl
           rotate_left
           ·simp only [Act.put, List.setIfInBounds_toArray, List.set_cons_zero, List.set_cons_succ, i64_w, i32_w]
            rfl
           refine take_ (i := 2) (N := some 44) (v := ?_) (a' := ?_) (vb 1103 17) rfl rfl (take_ofW HT_.out HW_.out (by kernel_rfl)) (fun _ _ _ h => h) (Or.inl ⟨by rfl, ?_⟩) hHeld ?_ ?_
           rotate_left
           ·rintro w' ⟨s0, s1, s2, s3⟩
            go_simp
            with_reducible rfl
           rotate_left
           ·simp only [Act.put, List.setIfInBounds_toArray, List.set_cons_zero, List.set_cons_succ, i64_w, i32_w]
            rfl
           refine take_ (i := 4) (N := some 46) (v := ?_) (a' := ?_) (vb 1119 17) rfl rfl (take_ofW HT_.out HW_.out (by kernel_rfl)) (fun _ _ _ h => h) (Or.inl ⟨by rfl, ?_⟩) hHeld ?_ ?_
           rotate_left
           ·rintro w' ⟨s0, s1, s2, s3⟩
            go_simp
            with_reducible rfl
           rotate_left
           ·simp only [Act.put, List.setIfInBounds_toArray, List.set_cons_zero, List.set_cons_succ, i64_w, i32_w]
            rfl
           refine take_ (i := 7) (N := some 49) (v := ?_) (a' := ?_) (vb 1247 17) rfl rfl (take_ofW HT_.out HW_.out (by kernel_rfl)) (fun _ _ _ h => h) (Or.inl ⟨by rfl, ?_⟩) hHeld ?_ ?_
           rotate_left
           ·rintro w' ⟨s0, s1, s2, s3⟩
            go_simp
            with_reducible rfl
           rotate_left
           ·simp only [Act.put, List.setIfInBounds_toArray, List.set_cons_zero, List.set_cons_succ, i64_w, i32_w]
            rfl
           refine take_ (i := 11) (N := some 53) (v := ?_) (a' := ?_) (vb 3295 17) rfl rfl (take_ofW HT_.out HW_.out (by kernel_rfl)) (fun _ _ _ h => h) (Or.inl ⟨by rfl, ?_⟩) hHeld ?_ ?_
           rotate_left
           ·rintro w' ⟨s0, s1, s2, s3⟩
            go_simp
            with_reducible rfl
           rotate_left
           ·simp only [Act.put, List.setIfInBounds_toArray, List.set_cons_zero, List.set_cons_succ, i64_w, i32_w]
            rfl
           refine join_ (σ := Value × Value × Value) 5 (vb 4095 17) (fun s_ => [(47, s_.1), (50, s_.2.1), (51, s_.2.2)]) (fun s_ w' => (w'.cell? ⟨gb387, 0, none⟩ = some (.int .i64 ((rd_T46 l1 x7_1).f0)) ∧ w'.cell? ⟨gb387, 1, none⟩ = some (.int .i64 ((rd_T46 l1 x7_1).f1)) ∧ w'.cell? ⟨gb387, 2, none⟩ = some (.slice A386_2 ((rd_T46 l1 x7_1).f2).length c386_2) ∧ w'.cell? ⟨gb387, 3, none⟩ = some (.slice A386_3 ((rd_T46 l1 x7_1).f3).length c386_3)) ∧ (Kd.V Kd.string 9 w' w.heap.size (fun k_ => (P1_ k_ ∨ w.heap.size ≤ k_) ∧ some k_ ≠ (v389 : Value).ownBlock ∧ some k_ ≠ (s_.2.1 : Value).ownBlock ∧ some k_ ≠ (s_.2.2 : Value).ownBlock ∧ some k_ ≠ (.slice Ao19 x6_1.length co19 : Value).ownBlock ∧ k_ ≠ gb387) (.slice A386_2 ((rd_T46 l1 x7_1).f2).length c386_2) ((rd_T46 l1 x7_1).f2)) ∧ (Kd.V Kd.string 9 w' w.heap.size (fun k_ => (P1_ k_ ∨ w.heap.size ≤ k_) ∧ some k_ ≠ (v389 : Value).ownBlock ∧ some k_ ≠ (s_.2.1 : Value).ownBlock ∧ some k_ ≠ (s_.2.2 : Value).ownBlock ∧ some k_ ≠ (.slice Ao19 x6_1.length co19 : Value).ownBlock ∧ k_ ≠ gb387) (.slice A386_3 ((rd_T46 l1 x7_1).f3).length c386_3) ((rd_T46 l1 x7_1).f3)) ∧ (Kd.N k47 47 w' w.heap.size (fun k_ => (P1_ k_ ∨ w.heap.size ≤ k_) ∧ some k_ ≠ (s_.2.1 : Value).ownBlock ∧ some k_ ≠ (s_.2.2 : Value).ownBlock ∧ some k_ ≠ (.slice Ao19 x6_1.length co19 : Value).ownBlock ∧ k_ ≠ gb387) v389 y388) ∧ (Kd.R Kd.string 9 w' w.heap.size (fun k_ => (w.heap.size ≤ k_) ∧ some k_ ≠ (s_.2.2 : Value).ownBlock) s_.2.1 y394) ∧ (Kd.R Kd.string 9 w' w.heap.size (fun k_ => (w.heap.size ≤ k_) ∧ some k_ ≠ (s_.2.1 : Value).ownBlock) s_.2.2 y397) ∧ (Kd.V k46 46 w' w.heap.size (fun k_ => (P1_ k_ ∨ w.heap.size ≤ k_) ∧ some k_ ≠ (v389 : Value).ownBlock ∧ some k_ ≠ (s_.2.1 : Value).ownBlock ∧ some k_ ≠ (s_.2.2 : Value).ownBlock ∧ some k_ ≠ (.slice Ao19 x6_1.length co19 : Value).ownBlock ∧ k_ ≠ gb387) (.slice (some ad386) l1.length c1) l1) ∧ (Kd.N k46 46 w' w.heap.size (fun k_ => (P1_ k_ ∨ w.heap.size ≤ k_) ∧ some k_ ≠ (v389 : Value).ownBlock ∧ some k_ ≠ (s_.2.1 : Value).ownBlock ∧ some k_ ≠ (s_.2.2 : Value).ownBlock ∧ k_ ≠ gb387) (.slice Ao19 x6_1.length co19) x6_1) ∧ (w'.heap[gb387]? = some (.cells #[.int .i64 ((rd_T46 l1 x7_1).f0), .int .i64 ((rd_T46 l1 x7_1).f1), .slice A386_2 ((rd_T46 l1 x7_1).f2).length c386_2, .slice A386_3 ((rd_T46 l1 x7_1).f3).length c386_3] 46 (0, 0))) ∧ (Below w.heap.size w w')) ?_ ?_
           rotate_left
           ·intro hCont
            refine two_ (i := 5) (j := 9) (Ni := some 47) (Nj := some 51) (vb 3327 17) (vb 3807 17) rfl rfl rfl rfl (two_of HT_.out (by kernel_rfl)) (by decide) (by decide) (fun K hK => ?_) (fun K hK => ?_)
            ·skip
             refine Kd.R_lit_step Kd.string _ 9 ?hg (N := 47) ?hd (xs := ([] : List ByteArray)) (inner := []) (ok := fun _ => True) (okp := fun _ => True) ?hr ?hp (fun _ hk => hk) trivial (Below.refl _ _) (Nat.le_refl _) (by simp) ?_; (case hd => rfl); (case hg => rfl); (case hr => first | (go_simp; done) | (go_simp; rfl)); (case hp => exact (Reps.none _ _))
             intro v392 w21 ho22 hb hg_ hnew_
             clear hg_ hnew_
             (first | rw [← Ny391.out] at ho22 | (simp only [Int.reduceToNat] at ho22; rw [← Ny391.out] at ho22))
             have n0_ := Aside0.mk (Kd.V_elder' (by (with_reducible repeat (first | apply Kd.V_alloc | apply Kd.V_drewN | apply Kd.V_drew)); exact HO_1.out) (Kd.R_base ho22) hb)
             have n1_ := Aside0.mk (Kd.N_elder' (by (with_reducible repeat (first | apply Kd.N_alloc | apply Kd.N_drewN | apply Kd.N_drew)); exact HO_6.out) (Kd.R_base ho22) hb)
             have n2_ := Aside0.mk (Kd.V_elder' (by (with_reducible repeat (first | apply Kd.V_alloc | apply Kd.V_drewN | apply Kd.V_drew)); exact HL386_2.out) (Kd.R_base ho22) hb)
             have n3_ := Aside0.mk (Kd.V_elder' (by (with_reducible repeat (first | apply Kd.V_alloc | apply Kd.V_drewN | apply Kd.V_drew)); exact HL386_3.out) (Kd.R_base ho22) hb)
             have n4_ := Aside0.mk (Kd.N_elder' (by (with_reducible repeat (first | apply Kd.N_alloc | apply Kd.N_drewN | apply Kd.N_drew)); exact HO390.out) (Kd.R_base ho22) hb)
             have n5_ := Aside0.mk (Kd.R_lower (Kd.R_newM (M := fun k_ => (w.heap.size ≤ k_)) ho22 (below_size (by repeat (first | (with_reducible first | exact HB.out | apply below_alloc | apply pw_below_drewN | apply below_drew1 | refine below_set ?_ GE387.out) | exact HB.out))) (fun k_ h_ => h_)) (below_size (by repeat (first | (with_reducible first | exact HB.out | apply below_alloc | apply pw_below_drewN | apply below_drew1 | refine below_set ?_ GE387.out) | exact HB.out))))
             have n6_ := Aside0.mk (blk_below (g := gb387) (o := .cells #[.int .i64 ((rd_T46 l1 x7_1).f0), .int .i64 ((rd_T46 l1 x7_1).f1), .slice A386_2 ((rd_T46 l1 x7_1).f2).length c386_2, .slice A386_3 ((rd_T46 l1 x7_1).f3).length c386_3] 46 (0, 0)) (by (with_reducible repeat (first | refine blk_drewN ?_ _ | refine blk_drew ?_ | refine blk_alloc ?_ _)); exact BK387.out) hb)
             have n7_ := Aside0.mk (below_step (by repeat (first | (with_reducible first | exact HB.out | apply below_alloc | apply pw_below_drewN | apply below_drew1 | refine below_set ?_ GE387.out) | exact HB.out)) hb)
             clear HO_1
             clear HO_6
             clear HL386_2
             clear HL386_3
             clear HO390
             clear BK387
             clear HB
             have HO_1 := n0_
             have HO_6 := n1_
             have HL386_2 := n2_
             have HL386_3 := n3_
             have HO390 := n4_
             have HO393 := n5_
             have BK387 := n6_
             have HB := n7_
             clear n0_ n1_ n2_ n3_ n4_ n5_ n6_ n7_
             clear hb ho22
             refine hK.out _ _ ⟨(blk_cell BK387.out 0).trans rfl, (blk_cell BK387.out 1).trans rfl, (blk_cell BK387.out 2).trans rfl, (blk_cell BK387.out 3).trans rfl⟩ (fun hHeld => ?_)
             clear hK K
             refine norm_ (a' := ?_) ?_ ?_
             rotate_left
             ·show Act.put _ (some 47) _ = _
              simp only [Act.put, List.setIfInBounds_toArray, List.set_cons_zero, List.set_cons_succ, i64_w, i32_w]
              rfl
             refine two_ (i := 8) (j := 9) (Ni := some 50) (Nj := some 51) (vb 3583 17) (vb 3839 17) rfl rfl rfl rfl (two_of HT_.out (by kernel_rfl)) (by decide) (by decide) (fun K hK => ?_) (fun K hK => ?_)
             ·skip
              refine Kd.R_append_rows_step Kd.string (w0 := w) w.heap.size (by rfl) (.tmp 47) (.tmp 49) 22 9 (.string ⟨#[]⟩) 16 rfl Try.underlying22 info9 rfl (by decide) (by omega) v392 y391 ((rd_T46 l1 x7_1).f2) _ _ _ (fun k_ => (w.heap.size ≤ k_)) (fun _ => False) rfl rfl ?aO ?aR (fun _ _ h => h) (fun _ h => h.elim) ?aF ?aB ?aS ?aL ?_
              (case aR => repeat (first | exact ((Kd.V_reads' (by (with_reducible repeat (first | apply Kd.V_alloc | apply Kd.V_drewN | apply Kd.V_drew)); exact HL386_2.out)).2.2) | (with_reducible refine Kd.C_alloc ?_ _) | (with_reducible refine Kd.C_drewN ?_ _) | (with_reducible refine Kd.C_drew ?_)))
              (case aB => exact (by repeat (first | (with_reducible first | exact HB.out | apply below_alloc | apply pw_below_drewN | apply below_drew1 | refine below_set ?_ GE387.out) | exact HB.out)))
              (case aF => exact (fun k_ hk => (Nat.le_trans (below_size (by repeat (first | (with_reducible first | exact HB.out | apply below_alloc | apply pw_below_drewN | apply below_drew1 | refine below_set ?_ GE387.out) | exact HB.out))) hk)))
              (case aO => exact (by (with_reducible repeat (first | apply Kd.R_alloc | apply Kd.R_drewN | apply Kd.R_drew)); exact Kd.R_mono HO393.out (fun _ hk => hk.1)))
              (case aS => exact (below_size (by repeat (first | (with_reducible first | exact HB.out | apply below_alloc | apply pw_below_drewN | apply below_drew1 | refine below_set ?_ GE387.out) | exact HB.out))))
              (case aL => have := LMc11.out; omega)
              intro v395 w23 ho hb hg hat
              rw [← Ny394.out] at ho
              have n0_ := Aside0.mk (Kd.V_afterv (ok := (fun k_ => (P1_ k_ ∨ w.heap.size ≤ k_) ∧ some k_ ≠ (.slice Ao19 x6_1.length co19 : Value).ownBlock ∧ some k_ ≠ (v389 : Value).ownBlock ∧ k_ ≠ gb387)) (by (with_reducible repeat (first | apply Kd.V_alloc | apply Kd.V_drewN | apply Kd.V_drew)); exact Kd.V_mono HO_1.out (fun _ hk => ⟨⟨hk.1.1.1, ⟨hk.1.1.2.1, ⟨hk.1.2, hk.1.1.2.2⟩⟩⟩, hk.2⟩)) hg hat)
              have n1_ := Aside0.mk (Kd.N_afterv (ok := (fun k_ => (P1_ k_ ∨ w.heap.size ≤ k_) ∧ some k_ ≠ (v389 : Value).ownBlock ∧ k_ ≠ gb387)) (by (with_reducible repeat (first | apply Kd.N_alloc | apply Kd.N_drewN | apply Kd.N_drew)); exact Kd.N_mono HO_6.out (fun _ hk => ⟨⟨hk.1.1.1, ⟨hk.1.2, hk.1.1.2⟩⟩, hk.2⟩)) hg hat)
              have n2_ := Aside0.mk (Kd.V_afterv (ok := (fun k_ => (P1_ k_ ∨ w.heap.size ≤ k_) ∧ some k_ ≠ (.slice Ao19 x6_1.length co19 : Value).ownBlock ∧ some k_ ≠ (v389 : Value).ownBlock ∧ k_ ≠ gb387)) (by (with_reducible repeat (first | apply Kd.V_alloc | apply Kd.V_drewN | apply Kd.V_drew)); exact Kd.V_mono HL386_2.out (fun _ hk => ⟨⟨hk.1.1.1, ⟨hk.1.1.2.1, ⟨hk.1.2, hk.1.1.2.2⟩⟩⟩, hk.2⟩)) hg hat)
              have n3_ := Aside0.mk (Kd.V_afterv (ok := (fun k_ => (P1_ k_ ∨ w.heap.size ≤ k_) ∧ some k_ ≠ (.slice Ao19 x6_1.length co19 : Value).ownBlock ∧ some k_ ≠ (v389 : Value).ownBlock ∧ k_ ≠ gb387)) (by (with_reducible repeat (first | apply Kd.V_alloc | apply Kd.V_drewN | apply Kd.V_drew)); exact Kd.V_mono HL386_3.out (fun _ hk => ⟨⟨hk.1.1.1, ⟨hk.1.1.2.1, ⟨hk.1.2, hk.1.1.2.2⟩⟩⟩, hk.2⟩)) hg hat)
              have n4_ := Aside0.mk (blk_grown (g := gb387) (o := .cells #[.int .i64 ((rd_T46 l1 x7_1).f0), .int .i64 ((rd_T46 l1 x7_1).f1), .slice A386_2 ((rd_T46 l1 x7_1).f2).length c386_2, .slice A386_3 ((rd_T46 l1 x7_1).f3).length c386_3] 46 (0, 0)) (by (with_reducible repeat (first | refine blk_drewN ?_ _ | refine blk_drew ?_ | refine blk_alloc ?_ _)); exact BK387.out) hg (Kd.R_ne HO393.out BK387.out (by decide)))
              have n5_ := Aside0.mk (Kd.N_afterv (ok := (fun k_ => (P1_ k_ ∨ w.heap.size ≤ k_) ∧ some k_ ≠ (.slice Ao19 x6_1.length co19 : Value).ownBlock ∧ k_ ≠ gb387)) (by (with_reducible repeat (first | apply Kd.N_alloc | apply Kd.N_drewN | apply Kd.N_drew)); exact HO390.out) hg hat)
              have n6_ := Aside0.mk (hb)
              have n7_ := Aside0.mk (ho)
              clear HO_1
              clear HO_6
              clear HL386_2
              clear HL386_3
              clear BK387
              clear HO390
              clear HB
              clear HO393
              have HO_1 := n0_
              have HO_6 := n1_
              have HL386_2 := n2_
              have HL386_3 := n3_
              have BK387 := n4_
              have HO390 := n5_
              have HB := n6_
              have HO396 := n7_
              clear n0_ n1_ n2_ n3_ n4_ n5_ n6_ n7_
              clear ho hb hg hat
              refine hK.out _ _ ⟨(blk_cell BK387.out 0).trans rfl, (blk_cell BK387.out 1).trans rfl, (blk_cell BK387.out 2).trans rfl, (blk_cell BK387.out 3).trans rfl⟩ (fun hHeld => ?_)
              clear hK K
              refine norm_ (a' := ?_) ?_ ?_
              rotate_left
              ·show Act.put _ (some 50) _ = _
               simp only [Act.put, List.setIfInBounds_toArray, List.set_cons_zero, List.set_cons_succ, i64_w, i32_w]
               rfl
              refine one_ (i := 9) (N := some 51) (vb 4095 17) rfl rfl (one_of HT_.out (by kernel_rfl)) (by decide) (fun K hK => ?_)
              refine Kd.R_lit_step Kd.string _ 9 ?hg (N := 51) ?hd (xs := ([] : List ByteArray)) (inner := []) (ok := fun _ => True) (okp := fun _ => True) ?hr ?hp (fun _ hk => hk) trivial (Below.refl _ _) (Nat.le_refl _) (by simp) ?_; (case hd => rfl); (case hg => rfl); (case hr => first | (go_simp; done) | (go_simp; rfl)); (case hp => exact (Reps.none _ _))
              intro v398 w24 ho25 hb hg_ hnew_
              clear hg_ hnew_
              (first | rw [← Ny397.out] at ho25 | (simp only [Int.reduceToNat] at ho25; rw [← Ny397.out] at ho25))
              have n0_ := Aside0.mk (Kd.V_elder' (by (with_reducible repeat (first | apply Kd.V_alloc | apply Kd.V_drewN | apply Kd.V_drew)); exact HO_1.out) (Kd.R_base ho25) hb)
              have n1_ := Aside0.mk (Kd.N_elder' (by (with_reducible repeat (first | apply Kd.N_alloc | apply Kd.N_drewN | apply Kd.N_drew)); exact HO_6.out) (Kd.R_base ho25) hb)
              have n2_ := Aside0.mk (Kd.V_elder' (by (with_reducible repeat (first | apply Kd.V_alloc | apply Kd.V_drewN | apply Kd.V_drew)); exact HL386_2.out) (Kd.R_base ho25) hb)
              have n3_ := Aside0.mk (Kd.V_elder' (by (with_reducible repeat (first | apply Kd.V_alloc | apply Kd.V_drewN | apply Kd.V_drew)); exact HL386_3.out) (Kd.R_base ho25) hb)
              have n4_ := Aside0.mk (Kd.N_elder' (by (with_reducible repeat (first | apply Kd.N_alloc | apply Kd.N_drewN | apply Kd.N_drew)); exact HO390.out) (Kd.R_base ho25) hb)
              have n5_ := Aside0.mk (Kd.R_elder' (by (with_reducible repeat (first | apply Kd.R_alloc | apply Kd.R_drewN | apply Kd.R_drew)); exact HO396.out) (Kd.R_base ho25) hb)
              have n6_ := Aside0.mk (Kd.R_lower (Kd.R_new' (Kd.R_newM (M := fun k_ => (w.heap.size ≤ k_)) ho25 (below_size (by repeat (first | (with_reducible first | exact HB.out | apply below_alloc | apply pw_below_drewN | apply below_drew1 | refine below_set ?_ GE387.out) | exact HB.out))) (fun k_ h_ => h_)) (Kd.R_lt (by (with_reducible repeat (first | apply Kd.R_alloc | apply Kd.R_drewN | apply Kd.R_drew)); exact HO396.out))) (below_size (by repeat (first | (with_reducible first | exact HB.out | apply below_alloc | apply pw_below_drewN | apply below_drew1 | refine below_set ?_ GE387.out) | exact HB.out))))
              have n7_ := Aside0.mk (blk_below (g := gb387) (o := .cells #[.int .i64 ((rd_T46 l1 x7_1).f0), .int .i64 ((rd_T46 l1 x7_1).f1), .slice A386_2 ((rd_T46 l1 x7_1).f2).length c386_2, .slice A386_3 ((rd_T46 l1 x7_1).f3).length c386_3] 46 (0, 0)) (by (with_reducible repeat (first | refine blk_drewN ?_ _ | refine blk_drew ?_ | refine blk_alloc ?_ _)); exact BK387.out) hb)
              have n8_ := Aside0.mk (below_step (by repeat (first | (with_reducible first | exact HB.out | apply below_alloc | apply pw_below_drewN | apply below_drew1 | refine below_set ?_ GE387.out) | exact HB.out)) hb)
              clear HO_1
              clear HO_6
              clear HL386_2
              clear HL386_3
              clear HO390
              clear HO396
              clear BK387
              clear HB
              have HO_1 := n0_
              have HO_6 := n1_
              have HL386_2 := n2_
              have HL386_3 := n3_
              have HO390 := n4_
              have HO396 := n5_
              have HO399 := n6_
              have BK387 := n7_
              have HB := n8_
              clear n0_ n1_ n2_ n3_ n4_ n5_ n6_ n7_ n8_
              clear hb ho25
              refine hK.out _ _ ⟨(blk_cell BK387.out 0).trans rfl, (blk_cell BK387.out 1).trans rfl, (blk_cell BK387.out 2).trans rfl, (blk_cell BK387.out 3).trans rfl⟩ (fun hHeld => ?_)
              clear hK K
              refine norm_ (a' := ?_) ?_ ?_
              rotate_left
              ·show Act.put _ (some 51) _ = _
               simp only [Act.put, List.setIfInBounds_toArray, List.set_cons_zero, List.set_cons_succ, i64_w, i32_w]
               rfl
              exact norm_ (by simp only [putAll, Act.put, List.setIfInBounds_toArray, List.set_cons_zero, List.set_cons_succ]) (hCont (v392, v395, v398) _ ⟨hHeld, (by (with_reducible repeat (first | apply Kd.V_alloc | apply Kd.V_drewN | apply Kd.V_drew)); exact Kd.V_mono HL386_2.out (fun _ hk => ⟨hk.1.1.1, ⟨hk.1.1.2.2.1, ⟨hk.1.2, ⟨hk.2, ⟨hk.1.1.2.1, hk.1.1.2.2.2⟩⟩⟩⟩⟩)), (by (with_reducible repeat (first | apply Kd.V_alloc | apply Kd.V_drewN | apply Kd.V_drew)); exact Kd.V_mono HL386_3.out (fun _ hk => ⟨hk.1.1.1, ⟨hk.1.1.2.2.1, ⟨hk.1.2, ⟨hk.2, ⟨hk.1.1.2.1, hk.1.1.2.2.2⟩⟩⟩⟩⟩)), (by (with_reducible repeat (first | apply Kd.N_alloc | apply Kd.N_drewN | apply Kd.N_drew)); exact Kd.N_mono HO390.out (fun _ hk => ⟨hk.1.1.1, ⟨hk.1.2, ⟨hk.2, ⟨hk.1.1.2.1, hk.1.1.2.2⟩⟩⟩⟩)), (by (with_reducible repeat (first | apply Kd.R_alloc | apply Kd.R_drewN | apply Kd.R_drew)); exact HO396.out), (by (with_reducible repeat (first | apply Kd.R_alloc | apply Kd.R_drewN | apply Kd.R_drew)); exact Kd.R_mono HO399.out (fun _ hk => ⟨hk.1.1, hk.2⟩)), (by (with_reducible repeat (first | apply Kd.V_alloc | apply Kd.V_drewN | apply Kd.V_drew)); exact Kd.V_mono HO_1.out (fun _ hk => ⟨hk.1.1.1, ⟨hk.1.1.2.2.1, ⟨hk.1.2, ⟨hk.2, ⟨hk.1.1.2.1, hk.1.1.2.2.2⟩⟩⟩⟩⟩)), (by (with_reducible repeat (first | apply Kd.N_alloc | apply Kd.N_drewN | apply Kd.N_drew)); exact Kd.N_mono HO_6.out (fun _ hk => ⟨hk.1.1.1, ⟨hk.1.1.2.1, ⟨hk.1.2, ⟨hk.2, hk.1.1.2.2⟩⟩⟩⟩)), (by (with_reducible repeat (first | refine blk_drewN ?_ _ | refine blk_drew ?_ | refine blk_alloc ?_ _)); exact BK387.out), (by repeat (first | (with_reducible first | exact HB.out | apply below_alloc | apply pw_below_drewN | apply below_drew1 | refine below_set ?_ GE387.out) | exact HB.out))⟩)
             ·skip
              refine Kd.R_lit_step Kd.string _ 9 ?hg (N := 51) ?hd (xs := ([] : List ByteArray)) (inner := []) (ok := fun _ => True) (okp := fun _ => True) ?hr ?hp (fun _ hk => hk) trivial (Below.refl _ _) (Nat.le_refl _) (by simp) ?_; (case hd => rfl); (case hg => rfl); (case hr => first | (go_simp; done) | (go_simp; rfl)); (case hp => exact (Reps.none _ _))
              intro v398 w23 ho24 hb hg_ hnew_
              clear hg_ hnew_
              (first | rw [← Ny397.out] at ho24 | (simp only [Int.reduceToNat] at ho24; rw [← Ny397.out] at ho24))
              have n0_ := Aside0.mk (Kd.V_elder' (by (with_reducible repeat (first | apply Kd.V_alloc | apply Kd.V_drewN | apply Kd.V_drew)); exact HO_1.out) (Kd.R_base ho24) hb)
              have n1_ := Aside0.mk (Kd.N_elder' (by (with_reducible repeat (first | apply Kd.N_alloc | apply Kd.N_drewN | apply Kd.N_drew)); exact HO_6.out) (Kd.R_base ho24) hb)
              have n2_ := Aside0.mk (Kd.V_elder' (by (with_reducible repeat (first | apply Kd.V_alloc | apply Kd.V_drewN | apply Kd.V_drew)); exact HL386_2.out) (Kd.R_base ho24) hb)
              have n3_ := Aside0.mk (Kd.V_elder' (by (with_reducible repeat (first | apply Kd.V_alloc | apply Kd.V_drewN | apply Kd.V_drew)); exact HL386_3.out) (Kd.R_base ho24) hb)
              have n4_ := Aside0.mk (Kd.N_elder' (by (with_reducible repeat (first | apply Kd.N_alloc | apply Kd.N_drewN | apply Kd.N_drew)); exact HO390.out) (Kd.R_base ho24) hb)
              have n5_ := Aside0.mk (Kd.R_elder' (by (with_reducible repeat (first | apply Kd.R_alloc | apply Kd.R_drewN | apply Kd.R_drew)); exact HO393.out) (Kd.R_base ho24) hb)
              have n6_ := Aside0.mk (Kd.R_lower (Kd.R_new' (Kd.R_newM (M := fun k_ => (w.heap.size ≤ k_)) ho24 (below_size (by repeat (first | (with_reducible first | exact HB.out | apply below_alloc | apply pw_below_drewN | apply below_drew1 | refine below_set ?_ GE387.out) | exact HB.out))) (fun k_ h_ => h_)) (Kd.R_lt (by (with_reducible repeat (first | apply Kd.R_alloc | apply Kd.R_drewN | apply Kd.R_drew)); exact HO393.out))) (below_size (by repeat (first | (with_reducible first | exact HB.out | apply below_alloc | apply pw_below_drewN | apply below_drew1 | refine below_set ?_ GE387.out) | exact HB.out))))
              have n7_ := Aside0.mk (blk_below (g := gb387) (o := .cells #[.int .i64 ((rd_T46 l1 x7_1).f0), .int .i64 ((rd_T46 l1 x7_1).f1), .slice A386_2 ((rd_T46 l1 x7_1).f2).length c386_2, .slice A386_3 ((rd_T46 l1 x7_1).f3).length c386_3] 46 (0, 0)) (by (with_reducible repeat (first | refine blk_drewN ?_ _ | refine blk_drew ?_ | refine blk_alloc ?_ _)); exact BK387.out) hb)
              have n8_ := Aside0.mk (below_step (by repeat (first | (with_reducible first | exact HB.out | apply below_alloc | apply pw_below_drewN | apply below_drew1 | refine below_set ?_ GE387.out) | exact HB.out)) hb)
              clear HO_1
              clear HO_6
              clear HL386_2
              clear HL386_3
              clear HO390
              clear HO393
              clear BK387
              clear HB
              have HO_1 := n0_
              have HO_6 := n1_
              have HL386_2 := n2_
              have HL386_3 := n3_
              have HO390 := n4_
              have HO393 := n5_
              have HO399 := n6_
              have BK387 := n7_
              have HB := n8_
              clear n0_ n1_ n2_ n3_ n4_ n5_ n6_ n7_ n8_
              clear hb ho24
              refine hK.out _ _ ⟨(blk_cell BK387.out 0).trans rfl, (blk_cell BK387.out 1).trans rfl, (blk_cell BK387.out 2).trans rfl, (blk_cell BK387.out 3).trans rfl⟩ (fun hHeld => ?_)
              clear hK K
              refine norm_ (a' := ?_) ?_ ?_
              rotate_left
              ·show Act.put _ (some 51) _ = _
               simp only [Act.put, List.setIfInBounds_toArray, List.set_cons_zero, List.set_cons_succ, i64_w, i32_w]
               rfl
              refine one_ (i := 8) (N := some 50) (vb 4095 17) rfl rfl (one_of HT_.out (by kernel_rfl)) (by decide) (fun K hK => ?_)
              refine Kd.R_append_rows_step Kd.string (w0 := w) w.heap.size (by rfl) (.tmp 47) (.tmp 49) 22 9 (.string ⟨#[]⟩) 16 rfl Try.underlying22 info9 rfl (by decide) (by omega) v392 y391 ((rd_T46 l1 x7_1).f2) _ _ _ (fun k_ => (w.heap.size ≤ k_) ∧ some k_ ≠ (v398 : Value).ownBlock) (fun _ => False) rfl rfl ?aO ?aR (fun _ _ h => h) (fun _ h => h.elim) ?aF ?aB ?aS ?aL ?_
              (case aR => repeat (first | exact ((Kd.V_reads' (by (with_reducible repeat (first | apply Kd.V_alloc | apply Kd.V_drewN | apply Kd.V_drew)); exact HL386_2.out)).2.2) | (with_reducible refine Kd.C_alloc ?_ _) | (with_reducible refine Kd.C_drewN ?_ _) | (with_reducible refine Kd.C_drew ?_)))
              (case aB => exact (by repeat (first | (with_reducible first | exact HB.out | apply below_alloc | apply pw_below_drewN | apply below_drew1 | refine below_set ?_ GE387.out) | exact HB.out)))
              (case aF => exact (fun k_ hk => ⟨(Nat.le_trans (below_size (by repeat (first | (with_reducible first | exact HB.out | apply below_alloc | apply pw_below_drewN | apply below_drew1 | refine below_set ?_ GE387.out) | exact HB.out))) hk), Kd.fresh' (Kd.R_lt (by (with_reducible repeat (first | apply Kd.R_alloc | apply Kd.R_drewN | apply Kd.R_drew)); exact HO399.out)) k_ hk⟩))
              (case aO => exact (by (with_reducible repeat (first | apply Kd.R_alloc | apply Kd.R_drewN | apply Kd.R_drew)); exact Kd.R_mono HO393.out (fun _ hk => ⟨hk.1.1, hk.2⟩)))
              (case aS => exact (below_size (by repeat (first | (with_reducible first | exact HB.out | apply below_alloc | apply pw_below_drewN | apply below_drew1 | refine below_set ?_ GE387.out) | exact HB.out))))
              (case aL => have := LMc11.out; omega)
              intro v395 w25 ho hb hg hat
              rw [← Ny394.out] at ho
              have n0_ := Aside0.mk (Kd.V_afterv (ok := (fun k_ => (P1_ k_ ∨ w.heap.size ≤ k_) ∧ some k_ ≠ (.slice Ao19 x6_1.length co19 : Value).ownBlock ∧ some k_ ≠ (v389 : Value).ownBlock ∧ some k_ ≠ (v398 : Value).ownBlock ∧ k_ ≠ gb387)) (by (with_reducible repeat (first | apply Kd.V_alloc | apply Kd.V_drewN | apply Kd.V_drew)); exact Kd.V_mono HO_1.out (fun _ hk => ⟨⟨hk.1.1.1.1, ⟨hk.1.1.1.2.1, ⟨hk.1.1.2, ⟨hk.2, hk.1.1.1.2.2⟩⟩⟩⟩, hk.1.2⟩)) hg hat)
              have n1_ := Aside0.mk (Kd.N_afterv (ok := (fun k_ => (P1_ k_ ∨ w.heap.size ≤ k_) ∧ some k_ ≠ (v389 : Value).ownBlock ∧ some k_ ≠ (v398 : Value).ownBlock ∧ k_ ≠ gb387)) (by (with_reducible repeat (first | apply Kd.N_alloc | apply Kd.N_drewN | apply Kd.N_drew)); exact Kd.N_mono HO_6.out (fun _ hk => ⟨⟨hk.1.1.1.1, ⟨hk.1.1.2, ⟨hk.2, hk.1.1.1.2⟩⟩⟩, hk.1.2⟩)) hg hat)
              have n2_ := Aside0.mk (Kd.V_afterv (ok := (fun k_ => (P1_ k_ ∨ w.heap.size ≤ k_) ∧ some k_ ≠ (.slice Ao19 x6_1.length co19 : Value).ownBlock ∧ some k_ ≠ (v389 : Value).ownBlock ∧ some k_ ≠ (v398 : Value).ownBlock ∧ k_ ≠ gb387)) (by (with_reducible repeat (first | apply Kd.V_alloc | apply Kd.V_drewN | apply Kd.V_drew)); exact Kd.V_mono HL386_2.out (fun _ hk => ⟨⟨hk.1.1.1.1, ⟨hk.1.1.1.2.1, ⟨hk.1.1.2, ⟨hk.2, hk.1.1.1.2.2⟩⟩⟩⟩, hk.1.2⟩)) hg hat)
              have n3_ := Aside0.mk (Kd.V_afterv (ok := (fun k_ => (P1_ k_ ∨ w.heap.size ≤ k_) ∧ some k_ ≠ (.slice Ao19 x6_1.length co19 : Value).ownBlock ∧ some k_ ≠ (v389 : Value).ownBlock ∧ some k_ ≠ (v398 : Value).ownBlock ∧ k_ ≠ gb387)) (by (with_reducible repeat (first | apply Kd.V_alloc | apply Kd.V_drewN | apply Kd.V_drew)); exact Kd.V_mono HL386_3.out (fun _ hk => ⟨⟨hk.1.1.1.1, ⟨hk.1.1.1.2.1, ⟨hk.1.1.2, ⟨hk.2, hk.1.1.1.2.2⟩⟩⟩⟩, hk.1.2⟩)) hg hat)
              have n4_ := Aside0.mk (blk_grown (g := gb387) (o := .cells #[.int .i64 ((rd_T46 l1 x7_1).f0), .int .i64 ((rd_T46 l1 x7_1).f1), .slice A386_2 ((rd_T46 l1 x7_1).f2).length c386_2, .slice A386_3 ((rd_T46 l1 x7_1).f3).length c386_3] 46 (0, 0)) (by (with_reducible repeat (first | refine blk_drewN ?_ _ | refine blk_drew ?_ | refine blk_alloc ?_ _)); exact BK387.out) hg (Kd.R_ne HO393.out BK387.out (by decide)))
              have n5_ := Aside0.mk (Kd.N_afterv (ok := (fun k_ => (P1_ k_ ∨ w.heap.size ≤ k_) ∧ some k_ ≠ (.slice Ao19 x6_1.length co19 : Value).ownBlock ∧ some k_ ≠ (v398 : Value).ownBlock ∧ k_ ≠ gb387)) (by (with_reducible repeat (first | apply Kd.N_alloc | apply Kd.N_drewN | apply Kd.N_drew)); exact Kd.N_mono HO390.out (fun _ hk => ⟨⟨hk.1.1.1, ⟨hk.1.1.2.1, ⟨hk.2, hk.1.1.2.2⟩⟩⟩, hk.1.2⟩)) hg hat)
              have n6_ := Aside0.mk (Kd.R_after (ok := (fun k_ => (w.heap.size ≤ k_))) (by (with_reducible repeat (first | apply Kd.R_alloc | apply Kd.R_drewN | apply Kd.R_drew)); exact Kd.R_mono HO399.out (fun _ hk => ⟨hk.1.1, hk.2⟩)) hg hat)
              have n7_ := Aside0.mk (hb)
              have n8_ := Aside0.mk (ho)
              clear HO_1
              clear HO_6
              clear HL386_2
              clear HL386_3
              clear BK387
              clear HO390
              clear HO399
              clear HB
              clear HO393
              have HO_1 := n0_
              have HO_6 := n1_
              have HL386_2 := n2_
              have HL386_3 := n3_
              have BK387 := n4_
              have HO390 := n5_
              have HO399 := n6_
              have HB := n7_
              have HO396 := n8_
              clear n0_ n1_ n2_ n3_ n4_ n5_ n6_ n7_ n8_
              clear ho hb hg hat
              refine hK.out _ _ ⟨(blk_cell BK387.out 0).trans rfl, (blk_cell BK387.out 1).trans rfl, (blk_cell BK387.out 2).trans rfl, (blk_cell BK387.out 3).trans rfl⟩ (fun hHeld => ?_)
              clear hK K
              refine norm_ (a' := ?_) ?_ ?_
              rotate_left
              ·show Act.put _ (some 50) _ = _
               simp only [Act.put, List.setIfInBounds_toArray, List.set_cons_zero, List.set_cons_succ, i64_w, i32_w]
               rfl
              exact norm_ (by simp only [putAll, Act.put, List.setIfInBounds_toArray, List.set_cons_zero, List.set_cons_succ]) (hCont (v392, v395, v398) _ ⟨hHeld, (by (with_reducible repeat (first | apply Kd.V_alloc | apply Kd.V_drewN | apply Kd.V_drew)); exact Kd.V_mono HL386_2.out (fun _ hk => ⟨hk.1.1, ⟨hk.1.2.2.1, ⟨hk.2, ⟨hk.1.2.2.2.1, ⟨hk.1.2.1, hk.1.2.2.2.2⟩⟩⟩⟩⟩)), (by (with_reducible repeat (first | apply Kd.V_alloc | apply Kd.V_drewN | apply Kd.V_drew)); exact Kd.V_mono HL386_3.out (fun _ hk => ⟨hk.1.1, ⟨hk.1.2.2.1, ⟨hk.2, ⟨hk.1.2.2.2.1, ⟨hk.1.2.1, hk.1.2.2.2.2⟩⟩⟩⟩⟩)), (by (with_reducible repeat (first | apply Kd.N_alloc | apply Kd.N_drewN | apply Kd.N_drew)); exact Kd.N_mono HO390.out (fun _ hk => ⟨hk.1.1, ⟨hk.2, ⟨hk.1.2.2.1, ⟨hk.1.2.1, hk.1.2.2.2⟩⟩⟩⟩)), (by (with_reducible repeat (first | apply Kd.R_alloc | apply Kd.R_drewN | apply Kd.R_drew)); exact HO396.out), (by (with_reducible repeat (first | apply Kd.R_alloc | apply Kd.R_drewN | apply Kd.R_drew)); exact HO399.out), (by (with_reducible repeat (first | apply Kd.V_alloc | apply Kd.V_drewN | apply Kd.V_drew)); exact Kd.V_mono HO_1.out (fun _ hk => ⟨hk.1.1, ⟨hk.1.2.2.1, ⟨hk.2, ⟨hk.1.2.2.2.1, ⟨hk.1.2.1, hk.1.2.2.2.2⟩⟩⟩⟩⟩)), (by (with_reducible repeat (first | apply Kd.N_alloc | apply Kd.N_drewN | apply Kd.N_drew)); exact Kd.N_mono HO_6.out (fun _ hk => ⟨hk.1.1, ⟨hk.1.2.1, ⟨hk.2, ⟨hk.1.2.2.1, hk.1.2.2.2⟩⟩⟩⟩)), (by (with_reducible repeat (first | refine blk_drewN ?_ _ | refine blk_drew ?_ | refine blk_alloc ?_ _)); exact BK387.out), (by repeat (first | (with_reducible first | exact HB.out | apply below_alloc | apply pw_below_drewN | apply below_drew1 | refine below_set ?_ GE387.out) | exact HB.out))⟩)
            ·skip
             refine Kd.R_lit_step Kd.string _ 9 ?hg (N := 51) ?hd (xs := ([] : List ByteArray)) (inner := []) (ok := fun _ => True) (okp := fun _ => True) ?hr ?hp (fun _ hk => hk) trivial (Below.refl _ _) (Nat.le_refl _) (by simp) ?_; (case hd => rfl); (case hg => rfl); (case hr => first | (go_simp; done) | (go_simp; rfl)); (case hp => exact (Reps.none _ _))
             intro v398 w21 ho22 hb hg_ hnew_
             clear hg_ hnew_
             (first | rw [← Ny397.out] at ho22 | (simp only [Int.reduceToNat] at ho22; rw [← Ny397.out] at ho22))
             have n0_ := Aside0.mk (Kd.V_elder' (by (with_reducible repeat (first | apply Kd.V_alloc | apply Kd.V_drewN | apply Kd.V_drew)); exact HO_1.out) (Kd.R_base ho22) hb)
             have n1_ := Aside0.mk (Kd.N_elder' (by (with_reducible repeat (first | apply Kd.N_alloc | apply Kd.N_drewN | apply Kd.N_drew)); exact HO_6.out) (Kd.R_base ho22) hb)
             have n2_ := Aside0.mk (Kd.V_elder' (by (with_reducible repeat (first | apply Kd.V_alloc | apply Kd.V_drewN | apply Kd.V_drew)); exact HL386_2.out) (Kd.R_base ho22) hb)
             have n3_ := Aside0.mk (Kd.V_elder' (by (with_reducible repeat (first | apply Kd.V_alloc | apply Kd.V_drewN | apply Kd.V_drew)); exact HL386_3.out) (Kd.R_base ho22) hb)
             have n4_ := Aside0.mk (Kd.N_elder' (by (with_reducible repeat (first | apply Kd.N_alloc | apply Kd.N_drewN | apply Kd.N_drew)); exact HO390.out) (Kd.R_base ho22) hb)
             have n5_ := Aside0.mk (Kd.R_lower (Kd.R_newM (M := fun k_ => (w.heap.size ≤ k_)) ho22 (below_size (by repeat (first | (with_reducible first | exact HB.out | apply below_alloc | apply pw_below_drewN | apply below_drew1 | refine below_set ?_ GE387.out) | exact HB.out))) (fun k_ h_ => h_)) (below_size (by repeat (first | (with_reducible first | exact HB.out | apply below_alloc | apply pw_below_drewN | apply below_drew1 | refine below_set ?_ GE387.out) | exact HB.out))))
             have n6_ := Aside0.mk (blk_below (g := gb387) (o := .cells #[.int .i64 ((rd_T46 l1 x7_1).f0), .int .i64 ((rd_T46 l1 x7_1).f1), .slice A386_2 ((rd_T46 l1 x7_1).f2).length c386_2, .slice A386_3 ((rd_T46 l1 x7_1).f3).length c386_3] 46 (0, 0)) (by (with_reducible repeat (first | refine blk_drewN ?_ _ | refine blk_drew ?_ | refine blk_alloc ?_ _)); exact BK387.out) hb)
             have n7_ := Aside0.mk (below_step (by repeat (first | (with_reducible first | exact HB.out | apply below_alloc | apply pw_below_drewN | apply below_drew1 | refine below_set ?_ GE387.out) | exact HB.out)) hb)
             clear HO_1
             clear HO_6
             clear HL386_2
             clear HL386_3
             clear HO390
             clear BK387
             clear HB
             have HO_1 := n0_
             have HO_6 := n1_
             have HL386_2 := n2_
             have HL386_3 := n3_
             have HO390 := n4_
             have HO399 := n5_
             have BK387 := n6_
             have HB := n7_
             clear n0_ n1_ n2_ n3_ n4_ n5_ n6_ n7_
             clear hb ho22
             refine hK.out _ _ ⟨(blk_cell BK387.out 0).trans rfl, (blk_cell BK387.out 1).trans rfl, (blk_cell BK387.out 2).trans rfl, (blk_cell BK387.out 3).trans rfl⟩ (fun hHeld => ?_)
             clear hK K
             refine norm_ (a' := ?_) ?_ ?_
             rotate_left
             ·show Act.put _ (some 51) _ = _
              simp only [Act.put, List.setIfInBounds_toArray, List.set_cons_zero, List.set_cons_succ, i64_w, i32_w]
              rfl
             refine one_ (i := 5) (N := some 47) (vb 3839 17) rfl rfl (one_of HT_.out (by kernel_rfl)) (by decide) (fun K hK => ?_)
             refine Kd.R_lit_step Kd.string _ 9 ?hg (N := 47) ?hd (xs := ([] : List ByteArray)) (inner := []) (ok := fun _ => True) (okp := fun _ => True) ?hr ?hp (fun _ hk => hk) trivial (Below.refl _ _) (Nat.le_refl _) (by simp) ?_; (case hd => rfl); (case hg => rfl); (case hr => first | (go_simp; done) | (go_simp; rfl)); (case hp => exact (Reps.none _ _))
             intro v392 w23 ho24 hb hg_ hnew_
             clear hg_ hnew_
             (first | rw [← Ny391.out] at ho24 | (simp only [Int.reduceToNat] at ho24; rw [← Ny391.out] at ho24))
             have n0_ := Aside0.mk (Kd.V_elder' (by (with_reducible repeat (first | apply Kd.V_alloc | apply Kd.V_drewN | apply Kd.V_drew)); exact HO_1.out) (Kd.R_base ho24) hb)
             have n1_ := Aside0.mk (Kd.N_elder' (by (with_reducible repeat (first | apply Kd.N_alloc | apply Kd.N_drewN | apply Kd.N_drew)); exact HO_6.out) (Kd.R_base ho24) hb)
             have n2_ := Aside0.mk (Kd.V_elder' (by (with_reducible repeat (first | apply Kd.V_alloc | apply Kd.V_drewN | apply Kd.V_drew)); exact HL386_2.out) (Kd.R_base ho24) hb)
             have n3_ := Aside0.mk (Kd.V_elder' (by (with_reducible repeat (first | apply Kd.V_alloc | apply Kd.V_drewN | apply Kd.V_drew)); exact HL386_3.out) (Kd.R_base ho24) hb)
             have n4_ := Aside0.mk (Kd.N_elder' (by (with_reducible repeat (first | apply Kd.N_alloc | apply Kd.N_drewN | apply Kd.N_drew)); exact HO390.out) (Kd.R_base ho24) hb)
             have n5_ := Aside0.mk (Kd.R_elder' (by (with_reducible repeat (first | apply Kd.R_alloc | apply Kd.R_drewN | apply Kd.R_drew)); exact HO399.out) (Kd.R_base ho24) hb)
             have n6_ := Aside0.mk (Kd.R_lower (Kd.R_new' (Kd.R_newM (M := fun k_ => (w.heap.size ≤ k_)) ho24 (below_size (by repeat (first | (with_reducible first | exact HB.out | apply below_alloc | apply pw_below_drewN | apply below_drew1 | refine below_set ?_ GE387.out) | exact HB.out))) (fun k_ h_ => h_)) (Kd.R_lt (by (with_reducible repeat (first | apply Kd.R_alloc | apply Kd.R_drewN | apply Kd.R_drew)); exact HO399.out))) (below_size (by repeat (first | (with_reducible first | exact HB.out | apply below_alloc | apply pw_below_drewN | apply below_drew1 | refine below_set ?_ GE387.out) | exact HB.out))))
             have n7_ := Aside0.mk (blk_below (g := gb387) (o := .cells #[.int .i64 ((rd_T46 l1 x7_1).f0), .int .i64 ((rd_T46 l1 x7_1).f1), .slice A386_2 ((rd_T46 l1 x7_1).f2).length c386_2, .slice A386_3 ((rd_T46 l1 x7_1).f3).length c386_3] 46 (0, 0)) (by (with_reducible repeat (first | refine blk_drewN ?_ _ | refine blk_drew ?_ | refine blk_alloc ?_ _)); exact BK387.out) hb)
             have n8_ := Aside0.mk (below_step (by repeat (first | (with_reducible first | exact HB.out | apply below_alloc | apply pw_below_drewN | apply below_drew1 | refine below_set ?_ GE387.out) | exact HB.out)) hb)
             clear HO_1
             clear HO_6
             clear HL386_2
             clear HL386_3
             clear HO390
             clear HO399
             clear BK387
             clear HB
             have HO_1 := n0_
             have HO_6 := n1_
             have HL386_2 := n2_
             have HL386_3 := n3_
             have HO390 := n4_
             have HO399 := n5_
             have HO393 := n6_
             have BK387 := n7_
             have HB := n8_
             clear n0_ n1_ n2_ n3_ n4_ n5_ n6_ n7_ n8_
             clear hb ho24
             refine hK.out _ _ ⟨(blk_cell BK387.out 0).trans rfl, (blk_cell BK387.out 1).trans rfl, (blk_cell BK387.out 2).trans rfl, (blk_cell BK387.out 3).trans rfl⟩ (fun hHeld => ?_)
             clear hK K
             refine norm_ (a' := ?_) ?_ ?_
             rotate_left
             ·show Act.put _ (some 47) _ = _
              simp only [Act.put, List.setIfInBounds_toArray, List.set_cons_zero, List.set_cons_succ, i64_w, i32_w]
              rfl
             refine one_ (i := 8) (N := some 50) (vb 4095 17) rfl rfl (one_of HT_.out (by kernel_rfl)) (by decide) (fun K hK => ?_)
             refine Kd.R_append_rows_step Kd.string (w0 := w) w.heap.size (by rfl) (.tmp 47) (.tmp 49) 22 9 (.string ⟨#[]⟩) 16 rfl Try.underlying22 info9 rfl (by decide) (by omega) v392 y391 ((rd_T46 l1 x7_1).f2) _ _ _ (fun k_ => (w.heap.size ≤ k_) ∧ some k_ ≠ (v398 : Value).ownBlock) (fun _ => False) rfl rfl ?aO ?aR (fun _ _ h => h) (fun _ h => h.elim) ?aF ?aB ?aS ?aL ?_
             (case aR => repeat (first | exact ((Kd.V_reads' (by (with_reducible repeat (first | apply Kd.V_alloc | apply Kd.V_drewN | apply Kd.V_drew)); exact HL386_2.out)).2.2) | (with_reducible refine Kd.C_alloc ?_ _) | (with_reducible refine Kd.C_drewN ?_ _) | (with_reducible refine Kd.C_drew ?_)))
             (case aB => exact (by repeat (first | (with_reducible first | exact HB.out | apply below_alloc | apply pw_below_drewN | apply below_drew1 | refine below_set ?_ GE387.out) | exact HB.out)))
             (case aF => exact (fun k_ hk => ⟨(Nat.le_trans (below_size (by repeat (first | (with_reducible first | exact HB.out | apply below_alloc | apply pw_below_drewN | apply below_drew1 | refine below_set ?_ GE387.out) | exact HB.out))) hk), Kd.fresh' (Kd.R_lt (by (with_reducible repeat (first | apply Kd.R_alloc | apply Kd.R_drewN | apply Kd.R_drew)); exact HO399.out)) k_ hk⟩))
             (case aO => exact (by (with_reducible repeat (first | apply Kd.R_alloc | apply Kd.R_drewN | apply Kd.R_drew)); exact Kd.R_mono HO393.out (fun _ hk => ⟨hk.1.1, hk.2⟩)))
             (case aS => exact (below_size (by repeat (first | (with_reducible first | exact HB.out | apply below_alloc | apply pw_below_drewN | apply below_drew1 | refine below_set ?_ GE387.out) | exact HB.out))))
             (case aL => have := LMc11.out; omega)
             intro v395 w25 ho hb hg hat
             rw [← Ny394.out] at ho
             have n0_ := Aside0.mk (Kd.V_afterv (ok := (fun k_ => (P1_ k_ ∨ w.heap.size ≤ k_) ∧ some k_ ≠ (.slice Ao19 x6_1.length co19 : Value).ownBlock ∧ some k_ ≠ (v389 : Value).ownBlock ∧ some k_ ≠ (v398 : Value).ownBlock ∧ k_ ≠ gb387)) (by (with_reducible repeat (first | apply Kd.V_alloc | apply Kd.V_drewN | apply Kd.V_drew)); exact Kd.V_mono HO_1.out (fun _ hk => ⟨⟨hk.1.1.1.1, ⟨hk.1.1.1.2.1, ⟨hk.1.1.2, ⟨hk.1.2, hk.1.1.1.2.2⟩⟩⟩⟩, hk.2⟩)) hg hat)
             have n1_ := Aside0.mk (Kd.N_afterv (ok := (fun k_ => (P1_ k_ ∨ w.heap.size ≤ k_) ∧ some k_ ≠ (v389 : Value).ownBlock ∧ some k_ ≠ (v398 : Value).ownBlock ∧ k_ ≠ gb387)) (by (with_reducible repeat (first | apply Kd.N_alloc | apply Kd.N_drewN | apply Kd.N_drew)); exact Kd.N_mono HO_6.out (fun _ hk => ⟨⟨hk.1.1.1.1, ⟨hk.1.1.2, ⟨hk.1.2, hk.1.1.1.2⟩⟩⟩, hk.2⟩)) hg hat)
             have n2_ := Aside0.mk (Kd.V_afterv (ok := (fun k_ => (P1_ k_ ∨ w.heap.size ≤ k_) ∧ some k_ ≠ (.slice Ao19 x6_1.length co19 : Value).ownBlock ∧ some k_ ≠ (v389 : Value).ownBlock ∧ some k_ ≠ (v398 : Value).ownBlock ∧ k_ ≠ gb387)) (by (with_reducible repeat (first | apply Kd.V_alloc | apply Kd.V_drewN | apply Kd.V_drew)); exact Kd.V_mono HL386_2.out (fun _ hk => ⟨⟨hk.1.1.1.1, ⟨hk.1.1.1.2.1, ⟨hk.1.1.2, ⟨hk.1.2, hk.1.1.1.2.2⟩⟩⟩⟩, hk.2⟩)) hg hat)
             have n3_ := Aside0.mk (Kd.V_afterv (ok := (fun k_ => (P1_ k_ ∨ w.heap.size ≤ k_) ∧ some k_ ≠ (.slice Ao19 x6_1.length co19 : Value).ownBlock ∧ some k_ ≠ (v389 : Value).ownBlock ∧ some k_ ≠ (v398 : Value).ownBlock ∧ k_ ≠ gb387)) (by (with_reducible repeat (first | apply Kd.V_alloc | apply Kd.V_drewN | apply Kd.V_drew)); exact Kd.V_mono HL386_3.out (fun _ hk => ⟨⟨hk.1.1.1.1, ⟨hk.1.1.1.2.1, ⟨hk.1.1.2, ⟨hk.1.2, hk.1.1.1.2.2⟩⟩⟩⟩, hk.2⟩)) hg hat)
             have n4_ := Aside0.mk (blk_grown (g := gb387) (o := .cells #[.int .i64 ((rd_T46 l1 x7_1).f0), .int .i64 ((rd_T46 l1 x7_1).f1), .slice A386_2 ((rd_T46 l1 x7_1).f2).length c386_2, .slice A386_3 ((rd_T46 l1 x7_1).f3).length c386_3] 46 (0, 0)) (by (with_reducible repeat (first | refine blk_drewN ?_ _ | refine blk_drew ?_ | refine blk_alloc ?_ _)); exact BK387.out) hg (Kd.R_ne HO393.out BK387.out (by decide)))
             have n5_ := Aside0.mk (Kd.N_afterv (ok := (fun k_ => (P1_ k_ ∨ w.heap.size ≤ k_) ∧ some k_ ≠ (.slice Ao19 x6_1.length co19 : Value).ownBlock ∧ some k_ ≠ (v398 : Value).ownBlock ∧ k_ ≠ gb387)) (by (with_reducible repeat (first | apply Kd.N_alloc | apply Kd.N_drewN | apply Kd.N_drew)); exact Kd.N_mono HO390.out (fun _ hk => ⟨⟨hk.1.1.1, ⟨hk.1.1.2.1, ⟨hk.1.2, hk.1.1.2.2⟩⟩⟩, hk.2⟩)) hg hat)
             have n6_ := Aside0.mk (Kd.R_after (ok := (fun k_ => (w.heap.size ≤ k_))) (by (with_reducible repeat (first | apply Kd.R_alloc | apply Kd.R_drewN | apply Kd.R_drew)); exact Kd.R_mono HO399.out (fun _ hk => ⟨hk.1.1, hk.2⟩)) hg hat)
             have n7_ := Aside0.mk (hb)
             have n8_ := Aside0.mk (ho)
             clear HO_1
             clear HO_6
             clear HL386_2
             clear HL386_3
             clear BK387
             clear HO390
             clear HO399
             clear HB
             clear HO393
             have HO_1 := n0_
             have HO_6 := n1_
             have HL386_2 := n2_
             have HL386_3 := n3_
             have BK387 := n4_
             have HO390 := n5_
             have HO399 := n6_
             have HB := n7_
             have HO396 := n8_
             clear n0_ n1_ n2_ n3_ n4_ n5_ n6_ n7_ n8_
             clear ho hb hg hat
             refine hK.out _ _ ⟨(blk_cell BK387.out 0).trans rfl, (blk_cell BK387.out 1).trans rfl, (blk_cell BK387.out 2).trans rfl, (blk_cell BK387.out 3).trans rfl⟩ (fun hHeld => ?_)
             clear hK K
             refine norm_ (a' := ?_) ?_ ?_
             rotate_left
             ·show Act.put _ (some 50) _ = _
              simp only [Act.put, List.setIfInBounds_toArray, List.set_cons_zero, List.set_cons_succ, i64_w, i32_w]
              rfl
             exact norm_ (by simp only [putAll, Act.put, List.setIfInBounds_toArray, List.set_cons_zero, List.set_cons_succ]) (hCont (v392, v395, v398) _ ⟨hHeld, (by (with_reducible repeat (first | apply Kd.V_alloc | apply Kd.V_drewN | apply Kd.V_drew)); exact Kd.V_mono HL386_2.out (fun _ hk => ⟨hk.1.1, ⟨hk.1.2.2.1, ⟨hk.2, ⟨hk.1.2.2.2.1, ⟨hk.1.2.1, hk.1.2.2.2.2⟩⟩⟩⟩⟩)), (by (with_reducible repeat (first | apply Kd.V_alloc | apply Kd.V_drewN | apply Kd.V_drew)); exact Kd.V_mono HL386_3.out (fun _ hk => ⟨hk.1.1, ⟨hk.1.2.2.1, ⟨hk.2, ⟨hk.1.2.2.2.1, ⟨hk.1.2.1, hk.1.2.2.2.2⟩⟩⟩⟩⟩)), (by (with_reducible repeat (first | apply Kd.N_alloc | apply Kd.N_drewN | apply Kd.N_drew)); exact Kd.N_mono HO390.out (fun _ hk => ⟨hk.1.1, ⟨hk.2, ⟨hk.1.2.2.1, ⟨hk.1.2.1, hk.1.2.2.2⟩⟩⟩⟩)), (by (with_reducible repeat (first | apply Kd.R_alloc | apply Kd.R_drewN | apply Kd.R_drew)); exact HO396.out), (by (with_reducible repeat (first | apply Kd.R_alloc | apply Kd.R_drewN | apply Kd.R_drew)); exact HO399.out), (by (with_reducible repeat (first | apply Kd.V_alloc | apply Kd.V_drewN | apply Kd.V_drew)); exact Kd.V_mono HO_1.out (fun _ hk => ⟨hk.1.1, ⟨hk.1.2.2.1, ⟨hk.2, ⟨hk.1.2.2.2.1, ⟨hk.1.2.1, hk.1.2.2.2.2⟩⟩⟩⟩⟩)), (by (with_reducible repeat (first | apply Kd.N_alloc | apply Kd.N_drewN | apply Kd.N_drew)); exact Kd.N_mono HO_6.out (fun _ hk => ⟨hk.1.1, ⟨hk.1.2.1, ⟨hk.2, ⟨hk.1.2.2.1, hk.1.2.2.2⟩⟩⟩⟩)), (by (with_reducible repeat (first | refine blk_drewN ?_ _ | refine blk_drew ?_ | refine blk_alloc ?_ _)); exact BK387.out), (by repeat (first | (with_reducible first | exact HB.out | apply below_alloc | apply pw_below_drewN | apply below_drew1 | refine below_set ?_ GE387.out) | exact HB.out))⟩)
           rintro ⟨v392, v395, v398⟩ w26 ⟨hS_, h0_, h1_, h2_, h3_, h4_, h5_, h6_, h7_, h8_⟩
           have n0_ : Aside0 (Kd.V Kd.string 9 w26 w.heap.size (fun k_ => (P1_ k_ ∨ w.heap.size ≤ k_) ∧ some k_ ≠ (v389 : Value).ownBlock ∧ some k_ ≠ (v395 : Value).ownBlock ∧ some k_ ≠ (v398 : Value).ownBlock ∧ some k_ ≠ (.slice Ao19 x6_1.length co19 : Value).ownBlock ∧ k_ ≠ gb387) (.slice A386_2 ((rd_T46 l1 x7_1).f2).length c386_2) ((rd_T46 l1 x7_1).f2)) := ⟨h0_⟩
           have n1_ : Aside0 (Kd.V Kd.string 9 w26 w.heap.size (fun k_ => (P1_ k_ ∨ w.heap.size ≤ k_) ∧ some k_ ≠ (v389 : Value).ownBlock ∧ some k_ ≠ (v395 : Value).ownBlock ∧ some k_ ≠ (v398 : Value).ownBlock ∧ some k_ ≠ (.slice Ao19 x6_1.length co19 : Value).ownBlock ∧ k_ ≠ gb387) (.slice A386_3 ((rd_T46 l1 x7_1).f3).length c386_3) ((rd_T46 l1 x7_1).f3)) := ⟨h1_⟩
           have n2_ : Aside0 (Kd.N k47 47 w26 w.heap.size (fun k_ => (P1_ k_ ∨ w.heap.size ≤ k_) ∧ some k_ ≠ (v395 : Value).ownBlock ∧ some k_ ≠ (v398 : Value).ownBlock ∧ some k_ ≠ (.slice Ao19 x6_1.length co19 : Value).ownBlock ∧ k_ ≠ gb387) v389 y388) := ⟨h2_⟩
           have n3_ : Aside0 (Kd.R Kd.string 9 w26 w.heap.size (fun k_ => (w.heap.size ≤ k_) ∧ some k_ ≠ (v398 : Value).ownBlock) v395 y394) := ⟨h3_⟩
           have n4_ : Aside0 (Kd.R Kd.string 9 w26 w.heap.size (fun k_ => (w.heap.size ≤ k_) ∧ some k_ ≠ (v395 : Value).ownBlock) v398 y397) := ⟨h4_⟩
           have n5_ : Aside0 (Kd.V k46 46 w26 w.heap.size (fun k_ => (P1_ k_ ∨ w.heap.size ≤ k_) ∧ some k_ ≠ (v389 : Value).ownBlock ∧ some k_ ≠ (v395 : Value).ownBlock ∧ some k_ ≠ (v398 : Value).ownBlock ∧ some k_ ≠ (.slice Ao19 x6_1.length co19 : Value).ownBlock ∧ k_ ≠ gb387) (.slice (some ad386) l1.length c1) l1) := ⟨h5_⟩
           have n6_ : Aside0 (Kd.N k46 46 w26 w.heap.size (fun k_ => (P1_ k_ ∨ w.heap.size ≤ k_) ∧ some k_ ≠ (v389 : Value).ownBlock ∧ some k_ ≠ (v395 : Value).ownBlock ∧ some k_ ≠ (v398 : Value).ownBlock ∧ k_ ≠ gb387) (.slice Ao19 x6_1.length co19) x6_1) := ⟨h6_⟩
           have n7_ : Aside0 (w26.heap[gb387]? = some (.cells #[.int .i64 ((rd_T46 l1 x7_1).f0), .int .i64 ((rd_T46 l1 x7_1).f1), .slice A386_2 ((rd_T46 l1 x7_1).f2).length c386_2, .slice A386_3 ((rd_T46 l1 x7_1).f3).length c386_3] 46 (0, 0))) := ⟨h7_⟩
           have n8_ : Aside0 (Below w.heap.size w w26) := ⟨h8_⟩
           clear HO_1
           clear HO_6
           clear HL386_2
           clear HL386_3
           clear HO390
           clear BK387
           clear HB
           clear h0_ h1_ h2_ h3_ h4_ h5_ h6_ h7_ h8_
           have HL386_2 := n0_
           have HL386_3 := n1_
           have HO390 := n2_
           have HO396 := n3_
           have HO399 := n4_
           have HO_1 := n5_
           have HO_6 := n6_
           have BK387 := n7_
           have HB := n8_
           clear n0_ n1_ n2_ n3_ n4_ n5_ n6_ n7_ n8_
           have hHeld : w26.cell? ⟨gb387, 0, none⟩ = some (.int .i64 ((rd_T46 l1 x7_1).f0)) ∧ w26.cell? ⟨gb387, 1, none⟩ = some (.int .i64 ((rd_T46 l1 x7_1).f1)) ∧ w26.cell? ⟨gb387, 2, none⟩ = some (.slice A386_2 ((rd_T46 l1 x7_1).f2).length c386_2) ∧ w26.cell? ⟨gb387, 3, none⟩ = some (.slice A386_3 ((rd_T46 l1 x7_1).f3).length c386_3) := hS_
           refine norm_ (a' := ?_) ?_ ?_
           rotate_left
           ·simp only [putAll, Act.put, List.setIfInBounds_toArray, List.set_cons_zero, List.set_cons_succ]
            rfl
           refine one_ (i := 12) (N := some 54) (vb 8191 17) rfl rfl (one_of HT_.out (by kernel_rfl)) (by decide) (fun K hK => ?_)
           refine Kd.R_append_rows_step Kd.string (w0 := w) w.heap.size (by rfl) (.tmp 51) (.tmp 53) 22 9 (.string ⟨#[]⟩) 16 rfl Try.underlying22 info9 rfl (by decide) (by omega) v398 y397 ((rd_T46 l1 x7_1).f3) _ _ _ (fun k_ => (w.heap.size ≤ k_) ∧ some k_ ≠ (v395 : Value).ownBlock) (fun _ => False) rfl rfl ?aO ?aR (fun _ _ h => h) (fun _ h => h.elim) ?aF ?aB ?aS ?aL ?_
           (case aR => repeat (first | exact ((Kd.V_reads' (by (with_reducible repeat (first | apply Kd.V_alloc | apply Kd.V_drewN | apply Kd.V_drew)); exact HL386_3.out)).2.2) | (with_reducible refine Kd.C_alloc ?_ _) | (with_reducible refine Kd.C_drewN ?_ _) | (with_reducible refine Kd.C_drew ?_)))
           (case aB => exact (by repeat (first | (with_reducible first | exact HB.out | apply below_alloc | apply pw_below_drewN | apply below_drew1 | refine below_set ?_ GE387.out) | exact HB.out)))
           (case aF => exact (fun k_ hk => ⟨(Nat.le_trans (below_size (by repeat (first | (with_reducible first | exact HB.out | apply below_alloc | apply pw_below_drewN | apply below_drew1 | refine below_set ?_ GE387.out) | exact HB.out))) hk), Kd.fresh' (Kd.R_lt (by (with_reducible repeat (first | apply Kd.R_alloc | apply Kd.R_drewN | apply Kd.R_drew)); exact HO396.out)) k_ hk⟩))
           (case aO => exact (by (with_reducible repeat (first | apply Kd.R_alloc | apply Kd.R_drewN | apply Kd.R_drew)); exact HO399.out))
           (case aS => exact (below_size (by repeat (first | (with_reducible first | exact HB.out | apply below_alloc | apply pw_below_drewN | apply below_drew1 | refine below_set ?_ GE387.out) | exact HB.out))))
           (case aL => have := LMc12.out; omega)
           intro v401 w27 ho hb hg hat
           rw [← Ny400.out] at ho
           have n0_ := Aside0.mk (Kd.V_afterv (ok := (fun k_ => (P1_ k_ ∨ w.heap.size ≤ k_) ∧ some k_ ≠ (.slice Ao19 x6_1.length co19 : Value).ownBlock ∧ some k_ ≠ (v389 : Value).ownBlock ∧ some k_ ≠ (v395 : Value).ownBlock ∧ k_ ≠ gb387)) (by (with_reducible repeat (first | apply Kd.V_alloc | apply Kd.V_drewN | apply Kd.V_drew)); exact Kd.V_mono HO_1.out (fun _ hk => ⟨⟨hk.1, ⟨hk.2.2.2.2.1, ⟨hk.2.1, ⟨hk.2.2.1, hk.2.2.2.2.2⟩⟩⟩⟩, hk.2.2.2.1⟩)) hg hat)
           have n1_ := Aside0.mk (Kd.N_afterv (ok := (fun k_ => (P1_ k_ ∨ w.heap.size ≤ k_) ∧ some k_ ≠ (v389 : Value).ownBlock ∧ some k_ ≠ (v395 : Value).ownBlock ∧ k_ ≠ gb387)) (by (with_reducible repeat (first | apply Kd.N_alloc | apply Kd.N_drewN | apply Kd.N_drew)); exact Kd.N_mono HO_6.out (fun _ hk => ⟨⟨hk.1, ⟨hk.2.1, ⟨hk.2.2.1, hk.2.2.2.2⟩⟩⟩, hk.2.2.2.1⟩)) hg hat)
           have n2_ := Aside0.mk (Kd.V_afterv (ok := (fun k_ => (P1_ k_ ∨ w.heap.size ≤ k_) ∧ some k_ ≠ (.slice Ao19 x6_1.length co19 : Value).ownBlock ∧ some k_ ≠ (v389 : Value).ownBlock ∧ some k_ ≠ (v395 : Value).ownBlock ∧ k_ ≠ gb387)) (by (with_reducible repeat (first | apply Kd.V_alloc | apply Kd.V_drewN | apply Kd.V_drew)); exact Kd.V_mono HL386_2.out (fun _ hk => ⟨⟨hk.1, ⟨hk.2.2.2.2.1, ⟨hk.2.1, ⟨hk.2.2.1, hk.2.2.2.2.2⟩⟩⟩⟩, hk.2.2.2.1⟩)) hg hat)
           have n3_ := Aside0.mk (Kd.V_afterv (ok := (fun k_ => (P1_ k_ ∨ w.heap.size ≤ k_) ∧ some k_ ≠ (.slice Ao19 x6_1.length co19 : Value).ownBlock ∧ some k_ ≠ (v389 : Value).ownBlock ∧ some k_ ≠ (v395 : Value).ownBlock ∧ k_ ≠ gb387)) (by (with_reducible repeat (first | apply Kd.V_alloc | apply Kd.V_drewN | apply Kd.V_drew)); exact Kd.V_mono HL386_3.out (fun _ hk => ⟨⟨hk.1, ⟨hk.2.2.2.2.1, ⟨hk.2.1, ⟨hk.2.2.1, hk.2.2.2.2.2⟩⟩⟩⟩, hk.2.2.2.1⟩)) hg hat)
           have n4_ := Aside0.mk (blk_grown (g := gb387) (o := .cells #[.int .i64 ((rd_T46 l1 x7_1).f0), .int .i64 ((rd_T46 l1 x7_1).f1), .slice A386_2 ((rd_T46 l1 x7_1).f2).length c386_2, .slice A386_3 ((rd_T46 l1 x7_1).f3).length c386_3] 46 (0, 0)) (by (with_reducible repeat (first | refine blk_drewN ?_ _ | refine blk_drew ?_ | refine blk_alloc ?_ _)); exact BK387.out) hg (Kd.R_ne HO399.out BK387.out (by decide)))
           have n5_ := Aside0.mk (Kd.N_afterv (ok := (fun k_ => (P1_ k_ ∨ w.heap.size ≤ k_) ∧ some k_ ≠ (.slice Ao19 x6_1.length co19 : Value).ownBlock ∧ some k_ ≠ (v395 : Value).ownBlock ∧ k_ ≠ gb387)) (by (with_reducible repeat (first | apply Kd.N_alloc | apply Kd.N_drewN | apply Kd.N_drew)); exact Kd.N_mono HO390.out (fun _ hk => ⟨⟨hk.1, ⟨hk.2.2.2.1, ⟨hk.2.1, hk.2.2.2.2⟩⟩⟩, hk.2.2.1⟩)) hg hat)
           have n6_ := Aside0.mk (Kd.R_after (ok := (fun k_ => (w.heap.size ≤ k_))) (by (with_reducible repeat (first | apply Kd.R_alloc | apply Kd.R_drewN | apply Kd.R_drew)); exact HO396.out) hg hat)
           have n7_ := Aside0.mk (hb)
           have n8_ := Aside0.mk (ho)
           clear HO_1
           clear HO_6
           clear HL386_2
           clear HL386_3
           clear BK387
           clear HO390
           clear HO396
           clear HB
           clear HO399
           have HO_1 := n0_
           have HO_6 := n1_
           have HL386_2 := n2_
           have HL386_3 := n3_
           have BK387 := n4_
           have HO390 := n5_
           have HO396 := n6_
           have HB := n7_
           have HO402 := n8_
           clear n0_ n1_ n2_ n3_ n4_ n5_ n6_ n7_ n8_
           clear ho hb hg hat
           obtain ⟨Ao28, co28, eo28⟩ := Kd.R_slice HO402.out
           (first | subst eo28 | (injection eo28 with f1_ f2_ f3_; have f4_ := f1_.symm; have f5_ := f3_.symm; clear f1_ f2_ f3_; subst f4_; subst f5_))
           obtain ⟨Ao29, co29, eo29⟩ := Kd.R_slice HO396.out
           (first | subst eo29 | (injection eo29 with f1_ f2_ f3_; have f4_ := f1_.symm; have f5_ := f3_.symm; clear f1_ f2_ f3_; subst f4_; subst f5_))
           refine hK.out _ _ ⟨(blk_cell BK387.out 0).trans rfl, (blk_cell BK387.out 1).trans rfl, (blk_cell BK387.out 2).trans rfl, (blk_cell BK387.out 3).trans rfl⟩ (fun hHeld => ?_)
           clear hK K
           refine norm_ (a' := ?_) ?_ ?_
           rotate_left
           ·show Act.put _ (some 54) _ = _
            simp only [Act.put, List.setIfInBounds_toArray, List.set_cons_zero, List.set_cons_succ, i64_w, i32_w]
            rfl
           refine pure_ (i := 13) (N := some 55) (v := ?_) (a' := ?_) (vb 16383 17) rfl rfl (any_of HT_.out (by kernel_rfl)) (fun _ _ _ h => h) (Or.inl ⟨by rfl, ?_⟩) ?_ ?_
           rotate_left
           ·intro w'
            go_simp
            with_reducible rfl
           rotate_left
           ·simp only [Act.put, List.setIfInBounds_toArray, List.set_cons_zero, List.set_cons_succ, i64_w, i32_w]
            rfl
           refine one_ (i := 14) (N := some 56) (vb 32767 17) rfl rfl (one_of HT_.out (by kernel_rfl)) (by decide) (fun K hK => ?_)
           refine value_ (w1 := ?_) (v := ?_) (by rfl) rfl ?_ ?_
           rotate_left 2
           ·go_simp
            constructor
            ·rfl
            ·rfl
           refine hK.out _ _ ⟨(blk_cell (blk_alloc BK387.out _) 0).trans rfl, (blk_cell (blk_alloc BK387.out _) 1).trans rfl, (blk_cell (blk_alloc BK387.out _) 2).trans rfl, (blk_cell (blk_alloc BK387.out _) 3).trans rfl⟩ (fun hHeld => ?_)
           clear hK K
           refine norm_ (a' := ?_) ?_ ?_
           rotate_left
           ·show Act.put _ (some 56) _ = _
            simp only [Act.put, List.setIfInBounds_toArray, List.set_cons_zero, List.set_cons_succ, i64_w, i32_w]
            rfl
           refine one_ (i := 15) (N := some 57) (vb 65535 17) rfl rfl (one_of HT_.out (by kernel_rfl)) (by decide) (fun K hK => ?_)
           refine Kd.N_append_step k46 (w0 := w) w.heap.size (by rfl) (.tmp 42) (.tmp 56) 31 46 (.agg #[(.int .i64 0), (.int .i64 0), (.slice none 0 0), (.slice none 0 0)]) 64 rfl Try.underlying31 info46 rfl (by decide) (by omega) (.slice Ao19 x6_1.length co19) x6_1 (⟨(rd_T46 l1 x7_1).f0, (rd_T46 l1 x7_1).f1, y394, y400⟩ : S46) [.int .i64 ((rd_T46 l1 x7_1).f0), .int .i64 ((rd_T46 l1 x7_1).f1), .slice Ao29 y394.length co29, .slice Ao28 y400.length co28] (fun k_ => (P1_ k_ ∨ w.heap.size ≤ k_) ∧ some k_ ≠ (v389 : Value).ownBlock ∧ k_ ≠ gb387) (fun k_ => ((fun k_ => (P1_ k_ ∨ w.heap.size ≤ k_) ∧ some k_ ≠ (v389 : Value).ownBlock ∧ k_ ≠ gb387)) k_ ∧ some k_ ≠ (.slice Ao19 x6_1.length co19 : Value).ownBlock) rfl rfl ?aP (fun _ hk => hk) ?aF ?aO ?aB ?aS ?aL ?_
           (case aP => exact (k46_mkF _ _ (⟨(rd_T46 l1 x7_1).f0, (rd_T46 l1 x7_1).f1, y394, y400⟩ : S46) (Kd.R_reads' (Kd.R_mono (ok' := (fun k_ => ((fun k_ => (P1_ k_ ∨ w.heap.size ≤ k_) ∧ some k_ ≠ (v389 : Value).ownBlock ∧ k_ ≠ gb387)) k_ ∧ some k_ ≠ (.slice Ao19 x6_1.length co19 : Value).ownBlock)) (Kd.R_types (Kd.R_apart' (Kd.R_apart' (HO396.out) (Kd.N_typed HO390.out) (by decide)) (Kd.N_typed HO_6.out) (by decide)) BK387.out (by decide)) (fun k_ hk => ⟨⟨(.inr (hk.1.1.1.1)), ⟨hk.1.1.2, hk.2⟩⟩, hk.1.2⟩))).2.1 (Kd.R_F (Kd.R_mono (ok' := (fun k_ => ((fun k_ => (P1_ k_ ∨ w.heap.size ≤ k_) ∧ some k_ ≠ (v389 : Value).ownBlock ∧ k_ ≠ gb387)) k_ ∧ some k_ ≠ (.slice Ao19 x6_1.length co19 : Value).ownBlock)) (Kd.R_types (Kd.R_apart' (Kd.R_apart' (HO396.out) (Kd.N_typed HO390.out) (by decide)) (Kd.N_typed HO_6.out) (by decide)) BK387.out (by decide)) (fun k_ hk => ⟨⟨(.inr (hk.1.1.1.1)), ⟨hk.1.1.2, hk.2⟩⟩, hk.1.2⟩))) (Kd.R_reads' (Kd.R_mono (ok' := (fun k_ => ((fun k_ => (P1_ k_ ∨ w.heap.size ≤ k_) ∧ some k_ ≠ (v389 : Value).ownBlock ∧ k_ ≠ gb387)) k_ ∧ some k_ ≠ (.slice Ao19 x6_1.length co19 : Value).ownBlock)) (Kd.R_types (Kd.R_apart' (Kd.R_apart' (HO402.out) (Kd.N_typed HO390.out) (by decide)) (Kd.N_typed HO_6.out) (by decide)) BK387.out (by decide)) (fun k_ hk => ⟨⟨(.inr (hk.1.1.1.1)), ⟨hk.1.1.2, hk.2⟩⟩, hk.1.2⟩))).2.1 (Kd.R_F (Kd.R_mono (ok' := (fun k_ => ((fun k_ => (P1_ k_ ∨ w.heap.size ≤ k_) ∧ some k_ ≠ (v389 : Value).ownBlock ∧ k_ ≠ gb387)) k_ ∧ some k_ ≠ (.slice Ao19 x6_1.length co19 : Value).ownBlock)) (Kd.R_types (Kd.R_apart' (Kd.R_apart' (HO402.out) (Kd.N_typed HO390.out) (by decide)) (Kd.N_typed HO_6.out) (by decide)) BK387.out (by decide)) (fun k_ hk => ⟨⟨(.inr (hk.1.1.1.1)), ⟨hk.1.1.2, hk.2⟩⟩, hk.1.2⟩)))))
           (case aB => exact (by repeat (first | (with_reducible first | exact HB.out | apply below_alloc | apply pw_below_drewN | apply below_drew1 | refine below_set ?_ GE387.out) | exact HB.out)))
           (case aF => exact (fun k_ hk => ⟨(.inr (Nat.le_trans (below_size (by repeat (first | (with_reducible first | exact HB.out | apply below_alloc | apply pw_below_drewN | apply below_drew1 | refine below_set ?_ GE387.out) | exact HB.out))) hk)), Kd.fresh' (Kd.N_lt (by (with_reducible repeat (first | apply Kd.N_alloc | apply Kd.N_drewN | apply Kd.N_drew)); exact HO390.out)) k_ hk, Kd.freshB (g := gb387) (o := .cells #[.int .i64 ((rd_T46 l1 x7_1).f0), .int .i64 ((rd_T46 l1 x7_1).f1), .slice A386_2 ((rd_T46 l1 x7_1).f2).length c386_2, .slice A386_3 ((rd_T46 l1 x7_1).f3).length c386_3] 46 (0, 0)) (by (with_reducible repeat (first | refine blk_drewN ?_ _ | refine blk_drew ?_ | refine blk_alloc ?_ _)); exact BK387.out) k_ hk⟩))
           (case aO => exact (by (with_reducible repeat (first | apply Kd.N_alloc | apply Kd.N_drewN | apply Kd.N_drew)); exact Kd.N_mono HO_6.out (fun _ hk => ⟨hk.1.1, ⟨hk.1.2.1, hk.1.2.2.2⟩⟩)))
           (case aS => exact (below_size (by repeat (first | (with_reducible first | exact HB.out | apply below_alloc | apply pw_below_drewN | apply below_drew1 | refine below_set ?_ GE387.out) | exact HB.out))))
           (case aL => have := LMc13.out; omega)
           intro v404 w30 ho hb hg hat
           rw [← Ny403.out] at ho
           have n0_ := Aside0.mk (Kd.V_afterv (ok := (fun k_ => (P1_ k_ ∨ w.heap.size ≤ k_) ∧ some k_ ≠ (v389 : Value).ownBlock ∧ some k_ ≠ (.slice Ao29 y394.length co29 : Value).ownBlock ∧ some k_ ≠ (.slice Ao28 y400.length co28 : Value).ownBlock ∧ k_ ≠ gb387)) (by (with_reducible repeat (first | apply Kd.V_alloc | apply Kd.V_drewN | apply Kd.V_drew)); exact Kd.V_mono HO_1.out (fun _ hk => ⟨⟨hk.1.1, ⟨hk.1.2.2.1, ⟨hk.1.2.2.2.1, ⟨hk.2, hk.1.2.2.2.2⟩⟩⟩⟩, hk.1.2.1⟩)) hg hat)
           have n1_ := Aside0.mk (Kd.V_afterv (ok := (fun k_ => (P1_ k_ ∨ w.heap.size ≤ k_) ∧ some k_ ≠ (v389 : Value).ownBlock ∧ some k_ ≠ (.slice Ao29 y394.length co29 : Value).ownBlock ∧ some k_ ≠ (.slice Ao28 y400.length co28 : Value).ownBlock ∧ k_ ≠ gb387)) (by (with_reducible repeat (first | apply Kd.V_alloc | apply Kd.V_drewN | apply Kd.V_drew)); exact Kd.V_mono HL386_2.out (fun _ hk => ⟨⟨hk.1.1, ⟨hk.1.2.2.1, ⟨hk.1.2.2.2.1, ⟨hk.2, hk.1.2.2.2.2⟩⟩⟩⟩, hk.1.2.1⟩)) hg hat)
           have n2_ := Aside0.mk (Kd.V_afterv (ok := (fun k_ => (P1_ k_ ∨ w.heap.size ≤ k_) ∧ some k_ ≠ (v389 : Value).ownBlock ∧ some k_ ≠ (.slice Ao29 y394.length co29 : Value).ownBlock ∧ some k_ ≠ (.slice Ao28 y400.length co28 : Value).ownBlock ∧ k_ ≠ gb387)) (by (with_reducible repeat (first | apply Kd.V_alloc | apply Kd.V_drewN | apply Kd.V_drew)); exact Kd.V_mono HL386_3.out (fun _ hk => ⟨⟨hk.1.1, ⟨hk.1.2.2.1, ⟨hk.1.2.2.2.1, ⟨hk.2, hk.1.2.2.2.2⟩⟩⟩⟩, hk.1.2.1⟩)) hg hat)
           have n3_ := Aside0.mk (blk_grown (g := gb387) (o := .cells #[.int .i64 ((rd_T46 l1 x7_1).f0), .int .i64 ((rd_T46 l1 x7_1).f1), .slice A386_2 ((rd_T46 l1 x7_1).f2).length c386_2, .slice A386_3 ((rd_T46 l1 x7_1).f3).length c386_3] 46 (0, 0)) (by (with_reducible repeat (first | refine blk_drewN ?_ _ | refine blk_drew ?_ | refine blk_alloc ?_ _)); exact BK387.out) hg (Kd.N_away HO_6.out (fun _ hk => hk.1.2.2.2)))
           have n4_ := Aside0.mk (Kd.N_afterv (ok := (fun k_ => (P1_ k_ ∨ w.heap.size ≤ k_) ∧ some k_ ≠ (.slice Ao29 y394.length co29 : Value).ownBlock ∧ some k_ ≠ (.slice Ao28 y400.length co28 : Value).ownBlock ∧ k_ ≠ gb387)) (by (with_reducible repeat (first | apply Kd.N_alloc | apply Kd.N_drewN | apply Kd.N_drew)); exact Kd.N_mono HO390.out (fun _ hk => ⟨⟨hk.1.1, ⟨hk.1.2.2.1, ⟨hk.2, hk.1.2.2.2⟩⟩⟩, hk.1.2.1⟩)) hg hat)
           have n5_ := Aside0.mk (hb)
           have n6_ := Aside0.mk (ho)
           clear HO_1
           clear HL386_2
           clear HL386_3
           clear BK387
           clear HO390
           clear HB
           clear HO_6
           clear HO396
           clear HO402
           have HO_1 := n0_
           have HL386_2 := n1_
           have HL386_3 := n2_
           have BK387 := n3_
           have HO390 := n4_
           have HB := n5_
           have HO405 := n6_
           clear n0_ n1_ n2_ n3_ n4_ n5_ n6_
           clear ho hb hg hat
           refine hK.out _ _ ⟨(blk_cell BK387.out 0).trans rfl, (blk_cell BK387.out 1).trans rfl, (blk_cell BK387.out 2).trans rfl, (blk_cell BK387.out 3).trans rfl⟩ (fun hHeld => ?_)
           clear hK K
           refine norm_ (a' := ?_) ?_ ?_
           rotate_left
           ·show Act.put _ (some 57) _ = _
            simp only [Act.put, List.setIfInBounds_toArray, List.set_cons_zero, List.set_cons_succ, i64_w, i32_w]
            rfl
           refine pure_ (i := 16) (N := some 6) (v := ?_) (a' := ?_) (vb 131071 17) rfl rfl (any_of HT_.out (by kernel_rfl)) (fun _ _ _ h => h) (Or.inl ⟨by rfl, ?_⟩) ?_ ?_
           rotate_left
           ·intro w'
            go_simp
            with_reducible rfl
           rotate_left
           ·simp only [Act.put, List.setIfInBounds_toArray, List.set_cons_zero, List.set_cons_succ, i64_w, i32_w]
            rfl
           refine done_ (done_of HT_.out (by kernel_rfl)) ?_
           try go_wp2
           go_roundg k1
           case measure => have := HK1.out; omega
           case rel => exact ⟨(y388), (y403), (wrap64 (x7_1 + 1)), (by first | rfl | (simp; done) | (simp [*]; done)), H', ⟨by have := HK1.out; omega⟩, ⟨by (with_reducible repeat (first | apply Kd.V_alloc | apply Kd.V_drewN | apply Kd.V_drew)); exact Kd.V_mono HO_1.out (fun _ hk => ⟨hk.1.1, ⟨hk.1.2.1, hk.2⟩⟩)⟩, ⟨by (with_reducible repeat (first | apply Kd.N_alloc | apply Kd.N_drewN | apply Kd.N_drew)); exact Kd.N_mono HO390.out (fun _ hk => ⟨hk.1.1, hk.2⟩)⟩, ⟨by (with_reducible repeat (first | apply Kd.N_alloc | apply Kd.N_drewN | apply Kd.N_drew)); exact Kd.N_mono HO405.out (fun _ hk => ⟨hk.1, hk.2.1⟩)⟩, ⟨by repeat (first | (with_reducible first | exact HB.out | apply below_alloc | apply pw_below_drewN | apply below_drew1 | refine below_set ?_ GE387.out) | exact HB.out)⟩⟩
          ·rw [if_neg c13] at H
           exact absurd H (by simp)
         ·rw [if_neg c12] at H
          exact absurd H (by simp)
        ·rw [if_neg c11] at H
         exact absurd H (by simp)
       ·rw [if_neg c10] at H
        exact absurd H (by simp)
      ·rw [if_neg c9] at H
       exact absurd H (by simp)
     ·rw [if_neg c8] at H
      have c8b0 : decide (x7_1 < (l1.length : Int)) = false := decide_eq_false c8
      clear c8
      obtain ⟨y406, hy406⟩ : ∃ y_ : List ByteArray, y_ = (([] : List ByteArray)) := ⟨_, rfl⟩
      replace H : (if y406.length + l0.length < 8796093022208 then ((some (y406 ++ l0 : List ByteArray)).bind fun y409 => ((diff_Apply.f k1 y409 x6_1).bind fun bt412 => ((forebearref05_Apply.f k1 l0 x5_1).bind fun bt416 => (if bt412.2 = bt416.2 then ((forebearref03_Same.f k1 bt412.1 bt416.1).bind fun t420 => (if t420 = true then ((forebearlaw05_same.f k1 x6_1 x5_1).bind fun t421 => (forebearlaw05_DiffApplies.j1 k1 l0 x5_1 x6_1 y409 bt412.1 (!t421))) else (forebearlaw05_DiffApplies.j1 k1 l0 x5_1 x6_1 y409 bt412.1 true))) else (forebearlaw05_DiffApplies.j1 k1 l0 x5_1 x6_1 y409 bt412.1 true))))) else (none)) = some r := by first | (rw [hy406]; with_reducible exact H) | (have H2_ := (Option.bind_some _ _).symm.trans H; rw [hy406]; with_reducible exact H2_) | (have H2_ := (Option.bind_some _ _).symm.trans H; with_reducible exact H2_) | with_reducible exact H | (rw [hy406]; exact H) | exact H
      have Ny406 := Aside0.mk hy406
      clear hy406
      by_cases c31 : y406.length + l0.length < 8796093022208
      ·rw [if_pos c31] at H
       have LMc31 := Aside0.mk c31
       clear c31
       obtain ⟨y409, hy409⟩ : ∃ y_ : List ByteArray, y_ = (y406 ++ l0) := ⟨_, rfl⟩
       replace H : ((diff_Apply.f k1 y409 x6_1).bind fun bt412 => ((forebearref05_Apply.f k1 l0 x5_1).bind fun bt416 => (if bt412.2 = bt416.2 then ((forebearref03_Same.f k1 bt412.1 bt416.1).bind fun t420 => (if t420 = true then ((forebearlaw05_same.f k1 x6_1 x5_1).bind fun t421 => (forebearlaw05_DiffApplies.j1 k1 l0 x5_1 x6_1 y409 bt412.1 (!t421))) else (forebearlaw05_DiffApplies.j1 k1 l0 x5_1 x6_1 y409 bt412.1 true))) else (forebearlaw05_DiffApplies.j1 k1 l0 x5_1 x6_1 y409 bt412.1 true)))) = some r := by first | (rw [hy409]; with_reducible exact H) | (have H2_ := (Option.bind_some _ _).symm.trans H; rw [hy409]; with_reducible exact H2_) | (have H2_ := (Option.bind_some _ _).symm.trans H; with_reducible exact H2_) | with_reducible exact H | (rw [hy409]; exact H) | exact H
       have Ny409 := Aside0.mk hy409
       clear hy409
       replace H := Option.bind_eq_some_iff.mp H
       obtain ⟨⟨t412, t413⟩, A320, H⟩ := H
       replace H : ((forebearref05_Apply.f k1 l0 x5_1).bind fun bt416 => (if t413 = bt416.2 then ((forebearref03_Same.f k1 t412 bt416.1).bind fun t420 => (if t420 = true then ((forebearlaw05_same.f k1 x6_1 x5_1).bind fun t421 => (forebearlaw05_DiffApplies.j1 k1 l0 x5_1 x6_1 y409 t412 (!t421))) else (forebearlaw05_DiffApplies.j1 k1 l0 x5_1 x6_1 y409 t412 true))) else (forebearlaw05_DiffApplies.j1 k1 l0 x5_1 x6_1 y409 t412 true))) = some r := H
       have A32 := Aside0.mk A320
       clear A320
       replace H := Option.bind_eq_some_iff.mp H
       obtain ⟨⟨t416, t417⟩, A330, H⟩ := H
       replace H : (if t413 = t417 then ((forebearref03_Same.f k1 t412 t416).bind fun t420 => (if t420 = true then ((forebearlaw05_same.f k1 x6_1 x5_1).bind fun t421 => (forebearlaw05_DiffApplies.j1 k1 l0 x5_1 x6_1 y409 t412 (!t421))) else (forebearlaw05_DiffApplies.j1 k1 l0 x5_1 x6_1 y409 t412 true))) else (forebearlaw05_DiffApplies.j1 k1 l0 x5_1 x6_1 y409 t412 true)) = some r := H
       have A33 := Aside0.mk A330
       clear A330
       have HC34 := Aside0.mk H
       clear H
       go_upto_region 16 with (first | ((with_reducible refine gate_dst (N := 58) rfl ?_); refine Kd.R_lit Kd.string _ 9 ?hg (N := 58) ?hd (xs := ([] : List ByteArray)) (inner := []) (ok := fun _ => True) (okp := fun _ => True) ?hr ?hp (fun _ hk => hk) trivial (Below.refl _ _) (Nat.le_refl _) (by simp) ?_; (case hd => rfl); (case hg => rfl); (case hr => first | (go_simp; done) | (go_simp; rfl)); (case hp => exact (Reps.none _ _)); intro v407 w35 ho36 hb hg_ hnew_; clear hg_ hnew_; (first | rw [← Ny406.out] at ho36 | (simp only [Int.reduceToNat] at ho36; rw [← Ny406.out] at ho36)); have n0_ := Aside0.mk (Kd.V_elder' (by (with_reducible repeat (first | apply Kd.V_alloc | apply Kd.V_drewN | apply Kd.V_drew)); exact HO_1.out) (Kd.R_base ho36) hb); have n1_ := Aside0.mk (Kd.N_elder' (by (with_reducible repeat (first | apply Kd.N_alloc | apply Kd.N_drewN | apply Kd.N_drew)); exact HO_5.out) (Kd.R_base ho36) hb); have n2_ := Aside0.mk (Kd.N_elder' (by (with_reducible repeat (first | apply Kd.N_alloc | apply Kd.N_drewN | apply Kd.N_drew)); exact HO_6.out) (Kd.R_base ho36) hb); have n3_ := Aside0.mk (Kd.R_lower (Kd.R_newM (M := fun k_ => (w.heap.size ≤ k_)) ho36 (below_size (by repeat (first | (with_reducible first | exact HB.out | apply below_alloc | apply pw_below_drewN | apply below_drew1) | exact HB.out))) (fun k_ h_ => h_)) (below_size (by repeat (first | (with_reducible first | exact HB.out | apply below_alloc | apply pw_below_drewN | apply below_drew1) | exact HB.out)))); have n4_ := Aside0.mk (below_step (by repeat (first | (with_reducible first | exact HB.out | apply below_alloc | apply pw_below_drewN | apply below_drew1) | exact HB.out)) hb); clear HO_1; clear HO_5; clear HO_6; clear HB; have HO_1 := n0_; have HO_5 := n1_; have HO_6 := n2_; have HO408 := n3_; have HB := n4_; clear n0_ n1_ n2_ n3_ n4_; clear hb ho36) | ((with_reducible refine gate_builtin (b := .append) (xs := #[.tmp 58, .tmp 59]) rfl ?_); at_builtin; refine Kd.R_append_rows Kd.string (w0 := w) w.heap.size rfl (.tmp 58) (.tmp 59) 22 9 (.string ⟨#[]⟩) 16 rfl Try.underlying22 info9 rfl (by decide) (by omega) v407 y406 l0 _ _ _ (fun k_ => (w.heap.size ≤ k_)) (fun _ => False) rfl rfl ?aO ?aR (fun _ _ h => h) (fun _ h => h.elim) ?aF ?aB ?aS ?aL ?_; (case aR => repeat (first | exact (Kd.C_below HR0.out HB.out) | (with_reducible refine Kd.C_alloc ?_ _) | (with_reducible refine Kd.C_drewN ?_ _) | (with_reducible refine Kd.C_drew ?_))); (case aB => exact (by repeat (first | (with_reducible first | exact HB.out | apply below_alloc | apply pw_below_drewN | apply below_drew1) | exact HB.out))); (case aF => exact (fun k_ hk => (Nat.le_trans (below_size (by repeat (first | (with_reducible first | exact HB.out | apply below_alloc | apply pw_below_drewN | apply below_drew1) | exact HB.out))) hk))); (case aO => exact (by (with_reducible repeat (first | apply Kd.R_alloc | apply Kd.R_drewN | apply Kd.R_drew)); exact Kd.R_mono HO408.out (fun _ hk => hk.1))); (case aS => exact (below_size (by repeat (first | (with_reducible first | exact HB.out | apply below_alloc | apply pw_below_drewN | apply below_drew1) | exact HB.out)))); (case aL => have := LMc31.out; omega); intro v410 w37 ho hb hg hat; rw [← Ny409.out] at ho; have n0_ := Aside0.mk (Kd.V_afterv (ok := (fun k_ => (P1_ k_ ∨ w.heap.size ≤ k_) ∧ some k_ ≠ (u5 : Value).ownBlock ∧ some k_ ≠ (u6 : Value).ownBlock)) (by (with_reducible repeat (first | apply Kd.V_alloc | apply Kd.V_drewN | apply Kd.V_drew)); exact HO_1.out) hg hat); have n1_ := Aside0.mk (Kd.N_afterv (ok := (fun k_ => (P1_ k_ ∨ w.heap.size ≤ k_) ∧ some k_ ≠ (u6 : Value).ownBlock)) (by (with_reducible repeat (first | apply Kd.N_alloc | apply Kd.N_drewN | apply Kd.N_drew)); exact HO_5.out) hg hat); have n2_ := Aside0.mk (Kd.N_afterv (ok := (fun k_ => (P1_ k_ ∨ w.heap.size ≤ k_) ∧ some k_ ≠ (u5 : Value).ownBlock)) (by (with_reducible repeat (first | apply Kd.N_alloc | apply Kd.N_drewN | apply Kd.N_drew)); exact HO_6.out) hg hat); have n3_ := Aside0.mk (hb); have n4_ := Aside0.mk (ho); clear HO_1; clear HO_5; clear HO_6; clear HB; clear HO408; have HO_1 := n0_; have HO_5 := n1_; have HO_6 := n2_; have HB := n3_; have HO411 := n4_; clear n0_ n1_ n2_ n3_ n4_; clear ho hb hg hat; obtain ⟨Ao38, co38, eo38⟩ := Kd.R_slice HO411.out; subst eo38; obtain ⟨Ao39, co39, eo39⟩ := Kd.N_slice HO_6.out; subst eo39) | ((with_reducible refine gate_callee (f := 18) rfl ?_); refine goesL_ (some 64) rfl rfl Try.func18 (by kernel_rfl) rfl #[.slice Ao38 y409.length co38, .slice Ao39 x6_1.length co39] rfl (by (try simp only [List.map_toArray, List.map_cons, List.map_nil]); first | done | rfl | (simp only [List.length_drop, List.length_take]; rfl)) ?_; (with_reducible refine (diff_Apply.calls k1 _ _ y409 _ _ x6_1 t412 t413 _ ?side1 ?side2 ?side3 ?side4 A32.out).mono ?_); (case side1 => repeat (first | exact (Kd.R_reads' HO411.out).2.2 | (with_reducible refine Kd.C_alloc ?_ _) | (with_reducible refine Kd.C_drewN ?_ _) | (with_reducible refine Kd.C_drew ?_))); (case side2 => exact (Kd.R_reads' HO411.out).2.1); (case side3 => repeat (first | exact (Kd.N_reads' HO_6.out).2.2 | (with_reducible refine Kd.C_alloc ?_ _) | (with_reducible refine Kd.C_drewN ?_ _) | (with_reducible refine Kd.C_drew ?_))); (case side4 => exact (Kd.N_reads' HO_6.out).2.1); rintro e w40 ⟨v414, rfl, ho0, hb⟩; refine ⟨_, rfl, ?_⟩; have n0_ := Aside0.mk (Kd.V_elder' (by (with_reducible repeat (first | apply Kd.V_alloc | apply Kd.V_drewN | apply Kd.V_drew)); exact HO_1.out) (Kd.R_base ho0) hb); have n1_ := Aside0.mk (Kd.N_elder' (by (with_reducible repeat (first | apply Kd.N_alloc | apply Kd.N_drewN | apply Kd.N_drew)); exact HO_5.out) (Kd.R_base ho0) hb); have n2_ := Aside0.mk (Kd.N_elder' (by (with_reducible repeat (first | apply Kd.N_alloc | apply Kd.N_drewN | apply Kd.N_drew)); exact HO_6.out) (Kd.R_base ho0) hb); have n3_ := Aside0.mk (Kd.R_elder' (by (with_reducible repeat (first | apply Kd.R_alloc | apply Kd.R_drewN | apply Kd.R_drew)); exact HO411.out) (Kd.R_base ho0) hb); have n4_ := Aside0.mk (Kd.R_lower (Kd.R_new' (Kd.R_newM (M := fun k_ => (w.heap.size ≤ k_)) ho0 (below_size (by repeat (first | (with_reducible first | exact HB.out | apply below_alloc | apply pw_below_drewN | apply below_drew1) | exact HB.out))) (fun k_ h_ => h_)) (Kd.R_lt (by (with_reducible repeat (first | apply Kd.R_alloc | apply Kd.R_drewN | apply Kd.R_drew)); exact HO411.out))) (below_size (by repeat (first | (with_reducible first | exact HB.out | apply below_alloc | apply pw_below_drewN | apply below_drew1) | exact HB.out)))); have n5_ := Aside0.mk (below_step (by repeat (first | (with_reducible first | exact HB.out | apply below_alloc | apply pw_below_drewN | apply below_drew1) | exact HB.out)) hb); clear HO_1; clear HO_5; clear HO_6; clear HO411; clear HB; have HO_1 := n0_; have HO_5 := n1_; have HO_6 := n2_; have HO411 := n3_; have HO415 := n4_; have HB := n5_; clear n0_ n1_ n2_ n3_ n4_ n5_; (try clear hb); (try clear hb2); (try clear hk); (try clear hi); (try clear ho0); obtain ⟨Ao41, co41, eo41⟩ := Kd.N_slice HO_5.out; subst eo41) | ((with_reducible refine gate_callee (f := 20) rfl ?_); refine goesL_ (some 70) rfl rfl Try.func20 (by kernel_rfl) rfl #[.slice A0 l0.length c0, .slice Ao41 x5_1.length co41] rfl (by (try simp only [List.map_toArray, List.map_cons, List.map_nil]); first | done | rfl | (simp only [List.length_drop, List.length_take]; rfl)) ?_; (with_reducible refine (forebearref05_Apply.calls k1 _ _ l0 _ _ x5_1 t416 t417 _ ?side1 ?side2 ?side3 ?side4 A33.out).mono ?_); (case side1 => repeat (first | exact (Kd.C_below HR0.out HB.out) | (with_reducible refine Kd.C_alloc ?_ _) | (with_reducible refine Kd.C_drewN ?_ _) | (with_reducible refine Kd.C_drew ?_))); (case side2 => exact HC0.out); (case side3 => repeat (first | exact (Kd.N_reads' HO_5.out).2.2 | (with_reducible refine Kd.C_alloc ?_ _) | (with_reducible refine Kd.C_drewN ?_ _) | (with_reducible refine Kd.C_drew ?_))); (case side4 => exact (Kd.N_reads' HO_5.out).2.1); rintro e w42 ⟨v418, rfl, ho0, hb⟩; refine ⟨_, rfl, ?_⟩; have n0_ := Aside0.mk (Kd.V_elder' (by (with_reducible repeat (first | apply Kd.V_alloc | apply Kd.V_drewN | apply Kd.V_drew)); exact HO_1.out) (Kd.R_base ho0) hb); have n1_ := Aside0.mk (Kd.N_elder' (by (with_reducible repeat (first | apply Kd.N_alloc | apply Kd.N_drewN | apply Kd.N_drew)); exact HO_5.out) (Kd.R_base ho0) hb); have n2_ := Aside0.mk (Kd.N_elder' (by (with_reducible repeat (first | apply Kd.N_alloc | apply Kd.N_drewN | apply Kd.N_drew)); exact HO_6.out) (Kd.R_base ho0) hb); have n3_ := Aside0.mk (Kd.R_elder' (by (with_reducible repeat (first | apply Kd.R_alloc | apply Kd.R_drewN | apply Kd.R_drew)); exact HO411.out) (Kd.R_base ho0) hb); have n4_ := Aside0.mk (Kd.R_elder' (by (with_reducible repeat (first | apply Kd.R_alloc | apply Kd.R_drewN | apply Kd.R_drew)); exact HO415.out) (Kd.R_base ho0) hb); have n5_ := Aside0.mk (Kd.R_lower (Kd.R_new' (Kd.R_new' (Kd.R_newM (M := fun k_ => (w.heap.size ≤ k_)) ho0 (below_size (by repeat (first | (with_reducible first | exact HB.out | apply below_alloc | apply pw_below_drewN | apply below_drew1) | exact HB.out))) (fun k_ h_ => h_)) (Kd.R_lt (by (with_reducible repeat (first | apply Kd.R_alloc | apply Kd.R_drewN | apply Kd.R_drew)); exact HO411.out))) (Kd.R_lt (by (with_reducible repeat (first | apply Kd.R_alloc | apply Kd.R_drewN | apply Kd.R_drew)); exact HO415.out))) (below_size (by repeat (first | (with_reducible first | exact HB.out | apply below_alloc | apply pw_below_drewN | apply below_drew1) | exact HB.out)))); have n6_ := Aside0.mk (below_step (by repeat (first | (with_reducible first | exact HB.out | apply below_alloc | apply pw_below_drewN | apply below_drew1) | exact HB.out)) hb); clear HO_1; clear HO_5; clear HO_6; clear HO411; clear HO415; clear HB; have HO_1 := n0_; have HO_5 := n1_; have HO_6 := n2_; have HO411 := n3_; have HO415 := n4_; have HO419 := n5_; have HB := n6_; clear n0_ n1_ n2_ n3_ n4_ n5_ n6_; (try clear hb); (try clear hb2); (try clear hk); (try clear hi); (try clear ho0)))
       (try simp only [Act.put, List.setIfInBounds_toArray, List.set_cons_zero, List.set_cons_succ])
       go_cut [87] (fun v87 wc => ∃ (kq : Nat) (x87_33 : Bool), v87 = .bool x87_33 ∧ Aside0 (forebearlaw05_DiffApplies.j1 kq l0 x5_1 x6_1 y409 t412 x87_33 = some r) ∧ Aside0 (kq ≤ k1) ∧ Aside0 (Kd.N k47 47 wc w.heap.size (fun k_ => (P1_ k_ ∨ w.heap.size ≤ k_) ∧ some k_ ≠ ((.slice Ao39 x6_1.length co39) : Value).ownBlock ∧ some k_ ≠ ((.slice Ao38 y409.length co38) : Value).ownBlock ∧ some k_ ≠ (v414 : Value).ownBlock) (.slice Ao41 x5_1.length co41) x5_1) ∧ Aside0 (Kd.N k46 46 wc w.heap.size (fun k_ => (P1_ k_ ∨ w.heap.size ≤ k_) ∧ some k_ ≠ ((.slice Ao41 x5_1.length co41) : Value).ownBlock ∧ some k_ ≠ ((.slice Ao38 y409.length co38) : Value).ownBlock ∧ some k_ ≠ (v414 : Value).ownBlock) (.slice Ao39 x6_1.length co39) x6_1) ∧ Aside0 (Kd.R Kd.string 9 wc w.heap.size (fun k_ => (w.heap.size ≤ k_) ∧ some k_ ≠ (v414 : Value).ownBlock) (.slice Ao38 y409.length co38) y409) ∧ Aside0 (Kd.R Kd.string 9 wc w.heap.size (fun k_ => (w.heap.size ≤ k_) ∧ some k_ ≠ ((.slice Ao38 y409.length co38) : Value).ownBlock) v414 t412) ∧ Aside0 (Below w.heap.size w wc))
       case first =>
        have H := HC34.out
        clear HC34
        by_cases c43 : t413 = t417
        ·rw [if_pos c43] at H
         have c43b0 : (t413 == t417) = true := beq_iff_eq.mpr c43
         have c43b1 : (t413 != t417) = false := bne_eq_false_iff_eq.mpr c43
         clear c43
         (first | rw [c43b0] | (simp only [i64_w, i32_w]; rw [c43b0]) | skip)
         replace H := Option.bind_eq_some_iff.mp H
         obtain ⟨t420, A440, H⟩ := H
         replace H : (if t420 = true then ((forebearlaw05_same.f k1 x6_1 x5_1).bind fun t421 => (forebearlaw05_DiffApplies.j1 k1 l0 x5_1 x6_1 y409 t412 (!t421))) else (forebearlaw05_DiffApplies.j1 k1 l0 x5_1 x6_1 y409 t412 true)) = some r := H
         have A44 := Aside0.mk A440
         clear A440
         by_cases c45 : t420 = true
         ·subst c45
          have H1 : ((forebearlaw05_same.f k1 x6_1 x5_1).bind fun t421 => (forebearlaw05_DiffApplies.j1 k1 l0 x5_1 x6_1 y409 t412 (!t421))) = some r := by rw [if_pos rfl] at H; exact H
          clear H
          have H := H1
          clear H1
          replace H := Option.bind_eq_some_iff.mp H
          obtain ⟨t421, A460, H⟩ := H
          replace H : (forebearlaw05_DiffApplies.j1 k1 l0 x5_1 x6_1 y409 t412 (!t421)) = some r := H
          have A46 := Aside0.mk A460
          clear A460
          have H' := Aside0.mk H
          clear H
          obtain ⟨Ao47, co47, eo47⟩ := Kd.R_slice HO415.out
          subst eo47
          obtain ⟨Ao48, co48, eo48⟩ := Kd.R_slice HO419.out
          subst eo48
          go_wp2_with (first | (go_at_call 19; (with_reducible refine (forebearref03_Same.calls k1 _ _ t412 _ _ t416 true _ ?side1 ?side2 ?side3 ?side4 A44.out).mono ?_); (case side1 => repeat (first | exact (Kd.R_reads' HO415.out).2.2 | (with_reducible refine Kd.C_alloc ?_ _) | (with_reducible refine Kd.C_drewN ?_ _) | (with_reducible refine Kd.C_drew ?_))); (case side2 => exact (Kd.R_reads' HO415.out).2.1); (case side3 => repeat (first | exact (Kd.R_reads' HO419.out).2.2 | (with_reducible refine Kd.C_alloc ?_ _) | (with_reducible refine Kd.C_drewN ?_ _) | (with_reducible refine Kd.C_drew ?_))); (case side4 => exact (Kd.R_reads' HO419.out).2.1); rintro e w' ⟨rfl, ⟨nd, rfl⟩⟩) | (go_at_call 17; (with_reducible refine (forebearlaw05_same.calls k1 _ _ x6_1 _ _ x5_1 t421 _ ?side1 ?side2 ?side3 ?side4 A46.out).mono ?_); (case side1 => repeat (first | exact (Kd.N_reads' HO_6.out).2.2 | (with_reducible refine Kd.C_alloc ?_ _) | (with_reducible refine Kd.C_drewN ?_ _) | (with_reducible refine Kd.C_drew ?_))); (case side2 => exact (Kd.N_reads' HO_6.out).2.1); (case side3 => repeat (first | exact (Kd.N_reads' HO_5.out).2.2 | (with_reducible refine Kd.C_alloc ?_ _) | (with_reducible refine Kd.C_drewN ?_ _) | (with_reducible refine Kd.C_drew ?_))); (case side4 => exact (Kd.N_reads' HO_5.out).2.1); rintro e w49 ⟨rfl, hb⟩; have n0_ := Aside0.mk (Kd.V_below (by (with_reducible repeat (first | apply Kd.V_alloc | apply Kd.V_drewN | apply Kd.V_drew)); exact HO_1.out) hb); have n1_ := Aside0.mk (Kd.N_below (by (with_reducible repeat (first | apply Kd.N_alloc | apply Kd.N_drewN | apply Kd.N_drew)); exact HO_5.out) hb); have n2_ := Aside0.mk (Kd.N_below (by (with_reducible repeat (first | apply Kd.N_alloc | apply Kd.N_drewN | apply Kd.N_drew)); exact HO_6.out) hb); have n3_ := Aside0.mk (Kd.R_below (by (with_reducible repeat (first | apply Kd.R_alloc | apply Kd.R_drewN | apply Kd.R_drew)); exact HO411.out) hb); have n4_ := Aside0.mk (Kd.R_below (by (with_reducible repeat (first | apply Kd.R_alloc | apply Kd.R_drewN | apply Kd.R_drew)); exact HO415.out) hb); have n5_ := Aside0.mk (Kd.R_below (by (with_reducible repeat (first | apply Kd.R_alloc | apply Kd.R_drewN | apply Kd.R_drew)); exact HO419.out) hb); have n6_ := Aside0.mk (below_step (by repeat (first | (with_reducible first | exact HB.out | apply below_alloc | apply pw_below_drewN | apply below_drew1) | exact HB.out)) hb); clear HO_1; clear HO_5; clear HO_6; clear HO411; clear HO415; clear HO419; clear HB; have HO_1 := n0_; have HO_5 := n1_; have HO_6 := n2_; have HO411 := n3_; have HO415 := n4_; have HO419 := n5_; have HB := n6_; clear n0_ n1_ n2_ n3_ n4_ n5_ n6_; (try clear hb); (try clear hb2); (try clear hk); (try clear hi)))
          go_meet
          case rel => exact ⟨_, (!t421), (by first | rfl | (simp; done) | (simp [*]; done)), H', ⟨by have := HK1.out; first | omega | exact Nat.le_refl _⟩, ⟨by (with_reducible repeat (first | apply Kd.N_alloc | apply Kd.N_drewN | apply Kd.N_drew)); exact Kd.N_mono HO_5.out (fun _ hk => ⟨hk.1.1.1.1, ⟨hk.1.1.1.2, ⟨hk.1.1.2, hk.1.2⟩⟩⟩)⟩, ⟨by (with_reducible repeat (first | apply Kd.N_alloc | apply Kd.N_drewN | apply Kd.N_drew)); exact Kd.N_mono HO_6.out (fun _ hk => ⟨hk.1.1.1.1, ⟨hk.1.1.1.2, ⟨hk.1.1.2, hk.1.2⟩⟩⟩)⟩, ⟨by (with_reducible repeat (first | apply Kd.R_alloc | apply Kd.R_drewN | apply Kd.R_drew)); exact Kd.R_mono HO411.out (fun _ hk => ⟨hk.1.1, hk.1.2⟩)⟩, ⟨by (with_reducible repeat (first | apply Kd.R_alloc | apply Kd.R_drewN | apply Kd.R_drew)); exact Kd.R_mono HO415.out (fun _ hk => ⟨hk.1.1.1, hk.1.2⟩)⟩, ⟨by repeat (first | (with_reducible first | exact HB.out | apply below_alloc | apply pw_below_drewN | apply below_drew1) | exact HB.out)⟩⟩
         ·replace c45 := Bool.eq_false_iff.mpr c45
          subst c45
          have H1 : (forebearlaw05_DiffApplies.j1 k1 l0 x5_1 x6_1 y409 t412 true) = some r := by rw [if_neg (show ¬ (false = true) by decide)] at H; exact H
          clear H
          have H := H1
          clear H1
          have H' := Aside0.mk H
          clear H
          obtain ⟨Ao50, co50, eo50⟩ := Kd.R_slice HO415.out
          subst eo50
          obtain ⟨Ao51, co51, eo51⟩ := Kd.R_slice HO419.out
          subst eo51
          go_wp2_with (first | (go_at_call 19; (with_reducible refine (forebearref03_Same.calls k1 _ _ t412 _ _ t416 false _ ?side1 ?side2 ?side3 ?side4 A44.out).mono ?_); (case side1 => repeat (first | exact (Kd.R_reads' HO415.out).2.2 | (with_reducible refine Kd.C_alloc ?_ _) | (with_reducible refine Kd.C_drewN ?_ _) | (with_reducible refine Kd.C_drew ?_))); (case side2 => exact (Kd.R_reads' HO415.out).2.1); (case side3 => repeat (first | exact (Kd.R_reads' HO419.out).2.2 | (with_reducible refine Kd.C_alloc ?_ _) | (with_reducible refine Kd.C_drewN ?_ _) | (with_reducible refine Kd.C_drew ?_))); (case side4 => exact (Kd.R_reads' HO419.out).2.1); rintro e w' ⟨rfl, ⟨nd, rfl⟩⟩))
          go_meet
          case rel => exact ⟨_, (true), (by first | rfl | (simp; done) | (simp [*]; done)), H', ⟨by have := HK1.out; first | omega | exact Nat.le_refl _⟩, ⟨by (with_reducible repeat (first | apply Kd.N_alloc | apply Kd.N_drewN | apply Kd.N_drew)); exact Kd.N_mono HO_5.out (fun _ hk => ⟨hk.1.1.1.1, ⟨hk.1.1.1.2, ⟨hk.1.1.2, hk.1.2⟩⟩⟩)⟩, ⟨by (with_reducible repeat (first | apply Kd.N_alloc | apply Kd.N_drewN | apply Kd.N_drew)); exact Kd.N_mono HO_6.out (fun _ hk => ⟨hk.1.1.1.1, ⟨hk.1.1.1.2, ⟨hk.1.1.2, hk.1.2⟩⟩⟩)⟩, ⟨by (with_reducible repeat (first | apply Kd.R_alloc | apply Kd.R_drewN | apply Kd.R_drew)); exact Kd.R_mono HO411.out (fun _ hk => ⟨hk.1.1, hk.1.2⟩)⟩, ⟨by (with_reducible repeat (first | apply Kd.R_alloc | apply Kd.R_drewN | apply Kd.R_drew)); exact Kd.R_mono HO415.out (fun _ hk => ⟨hk.1.1.1, hk.1.2⟩)⟩, ⟨by repeat (first | (with_reducible first | exact HB.out | apply below_alloc | apply pw_below_drewN | apply below_drew1) | exact HB.out)⟩⟩
        ·rw [if_neg c43] at H
         have c43b0 : (t413 == t417) = false := beq_eq_false_iff_ne.mpr c43
         have c43b1 : (t413 != t417) = true := bne_iff_ne.mpr c43
         (first | rw [c43b0] | (simp only [i64_w, i32_w]; rw [c43b0]) | skip)
         have H' := Aside0.mk H
         clear H
         go_wp2
         go_meet
         case rel => exact ⟨_, (true), (by first | rfl | (simp; done) | (simp [*]; done)), H', ⟨by have := HK1.out; first | omega | exact Nat.le_refl _⟩, ⟨by (with_reducible repeat (first | apply Kd.N_alloc | apply Kd.N_drewN | apply Kd.N_drew)); exact Kd.N_mono HO_5.out (fun _ hk => ⟨hk.1.1.1.1, ⟨hk.1.1.1.2, ⟨hk.1.1.2, hk.1.2⟩⟩⟩)⟩, ⟨by (with_reducible repeat (first | apply Kd.N_alloc | apply Kd.N_drewN | apply Kd.N_drew)); exact Kd.N_mono HO_6.out (fun _ hk => ⟨hk.1.1.1.1, ⟨hk.1.1.1.2, ⟨hk.1.1.2, hk.1.2⟩⟩⟩)⟩, ⟨by (with_reducible repeat (first | apply Kd.R_alloc | apply Kd.R_drewN | apply Kd.R_drew)); exact Kd.R_mono HO411.out (fun _ hk => ⟨hk.1.1, hk.1.2⟩)⟩, ⟨by (with_reducible repeat (first | apply Kd.R_alloc | apply Kd.R_drewN | apply Kd.R_drew)); exact Kd.R_mono HO415.out (fun _ hk => ⟨hk.1.1.1, hk.1.2⟩)⟩, ⟨by repeat (first | (with_reducible first | exact HB.out | apply below_alloc | apply pw_below_drewN | apply below_drew1) | exact HB.out)⟩⟩
       case rest =>
        clear HC34
        try clear c1
        try clear c2
        try clear p2
        try clear c3
        try clear c4
        try clear p6
        try clear c8
        try clear c8b0
        try clear c9
        try clear c10
        try clear c11
        try clear c12
        try clear c13
        try clear c18
        try clear c20
        try clear c31
        try clear c38
        try clear c43
        try clear c43b0
        try clear c43b1
        try clear c45
        obtain ⟨kq, x87_33, rfl, HA, HJ33, HO_5, HO_6, HO_9, HO_10, HB⟩ := hcut
        cases kq with
        | zero => exact absurd HA.out (by simp [forebearlaw05_DiffApplies.j1])
        | succ kj33 =>
         have H := HA.out
         clear HA
         simp only [forebearlaw05_DiffApplies.j1] at H
         by_cases c52 : x87_33 = true
         ·subst c52
          have H1 : (some false) = some r := by rw [if_pos rfl] at H; exact H
          clear H
          have H := H1
          clear H1
          obtain rfl := Option.some.inj H
          go_wp2
          go_ret
          exact ⟨by first | rfl | (simp [errW_none, errW_some] <;> rfl) | (simp [*, errW_none, errW_some] <;> rfl), by repeat (first | (with_reducible first | exact HB.out | apply below_alloc | apply pw_below_drewN | apply below_drew1) | exact HB.out)⟩
         ·replace c52 := Bool.eq_false_iff.mpr c52
          subst c52
          have H1 : (forebearlaw05_DiffApplies.l1 kj33 l0 x5_1 x6_1 y409 t412 0) = some r := by rw [if_neg (show ¬ (false = true) by decide)] at H; exact H
          clear H
          have H := H1
          clear H1
          have H' := Aside0.mk H
          clear H
          go_wp2
          go_loopg [14] kj33 (fun kq v14 w' => ∃ (x10_3 : List ByteArray) (x14_3 : Int), v14 = .int .i64 x14_3 ∧ Aside0 (forebearlaw05_DiffApplies.l1 kq l0 x5_1 x6_1 y409 x10_3 x14_3 = some r) ∧ Aside0 (kq ≤ kj33) ∧ Aside0 (Kd.N k47 47 w' w.heap.size (fun k_ => (P1_ k_ ∨ w.heap.size ≤ k_) ∧ some k_ ≠ ((.slice Ao39 x6_1.length co39) : Value).ownBlock ∧ some k_ ≠ ((.slice Ao38 y409.length co38) : Value).ownBlock ∧ some k_ ≠ (v414 : Value).ownBlock) (.slice Ao41 x5_1.length co41) x5_1) ∧ Aside0 (Kd.N k46 46 w' w.heap.size (fun k_ => (P1_ k_ ∨ w.heap.size ≤ k_) ∧ some k_ ≠ ((.slice Ao41 x5_1.length co41) : Value).ownBlock ∧ some k_ ≠ ((.slice Ao38 y409.length co38) : Value).ownBlock ∧ some k_ ≠ (v414 : Value).ownBlock) (.slice Ao39 x6_1.length co39) x6_1) ∧ Aside0 (Kd.R Kd.string 9 w' w.heap.size (fun k_ => (w.heap.size ≤ k_) ∧ some k_ ≠ (v414 : Value).ownBlock) (.slice Ao38 y409.length co38) y409) ∧ Aside0 (Kd.R Kd.string 9 w' w.heap.size (fun k_ => (w.heap.size ≤ k_) ∧ some k_ ≠ ((.slice Ao38 y409.length co38) : Value).ownBlock) v414 x10_3) ∧ Aside0 (Below w.heap.size w w'))
          case atStart => exact ⟨(t412), (0), (by first | rfl | (simp; done) | (simp [*]; done)), H', ⟨Nat.le_refl _⟩, ⟨by (with_reducible repeat (first | apply Kd.N_alloc | apply Kd.N_drewN | apply Kd.N_drew)); exact HO_5.out⟩, ⟨by (with_reducible repeat (first | apply Kd.N_alloc | apply Kd.N_drewN | apply Kd.N_drew)); exact HO_6.out⟩, ⟨by (with_reducible repeat (first | apply Kd.R_alloc | apply Kd.R_drewN | apply Kd.R_drew)); exact HO_9.out⟩, ⟨by (with_reducible repeat (first | apply Kd.R_alloc | apply Kd.R_drewN | apply Kd.R_drew)); exact HO_10.out⟩, ⟨by repeat (first | (with_reducible first | exact HB.out | apply below_alloc | apply pw_below_drewN | apply below_drew1) | exact HB.out)⟩⟩
          case round =>
           clear H'
           try clear c1
           try clear c2
           try clear p2
           try clear c3
           try clear c4
           try clear c5
           try clear p6
           try clear c8
           try clear c8b0
           try clear c9
           try clear c10
           try clear c11
           try clear c12
           try clear c13
           try clear c18
           try clear c20
           try clear c31
           try clear c38
           try clear c43
           try clear c43b0
           try clear c43b1
           try clear c45
           try clear c52
           try clear p2
           try clear p6
           obtain ⟨x10_3, x14_3, rfl, HA, HK3, HO_5, HO_6, HO_9, HO_10, HB⟩ := hrel
           cases gk with
           | zero => exact absurd HA.out (by simp [forebearlaw05_DiffApplies.l1])
           | succ k3 =>
            have H := HA.out
            clear HA
            simp only [forebearlaw05_DiffApplies.l1] at H
            by_cases c53 : x14_3 < (x10_3.length : Int)
            ·rw [if_pos c53] at H
             have c53b0 : decide (x14_3 < (x10_3.length : Int)) = true := decide_eq_true c53
             clear c53
             by_cases c54 : 0 ≤ x14_3
             ·rw [if_pos c54] at H
              have c54b0 : decide (0 ≤ x14_3) = true := decide_eq_true c54
              clear c54
              obtain ⟨y422, hy422⟩ : ∃ y_ : List ByteArray, y_ = (x10_3.set (x14_3 : Int).toNat (⟨#[109, 97, 114, 107, 101, 100]⟩ : ByteArray)) := ⟨_, rfl⟩
              replace H : (forebearlaw05_DiffApplies.l1 k3 l0 x5_1 x6_1 y409 y422 (wrap64 (x14_3 + 1))) = some r := by first | (rw [hy422]; with_reducible exact H) | (have H2_ := (Option.bind_some _ _).symm.trans H; rw [hy422]; with_reducible exact H2_) | (have H2_ := (Option.bind_some _ _).symm.trans H; with_reducible exact H2_) | with_reducible exact H | (rw [hy422]; exact H) | exact H
              have Ny422 := Aside0.mk hy422
              clear hy422
              have H' := Aside0.mk H
              clear H
              obtain ⟨Ao56, co56, eo56⟩ := Kd.R_slice HO_10.out
              subst eo56
              have p55 : 0 ≤ (x14_3 : Int) := of_decide_eq_true (by first | (with_reducible assumption) | assumption)
              have q55 : (x14_3 : Int) < ((x10_3.length : Int) : Int) := of_decide_eq_true (by first | (with_reducible assumption) | assumption)
              obtain ⟨go55, co55, eo55, gb55, gl55, cl55, HG55⟩ := Kd.R_form HO_10.out (by omega)
              (first | cases eo55 | (injection eo55 with ea_ en_ ec_; (first | subst ea_ | (injection ea_ with ea_; subst ea_)); subst ec_; clear en_))
              have GB55 := Aside0.mk gb55
              have GG55 := Aside0.mk HG55
              clear gb55 gl55 HG55
              obtain ⟨hx55_0, hf55_0⟩ := Kd.R_celln (⟨#[]⟩ : ByteArray) HO_10.out (x14_3 : Int) p55 q55
              replace p55 := eq_true p55
              replace q55 := eq_true q55
              have HP57 := Kd.R_putg HO_10.out (x14_3 : Int) (⟨#[109, 97, 114, 107, 101, 100]⟩ : ByteArray)
              go_wp2_with (first | ((with_reducible refine gate_store (t := 9) (p := 96) rfl ?_); refine store_event (t := 9) (p := 96) (v := ?vo_w58) (w1 := (wr.setCell ⟨go55, (x14_3 : Int).toNat, none⟩ (.string (⟨#[109, 97, 114, 107, 101, 100]⟩ : ByteArray)))) ?hg ?ho ?hn ?hr ?_; (case ho => rfl); (case hg => rfl); (case hn => rfl); (case hr => first | (go_simp; done) | (go_simp; rfl)); intro w58 hw; have hg : wr.grownBy w58 (some go55) := (by rw [hw]; exact HP57.2); have hp_ : Kd.R Kd.string 9 w58 w.heap.size (fun k_ => (w.heap.size ≤ k_) ∧ some k_ ≠ (.slice Ao38 y409.length co38 : Value).ownBlock) (.slice (some ⟨go55, 0, none⟩) x10_3.length co56) y422 := (by rw [hw, Ny422.out]; exact HP57.1); clear HP57; have n0_ := Aside0.mk (Kd.N_afterv (v := (.slice (some ⟨go55, 0, none⟩) x10_3.length co56)) (v1 := (.slice (some ⟨go55, 0, none⟩) x10_3.length co56)) (ok := (fun k_ => (P1_ k_ ∨ w.heap.size ≤ k_) ∧ some k_ ≠ (.slice Ao39 x6_1.length co39 : Value).ownBlock ∧ some k_ ≠ (.slice Ao38 y409.length co38 : Value).ownBlock)) (by (with_reducible repeat (first | apply Kd.N_alloc | apply Kd.N_drewN | apply Kd.N_drew)); exact Kd.N_mono HO_5.out (fun _ hk => ⟨⟨hk.1, ⟨hk.2.1, hk.2.2.1⟩⟩, hk.2.2.2⟩)) hg (.inl rfl)); have n1_ := Aside0.mk (Kd.N_afterv (v := (.slice (some ⟨go55, 0, none⟩) x10_3.length co56)) (v1 := (.slice (some ⟨go55, 0, none⟩) x10_3.length co56)) (ok := (fun k_ => (P1_ k_ ∨ w.heap.size ≤ k_) ∧ some k_ ≠ (.slice Ao41 x5_1.length co41 : Value).ownBlock ∧ some k_ ≠ (.slice Ao38 y409.length co38 : Value).ownBlock)) (by (with_reducible repeat (first | apply Kd.N_alloc | apply Kd.N_drewN | apply Kd.N_drew)); exact Kd.N_mono HO_6.out (fun _ hk => ⟨⟨hk.1, ⟨hk.2.1, hk.2.2.1⟩⟩, hk.2.2.2⟩)) hg (.inl rfl)); have n2_ := Aside0.mk (Kd.R_after (v := (.slice (some ⟨go55, 0, none⟩) x10_3.length co56)) (v1 := (.slice (some ⟨go55, 0, none⟩) x10_3.length co56)) (ok := (fun k_ => (w.heap.size ≤ k_))) (by (with_reducible repeat (first | apply Kd.R_alloc | apply Kd.R_drewN | apply Kd.R_drew)); exact HO_9.out) hg (.inl rfl)); have n3_ := Aside0.mk (hp_); have n4_ := Aside0.mk ((by rw [hw]; exact below_set (HB.out) GB55.out : Below w.heap.size w w58)); clear HO_5; clear HO_6; clear HO_9; clear HO_10; clear HB; have HO_5 := n0_; have HO_6 := n1_; have HO_9 := n2_; have HO_10 := n3_; have HB := n4_; clear n0_ n1_ n2_ n3_ n4_; clear hg hw hp_))
              go_roundg k3
              case measure => have := HK1.out; have := HJ33.out; have := HK3.out; omega
              case rel => exact ⟨(y422), (wrap64 (x14_3 + 1)), (by first | rfl | (simp; done) | (simp [*]; done)), H', ⟨by have := HK1.out; have := HJ33.out; have := HK3.out; omega⟩, ⟨by (with_reducible repeat (first | apply Kd.N_alloc | apply Kd.N_drewN | apply Kd.N_drew)); exact Kd.N_mono HO_5.out (fun _ hk => ⟨hk.1.1, ⟨hk.1.2.1, ⟨hk.1.2.2, hk.2⟩⟩⟩)⟩, ⟨by (with_reducible repeat (first | apply Kd.N_alloc | apply Kd.N_drewN | apply Kd.N_drew)); exact Kd.N_mono HO_6.out (fun _ hk => ⟨hk.1.1, ⟨hk.1.2.1, ⟨hk.1.2.2, hk.2⟩⟩⟩)⟩, ⟨by (with_reducible repeat (first | apply Kd.R_alloc | apply Kd.R_drewN | apply Kd.R_drew)); exact HO_9.out⟩, ⟨by (with_reducible repeat (first | apply Kd.R_alloc | apply Kd.R_drewN | apply Kd.R_drew)); exact HO_10.out⟩, ⟨by repeat (first | (with_reducible first | exact HB.out | apply below_alloc | apply pw_below_drewN | apply below_drew1) | exact HB.out)⟩⟩
             ·rw [if_neg c54] at H
              exact absurd H (by simp)
            ·rw [if_neg c53] at H
             have c53b0 : decide (x14_3 < (x10_3.length : Int)) = false := decide_eq_false c53
             clear c53
             replace H := Option.bind_eq_some_iff.mp H
             obtain ⟨t423, A590, H⟩ := H
             replace H : (if t423 = true then ((forebearlaw05_same.f k3 x6_1 x5_1).bind fun t424 => (some t424)) else (some false)) = some r := H
             have A59 := Aside0.mk A590
             clear A590
             by_cases c60 : t423 = true
             ·subst c60
              have H1 : ((forebearlaw05_same.f k3 x6_1 x5_1).bind fun t424 => (some t424)) = some r := by rw [if_pos rfl] at H; exact H
              clear H
              have H := H1
              clear H1
              replace H := Option.bind_eq_some_iff.mp H
              obtain ⟨t424, A610, H⟩ := H
              replace H : (some t424) = some r := H
              have A61 := Aside0.mk A610
              clear A610
              obtain rfl := Option.some.inj H
              obtain ⟨Ao62, co62, eo62⟩ := Kd.R_slice HO_10.out
              subst eo62
              go_wp2_with (first | ((with_reducible refine gate_callee (f := 19) rfl ?_); refine goesL_ (some 99) rfl rfl Try.func19 (by kernel_rfl) rfl #[.slice Ao38 y409.length co38, .slice A0 l0.length c0] rfl (by (try simp only [List.map_toArray, List.map_cons, List.map_nil]); first | done | rfl | (simp only [List.length_drop, List.length_take]; rfl)) ?_; (with_reducible refine (forebearref03_Same.calls k3 _ _ y409 _ _ l0 true _ ?side1 ?side2 ?side3 ?side4 A59.out).mono ?_); (case side1 => repeat (first | exact (Kd.R_reads' HO_9.out).2.2 | (with_reducible refine Kd.C_alloc ?_ _) | (with_reducible refine Kd.C_drewN ?_ _) | (with_reducible refine Kd.C_drew ?_))); (case side2 => exact (Kd.R_reads' HO_9.out).2.1); (case side3 => repeat (first | exact (Kd.C_below HR0.out HB.out) | (with_reducible refine Kd.C_alloc ?_ _) | (with_reducible refine Kd.C_drewN ?_ _) | (with_reducible refine Kd.C_drew ?_))); (case side4 => exact HC0.out); rintro e w' ⟨rfl, ⟨nd, rfl⟩⟩; refine ⟨_, rfl, ?_⟩) | (go_at_call 17; (with_reducible refine (forebearlaw05_same.calls k3 _ _ x6_1 _ _ x5_1 t424 _ ?side1 ?side2 ?side3 ?side4 A61.out).mono ?_); (case side1 => repeat (first | exact (Kd.N_reads' HO_6.out).2.2 | (with_reducible refine Kd.C_alloc ?_ _) | (with_reducible refine Kd.C_drewN ?_ _) | (with_reducible refine Kd.C_drew ?_))); (case side2 => exact (Kd.N_reads' HO_6.out).2.1); (case side3 => repeat (first | exact (Kd.N_reads' HO_5.out).2.2 | (with_reducible refine Kd.C_alloc ?_ _) | (with_reducible refine Kd.C_drewN ?_ _) | (with_reducible refine Kd.C_drew ?_))); (case side4 => exact (Kd.N_reads' HO_5.out).2.1); rintro e w63 ⟨rfl, hb⟩; have n0_ := Aside0.mk (Kd.N_below (by (with_reducible repeat (first | apply Kd.N_alloc | apply Kd.N_drewN | apply Kd.N_drew)); exact HO_5.out) hb); have n1_ := Aside0.mk (Kd.N_below (by (with_reducible repeat (first | apply Kd.N_alloc | apply Kd.N_drewN | apply Kd.N_drew)); exact HO_6.out) hb); have n2_ := Aside0.mk (Kd.R_below (by (with_reducible repeat (first | apply Kd.R_alloc | apply Kd.R_drewN | apply Kd.R_drew)); exact HO_9.out) hb); have n3_ := Aside0.mk (Kd.R_below (by (with_reducible repeat (first | apply Kd.R_alloc | apply Kd.R_drewN | apply Kd.R_drew)); exact HO_10.out) hb); have n4_ := Aside0.mk (below_step (by repeat (first | (with_reducible first | exact HB.out | apply below_alloc | apply pw_below_drewN | apply below_drew1) | exact HB.out)) hb); clear HO_5; clear HO_6; clear HO_9; clear HO_10; clear HB; have HO_5 := n0_; have HO_6 := n1_; have HO_9 := n2_; have HO_10 := n3_; have HB := n4_; clear n0_ n1_ n2_ n3_ n4_; (try clear hb); (try clear hb2); (try clear hk); (try clear hi)))
              go_ret
              exact ⟨by first | rfl | (simp [errW_none, errW_some] <;> rfl) | (simp [*, errW_none, errW_some] <;> rfl), by repeat (first | (with_reducible first | exact HB.out | apply below_alloc | apply pw_below_drewN | apply below_drew1) | exact HB.out)⟩
             ·replace c60 := Bool.eq_false_iff.mpr c60
              subst c60
              have H1 : (some false) = some r := by rw [if_neg (show ¬ (false = true) by decide)] at H; exact H
              clear H
              have H := H1
              clear H1
              obtain rfl := Option.some.inj H
              obtain ⟨Ao64, co64, eo64⟩ := Kd.R_slice HO_10.out
              subst eo64
              go_wp2_with (first | ((with_reducible refine gate_callee (f := 19) rfl ?_); refine goesL_ (some 99) rfl rfl Try.func19 (by kernel_rfl) rfl #[.slice Ao38 y409.length co38, .slice A0 l0.length c0] rfl (by (try simp only [List.map_toArray, List.map_cons, List.map_nil]); first | done | rfl | (simp only [List.length_drop, List.length_take]; rfl)) ?_; (with_reducible refine (forebearref03_Same.calls k3 _ _ y409 _ _ l0 false _ ?side1 ?side2 ?side3 ?side4 A59.out).mono ?_); (case side1 => repeat (first | exact (Kd.R_reads' HO_9.out).2.2 | (with_reducible refine Kd.C_alloc ?_ _) | (with_reducible refine Kd.C_drewN ?_ _) | (with_reducible refine Kd.C_drew ?_))); (case side2 => exact (Kd.R_reads' HO_9.out).2.1); (case side3 => repeat (first | exact (Kd.C_below HR0.out HB.out) | (with_reducible refine Kd.C_alloc ?_ _) | (with_reducible refine Kd.C_drewN ?_ _) | (with_reducible refine Kd.C_drew ?_))); (case side4 => exact HC0.out); rintro e w' ⟨rfl, ⟨nd, rfl⟩⟩; refine ⟨_, rfl, ?_⟩))
              go_ret
              exact ⟨by first | rfl | (simp [errW_none, errW_some] <;> rfl) | (simp [*, errW_none, errW_some] <;> rfl), by repeat (first | (with_reducible first | exact HB.out | apply below_alloc | apply pw_below_drewN | apply below_drew1) | exact HB.out)⟩
      ·rw [if_neg c31] at H
       exact absurd H (by simp)
 ·replace c4 := Bool.eq_false_iff.mpr c4
  subst c4
  have H1 : (some false) = some r := by rw [if_neg (show ¬ (false = true) by decide)] at H; exact H
  clear H
  have H := H1
  clear H1
  obtain rfl := Option.some.inj H
  go_enter Try.func6, Try.ntmps6
  go_wp2_with (first | ((with_reducible refine gate_callee (f := 12) rfl ?_); refine goesL_ (some 15) rfl rfl Try.func12 (by kernel_rfl) rfl #[] rfl (by (try simp only [List.map_toArray, List.map_cons, List.map_nil]); first | done | rfl | (simp only [List.length_drop, List.length_take]; rfl)) ?_; (with_reducible refine (forebearlaw05_awake.calls k  false _ A3.out).mono ?_); rintro e w65 ⟨rfl, hb⟩; refine ⟨_, rfl, ?_⟩; have n0_ := Aside0.mk (Kd.V_below (by (with_reducible repeat (first | apply Kd.V_alloc | apply Kd.V_drewN | apply Kd.V_drew)); exact HO1.out) hb); have n1_ := Aside0.mk (below_step (by repeat (first | (with_reducible first | exact HB.out | apply below_alloc | apply pw_below_drewN | apply below_drew1) | exact HB.out)) hb); clear HO1; clear HB; have HO1 := n0_; have HB := n1_; clear n0_ n1_; (try clear hb); (try clear hb2); (try clear hk); (try clear hi)))
  go_ret
  exact ⟨by first | rfl | (simp [errW_none, errW_some] <;> rfl) | (simp [*, errW_none, errW_some] <;> rfl), by repeat (first | (with_reducible first | exact HB.out | apply below_alloc | apply pw_below_drewN | apply below_drew1) | exact HB.out)⟩

def gS46 (x : S46) : Prop := ((Lit.int .i64 x.f0).wf = true) ∧ ((Lit.int .i64 x.f1).wf = true) ∧ ((x.f2.length * 16 ≤ 140737488351232 ∧ x.f2.length ≤ 9223372036854775807 ∧ ∀ y_xf2 ∈ x.f2, y_xf2.size ≤ 140737488351232)) ∧ (x.f3.length * 16 ≤ 140737488351232 ∧ x.f3.length ≤ 9223372036854775807 ∧ ∀ y_xf3 ∈ x.f3, y_xf3.size ≤ 140737488351232)
theorem oS46 : Opn Try.prog 46 k46 gS46 := opn_struct (fun x : S46 => (x.f0, x.f1, x.f2, x.f3)) (fun p => ⟨p.1, p.2.1, p.2.2.1, p.2.2.2⟩) (fun _ => rfl) Try.underlying46 (by kernel_rfl) (opnF_cons rfl (by kernel_rfl) (opn_int Try.underlying3) (opnF_cons rfl (by kernel_rfl) (opn_int Try.underlying3) (opnF_cons rfl (by kernel_rfl) (opn_slice (B := 16) Try.underlying22 (by kernel_rfl) (by kernel_rfl) (opn_string Try.underlying9)) (opnF_one rfl (by kernel_rfl) (opn_slice (B := 16) Try.underlying22 (by kernel_rfl) (by kernel_rfl) (opn_string Try.underlying9))))))
def bS46 (x : S46) : Nat := 1 + (1 + (((x.f2.map fun z_xf2 => (z_xf2.size + 1)).sum + 1) + (((x.f3.map fun z_xf3 => (z_xf3.size + 1)).sum + 1)))) + 1
/-- THE ONE PURE STATEMENT of forebearlaw05_DiffApplies. -/
def forebearlaw05_DiffApplies.Pure : Prop := ∀ (l0 : List ByteArray) (l1 : List (S46)), (l0.length * 16 ≤ 140737488351232 ∧ l0.length ≤ 9223372036854775807 ∧ ∀ y_l0 ∈ l0, y_l0.size ≤ 140737488351232) → (l1.length * 64 ≤ 140737488351232 ∧ l1.length ≤ 9223372036854775807 ∧ ∀ y_l1 ∈ l1, gS46 y_l1) → ((l0.map fun z_l0 => (z_l0.size + 1)).sum + 1) + ((l1.map fun z_l1 => (bS46 z_l1)).sum + 1) ≤ 1048576 → ∃ k, forebearlaw05_DiffApplies.f k l0 l1 = some true
theorem forebearlaw05_DiffApplies.walk (P : forebearlaw05_DiffApplies.Pure) (l0 : List ByteArray) (l1 : List (S46)) (A0 : Option Addr) (c0 : Nat) (A1 : Option Addr) (c1 : Nat) (w : World) (g0 : (l0.length * 16 ≤ 140737488351232 ∧ l0.length ≤ 9223372036854775807 ∧ ∀ y_l0 ∈ l0, y_l0.size ≤ 140737488351232)) (g1 : (l1.length * 64 ≤ 140737488351232 ∧ l1.length ≤ 9223372036854775807 ∧ ∀ y_l1 ∈ l1, gS46 y_l1)) (g2 : ((l0.map fun z_l0 => (z_l0.size + 1)).sum + 1) + ((l1.map fun z_l1 => (bS46 z_l1)).sum + 1) ≤ 1048576) (hc0 : l0.length ≤ c0) (hr0 : Kd.C Kd.string w A0 l0.length l0) (hc1 : l1.length ≤ c1) (hr1 : Kd.C k46 w A1 l1.length l1) :
  Calls Try.prog 6 #[.slice A0 l0.length c0, .slice A1 l1.length c1] w fun e w' => e = .returned (.bool true) ∧ Below w.heap.size w w' := by
 obtain ⟨k, h⟩ := P l0 l1 g0 g1 g2
 refine (forebearlaw05_DiffApplies.calls k _ _ l0 (fun k_ => k_ < w.heap.size) _ _ l1 true w hr0 hc0 (Kd.V_mk hc1 (Kd.C_F k46_heap hr1)) h).mono ?_
 rintro e w' ⟨rfl, hd⟩
 exact ⟨rfl, hd⟩

end Go.Proofs.Ythigjlahanejjaa.MD
